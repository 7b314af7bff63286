/- Pages: arrays of 128 bytes, by value, whole: what loads, stores, copies and compares them. CRC-32, plain: bit by bit, four digits at once; another byte has another sum. CRC-32: the printed functions in plain words. crc.Sum and the reference's, by their contracts. Frames: pages in variables, parts of them turned; the frame's page, plain. A region that draws its order: the condition on the world may turn on the way. -/
import Derived.Test.YtmnkgcgmbdkjaaaDoorHA
import Derived.Deep.MidRow
import Derived.Deep.WholeRow
import Derived.Stop.BytesEq
import Derived.Laws.AppendOwn
import Derived.Maps.AppendAt
import Derived.Test.YtmnkgcgmbdkjaaaDoorPhalfx
import Derived.Test.YtmnkgcgmbdkjaaaDoorPSumx
import Derived.Laws.BitsAllLaws
import Derived.Lib.LazyBuf
import Derived.Test.YtmnkgcgmbdkjaaaDoorProg
import Derived.Deep.RegionHeld3
set_option linter.unusedVariables false
set_option linter.unusedSimpArgs false
namespace Go.Proofs.YtmnkgcgmbdkjaaaDoor
open Go.RowKit Go.Extern.Stop Go.Stop Go.Extern
set_option linter.unusedVariables false
set_option linter.unusedSimpArgs false

abbrev Pg := List UInt8
/-- a page's cells -/
def pv (p : Pg) : List Value := p.map cell
def zp : Pg := List.replicate 128 0
theorem pv_length (p : Pg) : (pv p).length = p.length := List.length_map _
theorem zp_length : zp.length = 128 := List.length_replicate
theorem pv_one (p : Pg) : ∀ v ∈ pv p, v.oneCell' = true := fun v hv => by
  obtain ⟨b, _, rfl⟩ := List.mem_map.1 hv; rfl
theorem info_pg : (Tryd.prog.info? 36).map (fun i => (i.zero, i.size)) = some (some (.agg (pv zp).toArray), 128) := by kernel_rfl
theorem zero_pg : ∀ w, (zeroValue 36).run Tryd.prog w = .ok (.agg (pv zp).toArray) w := (zero_of_info info_pg).1
theorem size_pg : (Tryd.prog.info? 36).map (·.size) = some 128 := (zero_of_info info_pg).2
theorem sizeOf_u8 : ∀ w, (sizeOf 5).run Tryd.prog w = .ok 1 w := fun w => by kernel_rfl
/-- the comparison of two pages -/
theorem eql_pg (w : World) (p q : Pg) (hp : p.length = 128) (hq : q.length = 128) : (binOp .eql 36 (.agg (pv p).toArray) (.agg (pv q).toArray)).run Tryd.prog w = .ok (.bool (p == q)) w :=
  run_eql_bytes w 36 5 128 Tryd.underlying36 Tryd.underlying5 sizeOf_u8 p q hp hq
theorem neq_pg (w : World) (p q : Pg) (hp : p.length = 128) (hq : q.length = 128) : (binOp .neq 36 (.agg (pv p).toArray) (.agg (pv q).toArray)).run Tryd.prog w = .ok (.bool (!(p == q))) w := by
  have h : (Op.equalIn 10000 36 (.agg (pv p).toArray) (.agg (pv q).toArray)).run Tryd.prog w = .ok (p == q) w := run_equalIn_bytes w 9998 36 5 128 Tryd.underlying36 Tryd.underlying5 sizeOf_u8 p q hp hq
  rw [run_neq_struct, h]
  rfl
theorem size_of {p : Pg} (hp : p.length = 128) : (Tryd.prog.info? 36).map (·.size) = some (pv p).length := by rw [size_pg, pv_length, hp]

variable {ops : Array Oper} {rest : List Oper} {op : Oper} {a : Act} {w : World} {Q : Exit → Act → World → Prop}
/-- guards for the walk's arms: the operation that stands next -/
theorem at_ld {P : Program} (ty : TypeId) (x : Operand) {d : Option Tmp} {t : TypeId} {s : String} {f : Array Edge} {g : Option (Nat × Bool)} (h : wpList P ops Q (⟨d, .load ty x, t, s, f, g⟩ :: rest) a w) : wpList P ops Q (⟨d, .load ty x, t, s, f, g⟩ :: rest) a w := h
theorem at_st {P : Program} (ty : TypeId) (x y : Operand) {d : Option Tmp} {t : TypeId} {s : String} {f : Array Edge} {g : Option (Nat × Bool)} (h : wpList P ops Q (⟨d, .store ty x y, t, s, f, g⟩ :: rest) a w) : wpList P ops Q (⟨d, .store ty x y, t, s, f, g⟩ :: rest) a w := h
theorem at_al {P : Program} (ty : TypeId) {d : Option Tmp} {t : TypeId} {s : String} {f : Array Edge} {g : Option (Nat × Bool)} (h : wpList P ops Q (⟨d, .alloc ty, t, s, f, g⟩ :: rest) a w) : wpList P ops Q (⟨d, .alloc ty, t, s, f, g⟩ :: rest) a w := h
/-- a page out of wherever it lies -/
theorem ld_pg (hgd : op.guard = none) (x : Operand) (ho : op.op = .load 36 x) (b o : Nat) (hx : a.eval x = .pointer (some ⟨b, o, none⟩)) (p : Pg) (hp : p.length = 128) (hc : w.rangeAt b o (pv p))
    (h : wpList Tryd.prog ops Q rest (a.put op.dst (.agg (pv p).toArray)) w) : wpList Tryd.prog ops Q (op :: rest) a w :=
  wpList_load_mid hgd 36 x ho b o hx (pv p) _ hc Tryd.underlying36 rfl (size_of hp) h
/-- a page into wherever there is room for one -/
theorem st_pg (hgd : op.guard = none) (x y : Operand) (ho : op.op = .store 36 x y) (b o : Nat) (hx : a.eval x = .pointer (some ⟨b, o, none⟩)) (p : Pg) (hp : p.length = 128) (hy : a.eval y = .agg (pv p).toArray) (ht : w.there b o 128)
    (h : wpList Tryd.prog ops Q rest (a.put op.dst undef) (w.setCells b o (pv p))) : wpList Tryd.prog ops Q (op :: rest) a w := by
  refine wpList_store_mid hgd 36 x y ho b o (pv p).toArray hx hy (by simpa [pv_length, hp] using ht) (by simpa using size_of hp) (all_oneCell_toArray (pv_one p)) ?_
  simpa using h
/-- a page into the variable that was made last -/
theorem st_new (hgd : op.guard = none) (x y : Operand) (ho : op.op = .store 36 x y) (w0 : World) (c : Array Value) (t : TypeId) (hw : w = w0.alloc (.cells c t)) (hx : a.eval x = .pointer (some ⟨w0.heap.size, 0, none⟩)) (p : Pg) (hp : p.length = 128) (hy : a.eval y = .agg (pv p).toArray) (hc : c.size = 128)
    (h : wpList Tryd.prog ops Q rest (a.put op.dst undef) (w0.alloc (.cells (pv p).toArray t))) : wpList Tryd.prog ops Q (op :: rest) a w := by
  subst hw
  refine wpList_plain hgd fun K hK => ?_
  unfold Oper.wp execOp
  simp only [ho, hx, hy, Instr.storeAt, Instr.sureAddr, Sem.run_bind, Sem.run_pure, Result.andThen_ok]
  rw [run_storeVar_row _ w0.heap.size t 36 c (pv p).toArray (heap_alloc_last w0 _) (by rw [size_pg]; simp [pv_length, hp]) (by simp [pv_length, hp, hc]) (all_oneCell_toArray (pv_one p)), World.setRow_alloc_new]
  exact hK _ _ h
/-- a new page variable -/
theorem al_pg (hgd : op.guard = none) (ho : op.op = .alloc 36) (h : wpList Tryd.prog ops Q rest (a.put op.dst (.pointer (some ⟨w.heap.size, 0, none⟩))) (w.alloc (.cells (pv zp).toArray 36))) : wpList Tryd.prog ops Q (op :: rest) a w := by
  refine wpList_plain hgd fun K hK => ?_
  unfold Oper.wp execOp
  simp only [ho, Instr.alloc, Sem.run_bind, zero_pg, Result.andThen_ok]
  exact hK _ _ h
theorem range_new (w : World) (p : Pg) (t : TypeId) : (w.alloc (.cells (pv p).toArray t)).rangeAt w.heap.size 0 (pv p) := fun j v hv => by
  rw [Nat.zero_add, cell_of_row _ _ j _ t (0, 0) (heap_alloc_last w _)]; simpa using hv
theorem there_new (w : World) (c : Array Value) (t : TypeId) (n : Nat) (hc : n ≤ c.size) : (w.alloc (.cells c t)).there w.heap.size 0 n := fun j hj => by
  rw [Nat.zero_add]
  exact ⟨by rw [cell_of_row _ _ j _ t (0, 0) (heap_alloc_last w _), Array.getElem?_eq_getElem (by omega)]; rfl, frozen_of_row _ _ j _ t (heap_alloc_last w _)⟩
/-! ### blocks that stay -/
/-- but for some blocks, and what is new, w' is w -/
structure Touch (S : Nat → Prop) (w w' : World) : Prop where
  os : w'.os = w.os
  tape : w'.tape = w.tape
  output : w'.output = w.output
  size : w.heap.size ≤ w'.heap.size
  block : ∀ k, k < w.heap.size → ¬ S k → w'.heap[k]? = w.heap[k]?
theorem Touch.refl (S : Nat → Prop) (w : World) : Touch S w w := ⟨rfl, rfl, rfl, Nat.le_refl _, fun _ _ _ => rfl⟩
theorem Touch.trans {S : Nat → Prop} {w w1 w2 : World} (h : Touch S w w1) (k : Touch S w1 w2) : Touch S w w2 :=
  ⟨k.os.trans h.os, k.tape.trans h.tape, k.output.trans h.output, Nat.le_trans h.size k.size, fun i hi hs => (k.block i (Nat.lt_of_lt_of_le hi h.size) hs).trans (h.block i hi hs)⟩
theorem Touch.mono {S S' : Nat → Prop} {w w1 : World} (h : Touch S w w1) (hs : ∀ k, S k → S' k) : Touch S' w w1 := ⟨h.os, h.tape, h.output, h.size, fun k hk hn => h.block k hk (fun q => hn (hs k q))⟩
/-- of what is new nothing need be said -/
theorem Touch.old {S S' : Nat → Prop} {w w1 : World} (h : Touch S w w1) (hs : ∀ k, k < w.heap.size → S k → S' k) : Touch S' w w1 := ⟨h.os, h.tape, h.output, h.size, fun k hk hn => h.block k hk (fun q => hn (hs k hk q))⟩
theorem Touch.of_below {S : Nat → Prop} {w w1 : World} (h : Below w.heap.size w w1) : Touch S w w1 := ⟨h.os, h.tape, h.output, h.size, fun k hk _ => h.block k hk⟩
theorem Touch.below {S : Nat → Prop} {w w1 : World} {B : Nat} (h : Touch S w w1) (hB : B ≤ w.heap.size) (hs : ∀ k, S k → B ≤ k) : Below B w w1 := ⟨h.os, h.tape, h.output, h.size, fun k hk => h.block k (Nat.lt_of_lt_of_le hk hB) (fun q => by have := hs k q; omega)⟩
theorem Touch.setCells {S : Nat → Prop} {w0 w : World} (h : Touch S w0 w) (b : Nat) (hb : S b ∨ w0.heap.size ≤ b) : ∀ (vs : List Value) (o : Nat) (w : World), Touch S w0 w → Touch S w0 (w.setCells b o vs)
  | [], _, _, h => h
  | v :: r, o, w, h => Touch.setCells h b hb r (o + 1) (w.setCell ⟨b, o, none⟩ v) ⟨h.os, h.tape, h.output, by rw [show (w.setCell ⟨b, o, none⟩ v).heap.size = w.heap.size by simp [World.setCell]]; exact h.size, fun k hk hn => (Below.heap_setCell w ⟨b, o, none⟩ v k (fun e => by subst e; rcases hb with hb | hb; exact hn hb; exact absurd hk (Nat.not_lt.2 hb))).trans (h.block k hk hn)⟩
theorem Touch.cell {S : Nat → Prop} {w w1 : World} (h : Touch S w w1) {p : Addr} {v : Value} (hc : w.cell? p = some v) (hn : ¬ S p.block) : w1.cell? p = some v :=
  (World.cell?_of_block (h.block p.block (cell_lt hc) hn)).trans hc
theorem Touch.range {S : Nat → Prop} {w w1 : World} (h : Touch S w w1) {b o : Nat} {cs : List Value} (hc : w.rangeAt b o cs) (hn : ¬ S b) : w1.rangeAt b o cs := fun j v hv => h.cell (hc j v hv) hn
theorem Touch.there {S : Nat → Prop} {w w1 : World} (h : Touch S w w1) {b o n : Nat} (hc : w.there b o n) (hn : ¬ S b) : w1.there b o n := fun j hj => by
  obtain ⟨h1, h2⟩ := hc j hj
  obtain ⟨u, hu⟩ := Option.isSome_iff_exists.1 h1
  exact ⟨by rw [h.cell hu hn]; rfl, by rw [World.frozen?_of_block (h.block b (cell_lt hu) hn)]; exact h2⟩
end Go.Proofs.YtmnkgcgmbdkjaaaDoor
namespace Go.Proofs.YtmnkgcgmbdkjaaaDoor.Crc
/-- a bit's step of the sum -/
def stp (n : Nat) : Nat := (n / 2) ^^^ (if n % 2 = 1 then 3988292384 else 0)
def stpN : Nat → Nat → Nat
  | 0, n => n
  | k + 1, n => stpN k (stp n)
theorem xor_half (a b : Nat) : (a ^^^ b) / 2 = (a / 2) ^^^ (b / 2) := Nat.xor_div_two
theorem xor_odd (a b : Nat) : (a ^^^ b) % 2 = (a % 2 + b % 2) % 2 := by
  have h := Nat.testBit_xor a b 0
  simp only [Nat.testBit_zero] at h
  rcases Nat.mod_two_eq_zero_or_one a with ha | ha <;> rcases Nat.mod_two_eq_zero_or_one b with hb | hb <;> rcases Nat.mod_two_eq_zero_or_one (a ^^^ b) with hc | hc <;> simp [ha, hb, hc] at h ⊢
theorem stp_xor (a b : Nat) : stp (a ^^^ b) = stp a ^^^ stp b := by
  unfold stp
  rw [xor_half, xor_odd]
  rcases Nat.mod_two_eq_zero_or_one a with ha | ha <;> rcases Nat.mod_two_eq_zero_or_one b with hb | hb
  · simp [ha, hb]
  · simp [ha, hb, Nat.xor_assoc]
  · simp only [ha, hb]
    simp only [Nat.reduceAdd, Nat.reduceMod, if_true, if_false, Nat.zero_ne_one, Nat.xor_zero]
    ac_rfl
  · simp only [ha, hb]
    simp only [Nat.reduceAdd, Nat.reduceMod, if_true, if_false, Nat.zero_ne_one, Nat.xor_zero]
    rw [show ∀ x y z : Nat, (x ^^^ z) ^^^ (y ^^^ z) = x ^^^ y ^^^ (z ^^^ z) from fun x y z => by ac_rfl, Nat.xor_self, Nat.xor_zero]
theorem stpN_xor (k : Nat) : ∀ a b, stpN k (a ^^^ b) = stpN k a ^^^ stpN k b := by
  induction k with
  | zero => intro a b; rfl
  | succ k ih => intro a b; rw [stpN, stp_xor, ih]; rfl
theorem stp_even (m : Nat) : stp (2 * m) = m := by
  unfold stp
  rw [if_neg (by omega), Nat.xor_zero]; omega
theorem stpN_shift (k : Nat) : ∀ m, stpN k (2 ^ k * m) = m := by
  induction k with
  | zero => intro m; simp [stpN]
  | succ k ih =>
    intro m
    rw [stpN, show 2 ^ (k + 1) * m = 2 * (2 ^ k * m) by rw [Nat.pow_succ]; ac_rfl, stp_even, ih]
theorem split_xor (k h l : Nat) (hl : l < 2 ^ k) : 2 ^ k * h + l = (2 ^ k * h) ^^^ l := by
  apply Nat.eq_of_testBit_eq
  intro i
  rw [Nat.testBit_xor, Nat.testBit_two_pow_mul_add _ hl]
  by_cases hi : i < k
  · rw [if_pos hi]
    have : (2 ^ k * h).testBit i = false := by
      rw [Nat.mul_comm, Nat.testBit_mul_two_pow]; simp; omega
    rw [this]; simp
  · rw [if_neg hi]
    have h2 : l.testBit i = false := Nat.testBit_lt_two_pow (Nat.lt_of_lt_of_le hl (Nat.pow_le_pow_right (by omega) (by omega)))
    rw [h2, Nat.mul_comm, Nat.testBit_mul_two_pow]
    simp; omega
/-- four digits at once -/
theorem nib (r : Nat) : stpN 4 r = (r / 16) ^^^ stpN 4 (r % 16) := by
  have e : r = 2 ^ 4 * (r / 16) + r % 16 := by omega
  have h := split_xor 4 (r / 16) (r % 16) (by omega)
  rw [← e] at h
  conv => lhs; rw [h]
  rw [stpN_xor, stpN_shift]
theorem stpN_add (a b : Nat) : ∀ r, stpN (a + b) r = stpN b (stpN a r) := by
  induction a with
  | zero => intro r; rw [Nat.zero_add]; rfl
  | succ a ih => intro r; rw [show a + 1 + b = (a + b) + 1 by omega, stpN, ih]; rfl
theorem stp_lt {n : Nat} (h : n < 4294967296) : stp n < 4294967296 := by
  unfold stp
  have h1 : n / 2 < 2 ^ 32 := by omega
  have h2 : (if n % 2 = 1 then 3988292384 else 0) < 2 ^ 32 := by split <;> omega
  exact Nat.xor_lt_two_pow h1 h2
theorem stpN_lt (k : Nat) : ∀ {n : Nat}, n < 4294967296 → stpN k n < 4294967296 := by
  induction k with
  | zero => intro n h; exact h
  | succ k ih => intro n h; exact ih (stp_lt h)
theorem xor_cancel {a b c : Nat} (h : a ^^^ c = b ^^^ c) : a = b := by
  have := congrArg (· ^^^ c) h
  simpa [Nat.xor_assoc] using this
theorem stp_inj {a b : Nat} (ha : a < 4294967296) (hb : b < 4294967296) (h : stp a = stp b) : a = b := by
  have top : ∀ n, n < 4294967296 → (stp n).testBit 31 = decide (n % 2 = 1) := fun n hn => by
    unfold stp
    rw [Nat.testBit_xor]
    have h1 : (n / 2).testBit 31 = false := Nat.testBit_lt_two_pow (by omega)
    rw [h1]
    split
    · rename_i hh; simp [hh]; decide
    · rename_i hh; simp [hh]
  have e : decide (a % 2 = 1) = decide (b % 2 = 1) := by rw [← top a ha, ← top b hb, h]
  have e2 : a % 2 = b % 2 := by
    rcases Nat.mod_two_eq_zero_or_one a with ha | ha <;> rcases Nat.mod_two_eq_zero_or_one b with hb | hb <;> simp [ha, hb] at e ⊢
  unfold stp at h
  rw [e2] at h
  have := xor_cancel h
  omega
theorem stpN_inj (k : Nat) : ∀ {a b : Nat}, a < 4294967296 → b < 4294967296 → stpN k a = stpN k b → a = b := by
  induction k with
  | zero => intro a b _ _ h; exact h
  | succ k ih => intro a b ha hb h; exact stp_inj ha hb (ih (stp_lt ha) (stp_lt hb) h)
/-- a byte's step -/
def byteS (r b : Nat) : Nat := stpN 8 (r ^^^ b)
def sumTo (r : Nat) (l : List Nat) : Nat := l.foldl byteS r
/-- the sum of bytes -/
def sumN (l : List Nat) : Nat := sumTo 4294967295 l ^^^ 4294967295
theorem byteS_lt {r b : Nat} (h : r < 4294967296) (hb : b < 256) : byteS r b < 4294967296 :=
  stpN_lt 8 (Nat.xor_lt_two_pow (n := 32) (by omega) (by omega))
theorem sumTo_lt : ∀ (l : List Nat) {r : Nat}, r < 4294967296 → (∀ b ∈ l, b < 256) → sumTo r l < 4294967296
  | [], _, h, _ => h
  | b :: l, _, h, hl => sumTo_lt l (byteS_lt h (hl b List.mem_cons_self)) (fun c hc => hl c (List.mem_cons_of_mem _ hc))
theorem sumTo_inj : ∀ (l : List Nat) {r r' : Nat}, r < 4294967296 → r' < 4294967296 → (∀ b ∈ l, b < 256) → sumTo r l = sumTo r' l → r = r'
  | [], _, _, _, _, _, h => h
  | b :: l, r, r', h1, h2, hl, h => by
    have hb := hl b List.mem_cons_self
    have := sumTo_inj l (byteS_lt h1 hb) (byteS_lt h2 hb) (fun c hc => hl c (List.mem_cons_of_mem _ hc)) h
    exact xor_cancel (stpN_inj 8 (Nat.xor_lt_two_pow (n := 32) (by omega) (by omega)) (Nat.xor_lt_two_pow (n := 32) (by omega) (by omega)) this)
/-- another byte, another sum -/
theorem sum_byte (p q : List Nat) (b c : Nat) (hp : ∀ x ∈ p, x < 256) (hq : ∀ x ∈ q, x < 256) (hb : b < 256) (hc : c < 256) (h : sumN (p ++ b :: q) = sumN (p ++ c :: q)) : b = c := by
  have h1 := xor_cancel h
  unfold sumTo at h1
  rw [List.foldl_append, List.foldl_append, List.foldl_cons, List.foldl_cons] at h1
  have hr := sumTo_lt p (r := 4294967295) (by omega) hp
  have h2 := sumTo_inj q (byteS_lt hr hb) (byteS_lt hr hc) hq h1
  have h3 := stpN_inj 8 (Nat.xor_lt_two_pow (n := 32) (by omega) (by omega)) (Nat.xor_lt_two_pow (n := 32) (by omega) (by omega)) h2
  rw [Nat.xor_comm _ b, Nat.xor_comm _ c] at h3
  exact xor_cancel h3
end Go.Proofs.YtmnkgcgmbdkjaaaDoor.Crc
namespace Go.Proofs.YtmnkgcgmbdkjaaaDoor
open Go.RowKit Go.Proofs.YtmnkgcgmbdkjaaaDoorW.PrintWords Go.Proofs.YtmnkgcgmbdkjaaaDoorW.PrintLast Go.Proofs.YtmnkgcgmbdkjaaaDoorW.PrintMore
set_option linter.unusedVariables false
set_option linter.unusedSimpArgs false

/-- a text's bytes -/
def byl (s : ByteArray) : List Nat := s.data.toList.map UInt8.toNat
theorem byl_lt (s : ByteArray) : ∀ b ∈ byl s, b < 256 := fun b hb => by
  obtain ⟨x, _, rfl⟩ := List.mem_map.1 hb
  exact x.toNat_lt
theorem byl_length (s : ByteArray) : (byl s).length = s.size := by simp [byl]
theorem byl_at (s : ByteArray) (i : Nat) (h : i < s.size) : bt s (i : Int) = ((byl s)[i]'(by rw [byl_length]; exact h) : Nat) := by
  have e : bt s (i : Int) = ((s[i]'h).toNat : Int) := by
    unfold bt
    simp [h]
  rw [e]
  simp [byl, ByteArray.getElem_eq_getElem_data]
theorem and_one (x : Int) (h0 : 0 ≤ x) (h1 : x < 4294967296) : Go.bits .and .u32 x 1 = x % 2 := by
  have := u32_and x 1 h0 h1 (by omega) (by omega)
  rw [this]
  have e : ((1 : Int).toNat) = 1 := rfl
  rw [e, Nat.and_one_is_mod]
  omega
theorem half_step (n : Nat) (h : n < 4294967296) : Go.bits .xor .u32 ((n : Int) / 2) ((3988292384 * (Go.bits .and .u32 (n : Int) 1)) % 4294967296) = (Crc.stp n : Nat) := by
  rw [and_one _ (by omega) (by omega)]
  have e2 : (n : Int) / 2 = ((n / 2 : Nat) : Int) := by omega
  unfold Crc.stp
  by_cases h2 : n % 2 = 1
  · have m : (n : Int) % 2 = 1 := by omega
    have c : Go.bits .xor .u32 ((n / 2 : Nat) : Int) 3988292384 = ((n / 2 ^^^ 3988292384 : Nat) : Int) := u32_xor_nat (n / 2) 3988292384 (by omega) (by omega)
    have q : (3988292384 * (1 : Int)) % 4294967296 = 3988292384 := by decide
    rw [m, e2, q, c, if_pos h2]
  · have m : (n : Int) % 2 = 0 := by omega
    have c : Go.bits .xor .u32 ((n / 2 : Nat) : Int) 0 = ((n / 2 ^^^ 0 : Nat) : Int) := u32_xor_nat (n / 2) 0 (by omega) (by omega)
    have q : (3988292384 * (0 : Int)) % 4294967296 = 0 := by decide
    rw [m, e2, q, c, if_neg h2]
theorem half_f (n : Nat) (h : n < 4294967296) : Phalf.crc_half.f 5 (n : Int) = some ((Crc.stpN 4 n : Nat) : Int) := by
  have h1 := Crc.stp_lt h
  have h2 := Crc.stp_lt h1
  have h3 := Crc.stp_lt h2
  have w0 : wrap64 ((0 : Int) + 1) = 1 := by unfold wrap64; omega
  have w1 : wrap64 ((1 : Int) + 1) = 2 := by unfold wrap64; omega
  have w2 : wrap64 ((2 : Int) + 1) = 3 := by unfold wrap64; omega
  have w3 : wrap64 ((3 : Int) + 1) = 4 := by unfold wrap64; omega
  unfold Phalf.crc_half.f
  rw [Phalf.crc_half.l0, if_pos (by omega), half_step n h, w0, Phalf.crc_half.l0, if_pos (by omega), half_step _ h1, w1, Phalf.crc_half.l0, if_pos (by omega), half_step _ h2, w2, Phalf.crc_half.l0, if_pos (by omega), half_step _ h3, w3, Phalf.crc_half.l0, if_neg (by omega)]
  rfl
theorem not32 (n : Nat) (h : n < 4294967296) : n ^^^ 4294967295 = 4294967295 - n := by
  have e := congrArg BitVec.toNat (BitVec.xor_allOnes (x := BitVec.ofNat 32 n))
  rw [BitVec.toNat_xor, BitVec.toNat_not, BitVec.toNat_ofNat, BitVec.toNat_allOnes, Nat.mod_eq_of_lt (by omega)] at e
  exact e
/-- a bit of the reference's sum -/
theorem ref_step (n : Nat) (h : n < 4294967296) (k : Nat) (s : ByteArray) (i : Int) (j : Nat) (hj : j < 8) : PSum.dynamoref02_Sum.l1 (k + 1) s (n : Int) i (j : Int) = PSum.dynamoref02_Sum.l1 k s ((Crc.stp n : Nat) : Int) i ((j + 1 : Nat) : Int) := by
  have wj : wrap64 ((j : Int) + 1) = ((j + 1 : Nat) : Int) := by unfold wrap64; omega
  have e1 : Int.tmod (n : Int) 2 = ((n % 2 : Nat) : Int) := by rw [Int.tmod_eq_emod_of_nonneg (by omega)]; omega
  have e2 : (Int.tdiv (n : Int) 2) % 4294967296 = ((n / 2 : Nat) : Int) := by rw [Int.tdiv_eq_ediv_of_nonneg (by omega)]; omega
  rw [PSum.dynamoref02_Sum.l1, if_pos (by omega), e1, e2, wj]
  unfold Crc.stp
  by_cases h2 : n % 2 = 1
  · have c : Go.bits .xor .u32 ((n / 2 : Nat) : Int) 3988292384 = ((n / 2 ^^^ 3988292384 : Nat) : Int) := u32_xor_nat (n / 2) 3988292384 (by omega) (by omega)
    rw [if_pos (by omega), if_pos h2, c]
  · rw [if_neg (by omega), if_neg h2, Nat.xor_zero]
theorem ref_byte (n : Nat) (h : n < 4294967296) (k : Nat) (s : ByteArray) (i : Int) : PSum.dynamoref02_Sum.l1 (k + 9) s (n : Int) i 0 = PSum.dynamoref02_Sum.l0 k s ((Crc.stpN 8 n : Nat) : Int) (wrap64 (i + 1)) := by
  have h1 := Crc.stp_lt h
  have h2 := Crc.stp_lt h1
  have h3 := Crc.stp_lt h2
  have h4 := Crc.stp_lt h3
  have h5 := Crc.stp_lt h4
  have h6 := Crc.stp_lt h5
  have h7 := Crc.stp_lt h6
  have e0 : (0 : Int) = ((0 : Nat) : Int) := rfl
  rw [e0, ref_step _ h _ _ _ 0 (by omega), ref_step _ h1 _ _ _ 1 (by omega), ref_step _ h2 _ _ _ 2 (by omega), ref_step _ h3 _ _ _ 3 (by omega), ref_step _ h4 _ _ _ 4 (by omega), ref_step _ h5 _ _ _ 5 (by omega), ref_step _ h6 _ _ _ 6 (by omega), ref_step _ h7 _ _ _ 7 (by omega), PSum.dynamoref02_Sum.l1, if_neg (by omega)]
  rfl
theorem ref_loop (s : ByteArray) (hs : s.size ≤ 9223372036854775806) : ∀ (d i n : Nat), i + d = s.size → n < 4294967296 → PSum.dynamoref02_Sum.l0 (10 * d + 1) s (n : Int) (i : Int) = some ((4294967295 - ((Crc.sumTo n ((byl s).drop i) : Nat) : Int)) % 4294967296)
  | 0, i, n, hi, hn => by
    rw [PSum.dynamoref02_Sum.l0, if_neg (by omega), List.drop_eq_nil_of_le (by rw [byl_length]; omega)]
    rfl
  | d + 1, i, n, hi, hn => by
    have hlt : i < s.size := by omega
    have hb := byl_at s i hlt
    have hbl : (byl s)[i]'(by rw [byl_length]; exact hlt) < 256 := byl_lt s _ (List.getElem_mem _)
    have wi : wrap64 ((i : Int) + 1) = ((i + 1 : Nat) : Int) := by unfold wrap64; omega
    have e : (bt s (i : Int)) % 4294967296 = (((byl s)[i]'(by rw [byl_length]; exact hlt) : Nat) : Int) := by rw [hb]; omega
    rw [show 10 * (d + 1) + 1 = (10 * d + 1 + 9) + 1 by omega, PSum.dynamoref02_Sum.l0, if_pos (by omega), if_pos (by omega), e, u32_xor_nat _ _ hn (by omega), ref_byte _ (Nat.xor_lt_two_pow (n := 32) hn (by omega)), wi, ref_loop s hs d (i + 1) _ (by omega) (Crc.stpN_lt 8 (Nat.xor_lt_two_pow (n := 32) hn (by omega)))]
    have hd : (byl s).drop i = (byl s)[i]'(by rw [byl_length]; exact hlt) :: (byl s).drop (i + 1) := List.drop_eq_getElem_cons (by rw [byl_length]; exact hlt)
    rw [hd]
    rfl
theorem ref_sum (s : ByteArray) (hs : s.size ≤ 9223372036854775806) : PSum.dynamoref02_Sum.f (10 * s.size + 1) s = some ((Crc.sumN (byl s) : Nat) : Int) := by
  have h := ref_loop s hs s.size 0 4294967295 (by omega) (by omega)
  have hlt := Crc.sumTo_lt (byl s) (r := 4294967295) (by omega) (byl_lt s)
  unfold PSum.dynamoref02_Sum.f
  rw [List.drop_zero, show ((4294967295 : Nat) : Int) = 4294967295 from rfl, show ((0 : Nat) : Int) = 0 from rfl] at h
  have e : (4294967295 - ((Crc.sumTo 4294967295 (byl s) : Nat) : Int)) % 4294967296 = ((Crc.sumN (byl s) : Nat) : Int) := by
    unfold Crc.sumN
    rw [not32 _ hlt]
    omega
  rw [e] at h
  exact h
end Go.Proofs.YtmnkgcgmbdkjaaaDoor
namespace Go.Proofs.YtmnkgcgmbdkjaaaDoor
open Go.RowKit Go.Extern.Stop Go.Stop Go.Extern Go.Proofs.YtmnkgcgmbdkjaaaDoorW.PrintWords Go.Proofs.YtmnkgcgmbdkjaaaDoorW.PrintLast Go.Proofs.YtmnkgcgmbdkjaaaDoorW.PrintMore
set_option linter.unusedVariables false
set_option linter.unusedSimpArgs false

theorem refsum_any (s : ByteArray) (hs : s.size ≤ 9223372036854775806) (W : World) : Calls Tryd.prog 37 #[.string s] W fun e w' => e = .returned (.int .u32 ((Crc.sumN (byl s) : Nat) : Int)) ∧ Below W.heap.size W w' :=
  (PSum.dynamoref02_Sum.calls _ s _ W (ref_sum s hs)).mono fun _ _ ⟨he, hd⟩ => ⟨he, hd.below⟩
theorem half_any (n : Nat) (h : n < 4294967296) (W : World) : Calls Tryd.prog 105 #[.int .u32 (n : Int)] W fun e w' => e = .returned (.int .u32 ((Crc.stpN 4 n : Nat) : Int)) ∧ Below W.heap.size W w' :=
  (Phalf.crc_half.calls 5 _ _ W (half_f n h)).mono fun _ _ ⟨he, hd⟩ => ⟨he, hd.below⟩
/-- the table's cells, the first k of them laid -/
def wv (k : Nat) : List Value := (List.range 16).map fun i => .int .u32 (if i < k then ((Crc.stpN 4 i : Nat) : Int) else 0)
theorem wv_length (k : Nat) : (wv k).length = 16 := by simp [wv]
theorem wv_one (k : Nat) : (wv k).toArray.all (·.oneCell') = true := by simp [wv, Value.oneCell']
theorem wv_zero : (wv 0).toArray = #[.int .u32 0, .int .u32 0, .int .u32 0, .int .u32 0, .int .u32 0, .int .u32 0, .int .u32 0, .int .u32 0, .int .u32 0, .int .u32 0, .int .u32 0, .int .u32 0, .int .u32 0, .int .u32 0, .int .u32 0, .int .u32 0] := by kernel_rfl
theorem wv_at (k i : Nat) (h : i < 16) : (wv k)[i]? = some (.int .u32 (if i < k then ((Crc.stpN 4 i : Nat) : Int) else 0)) := by simp [wv, h]
structure Tab (W : World) (b k : Nat) : Prop where
  r : W.rangeAt b 0 (wv k)
  t : W.there b 0 16
theorem Tab.under {W W' : World} {b k n : Nat} (h : Tab W b k) (hb : Below n W W') (hn : b < n) : Tab W' b k :=
  ⟨fun j v hv => (hb.cell (p := ⟨b, 0 + j, none⟩) hn).trans (h.r j v hv), fun j hj => ⟨by rw [hb.cell (p := ⟨b, 0 + j, none⟩) hn]; exact (h.t j hj).1, by rw [hb.frozen (p := ⟨b, 0 + j, none⟩) hn]; exact (h.t j hj).2⟩⟩
theorem Tab.cell {W : World} {b k : Nat} (h : Tab W b k) (i : Nat) (hi : i < 16) : W.cell? ⟨b, i, none⟩ = some (.int .u32 (if i < k then ((Crc.stpN 4 i : Nat) : Int) else 0)) := by
  have := h.r i _ (wv_at k i hi)
  rwa [Nat.zero_add] at this
theorem Tab.free {W : World} {b k : Nat} (h : Tab W b k) (i : Nat) (hi : i < 16) : W.frozen? ⟨b, i, none⟩ = false := by
  have := (h.t i hi).2
  rwa [Nat.zero_add] at this
theorem Tab.put {W : World} {b k : Nat} (h : Tab W b k) (hk : k < 16) : Tab (W.setCell ⟨b, k, none⟩ (.int .u32 ((Crc.stpN 4 k : Nat) : Int))) b (k + 1) := by
  refine ⟨fun j v hv => ?_, fun j hj => ?_⟩
  · have hj : j < 16 := by
      have := (List.getElem?_eq_some_iff.1 hv).1
      rwa [wv_length] at this
    rw [wv_at _ j hj] at hv
    rw [Nat.zero_add]
    by_cases e : j = k
    · subst e
      rw [World.cell?_setCell_same _ _ _ (h.cell j hj)]
      rw [if_pos (by omega)] at hv
      exact hv
    · rw [World.cell?_setCell_other _ _ _ _ (by simp [e]), h.cell j hj]
      have e2 : (if j < k + 1 then ((Crc.stpN 4 j : Nat) : Int) else 0) = (if j < k then ((Crc.stpN 4 j : Nat) : Int) else 0) := by
        by_cases c : j < k
        · rw [if_pos c, if_pos (by omega)]
        · rw [if_neg c, if_neg (by omega)]
      rw [e2] at hv
      exact hv
  · obtain ⟨h1, h2⟩ := h.t j hj
    rw [Nat.zero_add] at h1 h2 ⊢
    refine ⟨?_, by rw [World.frozen?_setCell]; exact h2⟩
    by_cases e : j = k
    · subst e
      rw [World.cell?_setCell_same _ _ _ (h.cell j hj)]; rfl
    · rw [World.cell?_setCell_other _ _ _ _ (by simp [e])]; exact h1
theorem Tab.new (W : World) (t : TypeId) (k : Nat) : Tab (W.alloc (.cells (wv k).toArray t)) W.heap.size k := by
  refine ⟨fun j v hv => ?_, there_new W _ t 16 (by simp [wv_length])⟩
  rw [Nat.zero_add, cell_of_row _ _ j _ t (0, 0) (heap_alloc_last W _)]
  simpa using hv
theorem results_one {P : Program} {fn : Func} {p : Tmp} {ty : TypeId} (h : fn.results = #[.cell p ty]) (tmps : Array Value) (w : World) (x : Addr) (cs : Array Value)
    (hp : tmps.getD p undef = .pointer (some x)) (hl : (loadVar ty x).run P w = .ok (.agg cs) w) : (results fn tmps).run P w = .ok (.agg cs) w := by
  have hp' : tmps[p]?.getD undef = .pointer (some x) := by simpa using hp
  simp [results, h, hp', asAddr, hl]
theorem below_cells : ∀ (vs : List Value) (W : World) (b o B : Nat), B ≤ b → Below B W (W.setCells b o vs)
  | [], _, _, _, _, _ => Below.refl _ _
  | v :: r, W, b, o, B, h => (Below.setCell (Below.refl _ _) h v).trans (below_cells r _ b (o + 1) B h)
/-- a row into the variable that was made last -/
theorem st_top {P : Program} {ops : Array Oper} {rest : List Oper} {op : Oper} {a : Act} {w : World} {Q : Exit → Act → World → Prop} (hgd : op.guard = none) (ty : TypeId) (x y : Operand) (ho : op.op = .store ty x y) (w0 : World) (c : Array Value) (t : TypeId) (hw : w = w0.alloc (.cells c t)) (hx : a.eval x = .pointer (some ⟨w0.heap.size, 0, none⟩)) (cells : Array Value) (hy : a.eval y = .agg cells) (hc : c.size = cells.size)
    (hi : (P.info? ty).map (·.size) = some cells.size) (h1 : cells.all (·.oneCell') = true) (h : wpList P ops Q rest (a.put op.dst undef) (w0.alloc (.cells cells t))) : wpList P ops Q (op :: rest) a w := by
  subst hw
  refine wpList_plain hgd fun K hK => ?_
  unfold Oper.wp execOp
  simp only [ho, hx, hy, Instr.storeAt, Instr.sureAddr, Sem.run_bind, Sem.run_pure, Result.andThen_ok]
  rw [run_storeVar_row _ w0.heap.size t ty c cells (heap_alloc_last w0 _) hi (by omega) h1, World.setRow_alloc_new]
  exact hK _ _ h
theorem size_tab : (Tryd.prog.info? 176).map (·.size) = some 16 := by kernel_rfl
set_option maxHeartbeats 1000000 in
set_option maxRecDepth 100000 in
theorem words_any (w : World) : Calls Tryd.prog 103 #[] w fun e w' => e = .returned (.agg (wv 16).toArray) ∧ Below w.heap.size w w' := by
  have hz := wv_zero
  go_enter Tryd.func103, Tryd.ntmps103
  go_wp2_with fail
  rw [← hz]
  go_loopw [3] (fun i wl => ∃ k : Nat, k ≤ 16 ∧ i = .int .i64 k ∧ Hid (Tab wl (w.heap.size + 1) k) ∧ Hid (wl.there w.heap.size 0 16) ∧ Hid (Below w.heap.size w wl)) (fun i _ => 16 - (intOf i).toNat)
  case atStart =>
    have e1 : (w.alloc (.cells (wv 0).toArray 176)).heap.size = w.heap.size + 1 := by simp
    refine ⟨0, by omega, rfl, Lib.hid ?_, Lib.hid ?_, Lib.hid (((Below.refl _ _).alloc (Nat.le_refl _) _).alloc (by simp) _)⟩
    · have := Tab.new (w.alloc (.cells (wv 0).toArray 176)) 176 0
      rw [e1] at this
      exact this
    · exact ((Tab.new w 176 0).under ((Below.refl (w.alloc (.cells (wv 0).toArray 176)).heap.size _).alloc (Nat.le_refl _) _) (by simp)).t
  case round =>
    obtain ⟨k, hk, rfl, HT, HR, HB⟩ := hrel
    have hl : w.heap.size + 1 < wr.heap.size := cell_lt (HT.out.cell 0 (by omega))
    by_cases hlt : k < 16
    · have hi : (k : Int) < 16 := by omega
      have wk : IntKind.u32.wrap (k : Int) = (k : Int) := by simp [IntKind.wrap, IntKind.bits, IntKind.signed]; omega
      go_wp2_with fail
      refine (half_any k (by omega) _).mono ?_
      rintro e w2 ⟨rfl, hb⟩
      have HT2 := Lib.hid (HT.out.under hb hl)
      have HR2 : Hid (w2.there w.heap.size 0 16) := Lib.hid (fun j hj => ⟨by rw [hb.cell (p := ⟨w.heap.size, 0 + j, none⟩) (by simp; omega)]; exact (HR.out j hj).1, by rw [hb.frozen (p := ⟨w.heap.size, 0 + j, none⟩) (by simp; omega)]; exact (HR.out j hj).2⟩)
      have HB2 := Lib.hid (HB.out.trans (hb.mono HB.out.size))
      have xk := HT2.out.cell k hlt
      have fk := HT2.out.free k hlt
      clear hb
      go_wp2_with fail
      go_roundw
      case measure => simp [intOf]; omega
      case rel => exact ⟨k + 1, by omega, by go_num, Lib.hid (HT2.out.put hlt), Lib.hid (World.there_setCells HR2.out (w.heap.size + 1) k [_]), Lib.hid (HB2.out.setCell (by simp) _)⟩
    · obtain rfl : k = 16 := by omega
      have hi : ¬ ((16 : Nat) : Int) < 16 := by omega
      go_wp2_with (first | ((with_reducible refine at_ld 176 (.tmp 1) ?_); refine wpList_load_mid rfl 176 _ rfl (w.heap.size + 1) 0 rfl (wv 16) _ HT.out.r Tryd.underlying176 rfl (by rw [size_tab, wv_length]) ?_) | ((with_reducible refine at_st 176 (.tmp 0) (.tmp 12) ?_); refine wpList_store_mid rfl 176 _ _ rfl w.heap.size 0 (wv 16).toArray rfl rfl (by simpa [wv_length] using HR.out) (by rw [size_tab]; simp [wv_length]) (wv_one 16) ?_))
      have hld := run_loadVar_mid (P := Tryd.prog) (wr.setCells w.heap.size 0 (wv 16)) w.heap.size 0 176 (wv 16) _ (World.rangeAt_setCells_same wr _ _ _ (by rw [wv_length]; exact HR.out)) Tryd.underlying176 rfl (by rw [size_tab, wv_length])
      exact bodyPost_ret (v := .agg (wv 16).toArray) (results_one Tryd.results103 _ _ _ _ rfl hld) rfl ⟨rfl, HB.out.trans (below_cells _ _ _ _ _ (Nat.le_refl _))⟩
theorem nib_bits (x : Nat) (h : x < 4294967296) : bits .xor .u32 ((x : Int) / 16) ((Crc.stpN 4 (x % 16) : Nat) : Int) = ((Crc.stpN 4 x : Nat) : Int) := by
  have e : (x : Int) / 16 = ((x / 16 : Nat) : Int) := by omega
  rw [e, u32_xor_nat _ _ (by omega) (Crc.stpN_lt 4 (by omega)), Crc.nib x]
set_option maxHeartbeats 1000000 in
set_option maxRecDepth 100000 in
theorem sum_any (s : ByteArray) (hs : s.size ≤ 9223372036854775806) (w : World) : Calls Tryd.prog 78 #[.string s] w fun e w' => e = .returned (.int .u32 ((Crc.sumN (byl s) : Nat) : Int)) ∧ Below w.heap.size w w' := by
  have HS := Lib.hid hs
  clear hs
  go_enter Tryd.func78, Tryd.ntmps78
  go_wp2_with (go_at_call 97; go_in)
  refine (words_any _).mono ?_
  rintro e w1 ⟨rfl, hb⟩
  have HB1 := Lib.hid hb
  clear hb
  go_wp2_with ((with_reducible refine at_st 176 (.tmp 5) (.tmp 8) ?_); refine st_top rfl 176 _ _ rfl _ _ _ rfl rfl _ rfl (by simp [wv_length]) (by rw [size_tab]; simp [wv_length]) (wv_one 16) ?_)
  have hx0 : bits .xor .u32 0 4294967295 = 4294967295 := by kernel_rfl
  go_loopw [6, 13] (fun r i wl => ∃ k : Nat, k ≤ s.size ∧ i = .int .i64 k ∧ r = .int .u32 ((Crc.sumTo 4294967295 ((byl s).take k) : Nat) : Int) ∧ Hid (Tab wl w1.heap.size 16) ∧ Hid (Below w.heap.size w wl)) (fun _ i _ => s.size - (intOf i).toNat)
  case atStart => exact ⟨0, by omega, rfl, by simp [hx0, Crc.sumTo], Lib.hid (Tab.new _ _ _), Lib.hid (HB1.out.trans (((Below.refl _ _).alloc (Nat.le_refl _) _).mono HB1.out.size))⟩
  case round =>
    obtain ⟨k, hk, rfl, rfl, HT, HB⟩ := hrel
    have hs2 := HS.out
    by_cases hlt : k < s.size
    · have hi : (k : Int) < (s.size : Int) := by omega
      have hR := Crc.sumTo_lt ((byl s).take k) (r := 4294967295) (by omega) (fun b hb => byl_lt s b (List.mem_of_mem_take hb))
      have hbl : (byl s)[k]'(by rw [byl_length]; exact hlt) < 256 := byl_lt s _ (List.getElem_mem _)
      have hbe : ((s[k]'hlt).toNat : Int) % 4294967296 = (((byl s)[k]'(by rw [byl_length]; exact hlt) : Nat) : Int) := by
        have : (byl s)[k]'(by rw [byl_length]; exact hlt) = (s[k]'hlt).toNat := by simp [byl, ByteArray.getElem_eq_getElem_data]
        rw [← this]; omega
      have hnext : Crc.sumTo 4294967295 ((byl s).take (k + 1)) = Crc.stpN 4 (Crc.stpN 4 (Crc.sumTo 4294967295 ((byl s).take k) ^^^ (byl s)[k]'(by rw [byl_length]; exact hlt))) := by
        rw [List.take_add_one, List.getElem?_eq_getElem (by rw [byl_length]; exact hlt)]
        show Crc.sumTo 4294967295 ((byl s).take k ++ [_]) = _
        unfold Crc.sumTo
        rw [List.foldl_append]
        show Crc.stpN 8 _ = _
        rw [show (8 : Nat) = 4 + 4 from rfl, Crc.stpN_add]
      have hx : Crc.sumTo 4294967295 ((byl s).take k) ^^^ (byl s)[k]'(by rw [byl_length]; exact hlt) < 4294967296 := Nat.xor_lt_two_pow (n := 32) hR (by omega)
      have h0 : bits .xor .u32 ((Crc.sumTo 4294967295 ((byl s).take k) : Nat) : Int) (((s[k]'hlt).toNat : Int) % 4294967296) = ((Crc.sumTo 4294967295 ((byl s).take k) ^^^ (byl s)[k]'(by rw [byl_length]; exact hlt) : Nat) : Int) := by
        rw [hbe, u32_xor_nat _ _ hR (by omega)]
      obtain ⟨x, hxe⟩ : ∃ x, x = Crc.sumTo 4294967295 ((byl s).take k) ^^^ (byl s)[k]'(by rw [byl_length]; exact hlt) := ⟨_, rfl⟩
      rw [← hxe] at h0 hnext hx
      have HN := Lib.hid hnext
      have hy := Crc.stpN_lt 4 hx
      have q1 := nib_bits x hx
      have q2 := nib_bits _ hy
      obtain ⟨y, hye⟩ : ∃ y, y = Crc.stpN 4 x := ⟨_, rfl⟩
      rw [← hye] at q1 q2 hy HN
      obtain ⟨z, hze⟩ : ∃ z, z = Crc.stpN 4 y := ⟨_, rfl⟩
      rw [← hze] at q2 HN
      have t1 : Int.tmod (x : Int) 16 = ((x % 16 : Nat) : Int) := by rw [Int.tmod_eq_emod_of_nonneg (by omega)]; omega
      have t2 : Int.tmod (y : Int) 16 = ((y % 16 : Nat) : Int) := by rw [Int.tmod_eq_emod_of_nonneg (by omega)]; omega
      have c1 := HT.out.cell (x % 16) (by omega)
      have c2 := HT.out.cell (y % 16) (by omega)
      rw [if_pos (by omega)] at c1 c2
      have l1 : x % 16 < 16 := by omega
      have l2 : y % 16 < 16 := by omega
      clear hxe hye hze hnext hbe hbl hR hx hy
      go_wp2_with fail
      go_roundw
      case measure => simp [intOf]; omega
      case rel => exact ⟨k + 1, by omega, by go_num, by rw [HN.out], HT, HB⟩
    · obtain rfl : k = s.size := by omega
      have hi : ¬ (s.size : Int) < (s.size : Int) := by omega
      have hR := Crc.sumTo_lt (byl s) (r := 4294967295) (by omega) (byl_lt s)
      have htk : (byl s).take s.size = byl s := List.take_of_length_le (by rw [byl_length]; omega)
      have hfin : bits .xor .u32 ((Crc.sumTo 4294967295 (byl s) : Nat) : Int) 4294967295 = ((Crc.sumN (byl s) : Nat) : Int) := u32_xor_nat _ 4294967295 hR (by omega)
      rw [htk]
      go_wp2_with fail
      go_ret
      exact ⟨rfl, HB.out⟩
end Go.Proofs.YtmnkgcgmbdkjaaaDoor
namespace Go.Proofs.YtmnkgcgmbdkjaaaDoor
open Go.RowKit Go.Extern.Stop Go.Stop Go.Extern Go.Proofs.YtmnkgcgmbdkjaaaDoorW.PrintWords Go.Proofs.YtmnkgcgmbdkjaaaDoorW.PrintLast Go.Proofs.YtmnkgcgmbdkjaaaDoorW.PrintMore
set_option linter.unusedVariables false
set_option linter.unusedSimpArgs false

/-- a part of a list turned -/
def spl (p : Pg) (o : Nat) (l : Pg) : Pg := p.take o ++ l ++ p.drop (o + l.length)
theorem spl_length (p : Pg) (o : Nat) (l : Pg) (h : o + l.length ≤ p.length) : (spl p o l).length = p.length := by simp [spl]; omega
theorem spl_get (p : Pg) (o : Nat) (l : Pg) (h : o + l.length ≤ p.length) (i : Nat) : (spl p o l)[i]? = if i < o then p[i]? else if i < o + l.length then l[i - o]? else p[i]? := by
  unfold spl
  have ht : (p.take o).length = o := by rw [List.length_take]; omega
  by_cases h1 : i < o
  · rw [if_pos h1, List.append_assoc, List.getElem?_append_left (by omega), List.getElem?_take_of_lt h1]
  · rw [if_neg h1, List.append_assoc, List.getElem?_append_right (by omega), ht]
    by_cases h2 : i < o + l.length
    · rw [if_pos h2, List.getElem?_append_left (by omega)]
    · rw [if_neg h2, List.getElem?_append_right (by omega), List.getElem?_drop]
      congr 1; omega
theorem pv_get (p : Pg) (i : Nat) : (pv p)[i]? = (p[i]?).map cell := by simp [pv]
/-- a page in a variable -/
structure PgAt (W : World) (b : Nat) (p : Pg) : Prop where
  r : W.rangeAt b 0 (pv p)
  t : W.there b 0 128
  l : p.length = 128
theorem PgAt.lt {W : World} {b : Nat} {p : Pg} (h : PgAt W b p) : b < W.heap.size := by
  obtain ⟨u, hu⟩ := Option.isSome_iff_exists.1 (h.t 0 (by omega)).1
  exact cell_lt hu
theorem PgAt.under {W W' : World} {b n : Nat} {p : Pg} (h : PgAt W b p) (hb : Below n W W') (hn : b < n) : PgAt W' b p :=
  ⟨fun j v hv => (hb.cell (p := ⟨b, 0 + j, none⟩) hn).trans (h.r j v hv), fun j hj => ⟨by rw [hb.cell (p := ⟨b, 0 + j, none⟩) hn]; exact (h.t j hj).1, by rw [hb.frozen (p := ⟨b, 0 + j, none⟩) hn]; exact (h.t j hj).2⟩, h.l⟩
theorem PgAt.new (W : World) (t : TypeId) (p : Pg) (hp : p.length = 128) : PgAt (W.alloc (.cells (pv p).toArray t)) W.heap.size p :=
  ⟨range_new W p t, there_new W _ t 128 (by simp [pv_length, hp]), hp⟩
theorem PgAt.byte {W : World} {b : Nat} {p : Pg} (h : PgAt W b p) (i : Nat) (x : UInt8) (hx : p[i]? = some x) : W.cell? ⟨b, i, none⟩ = some (.int .u8 (x.toNat : Int)) := by
  have := h.r i (cell x) (by rw [pv_get, hx]; rfl)
  rwa [Nat.zero_add] at this
theorem PgAt.free {W : World} {b : Nat} {p : Pg} (h : PgAt W b p) (i : Nat) (hi : i < 128) : W.frozen? ⟨b, i, none⟩ = false := by
  have := (h.t i hi).2
  rwa [Nat.zero_add] at this
theorem PgAt.some {W : World} {b : Nat} {p : Pg} (h : PgAt W b p) (i : Nat) (hi : i < 128) : (W.cell? ⟨b, i, none⟩).isSome = true := by
  have := (h.t i hi).1
  rwa [Nat.zero_add] at this
/-- the cells that a run of cells is laid over -/
theorem setCells_in : ∀ (vs : List Value) (W : World) (b o i : Nat), (∀ j, j < vs.length → (W.cell? ⟨b, o + j, none⟩).isSome = true) → (W.setCells b o vs).cell? ⟨b, i, none⟩ = if i < o then W.cell? ⟨b, i, none⟩ else if i < o + vs.length then vs[i - o]? else W.cell? ⟨b, i, none⟩
  | [], W, b, o, i, _ => by
    show W.cell? _ = _
    by_cases h1 : i < o
    · rw [if_pos h1]
    · rw [if_neg h1, if_neg (by simp; omega)]
  | v :: r, W, b, o, i, hs => by
    have h0 := hs 0 (by simp)
    rw [Nat.add_zero] at h0
    obtain ⟨u, hu⟩ := Option.isSome_iff_exists.1 h0
    have hone : ∀ k, (W.setCell ⟨b, o, none⟩ v).cell? ⟨b, k, none⟩ = if k = o then Option.some v else W.cell? ⟨b, k, none⟩ := fun k => by
      by_cases e : k = o
      · subst e; rw [if_pos rfl]; exact World.cell?_setCell_same _ _ _ hu
      · rw [if_neg e]; exact World.cell?_setCell_other _ _ _ _ (by simp [e])
    show ((W.setCell ⟨b, o, none⟩ v).setCells b (o + 1) r).cell? _ = _
    rw [setCells_in r _ b (o + 1) i (fun j hj => by
      rw [hone]
      by_cases e : o + 1 + j = o
      · omega
      · rw [if_neg e]
        have := hs (j + 1) (by simp; omega)
        rwa [show o + (j + 1) = o + 1 + j by omega] at this), hone]
    by_cases h1 : i < o
    · rw [if_pos (by omega), if_neg (by omega), if_pos h1]
    · rw [if_neg h1]
      by_cases h2 : i = o
      · subst h2
        rw [if_pos (by omega), if_pos rfl, if_pos (by simp), Nat.sub_self]; rfl
      · rw [if_neg (by omega), if_neg h2]
        by_cases h3 : i < o + 1 + r.length
        · rw [if_pos h3, if_pos (by simp; omega)]
          rw [show i - o = (i - (o + 1)) + 1 by omega]; rfl
        · rw [if_neg h3, if_neg (by simp; omega)]
theorem PgAt.copy {W : World} {b : Nat} {p : Pg} (h : PgAt W b p) (o : Nat) (l : Pg) (hl : o + l.length ≤ 128) : PgAt (W.setCells b o (pv l)) b (spl p o l) := by
  have hin := setCells_in (pv l) W b o
  have hs : ∀ j, j < (pv l).length → (W.cell? ⟨b, o + j, none⟩).isSome = true := fun j hj => h.some _ (by rw [pv_length] at hj; omega)
  have hp := h.l
  refine ⟨fun j v hv => ?_, World.there_setCells h.t b o _, by rw [spl_length _ _ _ (by omega)]; exact hp⟩
  rw [Nat.zero_add, hin j hs]
  rw [pv_get, spl_get _ _ _ (by omega)] at hv
  rw [pv_length]
  by_cases h1 : j < o
  · rw [if_pos h1] at hv ⊢
    have := h.r j v (by rw [pv_get]; exact hv)
    rwa [Nat.zero_add] at this
  · rw [if_neg h1] at hv ⊢
    by_cases h2 : j < o + l.length
    · rw [if_pos h2] at hv ⊢
      rw [pv_get]; exact hv
    · rw [if_neg h2] at hv ⊢
      have := h.r j v (by rw [pv_get]; exact hv)
      rwa [Nat.zero_add] at this
theorem PgAt.put {W : World} {b : Nat} {p : Pg} (h : PgAt W b p) (i : Nat) (x : UInt8) (hi : i < 128) : PgAt (W.setCell ⟨b, i, none⟩ (.int .u8 (x.toNat : Int))) b (spl p i [x]) := h.copy i [x] (by simp; omega)
theorem setCells_below : ∀ (vs : List Value) (W : World) (b o B : Nat), B ≤ b → Below B W (W.setCells b o vs)
  | [], _, _, _, _, _ => Below.refl _ _
  | v :: r, W, b, o, B, h => (Below.setCell (Below.refl _ _) h v).trans (setCells_below r _ b (o + 1) B h)
/-- a text out of a part of a page -/
theorem read_part {W : World} {b o : Nat} {l : Pg} (n c : Nat) (hn : l.length = n) (hr : W.rangeAt b o (pv l)) : (convert 56 9 (.slice (some ⟨b, o, none⟩) n c)).run Tryd.prog W = .ok (.string ⟨l.toArray⟩) W := by
  subst hn
  have h := run_convert_bytes_back (P := Tryd.prog) W 56 9 5 ⟨b, o, none⟩ c l Tryd.underlying56 Tryd.underlying5 Tryd.underlying9 (fun j hj => by
    rw [Go.WideShapes.add_plain]
    exact hr j _ (by rw [pv_get, List.getElem?_eq_getElem hj]; rfl))
  exact h
/-! ### the frame's page -/
def b8 (n : Int) : UInt8 := UInt8.ofNat (n % 256).toNat
theorem b8_nat {n : Int} (h0 : 0 ≤ n) (h1 : n ≤ 255) : ((b8 n).toNat : Int) = n := by
  unfold b8
  rw [UInt8.toNat_ofNat']
  omega
/-- the kind, the size, the data, zeros -/
def payl (kind : Int) (d : ByteArray) : Pg := b8 kind :: b8 d.size :: (d.data.toList ++ List.replicate (122 - d.size) 0)
theorem payl_length (kind : Int) (d : ByteArray) (h : d.size ≤ 122) : (payl kind d).length = 124 := by
  have : d.data.toList.length = d.size := by simp
  simp [payl]; omega
/-- the sum of bytes -/
def sumL (l : Pg) : Nat := Crc.sumN (l.map UInt8.toNat)
theorem sumL_lt (l : Pg) : sumL l < 4294967296 := by
  have h := Crc.sumTo_lt (l.map UInt8.toNat) (r := 4294967295) (by omega) (fun b hb => by obtain ⟨x, _, rfl⟩ := List.mem_map.1 hb; exact x.toNat_lt)
  exact Nat.xor_lt_two_pow (n := 32) h (by omega)
theorem byl_list (l : Pg) : byl ⟨l.toArray⟩ = l.map UInt8.toNat := by simp [byl]
end Go.Proofs.YtmnkgcgmbdkjaaaDoor
namespace Go.Proofs.YtmnkgcgmbdkjaaaDoor

/-- a stronger condition from here on -/
theorem wpAnyH_switch {P : Program} {ops : Array Oper} {Q : Exit → Act → World → Prop} {md : Region.Mode} {S S' : World → Prop} (hs : ∀ w, S' w → S w) :
    ∀ (fuel : Nat) (listed : Array Bool) (a : Act) (w : World), wpAnyH P md ops Q S' fuel listed a w → wpAnyH P md ops Q S fuel listed a w
  | 0, _, _, _, h => h
  | fuel + 1, _, _, _, h => ⟨h.1, fun i hi => wpOp_mono (fun a' w' h' => ⟨hs w' h'.1, wpAnyH_switch hs fuel _ a' w' h'.2⟩) (h.2 i hi)⟩
end Go.Proofs.YtmnkgcgmbdkjaaaDoor
