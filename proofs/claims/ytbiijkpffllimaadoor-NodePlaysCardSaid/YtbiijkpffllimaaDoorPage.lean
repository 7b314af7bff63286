/- Pages: arrays of 128 bytes, by value, whole: what loads, stores, copies and compares them. -/
import Derived.Test.YtbiijkpffllimaaDoorErrC
import Derived.Deep.MidRow
import Derived.Deep.WholeRow
import Derived.Stop.BytesEq
import Derived.Laws.AppendOwn
import Derived.Maps.AppendAt
namespace Go.Proofs.YtbiijkpffllimaaDoor
open Go.RowKit Go.Extern.Stop Go.Stop Go.Extern
set_option linter.unusedVariables false
set_option linter.unusedSimpArgs false

abbrev Pg := List UInt8
/-- a page's cells -/
def pv (p : Pg) : List Value := p.map cell
def zp : Pg := List.replicate 128 0
theorem pv_length (p : Pg) : (pv p).length = p.length := List.length_map _
theorem zp_length : zp.length = 128 := List.length_replicate
theorem pv_one (p : Pg) : ∀ v ∈ pv p, v.oneCell' = true := fun v hv => by
  obtain ⟨b, _, rfl⟩ := List.mem_map.1 hv; rfl
theorem info_pg : (Tryd.prog.info? 41).map (fun i => (i.zero, i.size)) = some (some (.agg (pv zp).toArray), 128) := by kernel_rfl
theorem zero_pg : ∀ w, (zeroValue 41).run Tryd.prog w = .ok (.agg (pv zp).toArray) w := (zero_of_info info_pg).1
theorem size_pg : (Tryd.prog.info? 41).map (·.size) = some 128 := (zero_of_info info_pg).2
theorem sizeOf_u8 : ∀ w, (sizeOf 5).run Tryd.prog w = .ok 1 w := fun w => by kernel_rfl
/-- the comparison of two pages -/
theorem eql_pg (w : World) (p q : Pg) (hp : p.length = 128) (hq : q.length = 128) : (binOp .eql 41 (.agg (pv p).toArray) (.agg (pv q).toArray)).run Tryd.prog w = .ok (.bool (p == q)) w :=
  run_eql_bytes w 41 5 128 Tryd.underlying41 Tryd.underlying5 sizeOf_u8 p q hp hq
theorem neq_pg (w : World) (p q : Pg) (hp : p.length = 128) (hq : q.length = 128) : (binOp .neq 41 (.agg (pv p).toArray) (.agg (pv q).toArray)).run Tryd.prog w = .ok (.bool (!(p == q))) w := by
  have h : (Op.equalIn 10000 41 (.agg (pv p).toArray) (.agg (pv q).toArray)).run Tryd.prog w = .ok (p == q) w := run_equalIn_bytes w 9998 41 5 128 Tryd.underlying41 Tryd.underlying5 sizeOf_u8 p q hp hq
  rw [run_neq_struct, h]
  rfl
theorem size_of {p : Pg} (hp : p.length = 128) : (Tryd.prog.info? 41).map (·.size) = some (pv p).length := by rw [size_pg, pv_length, hp]

variable {ops : Array Oper} {rest : List Oper} {op : Oper} {a : Act} {w : World} {Q : Exit → Act → World → Prop}
/-- guards for the walk's arms: the operation that stands next -/
theorem at_ld {P : Program} (ty : TypeId) (x : Operand) {d : Option Tmp} {t : TypeId} {s : String} {f : Array Edge} {g : Option (Nat × Bool)} (h : wpList P ops Q (⟨d, .load ty x, t, s, f, g⟩ :: rest) a w) : wpList P ops Q (⟨d, .load ty x, t, s, f, g⟩ :: rest) a w := h
theorem at_st {P : Program} (ty : TypeId) (x y : Operand) {d : Option Tmp} {t : TypeId} {s : String} {f : Array Edge} {g : Option (Nat × Bool)} (h : wpList P ops Q (⟨d, .store ty x y, t, s, f, g⟩ :: rest) a w) : wpList P ops Q (⟨d, .store ty x y, t, s, f, g⟩ :: rest) a w := h
theorem at_al {P : Program} (ty : TypeId) {d : Option Tmp} {t : TypeId} {s : String} {f : Array Edge} {g : Option (Nat × Bool)} (h : wpList P ops Q (⟨d, .alloc ty, t, s, f, g⟩ :: rest) a w) : wpList P ops Q (⟨d, .alloc ty, t, s, f, g⟩ :: rest) a w := h
/-- a page out of wherever it lies -/
theorem ld_pg (hgd : op.guard = none) (x : Operand) (ho : op.op = .load 41 x) (b o : Nat) (hx : a.eval x = .pointer (some ⟨b, o, none⟩)) (p : Pg) (hp : p.length = 128) (hc : w.rangeAt b o (pv p))
    (h : wpList Tryd.prog ops Q rest (a.put op.dst (.agg (pv p).toArray)) w) : wpList Tryd.prog ops Q (op :: rest) a w :=
  wpList_load_mid hgd 41 x ho b o hx (pv p) _ hc Tryd.underlying41 rfl (size_of hp) h
/-- a page into wherever there is room for one -/
theorem st_pg (hgd : op.guard = none) (x y : Operand) (ho : op.op = .store 41 x y) (b o : Nat) (hx : a.eval x = .pointer (some ⟨b, o, none⟩)) (p : Pg) (hp : p.length = 128) (hy : a.eval y = .agg (pv p).toArray) (ht : w.there b o 128)
    (h : wpList Tryd.prog ops Q rest (a.put op.dst undef) (w.setCells b o (pv p))) : wpList Tryd.prog ops Q (op :: rest) a w := by
  refine wpList_store_mid hgd 41 x y ho b o (pv p).toArray hx hy (by simpa [pv_length, hp] using ht) (by simpa using size_of hp) (all_oneCell_toArray (pv_one p)) ?_
  simpa using h
/-- a page into the variable that was made last -/
theorem st_new (hgd : op.guard = none) (x y : Operand) (ho : op.op = .store 41 x y) (w0 : World) (c : Array Value) (t : TypeId) (hw : w = w0.alloc (.cells c t)) (hx : a.eval x = .pointer (some ⟨w0.heap.size, 0, none⟩)) (p : Pg) (hp : p.length = 128) (hy : a.eval y = .agg (pv p).toArray) (hc : c.size = 128)
    (h : wpList Tryd.prog ops Q rest (a.put op.dst undef) (w0.alloc (.cells (pv p).toArray t))) : wpList Tryd.prog ops Q (op :: rest) a w := by
  subst hw
  refine wpList_plain hgd fun K hK => ?_
  unfold Oper.wp execOp
  simp only [ho, hx, hy, Instr.storeAt, Instr.sureAddr, Sem.run_bind, Sem.run_pure, Result.andThen_ok]
  rw [run_storeVar_row _ w0.heap.size t 41 c (pv p).toArray (heap_alloc_last w0 _) (by rw [size_pg]; simp [pv_length, hp]) (by simp [pv_length, hp, hc]) (all_oneCell_toArray (pv_one p)), World.setRow_alloc_new]
  exact hK _ _ h
/-- a new page variable -/
theorem al_pg (hgd : op.guard = none) (ho : op.op = .alloc 41) (h : wpList Tryd.prog ops Q rest (a.put op.dst (.pointer (some ⟨w.heap.size, 0, none⟩))) (w.alloc (.cells (pv zp).toArray 41))) : wpList Tryd.prog ops Q (op :: rest) a w := by
  refine wpList_plain hgd fun K hK => ?_
  unfold Oper.wp execOp
  simp only [ho, Instr.alloc, Sem.run_bind, zero_pg, Result.andThen_ok]
  exact hK _ _ h
theorem range_new (w : World) (p : Pg) (t : TypeId) : (w.alloc (.cells (pv p).toArray t)).rangeAt w.heap.size 0 (pv p) := fun j v hv => by
  rw [Nat.zero_add, cell_of_row _ _ j _ t (0, 0) (heap_alloc_last w _)]; simpa using hv
theorem there_new (w : World) (c : Array Value) (t : TypeId) (n : Nat) (hc : n ≤ c.size) : (w.alloc (.cells c t)).there w.heap.size 0 n := fun j hj => by
  rw [Nat.zero_add]
  exact ⟨by rw [cell_of_row _ _ j _ t (0, 0) (heap_alloc_last w _), Array.getElem?_eq_getElem (by omega)]; rfl, frozen_of_row _ _ j _ t (heap_alloc_last w _)⟩
/-! ### blocks that stay -/
/-- but for some blocks, and what is new, w' is w -/
structure Touch (S : Nat → Prop) (w w' : World) : Prop where
  os : w'.os = w.os
  tape : w'.tape = w.tape
  output : w'.output = w.output
  size : w.heap.size ≤ w'.heap.size
  block : ∀ k, k < w.heap.size → ¬ S k → w'.heap[k]? = w.heap[k]?
theorem Touch.refl (S : Nat → Prop) (w : World) : Touch S w w := ⟨rfl, rfl, rfl, Nat.le_refl _, fun _ _ _ => rfl⟩
theorem Touch.trans {S : Nat → Prop} {w w1 w2 : World} (h : Touch S w w1) (k : Touch S w1 w2) : Touch S w w2 :=
  ⟨k.os.trans h.os, k.tape.trans h.tape, k.output.trans h.output, Nat.le_trans h.size k.size, fun i hi hs => (k.block i (Nat.lt_of_lt_of_le hi h.size) hs).trans (h.block i hi hs)⟩
theorem Touch.mono {S S' : Nat → Prop} {w w1 : World} (h : Touch S w w1) (hs : ∀ k, S k → S' k) : Touch S' w w1 := ⟨h.os, h.tape, h.output, h.size, fun k hk hn => h.block k hk (fun q => hn (hs k q))⟩
/-- of what is new nothing need be said -/
theorem Touch.old {S S' : Nat → Prop} {w w1 : World} (h : Touch S w w1) (hs : ∀ k, k < w.heap.size → S k → S' k) : Touch S' w w1 := ⟨h.os, h.tape, h.output, h.size, fun k hk hn => h.block k hk (fun q => hn (hs k hk q))⟩
theorem Touch.of_below {S : Nat → Prop} {w w1 : World} (h : Below w.heap.size w w1) : Touch S w w1 := ⟨h.os, h.tape, h.output, h.size, fun k hk _ => h.block k hk⟩
theorem Touch.below {S : Nat → Prop} {w w1 : World} {B : Nat} (h : Touch S w w1) (hB : B ≤ w.heap.size) (hs : ∀ k, S k → B ≤ k) : Below B w w1 := ⟨h.os, h.tape, h.output, h.size, fun k hk => h.block k (Nat.lt_of_lt_of_le hk hB) (fun q => by have := hs k q; omega)⟩
theorem Touch.setCells {S : Nat → Prop} {w0 w : World} (h : Touch S w0 w) (b : Nat) (hb : S b ∨ w0.heap.size ≤ b) : ∀ (vs : List Value) (o : Nat) (w : World), Touch S w0 w → Touch S w0 (w.setCells b o vs)
  | [], _, _, h => h
  | v :: r, o, w, h => Touch.setCells h b hb r (o + 1) (w.setCell ⟨b, o, none⟩ v) ⟨h.os, h.tape, h.output, by rw [show (w.setCell ⟨b, o, none⟩ v).heap.size = w.heap.size by simp [World.setCell]]; exact h.size, fun k hk hn => (Below.heap_setCell w ⟨b, o, none⟩ v k (fun e => by subst e; rcases hb with hb | hb; exact hn hb; exact absurd hk (Nat.not_lt.2 hb))).trans (h.block k hk hn)⟩
theorem Touch.cell {S : Nat → Prop} {w w1 : World} (h : Touch S w w1) {p : Addr} {v : Value} (hc : w.cell? p = some v) (hn : ¬ S p.block) : w1.cell? p = some v :=
  (World.cell?_of_block (h.block p.block (cell_lt hc) hn)).trans hc
theorem Touch.range {S : Nat → Prop} {w w1 : World} (h : Touch S w w1) {b o : Nat} {cs : List Value} (hc : w.rangeAt b o cs) (hn : ¬ S b) : w1.rangeAt b o cs := fun j v hv => h.cell (hc j v hv) hn
theorem Touch.there {S : Nat → Prop} {w w1 : World} (h : Touch S w w1) {b o n : Nat} (hc : w.there b o n) (hn : ¬ S b) : w1.there b o n := fun j hj => by
  obtain ⟨h1, h2⟩ := hc j hj
  obtain ⟨u, hu⟩ := Option.isSome_iff_exists.1 h1
  exact ⟨by rw [h.cell hu hn]; rfl, by rw [World.frozen?_of_block (h.block b (cell_lt hu) hn)]; exact h2⟩
end Go.Proofs.YtbiijkpffllimaaDoor
