/- (*disk.Disk).Read by its contract. -/
import Derived.Test.YthleapofcoidoaaDoorDiskN
import Derived.Deep.LoopGhost
import Derived.Deep.Cut
import Derived.Deep.CutRange
import Derived.Outline
namespace Go.Proofs.YthleapofcoidoaaDoor
open Go.RowKit Go.Extern.Stop Go.Stop Go.Extern
set_option linter.unusedVariables false
set_option linter.unusedSimpArgs false

/-- parts of as many cells each, side by side -/
theorem flat_at {α : Type} (f : α → List Value) (s : Nat) : ∀ (l : List α) (i j : Nat) (hi : i < l.length), (∀ x ∈ l, (f x).length = s) → j < s → (l.flatMap f)[i * s + j]? = (f l[i])[j]?
  | [], i, j, hi, _, _ => absurd hi (Nat.not_lt_zero _)
  | x :: l, 0, j, hi, h, hj => by
    rw [List.flatMap_cons, Nat.zero_mul, Nat.zero_add, List.getElem?_append_left (by rw [h x List.mem_cons_self]; exact hj)]; rfl
  | x :: l, i + 1, j, hi, h, hj => by
    have hx := h x List.mem_cons_self
    rw [List.flatMap_cons, List.getElem?_append_right (by rw [hx, Nat.succ_mul]; omega), hx, show (i + 1) * s + j - s = i * s + j by rw [Nat.succ_mul]; omega]
    exact flat_at f s l i j (by simpa using hi) (fun y hy => h y (List.mem_cons_of_mem _ hy)) hj
theorem range_part {w : World} {F : Nat} {firm : List Pg} (h : w.rangeAt F 0 (flatP firm)) (hp : ∀ p ∈ firm, p.length = 128) (i : Nat) (hi : i < firm.length) : w.rangeAt F (i * 128) (pv firm[i]) := fun j v hv => by
  have hj : j < 128 := by have := (List.getElem?_eq_some_iff.1 hv).1; rwa [pv_length, hp _ (List.getElem_mem hi)] at this
  have := h (i * 128 + j) v (by rw [flatP, flat_at pv 128 firm i j hi (fun p h => by rw [pv_length, hp p h]) hj]; exact hv)
  rwa [Nat.zero_add] at this
theorem own_part {w : World} {base n g cap : Nat} {e : TypeId} {loose : Ls} (h : w.ownsRow base e 129 (.slice (some ⟨g, 0, none⟩) n cap) n (flatL loose)) (hn : n = loose.length) (hp : ∀ x ∈ loose, x.2.length = 128) (i : Nat) (hi : i < loose.length) : w.rangeAt g (i * 129) (lv loose[i].1 loose[i].2) := fun j v hv => by
  have hj : j < 129 := by have := (List.getElem?_eq_some_iff.1 hv).1; rwa [lv_length, hp _ (List.getElem_mem hi)] at this
  rw [h.cellAt (i * 129 + j) (by omega), flatL, flat_at (fun x : Int × Pg => lv x.1 x.2) 129 loose i j hi (fun x hx => by rw [lv_length, hp x hx]) hj, hv]
variable {ops : Array Oper} {rest : List Oper} {op : Oper} {a : Act} {w : World} {Q : Exit → Act → World → Prop}
/-- a write out of wherever it lies -/
theorem ld_ls (hgd : op.guard = none) (x : Operand) (ho : op.op = .load 83 x) (b o : Nat) (hx : a.eval x = .pointer (some ⟨b, o, none⟩)) (i : Int) (p : Pg) (hp : p.length = 128) (hc : w.rangeAt b o (lv i p))
    (h : wpList Tryd.prog ops Q rest (a.put op.dst (.agg (lv i p).toArray)) w) : wpList Tryd.prog ops Q (op :: rest) a w :=
  wpList_load_mid hgd 83 x ho b o hx (lv i p) _ hc Tryd.underlying83 rfl (by rw [size_ls, lv_length, hp]) h
/-- a write into the variable that was made last -/
theorem st_nls (hgd : op.guard = none) (x y : Operand) (ho : op.op = .store 83 x y) (w0 : World) (c : Array Value) (t : TypeId) (hw : w = w0.alloc (.cells c t)) (hx : a.eval x = .pointer (some ⟨w0.heap.size, 0, none⟩)) (i : Int) (p : Pg) (hp : p.length = 128) (hy : a.eval y = .agg (lv i p).toArray) (hc : c.size = 129)
    (h : wpList Tryd.prog ops Q rest (a.put op.dst undef) (w0.alloc (.cells (lv i p).toArray t))) : wpList Tryd.prog ops Q (op :: rest) a w := by
  subst hw
  refine wpList_plain hgd fun K hK => ?_
  unfold Oper.wp execOp
  simp only [ho, hx, hy, Instr.storeAt, Instr.sureAddr, Sem.run_bind, Sem.run_pure, Result.andThen_ok]
  rw [run_storeVar_row _ w0.heap.size t 83 c (lv i p).toArray (heap_alloc_last w0 _) (by rw [size_ls]; simp [lv_length, hp]) (by simp [lv_length, hp, hc]) (all_oneCell_toArray (lv_one i p)), World.setRow_alloc_new]
  exact hK _ _ h
/-- a new variable for a write -/
theorem al_ls (hgd : op.guard = none) (ho : op.op = .alloc 83) (h : wpList Tryd.prog ops Q rest (a.put op.dst (.pointer (some ⟨w.heap.size, 0, none⟩))) (w.alloc (.cells (lv 0 zp).toArray 83))) : wpList Tryd.prog ops Q (op :: rest) a w := by
  refine wpList_plain hgd fun K hK => ?_
  unfold Oper.wp execOp
  simp only [ho, Instr.alloc, Sem.run_bind, zero_ls, Result.andThen_ok]
  exact hK _ _ h
theorem lv_range_new (w : World) (i : Int) (p : Pg) (t : TypeId) : (w.alloc (.cells (lv i p).toArray t)).cell? ⟨w.heap.size, 0, none⟩ = some (.int .i64 i) ∧ (w.alloc (.cells (lv i p).toArray t)).rangeAt w.heap.size 1 (pv p) := by
  refine ⟨by rw [cell_of_row _ _ 0 _ t (0, 0) (heap_alloc_last w _)]; rfl, fun j v hv => ?_⟩
  rw [cell_of_row _ _ (1 + j) _ t (0, 0) (heap_alloc_last w _), List.getElem?_toArray, lv, Nat.add_comm, List.getElem?_cons_succ]; exact hv
theorem err_touch {S : Nat → Prop} {B : Nat} {w w' : World} {v : Value} {n : Int} (h : ErrC B w v n) (ht : Touch S w w') (hs : ∀ k, B ≤ k → ¬ S k) : ErrC B w' v n := by
  rcases h with h | ⟨hn, l, h⟩
  · exact .inl h
  · exact .inr ⟨hn, l, h.keep fun p u hp hc => ht.cell hc (hs _ hp)⟩
theorem zsz : (pv zp).toArray.size = 128 := by rw [List.size_toArray, pv_length, zp_length]
theorem lzsz : (lv 0 zp).toArray.size = 129 := by rw [List.size_toArray, lv_length, zp_length]
/-- a page variable and a slot handed back -/
theorem results_pg {P : Program} {fn : Func} {p q : Tmp} {ty : TypeId} (h : fn.results = #[.cell p ty, .tmp q]) (tmps : Array Value) (w : World) (x : Addr) (cs : Array Value) (v : Value)
    (hp : tmps.getD p undef = .pointer (some x)) (hq : tmps.getD q undef = v) (hl : (loadVar ty x).run P w = .ok (.agg cs) w) : (results fn tmps).run P w = .ok (.tuple #[.agg cs, v]) w := by
  have hp' : tmps[p]?.getD undef = .pointer (some x) := by simpa using hp
  have hq' : tmps[q]?.getD undef = v := by simpa using hq
  simp [results, h, hp', hq', asAddr, hl]
/-! ### what is read -/
def readStep (i : Int) (acc : Pg) (x : Int × Pg) : Pg := if x.1 = i then x.2 else acc
def readP (firm : List Pg) (loose : Ls) (i : Int) : Pg := loose.foldl (readStep i) (firm.getD i.toNat zp)
theorem readP_len {firm : List Pg} {loose : Ls} {i : Int} (hf : ∀ p ∈ firm, p.length = 128) (hl : ∀ x ∈ loose, x.2.length = 128) : (readP firm loose i).length = 128 := by
  unfold readP
  have h0 : (firm.getD i.toNat zp).length = 128 := by
    rw [List.getD_eq_getElem?_getD]
    cases h : firm[i.toNat]? with
    | none => exact zp_length
    | some p => exact hf p (List.mem_of_getElem? h)
  generalize firm.getD i.toNat zp = acc at h0
  induction loose generalizing acc with
  | nil => exact h0
  | cons x l ih =>
    refine ih (fun y hy => hl y (List.mem_cons_of_mem _ hy)) _ ?_
    unfold readStep
    split
    · exact hl x List.mem_cons_self
    · exact h0
def readTo (p0 : Pg) (loose : Ls) (i : Nat) (k : Nat) : Pg := (loose.take k).foldl (readStep (i : Int)) p0
theorem readTo_step (p0 : Pg) (loose : Ls) (i k : Nat) (h : k < loose.length) : readTo p0 loose i (k + 1) = if loose[k].1 = (i : Int) then loose[k].2 else readTo p0 loose i k := by
  unfold readTo
  rw [List.take_succ_eq_append_getElem h, List.foldl_append]
  rfl
/-- what holds at a round's head of a variable of the call's own -/
structure RInv (w2 : World) (X : Nat) (p : Pg) (w : World) : Prop where
  r : w.rangeAt X 0 (pv p)
  th : w.there X 0 128
  t : Touch (fun b => b = X) w2 w
theorem RInv.under {w2 w w' : World} {X : Nat} {p : Pg} (h : RInv w2 X p w) (hb : Below w.heap.size w w') : RInv w2 X p w' :=
  have ht : Touch (fun _ => False) w w' := Touch.of_below hb
  ⟨ht.range h.r (fun h => h), ht.there h.th (fun h => h), h.t.trans (Touch.of_below hb)⟩
theorem RInv.set {w2 w : World} {X : Nat} {p q : Pg} (h : RInv w2 X p w) (hq : q.length = 128) : RInv w2 X q (w.setCells X 0 (pv q)) :=
  ⟨World.rangeAt_setCells_same _ _ _ _ (by rw [pv_length, hq]; exact h.th), World.there_setCells h.th _ _ _, Touch.setCells h.t X (.inl rfl) (pv q) 0 w h.t⟩
def ReadPost (firm : List Pg) (loose : Ls) (down : Bool) (i : Int) (w : World) (e : Ending) (w' : World) : Prop :=
  ∃ v, e = .returned (.tuple #[.agg (pv (if mayC down firm.length i = 0 then readP firm loose i else zp)).toArray, v]) ∧ ErrC w.heap.size w' v (mayC down firm.length i) ∧ Below w.heap.size w w'
theorem read_nil (i : Int) (w : World) : Calls Tryd.prog 19 #[.pointer none, .int .i64 i] w fun e w' => ∃ v, e = .returned (.tuple #[.agg (pv zp).toArray, v]) ∧ ErrC w.heap.size w' v 1 ∧ Below w.heap.size w w' := by
  have hb : ∀ w, (Instr.build 36 #[]).run Tryd.prog w = .ok (.agg (pv zp).toArray) w := fun w => by kernel_rfl
  go_enter Tryd.func19, Tryd.ntmps19
  go_wp2_with ((with_reducible refine at_al 36 ?_); refine al_pg rfl rfl ?_)
  refine (may_nil i _).mono ?_
  rintro e w1 ⟨v, rfl, he, hb1⟩
  obtain ⟨tt, xx, rfl⟩ := he.iface (by decide)
  have HE := Lib.hid he
  have HB := Lib.hid hb1
  have HTh : Hid (w1.there w.heap.size 0 128) := Lib.hid ((Touch.of_below (S := fun _ => False) hb1).there (there_new w _ _ 128 (by simp [pv_length, zp_length])) (fun h => h))
  have HR : Hid ((w1.setCells w.heap.size 0 (pv zp)).rangeAt w.heap.size 0 (pv zp)) := Lib.hid (World.rangeAt_setCells_same _ _ _ _ (by rw [pv_length, zp_length]; exact HTh.out))
  clear he hb1
  go_wp2_with ((with_reducible refine at_st 36 (.tmp 4) (.tmp 15) ?_); refine st_pg rfl _ _ rfl w.heap.size (0) rfl zp ?_ rfl ?_ ?_; exact zp_length; exact HTh.out)
  have hld := run_loadVar_mid (P := Tryd.prog) (w1.setCells w.heap.size 0 (pv zp)) w.heap.size 0 36 (pv zp) _ HR.out Tryd.underlying36 rfl (size_of zp_length)
  refine bodyPost_ret (v := .tuple #[.agg (pv zp).toArray, .iface tt xx]) (results_pg Tryd.results19 _ _ _ _ _ rfl rfl hld) rfl ⟨_, rfl, ?_, ?_⟩
  · have ht := Touch.setCells (Touch.refl (fun k => k = w.heap.size) w1) w.heap.size (.inl rfl) (pv zp) 0 w1 (Touch.refl _ _)
    have h2 := err_touch HE.out ht (fun k hk e => by simp at hk; omega)
    exact h2.mono (by simp)
  · have h1 : Touch (fun _ => False) w w1 := Touch.of_below (((Below.refl _ _).alloc (Nat.le_refl _) _).trans (HB.out.mono (by simp)))
    exact (Touch.setCells h1 w.heap.size (.inr (Nat.le_refl _)) (pv zp) 0 w1 h1).below (Nat.le_refl _) (fun k h => h.elim)
set_option maxHeartbeats 1000000 in
theorem read_any {w : World} {base D F : Nat} {v : Value} {firm : List Pg} {loose : Ls} {down : Bool} (i : Int) (h : DiskIn w base D F v firm loose down) (hls : loose.length ≤ 1000000) :
    Calls Tryd.prog 19 #[.pointer (some ⟨D, 0, none⟩), .int .i64 i] w (ReadPost firm loose down i w) := by
  have hb : ∀ w, (Instr.build 36 #[]).run Tryd.prog w = .ok (.agg (pv zp).toArray) w := fun w => by kernel_rfl
  have H := Lib.hid h
  clear h
  have hba := (Below.refl w.heap.size w).alloc (Nat.le_refl _) (.cells (pv zp).toArray 36)
  have HM := Lib.hid (may_any i (H.out.under hba))
  have HBA := Lib.hid hba
  clear hba
  obtain ⟨code, hcode⟩ : ∃ c, c = mayC down firm.length i := ⟨_, rfl⟩
  rw [← hcode] at HM
  have HCode := Lib.hid hcode
  go_enter Tryd.func19, Tryd.ntmps19
  go_wp2_with ((with_reducible refine at_al 36 ?_); refine al_pg rfl rfl ?_)
  refine HM.out.mono ?_
  rintro e w1 ⟨ev, rfl, he, hb1⟩
  have HB := Lib.hid (HBA.out.trans (hb1.mono (by simp)))
  have HTh : Hid (w1.there w.heap.size 0 128) := Lib.hid ((Touch.of_below (S := fun _ => False) hb1).there (there_new w _ _ 128 (by simp [pv_length, zp_length])) (fun h => h))
  by_cases hc : code = 0
  · subst hc
    obtain rfl := he.zero
    have hi : 0 ≤ i ∧ i < firm.length := by
      unfold mayC at hcode
      split at hcode
      · cases hcode
      · split at hcode
        · assumption
        · cases hcode
    have H1 := Lib.hid (H.out.under HB.out)
    clear he hcode
    have c0 := H1.out.c0
    have c1 := H1.out.c1
    obtain ⟨i0, rfl⟩ : ∃ k : Nat, i = (k : Int) := ⟨i.toNat, by omega⟩
    have hi0 : i0 < firm.length := by omega
    have HR1 := Lib.hid (range_part H1.out.hF H1.out.pg i0 hi0)
    have hp1 : Hid (firm[i0].length = 128) := Lib.hid (H1.out.pg _ (List.getElem_mem hi0))
    have hs1 : w.heap.size < w1.heap.size := by have := hb1.size; simp at this; omega
    have hn240 := H1.out.n1
    have hDn := H1.out.lD
    have hDr : D ≠ w.heap.size := by have := H.out.lD; omega
    clear hb1
    obtain ⟨nf, hnf⟩ : ∃ n, n = firm.length := ⟨_, rfl⟩
    rw [← hnf] at c0 hi hn240
    have HNF := Lib.hid hnf
    obtain ⟨p0, hp0⟩ : ∃ p, p = firm[i0] := ⟨_, rfl⟩
    rw [← hp0] at HR1 hp1
    have HP0 := Lib.hid hp0
    clear hnf hp0
    have hi1 : (i0 : Int) < (nf : Int) := hi.2
    go_upto_region 5 with (first | ((with_reducible refine at_ld 36 (.tmp 22) ?_); refine ld_pg rfl _ rfl F (i0 * 128) rfl p0 ?_ ?_ ?_; exact hp1.out; exact HR1.out) | ((with_reducible refine at_al 36 ?_); refine al_pg rfl rfl ?_) | ((with_reducible refine at_st 36 (.tmp 7) (.tmp 23) ?_); refine st_new rfl _ _ rfl _ _ _ rfl rfl p0 ?_ rfl ?_ ?_; exact hp1.out; exact zsz))
    obtain ⟨A, c, rfl⟩ := own_slice H1.out.hl
    obtain ⟨w2, hw2⟩ : ∃ w2, w2 = w1.alloc (.cells (pv p0).toArray 36) := ⟨_, rfl⟩
    rw [← hw2]
    have hb2 : Below w1.heap.size w1 w2 := by rw [hw2]; exact (Below.refl _ _).alloc (Nat.le_refl _) _
    have H2 := Lib.hid (H1.out.under hb2)
    have c1 := H2.out.c1
    have HX := Lib.hid (show w2.rangeAt w1.heap.size 0 (pv p0) ∧ w2.there w1.heap.size 0 128 by
      rw [hw2]; exact ⟨range_new _ _ _, there_new _ _ _ 128 (by rw [List.size_toArray, pv_length, hp1.out]; exact Nat.le_refl _)⟩)
    have HTh2 : Hid (w2.there w.heap.size 0 128) := Lib.hid ((Touch.of_below (S := fun _ => False) hb2).there HTh.out (fun h => h))
    have HB2 := Lib.hid (HB.out.trans (hb2.mono HB.out.size))
    have hs2 : w1.heap.size < w2.heap.size := by rw [hw2]; simp
    have HNX := Lib.hid (show ∀ k, Its D F (.slice A loose.length c) k → k ≠ w1.heap.size from fun k hk => by
      rcases hk with rfl | rfl | hk
      · have := H1.out.lD; omega
      · have := H1.out.lF; omega
      · have := (H1.out.hl.lt k hk).2; omega)
    clear hw2 hb2
    go_wp2_with fail
    obtain ⟨X, hX⟩ : ∃ X, X = w1.heap.size := ⟨_, rfl⟩
    rw [← hX] at HX HNX hs2 ⊢
    have hXR : X ≠ w.heap.size := by omega
    have hXw : w.heap.size < X := by omega
    clear hX
    go_loopg [29] loose.length (fun gg s29 wr => ∃ k : Nat, k ≤ loose.length ∧ loose.length - k ≤ gg ∧ s29 = .int .i64 k ∧ Hid (RInv w2 X (readTo p0 loose i0 k) wr))
    case atStart => exact ⟨0, Nat.zero_le _, by omega, rfl, Lib.hid ⟨HX.out.1, HX.out.2, Touch.refl _ _⟩⟩
    case round =>
      obtain ⟨k, hk, hg, rfl, HI⟩ := hrel
      by_cases hlt : k < loose.length
      · have hltz : (k : Int) < (loose.length : Int) := by omega
        obtain ⟨g, rfl⟩ : ∃ g, A = some ⟨g, 0, none⟩ := by
          rcases H2.out.hl.2 with ⟨_, hn⟩ | ⟨g, cap, cur, hv, _⟩
          · omega
          · simp only [Value.slice.injEq] at hv; exact ⟨g, hv.1⟩
        have hgX : g ≠ X := HNX.out g (.inr (.inr rfl))
        have hpk := H2.out.pl _ (List.getElem_mem hlt)
        have HRk := Lib.hid (HI.out.t.range (own_part H2.out.hl rfl (fun x hx => (H2.out.pl x hx).1) k hlt) hgX)
        have HSt := Lib.hid (readTo_step p0 loose i0 k hlt)
        obtain ⟨xi, hxi⟩ : ∃ q, q = loose[k].1 := ⟨_, rfl⟩
        obtain ⟨xp, hxp⟩ : ∃ q, q = loose[k].2 := ⟨_, rfl⟩
        rw [← hxi, ← hxp] at HRk HSt
        rw [← hxp] at hpk
        have HXP := Lib.hid hpk.1
        clear hxi hxp hpk
        go_upto_region 8 with (first | ((with_reducible refine at_ld 83 (.tmp 31) ?_); refine ld_ls rfl _ rfl g (k * 129) rfl xi xp ?_ ?_ ?_; exact HXP.out; exact HRk.out) | ((with_reducible refine at_al 83 ?_); refine al_ls rfl rfl ?_) | ((with_reducible refine at_st 83 (.tmp 9) (.tmp 32) ?_); refine st_nls rfl _ _ rfl _ _ _ rfl rfl xi xp ?_ rfl ?_ ?_; exact HXP.out; exact lzsz))
        obtain ⟨w4, hw4⟩ : ∃ w4, w4 = wr.alloc (.cells (lv xi xp).toArray 83) := ⟨_, rfl⟩
        obtain ⟨y0, yr⟩ := lv_range_new wr xi xp 83
        rw [← hw4] at y0 yr ⊢
        have HY := Lib.hid yr
        have hb4 : Below wr.heap.size wr w4 := by rw [hw4]; exact (Below.refl _ _).alloc (Nat.le_refl _) _
        have HI4 := Lib.hid (HI.out.under hb4)
        clear hw4 yr hb4
        by_cases hxi : xi = (i0 : Int)
        · have hxb : (xi == (i0 : Int)) = true := by simpa using hxi
          rw [if_pos hxi] at HSt
          clear hxi
          go_wp2_with (first | ((with_reducible refine at_ld 36 (.tmp 37) ?_); refine ld_pg rfl _ rfl wr.heap.size (1) rfl xp ?_ ?_ ?_; exact HXP.out; exact HY.out) | ((with_reducible refine at_st 36 (.tmp 7) (.tmp 38) ?_); refine st_pg rfl _ _ rfl X (0) rfl xp ?_ rfl ?_ ?_; exact HXP.out; exact HI4.out.th))
          go_roundg (loose.length - (k + 1))
          case measure => omega
          case rel => exact ⟨k + 1, by omega, by omega, by go_num, by rw [HSt.out]; exact Lib.hid (HI4.out.set HXP.out)⟩
        · have hxb : (xi == (i0 : Int)) = false := by simpa using hxi
          rw [if_neg hxi] at HSt
          clear hxi
          go_wp2_with fail
          go_roundg (loose.length - (k + 1))
          case measure => omega
          case rel => exact ⟨k + 1, by omega, by omega, by go_num, by rw [HSt.out]; exact HI4⟩
      · have hkl : k = loose.length := by omega
        have hre : readTo p0 loose i0 k = readP firm loose (i0 : Int) := by
          rw [hkl]; unfold readTo readP
          rw [List.take_length, HP0.out]
          congr 1
          rw [List.getD_eq_getElem?_getD, Int.toNat_natCast, List.getElem?_eq_getElem hi0]; rfl
        rw [hre] at HI
        have hltb : ¬ (k : Int) < (loose.length : Int) := by omega
        have HL := Lib.hid (readP_len (i := (i0 : Int)) H1.out.pg (fun x hx => (H1.out.pl x hx).1))
        obtain ⟨pr, hpr⟩ : ∃ q, q = readP firm loose (i0 : Int) := ⟨_, rfl⟩
        rw [← hpr] at HI HL
        have HPR := Lib.hid hpr
        clear hkl hre hpr
        have HThr : Hid (wr.there w.heap.size 0 128) := Lib.hid (HI.out.t.there HTh2.out (fun e => hXR e.symm))
        have HRr : Hid ((wr.setCells w.heap.size 0 (pv pr)).rangeAt w.heap.size 0 (pv pr)) := Lib.hid (World.rangeAt_setCells_same _ _ _ _ (by rw [pv_length, HL.out]; exact HThr.out))
        go_wp2_with (first | ((with_reducible refine at_ld 36 (.tmp 7) ?_); refine ld_pg rfl _ rfl X (0) rfl pr ?_ ?_ ?_; exact HL.out; exact HI.out.r) | ((with_reducible refine at_st 36 (.tmp 4) (.tmp 40) ?_); refine st_pg rfl _ _ rfl w.heap.size (0) rfl pr ?_ rfl ?_ ?_; exact HL.out; exact HThr.out))
        have hld := run_loadVar_mid (P := Tryd.prog) (wr.setCells w.heap.size 0 (pv pr)) w.heap.size 0 36 (pv pr) _ HRr.out Tryd.underlying36 rfl (size_of HL.out)
        have h1 : Touch (fun _ => False) w wr := ((Touch.of_below (S := fun b => b = X) HB2.out).trans HI.out.t).old (fun k hk e => by omega)
        refine bodyPost_ret (v := .tuple #[.agg (pv pr).toArray, .nilIface]) (results_pg Tryd.results19 _ _ _ _ _ rfl rfl hld) rfl ⟨_, by rw [← HCode.out, if_pos rfl, ← HPR.out], ?_, ?_⟩
        · rw [← HCode.out]; exact ErrC.nil _ _
        · exact (Touch.setCells h1 w.heap.size (.inr (Nat.le_refl _)) (pv pr) 0 wr h1).below (Nat.le_refl _) (fun k h => h.elim)
  · obtain ⟨tt, xx, rfl⟩ := he.iface hc
    have HE := Lib.hid he
    have HR : Hid ((w1.setCells w.heap.size 0 (pv zp)).rangeAt w.heap.size 0 (pv zp)) := Lib.hid (World.rangeAt_setCells_same _ _ _ _ (by rw [pv_length, zp_length]; exact HTh.out))
    clear he hb1 hcode
    go_wp2_with ((with_reducible refine at_st 36 (.tmp 4) (.tmp 15) ?_); refine st_pg rfl _ _ rfl w.heap.size (0) rfl zp ?_ rfl ?_ ?_; exact zp_length; exact HTh.out)
    have hld := run_loadVar_mid (P := Tryd.prog) (w1.setCells w.heap.size 0 (pv zp)) w.heap.size 0 36 (pv zp) _ HR.out Tryd.underlying36 rfl (size_of zp_length)
    refine bodyPost_ret (v := .tuple #[.agg (pv zp).toArray, .iface tt xx]) (results_pg Tryd.results19 _ _ _ _ _ rfl rfl hld) rfl ⟨_, by rw [← HCode.out, if_neg hc], ?_, ?_⟩
    · have ht := Touch.setCells (Touch.refl (fun k => k = w.heap.size) w1) w.heap.size (.inl rfl) (pv zp) 0 w1 (Touch.refl _ _)
      have h2 := err_touch HE.out ht (fun k hk e => by simp at hk; omega)
      rw [← HCode.out]
      exact h2.mono (by simp)
    · have h1 : Touch (fun _ => False) w w1 := Touch.of_below HB.out
      exact (Touch.setCells h1 w.heap.size (.inr (Nat.le_refl _)) (pv zp) 0 w1 h1).below (Nat.le_refl _) (fun k h => h.elim)
end Go.Proofs.YthleapofcoidoaaDoor
