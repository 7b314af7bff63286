/- The reference's numbers in bytes, told in the same closed words. Numbers in bytes: the plain laws of layer 3's functions (the printed ones told in closed words). Arrays of bytes of other types: what loads, stores and compares them. -/
import Derived.Test.YtmnkgcgmbdkjaaaDoorHD
set_option linter.unusedVariables false
set_option linter.unusedSimpArgs false
namespace Go.Proofs.YtmnkgcgmbdkjaaaDoor
open Go.RowKit Go.Proofs.YtmnkgcgmbdkjaaaDoorW.PrintWords Go.Proofs.YtmnkgcgmbdkjaaaDoorW.PrintLast Go.Proofs.YtmnkgcgmbdkjaaaDoorW.PrintMore Go.Proofs.YtmnkgcgmbdkjaaaDoor.PSuperPlays
set_option linter.unusedVariables false
set_option linter.unusedSimpArgs false

theorem strOf_append (a b : List Int) : strOfNums (a ++ b) = strOfNums a ++ strOfNums b := by
  apply ByteArray.ext
  simp [strOfNums]
theorem strOf_nil : strOfNums [] = ⟨#[]⟩ := rfl
theorem strOf_snoc_empty (a : List Int) : strOfNums a ++ (⟨#[]⟩ : ByteArray) = strOfNums a := by rw [← strOf_nil, ← strOf_append, List.append_nil]
theorem wrap_div {x : Int} (h0 : 0 ≤ x) (h1 : x ≤ 9223372036854775807) : wrap64 (Int.tdiv x 256) = x / 256 := by
  rw [Int.tdiv_eq_ediv_of_nonneg h0]; unfold wrap64; omega
theorem wrap_up {i : Int} (h0 : 0 ≤ i) (h1 : i ≤ 100) : wrap64 (i + 1) = i + 1 := by unfold wrap64; omega
theorem rput_step (k : Nat) (w x i : Int) (s : ByteArray) (h0 : 0 ≤ x) (h1 : x ≤ 9223372036854775807) (hi0 : 0 ≤ i) (hi : i < w) (hi1 : i ≤ 100) (hs : s.size ≤ 100) : dynamoref03_Put.l0 (k + 1) w x s i = dynamoref03_Put.l0 k w (x / 256) (strOfNums [x % 256] ++ s) (i + 1) := by
  have e : Int.tmod x 256 % 256 = x % 256 := by rw [Int.tmod_eq_emod_of_nonneg h0]; omega
  rw [dynamoref03_Put.l0, if_pos hi, e]
  simp only [Option.bind_some]
  rw [if_pos (by rw [strOf_size]; simp; omega), wrap_div h0 h1, wrap_up hi0 hi1]
theorem rput_end (k : Nat) (w x i : Int) (s : ByteArray) (hi : ¬ i < w) : dynamoref03_Put.l0 (k + 1) w x s i = some s := by
  rw [dynamoref03_Put.l0, if_neg hi]
theorem rput_f (w n : Int) (hn : n ≤ 9223372036854775807) (hf : fitsB w n = true) : dynamoref03_Put.f 7 w n = some (putB w n) := by
  unfold dynamoref03_Put.f putB
  rw [if_pos hf]
  simp only [fitsB, decide_eq_true_eq] at hf
  obtain ⟨h1, h4, g0, _⟩ := hf
  have g1 : 0 ≤ n / 256 ∧ n / 256 ≤ 9223372036854775807 := by omega
  have g2 : 0 ≤ n / 256 / 256 ∧ n / 256 / 256 ≤ 9223372036854775807 := by omega
  have g3 : 0 ≤ n / 256 / 256 / 256 ∧ n / 256 / 256 / 256 ≤ 9223372036854775807 := by omega
  have z0 : (⟨#[]⟩ : ByteArray).size ≤ 100 := by show 0 ≤ 100; omega
  rcases four h1 h4 with rfl | rfl | rfl | rfl
  · rw [rput_step _ _ _ _ _ g0 hn (by omega) (by omega) (by omega) z0, rput_end _ _ _ _ _ (by omega), strOf_snoc_empty]
    rfl
  · rw [rput_step _ _ _ _ _ g0 hn (by omega) (by omega) (by omega) z0, strOf_snoc_empty, rput_step _ _ _ _ _ g1.1 g1.2 (by omega) (by omega) (by omega) (by rw [strOf_size]; simp), ← strOf_append, rput_end _ _ _ _ _ (by omega)]
    rfl
  · rw [rput_step _ _ _ _ _ g0 hn (by omega) (by omega) (by omega) z0, strOf_snoc_empty, rput_step _ _ _ _ _ g1.1 g1.2 (by omega) (by omega) (by omega) (by rw [strOf_size]; simp), ← strOf_append, rput_step _ _ _ _ _ g2.1 g2.2 (by omega) (by omega) (by omega) (by rw [strOf_size]; simp), ← strOf_append, rput_end _ _ _ _ _ (by omega)]
    simp [putL, Int.ediv_ediv]
  · rw [rput_step _ _ _ _ _ g0 hn (by omega) (by omega) (by omega) z0, strOf_snoc_empty, rput_step _ _ _ _ _ g1.1 g1.2 (by omega) (by omega) (by omega) (by rw [strOf_size]; simp), ← strOf_append, rput_step _ _ _ _ _ g2.1 g2.2 (by omega) (by omega) (by omega) (by rw [strOf_size]; simp), ← strOf_append, rput_step _ _ _ _ _ g3.1 g3.2 (by omega) (by omega) (by omega) (by rw [strOf_size]; simp), ← strOf_append, rput_end _ _ _ _ _ (by omega)]
    simp [putL, Int.ediv_ediv]
end Go.Proofs.YtmnkgcgmbdkjaaaDoor
namespace Go.Proofs.YtmnkgcgmbdkjaaaDoor
open Go.RowKit Go.Proofs.YtmnkgcgmbdkjaaaDoorW.PrintWords Go.Proofs.YtmnkgcgmbdkjaaaDoorW.PrintLast Go.Proofs.YtmnkgcgmbdkjaaaDoorW.PrintMore Go.Proofs.YtmnkgcgmbdkjaaaDoor.PSuperPlays
set_option linter.unusedVariables false
set_option linter.unusedSimpArgs false

theorem get_f (s : ByteArray) : ∀ (d k : Nat) (w : Int), w = (k + d : Nat) → w ≤ 4 → w ≤ s.size → ∀ m, d < m → dynamoref03_Get.l0 m s w (getK s k) k = some (getK s w.toNat)
  | 0, k, w, hw, _, _, m, hm => by
    obtain ⟨m, rfl⟩ : ∃ j, m = j + 1 := ⟨m - 1, by omega⟩
    simp only [dynamoref03_Get.l0]
    rw [if_neg (by omega)]
    simp [hw]
  | d + 1, k, w, hw, h4, hs, m, hm => by
    obtain ⟨m, rfl⟩ : ∃ j, m = j + 1 := ⟨m - 1, by omega⟩
    have hr := getK_range s k
    have hb := bt_range s k
    have hp : (256 : Int) ^ k ≤ 16777216 := by
      rcases (show k = 0 ∨ k = 1 ∨ k = 2 ∨ k = 3 by omega) with rfl | rfl | rfl | rfl <;> decide
    have hg : getK s k < 16777216 := by omega
    obtain ⟨hg0, _⟩ := hr
    clear hp
    have ih := get_f s d (k + 1) w (by rw [hw]; omega) h4 hs m (by omega)
    have c1 : (k : Int) < w := by omega
    have c2 : (0 : Int) ≤ k := by omega
    have c3 : (k : Int) < (s.size : Int) := by omega
    have e2 : wrap64 ((k : Int) + 1) = ((k + 1 : Nat) : Int) := by clear ih; unfold wrap64; omega
    have e0 : wrap64 (bt s k) = bt s k := by clear ih e2; unfold wrap64; omega
    have e1 : wrap64 (wrap64 (256 * getK s k) + bt s k) = getK s (k + 1) := by clear ih e2 e0; simp only [getK]; unfold wrap64; omega
    simp only [dynamoref03_Get.l0]
    rw [if_pos c1, if_pos c2, if_pos c3, e0, e1, e2]
    exact ih
end Go.Proofs.YtmnkgcgmbdkjaaaDoor
namespace Go.Proofs.YtmnkgcgmbdkjaaaDoor
open Go.RowKit Go.Extern.Stop Go.Stop Go.Extern Go.Proofs.YtmnkgcgmbdkjaaaDoorW.PrintWords Go.Proofs.YtmnkgcgmbdkjaaaDoorW.PrintLast Go.Proofs.YtmnkgcgmbdkjaaaDoorW.PrintMore Go.Proofs.YtmnkgcgmbdkjaaaDoor.PSuperPlays
set_option linter.unusedVariables false
set_option linter.unusedSimpArgs false
theorem pv_all {p : Pg} : (pv p).toArray.all (·.oneCell') = true := all_oneCell_toArray (pv_one p)
abbrev zs : Pg := List.replicate 30 0
theorem zs_length : (List.replicate 30 0 : Pg).length = 30 := List.length_replicate
theorem szs : (pv (List.replicate 30 0)).toArray.size = 30 := by simp [pv_length]
theorem szz : (pv zp).toArray.size = 128 := by simp [pv_length, zp_length]
theorem info_pr : (Tryd.prog.info? 35).map (fun i => (i.zero, i.size)) = some (some (.agg (pv zp).toArray), 128) := by kernel_rfl
theorem zero_pr : ∀ w, (zeroValue 35).run Tryd.prog w = .ok (.agg (pv zp).toArray) w := (zero_of_info info_pr).1
theorem size_pr : (Tryd.prog.info? 35).map (·.size) = some 128 := (zero_of_info info_pr).2
theorem build_pr (w : World) : (Instr.build 35 #[]).run Tryd.prog w = .ok (.agg (pv zp).toArray) w := by kernel_rfl
theorem eql_pr (w : World) (p q : Pg) (hp : p.length = 128) (hq : q.length = 128) : (binOp .eql 35 (.agg (pv p).toArray) (.agg (pv q).toArray)).run Tryd.prog w = .ok (.bool (p == q)) w :=
  run_eql_bytes w 35 5 128 Tryd.underlying35 Tryd.underlying5 sizeOf_u8 p q hp hq
theorem neq_pr (w : World) (p q : Pg) (hp : p.length = 128) (hq : q.length = 128) : (binOp .neq 35 (.agg (pv p).toArray) (.agg (pv q).toArray)).run Tryd.prog w = .ok (.bool (!(p == q))) w := by
  have h : (Op.equalIn 10000 35 (.agg (pv p).toArray) (.agg (pv q).toArray)).run Tryd.prog w = .ok (p == q) w := run_equalIn_bytes w 9998 35 5 128 Tryd.underlying35 Tryd.underlying5 sizeOf_u8 p q hp hq
  rw [run_neq_struct, h]
  rfl
theorem szof_pr {p : Pg} (hp : p.length = 128) : (Tryd.prog.info? 35).map (·.size) = some (pv p).length := by rw [size_pr, pv_length, hp]
section
variable {ops : Array Oper} {rest : List Oper} {op : Oper} {a : Act} {w : World} {Q : Exit → Act → World → Prop}
theorem ld_pr (hgd : op.guard = none) (x : Operand) (ho : op.op = .load 35 x) (b o : Nat) (hx : a.eval x = .pointer (some ⟨b, o, none⟩)) (p : Pg) (hp : p.length = 128) (hc : w.rangeAt b o (pv p))
    (h : wpList Tryd.prog ops Q rest (a.put op.dst (.agg (pv p).toArray)) w) : wpList Tryd.prog ops Q (op :: rest) a w :=
  wpList_load_mid hgd 35 x ho b o hx (pv p) _ hc Tryd.underlying35 rfl (szof_pr hp) h
theorem st_pr (hgd : op.guard = none) (x y : Operand) (ho : op.op = .store 35 x y) (b o : Nat) (hx : a.eval x = .pointer (some ⟨b, o, none⟩)) (p : Pg) (hp : p.length = 128) (hy : a.eval y = .agg (pv p).toArray) (ht : w.there b o 128)
    (h : wpList Tryd.prog ops Q rest (a.put op.dst undef) (w.setCells b o (pv p))) : wpList Tryd.prog ops Q (op :: rest) a w := by
  refine wpList_store_mid hgd 35 x y ho b o (pv p).toArray hx hy (by simpa [pv_length, hp] using ht) (by simpa using szof_pr hp) pv_all ?_
  simpa using h
theorem stn_pr (hgd : op.guard = none) (x y : Operand) (ho : op.op = .store 35 x y) (w0 : World) (c : Array Value) (t : TypeId) (hw : w = w0.alloc (.cells c t)) (hx : a.eval x = .pointer (some ⟨w0.heap.size, 0, none⟩)) (p : Pg) (hp : p.length = 128) (hy : a.eval y = .agg (pv p).toArray) (hc : c.size = 128)
    (h : wpList Tryd.prog ops Q rest (a.put op.dst undef) (w0.alloc (.cells (pv p).toArray t))) : wpList Tryd.prog ops Q (op :: rest) a w := by
  subst hw
  refine wpList_plain hgd fun K hK => ?_
  unfold Oper.wp execOp
  simp only [ho, hx, hy, Instr.storeAt, Instr.sureAddr, Sem.run_bind, Sem.run_pure, Result.andThen_ok]
  rw [run_storeVar_row _ w0.heap.size t 35 c (pv p).toArray (heap_alloc_last w0 _) (by rw [size_pr]; simp [pv_length, hp]) (by simp [pv_length, hp, hc]) pv_all, World.setRow_alloc_new]
  exact hK _ _ h
theorem al_pr (hgd : op.guard = none) (ho : op.op = .alloc 35) (h : wpList Tryd.prog ops Q rest (a.put op.dst (.pointer (some ⟨w.heap.size, 0, none⟩))) (w.alloc (.cells (pv zp).toArray 35))) : wpList Tryd.prog ops Q (op :: rest) a w := by
  refine wpList_plain hgd fun K hK => ?_
  unfold Oper.wp execOp
  simp only [ho, Instr.alloc, Sem.run_bind, zero_pr, Result.andThen_ok]
  exact hK _ _ h
theorem ldw_pr (hw : Region.wanted op (yielded ops a.tmps) = true) (x : Operand) (ho : op.op = .load 35 x) (b o : Nat) (hx : a.eval x = .pointer (some ⟨b, o, none⟩)) (p : Pg) (hp : p.length = 128) (hc : w.rangeAt b o (pv p))
    (h : wpList Tryd.prog ops Q rest (a.put op.dst (.agg (pv p).toArray)) w) : wpList Tryd.prog ops Q (op :: rest) a w :=
  wpList_want hw fun _ hK => wp_load_mid 35 x ho b o hx (pv p) _ hc Tryd.underlying35 rfl (szof_pr hp) (hK _ _ h)
theorem eqw_pr (hw : Region.wanted op (yielded ops a.tmps) = true) (x y : Operand) (ho : op.op = .binOp .eql 35 x y 35) (p q : Pg) (hx : a.eval x = .agg (pv p).toArray) (hy : a.eval y = .agg (pv q).toArray) (hp : p.length = 128) (hq : q.length = 128)
    (h : wpList Tryd.prog ops Q rest (a.put op.dst (.bool (p == q))) w) : wpList Tryd.prog ops Q (op :: rest) a w := by
  refine wpList_want hw fun K hK => ?_
  unfold Oper.wp execOp
  have he := eql_pr w p q hp hq
  have hgq := run_eqGuard_agg (P := Tryd.prog) w .eql 35 x y (pv p).toArray (pv q).toArray (by kernel_rfl)
  simp only [ho, hx, hy, Sem.run_bind, Sem.run_pure, Result.andThen_ok, he, hgq]
  exact hK _ _ h
theorem new_pr (hw : Region.wanted op (yielded ops a.tmps) = true) (x y : Operand) (ho : op.op = .binOp .neq 35 x y 35) (p q : Pg) (hx : a.eval x = .agg (pv p).toArray) (hy : a.eval y = .agg (pv q).toArray) (hp : p.length = 128) (hq : q.length = 128)
    (h : wpList Tryd.prog ops Q rest (a.put op.dst (.bool (!(p == q)))) w) : wpList Tryd.prog ops Q (op :: rest) a w := by
  refine wpList_want hw fun K hK => ?_
  unfold Oper.wp execOp
  have he := neq_pr w p q hp hq
  have hgq := run_eqGuard_agg (P := Tryd.prog) w .neq 35 x y (pv p).toArray (pv q).toArray (by kernel_rfl)
  simp only [ho, hx, hy, Sem.run_bind, Sem.run_pure, Result.andThen_ok, he, hgq]
  exact hK _ _ h
end
theorem info_bs : (Tryd.prog.info? 70).map (fun i => (i.zero, i.size)) = some (some (.agg (pv (List.replicate 30 0)).toArray), 30) := by kernel_rfl
theorem zero_bs : ∀ w, (zeroValue 70).run Tryd.prog w = .ok (.agg (pv (List.replicate 30 0)).toArray) w := (zero_of_info info_bs).1
theorem size_bs : (Tryd.prog.info? 70).map (·.size) = some 30 := (zero_of_info info_bs).2
theorem build_bs (w : World) : (Instr.build 70 #[]).run Tryd.prog w = .ok (.agg (pv (List.replicate 30 0)).toArray) w := by kernel_rfl
theorem eql_bs (w : World) (p q : Pg) (hp : p.length = 30) (hq : q.length = 30) : (binOp .eql 70 (.agg (pv p).toArray) (.agg (pv q).toArray)).run Tryd.prog w = .ok (.bool (p == q)) w :=
  run_eql_bytes w 70 5 30 Tryd.underlying70 Tryd.underlying5 sizeOf_u8 p q hp hq
theorem neq_bs (w : World) (p q : Pg) (hp : p.length = 30) (hq : q.length = 30) : (binOp .neq 70 (.agg (pv p).toArray) (.agg (pv q).toArray)).run Tryd.prog w = .ok (.bool (!(p == q))) w := by
  have h : (Op.equalIn 10000 70 (.agg (pv p).toArray) (.agg (pv q).toArray)).run Tryd.prog w = .ok (p == q) w := run_equalIn_bytes w 9998 70 5 30 Tryd.underlying70 Tryd.underlying5 sizeOf_u8 p q hp hq
  rw [run_neq_struct, h]
  rfl
theorem szof_bs {p : Pg} (hp : p.length = 30) : (Tryd.prog.info? 70).map (·.size) = some (pv p).length := by rw [size_bs, pv_length, hp]
section
variable {ops : Array Oper} {rest : List Oper} {op : Oper} {a : Act} {w : World} {Q : Exit → Act → World → Prop}
theorem ld_bs (hgd : op.guard = none) (x : Operand) (ho : op.op = .load 70 x) (b o : Nat) (hx : a.eval x = .pointer (some ⟨b, o, none⟩)) (p : Pg) (hp : p.length = 30) (hc : w.rangeAt b o (pv p))
    (h : wpList Tryd.prog ops Q rest (a.put op.dst (.agg (pv p).toArray)) w) : wpList Tryd.prog ops Q (op :: rest) a w :=
  wpList_load_mid hgd 70 x ho b o hx (pv p) _ hc Tryd.underlying70 rfl (szof_bs hp) h
theorem st_bs (hgd : op.guard = none) (x y : Operand) (ho : op.op = .store 70 x y) (b o : Nat) (hx : a.eval x = .pointer (some ⟨b, o, none⟩)) (p : Pg) (hp : p.length = 30) (hy : a.eval y = .agg (pv p).toArray) (ht : w.there b o 30)
    (h : wpList Tryd.prog ops Q rest (a.put op.dst undef) (w.setCells b o (pv p))) : wpList Tryd.prog ops Q (op :: rest) a w := by
  refine wpList_store_mid hgd 70 x y ho b o (pv p).toArray hx hy (by simpa [pv_length, hp] using ht) (by simpa using szof_bs hp) pv_all ?_
  simpa using h
theorem stn_bs (hgd : op.guard = none) (x y : Operand) (ho : op.op = .store 70 x y) (w0 : World) (c : Array Value) (t : TypeId) (hw : w = w0.alloc (.cells c t)) (hx : a.eval x = .pointer (some ⟨w0.heap.size, 0, none⟩)) (p : Pg) (hp : p.length = 30) (hy : a.eval y = .agg (pv p).toArray) (hc : c.size = 30)
    (h : wpList Tryd.prog ops Q rest (a.put op.dst undef) (w0.alloc (.cells (pv p).toArray t))) : wpList Tryd.prog ops Q (op :: rest) a w := by
  subst hw
  refine wpList_plain hgd fun K hK => ?_
  unfold Oper.wp execOp
  simp only [ho, hx, hy, Instr.storeAt, Instr.sureAddr, Sem.run_bind, Sem.run_pure, Result.andThen_ok]
  rw [run_storeVar_row _ w0.heap.size t 70 c (pv p).toArray (heap_alloc_last w0 _) (by rw [size_bs]; simp [pv_length, hp]) (by simp [pv_length, hp, hc]) pv_all, World.setRow_alloc_new]
  exact hK _ _ h
theorem al_bs (hgd : op.guard = none) (ho : op.op = .alloc 70) (h : wpList Tryd.prog ops Q rest (a.put op.dst (.pointer (some ⟨w.heap.size, 0, none⟩))) (w.alloc (.cells (pv (List.replicate 30 0)).toArray 70))) : wpList Tryd.prog ops Q (op :: rest) a w := by
  refine wpList_plain hgd fun K hK => ?_
  unfold Oper.wp execOp
  simp only [ho, Instr.alloc, Sem.run_bind, zero_bs, Result.andThen_ok]
  exact hK _ _ h
theorem ldw_bs (hw : Region.wanted op (yielded ops a.tmps) = true) (x : Operand) (ho : op.op = .load 70 x) (b o : Nat) (hx : a.eval x = .pointer (some ⟨b, o, none⟩)) (p : Pg) (hp : p.length = 30) (hc : w.rangeAt b o (pv p))
    (h : wpList Tryd.prog ops Q rest (a.put op.dst (.agg (pv p).toArray)) w) : wpList Tryd.prog ops Q (op :: rest) a w :=
  wpList_want hw fun _ hK => wp_load_mid 70 x ho b o hx (pv p) _ hc Tryd.underlying70 rfl (szof_bs hp) (hK _ _ h)
theorem eqw_bs (hw : Region.wanted op (yielded ops a.tmps) = true) (x y : Operand) (ho : op.op = .binOp .eql 70 x y 70) (p q : Pg) (hx : a.eval x = .agg (pv p).toArray) (hy : a.eval y = .agg (pv q).toArray) (hp : p.length = 30) (hq : q.length = 30)
    (h : wpList Tryd.prog ops Q rest (a.put op.dst (.bool (p == q))) w) : wpList Tryd.prog ops Q (op :: rest) a w := by
  refine wpList_want hw fun K hK => ?_
  unfold Oper.wp execOp
  have he := eql_bs w p q hp hq
  have hgq := run_eqGuard_agg (P := Tryd.prog) w .eql 70 x y (pv p).toArray (pv q).toArray (by kernel_rfl)
  simp only [ho, hx, hy, Sem.run_bind, Sem.run_pure, Result.andThen_ok, he, hgq]
  exact hK _ _ h
theorem new_bs (hw : Region.wanted op (yielded ops a.tmps) = true) (x y : Operand) (ho : op.op = .binOp .neq 70 x y 70) (p q : Pg) (hx : a.eval x = .agg (pv p).toArray) (hy : a.eval y = .agg (pv q).toArray) (hp : p.length = 30) (hq : q.length = 30)
    (h : wpList Tryd.prog ops Q rest (a.put op.dst (.bool (!(p == q)))) w) : wpList Tryd.prog ops Q (op :: rest) a w := by
  refine wpList_want hw fun K hK => ?_
  unfold Oper.wp execOp
  have he := neq_bs w p q hp hq
  have hgq := run_eqGuard_agg (P := Tryd.prog) w .neq 70 x y (pv p).toArray (pv q).toArray (by kernel_rfl)
  simp only [ho, hx, hy, Sem.run_bind, Sem.run_pure, Result.andThen_ok, he, hgq]
  exact hK _ _ h
end
theorem info_b3 : (Tryd.prog.info? 66).map (fun i => (i.zero, i.size)) = some (some (.agg (pv (List.replicate 30 0)).toArray), 30) := by kernel_rfl
theorem zero_b3 : ∀ w, (zeroValue 66).run Tryd.prog w = .ok (.agg (pv (List.replicate 30 0)).toArray) w := (zero_of_info info_b3).1
theorem size_b3 : (Tryd.prog.info? 66).map (·.size) = some 30 := (zero_of_info info_b3).2
theorem build_b3 (w : World) : (Instr.build 66 #[]).run Tryd.prog w = .ok (.agg (pv (List.replicate 30 0)).toArray) w := by kernel_rfl
theorem eql_b3 (w : World) (p q : Pg) (hp : p.length = 30) (hq : q.length = 30) : (binOp .eql 66 (.agg (pv p).toArray) (.agg (pv q).toArray)).run Tryd.prog w = .ok (.bool (p == q)) w :=
  run_eql_bytes w 66 5 30 Tryd.underlying66 Tryd.underlying5 sizeOf_u8 p q hp hq
theorem neq_b3 (w : World) (p q : Pg) (hp : p.length = 30) (hq : q.length = 30) : (binOp .neq 66 (.agg (pv p).toArray) (.agg (pv q).toArray)).run Tryd.prog w = .ok (.bool (!(p == q))) w := by
  have h : (Op.equalIn 10000 66 (.agg (pv p).toArray) (.agg (pv q).toArray)).run Tryd.prog w = .ok (p == q) w := run_equalIn_bytes w 9998 66 5 30 Tryd.underlying66 Tryd.underlying5 sizeOf_u8 p q hp hq
  rw [run_neq_struct, h]
  rfl
theorem szof_b3 {p : Pg} (hp : p.length = 30) : (Tryd.prog.info? 66).map (·.size) = some (pv p).length := by rw [size_b3, pv_length, hp]
section
variable {ops : Array Oper} {rest : List Oper} {op : Oper} {a : Act} {w : World} {Q : Exit → Act → World → Prop}
theorem ld_b3 (hgd : op.guard = none) (x : Operand) (ho : op.op = .load 66 x) (b o : Nat) (hx : a.eval x = .pointer (some ⟨b, o, none⟩)) (p : Pg) (hp : p.length = 30) (hc : w.rangeAt b o (pv p))
    (h : wpList Tryd.prog ops Q rest (a.put op.dst (.agg (pv p).toArray)) w) : wpList Tryd.prog ops Q (op :: rest) a w :=
  wpList_load_mid hgd 66 x ho b o hx (pv p) _ hc Tryd.underlying66 rfl (szof_b3 hp) h
theorem st_b3 (hgd : op.guard = none) (x y : Operand) (ho : op.op = .store 66 x y) (b o : Nat) (hx : a.eval x = .pointer (some ⟨b, o, none⟩)) (p : Pg) (hp : p.length = 30) (hy : a.eval y = .agg (pv p).toArray) (ht : w.there b o 30)
    (h : wpList Tryd.prog ops Q rest (a.put op.dst undef) (w.setCells b o (pv p))) : wpList Tryd.prog ops Q (op :: rest) a w := by
  refine wpList_store_mid hgd 66 x y ho b o (pv p).toArray hx hy (by simpa [pv_length, hp] using ht) (by simpa using szof_b3 hp) pv_all ?_
  simpa using h
theorem stn_b3 (hgd : op.guard = none) (x y : Operand) (ho : op.op = .store 66 x y) (w0 : World) (c : Array Value) (t : TypeId) (hw : w = w0.alloc (.cells c t)) (hx : a.eval x = .pointer (some ⟨w0.heap.size, 0, none⟩)) (p : Pg) (hp : p.length = 30) (hy : a.eval y = .agg (pv p).toArray) (hc : c.size = 30)
    (h : wpList Tryd.prog ops Q rest (a.put op.dst undef) (w0.alloc (.cells (pv p).toArray t))) : wpList Tryd.prog ops Q (op :: rest) a w := by
  subst hw
  refine wpList_plain hgd fun K hK => ?_
  unfold Oper.wp execOp
  simp only [ho, hx, hy, Instr.storeAt, Instr.sureAddr, Sem.run_bind, Sem.run_pure, Result.andThen_ok]
  rw [run_storeVar_row _ w0.heap.size t 66 c (pv p).toArray (heap_alloc_last w0 _) (by rw [size_b3]; simp [pv_length, hp]) (by simp [pv_length, hp, hc]) pv_all, World.setRow_alloc_new]
  exact hK _ _ h
theorem al_b3 (hgd : op.guard = none) (ho : op.op = .alloc 66) (h : wpList Tryd.prog ops Q rest (a.put op.dst (.pointer (some ⟨w.heap.size, 0, none⟩))) (w.alloc (.cells (pv (List.replicate 30 0)).toArray 66))) : wpList Tryd.prog ops Q (op :: rest) a w := by
  refine wpList_plain hgd fun K hK => ?_
  unfold Oper.wp execOp
  simp only [ho, Instr.alloc, Sem.run_bind, zero_b3, Result.andThen_ok]
  exact hK _ _ h
theorem ldw_b3 (hw : Region.wanted op (yielded ops a.tmps) = true) (x : Operand) (ho : op.op = .load 66 x) (b o : Nat) (hx : a.eval x = .pointer (some ⟨b, o, none⟩)) (p : Pg) (hp : p.length = 30) (hc : w.rangeAt b o (pv p))
    (h : wpList Tryd.prog ops Q rest (a.put op.dst (.agg (pv p).toArray)) w) : wpList Tryd.prog ops Q (op :: rest) a w :=
  wpList_want hw fun _ hK => wp_load_mid 66 x ho b o hx (pv p) _ hc Tryd.underlying66 rfl (szof_b3 hp) (hK _ _ h)
theorem eqw_b3 (hw : Region.wanted op (yielded ops a.tmps) = true) (x y : Operand) (ho : op.op = .binOp .eql 66 x y 66) (p q : Pg) (hx : a.eval x = .agg (pv p).toArray) (hy : a.eval y = .agg (pv q).toArray) (hp : p.length = 30) (hq : q.length = 30)
    (h : wpList Tryd.prog ops Q rest (a.put op.dst (.bool (p == q))) w) : wpList Tryd.prog ops Q (op :: rest) a w := by
  refine wpList_want hw fun K hK => ?_
  unfold Oper.wp execOp
  have he := eql_b3 w p q hp hq
  have hgq := run_eqGuard_agg (P := Tryd.prog) w .eql 66 x y (pv p).toArray (pv q).toArray (by kernel_rfl)
  simp only [ho, hx, hy, Sem.run_bind, Sem.run_pure, Result.andThen_ok, he, hgq]
  exact hK _ _ h
theorem new_b3 (hw : Region.wanted op (yielded ops a.tmps) = true) (x y : Operand) (ho : op.op = .binOp .neq 66 x y 66) (p q : Pg) (hx : a.eval x = .agg (pv p).toArray) (hy : a.eval y = .agg (pv q).toArray) (hp : p.length = 30) (hq : q.length = 30)
    (h : wpList Tryd.prog ops Q rest (a.put op.dst (.bool (!(p == q)))) w) : wpList Tryd.prog ops Q (op :: rest) a w := by
  refine wpList_want hw fun K hK => ?_
  unfold Oper.wp execOp
  have he := neq_b3 w p q hp hq
  have hgq := run_eqGuard_agg (P := Tryd.prog) w .neq 66 x y (pv p).toArray (pv q).toArray (by kernel_rfl)
  simp only [ho, hx, hy, Sem.run_bind, Sem.run_pure, Result.andThen_ok, he, hgq]
  exact hK _ _ h
end
section
variable {ops : Array Oper} {rest : List Oper} {op : Oper} {a : Act} {w : World} {Q : Exit → Act → World → Prop}
theorem new_pg (hw : Region.wanted op (yielded ops a.tmps) = true) (x y : Operand) (ho : op.op = .binOp .neq 36 x y 36) (p q : Pg) (hx : a.eval x = .agg (pv p).toArray) (hy : a.eval y = .agg (pv q).toArray) (hp : p.length = 128) (hq : q.length = 128)
    (h : wpList Tryd.prog ops Q rest (a.put op.dst (.bool (!(p == q)))) w) : wpList Tryd.prog ops Q (op :: rest) a w := by
  refine wpList_want hw fun K hK => ?_
  unfold Oper.wp execOp
  have he := neq_pg w p q hp hq
  have hgq := run_eqGuard_agg (P := Tryd.prog) w .neq 36 x y (pv p).toArray (pv q).toArray (by kernel_rfl)
  simp only [ho, hx, hy, Sem.run_bind, Sem.run_pure, Result.andThen_ok, he, hgq]
  exact hK _ _ h
end
theorem xor_zero8 (x : UInt8) : x ^^^ 0 = x := by simp
theorem xor_self8 {x y : UInt8} (h : x ^^^ y = x) : y = 0 := by
  have := congrArg (fun z => x ^^^ z) h
  simpa [← UInt8.xor_assoc] using this
theorem xor8 (x : UInt8) (m : Nat) (hm : m < 256) : bits .xor .u8 ((x.toNat : Nat) : Int) (m : Int) = (((x ^^^ UInt8.ofNat m).toNat : Nat) : Int) := by
  have hx := x.toNat_lt
  rw [u8_xor_nat _ _ hx hm, UInt8.toNat_xor, UInt8.toNat_ofNat', Nat.mod_eq_of_lt (by simpa using hm)]
theorem spl_same (p : Pg) (i : Nat) (x : UInt8) (h : p[i]? = some x) : spl p i [x] = p := by
  have hi : i < p.length := (List.getElem?_eq_some_iff.1 h).1
  apply List.ext_getElem?; intro j
  rw [spl_get _ _ _ (by simp; omega)]
  by_cases h1 : j < i
  · rw [if_pos h1]
  · rw [if_neg h1]
    by_cases h2 : j = i
    · subst h2; rw [if_pos (by simp), h]; simp
    · rw [if_neg (by simp; omega)]
theorem fr_sum (k : Int) (d : ByteArray) : getK (strP ((framP k d).take 4)) 4 = ((sumL ((framP k d).drop 4) : Nat) : Int) := by
  rw [framP_take, framP_drop, strP_data, getK_sum]
theorem fr_read (k : Int) (d : ByteArray) (h : frC k d = 0) : rdC (framP k d) = 0 ∧ rdK (framP k d) = k ∧ rdD (framP k d) = d := by
  have h0 := rd_lay k d h
  obtain ⟨⟨h1, h2⟩, h3⟩ := frC_zero.1 h
  refine ⟨h0, ?_, ?_⟩
  · unfold rdK; rw [if_pos h0]; exact framP_kind k d (by omega) h2
  · unfold rdD; rw [if_pos h0]; exact framP_data k d h3
theorem fr_bad {p : Pg} {c : Int} (h : rdC p = c) (hc : c ≠ 0) : rdK p = 0 ∧ rdD p = ⟨#[]⟩ := by
  unfold rdK rdD; rw [h, if_neg hc, if_neg hc]; exact ⟨rfl, rfl⟩
/-- a set in a variable -/
structure SetAt (W : World) (b : Nat) (p : Pg) : Prop where
  r : W.rangeAt b 0 (pv p)
  t : W.there b 0 30
  l : p.length = 30
theorem SetAt.lt {W : World} {b : Nat} {p : Pg} (h : SetAt W b p) : b < W.heap.size := by
  obtain ⟨u, hu⟩ := Option.isSome_iff_exists.1 (h.t 0 (by omega)).1
  exact cell_lt hu
theorem SetAt.under {W W' : World} {b n : Nat} {p : Pg} (h : SetAt W b p) (hb : Below n W W') (hn : b < n) : SetAt W' b p :=
  ⟨fun j v hv => (hb.cell (p := ⟨b, 0 + j, none⟩) hn).trans (h.r j v hv), fun j hj => ⟨by rw [hb.cell (p := ⟨b, 0 + j, none⟩) hn]; exact (h.t j hj).1, by rw [hb.frozen (p := ⟨b, 0 + j, none⟩) hn]; exact (h.t j hj).2⟩, h.l⟩
theorem SetAt.new (W : World) (t : TypeId) (p : Pg) (hp : p.length = 30) : SetAt (W.alloc (.cells (pv p).toArray t)) W.heap.size p :=
  ⟨range_new W p t, there_new W _ t 30 (by simp [pv_length, hp]), hp⟩
theorem SetAt.byte {W : World} {b : Nat} {p : Pg} (h : SetAt W b p) (i : Nat) (x : UInt8) (hx : p[i]? = some x) : W.cell? ⟨b, i, none⟩ = some (.int .u8 (x.toNat : Int)) := by
  have := h.r i (cell x) (by rw [pv_get, hx]; rfl)
  rwa [Nat.zero_add] at this
theorem SetAt.free {W : World} {b : Nat} {p : Pg} (h : SetAt W b p) (i : Nat) (hi : i < 30) : W.frozen? ⟨b, i, none⟩ = false := by
  have := (h.t i hi).2
  rwa [Nat.zero_add] at this
theorem SetAt.some {W : World} {b : Nat} {p : Pg} (h : SetAt W b p) (i : Nat) (hi : i < 30) : (W.cell? ⟨b, i, none⟩).isSome = true := by
  have := (h.t i hi).1
  rwa [Nat.zero_add] at this
theorem SetAt.put {W : World} {b : Nat} {p : Pg} (h : SetAt W b p) (i : Nat) (x : UInt8) (hi : i < 30) : SetAt (W.setCell ⟨b, i, none⟩ (.int .u8 (x.toNat : Int))) b (p.set i x) := by
  have hin := setCells_in [.int .u8 (x.toNat : Int)] W b i
  have hs : ∀ j, j < [Value.int .u8 (x.toNat : Int)].length → (W.cell? ⟨b, i + j, none⟩).isSome = true := fun j hj => h.some _ (by simp at hj; omega)
  refine ⟨fun j v hv => ?_, World.there_setCells h.t b i [.int .u8 (x.toNat : Int)], by rw [List.length_set]; exact h.l⟩
  have hc : (W.setCell ⟨b, i, none⟩ (.int .u8 (x.toNat : Int))).cell? ⟨b, 0 + j, none⟩ = _ := hin (0 + j) hs
  rw [hc, Nat.zero_add]
  rw [pv_get] at hv
  by_cases e : i = j
  · subst e
    rw [List.getElem?_set_self (by rw [h.l]; exact hi)] at hv
    rw [if_neg (by omega), if_pos (by simp), Nat.sub_self]
    exact hv
  · rw [List.getElem?_set_ne e] at hv
    have := h.r j v (by rw [pv_get]; exact hv)
    rw [Nat.zero_add] at this
    by_cases h1 : j < i
    · rw [if_pos h1]; exact this
    · rw [if_neg h1, if_neg (by simp; omega)]; exact this
end Go.Proofs.YtmnkgcgmbdkjaaaDoor
