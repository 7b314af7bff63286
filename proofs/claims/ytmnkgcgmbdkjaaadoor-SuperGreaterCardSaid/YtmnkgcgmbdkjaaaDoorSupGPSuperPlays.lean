/- dynamolaw07.SuperGreater: the walk. -/
import Derived.Test.YtmnkgcgmbdkjaaaDoorHH
import Derived.Test.YtmnkgcgmbdkjaaaDoorHP
namespace Go.Proofs.YtmnkgcgmbdkjaaaDoor
open Go.RowKit Go.Extern.Stop Go.Stop Go.Extern Go.Proofs.YtmnkgcgmbdkjaaaDoorW.PrintWords Go.Proofs.YtmnkgcgmbdkjaaaDoorW.PrintLast Go.Proofs.YtmnkgcgmbdkjaaaDoorW.PrintMore Go.Proofs.YtmnkgcgmbdkjaaaDoor.PSuperPlays
set_option linter.unusedVariables false
set_option linter.unusedSimpArgs false
theorem num_nil_b4 (w : World) : Calls Tryd.prog 21 #[.nilIface] w fun e w' => e = .returned (.int .i64 0) ∧ Below w.heap.size w w' := (Num_nil w).mono fun e w2 h => ⟨h.1, by rw [← h.2]; exact Below.refl _ _⟩
theorem neq_rp (a b : Sup) (ha : a.u.length = 30) (hb : b.u.length = 30) (w : World) : (binOp .neq 68 (.agg (sv a).toArray) (.agg (sv b).toArray)).run Tryd.prog w = .ok (.bool (!supE a b)) w := by
  have h := eql_rp a b ha hb w
  rw [run_eql_struct] at h
  rw [run_neq_struct]
  generalize (Op.equalIn 10000 68 (.agg (sv a).toArray) (.agg (sv b).toArray)).run Tryd.prog w = r at h ⊢
  cases r with
  | ok x w1 =>
    simp only [Result.andThen_ok, Result.ok.injEq, Value.bool.injEq] at h ⊢
    exact ⟨by rw [h.1], h.2⟩
  | halt x w1 => simp [Result.andThen] at h
theorem yif_neq_rp {ops : Array Oper} {S : World → Prop} {op : Oper} {a : Act} (hw : Region.wanted op (yielded ops a.tmps) = true) (x y : Operand) (ho : op.op = .binOp .neq 68 x y 68) (p q : Sup) (hx : a.eval x = .agg (sv p).toArray) (hy : a.eval y = .agg (sv q).toArray) (hp : p.u.length = 30) (hq : q.u.length = 30) : YieldsIf Tryd.prog ops S op (.bool (!supE p q)) a :=
  .inl ⟨hw, fun w _ => by
    unfold execOp
    have he := neq_rp p q hp hq w
    have hgq := run_eqGuard_agg (P := Tryd.prog) w .neq 68 x y (sv p).toArray (sv q).toArray (by kernel_rfl)
    simp only [ho, hx, hy, Sem.run_bind, Sem.run_pure, Result.andThen_ok, he, hgq]⟩
/-- a spoilt frame has no superblock -/
theorem atP_bad (firm : List Pg) (loose : Ls) (i : Int) (h : rdC (readP firm loose i) = 3) : atP firm loose i = sup0 := by
  unfold atP
  rw [if_neg]
  unfold ldD
  split
  · rename_i g; exact g
  · unfold ldC; rw [if_pos (by rw [h]; decide), h]; decide
/-- two superblocks, each in its sector -/
def twoF (a b : Sup) : List Pg := swF (swF (List.replicate 3 zp) [] a) [] b
section
variable {a b : Sup} (ha : a.Fits) (hb : b.Fits) (ra : rightB a = true) (rb : rightB b = true) (hg : b.g = a.g + 1)
include ha ra in
theorem two_at (i : Nat) (hi : i < 3) (hne : b.g % 2 ≠ (i : Int)) (hb0 : 0 ≤ b.g) : atP (twoF a b) [] (i : Int) = if a.g % 2 = (i : Int) then a else sup0 := by
  have h1 := swF_read (swF (List.replicate 3 zp) [] a) [] b i (by rw [swF_length]; simpa using hi) (fun x hx => by cases hx) hb0 (by rw [swF_length]; simp)
  rw [if_neg hne] at h1
  have h2 := swF_read (List.replicate 3 zp) [] a i (by simpa using hi) (fun x hx => by cases hx) ha.g0 (by simp)
  by_cases h : a.g % 2 = (i : Int)
  · rw [if_pos h]
    rw [if_pos h] at h2
    exact atP_frame (twoF a b) [] (i : Int) a ha ra (by unfold twoF; rw [swF_length, swF_length]; simp; omega) (by unfold twoF; rw [h1, h2])
  · rw [if_neg h]
    rw [if_neg h] at h2
    exact atP_zero (twoF a b) [] (i : Int) (by unfold twoF; rw [h1, h2]; exact read_rep 3 _)
include ha ra rb hb hg in
theorem two_best : bestP (twoF a b) [] = b ∧ bestC (twoF a b) [] = 0 := by
  refine best_switch _ _ b hb rb (by rw [swF_length]; simp) (fun x hx => by cases hx) (fun i hi hne => ?_)
  have hga := right_gen ra
  have h2 := fun k hk => swF_read (List.replicate 3 zp) [] a k (by simpa using hk) (fun x hx => by cases hx) ha.g0 (by simp)
  have key : ∀ k : Nat, k < 3 → (atP (swF (List.replicate 3 zp) [] a) [] (k : Int)).g < b.g := fun k hk => by
    by_cases h : a.g % 2 = (k : Int)
    · have q := h2 k hk; rw [if_pos h] at q
      rw [atP_frame (swF (List.replicate 3 zp) [] a) [] (k : Int) a ha ra (by rw [swF_length]; simp; omega) q]; omega
    · have q := h2 k hk; rw [if_neg h] at q
      rw [atP_zero _ _ _ (q.trans (read_rep 3 _))]
      show (0 : Int) < b.g
      omega
  rcases hi with rfl | rfl
  · exact key 0 (by omega)
  · exact key 1 (by omega)
theorem two_read (hb0 : 0 ≤ b.g) : readP (twoF a b) [] (b.g % 2) = framP 1 (layU b) := by
  obtain ⟨k, hk⟩ : ∃ k : Nat, b.g % 2 = (k : Int) := ⟨(b.g % 2).toNat, by omega⟩
  rw [hk]
  have h1 := swF_read (swF (List.replicate 3 zp) [] a) [] b k (by rw [swF_length]; simp; omega) (fun x hx => by cases hx) hb0 (by rw [swF_length]; simp)
  rw [if_pos hk] at h1
  exact h1
include ha ra hb hg in
theorem two_spoilt (q : Pg) (hq : rdC q = 3) : bestP (twoF a b) ([] ++ [(b.g % 2, q)]) = a ∧ bestC (twoF a b) ([] ++ [(b.g % 2, q)]) = 0 := by
  have hga := right_gen ra
  have hb0 := hb.g0
  have hlen : (twoF a b).length = 3 := by unfold twoF; rw [swF_length, swF_length]; simp
  have hbad : atP (twoF a b) ([] ++ [(b.g % 2, q)]) (b.g % 2) = sup0 := atP_bad _ _ _ (by rw [readP_snoc, if_pos rfl]; exact hq)
  have hoth : ∀ k : Nat, k < 3 → b.g % 2 ≠ (k : Int) → atP (twoF a b) ([] ++ [(b.g % 2, q)]) (k : Int) = if a.g % 2 = (k : Int) then a else sup0 := fun k hk hne => by
    rw [← two_at ha ra k hk hne hb0]
    unfold atP ldS ldD
    rw [readP_snoc, if_neg hne]
  have hpar : ∀ k : Int, (k = 0 ∨ k = 1) → (a.g % 2 = k ↔ b.g % 2 ≠ k) := fun k hk => by omega
  have h0 : b.g % 2 ≠ 0 → atP (twoF a b) ([] ++ [(b.g % 2, q)]) 0 = a := fun hne => by
    have k := hoth 0 (by omega) hne
    rw [show ((0 : Nat) : Int) = 0 from rfl] at k
    rw [k, if_pos ((hpar 0 (.inl rfl)).2 hne)]
  have h1 : b.g % 2 ≠ 1 → atP (twoF a b) ([] ++ [(b.g % 2, q)]) 1 = a := fun hne => by
    have k := hoth 1 (by omega) hne
    rw [show ((1 : Nat) : Int) = 1 from rfl] at k
    rw [k, if_pos ((hpar 1 (.inr rfl)).2 hne)]
  clear hoth
  generalize twoF a b = F at hbad hlen h0 h1 ⊢
  have z : sup0.g = 0 := rfl
  have e2 : beT F ([] ++ [(b.g % 2, q)]) 2 = a := by
    rw [beT_two]
    by_cases hp : b.g % 2 = 0
    · have hb' : atP F ([] ++ [(b.g % 2, q)]) 0 = sup0 := by rw [← hbad, hp]
      rw [hb', h1 (by omega), show (if 0 < sup0.g then sup0 else sup0) = sup0 by split <;> rfl, if_pos (show sup0.g < a.g by omega)]
    · have hp1 : b.g % 2 = 1 := by omega
      have hb' : atP F ([] ++ [(b.g % 2, q)]) 1 = sup0 := by rw [← hbad, hp1]
      rw [hb', h0 hp, if_pos hga, if_neg (show ¬ a.g < sup0.g by omega)]
  unfold bestP bestC
  rw [e2, hlen]
  exact ⟨by rw [if_neg (by omega)], by rw [if_neg (by omega), if_neg (by omega)]⟩
include ha ra rb hb hg in
theorem two_same : bestP (twoF a b) ([] ++ [(b.g % 2, framP 1 (layU b))]) = b ∧ bestC (twoF a b) ([] ++ [(b.g % 2, framP 1 (layU b))]) = 0 := by
  have hb0 := hb.g0
  have h := two_best ha hb ra rb hg
  have e : ∀ i : Int, atP (twoF a b) ([] ++ [(b.g % 2, framP 1 (layU b))]) i = atP (twoF a b) [] i := fun i => by
    have er : readP (twoF a b) ([] ++ [(b.g % 2, framP 1 (layU b))]) i = readP (twoF a b) [] i := by
      rw [readP_snoc]
      by_cases hi : b.g % 2 = i
      · rw [if_pos hi, ← hi, two_read hb0]
      · rw [if_neg hi]
    unfold atP ldS ldD
    rw [er]
  unfold bestP bestC at h ⊢
  rw [beT_two] at h ⊢
  rw [e, e]
  exact h
end
set_option maxHeartbeats 4000000 in
set_option maxRecDepth 100000 in
theorem sgreat_a (a c : Sup) (n m : Nat) (ha : a.Fits) (hc : c.Fits) (hm : m < 256) (ra : rightB a = false) (rb : rightB ⟨(a.g + 1) % 4294967296, c.r, c.u⟩ = rightB ⟨(a.g + 1) % 4294967296, c.r, c.u⟩) (w : World) (tied : Tied w) : Calls Tryd.prog 11 #[.agg (sv a).toArray, .agg (sv c).toArray, .int .u8 (n : Int), .int .u8 (m : Int)] w fun e w' => e = .returned (.bool true) ∧ Below w.heap.size w w' := by
  obtain ⟨G, hG⟩ : ∃ q, q = (a.g + 1) % 4294967296 := ⟨_, rfl⟩
  have hg0 := ha.g0
  have hg1 := ha.g1
  have hGw : IntKind.u32.wrap (a.g + 1) = G := by rw [hG]; simp [IntKind.wrap, IntKind.bits, IntKind.signed]
  have hGm : (a.g + 1) % 4294967296 = G := hG.symm
  obtain ⟨b, hbe⟩ : ∃ q : Sup, q = ⟨(a.g + 1) % 4294967296, c.r, c.u⟩ := ⟨_, rfl⟩
  have hb : b.Fits := by rw [hbe]; exact ⟨hc.l, by show 0 ≤ (a.g + 1) % 4294967296; omega, by show (a.g + 1) % 4294967296 ≤ 4294967295; omega⟩
  have hbg : b.g = (a.g + 1) % 4294967296 := by rw [hbe]
  rw [← hG] at hbe hbg
  have HBE := Lib.hid hbe
  have HAL := Lib.hid ha.l
  have HCL := Lib.hid hc.l
  have HBL := Lib.hid hb.l
  have HRA := Lib.hid (fun w => rright_any a ha.l ha.g0 w)
  have HRB := Lib.hid (fun w => rright_any b hb.l hb.g0 w)
  rw [ra] at HRA
  clear ha hc hb hm ra rb hG hbe hbg hg0 hg1
  have HM0 := Lib.hid (Mv.refl No w)
  have T0 := Lib.hid (Stays.tied tied)
  have WI0 := Lib.hid (Wi.no w)
  clear tied
  go_enter Tryd.func11, Tryd.ntmps11
  go_upto_region 1 with fail
  obtain ⟨w1, hw1⟩ : ∃ q, q = w.alloc (.cells (sv (a)).toArray 68) := ⟨_, rfl⟩
  try rw [← hw1]
  have hbm : Below w.heap.size w w1 := by rw [hw1]; exact (Below.refl _ _).alloc (Nat.le_refl _) _
  have hm : Mv No No w w1 := Mv.of_below hbm
  have hbx : Stays No w1 (fun W => SupAt W w.heap.size (a)) := Stays.boxS HAL.out WI0.out hw1
  have hsz1 : w1.heap.size = w.heap.size + 1 := by rw [hw1]; simp
  obtain ⟨BA, hBA⟩ : ∃ q, q = w.heap.size := ⟨_, rfl⟩
  try rw [← hBA]
  rw [← hBA] at hbx hsz1
  have T_1 := Lib.hid (T0.out.step hm)
  clear T0
  have HM_1 := Lib.hid (HM0.out.trans hm)
  clear HM0
  have WI_1 := Lib.hid (WI0.out.mono hm.size)
  clear WI0
  clear hm
  clear hbm hw1 hBA
  have A_2 := Lib.hid (hbx)
  clear hbx
  obtain ⟨w2, hw2⟩ : ∃ q, q = w1.alloc (.cells (sv (c)).toArray 68) := ⟨_, rfl⟩
  try rw [← hw2]
  have hbm : Below w1.heap.size w1 w2 := by rw [hw2]; exact (Below.refl _ _).alloc (Nat.le_refl _) _
  have hni : ∀ k, No k → k ≠ w1.heap.size := fun k q => by have := WI_1.out k q; omega
  have hm := Mv.own (S := No) hw2
  have hwi := Wi.own WI_1.out hw2
  have hpx : SupAt w2 w1.heap.size (c) := by rw [hw2]; exact SupAt.new _ _ _ HCL.out
  try rw [← hsz1]
  clear hsz1
  obtain ⟨BB, hBB⟩ : ∃ q, q = w1.heap.size := ⟨_, rfl⟩
  rw [← hBB] at hm hwi hpx hni
  try rw [← hBB]
  have T_3 := Lib.hid (T_1.out.step hm)
  clear T_1
  have A_3 := Lib.hid (A_2.out.step hm)
  clear A_2
  have HM_3 := Lib.hid (HM_1.out.trans hm)
  clear HM_1
  have WI_3 := Lib.hid (hwi)
  clear WI_1
  clear hm
  clear hbm hw2 hBB hwi
  have HNI := Lib.hid hni
  have HO := Lib.hid hpx
  clear hpx hni
  go_wp2_with fail
  refine (awake7 _ T_3.out.now).mono ?_
  rintro e w3 ⟨rfl, hb9⟩
  have hbm : Below w2.heap.size w2 w3 := hb9
  clear hb9
  have hm : Mv (fun k => No k ∨ k = BB) (fun k => No k ∨ k = BB) w2 w3 := Mv.of_below hbm
  have HO2 := Lib.hid (HO.out.under hbm HO.out.lt)
  clear HO
  have HO := HO2
  clear HO2
  have T_4 := Lib.hid (T_3.out.step hm)
  clear T_3
  have A_4 := Lib.hid (A_3.out.step hm)
  clear A_3
  have HM_4 := Lib.hid (HM_3.out.trans hm)
  clear HM_3
  have WI_4 := Lib.hid (WI_3.out.mono hm.size)
  clear WI_3
  clear hm
  clear hbm
  have cga := (A_4.out.now).gen
  have cgc := HO.out.gen
  have fgc := HO.out.free 0 (by omega)
  go_upto_region 4 with fail
  clear cga cgc fgc
  have hpx := HO.out.putG G
  have htt : Touch (fun k => k = BB) w3 (w3.setCell ⟨BB, 0, none⟩ (.int .u32 G)) := touch_set _ _ _ _ rfl
  have hm : Mv (fun k => No k ∨ k = BB) (fun k => No k ∨ k = BB) w3 (w3.setCell ⟨BB, 0, none⟩ (.int .u32 G)) := Mv.set _ _ _ _ (.inr rfl)
  obtain ⟨w4, hw4⟩ : ∃ q, q = w3.setCell ⟨BB, 0, none⟩ (.int .u32 G) := ⟨_, rfl⟩
  rw [← hw4] at hpx htt hm
  try rw [← hw4]
  clear hw4
  have T_5 := Lib.hid (T_4.out.step hm)
  clear T_4
  have A_5 := Lib.hid (A_4.out.step hm)
  clear A_4
  have HM_5 := Lib.hid (HM_4.out.trans hm)
  clear HM_4
  have WI_5 := Lib.hid (WI_4.out.mono hm.size)
  clear WI_4
  clear hm
  have T_6 := Lib.hid (T_5.out.less (T := No) (fun k q => .inl q))
  clear T_5
  have A_7 := Lib.hid (A_5.out.less (T := No) (fun k q => .inl q))
  clear A_5
  have HM_8 : Hid (Mv No No w w4) := Lib.hid ⟨HM_5.out.t, fun k q => HM_5.out.s k (.inl q)⟩
  clear HM_5
  have WI_8 : Hid (Wi No w4) := Lib.hid (fun k q => WI_5.out k (.inl q))
  clear WI_5
  have hst := Stays.sup (S := No) hpx (fun q => HNI.out _ q rfl)
  clear hpx htt HNI HO
  have B_9 := Lib.hid (hst)
  clear hst
  have hst2 : Stays No w4 (fun W => SupAt W BB b) := by rw [HBE.out]; exact B_9.out
  clear B_9
  have B_10 := Lib.hid (hst2)
  clear hst2
  go_wp2_with (first | ((with_reducible refine at_ld 68 (.tmp 4) ?_); refine ld_rp rfl _ rfl BA (0) rfl a ?_ ?_ ?_; exact HAL.out; exact (A_7.out.now).r))
  refine (HRA.out _).mono ?_
  rintro e w5 ⟨rfl, hb⟩
  have hbm : Below w4.heap.size w4 w5 := hb
  clear hb
  have hm : Mv No No w4 w5 := Mv.of_below hbm
  have T_11 := Lib.hid (T_6.out.step hm)
  clear T_6
  have A_11 := Lib.hid (A_7.out.step hm)
  clear A_7
  have B_11 := Lib.hid (B_10.out.step hm)
  clear B_10
  have HM_11 := Lib.hid (HM_8.out.trans hm)
  clear HM_8
  have WI_11 := Lib.hid (WI_8.out.mono hm.size)
  clear WI_8
  clear hm
  clear hbm
  go_wp2_with fail
  go_ret
  exact ⟨rfl, HM_11.out.below⟩
set_option maxHeartbeats 4000000 in
set_option maxRecDepth 100000 in
theorem sgreat_b (a c : Sup) (n m : Nat) (ha : a.Fits) (hc : c.Fits) (hm : m < 256) (ra : rightB a = true) (rb : rightB ⟨(a.g + 1) % 4294967296, c.r, c.u⟩ = false) (w : World) (tied : Tied w) : Calls Tryd.prog 11 #[.agg (sv a).toArray, .agg (sv c).toArray, .int .u8 (n : Int), .int .u8 (m : Int)] w fun e w' => e = .returned (.bool true) ∧ Below w.heap.size w w' := by
  obtain ⟨G, hG⟩ : ∃ q, q = (a.g + 1) % 4294967296 := ⟨_, rfl⟩
  have hg0 := ha.g0
  have hg1 := ha.g1
  have hGw : IntKind.u32.wrap (a.g + 1) = G := by rw [hG]; simp [IntKind.wrap, IntKind.bits, IntKind.signed]
  have hGm : (a.g + 1) % 4294967296 = G := hG.symm
  obtain ⟨b, hbe⟩ : ∃ q : Sup, q = ⟨(a.g + 1) % 4294967296, c.r, c.u⟩ := ⟨_, rfl⟩
  have hb : b.Fits := by rw [hbe]; exact ⟨hc.l, by show 0 ≤ (a.g + 1) % 4294967296; omega, by show (a.g + 1) % 4294967296 ≤ 4294967295; omega⟩
  have hbg : b.g = (a.g + 1) % 4294967296 := by rw [hbe]
  rw [← hbe] at rb
  rw [← hG] at hbe hbg
  have HBE := Lib.hid hbe
  have HAL := Lib.hid ha.l
  have HCL := Lib.hid hc.l
  have HBL := Lib.hid hb.l
  have HRA := Lib.hid (fun w => rright_any a ha.l ha.g0 w)
  have HRB := Lib.hid (fun w => rright_any b hb.l hb.g0 w)
  rw [ra] at HRA
  rw [rb] at HRB
  clear ha hc hb hm ra rb hG hbe hbg hg0 hg1
  have HM0 := Lib.hid (Mv.refl No w)
  have T0 := Lib.hid (Stays.tied tied)
  have WI0 := Lib.hid (Wi.no w)
  clear tied
  go_enter Tryd.func11, Tryd.ntmps11
  go_upto_region 1 with fail
  obtain ⟨w1, hw1⟩ : ∃ q, q = w.alloc (.cells (sv (a)).toArray 68) := ⟨_, rfl⟩
  try rw [← hw1]
  have hbm : Below w.heap.size w w1 := by rw [hw1]; exact (Below.refl _ _).alloc (Nat.le_refl _) _
  have hm : Mv No No w w1 := Mv.of_below hbm
  have hbx : Stays No w1 (fun W => SupAt W w.heap.size (a)) := Stays.boxS HAL.out WI0.out hw1
  have hsz1 : w1.heap.size = w.heap.size + 1 := by rw [hw1]; simp
  obtain ⟨BA, hBA⟩ : ∃ q, q = w.heap.size := ⟨_, rfl⟩
  try rw [← hBA]
  rw [← hBA] at hbx hsz1
  have T_1 := Lib.hid (T0.out.step hm)
  clear T0
  have HM_1 := Lib.hid (HM0.out.trans hm)
  clear HM0
  have WI_1 := Lib.hid (WI0.out.mono hm.size)
  clear WI0
  clear hm
  clear hbm hw1 hBA
  have A_2 := Lib.hid (hbx)
  clear hbx
  obtain ⟨w2, hw2⟩ : ∃ q, q = w1.alloc (.cells (sv (c)).toArray 68) := ⟨_, rfl⟩
  try rw [← hw2]
  have hbm : Below w1.heap.size w1 w2 := by rw [hw2]; exact (Below.refl _ _).alloc (Nat.le_refl _) _
  have hni : ∀ k, No k → k ≠ w1.heap.size := fun k q => by have := WI_1.out k q; omega
  have hm := Mv.own (S := No) hw2
  have hwi := Wi.own WI_1.out hw2
  have hpx : SupAt w2 w1.heap.size (c) := by rw [hw2]; exact SupAt.new _ _ _ HCL.out
  try rw [← hsz1]
  clear hsz1
  obtain ⟨BB, hBB⟩ : ∃ q, q = w1.heap.size := ⟨_, rfl⟩
  rw [← hBB] at hm hwi hpx hni
  try rw [← hBB]
  have T_3 := Lib.hid (T_1.out.step hm)
  clear T_1
  have A_3 := Lib.hid (A_2.out.step hm)
  clear A_2
  have HM_3 := Lib.hid (HM_1.out.trans hm)
  clear HM_1
  have WI_3 := Lib.hid (hwi)
  clear WI_1
  clear hm
  clear hbm hw2 hBB hwi
  have HNI := Lib.hid hni
  have HO := Lib.hid hpx
  clear hpx hni
  go_wp2_with fail
  refine (awake7 _ T_3.out.now).mono ?_
  rintro e w3 ⟨rfl, hb9⟩
  have hbm : Below w2.heap.size w2 w3 := hb9
  clear hb9
  have hm : Mv (fun k => No k ∨ k = BB) (fun k => No k ∨ k = BB) w2 w3 := Mv.of_below hbm
  have HO2 := Lib.hid (HO.out.under hbm HO.out.lt)
  clear HO
  have HO := HO2
  clear HO2
  have T_4 := Lib.hid (T_3.out.step hm)
  clear T_3
  have A_4 := Lib.hid (A_3.out.step hm)
  clear A_3
  have HM_4 := Lib.hid (HM_3.out.trans hm)
  clear HM_3
  have WI_4 := Lib.hid (WI_3.out.mono hm.size)
  clear WI_3
  clear hm
  clear hbm
  have cga := (A_4.out.now).gen
  have cgc := HO.out.gen
  have fgc := HO.out.free 0 (by omega)
  go_upto_region 4 with fail
  clear cga cgc fgc
  have hpx := HO.out.putG G
  have htt : Touch (fun k => k = BB) w3 (w3.setCell ⟨BB, 0, none⟩ (.int .u32 G)) := touch_set _ _ _ _ rfl
  have hm : Mv (fun k => No k ∨ k = BB) (fun k => No k ∨ k = BB) w3 (w3.setCell ⟨BB, 0, none⟩ (.int .u32 G)) := Mv.set _ _ _ _ (.inr rfl)
  obtain ⟨w4, hw4⟩ : ∃ q, q = w3.setCell ⟨BB, 0, none⟩ (.int .u32 G) := ⟨_, rfl⟩
  rw [← hw4] at hpx htt hm
  try rw [← hw4]
  clear hw4
  have T_5 := Lib.hid (T_4.out.step hm)
  clear T_4
  have A_5 := Lib.hid (A_4.out.step hm)
  clear A_4
  have HM_5 := Lib.hid (HM_4.out.trans hm)
  clear HM_4
  have WI_5 := Lib.hid (WI_4.out.mono hm.size)
  clear WI_4
  clear hm
  have T_6 := Lib.hid (T_5.out.less (T := No) (fun k q => .inl q))
  clear T_5
  have A_7 := Lib.hid (A_5.out.less (T := No) (fun k q => .inl q))
  clear A_5
  have HM_8 : Hid (Mv No No w w4) := Lib.hid ⟨HM_5.out.t, fun k q => HM_5.out.s k (.inl q)⟩
  clear HM_5
  have WI_8 : Hid (Wi No w4) := Lib.hid (fun k q => WI_5.out k (.inl q))
  clear WI_5
  have hst := Stays.sup (S := No) hpx (fun q => HNI.out _ q rfl)
  clear hpx htt HNI HO
  have B_9 := Lib.hid (hst)
  clear hst
  have hst2 : Stays No w4 (fun W => SupAt W BB b) := by rw [HBE.out]; exact B_9.out
  clear B_9
  have B_10 := Lib.hid (hst2)
  clear hst2
  go_wp2_with (first | ((with_reducible refine at_ld 68 (.tmp 4) ?_); refine ld_rp rfl _ rfl BA (0) rfl a ?_ ?_ ?_; exact HAL.out; exact (A_7.out.now).r))
  refine (HRA.out _).mono ?_
  rintro e w5 ⟨rfl, hb⟩
  have hbm : Below w4.heap.size w4 w5 := hb
  clear hb
  have hm : Mv No No w4 w5 := Mv.of_below hbm
  have T_11 := Lib.hid (T_6.out.step hm)
  clear T_6
  have A_11 := Lib.hid (A_7.out.step hm)
  clear A_7
  have B_11 := Lib.hid (B_10.out.step hm)
  clear B_10
  have HM_11 := Lib.hid (HM_8.out.trans hm)
  clear HM_8
  have WI_11 := Lib.hid (WI_8.out.mono hm.size)
  clear WI_8
  clear hm
  clear hbm
  go_wp2_with (first | ((with_reducible refine at_ld 68 (.tmp 5) ?_); refine ldw_rp (by first | rfl | go_simp) (.tmp 5) rfl BB (0) rfl b ?_ ?_ ?_; exact HBL.out; exact (B_11.out.now).r))
  refine (HRB.out _).mono ?_
  rintro e w6 ⟨rfl, hb⟩
  have hbm : Below w5.heap.size w5 w6 := hb
  clear hb
  have hm : Mv No No w5 w6 := Mv.of_below hbm
  have T_12 := Lib.hid (T_11.out.step hm)
  clear T_11
  have A_12 := Lib.hid (A_11.out.step hm)
  clear A_11
  have B_12 := Lib.hid (B_11.out.step hm)
  clear B_11
  have HM_12 := Lib.hid (HM_11.out.trans hm)
  clear HM_11
  have WI_12 := Lib.hid (WI_11.out.mono hm.size)
  clear WI_11
  clear hm
  clear hbm
  go_wp2_with fail
  go_ret
  exact ⟨rfl, HM_12.out.below⟩
set_option maxHeartbeats 8000000 in
set_option maxRecDepth 100000 in
theorem sgreat_zero (a c : Sup) (n m : Nat) (ha : a.Fits) (hc : c.Fits) (hm : m < 256) (ra : rightB a = true) (rb : rightB ⟨(a.g + 1) % 4294967296, c.r, c.u⟩ = true) (hz : m = 0) (w : World) (tied : Tied w) : Calls Tryd.prog 11 #[.agg (sv a).toArray, .agg (sv c).toArray, .int .u8 (n : Int), .int .u8 (m : Int)] w fun e w' => e = .returned (.bool true) ∧ Below w.heap.size w w' := by
  obtain ⟨G, hG⟩ : ∃ q, q = (a.g + 1) % 4294967296 := ⟨_, rfl⟩
  have hg0 := ha.g0
  have hg1 := ha.g1
  have hGw : IntKind.u32.wrap (a.g + 1) = G := by rw [hG]; simp [IntKind.wrap, IntKind.bits, IntKind.signed]
  have hGm : (a.g + 1) % 4294967296 = G := hG.symm
  obtain ⟨b, hbe⟩ : ∃ q : Sup, q = ⟨(a.g + 1) % 4294967296, c.r, c.u⟩ := ⟨_, rfl⟩
  have hb : b.Fits := by rw [hbe]; exact ⟨hc.l, by show 0 ≤ (a.g + 1) % 4294967296; omega, by show (a.g + 1) % 4294967296 ≤ 4294967295; omega⟩
  have hbg : b.g = (a.g + 1) % 4294967296 := by rw [hbe]
  rw [← hbe] at rb
  rw [← hG] at hbe hbg
  have HBE := Lib.hid hbe
  have HAL := Lib.hid ha.l
  have HCL := Lib.hid hc.l
  have HBL := Lib.hid hb.l
  have HRA := Lib.hid (fun w => rright_any a ha.l ha.g0 w)
  have HRB := Lib.hid (fun w => rright_any b hb.l hb.g0 w)
  have hgp := right_gen rb
  have hg : b.g = a.g + 1 := by omega
  rw [ra] at HRA
  rw [rb] at HRB
  have HT2 := Lib.hid (two_best ha hb ra rb hg)
  have HRD := Lib.hid (two_read (a := a) (b := b) hb.g0)
  have hbg0 := hb.g0
  have HMY := Lib.hid (show mayC false (twoF a b).length (b.g % 2) = 0 by unfold mayC twoF; rw [if_neg (by decide), swF_length, swF_length, if_pos (by simp; omega)])
  have htm : b.g.tmod 2 = b.g % 2 := Int.tmod_eq_emod_of_nonneg hb.g0
  have hw2 : IntKind.i64.wrap (b.g % 2) = b.g % 2 := IntWalk.i64_in _ (by omega)
  have hpl : (framP 1 (layU b)).length = 128 := framP_length 1 _ (by rw [layU_size hb rb]; omega)
  have hsum := fr_sum 1 (layU b)
  obtain ⟨i, hi⟩ : ∃ i, i = n % 128 := ⟨_, rfl⟩
  have hi2 : i < 128 := by omega
  have hit : (n : Int).tmod 128 = (i : Int) := by rw [Int.tmod_eq_emod_of_nonneg (by omega)]; omega
  have hit2 : (n : Int) % 128 = (i : Int) := by omega
  have HSP := Lib.hid (fun q hq => two_spoilt ha hb ra hg q hq)
  have HSM := Lib.hid (two_same ha hb ra rb hg)
  obtain ⟨P, hP⟩ : ∃ q, q = framP 1 (layU b) := ⟨_, rfl⟩
  rw [← hP] at hpl hsum HSM HRD
  obtain ⟨x, hx⟩ : ∃ x, P[i]? = some x := ⟨_, List.getElem?_eq_getElem (by omega)⟩
  have hxor := xor8 x m hm
  obtain ⟨z, hzz⟩ : ∃ z, z = x ^^^ UInt8.ofNat m := ⟨_, rfl⟩
  rw [← hzz] at hxor
  obtain ⟨q, hq⟩ : ∃ q, q = spl P i [z] := ⟨_, rfl⟩
  have hql : q.length = 128 := by rw [hq, spl_length _ _ _ (by simp; omega)]; exact hpl
  subst hz
  have hqp : q = P := by rw [hq, hzz, show UInt8.ofNat 0 = 0 from rfl, xor_zero8]; exact spl_same P i x hx
  have HYB : Hid (bestP (twoF a b) ([] ++ [(b.g % 2, q)]) = b ∧ bestC (twoF a b) ([] ++ [(b.g % 2, q)]) = 0) := Lib.hid (by rw [hqp]; exact HSM.out)
  have hmz : ((0 : Nat) : Int) = 0 := rfl
  rw [hmz] at hxor
  have HPL2 := Lib.hid hpl
  have HQ := Lib.hid hql
  have HQE := Lib.hid hq
  have HX := Lib.hid hx
  have hit3 : (i : Int).toNat = i := by omega
  have hlo : ¬ (i : Int) < 0 := by omega
  have hhi : (i : Int) < 128 := by omega
  have HSA := Lib.hid (And.intro ha ra)
  have HSB := Lib.hid (And.intro hb rb)
  have HPLB := Lib.hid (fun w => plain_any b hb.l w)
  have HPLA := Lib.hid (fun w => plain_any a ha.l w)
  have hseb := supE_self b
  have hsea := supE_self a
  clear ha hc hb hm ra rb hG hbe hbg hg hgp hg0 hg1 hbg0 hpl hql hq hx hzz hi hP hsum HSP HSM hqp
  have HM0 := Lib.hid (Mv.refl No w)
  have T0 := Lib.hid (Stays.tied tied)
  have WI0 := Lib.hid (Wi.no w)
  clear tied
  go_enter Tryd.func11, Tryd.ntmps11
  go_upto_region 1 with fail
  obtain ⟨w1, hw1⟩ : ∃ q, q = w.alloc (.cells (sv (a)).toArray 68) := ⟨_, rfl⟩
  try rw [← hw1]
  have hbm : Below w.heap.size w w1 := by rw [hw1]; exact (Below.refl _ _).alloc (Nat.le_refl _) _
  have hm : Mv No No w w1 := Mv.of_below hbm
  have hbx : Stays No w1 (fun W => SupAt W w.heap.size (a)) := Stays.boxS HAL.out WI0.out hw1
  have hsz1 : w1.heap.size = w.heap.size + 1 := by rw [hw1]; simp
  obtain ⟨BA, hBA⟩ : ∃ q, q = w.heap.size := ⟨_, rfl⟩
  try rw [← hBA]
  rw [← hBA] at hbx hsz1
  have T_1 := Lib.hid (T0.out.step hm)
  clear T0
  have HM_1 := Lib.hid (HM0.out.trans hm)
  clear HM0
  have WI_1 := Lib.hid (WI0.out.mono hm.size)
  clear WI0
  clear hm
  clear hbm hw1 hBA
  have A_2 := Lib.hid (hbx)
  clear hbx
  obtain ⟨w2, hw2⟩ : ∃ q, q = w1.alloc (.cells (sv (c)).toArray 68) := ⟨_, rfl⟩
  try rw [← hw2]
  have hbm : Below w1.heap.size w1 w2 := by rw [hw2]; exact (Below.refl _ _).alloc (Nat.le_refl _) _
  have hni : ∀ k, No k → k ≠ w1.heap.size := fun k q => by have := WI_1.out k q; omega
  have hm := Mv.own (S := No) hw2
  have hwi := Wi.own WI_1.out hw2
  have hpx : SupAt w2 w1.heap.size (c) := by rw [hw2]; exact SupAt.new _ _ _ HCL.out
  try rw [← hsz1]
  clear hsz1
  obtain ⟨BB, hBB⟩ : ∃ q, q = w1.heap.size := ⟨_, rfl⟩
  rw [← hBB] at hm hwi hpx hni
  try rw [← hBB]
  have T_3 := Lib.hid (T_1.out.step hm)
  clear T_1
  have A_3 := Lib.hid (A_2.out.step hm)
  clear A_2
  have HM_3 := Lib.hid (HM_1.out.trans hm)
  clear HM_1
  have WI_3 := Lib.hid (hwi)
  clear WI_1
  clear hm
  clear hbm hw2 hBB hwi
  have HNI := Lib.hid hni
  have HO := Lib.hid hpx
  clear hpx hni
  go_wp2_with fail
  refine (awake7 _ T_3.out.now).mono ?_
  rintro e w3 ⟨rfl, hb9⟩
  have hbm : Below w2.heap.size w2 w3 := hb9
  clear hb9
  have hm : Mv (fun k => No k ∨ k = BB) (fun k => No k ∨ k = BB) w2 w3 := Mv.of_below hbm
  have HO2 := Lib.hid (HO.out.under hbm HO.out.lt)
  clear HO
  have HO := HO2
  clear HO2
  have T_4 := Lib.hid (T_3.out.step hm)
  clear T_3
  have A_4 := Lib.hid (A_3.out.step hm)
  clear A_3
  have HM_4 := Lib.hid (HM_3.out.trans hm)
  clear HM_3
  have WI_4 := Lib.hid (WI_3.out.mono hm.size)
  clear WI_3
  clear hm
  clear hbm
  have cga := (A_4.out.now).gen
  have cgc := HO.out.gen
  have fgc := HO.out.free 0 (by omega)
  go_upto_region 4 with fail
  clear cga cgc fgc
  have hpx := HO.out.putG G
  have htt : Touch (fun k => k = BB) w3 (w3.setCell ⟨BB, 0, none⟩ (.int .u32 G)) := touch_set _ _ _ _ rfl
  have hm : Mv (fun k => No k ∨ k = BB) (fun k => No k ∨ k = BB) w3 (w3.setCell ⟨BB, 0, none⟩ (.int .u32 G)) := Mv.set _ _ _ _ (.inr rfl)
  obtain ⟨w4, hw4⟩ : ∃ q, q = w3.setCell ⟨BB, 0, none⟩ (.int .u32 G) := ⟨_, rfl⟩
  rw [← hw4] at hpx htt hm
  try rw [← hw4]
  clear hw4
  have T_5 := Lib.hid (T_4.out.step hm)
  clear T_4
  have A_5 := Lib.hid (A_4.out.step hm)
  clear A_4
  have HM_5 := Lib.hid (HM_4.out.trans hm)
  clear HM_4
  have WI_5 := Lib.hid (WI_4.out.mono hm.size)
  clear WI_4
  clear hm
  have T_6 := Lib.hid (T_5.out.less (T := No) (fun k q => .inl q))
  clear T_5
  have A_7 := Lib.hid (A_5.out.less (T := No) (fun k q => .inl q))
  clear A_5
  have HM_8 : Hid (Mv No No w w4) := Lib.hid ⟨HM_5.out.t, fun k q => HM_5.out.s k (.inl q)⟩
  clear HM_5
  have WI_8 : Hid (Wi No w4) := Lib.hid (fun k q => WI_5.out k (.inl q))
  clear WI_5
  have hst := Stays.sup (S := No) hpx (fun q => HNI.out _ q rfl)
  clear hpx htt HNI HO
  have B_9 := Lib.hid (hst)
  clear hst
  have hst2 : Stays No w4 (fun W => SupAt W BB b) := by rw [HBE.out]; exact B_9.out
  clear B_9
  have B_10 := Lib.hid (hst2)
  clear hst2
  go_wp2_with (first | ((with_reducible refine at_ld 68 (.tmp 4) ?_); refine ld_rp rfl _ rfl BA (0) rfl a ?_ ?_ ?_; exact HAL.out; exact (A_7.out.now).r))
  refine (HRA.out _).mono ?_
  rintro e w5 ⟨rfl, hb⟩
  have hbm : Below w4.heap.size w4 w5 := hb
  clear hb
  have hm : Mv No No w4 w5 := Mv.of_below hbm
  have T_11 := Lib.hid (T_6.out.step hm)
  clear T_6
  have A_11 := Lib.hid (A_7.out.step hm)
  clear A_7
  have B_11 := Lib.hid (B_10.out.step hm)
  clear B_10
  have HM_11 := Lib.hid (HM_8.out.trans hm)
  clear HM_8
  have WI_11 := Lib.hid (WI_8.out.mono hm.size)
  clear WI_8
  clear hm
  clear hbm
  go_wp2_with (first | ((with_reducible refine at_ld 68 (.tmp 5) ?_); refine ldw_rp (by first | rfl | go_simp) (.tmp 5) rfl BB (0) rfl b ?_ ?_ ?_; exact HBL.out; exact (B_11.out.now).r))
  refine (HRB.out _).mono ?_
  rintro e w6 ⟨rfl, hb⟩
  have hbm : Below w5.heap.size w5 w6 := hb
  clear hb
  have hm : Mv No No w5 w6 := Mv.of_below hbm
  have T_12 := Lib.hid (T_11.out.step hm)
  clear T_11
  have A_12 := Lib.hid (A_11.out.step hm)
  clear A_11
  have B_12 := Lib.hid (B_11.out.step hm)
  clear B_11
  have HM_12 := Lib.hid (HM_11.out.trans hm)
  clear HM_11
  have WI_12 := Lib.hid (WI_11.out.mono hm.size)
  clear WI_11
  clear hm
  clear hbm
  go_wp2_with fail
  refine (new_m 3 _ (by decide) (by decide)).mono ?_
  rintro e w7 ⟨D, S1, rfl, hd, hb, hm⟩
  clear hb
  have T_13 := Lib.hid (T_12.out.step hm)
  clear T_12
  have A_13 := Lib.hid (A_12.out.step hm)
  clear A_12
  have B_13 := Lib.hid (B_12.out.step hm)
  clear B_12
  have HM_13 := Lib.hid (HM_12.out.trans hm)
  clear HM_12
  have WI_13 := Lib.hid (hd.wi)
  clear WI_12
  have HD_13 := Lib.hid (hd)
  clear hm
  clear hd
  go_wp2_with (first | ((with_reducible refine at_ld 68 (.tmp 4) ?_); refine ld_rp rfl _ rfl BA (0) rfl a ?_ ?_ ?_; exact HAL.out; exact (A_13.out.now).r))
  refine (of_any a HAL.out _).mono ?_
  rintro e w8 ⟨rfl, hb⟩
  have hbm : Below w7.heap.size w7 w8 := hb
  clear hb
  have hm : Mv S1 S1 w7 w8 := Mv.of_below hbm
  have T_14 := Lib.hid (T_13.out.step hm)
  clear T_13
  have A_14 := Lib.hid (A_13.out.step hm)
  clear A_13
  have B_14 := Lib.hid (B_13.out.step hm)
  clear B_13
  have HM_14 := Lib.hid (HM_13.out.trans hm)
  clear HM_13
  have WI_14 := Lib.hid (WI_13.out.mono hm.size)
  clear WI_13
  have HD_14 := Lib.hid (HD_13.out.under hbm)
  clear HD_13
  clear hm
  clear hbm
  go_wp2_with fail
  refine (switch_ok a HSA.out.1 HSA.out.2 HD_14.out (by simp) (by simp)).mono ?_
  rintro e w9 ⟨S2, rfl, hd, hm⟩
  have T_15 := Lib.hid (T_14.out.step hm)
  clear T_14
  have A_15 := Lib.hid (A_14.out.step hm)
  clear A_14
  have B_15 := Lib.hid (B_14.out.step hm)
  clear B_14
  have HM_15 := Lib.hid (HM_14.out.trans hm)
  clear HM_14
  have WI_15 := Lib.hid (hd.wi)
  clear WI_14
  have HD_15 := Lib.hid (hd)
  clear HD_14
  clear hm
  clear hd
  go_wp2_with (first | ((with_reducible refine at_ld 68 (.tmp 5) ?_); refine ld_rp rfl _ rfl BB (0) rfl b ?_ ?_ ?_; exact HBL.out; exact (B_15.out.now).r))
  refine (of_any b HBL.out _).mono ?_
  rintro e w10 ⟨rfl, hb⟩
  have hbm : Below w9.heap.size w9 w10 := hb
  clear hb
  have hm : Mv S2 S2 w9 w10 := Mv.of_below hbm
  have T_16 := Lib.hid (T_15.out.step hm)
  clear T_15
  have A_16 := Lib.hid (A_15.out.step hm)
  clear A_15
  have B_16 := Lib.hid (B_15.out.step hm)
  clear B_15
  have HM_16 := Lib.hid (HM_15.out.trans hm)
  clear HM_15
  have WI_16 := Lib.hid (WI_15.out.mono hm.size)
  clear WI_15
  have HD_16 := Lib.hid (HD_15.out.under hbm)
  clear HD_15
  clear hm
  clear hbm
  go_wp2_with fail
  refine (switch_ok b HSB.out.1 HSB.out.2 HD_16.out (by simp) (by rw [swF_length]; simp)).mono ?_
  rintro e w11 ⟨S3, rfl, hd, hm⟩
  rw [show swF (swF (List.replicate 3 zp) [] a) [] b = twoF a b from rfl] at hd
  have T_17 := Lib.hid (T_16.out.step hm)
  clear T_16
  have A_17 := Lib.hid (A_16.out.step hm)
  clear A_16
  have B_17 := Lib.hid (B_16.out.step hm)
  clear B_16
  have HM_17 := Lib.hid (HM_16.out.trans hm)
  clear HM_16
  have WI_17 := Lib.hid (hd.wi)
  clear WI_16
  have HD_17 := Lib.hid (hd)
  clear HD_16
  clear hm
  clear hd
  go_wp2_with fail
  have HBC := Lib.hid (best_m HD_17.out (by simp))
  rw [HT2.out.1, HT2.out.2] at HBC
  refine (HBC.out).mono ?_
  rintro e w12 ⟨v1, rfl, he, hb⟩
  have hbm : Below w11.heap.size w11 w12 := hb
  clear hb
  have hm : Mv S3 S3 w11 w12 := Mv.of_below hbm
  have T_18 := Lib.hid (T_17.out.step hm)
  clear T_17
  have A_18 := Lib.hid (A_17.out.step hm)
  clear A_17
  have B_18 := Lib.hid (B_17.out.step hm)
  clear B_17
  have HM_18 := Lib.hid (HM_17.out.trans hm)
  clear HM_17
  have WI_18 := Lib.hid (WI_17.out.mono hm.size)
  clear WI_17
  have HD_18 := Lib.hid (HD_17.out.under hbm)
  clear HD_17
  clear hm
  clear hbm
  obtain rfl := ErrC.zero he
  clear he HBC
  go_upto_region 10 with (first | ((with_reducible refine at_al 72 ?_); refine al_sp rfl rfl ?_) | ((with_reducible refine at_st 72 (.tmp 13) (.tmp 48) ?_); refine stn_sp rfl _ _ rfl _ _ _ rfl rfl b ?_ rfl ?_ ?_; exact HBL.out; exact ssz))
  obtain ⟨w13, hw13⟩ : ∃ q, q = w12.alloc (.cells (sv (b)).toArray 72) := ⟨_, rfl⟩
  try rw [← hw13]
  have hbm : Below w12.heap.size w12 w13 := by rw [hw13]; exact (Below.refl _ _).alloc (Nat.le_refl _) _
  have hm : Mv S3 S3 w12 w13 := Mv.of_below hbm
  have hbx : Stays S3 w13 (fun W => SupAt W w12.heap.size (b)) := Stays.boxS HBL.out WI_18.out hw13
  have hsz13 : w13.heap.size = w12.heap.size + 1 := by rw [hw13]; simp
  obtain ⟨BX, hBX⟩ : ∃ q, q = w12.heap.size := ⟨_, rfl⟩
  try rw [← hBX]
  rw [← hBX] at hbx hsz13
  have T_19 := Lib.hid (T_18.out.step hm)
  clear T_18
  have A_19 := Lib.hid (A_18.out.step hm)
  clear A_18
  have B_19 := Lib.hid (B_18.out.step hm)
  clear B_18
  have HM_19 := Lib.hid (HM_18.out.trans hm)
  clear HM_18
  have WI_19 := Lib.hid (WI_18.out.mono hm.size)
  clear WI_18
  have HD_19 := Lib.hid (HD_18.out.under hbm)
  clear HD_18
  clear hm
  clear hbm hw13 hBX
  have X_20 := Lib.hid (hbx)
  clear hbx
  clear hsz13
  have cgb := (B_19.out.now).gen
  go_wp2_with fail
  have HRP := Lib.hid (read_ok (b.g % 2) HD_19.out (by simp) HMY.out)
  rw [HRD.out] at HRP
  clear cgb
  refine (HRP.out).mono ?_
  rintro e w14 ⟨rfl, hb⟩
  have hbm : Below w13.heap.size w13 w14 := hb
  clear hb
  have hm : Mv S3 S3 w13 w14 := Mv.of_below hbm
  have T_21 := Lib.hid (T_19.out.step hm)
  clear T_19
  have A_21 := Lib.hid (A_19.out.step hm)
  clear A_19
  have B_21 := Lib.hid (B_19.out.step hm)
  clear B_19
  have X_21 := Lib.hid (X_20.out.step hm)
  clear X_20
  have HM_21 := Lib.hid (HM_19.out.trans hm)
  clear HM_19
  have WI_21 := Lib.hid (WI_19.out.mono hm.size)
  clear WI_19
  have HD_21 := Lib.hid (HD_19.out.under hbm)
  clear HD_19
  clear hm
  clear hbm
  clear HRP
  go_upto_region 11 with (first | ((with_reducible refine at_al 36 ?_); refine al_pg rfl rfl ?_) | ((with_reducible refine at_st 36 (.tmp 15) (.tmp 57) ?_); refine st_new rfl _ _ rfl _ _ _ rfl rfl P ?_ rfl ?_ ?_; exact HPL2.out; exact zsz))
  obtain ⟨w15, hw15⟩ : ∃ q, q = w14.alloc (.cells (pv (P)).toArray 36) := ⟨_, rfl⟩
  try rw [← hw15]
  have hbm : Below w14.heap.size w14 w15 := by rw [hw15]; exact (Below.refl _ _).alloc (Nat.le_refl _) _
  have hni : ∀ k, S3 k → k ≠ w14.heap.size := fun k q => by have := WI_21.out k q; omega
  have hm := Mv.own (S := S3) hw15
  have hwi := Wi.own WI_21.out hw15
  have hpx : PgAt w15 w14.heap.size (P) := by rw [hw15]; exact PgAt.new _ _ _ HPL2.out
  obtain ⟨BK, hBK⟩ : ∃ q, q = w14.heap.size := ⟨_, rfl⟩
  rw [← hBK] at hm hwi hpx hni
  try rw [← hBK]
  have T_22 := Lib.hid (T_21.out.step hm)
  clear T_21
  have A_22 := Lib.hid (A_21.out.step hm)
  clear A_21
  have B_22 := Lib.hid (B_21.out.step hm)
  clear B_21
  have X_22 := Lib.hid (X_21.out.step hm)
  clear X_21
  have HM_22 := Lib.hid (HM_21.out.trans hm)
  clear HM_21
  have WI_22 := Lib.hid (hwi)
  clear WI_21
  have HD_22 := Lib.hid (HD_21.out.under hbm)
  clear HD_21
  clear hm
  clear hbm hw15 hBK hwi
  have HNI := Lib.hid hni
  have HO := Lib.hid hpx
  clear hpx hni
  have cx := HO.out.byte i x HX.out
  have fx := HO.out.free i hi2
  go_upto_region 12 with fail
  clear cx fx
  have hpx := (by rw [HQE.out]; exact HO.out.put i z hi2 : PgAt (w15.setCell ⟨BK, i, none⟩ (.int .u8 (z.toNat : Int))) BK q)
  have htt : Touch (fun k => k = BK) w15 (w15.setCell ⟨BK, i, none⟩ (.int .u8 (z.toNat : Int))) := touch_set _ _ _ _ rfl
  have hm : Mv (fun k => S3 k ∨ k = BK) (fun k => S3 k ∨ k = BK) w15 (w15.setCell ⟨BK, i, none⟩ (.int .u8 (z.toNat : Int))) := Mv.set _ _ _ _ (.inr rfl)
  obtain ⟨w16, hw16⟩ : ∃ q, q = w15.setCell ⟨BK, i, none⟩ (.int .u8 (z.toNat : Int)) := ⟨_, rfl⟩
  rw [← hw16] at hpx htt hm
  try rw [← hw16]
  clear hw16
  have T_23 := Lib.hid (T_22.out.step hm)
  clear T_22
  have A_23 := Lib.hid (A_22.out.step hm)
  clear A_22
  have B_23 := Lib.hid (B_22.out.step hm)
  clear B_22
  have X_23 := Lib.hid (X_22.out.step hm)
  clear X_22
  have HM_23 := Lib.hid (HM_22.out.trans hm)
  clear HM_22
  have WI_23 := Lib.hid (WI_22.out.mono hm.size)
  clear WI_22
  have HD_23 := Lib.hid (HD_22.out.keep htt (fun k q e => HNI.out k q e))
  clear HD_22
  clear hm
  have T_24 := Lib.hid (T_23.out.less (T := S3) (fun k q => .inl q))
  clear T_23
  have A_25 := Lib.hid (A_23.out.less (T := S3) (fun k q => .inl q))
  clear A_23
  have B_26 := Lib.hid (B_23.out.less (T := S3) (fun k q => .inl q))
  clear B_23
  have X_27 := Lib.hid (X_23.out.less (T := S3) (fun k q => .inl q))
  clear X_23
  have HM_28 : Hid (Mv No S3 w w16) := Lib.hid ⟨HM_23.out.t, fun k q => HM_23.out.s k (.inl q)⟩
  clear HM_23
  have WI_28 : Hid (Wi S3 w16) := Lib.hid (fun k q => WI_23.out k (.inl q))
  clear WI_23
  have hst := Stays.pg (S := S3) hpx (fun q => HNI.out _ q rfl)
  clear hpx htt HNI HO
  have K_29 := Lib.hid (hst)
  clear hst
  have cgb := (B_26.out.now).gen
  go_wp2_with (first | ((with_reducible refine at_ld 36 (.tmp 15) ?_); refine ld_pg rfl _ rfl BK (0) rfl q ?_ ?_ ?_; exact HQ.out; exact (K_29.out.now).r))
  refine (write_ok (b.g % 2) q HD_23.out (by simp) HQ.out HMY.out).mono ?_
  rintro e w17 ⟨S5, rfl, hd, hm⟩
  clear cgb
  have T_30 := Lib.hid (T_24.out.step hm)
  clear T_24
  have A_30 := Lib.hid (A_25.out.step hm)
  clear A_25
  have B_30 := Lib.hid (B_26.out.step hm)
  clear B_26
  have X_30 := Lib.hid (X_27.out.step hm)
  clear X_27
  have K_30 := Lib.hid (K_29.out.step hm)
  clear K_29
  have HM_30 := Lib.hid (HM_28.out.trans hm)
  clear HM_28
  have WI_30 := Lib.hid (hd.wi)
  clear WI_28
  have HD_30 := Lib.hid (hd)
  clear HD_23
  clear hm
  clear hd
  go_wp2_with fail
  have HBC := Lib.hid (best_m HD_30.out (by simp))
  rw [HYB.out.1, HYB.out.2] at HBC
  refine (HBC.out).mono ?_
  rintro e w18 ⟨v2, rfl, he, hb⟩
  have hbm : Below w17.heap.size w17 w18 := hb
  clear hb
  have hm : Mv S5 S5 w17 w18 := Mv.of_below hbm
  have T_31 := Lib.hid (T_30.out.step hm)
  clear T_30
  have A_31 := Lib.hid (A_30.out.step hm)
  clear A_30
  have B_31 := Lib.hid (B_30.out.step hm)
  clear B_30
  have X_31 := Lib.hid (X_30.out.step hm)
  clear X_30
  have K_31 := Lib.hid (K_30.out.step hm)
  clear K_30
  have HM_31 := Lib.hid (HM_30.out.trans hm)
  clear HM_30
  have WI_31 := Lib.hid (WI_30.out.mono hm.size)
  clear WI_30
  have HD_31 := Lib.hid (HD_30.out.under hbm)
  clear HD_30
  clear hm
  clear hbm
  obtain rfl := ErrC.zero he
  clear he HBC
  go_upto_region 14 with (first | ((with_reducible refine at_al 72 ?_); refine al_sp rfl rfl ?_) | ((with_reducible refine at_st 72 (.tmp 17) (.tmp 76) ?_); refine stn_sp rfl _ _ rfl _ _ _ rfl rfl b ?_ rfl ?_ ?_; exact HBL.out; exact ssz))
  obtain ⟨w19, hw19⟩ : ∃ q, q = w18.alloc (.cells (sv (b)).toArray 72) := ⟨_, rfl⟩
  try rw [← hw19]
  have hbm : Below w18.heap.size w18 w19 := by rw [hw19]; exact (Below.refl _ _).alloc (Nat.le_refl _) _
  have hm : Mv S5 S5 w18 w19 := Mv.of_below hbm
  have hbx : Stays S5 w19 (fun W => SupAt W w18.heap.size (b)) := Stays.boxS HBL.out WI_31.out hw19
  have hsz19 : w19.heap.size = w18.heap.size + 1 := by rw [hw19]; simp
  obtain ⟨BY, hBY⟩ : ∃ q, q = w18.heap.size := ⟨_, rfl⟩
  try rw [← hBY]
  rw [← hBY] at hbx hsz19
  have T_32 := Lib.hid (T_31.out.step hm)
  clear T_31
  have A_32 := Lib.hid (A_31.out.step hm)
  clear A_31
  have B_32 := Lib.hid (B_31.out.step hm)
  clear B_31
  have X_32 := Lib.hid (X_31.out.step hm)
  clear X_31
  have K_32 := Lib.hid (K_31.out.step hm)
  clear K_31
  have HM_32 := Lib.hid (HM_31.out.trans hm)
  clear HM_31
  have WI_32 := Lib.hid (WI_31.out.mono hm.size)
  clear WI_31
  have HD_32 := Lib.hid (HD_31.out.under hbm)
  clear HD_31
  clear hm
  clear hbm hw19 hBY
  have Y_33 := Lib.hid (hbx)
  clear hbx
  clear hsz19
  have HSx : Hid (∀ wz, KF w19 wz → (fun wz => KF w19 wz) wz) := Lib.hid (fun wz h => h)
  refine wp_region_held_drew (S := fun wz => KF w19 wz) (by kernel_rfl) ?_ (fun hHeld => ?_)
  · exact HSx.out _ (KF.drew (KF.refl _))
  have hKF0 : KF w19 w19.drew := KF.drew (KF.refl _)
  refine wpAnyH_take (i := 0) (oi := { dst := Option.some 78, op := Go.Op.move (Go.Operand.tmp 10), type := 26, pos := "law.go:140", after := #[], guard := Option.none }) (v := ?_) rfl (by kernel_rfl) (by kernel_rfl) (by kernel_rfl) (fun _ _ _ h => h) (Or.inl ⟨by rfl, ?_⟩) (by assumption) ?_
  rotate_left
  · intro w hSw; (try dsimp only at hSw); go_simp; (try with_reducible rfl)
  simp only [Act.put, List.setIfInBounds_toArray, List.set_cons_zero, List.set_cons_succ]
  refine wpAnyH_ready (rs := [1]) (by kernel_rfl) (by simp) ?_
  refine AllReadyH.cons (o := { dst := Option.some 79, op := Go.Op.call { callee := Go.Callee.value (Go.Operand.func 21), args := #[Go.Operand.tmp 78], argTypes := #[26] }, type := 3, pos := "law.go:140", after := #[{ on := 0, ground := Go.Ground.data }], guard := Option.none }) rfl (fun K hK => ?_) AllReadyH.nil
  go_simp
  refine (num_nil_b4 _).mono ?_
  rintro e w20 ⟨rfl, hb⟩
  have hKF1 : KF w19 w20 := KF.step hKF0 hb
  clear hb
  dsimp only
  refine hK.out _ _ (HSx.out _ hKF1) (fun hHeld1 => ?_)
  clear hK K
  try simp only [Act.put, List.setIfInBounds_toArray, List.set_cons_zero, List.set_cons_succ]
  refine wpAnyH_take (i := 2) (oi := { dst := Option.some 80, op := Go.Op.binOp Go.BinOp.neq 3 (Go.Operand.tmp 79) (Go.Operand.const (Go.Value.int Go.IntKind.i64 0)) 3, type := 4, pos := "law.go:140", after := #[{ on := 1, ground := Go.Ground.data }], guard := Option.none }) (v := ?_) rfl (by kernel_rfl) (by kernel_rfl) (by kernel_rfl) (fun _ _ _ h => h) (Or.inl ⟨by rfl, ?_⟩) (by assumption) ?_
  rotate_left
  · intro w hSw; (try dsimp only at hSw); go_simp; (try with_reducible rfl)
  simp only [Act.put, List.setIfInBounds_toArray, List.set_cons_zero, List.set_cons_succ]
  refine wpAnyH_take (i := 3) (oi := { dst := Option.some 81, op := Go.Op.move (Go.Operand.tmp 80), type := 4, pos := "law.go:140", after := #[{ on := 2, ground := Go.Ground.data }, { on := 1, ground := Go.Ground.chain }], guard := Option.none }) (v := ?_) rfl (by kernel_rfl) (by kernel_rfl) (by kernel_rfl) (fun _ _ _ h => h) (Or.inl ⟨by rfl, ?_⟩) (by assumption) ?_
  rotate_left
  · intro w hSw; (try dsimp only at hSw); go_simp; (try with_reducible rfl)
  simp only [Act.put, List.setIfInBounds_toArray, List.set_cons_zero, List.set_cons_succ]
  refine wpAnyH_take (i := 4) (oi := { dst := Option.some 82, op := Go.Op.move (Go.Operand.tmp 11), type := 26, pos := "law.go:140", after := #[{ on := 3, ground := Go.Ground.guard }], guard := Option.some (3, Bool.false) }) (v := ?_) rfl (by kernel_rfl) (by kernel_rfl) (by kernel_rfl) (fun _ _ _ h => h) (Or.inl ⟨by rfl, ?_⟩) (by assumption) ?_
  rotate_left
  · intro w hSw; (try dsimp only at hSw); go_simp; (try with_reducible rfl)
  simp only [Act.put, List.setIfInBounds_toArray, List.set_cons_zero, List.set_cons_succ]
  refine wpAnyH_ready (rs := [5]) (by kernel_rfl) (by simp) ?_
  refine AllReadyH.cons (o := { dst := Option.some 83, op := Go.Op.call { callee := Go.Callee.value (Go.Operand.func 21), args := #[Go.Operand.tmp 82], argTypes := #[26] }, type := 3, pos := "law.go:140", after := #[{ on := 4, ground := Go.Ground.data }, { on := 3, ground := Go.Ground.chain }, { on := 3, ground := Go.Ground.guard }], guard := Option.some (3, Bool.false) }) rfl (fun K hK => ?_) AllReadyH.nil
  go_simp
  refine (num_nil_b4 _).mono ?_
  rintro e w21 ⟨rfl, hb⟩
  have hKF2 : KF w19 w21 := KF.step hKF1 hb
  clear hb
  dsimp only
  refine hK.out _ _ (HSx.out _ hKF2) (fun hHeld2 => ?_)
  clear hK K
  try simp only [Act.put, List.setIfInBounds_toArray, List.set_cons_zero, List.set_cons_succ]
  refine wpAnyH_take (i := 6) (oi := { dst := Option.some 84, op := Go.Op.binOp Go.BinOp.neq 3 (Go.Operand.tmp 83) (Go.Operand.const (Go.Value.int Go.IntKind.i64 0)) 3, type := 4, pos := "law.go:140", after := #[{ on := 5, ground := Go.Ground.data }, { on := 3, ground := Go.Ground.guard }], guard := Option.some (3, Bool.false) }) (v := ?_) rfl (by kernel_rfl) (by kernel_rfl) (by kernel_rfl) (fun _ _ _ h => h) (Or.inl ⟨by rfl, ?_⟩) (by assumption) ?_
  rotate_left
  · intro w hSw; (try dsimp only at hSw); go_simp; (try with_reducible rfl)
  simp only [Act.put, List.setIfInBounds_toArray, List.set_cons_zero, List.set_cons_succ]
  refine wpAnyH_take (i := 7) (oi := { dst := Option.some 85, op := Go.Op.pick (Go.Operand.tmp 81) (Go.Operand.const (Go.Value.bool Bool.true)) (Go.Operand.tmp 84), type := 4, pos := "law.go:140", after := #[{ on := 3, ground := Go.Ground.data }, { on := 6, ground := Go.Ground.data }], guard := Option.none }) (v := ?_) rfl (by kernel_rfl) (by kernel_rfl) (by kernel_rfl) (fun _ _ _ h => h) (Or.inl ⟨by rfl, ?_⟩) (by assumption) ?_
  rotate_left
  · intro w hSw; (try dsimp only at hSw); go_simp; (try with_reducible rfl)
  simp only [Act.put, List.setIfInBounds_toArray, List.set_cons_zero, List.set_cons_succ]
  refine wpAnyH_take (i := 8) (oi := { dst := Option.some 86, op := Go.Op.move (Go.Operand.tmp 85), type := 4, pos := "law.go:140", after := #[{ on := 7, ground := Go.Ground.data }, { on := 5, ground := Go.Ground.chain }], guard := Option.none }) (v := ?_) rfl (by kernel_rfl) (by kernel_rfl) (by kernel_rfl) (fun _ _ _ h => h) (Or.inl ⟨by rfl, ?_⟩) (by assumption) ?_
  rotate_left
  · intro w hSw; (try dsimp only at hSw); go_simp; (try with_reducible rfl)
  simp only [Act.put, List.setIfInBounds_toArray, List.set_cons_zero, List.set_cons_succ]
  refine wpAnyH_take (i := 9) (oi := { dst := Option.some 87, op := Go.Op.move (Go.Operand.tmp 12), type := 26, pos := "law.go:140", after := #[{ on := 8, ground := Go.Ground.guard }], guard := Option.some (8, Bool.false) }) (v := ?_) rfl (by kernel_rfl) (by kernel_rfl) (by kernel_rfl) (fun _ _ _ h => h) (Or.inl ⟨by rfl, ?_⟩) (by assumption) ?_
  rotate_left
  · intro w hSw; (try dsimp only at hSw); go_simp; (try with_reducible rfl)
  simp only [Act.put, List.setIfInBounds_toArray, List.set_cons_zero, List.set_cons_succ]
  refine wpAnyH_ready (rs := [10]) (by kernel_rfl) (by simp) ?_
  refine AllReadyH.cons (o := { dst := Option.some 88, op := Go.Op.call { callee := Go.Callee.value (Go.Operand.func 21), args := #[Go.Operand.tmp 87], argTypes := #[26] }, type := 3, pos := "law.go:140", after := #[{ on := 9, ground := Go.Ground.data }, { on := 8, ground := Go.Ground.chain }, { on := 8, ground := Go.Ground.guard }], guard := Option.some (8, Bool.false) }) rfl (fun K hK => ?_) AllReadyH.nil
  go_simp
  refine (num_nil_b4 _).mono ?_
  rintro e w22 ⟨rfl, hb⟩
  have hKF3 : KF w19 w22 := KF.step hKF2 hb
  clear hb
  dsimp only
  refine hK.out _ _ (HSx.out _ hKF3) (fun hHeld3 => ?_)
  clear hK K
  try simp only [Act.put, List.setIfInBounds_toArray, List.set_cons_zero, List.set_cons_succ]
  refine wpAnyH_take (i := 11) (oi := { dst := Option.some 89, op := Go.Op.binOp Go.BinOp.neq 3 (Go.Operand.tmp 88) (Go.Operand.const (Go.Value.int Go.IntKind.i64 0)) 3, type := 4, pos := "law.go:140", after := #[{ on := 10, ground := Go.Ground.data }, { on := 8, ground := Go.Ground.guard }], guard := Option.some (8, Bool.false) }) (v := ?_) rfl (by kernel_rfl) (by kernel_rfl) (by kernel_rfl) (fun _ _ _ h => h) (Or.inl ⟨by rfl, ?_⟩) (by assumption) ?_
  rotate_left
  · intro w hSw; (try dsimp only at hSw); go_simp; (try with_reducible rfl)
  simp only [Act.put, List.setIfInBounds_toArray, List.set_cons_zero, List.set_cons_succ]
  refine wpAnyH_take (i := 12) (oi := { dst := Option.some 90, op := Go.Op.pick (Go.Operand.tmp 86) (Go.Operand.const (Go.Value.bool Bool.true)) (Go.Operand.tmp 89), type := 4, pos := "law.go:140", after := #[{ on := 8, ground := Go.Ground.data }, { on := 11, ground := Go.Ground.data }], guard := Option.none }) (v := ?_) rfl (by kernel_rfl) (by kernel_rfl) (by kernel_rfl) (fun _ _ _ h => h) (Or.inl ⟨by rfl, ?_⟩) (by assumption) ?_
  rotate_left
  · intro w hSw; (try dsimp only at hSw); go_simp; (try with_reducible rfl)
  simp only [Act.put, List.setIfInBounds_toArray, List.set_cons_zero, List.set_cons_succ]
  refine wpAnyH_take (i := 13) (oi := { dst := Option.some 91, op := Go.Op.move (Go.Operand.tmp 90), type := 4, pos := "law.go:140", after := #[{ on := 12, ground := Go.Ground.data }, { on := 10, ground := Go.Ground.chain }], guard := Option.none }) (v := ?_) rfl (by kernel_rfl) (by kernel_rfl) (by kernel_rfl) (fun _ _ _ h => h) (Or.inl ⟨by rfl, ?_⟩) (by assumption) ?_
  rotate_left
  · intro w hSw; (try dsimp only at hSw); go_simp; (try with_reducible rfl)
  simp only [Act.put, List.setIfInBounds_toArray, List.set_cons_zero, List.set_cons_succ]
  refine wpAnyH_take (i := 14) (oi := { dst := Option.some 92, op := Go.Op.move (Go.Operand.tmp 14), type := 26, pos := "law.go:140", after := #[{ on := 13, ground := Go.Ground.guard }], guard := Option.some (13, Bool.false) }) (v := ?_) rfl (by kernel_rfl) (by kernel_rfl) (by kernel_rfl) (fun _ _ _ h => h) (Or.inl ⟨by rfl, ?_⟩) (by assumption) ?_
  rotate_left
  · intro w hSw; (try dsimp only at hSw); go_simp; (try with_reducible rfl)
  simp only [Act.put, List.setIfInBounds_toArray, List.set_cons_zero, List.set_cons_succ]
  refine wpAnyH_ready (rs := [15]) (by kernel_rfl) (by simp) ?_
  refine AllReadyH.cons (o := { dst := Option.some 93, op := Go.Op.call { callee := Go.Callee.value (Go.Operand.func 21), args := #[Go.Operand.tmp 92], argTypes := #[26] }, type := 3, pos := "law.go:140", after := #[{ on := 14, ground := Go.Ground.data }, { on := 13, ground := Go.Ground.chain }, { on := 13, ground := Go.Ground.guard }], guard := Option.some (13, Bool.false) }) rfl (fun K hK => ?_) AllReadyH.nil
  go_simp
  refine (num_nil_b4 _).mono ?_
  rintro e w23 ⟨rfl, hb⟩
  have hKF4 : KF w19 w23 := KF.step hKF3 hb
  clear hb
  dsimp only
  refine hK.out _ _ (HSx.out _ hKF4) (fun hHeld4 => ?_)
  clear hK K
  try simp only [Act.put, List.setIfInBounds_toArray, List.set_cons_zero, List.set_cons_succ]
  refine wpAnyH_take (i := 16) (oi := { dst := Option.some 94, op := Go.Op.binOp Go.BinOp.neq 3 (Go.Operand.tmp 93) (Go.Operand.const (Go.Value.int Go.IntKind.i64 0)) 3, type := 4, pos := "law.go:140", after := #[{ on := 15, ground := Go.Ground.data }, { on := 13, ground := Go.Ground.guard }], guard := Option.some (13, Bool.false) }) (v := ?_) rfl (by kernel_rfl) (by kernel_rfl) (by kernel_rfl) (fun _ _ _ h => h) (Or.inl ⟨by rfl, ?_⟩) (by assumption) ?_
  rotate_left
  · intro w hSw; (try dsimp only at hSw); go_simp; (try with_reducible rfl)
  simp only [Act.put, List.setIfInBounds_toArray, List.set_cons_zero, List.set_cons_succ]
  refine wpAnyH_take (i := 17) (oi := { dst := Option.some 95, op := Go.Op.pick (Go.Operand.tmp 91) (Go.Operand.const (Go.Value.bool Bool.true)) (Go.Operand.tmp 94), type := 4, pos := "law.go:140", after := #[{ on := 13, ground := Go.Ground.data }, { on := 16, ground := Go.Ground.data }], guard := Option.none }) (v := ?_) rfl (by kernel_rfl) (by kernel_rfl) (by kernel_rfl) (fun _ _ _ h => h) (Or.inl ⟨by rfl, ?_⟩) (by assumption) ?_
  rotate_left
  · intro w hSw; (try dsimp only at hSw); go_simp; (try with_reducible rfl)
  simp only [Act.put, List.setIfInBounds_toArray, List.set_cons_zero, List.set_cons_succ]
  refine wpAnyH_take (i := 18) (oi := { dst := Option.some 96, op := Go.Op.move (Go.Operand.tmp 95), type := 4, pos := "law.go:140", after := #[{ on := 17, ground := Go.Ground.data }, { on := 15, ground := Go.Ground.chain }], guard := Option.none }) (v := ?_) rfl (by kernel_rfl) (by kernel_rfl) (by kernel_rfl) (fun _ _ _ h => h) (Or.inl ⟨by rfl, ?_⟩) (by assumption) ?_
  rotate_left
  · intro w hSw; (try dsimp only at hSw); go_simp; (try with_reducible rfl)
  simp only [Act.put, List.setIfInBounds_toArray, List.set_cons_zero, List.set_cons_succ]
  refine wpAnyH_take (i := 19) (oi := { dst := Option.some 97, op := Go.Op.move (Go.Operand.tmp 18), type := 26, pos := "law.go:140", after := #[{ on := 18, ground := Go.Ground.guard }], guard := Option.some (18, Bool.false) }) (v := ?_) rfl (by kernel_rfl) (by kernel_rfl) (by kernel_rfl) (fun _ _ _ h => h) (Or.inl ⟨by rfl, ?_⟩) (by assumption) ?_
  rotate_left
  · intro w hSw; (try dsimp only at hSw); go_simp; (try with_reducible rfl)
  simp only [Act.put, List.setIfInBounds_toArray, List.set_cons_zero, List.set_cons_succ]
  refine wpAnyH_ready (rs := [20]) (by kernel_rfl) (by simp) ?_
  refine AllReadyH.cons (o := { dst := Option.some 98, op := Go.Op.call { callee := Go.Callee.value (Go.Operand.func 21), args := #[Go.Operand.tmp 97], argTypes := #[26] }, type := 3, pos := "law.go:140", after := #[{ on := 19, ground := Go.Ground.data }, { on := 18, ground := Go.Ground.chain }, { on := 18, ground := Go.Ground.guard }], guard := Option.some (18, Bool.false) }) rfl (fun K hK => ?_) AllReadyH.nil
  go_simp
  refine (num_nil_b4 _).mono ?_
  rintro e w24 ⟨rfl, hb⟩
  have hKF5 : KF w19 w24 := KF.step hKF4 hb
  clear hb
  dsimp only
  refine hK.out _ _ (HSx.out _ hKF5) (fun hHeld5 => ?_)
  clear hK K
  try simp only [Act.put, List.setIfInBounds_toArray, List.set_cons_zero, List.set_cons_succ]
  refine wpAnyH_take (i := 21) (oi := { dst := Option.some 99, op := Go.Op.binOp Go.BinOp.neq 3 (Go.Operand.tmp 98) (Go.Operand.const (Go.Value.int Go.IntKind.i64 0)) 3, type := 4, pos := "law.go:140", after := #[{ on := 20, ground := Go.Ground.data }, { on := 18, ground := Go.Ground.guard }], guard := Option.some (18, Bool.false) }) (v := ?_) rfl (by kernel_rfl) (by kernel_rfl) (by kernel_rfl) (fun _ _ _ h => h) (Or.inl ⟨by rfl, ?_⟩) (by assumption) ?_
  rotate_left
  · intro w hSw; (try dsimp only at hSw); go_simp; (try with_reducible rfl)
  simp only [Act.put, List.setIfInBounds_toArray, List.set_cons_zero, List.set_cons_succ]
  refine wpAnyH_take (i := 22) (oi := { dst := Option.some 100, op := Go.Op.pick (Go.Operand.tmp 96) (Go.Operand.const (Go.Value.bool Bool.true)) (Go.Operand.tmp 99), type := 4, pos := "law.go:140", after := #[{ on := 18, ground := Go.Ground.data }, { on := 21, ground := Go.Ground.data }], guard := Option.none }) (v := ?_) rfl (by kernel_rfl) (by kernel_rfl) (by kernel_rfl) (fun _ _ _ h => h) (Or.inl ⟨by rfl, ?_⟩) (by assumption) ?_
  rotate_left
  · intro w hSw; (try dsimp only at hSw); go_simp; (try with_reducible rfl)
  simp only [Act.put, List.setIfInBounds_toArray, List.set_cons_zero, List.set_cons_succ]
  refine wpAnyH_take (i := 23) (oi := { dst := Option.some 101, op := Go.Op.move (Go.Operand.tmp 100), type := 4, pos := "law.go:140", after := #[{ on := 22, ground := Go.Ground.data }, { on := 20, ground := Go.Ground.chain }], guard := Option.none }) (v := ?_) rfl (by kernel_rfl) (by kernel_rfl) (by kernel_rfl) (fun _ _ _ h => h) (Or.inl ⟨by rfl, ?_⟩) (by assumption) ?_
  rotate_left
  · intro w hSw; (try dsimp only at hSw); go_simp; (try with_reducible rfl)
  simp only [Act.put, List.setIfInBounds_toArray, List.set_cons_zero, List.set_cons_succ]
  refine wpAnyH_take (i := 24) (oi := { dst := Option.some 102, op := Go.Op.load 72 (Go.Operand.tmp 13), type := 72, pos := "law.go:140", after := #[{ on := 23, ground := Go.Ground.guard }], guard := Option.some (23, Bool.false) }) rfl (by kernel_rfl) (by kernel_rfl) (by kernel_rfl) (fun _ _ _ h => h) (yieldsIf_load_mid (by rfl) 72 _ rfl BX 0 rfl (sv b) _ (fun W hW => (X_32.out.step (Mv.of_below hW)).now.r) Tryd.underlying72 rfl (szof_sp HBL.out)) (by assumption) ?_
  simp only [Act.put, List.setIfInBounds_toArray, List.set_cons_zero, List.set_cons_succ]
  refine wpAnyH_take (i := 26) (oi := { dst := Option.some 104, op := Go.Op.load 68 (Go.Operand.tmp 5), type := 68, pos := "law.go:140", after := #[{ on := 23, ground := Go.Ground.guard }], guard := Option.some (23, Bool.false) }) rfl (by kernel_rfl) (by kernel_rfl) (by kernel_rfl) (fun _ _ _ h => h) (yieldsIf_load_mid (by rfl) 68 _ rfl BB 0 rfl (sv b) _ (fun W hW => (B_32.out.step (Mv.of_below hW)).now.r) Tryd.underlying68 rfl (szof_rp HBL.out)) (by assumption) ?_
  simp only [Act.put, List.setIfInBounds_toArray, List.set_cons_zero, List.set_cons_succ]
  refine wpAnyH_ready (rs := [25]) (by kernel_rfl) (by simp) ?_
  refine AllReadyH.cons (o := { dst := Option.some 103, op := Go.Op.call { callee := Go.Callee.value (Go.Operand.func 46), args := #[Go.Operand.tmp 102], argTypes := #[72] }, type := 68, pos := "law.go:140", after := #[{ on := 24, ground := Go.Ground.data }, { on := 23, ground := Go.Ground.chain }, { on := 23, ground := Go.Ground.guard }], guard := Option.some (23, Bool.false) }) rfl (fun K hK => ?_) AllReadyH.nil
  go_simp
  refine (HPLB.out _).mono ?_
  rintro e w25 ⟨rfl, hb⟩
  have hKF6 : KF w19 w25 := KF.step hKF5 hb
  clear hb
  dsimp only
  refine hK.out _ _ (HSx.out _ hKF6) (fun hHeld6 => ?_)
  clear hK K
  try simp only [Act.put, List.setIfInBounds_toArray, List.set_cons_zero, List.set_cons_succ]
  refine wpAnyH_take (i := 27) (oi := { dst := Option.some 105, op := Go.Op.binOp Go.BinOp.neq 68 (Go.Operand.tmp 103) (Go.Operand.tmp 104) 68, type := 4, pos := "law.go:140", after := #[{ on := 25, ground := Go.Ground.data }, { on := 26, ground := Go.Ground.data }, { on := 23, ground := Go.Ground.guard }], guard := Option.some (23, Bool.false) }) rfl (by kernel_rfl) (by kernel_rfl) (by kernel_rfl) (fun _ _ _ h => h) (yif_neq_rp (by rfl) _ _ rfl b b rfl rfl HBL.out HBL.out) (by assumption) ?_
  simp only [Act.put, List.setIfInBounds_toArray, List.set_cons_zero, List.set_cons_succ]
  rw [hseb]
  refine wpAnyH_take (i := 28) (oi := { dst := Option.some 106, op := Go.Op.pick (Go.Operand.tmp 101) (Go.Operand.const (Go.Value.bool Bool.true)) (Go.Operand.tmp 105), type := 4, pos := "law.go:140", after := #[{ on := 23, ground := Go.Ground.data }, { on := 27, ground := Go.Ground.data }], guard := Option.none }) (v := ?_) rfl (by kernel_rfl) (by kernel_rfl) (by kernel_rfl) (fun _ _ _ h => h) (Or.inl ⟨by rfl, ?_⟩) (by assumption) ?_
  rotate_left
  · intro w hSw; (try dsimp only at hSw); go_simp; (try with_reducible rfl)
  simp only [Act.put, List.setIfInBounds_toArray, List.set_cons_zero, List.set_cons_succ]
  refine wpAnyH_done (by kernel_rfl) ?_ _
  have hbm : Below w19.heap.size w19 w25 := hKF6
  have hm : Mv S5 S5 w19 w25 := Mv.of_below hbm
  have T_34 := Lib.hid (T_32.out.step hm)
  clear T_32
  have A_34 := Lib.hid (A_32.out.step hm)
  clear A_32
  have B_34 := Lib.hid (B_32.out.step hm)
  clear B_32
  have X_34 := Lib.hid (X_32.out.step hm)
  clear X_32
  have K_34 := Lib.hid (K_32.out.step hm)
  clear K_32
  have Y_34 := Lib.hid (Y_33.out.step hm)
  clear Y_33
  have HM_34 := Lib.hid (HM_32.out.trans hm)
  clear HM_32
  have WI_34 := Lib.hid (WI_32.out.mono hm.size)
  clear WI_32
  have HD_34 := Lib.hid (HD_32.out.under hbm)
  clear HD_32
  clear hm
  clear hbm HSx hKF0 hKF1 hKF2 hKF3 hKF4 hKF5 hKF6
  go_upto_region 16 with fail
  have HSx : Hid (∀ wz, KF w25 wz → (fun wz => KF w25 wz) wz) := Lib.hid (fun wz h => h)
  refine wp_region_held_drew (S := fun wz => KF w25 wz) (by kernel_rfl) ?_ (fun hHeld => ?_)
  · exact HSx.out _ (KF.drew (KF.refl _))
  have hKF0 : KF w25 w25.drew := KF.drew (KF.refl _)
  refine wpAnyH_take (i := 0) (oi := { dst := Option.some 107, op := Go.Op.move (Go.Operand.tmp 3), type := 5, pos := "law.go:143", after := #[], guard := Option.none }) (v := ?_) rfl (by kernel_rfl) (by kernel_rfl) (by kernel_rfl) (fun _ _ _ h => h) (Or.inl ⟨by rfl, ?_⟩) (by assumption) ?_
  rotate_left
  · intro w hSw; (try dsimp only at hSw); go_simp; (try with_reducible rfl)
  simp only [Act.put, List.setIfInBounds_toArray, List.set_cons_zero, List.set_cons_succ]
  refine wpAnyH_take (i := 1) (oi := { dst := Option.some 108, op := Go.Op.binOp Go.BinOp.eql 5 (Go.Operand.tmp 107) (Go.Operand.const (Go.Value.int Go.IntKind.u8 0)) 5, type := 4, pos := "law.go:143", after := #[{ on := 0, ground := Go.Ground.data }], guard := Option.none }) (v := ?_) rfl (by kernel_rfl) (by kernel_rfl) (by kernel_rfl) (fun _ _ _ h => h) (Or.inl ⟨by rfl, ?_⟩) (by assumption) ?_
  rotate_left
  · intro w hSw; (try dsimp only at hSw); go_simp; (try with_reducible rfl)
  simp only [Act.put, List.setIfInBounds_toArray, List.set_cons_zero, List.set_cons_succ]
  refine wpAnyH_take (i := 2) (oi := { dst := Option.some 109, op := Go.Op.move (Go.Operand.tmp 108), type := 4, pos := "law.go:143", after := #[{ on := 1, ground := Go.Ground.data }], guard := Option.none }) (v := ?_) rfl (by kernel_rfl) (by kernel_rfl) (by kernel_rfl) (fun _ _ _ h => h) (Or.inl ⟨by rfl, ?_⟩) (by assumption) ?_
  rotate_left
  · intro w hSw; (try dsimp only at hSw); go_simp; (try with_reducible rfl)
  simp only [Act.put, List.setIfInBounds_toArray, List.set_cons_zero, List.set_cons_succ]
  refine wpAnyH_take (i := 3) (oi := { dst := Option.some 110, op := Go.Op.load 72 (Go.Operand.tmp 17), type := 72, pos := "law.go:143", after := #[{ on := 2, ground := Go.Ground.guard }], guard := Option.some (2, Bool.true) }) rfl (by kernel_rfl) (by kernel_rfl) (by kernel_rfl) (fun _ _ _ h => h) (yieldsIf_load_mid (by rfl) 72 _ rfl BY 0 rfl (sv b) _ (fun W hW => (Y_34.out.step (Mv.of_below hW)).now.r) Tryd.underlying72 rfl (szof_sp HBL.out)) (by assumption) ?_
  simp only [Act.put, List.setIfInBounds_toArray, List.set_cons_zero, List.set_cons_succ]
  refine wpAnyH_take (i := 5) (oi := { dst := Option.some 112, op := Go.Op.load 68 (Go.Operand.tmp 5), type := 68, pos := "law.go:143", after := #[{ on := 2, ground := Go.Ground.guard }], guard := Option.some (2, Bool.true) }) rfl (by kernel_rfl) (by kernel_rfl) (by kernel_rfl) (fun _ _ _ h => h) (yieldsIf_load_mid (by rfl) 68 _ rfl BB 0 rfl (sv b) _ (fun W hW => (B_34.out.step (Mv.of_below hW)).now.r) Tryd.underlying68 rfl (szof_rp HBL.out)) (by assumption) ?_
  simp only [Act.put, List.setIfInBounds_toArray, List.set_cons_zero, List.set_cons_succ]
  refine wpAnyH_ready (rs := [4]) (by kernel_rfl) (by simp) ?_
  refine AllReadyH.cons (o := { dst := Option.some 111, op := Go.Op.call { callee := Go.Callee.value (Go.Operand.func 46), args := #[Go.Operand.tmp 110], argTypes := #[72] }, type := 68, pos := "law.go:143", after := #[{ on := 3, ground := Go.Ground.data }, { on := 2, ground := Go.Ground.chain }, { on := 2, ground := Go.Ground.guard }], guard := Option.some (2, Bool.true) }) rfl (fun K hK => ?_) AllReadyH.nil
  go_simp
  refine (HPLB.out _).mono ?_
  rintro e w26 ⟨rfl, hb⟩
  have hKF1 : KF w25 w26 := KF.step hKF0 hb
  clear hb
  dsimp only
  refine hK.out _ _ (HSx.out _ hKF1) (fun hHeld1 => ?_)
  clear hK K
  try simp only [Act.put, List.setIfInBounds_toArray, List.set_cons_zero, List.set_cons_succ]
  refine wpAnyH_take (i := 6) (oi := { dst := Option.some 113, op := Go.Op.binOp Go.BinOp.eql 68 (Go.Operand.tmp 111) (Go.Operand.tmp 112) 68, type := 4, pos := "law.go:143", after := #[{ on := 4, ground := Go.Ground.data }, { on := 5, ground := Go.Ground.data }, { on := 2, ground := Go.Ground.guard }], guard := Option.some (2, Bool.true) }) rfl (by kernel_rfl) (by kernel_rfl) (by kernel_rfl) (fun _ _ _ h => h) (yif_eq_rp (by rfl) _ _ rfl b b rfl rfl HBL.out HBL.out) (by assumption) ?_
  simp only [Act.put, List.setIfInBounds_toArray, List.set_cons_zero, List.set_cons_succ]
  rw [hseb]
  refine wpAnyH_take (i := 7) (oi := { dst := Option.some 114, op := Go.Op.pick (Go.Operand.tmp 109) (Go.Operand.tmp 113) (Go.Operand.const (Go.Value.bool Bool.false)), type := 4, pos := "law.go:143", after := #[{ on := 2, ground := Go.Ground.data }, { on := 6, ground := Go.Ground.data }], guard := Option.none }) (v := ?_) rfl (by kernel_rfl) (by kernel_rfl) (by kernel_rfl) (fun _ _ _ h => h) (Or.inl ⟨by rfl, ?_⟩) (by assumption) ?_
  rotate_left
  · intro w hSw; (try dsimp only at hSw); go_simp; (try with_reducible rfl)
  simp only [Act.put, List.setIfInBounds_toArray, List.set_cons_zero, List.set_cons_succ]
  refine wpAnyH_take (i := 8) (oi := { dst := Option.some 115, op := Go.Op.move (Go.Operand.tmp 114), type := 4, pos := "law.go:143", after := #[{ on := 7, ground := Go.Ground.data }, { on := 4, ground := Go.Ground.chain }], guard := Option.none }) (v := ?_) rfl (by kernel_rfl) (by kernel_rfl) (by kernel_rfl) (fun _ _ _ h => h) (Or.inl ⟨by rfl, ?_⟩) (by assumption) ?_
  rotate_left
  · intro w hSw; (try dsimp only at hSw); go_simp; (try with_reducible rfl)
  simp only [Act.put, List.setIfInBounds_toArray, List.set_cons_zero, List.set_cons_succ]
  refine wpAnyH_take (i := 9) (oi := { dst := Option.some 116, op := Go.Op.move (Go.Operand.tmp 3), type := 5, pos := "law.go:143", after := #[{ on := 8, ground := Go.Ground.guard }], guard := Option.some (8, Bool.false) }) (v := undef) rfl (by kernel_rfl) (by kernel_rfl) (by kernel_rfl) (fun _ _ _ h => h) (Or.inr ⟨by rfl, rfl⟩) (by assumption) ?_
  simp only [Act.put, List.setIfInBounds_toArray, List.set_cons_zero, List.set_cons_succ]
  refine wpAnyH_take (i := 10) (oi := { dst := Option.some 117, op := Go.Op.binOp Go.BinOp.neq 5 (Go.Operand.tmp 116) (Go.Operand.const (Go.Value.int Go.IntKind.u8 0)) 5, type := 4, pos := "law.go:143", after := #[{ on := 9, ground := Go.Ground.data }, { on := 8, ground := Go.Ground.guard }], guard := Option.some (8, Bool.false) }) (v := undef) rfl (by kernel_rfl) (by kernel_rfl) (by kernel_rfl) (fun _ _ _ h => h) (Or.inr ⟨by rfl, rfl⟩) (by assumption) ?_
  simp only [Act.put, List.setIfInBounds_toArray, List.set_cons_zero, List.set_cons_succ]
  refine wpAnyH_take (i := 11) (oi := { dst := Option.some 118, op := Go.Op.move (Go.Operand.tmp 117), type := 4, pos := "law.go:143", after := #[{ on := 10, ground := Go.Ground.data }, { on := 8, ground := Go.Ground.chain }, { on := 8, ground := Go.Ground.guard }], guard := Option.some (8, Bool.false) }) (v := undef) rfl (by kernel_rfl) (by kernel_rfl) (by kernel_rfl) (fun _ _ _ h => h) (Or.inr ⟨by rfl, rfl⟩) (by assumption) ?_
  simp only [Act.put, List.setIfInBounds_toArray, List.set_cons_zero, List.set_cons_succ]
  refine wpAnyH_take (i := 12) (oi := { dst := Option.some 119, op := Go.Op.load 72 (Go.Operand.tmp 17), type := 72, pos := "law.go:143", after := #[{ on := 11, ground := Go.Ground.guard }], guard := Option.some (11, Bool.true) }) (v := undef) rfl (by kernel_rfl) (by kernel_rfl) (by kernel_rfl) (fun _ _ _ h => h) (Or.inr ⟨by rfl, rfl⟩) (by assumption) ?_
  simp only [Act.put, List.setIfInBounds_toArray, List.set_cons_zero, List.set_cons_succ]
  refine wpAnyH_take (i := 13) (oi := { dst := Option.some 120, op := Go.Op.call { callee := Go.Callee.value (Go.Operand.func 46), args := #[Go.Operand.tmp 119], argTypes := #[72] }, type := 68, pos := "law.go:143", after := #[{ on := 12, ground := Go.Ground.data }, { on := 11, ground := Go.Ground.chain }, { on := 11, ground := Go.Ground.guard }], guard := Option.some (11, Bool.true) }) (v := undef) rfl (by kernel_rfl) (by kernel_rfl) (by kernel_rfl) (fun _ _ _ h => h) (Or.inr ⟨by rfl, rfl⟩) (by assumption) ?_
  simp only [Act.put, List.setIfInBounds_toArray, List.set_cons_zero, List.set_cons_succ]
  refine wpAnyH_take (i := 14) (oi := { dst := Option.some 121, op := Go.Op.load 68 (Go.Operand.tmp 4), type := 68, pos := "law.go:143", after := #[{ on := 11, ground := Go.Ground.guard }], guard := Option.some (11, Bool.true) }) (v := undef) rfl (by kernel_rfl) (by kernel_rfl) (by kernel_rfl) (fun _ _ _ h => h) (Or.inr ⟨by rfl, rfl⟩) (by assumption) ?_
  simp only [Act.put, List.setIfInBounds_toArray, List.set_cons_zero, List.set_cons_succ]
  refine wpAnyH_take (i := 15) (oi := { dst := Option.some 122, op := Go.Op.binOp Go.BinOp.eql 68 (Go.Operand.tmp 120) (Go.Operand.tmp 121) 68, type := 4, pos := "law.go:143", after := #[{ on := 13, ground := Go.Ground.data }, { on := 14, ground := Go.Ground.data }, { on := 11, ground := Go.Ground.guard }], guard := Option.some (11, Bool.true) }) (v := undef) rfl (by kernel_rfl) (by kernel_rfl) (by kernel_rfl) (fun _ _ _ h => h) (Or.inr ⟨by rfl, rfl⟩) (by assumption) ?_
  simp only [Act.put, List.setIfInBounds_toArray, List.set_cons_zero, List.set_cons_succ]
  refine wpAnyH_take (i := 16) (oi := { dst := Option.some 123, op := Go.Op.pick (Go.Operand.tmp 118) (Go.Operand.tmp 122) (Go.Operand.const (Go.Value.bool Bool.false)), type := 4, pos := "law.go:143", after := #[{ on := 11, ground := Go.Ground.data }, { on := 15, ground := Go.Ground.data }, { on := 8, ground := Go.Ground.guard }], guard := Option.some (8, Bool.false) }) (v := undef) rfl (by kernel_rfl) (by kernel_rfl) (by kernel_rfl) (fun _ _ _ h => h) (Or.inr ⟨by rfl, rfl⟩) (by assumption) ?_
  simp only [Act.put, List.setIfInBounds_toArray, List.set_cons_zero, List.set_cons_succ]
  refine wpAnyH_take (i := 17) (oi := { dst := Option.some 124, op := Go.Op.pick (Go.Operand.tmp 115) (Go.Operand.const (Go.Value.bool Bool.true)) (Go.Operand.tmp 123), type := 4, pos := "law.go:143", after := #[{ on := 8, ground := Go.Ground.data }, { on := 16, ground := Go.Ground.data }], guard := Option.none }) (v := ?_) rfl (by kernel_rfl) (by kernel_rfl) (by kernel_rfl) (fun _ _ _ h => h) (Or.inl ⟨by rfl, ?_⟩) (by assumption) ?_
  rotate_left
  · intro w hSw; (try dsimp only at hSw); go_simp; (try with_reducible rfl)
  simp only [Act.put, List.setIfInBounds_toArray, List.set_cons_zero, List.set_cons_succ]
  refine wpAnyH_take (i := 18) (oi := { dst := Option.some 8, op := Go.Op.assign (Go.Operand.tmp 124), type := 4, pos := "law.go:143", after := #[{ on := 17, ground := Go.Ground.data }, { on := 13, ground := Go.Ground.chain }, { on := 0, ground := Go.Ground.phase }, { on := 1, ground := Go.Ground.phase }, { on := 2, ground := Go.Ground.phase }, { on := 3, ground := Go.Ground.phase }, { on := 4, ground := Go.Ground.phase }, { on := 5, ground := Go.Ground.phase }, { on := 6, ground := Go.Ground.phase }, { on := 7, ground := Go.Ground.phase }, { on := 8, ground := Go.Ground.phase }, { on := 9, ground := Go.Ground.phase }, { on := 10, ground := Go.Ground.phase }, { on := 11, ground := Go.Ground.phase }, { on := 12, ground := Go.Ground.phase }, { on := 13, ground := Go.Ground.phase }, { on := 14, ground := Go.Ground.phase }, { on := 15, ground := Go.Ground.phase }, { on := 16, ground := Go.Ground.phase }, { on := 17, ground := Go.Ground.phase }], guard := Option.none }) (v := ?_) rfl (by kernel_rfl) (by kernel_rfl) (by kernel_rfl) (fun _ _ _ h => h) (Or.inl ⟨by rfl, ?_⟩) (by assumption) ?_
  rotate_left
  · intro w hSw; (try dsimp only at hSw); go_simp; (try with_reducible rfl)
  simp only [Act.put, List.setIfInBounds_toArray, List.set_cons_zero, List.set_cons_succ]
  refine wpAnyH_done (by kernel_rfl) ?_ _
  have hbm : Below w25.heap.size w25 w26 := hKF1
  have hm : Mv S5 S5 w25 w26 := Mv.of_below hbm
  have T_35 := Lib.hid (T_34.out.step hm)
  clear T_34
  have A_35 := Lib.hid (A_34.out.step hm)
  clear A_34
  have B_35 := Lib.hid (B_34.out.step hm)
  clear B_34
  have X_35 := Lib.hid (X_34.out.step hm)
  clear X_34
  have K_35 := Lib.hid (K_34.out.step hm)
  clear K_34
  have Y_35 := Lib.hid (Y_34.out.step hm)
  clear Y_34
  have HM_35 := Lib.hid (HM_34.out.trans hm)
  clear HM_34
  have WI_35 := Lib.hid (WI_34.out.mono hm.size)
  clear WI_34
  have HD_35 := Lib.hid (HD_34.out.under hbm)
  clear HD_34
  clear hm
  clear hbm HSx hKF0 hKF1
  go_wp2_with fail
  go_ret
  exact ⟨rfl, HM_35.out.below⟩
set_option maxHeartbeats 8000000 in
set_option maxRecDepth 100000 in
theorem sgreat_some (a c : Sup) (n m : Nat) (ha : a.Fits) (hc : c.Fits) (hm : m < 256) (ra : rightB a = true) (rb : rightB ⟨(a.g + 1) % 4294967296, c.r, c.u⟩ = true) (hz : m ≠ 0) (w : World) (tied : Tied w) : Calls Tryd.prog 11 #[.agg (sv a).toArray, .agg (sv c).toArray, .int .u8 (n : Int), .int .u8 (m : Int)] w fun e w' => e = .returned (.bool true) ∧ Below w.heap.size w w' := by
  obtain ⟨G, hG⟩ : ∃ q, q = (a.g + 1) % 4294967296 := ⟨_, rfl⟩
  have hg0 := ha.g0
  have hg1 := ha.g1
  have hGw : IntKind.u32.wrap (a.g + 1) = G := by rw [hG]; simp [IntKind.wrap, IntKind.bits, IntKind.signed]
  have hGm : (a.g + 1) % 4294967296 = G := hG.symm
  obtain ⟨b, hbe⟩ : ∃ q : Sup, q = ⟨(a.g + 1) % 4294967296, c.r, c.u⟩ := ⟨_, rfl⟩
  have hb : b.Fits := by rw [hbe]; exact ⟨hc.l, by show 0 ≤ (a.g + 1) % 4294967296; omega, by show (a.g + 1) % 4294967296 ≤ 4294967295; omega⟩
  have hbg : b.g = (a.g + 1) % 4294967296 := by rw [hbe]
  rw [← hbe] at rb
  rw [← hG] at hbe hbg
  have HBE := Lib.hid hbe
  have HAL := Lib.hid ha.l
  have HCL := Lib.hid hc.l
  have HBL := Lib.hid hb.l
  have HRA := Lib.hid (fun w => rright_any a ha.l ha.g0 w)
  have HRB := Lib.hid (fun w => rright_any b hb.l hb.g0 w)
  have hgp := right_gen rb
  have hg : b.g = a.g + 1 := by omega
  rw [ra] at HRA
  rw [rb] at HRB
  have HT2 := Lib.hid (two_best ha hb ra rb hg)
  have HRD := Lib.hid (two_read (a := a) (b := b) hb.g0)
  have hbg0 := hb.g0
  have HMY := Lib.hid (show mayC false (twoF a b).length (b.g % 2) = 0 by unfold mayC twoF; rw [if_neg (by decide), swF_length, swF_length, if_pos (by simp; omega)])
  have htm : b.g.tmod 2 = b.g % 2 := Int.tmod_eq_emod_of_nonneg hb.g0
  have hw2 : IntKind.i64.wrap (b.g % 2) = b.g % 2 := IntWalk.i64_in _ (by omega)
  have hpl : (framP 1 (layU b)).length = 128 := framP_length 1 _ (by rw [layU_size hb rb]; omega)
  have hsum := fr_sum 1 (layU b)
  obtain ⟨i, hi⟩ : ∃ i, i = n % 128 := ⟨_, rfl⟩
  have hi2 : i < 128 := by omega
  have hit : (n : Int).tmod 128 = (i : Int) := by rw [Int.tmod_eq_emod_of_nonneg (by omega)]; omega
  have hit2 : (n : Int) % 128 = (i : Int) := by omega
  have HSP := Lib.hid (fun q hq => two_spoilt ha hb ra hg q hq)
  have HSM := Lib.hid (two_same ha hb ra rb hg)
  obtain ⟨P, hP⟩ : ∃ q, q = framP 1 (layU b) := ⟨_, rfl⟩
  rw [← hP] at hpl hsum HSM HRD
  obtain ⟨x, hx⟩ : ∃ x, P[i]? = some x := ⟨_, List.getElem?_eq_getElem (by omega)⟩
  have hxor := xor8 x m hm
  obtain ⟨z, hzz⟩ : ∃ z, z = x ^^^ UInt8.ofNat m := ⟨_, rfl⟩
  rw [← hzz] at hxor
  obtain ⟨q, hq⟩ : ∃ q, q = spl P i [z] := ⟨_, rfl⟩
  have hql : q.length = 128 := by rw [hq, spl_length _ _ _ (by simp; omega)]; exact hpl
  have hbad : rdC q = 3 := by rw [hq]; exact rd_spoilt P hpl hsum i hi2 x z hx (fun e => hz (by have := congrArg UInt8.toNat (xor_self8 (x := x) (y := UInt8.ofNat m) (by rw [← hzz]; exact e.symm)); rwa [UInt8.toNat_ofNat', Nat.mod_eq_of_lt (by simpa using hm)] at this))
  have HYB := Lib.hid (HSP.out q hbad)
  have hmz : ((m : Int) == 0) = false := by simpa using hz
  have hmz2 : ((m : Int) != 0) = true := by simpa using hz
  clear hz hbad
  have HPL2 := Lib.hid hpl
  have HQ := Lib.hid hql
  have HQE := Lib.hid hq
  have HX := Lib.hid hx
  have hit3 : (i : Int).toNat = i := by omega
  have hlo : ¬ (i : Int) < 0 := by omega
  have hhi : (i : Int) < 128 := by omega
  have HSA := Lib.hid (And.intro ha ra)
  have HSB := Lib.hid (And.intro hb rb)
  have HPLB := Lib.hid (fun w => plain_any b hb.l w)
  have HPLA := Lib.hid (fun w => plain_any a ha.l w)
  have hseb := supE_self b
  have hsea := supE_self a
  clear ha hc hb hm ra rb hG hbe hbg hg hgp hg0 hg1 hbg0 hpl hql hq hx hzz hi hP hsum HSP HSM
  have HM0 := Lib.hid (Mv.refl No w)
  have T0 := Lib.hid (Stays.tied tied)
  have WI0 := Lib.hid (Wi.no w)
  clear tied
  go_enter Tryd.func11, Tryd.ntmps11
  go_upto_region 1 with fail
  obtain ⟨w1, hw1⟩ : ∃ q, q = w.alloc (.cells (sv (a)).toArray 68) := ⟨_, rfl⟩
  try rw [← hw1]
  have hbm : Below w.heap.size w w1 := by rw [hw1]; exact (Below.refl _ _).alloc (Nat.le_refl _) _
  have hm : Mv No No w w1 := Mv.of_below hbm
  have hbx : Stays No w1 (fun W => SupAt W w.heap.size (a)) := Stays.boxS HAL.out WI0.out hw1
  have hsz1 : w1.heap.size = w.heap.size + 1 := by rw [hw1]; simp
  obtain ⟨BA, hBA⟩ : ∃ q, q = w.heap.size := ⟨_, rfl⟩
  try rw [← hBA]
  rw [← hBA] at hbx hsz1
  have T_1 := Lib.hid (T0.out.step hm)
  clear T0
  have HM_1 := Lib.hid (HM0.out.trans hm)
  clear HM0
  have WI_1 := Lib.hid (WI0.out.mono hm.size)
  clear WI0
  clear hm
  clear hbm hw1 hBA
  have A_2 := Lib.hid (hbx)
  clear hbx
  obtain ⟨w2, hw2⟩ : ∃ q, q = w1.alloc (.cells (sv (c)).toArray 68) := ⟨_, rfl⟩
  try rw [← hw2]
  have hbm : Below w1.heap.size w1 w2 := by rw [hw2]; exact (Below.refl _ _).alloc (Nat.le_refl _) _
  have hni : ∀ k, No k → k ≠ w1.heap.size := fun k q => by have := WI_1.out k q; omega
  have hm := Mv.own (S := No) hw2
  have hwi := Wi.own WI_1.out hw2
  have hpx : SupAt w2 w1.heap.size (c) := by rw [hw2]; exact SupAt.new _ _ _ HCL.out
  try rw [← hsz1]
  clear hsz1
  obtain ⟨BB, hBB⟩ : ∃ q, q = w1.heap.size := ⟨_, rfl⟩
  rw [← hBB] at hm hwi hpx hni
  try rw [← hBB]
  have T_3 := Lib.hid (T_1.out.step hm)
  clear T_1
  have A_3 := Lib.hid (A_2.out.step hm)
  clear A_2
  have HM_3 := Lib.hid (HM_1.out.trans hm)
  clear HM_1
  have WI_3 := Lib.hid (hwi)
  clear WI_1
  clear hm
  clear hbm hw2 hBB hwi
  have HNI := Lib.hid hni
  have HO := Lib.hid hpx
  clear hpx hni
  go_wp2_with fail
  refine (awake7 _ T_3.out.now).mono ?_
  rintro e w3 ⟨rfl, hb9⟩
  have hbm : Below w2.heap.size w2 w3 := hb9
  clear hb9
  have hm : Mv (fun k => No k ∨ k = BB) (fun k => No k ∨ k = BB) w2 w3 := Mv.of_below hbm
  have HO2 := Lib.hid (HO.out.under hbm HO.out.lt)
  clear HO
  have HO := HO2
  clear HO2
  have T_4 := Lib.hid (T_3.out.step hm)
  clear T_3
  have A_4 := Lib.hid (A_3.out.step hm)
  clear A_3
  have HM_4 := Lib.hid (HM_3.out.trans hm)
  clear HM_3
  have WI_4 := Lib.hid (WI_3.out.mono hm.size)
  clear WI_3
  clear hm
  clear hbm
  have cga := (A_4.out.now).gen
  have cgc := HO.out.gen
  have fgc := HO.out.free 0 (by omega)
  go_upto_region 4 with fail
  clear cga cgc fgc
  have hpx := HO.out.putG G
  have htt : Touch (fun k => k = BB) w3 (w3.setCell ⟨BB, 0, none⟩ (.int .u32 G)) := touch_set _ _ _ _ rfl
  have hm : Mv (fun k => No k ∨ k = BB) (fun k => No k ∨ k = BB) w3 (w3.setCell ⟨BB, 0, none⟩ (.int .u32 G)) := Mv.set _ _ _ _ (.inr rfl)
  obtain ⟨w4, hw4⟩ : ∃ q, q = w3.setCell ⟨BB, 0, none⟩ (.int .u32 G) := ⟨_, rfl⟩
  rw [← hw4] at hpx htt hm
  try rw [← hw4]
  clear hw4
  have T_5 := Lib.hid (T_4.out.step hm)
  clear T_4
  have A_5 := Lib.hid (A_4.out.step hm)
  clear A_4
  have HM_5 := Lib.hid (HM_4.out.trans hm)
  clear HM_4
  have WI_5 := Lib.hid (WI_4.out.mono hm.size)
  clear WI_4
  clear hm
  have T_6 := Lib.hid (T_5.out.less (T := No) (fun k q => .inl q))
  clear T_5
  have A_7 := Lib.hid (A_5.out.less (T := No) (fun k q => .inl q))
  clear A_5
  have HM_8 : Hid (Mv No No w w4) := Lib.hid ⟨HM_5.out.t, fun k q => HM_5.out.s k (.inl q)⟩
  clear HM_5
  have WI_8 : Hid (Wi No w4) := Lib.hid (fun k q => WI_5.out k (.inl q))
  clear WI_5
  have hst := Stays.sup (S := No) hpx (fun q => HNI.out _ q rfl)
  clear hpx htt HNI HO
  have B_9 := Lib.hid (hst)
  clear hst
  have hst2 : Stays No w4 (fun W => SupAt W BB b) := by rw [HBE.out]; exact B_9.out
  clear B_9
  have B_10 := Lib.hid (hst2)
  clear hst2
  go_wp2_with (first | ((with_reducible refine at_ld 68 (.tmp 4) ?_); refine ld_rp rfl _ rfl BA (0) rfl a ?_ ?_ ?_; exact HAL.out; exact (A_7.out.now).r))
  refine (HRA.out _).mono ?_
  rintro e w5 ⟨rfl, hb⟩
  have hbm : Below w4.heap.size w4 w5 := hb
  clear hb
  have hm : Mv No No w4 w5 := Mv.of_below hbm
  have T_11 := Lib.hid (T_6.out.step hm)
  clear T_6
  have A_11 := Lib.hid (A_7.out.step hm)
  clear A_7
  have B_11 := Lib.hid (B_10.out.step hm)
  clear B_10
  have HM_11 := Lib.hid (HM_8.out.trans hm)
  clear HM_8
  have WI_11 := Lib.hid (WI_8.out.mono hm.size)
  clear WI_8
  clear hm
  clear hbm
  go_wp2_with (first | ((with_reducible refine at_ld 68 (.tmp 5) ?_); refine ldw_rp (by first | rfl | go_simp) (.tmp 5) rfl BB (0) rfl b ?_ ?_ ?_; exact HBL.out; exact (B_11.out.now).r))
  refine (HRB.out _).mono ?_
  rintro e w6 ⟨rfl, hb⟩
  have hbm : Below w5.heap.size w5 w6 := hb
  clear hb
  have hm : Mv No No w5 w6 := Mv.of_below hbm
  have T_12 := Lib.hid (T_11.out.step hm)
  clear T_11
  have A_12 := Lib.hid (A_11.out.step hm)
  clear A_11
  have B_12 := Lib.hid (B_11.out.step hm)
  clear B_11
  have HM_12 := Lib.hid (HM_11.out.trans hm)
  clear HM_11
  have WI_12 := Lib.hid (WI_11.out.mono hm.size)
  clear WI_11
  clear hm
  clear hbm
  go_wp2_with fail
  refine (new_m 3 _ (by decide) (by decide)).mono ?_
  rintro e w7 ⟨D, S1, rfl, hd, hb, hm⟩
  clear hb
  have T_13 := Lib.hid (T_12.out.step hm)
  clear T_12
  have A_13 := Lib.hid (A_12.out.step hm)
  clear A_12
  have B_13 := Lib.hid (B_12.out.step hm)
  clear B_12
  have HM_13 := Lib.hid (HM_12.out.trans hm)
  clear HM_12
  have WI_13 := Lib.hid (hd.wi)
  clear WI_12
  have HD_13 := Lib.hid (hd)
  clear hm
  clear hd
  go_wp2_with (first | ((with_reducible refine at_ld 68 (.tmp 4) ?_); refine ld_rp rfl _ rfl BA (0) rfl a ?_ ?_ ?_; exact HAL.out; exact (A_13.out.now).r))
  refine (of_any a HAL.out _).mono ?_
  rintro e w8 ⟨rfl, hb⟩
  have hbm : Below w7.heap.size w7 w8 := hb
  clear hb
  have hm : Mv S1 S1 w7 w8 := Mv.of_below hbm
  have T_14 := Lib.hid (T_13.out.step hm)
  clear T_13
  have A_14 := Lib.hid (A_13.out.step hm)
  clear A_13
  have B_14 := Lib.hid (B_13.out.step hm)
  clear B_13
  have HM_14 := Lib.hid (HM_13.out.trans hm)
  clear HM_13
  have WI_14 := Lib.hid (WI_13.out.mono hm.size)
  clear WI_13
  have HD_14 := Lib.hid (HD_13.out.under hbm)
  clear HD_13
  clear hm
  clear hbm
  go_wp2_with fail
  refine (switch_ok a HSA.out.1 HSA.out.2 HD_14.out (by simp) (by simp)).mono ?_
  rintro e w9 ⟨S2, rfl, hd, hm⟩
  have T_15 := Lib.hid (T_14.out.step hm)
  clear T_14
  have A_15 := Lib.hid (A_14.out.step hm)
  clear A_14
  have B_15 := Lib.hid (B_14.out.step hm)
  clear B_14
  have HM_15 := Lib.hid (HM_14.out.trans hm)
  clear HM_14
  have WI_15 := Lib.hid (hd.wi)
  clear WI_14
  have HD_15 := Lib.hid (hd)
  clear HD_14
  clear hm
  clear hd
  go_wp2_with (first | ((with_reducible refine at_ld 68 (.tmp 5) ?_); refine ld_rp rfl _ rfl BB (0) rfl b ?_ ?_ ?_; exact HBL.out; exact (B_15.out.now).r))
  refine (of_any b HBL.out _).mono ?_
  rintro e w10 ⟨rfl, hb⟩
  have hbm : Below w9.heap.size w9 w10 := hb
  clear hb
  have hm : Mv S2 S2 w9 w10 := Mv.of_below hbm
  have T_16 := Lib.hid (T_15.out.step hm)
  clear T_15
  have A_16 := Lib.hid (A_15.out.step hm)
  clear A_15
  have B_16 := Lib.hid (B_15.out.step hm)
  clear B_15
  have HM_16 := Lib.hid (HM_15.out.trans hm)
  clear HM_15
  have WI_16 := Lib.hid (WI_15.out.mono hm.size)
  clear WI_15
  have HD_16 := Lib.hid (HD_15.out.under hbm)
  clear HD_15
  clear hm
  clear hbm
  go_wp2_with fail
  refine (switch_ok b HSB.out.1 HSB.out.2 HD_16.out (by simp) (by rw [swF_length]; simp)).mono ?_
  rintro e w11 ⟨S3, rfl, hd, hm⟩
  rw [show swF (swF (List.replicate 3 zp) [] a) [] b = twoF a b from rfl] at hd
  have T_17 := Lib.hid (T_16.out.step hm)
  clear T_16
  have A_17 := Lib.hid (A_16.out.step hm)
  clear A_16
  have B_17 := Lib.hid (B_16.out.step hm)
  clear B_16
  have HM_17 := Lib.hid (HM_16.out.trans hm)
  clear HM_16
  have WI_17 := Lib.hid (hd.wi)
  clear WI_16
  have HD_17 := Lib.hid (hd)
  clear HD_16
  clear hm
  clear hd
  go_wp2_with fail
  have HBC := Lib.hid (best_m HD_17.out (by simp))
  rw [HT2.out.1, HT2.out.2] at HBC
  refine (HBC.out).mono ?_
  rintro e w12 ⟨v1, rfl, he, hb⟩
  have hbm : Below w11.heap.size w11 w12 := hb
  clear hb
  have hm : Mv S3 S3 w11 w12 := Mv.of_below hbm
  have T_18 := Lib.hid (T_17.out.step hm)
  clear T_17
  have A_18 := Lib.hid (A_17.out.step hm)
  clear A_17
  have B_18 := Lib.hid (B_17.out.step hm)
  clear B_17
  have HM_18 := Lib.hid (HM_17.out.trans hm)
  clear HM_17
  have WI_18 := Lib.hid (WI_17.out.mono hm.size)
  clear WI_17
  have HD_18 := Lib.hid (HD_17.out.under hbm)
  clear HD_17
  clear hm
  clear hbm
  obtain rfl := ErrC.zero he
  clear he HBC
  go_upto_region 10 with (first | ((with_reducible refine at_al 72 ?_); refine al_sp rfl rfl ?_) | ((with_reducible refine at_st 72 (.tmp 13) (.tmp 48) ?_); refine stn_sp rfl _ _ rfl _ _ _ rfl rfl b ?_ rfl ?_ ?_; exact HBL.out; exact ssz))
  obtain ⟨w13, hw13⟩ : ∃ q, q = w12.alloc (.cells (sv (b)).toArray 72) := ⟨_, rfl⟩
  try rw [← hw13]
  have hbm : Below w12.heap.size w12 w13 := by rw [hw13]; exact (Below.refl _ _).alloc (Nat.le_refl _) _
  have hm : Mv S3 S3 w12 w13 := Mv.of_below hbm
  have hbx : Stays S3 w13 (fun W => SupAt W w12.heap.size (b)) := Stays.boxS HBL.out WI_18.out hw13
  have hsz13 : w13.heap.size = w12.heap.size + 1 := by rw [hw13]; simp
  obtain ⟨BX, hBX⟩ : ∃ q, q = w12.heap.size := ⟨_, rfl⟩
  try rw [← hBX]
  rw [← hBX] at hbx hsz13
  have T_19 := Lib.hid (T_18.out.step hm)
  clear T_18
  have A_19 := Lib.hid (A_18.out.step hm)
  clear A_18
  have B_19 := Lib.hid (B_18.out.step hm)
  clear B_18
  have HM_19 := Lib.hid (HM_18.out.trans hm)
  clear HM_18
  have WI_19 := Lib.hid (WI_18.out.mono hm.size)
  clear WI_18
  have HD_19 := Lib.hid (HD_18.out.under hbm)
  clear HD_18
  clear hm
  clear hbm hw13 hBX
  have X_20 := Lib.hid (hbx)
  clear hbx
  clear hsz13
  have cgb := (B_19.out.now).gen
  go_wp2_with fail
  have HRP := Lib.hid (read_ok (b.g % 2) HD_19.out (by simp) HMY.out)
  rw [HRD.out] at HRP
  clear cgb
  refine (HRP.out).mono ?_
  rintro e w14 ⟨rfl, hb⟩
  have hbm : Below w13.heap.size w13 w14 := hb
  clear hb
  have hm : Mv S3 S3 w13 w14 := Mv.of_below hbm
  have T_21 := Lib.hid (T_19.out.step hm)
  clear T_19
  have A_21 := Lib.hid (A_19.out.step hm)
  clear A_19
  have B_21 := Lib.hid (B_19.out.step hm)
  clear B_19
  have X_21 := Lib.hid (X_20.out.step hm)
  clear X_20
  have HM_21 := Lib.hid (HM_19.out.trans hm)
  clear HM_19
  have WI_21 := Lib.hid (WI_19.out.mono hm.size)
  clear WI_19
  have HD_21 := Lib.hid (HD_19.out.under hbm)
  clear HD_19
  clear hm
  clear hbm
  clear HRP
  go_upto_region 11 with (first | ((with_reducible refine at_al 36 ?_); refine al_pg rfl rfl ?_) | ((with_reducible refine at_st 36 (.tmp 15) (.tmp 57) ?_); refine st_new rfl _ _ rfl _ _ _ rfl rfl P ?_ rfl ?_ ?_; exact HPL2.out; exact zsz))
  obtain ⟨w15, hw15⟩ : ∃ q, q = w14.alloc (.cells (pv (P)).toArray 36) := ⟨_, rfl⟩
  try rw [← hw15]
  have hbm : Below w14.heap.size w14 w15 := by rw [hw15]; exact (Below.refl _ _).alloc (Nat.le_refl _) _
  have hni : ∀ k, S3 k → k ≠ w14.heap.size := fun k q => by have := WI_21.out k q; omega
  have hm := Mv.own (S := S3) hw15
  have hwi := Wi.own WI_21.out hw15
  have hpx : PgAt w15 w14.heap.size (P) := by rw [hw15]; exact PgAt.new _ _ _ HPL2.out
  obtain ⟨BK, hBK⟩ : ∃ q, q = w14.heap.size := ⟨_, rfl⟩
  rw [← hBK] at hm hwi hpx hni
  try rw [← hBK]
  have T_22 := Lib.hid (T_21.out.step hm)
  clear T_21
  have A_22 := Lib.hid (A_21.out.step hm)
  clear A_21
  have B_22 := Lib.hid (B_21.out.step hm)
  clear B_21
  have X_22 := Lib.hid (X_21.out.step hm)
  clear X_21
  have HM_22 := Lib.hid (HM_21.out.trans hm)
  clear HM_21
  have WI_22 := Lib.hid (hwi)
  clear WI_21
  have HD_22 := Lib.hid (HD_21.out.under hbm)
  clear HD_21
  clear hm
  clear hbm hw15 hBK hwi
  have HNI := Lib.hid hni
  have HO := Lib.hid hpx
  clear hpx hni
  have cx := HO.out.byte i x HX.out
  have fx := HO.out.free i hi2
  go_upto_region 12 with fail
  clear cx fx
  have hpx := (by rw [HQE.out]; exact HO.out.put i z hi2 : PgAt (w15.setCell ⟨BK, i, none⟩ (.int .u8 (z.toNat : Int))) BK q)
  have htt : Touch (fun k => k = BK) w15 (w15.setCell ⟨BK, i, none⟩ (.int .u8 (z.toNat : Int))) := touch_set _ _ _ _ rfl
  have hm : Mv (fun k => S3 k ∨ k = BK) (fun k => S3 k ∨ k = BK) w15 (w15.setCell ⟨BK, i, none⟩ (.int .u8 (z.toNat : Int))) := Mv.set _ _ _ _ (.inr rfl)
  obtain ⟨w16, hw16⟩ : ∃ q, q = w15.setCell ⟨BK, i, none⟩ (.int .u8 (z.toNat : Int)) := ⟨_, rfl⟩
  rw [← hw16] at hpx htt hm
  try rw [← hw16]
  clear hw16
  have T_23 := Lib.hid (T_22.out.step hm)
  clear T_22
  have A_23 := Lib.hid (A_22.out.step hm)
  clear A_22
  have B_23 := Lib.hid (B_22.out.step hm)
  clear B_22
  have X_23 := Lib.hid (X_22.out.step hm)
  clear X_22
  have HM_23 := Lib.hid (HM_22.out.trans hm)
  clear HM_22
  have WI_23 := Lib.hid (WI_22.out.mono hm.size)
  clear WI_22
  have HD_23 := Lib.hid (HD_22.out.keep htt (fun k q e => HNI.out k q e))
  clear HD_22
  clear hm
  have T_24 := Lib.hid (T_23.out.less (T := S3) (fun k q => .inl q))
  clear T_23
  have A_25 := Lib.hid (A_23.out.less (T := S3) (fun k q => .inl q))
  clear A_23
  have B_26 := Lib.hid (B_23.out.less (T := S3) (fun k q => .inl q))
  clear B_23
  have X_27 := Lib.hid (X_23.out.less (T := S3) (fun k q => .inl q))
  clear X_23
  have HM_28 : Hid (Mv No S3 w w16) := Lib.hid ⟨HM_23.out.t, fun k q => HM_23.out.s k (.inl q)⟩
  clear HM_23
  have WI_28 : Hid (Wi S3 w16) := Lib.hid (fun k q => WI_23.out k (.inl q))
  clear WI_23
  have hst := Stays.pg (S := S3) hpx (fun q => HNI.out _ q rfl)
  clear hpx htt HNI HO
  have K_29 := Lib.hid (hst)
  clear hst
  have cgb := (B_26.out.now).gen
  go_wp2_with (first | ((with_reducible refine at_ld 36 (.tmp 15) ?_); refine ld_pg rfl _ rfl BK (0) rfl q ?_ ?_ ?_; exact HQ.out; exact (K_29.out.now).r))
  refine (write_ok (b.g % 2) q HD_23.out (by simp) HQ.out HMY.out).mono ?_
  rintro e w17 ⟨S5, rfl, hd, hm⟩
  clear cgb
  have T_30 := Lib.hid (T_24.out.step hm)
  clear T_24
  have A_30 := Lib.hid (A_25.out.step hm)
  clear A_25
  have B_30 := Lib.hid (B_26.out.step hm)
  clear B_26
  have X_30 := Lib.hid (X_27.out.step hm)
  clear X_27
  have K_30 := Lib.hid (K_29.out.step hm)
  clear K_29
  have HM_30 := Lib.hid (HM_28.out.trans hm)
  clear HM_28
  have WI_30 := Lib.hid (hd.wi)
  clear WI_28
  have HD_30 := Lib.hid (hd)
  clear HD_23
  clear hm
  clear hd
  go_wp2_with fail
  have HBC := Lib.hid (best_m HD_30.out (by simp))
  rw [HYB.out.1, HYB.out.2] at HBC
  refine (HBC.out).mono ?_
  rintro e w18 ⟨v2, rfl, he, hb⟩
  have hbm : Below w17.heap.size w17 w18 := hb
  clear hb
  have hm : Mv S5 S5 w17 w18 := Mv.of_below hbm
  have T_31 := Lib.hid (T_30.out.step hm)
  clear T_30
  have A_31 := Lib.hid (A_30.out.step hm)
  clear A_30
  have B_31 := Lib.hid (B_30.out.step hm)
  clear B_30
  have X_31 := Lib.hid (X_30.out.step hm)
  clear X_30
  have K_31 := Lib.hid (K_30.out.step hm)
  clear K_30
  have HM_31 := Lib.hid (HM_30.out.trans hm)
  clear HM_30
  have WI_31 := Lib.hid (WI_30.out.mono hm.size)
  clear WI_30
  have HD_31 := Lib.hid (HD_30.out.under hbm)
  clear HD_30
  clear hm
  clear hbm
  obtain rfl := ErrC.zero he
  clear he HBC
  go_upto_region 14 with (first | ((with_reducible refine at_al 72 ?_); refine al_sp rfl rfl ?_) | ((with_reducible refine at_st 72 (.tmp 17) (.tmp 76) ?_); refine stn_sp rfl _ _ rfl _ _ _ rfl rfl a ?_ rfl ?_ ?_; exact HAL.out; exact ssz))
  obtain ⟨w19, hw19⟩ : ∃ q, q = w18.alloc (.cells (sv (a)).toArray 72) := ⟨_, rfl⟩
  try rw [← hw19]
  have hbm : Below w18.heap.size w18 w19 := by rw [hw19]; exact (Below.refl _ _).alloc (Nat.le_refl _) _
  have hm : Mv S5 S5 w18 w19 := Mv.of_below hbm
  have hbx : Stays S5 w19 (fun W => SupAt W w18.heap.size (a)) := Stays.boxS HAL.out WI_31.out hw19
  have hsz19 : w19.heap.size = w18.heap.size + 1 := by rw [hw19]; simp
  obtain ⟨BY, hBY⟩ : ∃ q, q = w18.heap.size := ⟨_, rfl⟩
  try rw [← hBY]
  rw [← hBY] at hbx hsz19
  have T_32 := Lib.hid (T_31.out.step hm)
  clear T_31
  have A_32 := Lib.hid (A_31.out.step hm)
  clear A_31
  have B_32 := Lib.hid (B_31.out.step hm)
  clear B_31
  have X_32 := Lib.hid (X_31.out.step hm)
  clear X_31
  have K_32 := Lib.hid (K_31.out.step hm)
  clear K_31
  have HM_32 := Lib.hid (HM_31.out.trans hm)
  clear HM_31
  have WI_32 := Lib.hid (WI_31.out.mono hm.size)
  clear WI_31
  have HD_32 := Lib.hid (HD_31.out.under hbm)
  clear HD_31
  clear hm
  clear hbm hw19 hBY
  have Y_33 := Lib.hid (hbx)
  clear hbx
  clear hsz19
  have HSx : Hid (∀ wz, KF w19 wz → (fun wz => KF w19 wz) wz) := Lib.hid (fun wz h => h)
  refine wp_region_held_drew (S := fun wz => KF w19 wz) (by kernel_rfl) ?_ (fun hHeld => ?_)
  · exact HSx.out _ (KF.drew (KF.refl _))
  have hKF0 : KF w19 w19.drew := KF.drew (KF.refl _)
  refine wpAnyH_take (i := 0) (oi := { dst := Option.some 78, op := Go.Op.move (Go.Operand.tmp 10), type := 26, pos := "law.go:140", after := #[], guard := Option.none }) (v := ?_) rfl (by kernel_rfl) (by kernel_rfl) (by kernel_rfl) (fun _ _ _ h => h) (Or.inl ⟨by rfl, ?_⟩) (by assumption) ?_
  rotate_left
  · intro w hSw; (try dsimp only at hSw); go_simp; (try with_reducible rfl)
  simp only [Act.put, List.setIfInBounds_toArray, List.set_cons_zero, List.set_cons_succ]
  refine wpAnyH_ready (rs := [1]) (by kernel_rfl) (by simp) ?_
  refine AllReadyH.cons (o := { dst := Option.some 79, op := Go.Op.call { callee := Go.Callee.value (Go.Operand.func 21), args := #[Go.Operand.tmp 78], argTypes := #[26] }, type := 3, pos := "law.go:140", after := #[{ on := 0, ground := Go.Ground.data }], guard := Option.none }) rfl (fun K hK => ?_) AllReadyH.nil
  go_simp
  refine (num_nil_b4 _).mono ?_
  rintro e w20 ⟨rfl, hb⟩
  have hKF1 : KF w19 w20 := KF.step hKF0 hb
  clear hb
  dsimp only
  refine hK.out _ _ (HSx.out _ hKF1) (fun hHeld1 => ?_)
  clear hK K
  try simp only [Act.put, List.setIfInBounds_toArray, List.set_cons_zero, List.set_cons_succ]
  refine wpAnyH_take (i := 2) (oi := { dst := Option.some 80, op := Go.Op.binOp Go.BinOp.neq 3 (Go.Operand.tmp 79) (Go.Operand.const (Go.Value.int Go.IntKind.i64 0)) 3, type := 4, pos := "law.go:140", after := #[{ on := 1, ground := Go.Ground.data }], guard := Option.none }) (v := ?_) rfl (by kernel_rfl) (by kernel_rfl) (by kernel_rfl) (fun _ _ _ h => h) (Or.inl ⟨by rfl, ?_⟩) (by assumption) ?_
  rotate_left
  · intro w hSw; (try dsimp only at hSw); go_simp; (try with_reducible rfl)
  simp only [Act.put, List.setIfInBounds_toArray, List.set_cons_zero, List.set_cons_succ]
  refine wpAnyH_take (i := 3) (oi := { dst := Option.some 81, op := Go.Op.move (Go.Operand.tmp 80), type := 4, pos := "law.go:140", after := #[{ on := 2, ground := Go.Ground.data }, { on := 1, ground := Go.Ground.chain }], guard := Option.none }) (v := ?_) rfl (by kernel_rfl) (by kernel_rfl) (by kernel_rfl) (fun _ _ _ h => h) (Or.inl ⟨by rfl, ?_⟩) (by assumption) ?_
  rotate_left
  · intro w hSw; (try dsimp only at hSw); go_simp; (try with_reducible rfl)
  simp only [Act.put, List.setIfInBounds_toArray, List.set_cons_zero, List.set_cons_succ]
  refine wpAnyH_take (i := 4) (oi := { dst := Option.some 82, op := Go.Op.move (Go.Operand.tmp 11), type := 26, pos := "law.go:140", after := #[{ on := 3, ground := Go.Ground.guard }], guard := Option.some (3, Bool.false) }) (v := ?_) rfl (by kernel_rfl) (by kernel_rfl) (by kernel_rfl) (fun _ _ _ h => h) (Or.inl ⟨by rfl, ?_⟩) (by assumption) ?_
  rotate_left
  · intro w hSw; (try dsimp only at hSw); go_simp; (try with_reducible rfl)
  simp only [Act.put, List.setIfInBounds_toArray, List.set_cons_zero, List.set_cons_succ]
  refine wpAnyH_ready (rs := [5]) (by kernel_rfl) (by simp) ?_
  refine AllReadyH.cons (o := { dst := Option.some 83, op := Go.Op.call { callee := Go.Callee.value (Go.Operand.func 21), args := #[Go.Operand.tmp 82], argTypes := #[26] }, type := 3, pos := "law.go:140", after := #[{ on := 4, ground := Go.Ground.data }, { on := 3, ground := Go.Ground.chain }, { on := 3, ground := Go.Ground.guard }], guard := Option.some (3, Bool.false) }) rfl (fun K hK => ?_) AllReadyH.nil
  go_simp
  refine (num_nil_b4 _).mono ?_
  rintro e w21 ⟨rfl, hb⟩
  have hKF2 : KF w19 w21 := KF.step hKF1 hb
  clear hb
  dsimp only
  refine hK.out _ _ (HSx.out _ hKF2) (fun hHeld2 => ?_)
  clear hK K
  try simp only [Act.put, List.setIfInBounds_toArray, List.set_cons_zero, List.set_cons_succ]
  refine wpAnyH_take (i := 6) (oi := { dst := Option.some 84, op := Go.Op.binOp Go.BinOp.neq 3 (Go.Operand.tmp 83) (Go.Operand.const (Go.Value.int Go.IntKind.i64 0)) 3, type := 4, pos := "law.go:140", after := #[{ on := 5, ground := Go.Ground.data }, { on := 3, ground := Go.Ground.guard }], guard := Option.some (3, Bool.false) }) (v := ?_) rfl (by kernel_rfl) (by kernel_rfl) (by kernel_rfl) (fun _ _ _ h => h) (Or.inl ⟨by rfl, ?_⟩) (by assumption) ?_
  rotate_left
  · intro w hSw; (try dsimp only at hSw); go_simp; (try with_reducible rfl)
  simp only [Act.put, List.setIfInBounds_toArray, List.set_cons_zero, List.set_cons_succ]
  refine wpAnyH_take (i := 7) (oi := { dst := Option.some 85, op := Go.Op.pick (Go.Operand.tmp 81) (Go.Operand.const (Go.Value.bool Bool.true)) (Go.Operand.tmp 84), type := 4, pos := "law.go:140", after := #[{ on := 3, ground := Go.Ground.data }, { on := 6, ground := Go.Ground.data }], guard := Option.none }) (v := ?_) rfl (by kernel_rfl) (by kernel_rfl) (by kernel_rfl) (fun _ _ _ h => h) (Or.inl ⟨by rfl, ?_⟩) (by assumption) ?_
  rotate_left
  · intro w hSw; (try dsimp only at hSw); go_simp; (try with_reducible rfl)
  simp only [Act.put, List.setIfInBounds_toArray, List.set_cons_zero, List.set_cons_succ]
  refine wpAnyH_take (i := 8) (oi := { dst := Option.some 86, op := Go.Op.move (Go.Operand.tmp 85), type := 4, pos := "law.go:140", after := #[{ on := 7, ground := Go.Ground.data }, { on := 5, ground := Go.Ground.chain }], guard := Option.none }) (v := ?_) rfl (by kernel_rfl) (by kernel_rfl) (by kernel_rfl) (fun _ _ _ h => h) (Or.inl ⟨by rfl, ?_⟩) (by assumption) ?_
  rotate_left
  · intro w hSw; (try dsimp only at hSw); go_simp; (try with_reducible rfl)
  simp only [Act.put, List.setIfInBounds_toArray, List.set_cons_zero, List.set_cons_succ]
  refine wpAnyH_take (i := 9) (oi := { dst := Option.some 87, op := Go.Op.move (Go.Operand.tmp 12), type := 26, pos := "law.go:140", after := #[{ on := 8, ground := Go.Ground.guard }], guard := Option.some (8, Bool.false) }) (v := ?_) rfl (by kernel_rfl) (by kernel_rfl) (by kernel_rfl) (fun _ _ _ h => h) (Or.inl ⟨by rfl, ?_⟩) (by assumption) ?_
  rotate_left
  · intro w hSw; (try dsimp only at hSw); go_simp; (try with_reducible rfl)
  simp only [Act.put, List.setIfInBounds_toArray, List.set_cons_zero, List.set_cons_succ]
  refine wpAnyH_ready (rs := [10]) (by kernel_rfl) (by simp) ?_
  refine AllReadyH.cons (o := { dst := Option.some 88, op := Go.Op.call { callee := Go.Callee.value (Go.Operand.func 21), args := #[Go.Operand.tmp 87], argTypes := #[26] }, type := 3, pos := "law.go:140", after := #[{ on := 9, ground := Go.Ground.data }, { on := 8, ground := Go.Ground.chain }, { on := 8, ground := Go.Ground.guard }], guard := Option.some (8, Bool.false) }) rfl (fun K hK => ?_) AllReadyH.nil
  go_simp
  refine (num_nil_b4 _).mono ?_
  rintro e w22 ⟨rfl, hb⟩
  have hKF3 : KF w19 w22 := KF.step hKF2 hb
  clear hb
  dsimp only
  refine hK.out _ _ (HSx.out _ hKF3) (fun hHeld3 => ?_)
  clear hK K
  try simp only [Act.put, List.setIfInBounds_toArray, List.set_cons_zero, List.set_cons_succ]
  refine wpAnyH_take (i := 11) (oi := { dst := Option.some 89, op := Go.Op.binOp Go.BinOp.neq 3 (Go.Operand.tmp 88) (Go.Operand.const (Go.Value.int Go.IntKind.i64 0)) 3, type := 4, pos := "law.go:140", after := #[{ on := 10, ground := Go.Ground.data }, { on := 8, ground := Go.Ground.guard }], guard := Option.some (8, Bool.false) }) (v := ?_) rfl (by kernel_rfl) (by kernel_rfl) (by kernel_rfl) (fun _ _ _ h => h) (Or.inl ⟨by rfl, ?_⟩) (by assumption) ?_
  rotate_left
  · intro w hSw; (try dsimp only at hSw); go_simp; (try with_reducible rfl)
  simp only [Act.put, List.setIfInBounds_toArray, List.set_cons_zero, List.set_cons_succ]
  refine wpAnyH_take (i := 12) (oi := { dst := Option.some 90, op := Go.Op.pick (Go.Operand.tmp 86) (Go.Operand.const (Go.Value.bool Bool.true)) (Go.Operand.tmp 89), type := 4, pos := "law.go:140", after := #[{ on := 8, ground := Go.Ground.data }, { on := 11, ground := Go.Ground.data }], guard := Option.none }) (v := ?_) rfl (by kernel_rfl) (by kernel_rfl) (by kernel_rfl) (fun _ _ _ h => h) (Or.inl ⟨by rfl, ?_⟩) (by assumption) ?_
  rotate_left
  · intro w hSw; (try dsimp only at hSw); go_simp; (try with_reducible rfl)
  simp only [Act.put, List.setIfInBounds_toArray, List.set_cons_zero, List.set_cons_succ]
  refine wpAnyH_take (i := 13) (oi := { dst := Option.some 91, op := Go.Op.move (Go.Operand.tmp 90), type := 4, pos := "law.go:140", after := #[{ on := 12, ground := Go.Ground.data }, { on := 10, ground := Go.Ground.chain }], guard := Option.none }) (v := ?_) rfl (by kernel_rfl) (by kernel_rfl) (by kernel_rfl) (fun _ _ _ h => h) (Or.inl ⟨by rfl, ?_⟩) (by assumption) ?_
  rotate_left
  · intro w hSw; (try dsimp only at hSw); go_simp; (try with_reducible rfl)
  simp only [Act.put, List.setIfInBounds_toArray, List.set_cons_zero, List.set_cons_succ]
  refine wpAnyH_take (i := 14) (oi := { dst := Option.some 92, op := Go.Op.move (Go.Operand.tmp 14), type := 26, pos := "law.go:140", after := #[{ on := 13, ground := Go.Ground.guard }], guard := Option.some (13, Bool.false) }) (v := ?_) rfl (by kernel_rfl) (by kernel_rfl) (by kernel_rfl) (fun _ _ _ h => h) (Or.inl ⟨by rfl, ?_⟩) (by assumption) ?_
  rotate_left
  · intro w hSw; (try dsimp only at hSw); go_simp; (try with_reducible rfl)
  simp only [Act.put, List.setIfInBounds_toArray, List.set_cons_zero, List.set_cons_succ]
  refine wpAnyH_ready (rs := [15]) (by kernel_rfl) (by simp) ?_
  refine AllReadyH.cons (o := { dst := Option.some 93, op := Go.Op.call { callee := Go.Callee.value (Go.Operand.func 21), args := #[Go.Operand.tmp 92], argTypes := #[26] }, type := 3, pos := "law.go:140", after := #[{ on := 14, ground := Go.Ground.data }, { on := 13, ground := Go.Ground.chain }, { on := 13, ground := Go.Ground.guard }], guard := Option.some (13, Bool.false) }) rfl (fun K hK => ?_) AllReadyH.nil
  go_simp
  refine (num_nil_b4 _).mono ?_
  rintro e w23 ⟨rfl, hb⟩
  have hKF4 : KF w19 w23 := KF.step hKF3 hb
  clear hb
  dsimp only
  refine hK.out _ _ (HSx.out _ hKF4) (fun hHeld4 => ?_)
  clear hK K
  try simp only [Act.put, List.setIfInBounds_toArray, List.set_cons_zero, List.set_cons_succ]
  refine wpAnyH_take (i := 16) (oi := { dst := Option.some 94, op := Go.Op.binOp Go.BinOp.neq 3 (Go.Operand.tmp 93) (Go.Operand.const (Go.Value.int Go.IntKind.i64 0)) 3, type := 4, pos := "law.go:140", after := #[{ on := 15, ground := Go.Ground.data }, { on := 13, ground := Go.Ground.guard }], guard := Option.some (13, Bool.false) }) (v := ?_) rfl (by kernel_rfl) (by kernel_rfl) (by kernel_rfl) (fun _ _ _ h => h) (Or.inl ⟨by rfl, ?_⟩) (by assumption) ?_
  rotate_left
  · intro w hSw; (try dsimp only at hSw); go_simp; (try with_reducible rfl)
  simp only [Act.put, List.setIfInBounds_toArray, List.set_cons_zero, List.set_cons_succ]
  refine wpAnyH_take (i := 17) (oi := { dst := Option.some 95, op := Go.Op.pick (Go.Operand.tmp 91) (Go.Operand.const (Go.Value.bool Bool.true)) (Go.Operand.tmp 94), type := 4, pos := "law.go:140", after := #[{ on := 13, ground := Go.Ground.data }, { on := 16, ground := Go.Ground.data }], guard := Option.none }) (v := ?_) rfl (by kernel_rfl) (by kernel_rfl) (by kernel_rfl) (fun _ _ _ h => h) (Or.inl ⟨by rfl, ?_⟩) (by assumption) ?_
  rotate_left
  · intro w hSw; (try dsimp only at hSw); go_simp; (try with_reducible rfl)
  simp only [Act.put, List.setIfInBounds_toArray, List.set_cons_zero, List.set_cons_succ]
  refine wpAnyH_take (i := 18) (oi := { dst := Option.some 96, op := Go.Op.move (Go.Operand.tmp 95), type := 4, pos := "law.go:140", after := #[{ on := 17, ground := Go.Ground.data }, { on := 15, ground := Go.Ground.chain }], guard := Option.none }) (v := ?_) rfl (by kernel_rfl) (by kernel_rfl) (by kernel_rfl) (fun _ _ _ h => h) (Or.inl ⟨by rfl, ?_⟩) (by assumption) ?_
  rotate_left
  · intro w hSw; (try dsimp only at hSw); go_simp; (try with_reducible rfl)
  simp only [Act.put, List.setIfInBounds_toArray, List.set_cons_zero, List.set_cons_succ]
  refine wpAnyH_take (i := 19) (oi := { dst := Option.some 97, op := Go.Op.move (Go.Operand.tmp 18), type := 26, pos := "law.go:140", after := #[{ on := 18, ground := Go.Ground.guard }], guard := Option.some (18, Bool.false) }) (v := ?_) rfl (by kernel_rfl) (by kernel_rfl) (by kernel_rfl) (fun _ _ _ h => h) (Or.inl ⟨by rfl, ?_⟩) (by assumption) ?_
  rotate_left
  · intro w hSw; (try dsimp only at hSw); go_simp; (try with_reducible rfl)
  simp only [Act.put, List.setIfInBounds_toArray, List.set_cons_zero, List.set_cons_succ]
  refine wpAnyH_ready (rs := [20]) (by kernel_rfl) (by simp) ?_
  refine AllReadyH.cons (o := { dst := Option.some 98, op := Go.Op.call { callee := Go.Callee.value (Go.Operand.func 21), args := #[Go.Operand.tmp 97], argTypes := #[26] }, type := 3, pos := "law.go:140", after := #[{ on := 19, ground := Go.Ground.data }, { on := 18, ground := Go.Ground.chain }, { on := 18, ground := Go.Ground.guard }], guard := Option.some (18, Bool.false) }) rfl (fun K hK => ?_) AllReadyH.nil
  go_simp
  refine (num_nil_b4 _).mono ?_
  rintro e w24 ⟨rfl, hb⟩
  have hKF5 : KF w19 w24 := KF.step hKF4 hb
  clear hb
  dsimp only
  refine hK.out _ _ (HSx.out _ hKF5) (fun hHeld5 => ?_)
  clear hK K
  try simp only [Act.put, List.setIfInBounds_toArray, List.set_cons_zero, List.set_cons_succ]
  refine wpAnyH_take (i := 21) (oi := { dst := Option.some 99, op := Go.Op.binOp Go.BinOp.neq 3 (Go.Operand.tmp 98) (Go.Operand.const (Go.Value.int Go.IntKind.i64 0)) 3, type := 4, pos := "law.go:140", after := #[{ on := 20, ground := Go.Ground.data }, { on := 18, ground := Go.Ground.guard }], guard := Option.some (18, Bool.false) }) (v := ?_) rfl (by kernel_rfl) (by kernel_rfl) (by kernel_rfl) (fun _ _ _ h => h) (Or.inl ⟨by rfl, ?_⟩) (by assumption) ?_
  rotate_left
  · intro w hSw; (try dsimp only at hSw); go_simp; (try with_reducible rfl)
  simp only [Act.put, List.setIfInBounds_toArray, List.set_cons_zero, List.set_cons_succ]
  refine wpAnyH_take (i := 22) (oi := { dst := Option.some 100, op := Go.Op.pick (Go.Operand.tmp 96) (Go.Operand.const (Go.Value.bool Bool.true)) (Go.Operand.tmp 99), type := 4, pos := "law.go:140", after := #[{ on := 18, ground := Go.Ground.data }, { on := 21, ground := Go.Ground.data }], guard := Option.none }) (v := ?_) rfl (by kernel_rfl) (by kernel_rfl) (by kernel_rfl) (fun _ _ _ h => h) (Or.inl ⟨by rfl, ?_⟩) (by assumption) ?_
  rotate_left
  · intro w hSw; (try dsimp only at hSw); go_simp; (try with_reducible rfl)
  simp only [Act.put, List.setIfInBounds_toArray, List.set_cons_zero, List.set_cons_succ]
  refine wpAnyH_take (i := 23) (oi := { dst := Option.some 101, op := Go.Op.move (Go.Operand.tmp 100), type := 4, pos := "law.go:140", after := #[{ on := 22, ground := Go.Ground.data }, { on := 20, ground := Go.Ground.chain }], guard := Option.none }) (v := ?_) rfl (by kernel_rfl) (by kernel_rfl) (by kernel_rfl) (fun _ _ _ h => h) (Or.inl ⟨by rfl, ?_⟩) (by assumption) ?_
  rotate_left
  · intro w hSw; (try dsimp only at hSw); go_simp; (try with_reducible rfl)
  simp only [Act.put, List.setIfInBounds_toArray, List.set_cons_zero, List.set_cons_succ]
  refine wpAnyH_take (i := 24) (oi := { dst := Option.some 102, op := Go.Op.load 72 (Go.Operand.tmp 13), type := 72, pos := "law.go:140", after := #[{ on := 23, ground := Go.Ground.guard }], guard := Option.some (23, Bool.false) }) rfl (by kernel_rfl) (by kernel_rfl) (by kernel_rfl) (fun _ _ _ h => h) (yieldsIf_load_mid (by rfl) 72 _ rfl BX 0 rfl (sv b) _ (fun W hW => (X_32.out.step (Mv.of_below hW)).now.r) Tryd.underlying72 rfl (szof_sp HBL.out)) (by assumption) ?_
  simp only [Act.put, List.setIfInBounds_toArray, List.set_cons_zero, List.set_cons_succ]
  refine wpAnyH_take (i := 26) (oi := { dst := Option.some 104, op := Go.Op.load 68 (Go.Operand.tmp 5), type := 68, pos := "law.go:140", after := #[{ on := 23, ground := Go.Ground.guard }], guard := Option.some (23, Bool.false) }) rfl (by kernel_rfl) (by kernel_rfl) (by kernel_rfl) (fun _ _ _ h => h) (yieldsIf_load_mid (by rfl) 68 _ rfl BB 0 rfl (sv b) _ (fun W hW => (B_32.out.step (Mv.of_below hW)).now.r) Tryd.underlying68 rfl (szof_rp HBL.out)) (by assumption) ?_
  simp only [Act.put, List.setIfInBounds_toArray, List.set_cons_zero, List.set_cons_succ]
  refine wpAnyH_ready (rs := [25]) (by kernel_rfl) (by simp) ?_
  refine AllReadyH.cons (o := { dst := Option.some 103, op := Go.Op.call { callee := Go.Callee.value (Go.Operand.func 46), args := #[Go.Operand.tmp 102], argTypes := #[72] }, type := 68, pos := "law.go:140", after := #[{ on := 24, ground := Go.Ground.data }, { on := 23, ground := Go.Ground.chain }, { on := 23, ground := Go.Ground.guard }], guard := Option.some (23, Bool.false) }) rfl (fun K hK => ?_) AllReadyH.nil
  go_simp
  refine (HPLB.out _).mono ?_
  rintro e w25 ⟨rfl, hb⟩
  have hKF6 : KF w19 w25 := KF.step hKF5 hb
  clear hb
  dsimp only
  refine hK.out _ _ (HSx.out _ hKF6) (fun hHeld6 => ?_)
  clear hK K
  try simp only [Act.put, List.setIfInBounds_toArray, List.set_cons_zero, List.set_cons_succ]
  refine wpAnyH_take (i := 27) (oi := { dst := Option.some 105, op := Go.Op.binOp Go.BinOp.neq 68 (Go.Operand.tmp 103) (Go.Operand.tmp 104) 68, type := 4, pos := "law.go:140", after := #[{ on := 25, ground := Go.Ground.data }, { on := 26, ground := Go.Ground.data }, { on := 23, ground := Go.Ground.guard }], guard := Option.some (23, Bool.false) }) rfl (by kernel_rfl) (by kernel_rfl) (by kernel_rfl) (fun _ _ _ h => h) (yif_neq_rp (by rfl) _ _ rfl b b rfl rfl HBL.out HBL.out) (by assumption) ?_
  simp only [Act.put, List.setIfInBounds_toArray, List.set_cons_zero, List.set_cons_succ]
  rw [hseb]
  refine wpAnyH_take (i := 28) (oi := { dst := Option.some 106, op := Go.Op.pick (Go.Operand.tmp 101) (Go.Operand.const (Go.Value.bool Bool.true)) (Go.Operand.tmp 105), type := 4, pos := "law.go:140", after := #[{ on := 23, ground := Go.Ground.data }, { on := 27, ground := Go.Ground.data }], guard := Option.none }) (v := ?_) rfl (by kernel_rfl) (by kernel_rfl) (by kernel_rfl) (fun _ _ _ h => h) (Or.inl ⟨by rfl, ?_⟩) (by assumption) ?_
  rotate_left
  · intro w hSw; (try dsimp only at hSw); go_simp; (try with_reducible rfl)
  simp only [Act.put, List.setIfInBounds_toArray, List.set_cons_zero, List.set_cons_succ]
  refine wpAnyH_done (by kernel_rfl) ?_ _
  have hbm : Below w19.heap.size w19 w25 := hKF6
  have hm : Mv S5 S5 w19 w25 := Mv.of_below hbm
  have T_34 := Lib.hid (T_32.out.step hm)
  clear T_32
  have A_34 := Lib.hid (A_32.out.step hm)
  clear A_32
  have B_34 := Lib.hid (B_32.out.step hm)
  clear B_32
  have X_34 := Lib.hid (X_32.out.step hm)
  clear X_32
  have K_34 := Lib.hid (K_32.out.step hm)
  clear K_32
  have Y_34 := Lib.hid (Y_33.out.step hm)
  clear Y_33
  have HM_34 := Lib.hid (HM_32.out.trans hm)
  clear HM_32
  have WI_34 := Lib.hid (WI_32.out.mono hm.size)
  clear WI_32
  have HD_34 := Lib.hid (HD_32.out.under hbm)
  clear HD_32
  clear hm
  clear hbm HSx hKF0 hKF1 hKF2 hKF3 hKF4 hKF5 hKF6
  go_upto_region 16 with fail
  have HSx : Hid (∀ wz, KF w25 wz → (fun wz => KF w25 wz) wz) := Lib.hid (fun wz h => h)
  refine wp_region_held_drew (S := fun wz => KF w25 wz) (by kernel_rfl) ?_ (fun hHeld => ?_)
  · exact HSx.out _ (KF.drew (KF.refl _))
  have hKF0 : KF w25 w25.drew := KF.drew (KF.refl _)
  refine wpAnyH_take (i := 0) (oi := { dst := Option.some 107, op := Go.Op.move (Go.Operand.tmp 3), type := 5, pos := "law.go:143", after := #[], guard := Option.none }) (v := ?_) rfl (by kernel_rfl) (by kernel_rfl) (by kernel_rfl) (fun _ _ _ h => h) (Or.inl ⟨by rfl, ?_⟩) (by assumption) ?_
  rotate_left
  · intro w hSw; (try dsimp only at hSw); go_simp; (try with_reducible rfl)
  simp only [Act.put, List.setIfInBounds_toArray, List.set_cons_zero, List.set_cons_succ]
  refine wpAnyH_take (i := 1) (oi := { dst := Option.some 108, op := Go.Op.binOp Go.BinOp.eql 5 (Go.Operand.tmp 107) (Go.Operand.const (Go.Value.int Go.IntKind.u8 0)) 5, type := 4, pos := "law.go:143", after := #[{ on := 0, ground := Go.Ground.data }], guard := Option.none }) (v := ?_) rfl (by kernel_rfl) (by kernel_rfl) (by kernel_rfl) (fun _ _ _ h => h) (Or.inl ⟨by rfl, ?_⟩) (by assumption) ?_
  rotate_left
  · intro w hSw; (try dsimp only at hSw); go_simp; (try with_reducible rfl)
  simp only [Act.put, List.setIfInBounds_toArray, List.set_cons_zero, List.set_cons_succ]
  refine wpAnyH_take (i := 2) (oi := { dst := Option.some 109, op := Go.Op.move (Go.Operand.tmp 108), type := 4, pos := "law.go:143", after := #[{ on := 1, ground := Go.Ground.data }], guard := Option.none }) (v := ?_) rfl (by kernel_rfl) (by kernel_rfl) (by kernel_rfl) (fun _ _ _ h => h) (Or.inl ⟨by rfl, ?_⟩) (by assumption) ?_
  rotate_left
  · intro w hSw; (try dsimp only at hSw); go_simp; (try with_reducible rfl)
  simp only [Act.put, List.setIfInBounds_toArray, List.set_cons_zero, List.set_cons_succ]
  refine wpAnyH_take (i := 3) (oi := { dst := Option.some 110, op := Go.Op.load 72 (Go.Operand.tmp 17), type := 72, pos := "law.go:143", after := #[{ on := 2, ground := Go.Ground.guard }], guard := Option.some (2, Bool.true) }) (v := undef) rfl (by kernel_rfl) (by kernel_rfl) (by kernel_rfl) (fun _ _ _ h => h) (Or.inr ⟨by rfl, rfl⟩) (by assumption) ?_
  simp only [Act.put, List.setIfInBounds_toArray, List.set_cons_zero, List.set_cons_succ]
  refine wpAnyH_take (i := 4) (oi := { dst := Option.some 111, op := Go.Op.call { callee := Go.Callee.value (Go.Operand.func 46), args := #[Go.Operand.tmp 110], argTypes := #[72] }, type := 68, pos := "law.go:143", after := #[{ on := 3, ground := Go.Ground.data }, { on := 2, ground := Go.Ground.chain }, { on := 2, ground := Go.Ground.guard }], guard := Option.some (2, Bool.true) }) (v := undef) rfl (by kernel_rfl) (by kernel_rfl) (by kernel_rfl) (fun _ _ _ h => h) (Or.inr ⟨by rfl, rfl⟩) (by assumption) ?_
  simp only [Act.put, List.setIfInBounds_toArray, List.set_cons_zero, List.set_cons_succ]
  refine wpAnyH_take (i := 5) (oi := { dst := Option.some 112, op := Go.Op.load 68 (Go.Operand.tmp 5), type := 68, pos := "law.go:143", after := #[{ on := 2, ground := Go.Ground.guard }], guard := Option.some (2, Bool.true) }) (v := undef) rfl (by kernel_rfl) (by kernel_rfl) (by kernel_rfl) (fun _ _ _ h => h) (Or.inr ⟨by rfl, rfl⟩) (by assumption) ?_
  simp only [Act.put, List.setIfInBounds_toArray, List.set_cons_zero, List.set_cons_succ]
  refine wpAnyH_take (i := 6) (oi := { dst := Option.some 113, op := Go.Op.binOp Go.BinOp.eql 68 (Go.Operand.tmp 111) (Go.Operand.tmp 112) 68, type := 4, pos := "law.go:143", after := #[{ on := 4, ground := Go.Ground.data }, { on := 5, ground := Go.Ground.data }, { on := 2, ground := Go.Ground.guard }], guard := Option.some (2, Bool.true) }) (v := undef) rfl (by kernel_rfl) (by kernel_rfl) (by kernel_rfl) (fun _ _ _ h => h) (Or.inr ⟨by rfl, rfl⟩) (by assumption) ?_
  simp only [Act.put, List.setIfInBounds_toArray, List.set_cons_zero, List.set_cons_succ]
  refine wpAnyH_take (i := 7) (oi := { dst := Option.some 114, op := Go.Op.pick (Go.Operand.tmp 109) (Go.Operand.tmp 113) (Go.Operand.const (Go.Value.bool Bool.false)), type := 4, pos := "law.go:143", after := #[{ on := 2, ground := Go.Ground.data }, { on := 6, ground := Go.Ground.data }], guard := Option.none }) (v := ?_) rfl (by kernel_rfl) (by kernel_rfl) (by kernel_rfl) (fun _ _ _ h => h) (Or.inl ⟨by rfl, ?_⟩) (by assumption) ?_
  rotate_left
  · intro w hSw; (try dsimp only at hSw); go_simp; (try with_reducible rfl)
  simp only [Act.put, List.setIfInBounds_toArray, List.set_cons_zero, List.set_cons_succ]
  refine wpAnyH_take (i := 8) (oi := { dst := Option.some 115, op := Go.Op.move (Go.Operand.tmp 114), type := 4, pos := "law.go:143", after := #[{ on := 7, ground := Go.Ground.data }, { on := 4, ground := Go.Ground.chain }], guard := Option.none }) (v := ?_) rfl (by kernel_rfl) (by kernel_rfl) (by kernel_rfl) (fun _ _ _ h => h) (Or.inl ⟨by rfl, ?_⟩) (by assumption) ?_
  rotate_left
  · intro w hSw; (try dsimp only at hSw); go_simp; (try with_reducible rfl)
  simp only [Act.put, List.setIfInBounds_toArray, List.set_cons_zero, List.set_cons_succ]
  refine wpAnyH_take (i := 9) (oi := { dst := Option.some 116, op := Go.Op.move (Go.Operand.tmp 3), type := 5, pos := "law.go:143", after := #[{ on := 8, ground := Go.Ground.guard }], guard := Option.some (8, Bool.false) }) (v := ?_) rfl (by kernel_rfl) (by kernel_rfl) (by kernel_rfl) (fun _ _ _ h => h) (Or.inl ⟨by rfl, ?_⟩) (by assumption) ?_
  rotate_left
  · intro w hSw; (try dsimp only at hSw); go_simp; (try with_reducible rfl)
  simp only [Act.put, List.setIfInBounds_toArray, List.set_cons_zero, List.set_cons_succ]
  refine wpAnyH_take (i := 10) (oi := { dst := Option.some 117, op := Go.Op.binOp Go.BinOp.neq 5 (Go.Operand.tmp 116) (Go.Operand.const (Go.Value.int Go.IntKind.u8 0)) 5, type := 4, pos := "law.go:143", after := #[{ on := 9, ground := Go.Ground.data }, { on := 8, ground := Go.Ground.guard }], guard := Option.some (8, Bool.false) }) (v := ?_) rfl (by kernel_rfl) (by kernel_rfl) (by kernel_rfl) (fun _ _ _ h => h) (Or.inl ⟨by rfl, ?_⟩) (by assumption) ?_
  rotate_left
  · intro w hSw; (try dsimp only at hSw); go_simp; (try with_reducible rfl)
  simp only [Act.put, List.setIfInBounds_toArray, List.set_cons_zero, List.set_cons_succ]
  refine wpAnyH_take (i := 11) (oi := { dst := Option.some 118, op := Go.Op.move (Go.Operand.tmp 117), type := 4, pos := "law.go:143", after := #[{ on := 10, ground := Go.Ground.data }, { on := 8, ground := Go.Ground.chain }, { on := 8, ground := Go.Ground.guard }], guard := Option.some (8, Bool.false) }) (v := ?_) rfl (by kernel_rfl) (by kernel_rfl) (by kernel_rfl) (fun _ _ _ h => h) (Or.inl ⟨by rfl, ?_⟩) (by assumption) ?_
  rotate_left
  · intro w hSw; (try dsimp only at hSw); go_simp; (try with_reducible rfl)
  simp only [Act.put, List.setIfInBounds_toArray, List.set_cons_zero, List.set_cons_succ]
  refine wpAnyH_take (i := 12) (oi := { dst := Option.some 119, op := Go.Op.load 72 (Go.Operand.tmp 17), type := 72, pos := "law.go:143", after := #[{ on := 11, ground := Go.Ground.guard }], guard := Option.some (11, Bool.true) }) rfl (by kernel_rfl) (by kernel_rfl) (by kernel_rfl) (fun _ _ _ h => h) (yieldsIf_load_mid (by rfl) 72 _ rfl BY 0 rfl (sv a) _ (fun W hW => (Y_34.out.step (Mv.of_below hW)).now.r) Tryd.underlying72 rfl (szof_sp HAL.out)) (by assumption) ?_
  simp only [Act.put, List.setIfInBounds_toArray, List.set_cons_zero, List.set_cons_succ]
  refine wpAnyH_take (i := 14) (oi := { dst := Option.some 121, op := Go.Op.load 68 (Go.Operand.tmp 4), type := 68, pos := "law.go:143", after := #[{ on := 11, ground := Go.Ground.guard }], guard := Option.some (11, Bool.true) }) rfl (by kernel_rfl) (by kernel_rfl) (by kernel_rfl) (fun _ _ _ h => h) (yieldsIf_load_mid (by rfl) 68 _ rfl BA 0 rfl (sv a) _ (fun W hW => (A_34.out.step (Mv.of_below hW)).now.r) Tryd.underlying68 rfl (szof_rp HAL.out)) (by assumption) ?_
  simp only [Act.put, List.setIfInBounds_toArray, List.set_cons_zero, List.set_cons_succ]
  refine wpAnyH_ready (rs := [13]) (by kernel_rfl) (by simp) ?_
  refine AllReadyH.cons (o := { dst := Option.some 120, op := Go.Op.call { callee := Go.Callee.value (Go.Operand.func 46), args := #[Go.Operand.tmp 119], argTypes := #[72] }, type := 68, pos := "law.go:143", after := #[{ on := 12, ground := Go.Ground.data }, { on := 11, ground := Go.Ground.chain }, { on := 11, ground := Go.Ground.guard }], guard := Option.some (11, Bool.true) }) rfl (fun K hK => ?_) AllReadyH.nil
  go_simp
  refine (HPLA.out _).mono ?_
  rintro e w26 ⟨rfl, hb⟩
  have hKF1 : KF w25 w26 := KF.step hKF0 hb
  clear hb
  dsimp only
  refine hK.out _ _ (HSx.out _ hKF1) (fun hHeld1 => ?_)
  clear hK K
  try simp only [Act.put, List.setIfInBounds_toArray, List.set_cons_zero, List.set_cons_succ]
  refine wpAnyH_take (i := 15) (oi := { dst := Option.some 122, op := Go.Op.binOp Go.BinOp.eql 68 (Go.Operand.tmp 120) (Go.Operand.tmp 121) 68, type := 4, pos := "law.go:143", after := #[{ on := 13, ground := Go.Ground.data }, { on := 14, ground := Go.Ground.data }, { on := 11, ground := Go.Ground.guard }], guard := Option.some (11, Bool.true) }) rfl (by kernel_rfl) (by kernel_rfl) (by kernel_rfl) (fun _ _ _ h => h) (yif_eq_rp (by rfl) _ _ rfl a a rfl rfl HAL.out HAL.out) (by assumption) ?_
  simp only [Act.put, List.setIfInBounds_toArray, List.set_cons_zero, List.set_cons_succ]
  rw [hsea]
  refine wpAnyH_take (i := 16) (oi := { dst := Option.some 123, op := Go.Op.pick (Go.Operand.tmp 118) (Go.Operand.tmp 122) (Go.Operand.const (Go.Value.bool Bool.false)), type := 4, pos := "law.go:143", after := #[{ on := 11, ground := Go.Ground.data }, { on := 15, ground := Go.Ground.data }, { on := 8, ground := Go.Ground.guard }], guard := Option.some (8, Bool.false) }) (v := ?_) rfl (by kernel_rfl) (by kernel_rfl) (by kernel_rfl) (fun _ _ _ h => h) (Or.inl ⟨by rfl, ?_⟩) (by assumption) ?_
  rotate_left
  · intro w hSw; (try dsimp only at hSw); go_simp; (try with_reducible rfl)
  simp only [Act.put, List.setIfInBounds_toArray, List.set_cons_zero, List.set_cons_succ]
  refine wpAnyH_take (i := 17) (oi := { dst := Option.some 124, op := Go.Op.pick (Go.Operand.tmp 115) (Go.Operand.const (Go.Value.bool Bool.true)) (Go.Operand.tmp 123), type := 4, pos := "law.go:143", after := #[{ on := 8, ground := Go.Ground.data }, { on := 16, ground := Go.Ground.data }], guard := Option.none }) (v := ?_) rfl (by kernel_rfl) (by kernel_rfl) (by kernel_rfl) (fun _ _ _ h => h) (Or.inl ⟨by rfl, ?_⟩) (by assumption) ?_
  rotate_left
  · intro w hSw; (try dsimp only at hSw); go_simp; (try with_reducible rfl)
  simp only [Act.put, List.setIfInBounds_toArray, List.set_cons_zero, List.set_cons_succ]
  refine wpAnyH_take (i := 18) (oi := { dst := Option.some 8, op := Go.Op.assign (Go.Operand.tmp 124), type := 4, pos := "law.go:143", after := #[{ on := 17, ground := Go.Ground.data }, { on := 13, ground := Go.Ground.chain }, { on := 0, ground := Go.Ground.phase }, { on := 1, ground := Go.Ground.phase }, { on := 2, ground := Go.Ground.phase }, { on := 3, ground := Go.Ground.phase }, { on := 4, ground := Go.Ground.phase }, { on := 5, ground := Go.Ground.phase }, { on := 6, ground := Go.Ground.phase }, { on := 7, ground := Go.Ground.phase }, { on := 8, ground := Go.Ground.phase }, { on := 9, ground := Go.Ground.phase }, { on := 10, ground := Go.Ground.phase }, { on := 11, ground := Go.Ground.phase }, { on := 12, ground := Go.Ground.phase }, { on := 13, ground := Go.Ground.phase }, { on := 14, ground := Go.Ground.phase }, { on := 15, ground := Go.Ground.phase }, { on := 16, ground := Go.Ground.phase }, { on := 17, ground := Go.Ground.phase }], guard := Option.none }) (v := ?_) rfl (by kernel_rfl) (by kernel_rfl) (by kernel_rfl) (fun _ _ _ h => h) (Or.inl ⟨by rfl, ?_⟩) (by assumption) ?_
  rotate_left
  · intro w hSw; (try dsimp only at hSw); go_simp; (try with_reducible rfl)
  simp only [Act.put, List.setIfInBounds_toArray, List.set_cons_zero, List.set_cons_succ]
  refine wpAnyH_done (by kernel_rfl) ?_ _
  have hbm : Below w25.heap.size w25 w26 := hKF1
  have hm : Mv S5 S5 w25 w26 := Mv.of_below hbm
  have T_35 := Lib.hid (T_34.out.step hm)
  clear T_34
  have A_35 := Lib.hid (A_34.out.step hm)
  clear A_34
  have B_35 := Lib.hid (B_34.out.step hm)
  clear B_34
  have X_35 := Lib.hid (X_34.out.step hm)
  clear X_34
  have K_35 := Lib.hid (K_34.out.step hm)
  clear K_34
  have Y_35 := Lib.hid (Y_34.out.step hm)
  clear Y_34
  have HM_35 := Lib.hid (HM_34.out.trans hm)
  clear HM_34
  have WI_35 := Lib.hid (WI_34.out.mono hm.size)
  clear WI_34
  have HD_35 := Lib.hid (HD_34.out.under hbm)
  clear HD_34
  clear hm
  clear hbm HSx hKF0 hKF1
  go_wp2_with fail
  go_ret
  exact ⟨rfl, HM_35.out.below⟩
theorem sgreat_walk (a c : Sup) (t y : Int) (w : World) (qa : a.u.length = 30 ∧ 0 ≤ a.g ∧ a.g ≤ 4294967295) (qc : c.u.length = 30 ∧ 0 ≤ c.g ∧ c.g ≤ 4294967295) (wt : (Lit.int .u8 t).wf = true) (wy : (Lit.int .u8 y).wf = true) (tied : Tied w) : Calls Tryd.prog 11 #[.agg (sv a).toArray, .agg (sv c).toArray, .int .u8 t, .int .u8 y] w fun e w' => e = .returned (.bool true) ∧ Below w.heap.size w w' := by
  have h1 := wf_b8 wt
  have h2 := wf_b8 wy
  obtain ⟨n, rfl⟩ : ∃ n : Nat, t = (n : Int) := ⟨t.toNat, by omega⟩
  obtain ⟨m, rfl⟩ : ∃ n : Nat, y = (n : Int) := ⟨y.toNat, by omega⟩
  have ha : a.Fits := ⟨qa.1, qa.2.1, qa.2.2⟩
  have hc : c.Fits := ⟨qc.1, qc.2.1, qc.2.2⟩
  cases ra : rightB a
  · exact sgreat_a a c n m ha hc (by omega) ra rfl w tied
  cases rb : rightB ⟨(a.g + 1) % 4294967296, c.r, c.u⟩
  · exact sgreat_b a c n m ha hc (by omega) ra rb w tied
  by_cases hz : m = 0
  · exact sgreat_zero a c n m ha hc (by omega) ra rb hz w tied
  · exact sgreat_some a c n m ha hc (by omega) ra rb hz w tied
end Go.Proofs.YtmnkgcgmbdkjaaaDoor
