/- dynamolaw07: SuperBack, SuperPlays: the walks. -/
import Derived.Test.YtmnkgcgmbdkjaaaDoorHH
import Derived.Test.YtmnkgcgmbdkjaaaDoorHU
namespace Go.Proofs.YtmnkgcgmbdkjaaaDoor
open Go.RowKit Go.Extern.Stop Go.Stop Go.Extern Go.Proofs.YtmnkgcgmbdkjaaaDoorW.PrintWords Go.Proofs.YtmnkgcgmbdkjaaaDoorW.PrintLast Go.Proofs.YtmnkgcgmbdkjaaaDoorW.PrintMore Go.Proofs.YtmnkgcgmbdkjaaaDoor.PSuperPlays
set_option linter.unusedVariables false
set_option linter.unusedSimpArgs false
theorem num_nil_b2 (w : World) : Calls Tryd.prog 21 #[.nilIface] w fun e w' => e = .returned (.int .i64 0) ∧ Below w.heap.size w w' := (Num_nil w).mono fun e w2 h => ⟨h.1, by rw [← h.2]; exact Below.refl _ _⟩
theorem okU_more (d : ByteArray) (h : d.size = 35) : readU (d ++ (⟨#[120]⟩ : ByteArray)) = sup0 ∧ (if okU (d ++ (⟨#[120]⟩ : ByteArray)) = true then (0 : Int) else 2) = 2 := by
  have hz : (d ++ (⟨#[120]⟩ : ByteArray)).size = 36 := by rw [ByteArray.size_append, h]; rfl
  have e : okU (d ++ (⟨#[120]⟩ : ByteArray)) = false := by unfold okU; rw [hz]; rfl
  exact ⟨readU_bad e, by rw [e]; rfl⟩
set_option maxHeartbeats 4000000 in
set_option maxRecDepth 100000 in
theorem sback_no (s : Sup) (hf : s.Fits) (hr : rightB s = false) (w : World) (tied : Tied w) : Calls Tryd.prog 9 #[.agg (sv s).toArray] w fun e w' => e = .returned (.bool true) ∧ Below w.heap.size w w' := by
  have HSL := Lib.hid hf.l
  have HLY := Lib.hid (fun w => slay_no s hf.l hr w)
  have HRT := Lib.hid (fun w => right_any s hf.l w)
  rw [hr] at HRT
  clear hf hr
  have HM0 := Lib.hid (Mv.refl No w)
  have T0 := Lib.hid (Stays.tied tied)
  have WI0 := Lib.hid (Wi.no w)
  clear tied
  go_enter Tryd.func9, Tryd.ntmps9
  go_upto_region 1 with fail
  obtain ⟨w1, hw1⟩ : ∃ q, q = w.alloc (.cells (sv (s)).toArray 68) := ⟨_, rfl⟩
  try rw [← hw1]
  have hbm : Below w.heap.size w w1 := by rw [hw1]; exact (Below.refl _ _).alloc (Nat.le_refl _) _
  have hm : Mv No No w w1 := Mv.of_below hbm
  have hbx : Stays No w1 (fun W => SupAt W w.heap.size (s)) := Stays.boxS HSL.out WI0.out hw1
  have hsz1 : w1.heap.size = w.heap.size + 1 := by rw [hw1]; simp
  obtain ⟨BA, hBA⟩ : ∃ q, q = w.heap.size := ⟨_, rfl⟩
  try rw [← hBA]
  rw [← hBA] at hbx hsz1
  have T_1 := Lib.hid (T0.out.step hm)
  clear T0
  have HM_1 := Lib.hid (HM0.out.trans hm)
  clear HM0
  have WI_1 := Lib.hid (WI0.out.mono hm.size)
  clear WI0
  clear hm
  clear hbm hw1 hBA
  have A_2 := Lib.hid (hbx)
  clear hbx
  clear hsz1
  go_wp2_with fail
  refine (awake7 _ T_1.out.now).mono ?_
  rintro e w2 ⟨rfl, hb⟩
  have hbm : Below w1.heap.size w1 w2 := hb
  clear hb
  have hm : Mv No No w1 w2 := Mv.of_below hbm
  have T_3 := Lib.hid (T_1.out.step hm)
  clear T_1
  have A_3 := Lib.hid (A_2.out.step hm)
  clear A_2
  have HM_3 := Lib.hid (HM_1.out.trans hm)
  clear HM_1
  have WI_3 := Lib.hid (WI_1.out.mono hm.size)
  clear WI_1
  clear hm
  clear hbm
  go_wp2_with (first | ((with_reducible refine at_ld 68 (.tmp 1) ?_); refine ld_rp rfl _ rfl BA (0) rfl s ?_ ?_ ?_; exact HSL.out; exact (A_3.out.now).r))
  refine (of_any s HSL.out _).mono ?_
  rintro e w3 ⟨rfl, hb⟩
  have hbm : Below w2.heap.size w2 w3 := hb
  clear hb
  have hm : Mv No No w2 w3 := Mv.of_below hbm
  have T_4 := Lib.hid (T_3.out.step hm)
  clear T_3
  have A_4 := Lib.hid (A_3.out.step hm)
  clear A_3
  have HM_4 := Lib.hid (HM_3.out.trans hm)
  clear HM_3
  have WI_4 := Lib.hid (WI_3.out.mono hm.size)
  clear WI_3
  clear hm
  clear hbm
  go_wp2_with fail
  refine (HLY.out _).mono ?_
  rintro e w4 ⟨v1, rfl, he, hb⟩
  have hbm : Below w3.heap.size w3 w4 := hb
  clear hb
  have hm : Mv No No w3 w4 := Mv.of_below hbm
  have hst := Stays.err he WI_4.out
  clear he
  have T_5 := Lib.hid (T_4.out.step hm)
  clear T_4
  have A_5 := Lib.hid (A_4.out.step hm)
  clear A_4
  have HM_5 := Lib.hid (HM_4.out.trans hm)
  clear HM_4
  have WI_5 := Lib.hid (WI_4.out.mono hm.size)
  clear WI_4
  clear hm
  clear hbm
  have E1_6 := Lib.hid (hst)
  clear hst
  go_wp2_with fail
  refine (Num_c _ v1 1 E1_6.out.now T_5.out.now).mono ?_
  rintro e w5 ⟨rfl, hb⟩
  have hbm : Below w4.heap.size w4 w5 := hb
  clear hb
  have hm : Mv No No w4 w5 := Mv.of_below hbm
  have T_7 := Lib.hid (T_5.out.step hm)
  clear T_5
  have A_7 := Lib.hid (A_5.out.step hm)
  clear A_5
  have E1_7 := Lib.hid (E1_6.out.step hm)
  clear E1_6
  have HM_7 := Lib.hid (HM_5.out.trans hm)
  clear HM_5
  have WI_7 := Lib.hid (WI_5.out.mono hm.size)
  clear WI_5
  clear hm
  clear hbm
  go_wp2_with fail
  refine (Num_c _ v1 1 E1_7.out.now T_7.out.now).mono ?_
  rintro e w6 ⟨rfl, hb⟩
  have hbm : Below w5.heap.size w5 w6 := hb
  clear hb
  have hm : Mv No No w5 w6 := Mv.of_below hbm
  have T_8 := Lib.hid (T_7.out.step hm)
  clear T_7
  have A_8 := Lib.hid (A_7.out.step hm)
  clear A_7
  have E1_8 := Lib.hid (E1_7.out.step hm)
  clear E1_7
  have HM_8 := Lib.hid (HM_7.out.trans hm)
  clear HM_7
  have WI_8 := Lib.hid (WI_7.out.mono hm.size)
  clear WI_7
  clear hm
  clear hbm
  go_wp2_with (first | ((with_reducible refine at_ld 68 (.tmp 1) ?_); refine ldw_rp (by first | rfl | go_simp) (.tmp 1) rfl BA (0) rfl s ?_ ?_ ?_; exact HSL.out; exact (A_8.out.now).r))
  refine (of_any s HSL.out _).mono ?_
  rintro e w7 ⟨rfl, hb⟩
  have hbm : Below w6.heap.size w6 w7 := hb
  clear hb
  have hm : Mv No No w6 w7 := Mv.of_below hbm
  have T_9 := Lib.hid (T_8.out.step hm)
  clear T_8
  have A_9 := Lib.hid (A_8.out.step hm)
  clear A_8
  have E1_9 := Lib.hid (E1_8.out.step hm)
  clear E1_8
  have HM_9 := Lib.hid (HM_8.out.trans hm)
  clear HM_8
  have WI_9 := Lib.hid (WI_8.out.mono hm.size)
  clear WI_8
  clear hm
  clear hbm
  go_wp2_with fail
  refine (HRT.out _).mono ?_
  rintro e w8 ⟨rfl, hb⟩
  have hbm : Below w7.heap.size w7 w8 := hb
  clear hb
  have hm : Mv No No w7 w8 := Mv.of_below hbm
  have T_10 := Lib.hid (T_9.out.step hm)
  clear T_9
  have A_10 := Lib.hid (A_9.out.step hm)
  clear A_9
  have E1_10 := Lib.hid (E1_9.out.step hm)
  clear E1_9
  have HM_10 := Lib.hid (HM_9.out.trans hm)
  clear HM_9
  have WI_10 := Lib.hid (WI_9.out.mono hm.size)
  clear WI_9
  clear hm
  clear hbm
  go_wp2_with fail
  go_ret
  exact ⟨rfl, HM_10.out.below⟩
set_option maxHeartbeats 8000000 in
set_option maxRecDepth 100000 in
theorem sback_ok (s : Sup) (hf : s.Fits) (hr : rightB s = true) (w : World) (tied : Tied w) : Calls Tryd.prog 9 #[.agg (sv s).toArray] w fun e w' => e = .returned (.bool true) ∧ Below w.heap.size w w' := by
  have HSL := Lib.hid hf.l
  have HLY := Lib.hid (fun w => slay_ok s hf hr w)
  have HRT := Lib.hid (fun w => right_any s hf.l w)
  rw [hr] at HRT
  have HPL := Lib.hid (fun w => plain_any s hf.l w)
  have hz := layU_size hf hr
  have HR1 := Lib.hid (fun w => sread_any (layU s) w)
  rw [readU_lay hf hr, okU_lay hf hr, if_pos rfl] at HR1
  have HR2 := Lib.hid (fun w => sread_any (layU s ++ (⟨#[120]⟩ : ByteArray)) w)
  rw [(okU_more _ hz).1, (okU_more _ hz).2] at HR2
  obtain ⟨t, ht⟩ : ∃ q, q = layU s := ⟨_, rfl⟩
  rw [← ht] at HLY HR1 HR2 hz
  have hse := supE_self s
  clear hf hr ht
  have HM0 := Lib.hid (Mv.refl No w)
  have T0 := Lib.hid (Stays.tied tied)
  have WI0 := Lib.hid (Wi.no w)
  clear tied
  go_enter Tryd.func9, Tryd.ntmps9
  go_upto_region 1 with fail
  obtain ⟨w1, hw1⟩ : ∃ q, q = w.alloc (.cells (sv (s)).toArray 68) := ⟨_, rfl⟩
  try rw [← hw1]
  have hbm : Below w.heap.size w w1 := by rw [hw1]; exact (Below.refl _ _).alloc (Nat.le_refl _) _
  have hm : Mv No No w w1 := Mv.of_below hbm
  have hbx : Stays No w1 (fun W => SupAt W w.heap.size (s)) := Stays.boxS HSL.out WI0.out hw1
  have hsz1 : w1.heap.size = w.heap.size + 1 := by rw [hw1]; simp
  obtain ⟨BA, hBA⟩ : ∃ q, q = w.heap.size := ⟨_, rfl⟩
  try rw [← hBA]
  rw [← hBA] at hbx hsz1
  have T_1 := Lib.hid (T0.out.step hm)
  clear T0
  have HM_1 := Lib.hid (HM0.out.trans hm)
  clear HM0
  have WI_1 := Lib.hid (WI0.out.mono hm.size)
  clear WI0
  clear hm
  clear hbm hw1 hBA
  have A_2 := Lib.hid (hbx)
  clear hbx
  clear hsz1
  go_wp2_with fail
  refine (awake7 _ T_1.out.now).mono ?_
  rintro e w2 ⟨rfl, hb⟩
  have hbm : Below w1.heap.size w1 w2 := hb
  clear hb
  have hm : Mv No No w1 w2 := Mv.of_below hbm
  have T_3 := Lib.hid (T_1.out.step hm)
  clear T_1
  have A_3 := Lib.hid (A_2.out.step hm)
  clear A_2
  have HM_3 := Lib.hid (HM_1.out.trans hm)
  clear HM_1
  have WI_3 := Lib.hid (WI_1.out.mono hm.size)
  clear WI_1
  clear hm
  clear hbm
  go_wp2_with (first | ((with_reducible refine at_ld 68 (.tmp 1) ?_); refine ld_rp rfl _ rfl BA (0) rfl s ?_ ?_ ?_; exact HSL.out; exact (A_3.out.now).r))
  refine (of_any s HSL.out _).mono ?_
  rintro e w3 ⟨rfl, hb⟩
  have hbm : Below w2.heap.size w2 w3 := hb
  clear hb
  have hm : Mv No No w2 w3 := Mv.of_below hbm
  have T_4 := Lib.hid (T_3.out.step hm)
  clear T_3
  have A_4 := Lib.hid (A_3.out.step hm)
  clear A_3
  have HM_4 := Lib.hid (HM_3.out.trans hm)
  clear HM_3
  have WI_4 := Lib.hid (WI_3.out.mono hm.size)
  clear WI_3
  clear hm
  clear hbm
  go_wp2_with fail
  refine (HLY.out _).mono ?_
  rintro e w4 ⟨rfl, hb⟩
  have hbm : Below w3.heap.size w3 w4 := hb
  clear hb
  have hm : Mv No No w3 w4 := Mv.of_below hbm
  have T_5 := Lib.hid (T_4.out.step hm)
  clear T_4
  have A_5 := Lib.hid (A_4.out.step hm)
  clear A_4
  have HM_5 := Lib.hid (HM_4.out.trans hm)
  clear HM_4
  have WI_5 := Lib.hid (WI_4.out.mono hm.size)
  clear WI_4
  clear hm
  clear hbm
  go_wp2_with fail
  refine (Num_nil w4).mono ?_
  rintro e _ ⟨rfl, rfl⟩
  go_wp2_with fail
  refine (HR1.out _).mono ?_
  rintro e w5 ⟨v1, rfl, he, hb⟩
  have hbm : Below w4.heap.size w4 w5 := hb
  clear hb
  have hm : Mv No No w4 w5 := Mv.of_below hbm
  have T_6 := Lib.hid (T_5.out.step hm)
  clear T_5
  have A_6 := Lib.hid (A_5.out.step hm)
  clear A_5
  have HM_6 := Lib.hid (HM_5.out.trans hm)
  clear HM_5
  have WI_6 := Lib.hid (WI_5.out.mono hm.size)
  clear WI_5
  clear hm
  clear hbm
  obtain rfl := ErrC.zero he
  clear he
  go_wp2_with (first | ((with_reducible refine at_al 72 ?_); refine al_sp rfl rfl ?_) | ((with_reducible refine at_st 72 (.tmp 5) (.tmp 36) ?_); refine stn_sp rfl _ _ rfl _ _ _ rfl rfl s ?_ rfl ?_ ?_; exact HSL.out; exact ssz))
  obtain ⟨w6, hw6⟩ : ∃ q, q = w5.alloc (.cells (sv (s)).toArray 72) := ⟨_, rfl⟩
  try rw [← hw6]
  have hbm : Below w5.heap.size w5 w6 := by rw [hw6]; exact (Below.refl _ _).alloc (Nat.le_refl _) _
  have hm : Mv No No w5 w6 := Mv.of_below hbm
  have hbx : Stays No w6 (fun W => SupAt W w5.heap.size (s)) := Stays.boxS HSL.out WI_6.out hw6
  have hsz6 : w6.heap.size = w5.heap.size + 1 := by rw [hw6]; simp
  obtain ⟨BX, hBX⟩ : ∃ q, q = w5.heap.size := ⟨_, rfl⟩
  try rw [← hBX]
  rw [← hBX] at hbx hsz6
  have T_7 := Lib.hid (T_6.out.step hm)
  clear T_6
  have A_7 := Lib.hid (A_6.out.step hm)
  clear A_6
  have HM_7 := Lib.hid (HM_6.out.trans hm)
  clear HM_6
  have WI_7 := Lib.hid (WI_6.out.mono hm.size)
  clear WI_6
  clear hm
  clear hbm hw6 hBX
  have X_8 := Lib.hid (hbx)
  clear hbx
  clear hsz6
  refine (HR2.out _).mono ?_
  rintro e w7 ⟨v2, rfl, he, hb⟩
  have hbm : Below w6.heap.size w6 w7 := hb
  clear hb
  have hm : Mv No No w6 w7 := Mv.of_below hbm
  have hst := Stays.err he WI_7.out
  clear he
  have T_9 := Lib.hid (T_7.out.step hm)
  clear T_7
  have A_9 := Lib.hid (A_7.out.step hm)
  clear A_7
  have X_9 := Lib.hid (X_8.out.step hm)
  clear X_8
  have HM_9 := Lib.hid (HM_7.out.trans hm)
  clear HM_7
  have WI_9 := Lib.hid (WI_7.out.mono hm.size)
  clear WI_7
  clear hm
  clear hbm
  have E2_10 := Lib.hid (hst)
  clear hst
  go_wp2_with (first | ((with_reducible refine at_al 72 ?_); refine al_sp rfl rfl ?_) | ((with_reducible refine at_st 72 (.tmp 7) (.tmp 42) ?_); refine stn_sp rfl _ _ rfl _ _ _ rfl rfl sup0 ?_ rfl ?_ ?_; exact sup0_l; exact ssz))
  obtain ⟨w8, hw8⟩ : ∃ q, q = w7.alloc (.cells (sv (sup0)).toArray 72) := ⟨_, rfl⟩
  try rw [← hw8]
  have hbm : Below w7.heap.size w7 w8 := by rw [hw8]; exact (Below.refl _ _).alloc (Nat.le_refl _) _
  have hm : Mv No No w7 w8 := Mv.of_below hbm
  have hbx : Stays No w8 (fun W => SupAt W w7.heap.size (sup0)) := Stays.boxS sup0_l WI_9.out hw8
  have hsz8 : w8.heap.size = w7.heap.size + 1 := by rw [hw8]; simp
  obtain ⟨BY, hBY⟩ : ∃ q, q = w7.heap.size := ⟨_, rfl⟩
  try rw [← hBY]
  rw [← hBY] at hbx hsz8
  have T_11 := Lib.hid (T_9.out.step hm)
  clear T_9
  have A_11 := Lib.hid (A_9.out.step hm)
  clear A_9
  have X_11 := Lib.hid (X_9.out.step hm)
  clear X_9
  have E2_11 := Lib.hid (E2_10.out.step hm)
  clear E2_10
  have HM_11 := Lib.hid (HM_9.out.trans hm)
  clear HM_9
  have WI_11 := Lib.hid (WI_9.out.mono hm.size)
  clear WI_9
  clear hm
  clear hbm hw8 hBY
  have Y_12 := Lib.hid (hbx)
  clear hbx
  clear Y_12
  clear hsz8
  have HSx : Hid (∀ wz, KF w8 wz → (fun wz => KF w8 wz) wz) := Lib.hid (fun wz h => h)
  refine wp_region_held_drew (S := fun wz => KF w8 wz) (by kernel_rfl) ?_ (fun hHeld => ?_)
  · exact HSx.out _ (KF.drew (KF.refl _))
  have hKF0 : KF w8 w8.drew := KF.drew (KF.refl _)
  refine wpAnyH_take (i := 0) (oi := { dst := Option.some 44, op := Go.Op.move (Go.Operand.tmp 6), type := 26, pos := "law.go:37", after := #[], guard := Option.none }) (v := ?_) rfl (by kernel_rfl) (by kernel_rfl) (by kernel_rfl) (fun _ _ _ h => h) (Or.inl ⟨by rfl, ?_⟩) (by assumption) ?_
  rotate_left
  · intro w hSw; (try dsimp only at hSw); go_simp; (try with_reducible rfl)
  simp only [Act.put, List.setIfInBounds_toArray, List.set_cons_zero, List.set_cons_succ]
  refine wpAnyH_ready (rs := [1]) (by kernel_rfl) (by simp) ?_
  refine AllReadyH.cons (o := { dst := Option.some 45, op := Go.Op.call { callee := Go.Callee.value (Go.Operand.func 21), args := #[Go.Operand.tmp 44], argTypes := #[26] }, type := 3, pos := "law.go:37", after := #[{ on := 0, ground := Go.Ground.data }], guard := Option.none }) rfl (fun K hK => ?_) AllReadyH.nil
  go_simp
  refine (num_nil_b2 _).mono ?_
  rintro e w9 ⟨rfl, hb⟩
  have hKF1 : KF w8 w9 := KF.step hKF0 hb
  clear hb
  dsimp only
  refine hK.out _ _ (HSx.out _ hKF1) (fun hHeld1 => ?_)
  clear hK K
  try simp only [Act.put, List.setIfInBounds_toArray, List.set_cons_zero, List.set_cons_succ]
  refine wpAnyH_take (i := 2) (oi := { dst := Option.some 46, op := Go.Op.binOp Go.BinOp.eql 3 (Go.Operand.tmp 45) (Go.Operand.const (Go.Value.int Go.IntKind.i64 0)) 3, type := 4, pos := "law.go:37", after := #[{ on := 1, ground := Go.Ground.data }], guard := Option.none }) (v := ?_) rfl (by kernel_rfl) (by kernel_rfl) (by kernel_rfl) (fun _ _ _ h => h) (Or.inl ⟨by rfl, ?_⟩) (by assumption) ?_
  rotate_left
  · intro w hSw; (try dsimp only at hSw); go_simp; (try with_reducible rfl)
  simp only [Act.put, List.setIfInBounds_toArray, List.set_cons_zero, List.set_cons_succ]
  refine wpAnyH_take (i := 3) (oi := { dst := Option.some 47, op := Go.Op.move (Go.Operand.tmp 46), type := 4, pos := "law.go:37", after := #[{ on := 2, ground := Go.Ground.data }, { on := 1, ground := Go.Ground.chain }], guard := Option.none }) (v := ?_) rfl (by kernel_rfl) (by kernel_rfl) (by kernel_rfl) (fun _ _ _ h => h) (Or.inl ⟨by rfl, ?_⟩) (by assumption) ?_
  rotate_left
  · intro w hSw; (try dsimp only at hSw); go_simp; (try with_reducible rfl)
  simp only [Act.put, List.setIfInBounds_toArray, List.set_cons_zero, List.set_cons_succ]
  refine wpAnyH_take (i := 4) (oi := { dst := Option.some 48, op := Go.Op.load 72 (Go.Operand.tmp 5), type := 72, pos := "law.go:37", after := #[{ on := 3, ground := Go.Ground.guard }], guard := Option.some (3, Bool.true) }) rfl (by kernel_rfl) (by kernel_rfl) (by kernel_rfl) (fun _ _ _ h => h) (yieldsIf_load_mid (by rfl) 72 _ rfl BX 0 rfl (sv s) _ (fun W hW => (X_11.out.step (Mv.of_below hW)).now.r) Tryd.underlying72 rfl (szof_sp HSL.out)) (by assumption) ?_
  simp only [Act.put, List.setIfInBounds_toArray, List.set_cons_zero, List.set_cons_succ]
  refine wpAnyH_take (i := 6) (oi := { dst := Option.some 50, op := Go.Op.load 68 (Go.Operand.tmp 1), type := 68, pos := "law.go:37", after := #[{ on := 3, ground := Go.Ground.guard }], guard := Option.some (3, Bool.true) }) rfl (by kernel_rfl) (by kernel_rfl) (by kernel_rfl) (fun _ _ _ h => h) (yieldsIf_load_mid (by rfl) 68 _ rfl BA 0 rfl (sv s) _ (fun W hW => (A_11.out.step (Mv.of_below hW)).now.r) Tryd.underlying68 rfl (szof_rp HSL.out)) (by assumption) ?_
  simp only [Act.put, List.setIfInBounds_toArray, List.set_cons_zero, List.set_cons_succ]
  refine wpAnyH_ready (rs := [5]) (by kernel_rfl) (by simp) ?_
  refine AllReadyH.cons (o := { dst := Option.some 49, op := Go.Op.call { callee := Go.Callee.value (Go.Operand.func 46), args := #[Go.Operand.tmp 48], argTypes := #[72] }, type := 68, pos := "law.go:37", after := #[{ on := 4, ground := Go.Ground.data }, { on := 3, ground := Go.Ground.chain }, { on := 3, ground := Go.Ground.guard }], guard := Option.some (3, Bool.true) }) rfl (fun K hK => ?_) AllReadyH.nil
  go_simp
  refine (HPL.out _).mono ?_
  rintro e w10 ⟨rfl, hb⟩
  have hKF2 : KF w8 w10 := KF.step hKF1 hb
  clear hb
  dsimp only
  refine hK.out _ _ (HSx.out _ hKF2) (fun hHeld2 => ?_)
  clear hK K
  try simp only [Act.put, List.setIfInBounds_toArray, List.set_cons_zero, List.set_cons_succ]
  refine wpAnyH_take (i := 7) (oi := { dst := Option.some 51, op := Go.Op.binOp Go.BinOp.eql 68 (Go.Operand.tmp 49) (Go.Operand.tmp 50) 68, type := 4, pos := "law.go:37", after := #[{ on := 5, ground := Go.Ground.data }, { on := 6, ground := Go.Ground.data }, { on := 3, ground := Go.Ground.guard }], guard := Option.some (3, Bool.true) }) rfl (by kernel_rfl) (by kernel_rfl) (by kernel_rfl) (fun _ _ _ h => h) (yif_eq_rp (by rfl) _ _ rfl s s rfl rfl HSL.out HSL.out) (by assumption) ?_
  simp only [Act.put, List.setIfInBounds_toArray, List.set_cons_zero, List.set_cons_succ]
  rw [hse]
  refine wpAnyH_take (i := 8) (oi := { dst := Option.some 52, op := Go.Op.pick (Go.Operand.tmp 47) (Go.Operand.tmp 51) (Go.Operand.const (Go.Value.bool Bool.false)), type := 4, pos := "law.go:37", after := #[{ on := 3, ground := Go.Ground.data }, { on := 7, ground := Go.Ground.data }], guard := Option.none }) (v := ?_) rfl (by kernel_rfl) (by kernel_rfl) (by kernel_rfl) (fun _ _ _ h => h) (Or.inl ⟨by rfl, ?_⟩) (by assumption) ?_
  rotate_left
  · intro w hSw; (try dsimp only at hSw); go_simp; (try with_reducible rfl)
  simp only [Act.put, List.setIfInBounds_toArray, List.set_cons_zero, List.set_cons_succ]
  refine wpAnyH_take (i := 9) (oi := { dst := Option.some 53, op := Go.Op.move (Go.Operand.tmp 52), type := 4, pos := "law.go:37", after := #[{ on := 8, ground := Go.Ground.data }, { on := 5, ground := Go.Ground.chain }], guard := Option.none }) (v := ?_) rfl (by kernel_rfl) (by kernel_rfl) (by kernel_rfl) (fun _ _ _ h => h) (Or.inl ⟨by rfl, ?_⟩) (by assumption) ?_
  rotate_left
  · intro w hSw; (try dsimp only at hSw); go_simp; (try with_reducible rfl)
  simp only [Act.put, List.setIfInBounds_toArray, List.set_cons_zero, List.set_cons_succ]
  refine wpAnyH_take (i := 10) (oi := { dst := Option.some 54, op := Go.Op.load 72 (Go.Operand.tmp 5), type := 72, pos := "law.go:37", after := #[{ on := 9, ground := Go.Ground.guard }], guard := Option.some (9, Bool.true) }) rfl (by kernel_rfl) (by kernel_rfl) (by kernel_rfl) (fun _ _ _ h => h) (yieldsIf_load_mid (by rfl) 72 _ rfl BX 0 rfl (sv s) _ (fun W hW => (X_11.out.step (Mv.of_below hW)).now.r) Tryd.underlying72 rfl (szof_sp HSL.out)) (by assumption) ?_
  simp only [Act.put, List.setIfInBounds_toArray, List.set_cons_zero, List.set_cons_succ]
  refine wpAnyH_ready (rs := [11]) (by kernel_rfl) (by simp) ?_
  refine AllReadyH.cons (o := { dst := Option.some 55, op := Go.Op.call { callee := Go.Callee.value (Go.Operand.func 44), args := #[Go.Operand.tmp 54], argTypes := #[72] }, type := 4, pos := "law.go:37", after := #[{ on := 10, ground := Go.Ground.data }, { on := 9, ground := Go.Ground.chain }, { on := 9, ground := Go.Ground.guard }], guard := Option.some (9, Bool.true) }) rfl (fun K hK => ?_) AllReadyH.nil
  go_simp
  refine (HRT.out _).mono ?_
  rintro e w11 ⟨rfl, hb⟩
  have hKF3 : KF w8 w11 := KF.step hKF2 hb
  clear hb
  dsimp only
  refine hK.out _ _ (HSx.out _ hKF3) (fun hHeld3 => ?_)
  clear hK K
  try simp only [Act.put, List.setIfInBounds_toArray, List.set_cons_zero, List.set_cons_succ]
  refine wpAnyH_take (i := 12) (oi := { dst := Option.some 56, op := Go.Op.pick (Go.Operand.tmp 53) (Go.Operand.tmp 55) (Go.Operand.const (Go.Value.bool Bool.false)), type := 4, pos := "law.go:37", after := #[{ on := 9, ground := Go.Ground.data }, { on := 11, ground := Go.Ground.data }], guard := Option.none }) (v := ?_) rfl (by kernel_rfl) (by kernel_rfl) (by kernel_rfl) (fun _ _ _ h => h) (Or.inl ⟨by rfl, ?_⟩) (by assumption) ?_
  rotate_left
  · intro w hSw; (try dsimp only at hSw); go_simp; (try with_reducible rfl)
  simp only [Act.put, List.setIfInBounds_toArray, List.set_cons_zero, List.set_cons_succ]
  refine wpAnyH_take (i := 13) (oi := { dst := Option.some 57, op := Go.Op.move (Go.Operand.tmp 56), type := 4, pos := "law.go:37", after := #[{ on := 12, ground := Go.Ground.data }, { on := 11, ground := Go.Ground.chain }], guard := Option.none }) (v := ?_) rfl (by kernel_rfl) (by kernel_rfl) (by kernel_rfl) (fun _ _ _ h => h) (Or.inl ⟨by rfl, ?_⟩) (by assumption) ?_
  rotate_left
  · intro w hSw; (try dsimp only at hSw); go_simp; (try with_reducible rfl)
  simp only [Act.put, List.setIfInBounds_toArray, List.set_cons_zero, List.set_cons_succ]
  refine wpAnyH_take (i := 14) (oi := { dst := Option.some 58, op := Go.Op.move (Go.Operand.tmp 8), type := 26, pos := "law.go:37", after := #[{ on := 13, ground := Go.Ground.guard }], guard := Option.some (13, Bool.true) }) (v := ?_) rfl (by kernel_rfl) (by kernel_rfl) (by kernel_rfl) (fun _ _ _ h => h) (Or.inl ⟨by rfl, ?_⟩) (by assumption) ?_
  rotate_left
  · intro w hSw; (try dsimp only at hSw); go_simp; (try with_reducible rfl)
  simp only [Act.put, List.setIfInBounds_toArray, List.set_cons_zero, List.set_cons_succ]
  refine wpAnyH_ready (rs := [15]) (by kernel_rfl) (by simp) ?_
  refine AllReadyH.cons (o := { dst := Option.some 59, op := Go.Op.call { callee := Go.Callee.value (Go.Operand.func 21), args := #[Go.Operand.tmp 58], argTypes := #[26] }, type := 3, pos := "law.go:37", after := #[{ on := 14, ground := Go.Ground.data }, { on := 13, ground := Go.Ground.chain }, { on := 13, ground := Go.Ground.guard }], guard := Option.some (13, Bool.true) }) rfl (fun K hK => ?_) AllReadyH.nil
  go_simp
  refine (Num_c _ v2 2 (E2_11.out.step (Mv.of_below hKF3)).now (T_11.out.step (Mv.of_below hKF3)).now).mono ?_
  rintro e w12 ⟨rfl, hb⟩
  have hKF4 : KF w8 w12 := KF.step hKF3 hb
  clear hb
  dsimp only
  refine hK.out _ _ (HSx.out _ hKF4) (fun hHeld4 => ?_)
  clear hK K
  try simp only [Act.put, List.setIfInBounds_toArray, List.set_cons_zero, List.set_cons_succ]
  refine wpAnyH_take (i := 16) (oi := { dst := Option.some 60, op := Go.Op.binOp Go.BinOp.eql 3 (Go.Operand.tmp 59) (Go.Operand.const (Go.Value.int Go.IntKind.i64 2)) 3, type := 4, pos := "law.go:37", after := #[{ on := 15, ground := Go.Ground.data }, { on := 13, ground := Go.Ground.guard }], guard := Option.some (13, Bool.true) }) (v := ?_) rfl (by kernel_rfl) (by kernel_rfl) (by kernel_rfl) (fun _ _ _ h => h) (Or.inl ⟨by rfl, ?_⟩) (by assumption) ?_
  rotate_left
  · intro w hSw; (try dsimp only at hSw); go_simp; (try with_reducible rfl)
  simp only [Act.put, List.setIfInBounds_toArray, List.set_cons_zero, List.set_cons_succ]
  refine wpAnyH_take (i := 17) (oi := { dst := Option.some 61, op := Go.Op.pick (Go.Operand.tmp 57) (Go.Operand.tmp 60) (Go.Operand.const (Go.Value.bool Bool.false)), type := 4, pos := "law.go:37", after := #[{ on := 13, ground := Go.Ground.data }, { on := 16, ground := Go.Ground.data }], guard := Option.none }) (v := ?_) rfl (by kernel_rfl) (by kernel_rfl) (by kernel_rfl) (fun _ _ _ h => h) (Or.inl ⟨by rfl, ?_⟩) (by assumption) ?_
  rotate_left
  · intro w hSw; (try dsimp only at hSw); go_simp; (try with_reducible rfl)
  simp only [Act.put, List.setIfInBounds_toArray, List.set_cons_zero, List.set_cons_succ]
  refine wpAnyH_take (i := 18) (oi := { dst := Option.some 2, op := Go.Op.assign (Go.Operand.tmp 61), type := 4, pos := "law.go:37", after := #[{ on := 17, ground := Go.Ground.data }, { on := 15, ground := Go.Ground.chain }, { on := 0, ground := Go.Ground.phase }, { on := 1, ground := Go.Ground.phase }, { on := 2, ground := Go.Ground.phase }, { on := 3, ground := Go.Ground.phase }, { on := 4, ground := Go.Ground.phase }, { on := 5, ground := Go.Ground.phase }, { on := 6, ground := Go.Ground.phase }, { on := 7, ground := Go.Ground.phase }, { on := 8, ground := Go.Ground.phase }, { on := 9, ground := Go.Ground.phase }, { on := 10, ground := Go.Ground.phase }, { on := 11, ground := Go.Ground.phase }, { on := 12, ground := Go.Ground.phase }, { on := 13, ground := Go.Ground.phase }, { on := 14, ground := Go.Ground.phase }, { on := 15, ground := Go.Ground.phase }, { on := 16, ground := Go.Ground.phase }, { on := 17, ground := Go.Ground.phase }], guard := Option.none }) (v := ?_) rfl (by kernel_rfl) (by kernel_rfl) (by kernel_rfl) (fun _ _ _ h => h) (Or.inl ⟨by rfl, ?_⟩) (by assumption) ?_
  rotate_left
  · intro w hSw; (try dsimp only at hSw); go_simp; (try with_reducible rfl)
  simp only [Act.put, List.setIfInBounds_toArray, List.set_cons_zero, List.set_cons_succ]
  refine wpAnyH_done (by kernel_rfl) ?_ _
  have hbm : Below w8.heap.size w8 w12 := hKF4
  have hm : Mv No No w8 w12 := Mv.of_below hbm
  have T_13 := Lib.hid (T_11.out.step hm)
  clear T_11
  have A_13 := Lib.hid (A_11.out.step hm)
  clear A_11
  have X_13 := Lib.hid (X_11.out.step hm)
  clear X_11
  have E2_13 := Lib.hid (E2_11.out.step hm)
  clear E2_11
  have HM_13 := Lib.hid (HM_11.out.trans hm)
  clear HM_11
  have WI_13 := Lib.hid (WI_11.out.mono hm.size)
  clear WI_11
  clear hm
  clear hbm HSx hKF0 hKF1 hKF2 hKF3 hKF4
  go_wp2_with fail
  go_ret
  exact ⟨rfl, HM_13.out.below⟩
theorem sback_walk (s : Sup) (w : World) (q : s.u.length = 30 ∧ 0 ≤ s.g ∧ s.g ≤ 4294967295) (tied : Tied w) : Calls Tryd.prog 9 #[.agg (sv s).toArray] w fun e w' => e = .returned (.bool true) ∧ Below w.heap.size w w' := by
  cases hr : rightB s
  · exact sback_no s ⟨q.1, q.2.1, q.2.2⟩ hr w tied
  · exact sback_ok s ⟨q.1, q.2.1, q.2.2⟩ hr w tied
set_option maxHeartbeats 4000000 in
set_option maxRecDepth 100000 in
theorem splays_big (s : Sup) (hf : s.Fits) (d : ByteArray) (h : 200 < d.size) (w : World) (tied : Tied w) : Calls Tryd.prog 10 #[.agg (sv s).toArray, .string d] w fun e w' => e = .returned (.bool true) ∧ Below w.heap.size w w' := by
  have HSL := Lib.hid hf.l
  have hd : decide (200 < (d.size : Int)) = true := by simp; omega
  clear h hf
  have HM0 := Lib.hid (Mv.refl No w)
  have T0 := Lib.hid (Stays.tied tied)
  have WI0 := Lib.hid (Wi.no w)
  clear tied
  go_enter Tryd.func10, Tryd.ntmps10
  go_upto_region 1 with fail
  obtain ⟨w1, hw1⟩ : ∃ q, q = w.alloc (.cells (sv (s)).toArray 68) := ⟨_, rfl⟩
  try rw [← hw1]
  have hbm : Below w.heap.size w w1 := by rw [hw1]; exact (Below.refl _ _).alloc (Nat.le_refl _) _
  have hm : Mv No No w w1 := Mv.of_below hbm
  have hbx : Stays No w1 (fun W => SupAt W w.heap.size (s)) := Stays.boxS HSL.out WI0.out hw1
  have hsz1 : w1.heap.size = w.heap.size + 1 := by rw [hw1]; simp
  obtain ⟨BA, hBA⟩ : ∃ q, q = w.heap.size := ⟨_, rfl⟩
  try rw [← hBA]
  rw [← hBA] at hbx hsz1
  have T_1 := Lib.hid (T0.out.step hm)
  clear T0
  have HM_1 := Lib.hid (HM0.out.trans hm)
  clear HM0
  have WI_1 := Lib.hid (WI0.out.mono hm.size)
  clear WI0
  clear hm
  clear hbm hw1 hBA
  have A_2 := Lib.hid (hbx)
  clear hbx
  clear hsz1
  go_wp2_with fail
  refine (awake7 _ T_1.out.now).mono ?_
  rintro e w2 ⟨rfl, hb⟩
  have hbm : Below w1.heap.size w1 w2 := hb
  clear hb
  have hm : Mv No No w1 w2 := Mv.of_below hbm
  have T_3 := Lib.hid (T_1.out.step hm)
  clear T_1
  have A_3 := Lib.hid (A_2.out.step hm)
  clear A_2
  have HM_3 := Lib.hid (HM_1.out.trans hm)
  clear HM_1
  have WI_3 := Lib.hid (WI_1.out.mono hm.size)
  clear WI_1
  clear hm
  clear hbm
  go_wp2_with fail
  refine (awake7 _ T_3.out.now).mono ?_
  rintro e w3 ⟨rfl, hb⟩
  have hbm : Below w2.heap.size w2 w3 := hb
  clear hb
  have hm : Mv No No w2 w3 := Mv.of_below hbm
  have T_4 := Lib.hid (T_3.out.step hm)
  clear T_3
  have A_4 := Lib.hid (A_3.out.step hm)
  clear A_3
  have HM_4 := Lib.hid (HM_3.out.trans hm)
  clear HM_3
  have WI_4 := Lib.hid (WI_3.out.mono hm.size)
  clear WI_3
  clear hm
  clear hbm
  go_wp2_with fail
  go_ret
  exact ⟨rfl, HM_4.out.below⟩
set_option maxHeartbeats 8000000 in
set_option maxRecDepth 100000 in
theorem splays_ff (s : Sup) (hf : s.Fits) (d : ByteArray) (h0 : d.size ≤ 200) (hr : rightB s = false) (ho : okU d = false) (w : World) (tied : Tied w) : Calls Tryd.prog 10 #[.agg (sv s).toArray, .string d] w fun e w' => e = .returned (.bool true) ∧ Below w.heap.size w w' := by
  have HSL := Lib.hid hf.l
  have hd : decide (200 < (d.size : Int)) = false := by simp; omega
  have HRT := Lib.hid (fun w => right_any s hf.l w)
  have HRR := Lib.hid (fun w => rright_any s hf.l hf.g0 w)
  rw [hr] at HRT HRR
  have HLY := Lib.hid (fun w => slay_no s hf.l hr w)
  have HSR := Lib.hid (fun w => sread_any d w)
  have HRD := Lib.hid (fun w => rread_sup d w)
  rw [ho] at HSR HRD
  rw [if_neg (by decide)] at HSR
  have hul := (readU_fits d).l
  obtain ⟨x, hx⟩ : ∃ q, q = readU d := ⟨_, rfl⟩
  rw [← hx] at HSR HRD hul
  have HXL := Lib.hid hul
  have HPL := Lib.hid (fun w => plain_any x hul w)
  have hse := supE_self x
  clear hf hr ho hx hul h0
  have HM0 := Lib.hid (Mv.refl No w)
  have T0 := Lib.hid (Stays.tied tied)
  have WI0 := Lib.hid (Wi.no w)
  clear tied
  go_enter Tryd.func10, Tryd.ntmps10
  go_upto_region 1 with fail
  obtain ⟨w1, hw1⟩ : ∃ q, q = w.alloc (.cells (sv (s)).toArray 68) := ⟨_, rfl⟩
  try rw [← hw1]
  have hbm : Below w.heap.size w w1 := by rw [hw1]; exact (Below.refl _ _).alloc (Nat.le_refl _) _
  have hm : Mv No No w w1 := Mv.of_below hbm
  have hbx : Stays No w1 (fun W => SupAt W w.heap.size (s)) := Stays.boxS HSL.out WI0.out hw1
  have hsz1 : w1.heap.size = w.heap.size + 1 := by rw [hw1]; simp
  obtain ⟨BA, hBA⟩ : ∃ q, q = w.heap.size := ⟨_, rfl⟩
  try rw [← hBA]
  rw [← hBA] at hbx hsz1
  have T_1 := Lib.hid (T0.out.step hm)
  clear T0
  have HM_1 := Lib.hid (HM0.out.trans hm)
  clear HM0
  have WI_1 := Lib.hid (WI0.out.mono hm.size)
  clear WI0
  clear hm
  clear hbm hw1 hBA
  have A_2 := Lib.hid (hbx)
  clear hbx
  clear hsz1
  go_wp2_with fail
  refine (awake7 _ T_1.out.now).mono ?_
  rintro e w2 ⟨rfl, hb⟩
  have hbm : Below w1.heap.size w1 w2 := hb
  clear hb
  have hm : Mv No No w1 w2 := Mv.of_below hbm
  have T_3 := Lib.hid (T_1.out.step hm)
  clear T_1
  have A_3 := Lib.hid (A_2.out.step hm)
  clear A_2
  have HM_3 := Lib.hid (HM_1.out.trans hm)
  clear HM_1
  have WI_3 := Lib.hid (WI_1.out.mono hm.size)
  clear WI_1
  clear hm
  clear hbm
  go_wp2_with (first | ((with_reducible refine at_ld 68 (.tmp 2) ?_); refine ld_rp rfl _ rfl BA (0) rfl s ?_ ?_ ?_; exact HSL.out; exact (A_3.out.now).r))
  refine (of_any s HSL.out _).mono ?_
  rintro e w3 ⟨rfl, hb⟩
  have hbm : Below w2.heap.size w2 w3 := hb
  clear hb
  have hm : Mv No No w2 w3 := Mv.of_below hbm
  have T_4 := Lib.hid (T_3.out.step hm)
  clear T_3
  have A_4 := Lib.hid (A_3.out.step hm)
  clear A_3
  have HM_4 := Lib.hid (HM_3.out.trans hm)
  clear HM_3
  have WI_4 := Lib.hid (WI_3.out.mono hm.size)
  clear WI_3
  clear hm
  clear hbm
  go_wp2_with fail
  refine (HLY.out _).mono ?_
  rintro e w4 ⟨v1, rfl, he, hb⟩
  have hbm : Below w3.heap.size w3 w4 := hb
  clear hb
  have hm : Mv No No w3 w4 := Mv.of_below hbm
  have hst := Stays.err he WI_4.out
  clear he
  have T_5 := Lib.hid (T_4.out.step hm)
  clear T_4
  have A_5 := Lib.hid (A_4.out.step hm)
  clear A_4
  have HM_5 := Lib.hid (HM_4.out.trans hm)
  clear HM_4
  have WI_5 := Lib.hid (WI_4.out.mono hm.size)
  clear WI_4
  clear hm
  clear hbm
  have E1_6 := Lib.hid (hst)
  clear hst
  go_wp2_with (first | ((with_reducible refine at_ld 68 (.tmp 2) ?_); refine ld_rp rfl _ rfl BA (0) rfl s ?_ ?_ ?_; exact HSL.out; exact (A_5.out.now).r))
  refine (HRR.out _).mono ?_
  rintro e w5 ⟨rfl, hb⟩
  have hbm : Below w4.heap.size w4 w5 := hb
  clear hb
  have hm : Mv No No w4 w5 := Mv.of_below hbm
  have T_7 := Lib.hid (T_5.out.step hm)
  clear T_5
  have A_7 := Lib.hid (A_5.out.step hm)
  clear A_5
  have E1_7 := Lib.hid (E1_6.out.step hm)
  clear E1_6
  have HM_7 := Lib.hid (HM_5.out.trans hm)
  clear HM_5
  have WI_7 := Lib.hid (WI_5.out.mono hm.size)
  clear WI_5
  clear hm
  clear hbm
  go_wp2_with (first | ((with_reducible refine at_ld 68 (.tmp 2) ?_); refine ld_rp rfl _ rfl BA (0) rfl s ?_ ?_ ?_; exact HSL.out; exact (A_7.out.now).r))
  refine (of_any s HSL.out _).mono ?_
  rintro e w6 ⟨rfl, hb⟩
  have hbm : Below w5.heap.size w5 w6 := hb
  clear hb
  have hm : Mv No No w5 w6 := Mv.of_below hbm
  have T_8 := Lib.hid (T_7.out.step hm)
  clear T_7
  have A_8 := Lib.hid (A_7.out.step hm)
  clear A_7
  have E1_8 := Lib.hid (E1_7.out.step hm)
  clear E1_7
  have HM_8 := Lib.hid (HM_7.out.trans hm)
  clear HM_7
  have WI_8 := Lib.hid (WI_7.out.mono hm.size)
  clear WI_7
  clear hm
  clear hbm
  go_wp2_with fail
  refine (HRT.out _).mono ?_
  rintro e w7 ⟨rfl, hb⟩
  have hbm : Below w6.heap.size w6 w7 := hb
  clear hb
  have hm : Mv No No w6 w7 := Mv.of_below hbm
  have T_9 := Lib.hid (T_8.out.step hm)
  clear T_8
  have A_9 := Lib.hid (A_8.out.step hm)
  clear A_8
  have E1_9 := Lib.hid (E1_8.out.step hm)
  clear E1_8
  have HM_9 := Lib.hid (HM_8.out.trans hm)
  clear HM_8
  have WI_9 := Lib.hid (WI_8.out.mono hm.size)
  clear WI_8
  clear hm
  clear hbm
  go_wp2_with fail
  refine (Num_c _ v1 1 E1_9.out.now T_9.out.now).mono ?_
  rintro e w8 ⟨rfl, hb⟩
  have hbm : Below w7.heap.size w7 w8 := hb
  clear hb
  have hm : Mv No No w7 w8 := Mv.of_below hbm
  have T_10 := Lib.hid (T_9.out.step hm)
  clear T_9
  have A_10 := Lib.hid (A_9.out.step hm)
  clear A_9
  have E1_10 := Lib.hid (E1_9.out.step hm)
  clear E1_9
  have HM_10 := Lib.hid (HM_9.out.trans hm)
  clear HM_9
  have WI_10 := Lib.hid (WI_9.out.mono hm.size)
  clear WI_9
  clear hm
  clear hbm
  go_wp2_with fail
  refine (HSR.out _).mono ?_
  rintro e w9 ⟨v2, rfl, he, hb⟩
  have hbm : Below w8.heap.size w8 w9 := hb
  clear hb
  have hm : Mv No No w8 w9 := Mv.of_below hbm
  have hst := Stays.err he WI_10.out
  clear he
  have T_11 := Lib.hid (T_10.out.step hm)
  clear T_10
  have A_11 := Lib.hid (A_10.out.step hm)
  clear A_10
  have E1_11 := Lib.hid (E1_10.out.step hm)
  clear E1_10
  have HM_11 := Lib.hid (HM_10.out.trans hm)
  clear HM_10
  have WI_11 := Lib.hid (WI_10.out.mono hm.size)
  clear WI_10
  clear hm
  clear hbm
  have E2_12 := Lib.hid (hst)
  clear hst
  go_wp2_with (first | ((with_reducible refine at_al 72 ?_); refine al_sp rfl rfl ?_) | ((with_reducible refine at_st 72 (.tmp 8) (.tmp 52) ?_); refine stn_sp rfl _ _ rfl _ _ _ rfl rfl x ?_ rfl ?_ ?_; exact HXL.out; exact ssz))
  obtain ⟨w10, hw10⟩ : ∃ q, q = w9.alloc (.cells (sv (x)).toArray 72) := ⟨_, rfl⟩
  try rw [← hw10]
  have hbm : Below w9.heap.size w9 w10 := by rw [hw10]; exact (Below.refl _ _).alloc (Nat.le_refl _) _
  have hm : Mv No No w9 w10 := Mv.of_below hbm
  have hbx : Stays No w10 (fun W => SupAt W w9.heap.size (x)) := Stays.boxS HXL.out WI_11.out hw10
  have hsz10 : w10.heap.size = w9.heap.size + 1 := by rw [hw10]; simp
  obtain ⟨BX, hBX⟩ : ∃ q, q = w9.heap.size := ⟨_, rfl⟩
  try rw [← hBX]
  rw [← hBX] at hbx hsz10
  have T_13 := Lib.hid (T_11.out.step hm)
  clear T_11
  have A_13 := Lib.hid (A_11.out.step hm)
  clear A_11
  have E1_13 := Lib.hid (E1_11.out.step hm)
  clear E1_11
  have E2_13 := Lib.hid (E2_12.out.step hm)
  clear E2_12
  have HM_13 := Lib.hid (HM_11.out.trans hm)
  clear HM_11
  have WI_13 := Lib.hid (WI_11.out.mono hm.size)
  clear WI_11
  clear hm
  clear hbm hw10 hBX
  have X_14 := Lib.hid (hbx)
  clear hbx
  clear hsz10
  refine (HRD.out _).mono ?_
  rintro e w11 ⟨rfl, hb⟩
  have hbm : Below w10.heap.size w10 w11 := hb
  clear hb
  have hm : Mv No No w10 w11 := Mv.of_below hbm
  have T_15 := Lib.hid (T_13.out.step hm)
  clear T_13
  have A_15 := Lib.hid (A_13.out.step hm)
  clear A_13
  have E1_15 := Lib.hid (E1_13.out.step hm)
  clear E1_13
  have E2_15 := Lib.hid (E2_13.out.step hm)
  clear E2_13
  have X_15 := Lib.hid (X_14.out.step hm)
  clear X_14
  have HM_15 := Lib.hid (HM_13.out.trans hm)
  clear HM_13
  have WI_15 := Lib.hid (WI_13.out.mono hm.size)
  clear WI_13
  clear hm
  clear hbm
  go_wp2_with (first | ((with_reducible refine at_al 68 ?_); refine al_rp rfl rfl ?_) | ((with_reducible refine at_st 68 (.tmp 10) (.tmp 57) ?_); refine stn_rp rfl _ _ rfl _ _ _ rfl rfl x ?_ rfl ?_ ?_; exact HXL.out; exact ssz))
  obtain ⟨w12, hw12⟩ : ∃ q, q = w11.alloc (.cells (sv (x)).toArray 68) := ⟨_, rfl⟩
  try rw [← hw12]
  have hbm : Below w11.heap.size w11 w12 := by rw [hw12]; exact (Below.refl _ _).alloc (Nat.le_refl _) _
  have hm : Mv No No w11 w12 := Mv.of_below hbm
  have hbx : Stays No w12 (fun W => SupAt W w11.heap.size (x)) := Stays.boxS HXL.out WI_15.out hw12
  have hsz12 : w12.heap.size = w11.heap.size + 1 := by rw [hw12]; simp
  obtain ⟨BY, hBY⟩ : ∃ q, q = w11.heap.size := ⟨_, rfl⟩
  try rw [← hBY]
  rw [← hBY] at hbx hsz12
  have T_16 := Lib.hid (T_15.out.step hm)
  clear T_15
  have A_16 := Lib.hid (A_15.out.step hm)
  clear A_15
  have E1_16 := Lib.hid (E1_15.out.step hm)
  clear E1_15
  have E2_16 := Lib.hid (E2_15.out.step hm)
  clear E2_15
  have X_16 := Lib.hid (X_15.out.step hm)
  clear X_15
  have HM_16 := Lib.hid (HM_15.out.trans hm)
  clear HM_15
  have WI_16 := Lib.hid (WI_15.out.mono hm.size)
  clear WI_15
  clear hm
  clear hbm hw12 hBY
  have Y_17 := Lib.hid (hbx)
  clear hbx
  clear hsz12
  have HSx : Hid (∀ wz, KF w12 wz → (fun wz => KF w12 wz) wz) := Lib.hid (fun wz h => h)
  refine wp_region_held_drew (S := fun wz => KF w12 wz) (by kernel_rfl) ?_ (fun hHeld => ?_)
  · exact HSx.out _ (KF.drew (KF.refl _))
  have hKF0 : KF w12 w12.drew := KF.drew (KF.refl _)
  refine wpAnyH_take (i := 0) (oi := { dst := Option.some 59, op := Go.Op.load 72 (Go.Operand.tmp 8), type := 72, pos := "law.go:52", after := #[], guard := Option.none }) rfl (by kernel_rfl) (by kernel_rfl) (by kernel_rfl) (fun _ _ _ h => h) (yieldsIf_load_mid (by rfl) 72 _ rfl BX 0 rfl (sv x) _ (fun W hW => (X_16.out.step (Mv.of_below hW)).now.r) Tryd.underlying72 rfl (szof_sp HXL.out)) (by assumption) ?_
  simp only [Act.put, List.setIfInBounds_toArray, List.set_cons_zero, List.set_cons_succ]
  refine wpAnyH_take (i := 2) (oi := { dst := Option.some 61, op := Go.Op.load 68 (Go.Operand.tmp 10), type := 68, pos := "law.go:52", after := #[], guard := Option.none }) rfl (by kernel_rfl) (by kernel_rfl) (by kernel_rfl) (fun _ _ _ h => h) (yieldsIf_load_mid (by rfl) 68 _ rfl BY 0 rfl (sv x) _ (fun W hW => (Y_17.out.step (Mv.of_below hW)).now.r) Tryd.underlying68 rfl (szof_rp HXL.out)) (by assumption) ?_
  simp only [Act.put, List.setIfInBounds_toArray, List.set_cons_zero, List.set_cons_succ]
  refine wpAnyH_ready (rs := [1]) (by kernel_rfl) (by simp) ?_
  refine AllReadyH.cons (o := { dst := Option.some 60, op := Go.Op.call { callee := Go.Callee.value (Go.Operand.func 46), args := #[Go.Operand.tmp 59], argTypes := #[72] }, type := 68, pos := "law.go:52", after := #[{ on := 0, ground := Go.Ground.data }], guard := Option.none }) rfl (fun K hK => ?_) AllReadyH.nil
  go_simp
  refine (HPL.out _).mono ?_
  rintro e w13 ⟨rfl, hb⟩
  have hKF1 : KF w12 w13 := KF.step hKF0 hb
  clear hb
  dsimp only
  refine hK.out _ _ (HSx.out _ hKF1) (fun hHeld1 => ?_)
  clear hK K
  try simp only [Act.put, List.setIfInBounds_toArray, List.set_cons_zero, List.set_cons_succ]
  refine wpAnyH_take (i := 3) (oi := { dst := Option.some 62, op := Go.Op.binOp Go.BinOp.eql 68 (Go.Operand.tmp 60) (Go.Operand.tmp 61) 68, type := 4, pos := "law.go:52", after := #[{ on := 1, ground := Go.Ground.data }, { on := 2, ground := Go.Ground.data }], guard := Option.none }) rfl (by kernel_rfl) (by kernel_rfl) (by kernel_rfl) (fun _ _ _ h => h) (yif_eq_rp (by rfl) _ _ rfl x x rfl rfl HXL.out HXL.out) (by assumption) ?_
  simp only [Act.put, List.setIfInBounds_toArray, List.set_cons_zero, List.set_cons_succ]
  rw [hse]
  refine wpAnyH_take (i := 4) (oi := { dst := Option.some 63, op := Go.Op.move (Go.Operand.tmp 62), type := 4, pos := "law.go:52", after := #[{ on := 3, ground := Go.Ground.data }, { on := 1, ground := Go.Ground.chain }], guard := Option.none }) (v := ?_) rfl (by kernel_rfl) (by kernel_rfl) (by kernel_rfl) (fun _ _ _ h => h) (Or.inl ⟨by rfl, ?_⟩) (by assumption) ?_
  rotate_left
  · intro w hSw; (try dsimp only at hSw); go_simp; (try with_reducible rfl)
  simp only [Act.put, List.setIfInBounds_toArray, List.set_cons_zero, List.set_cons_succ]
  refine wpAnyH_take (i := 5) (oi := { dst := Option.some 64, op := Go.Op.move (Go.Operand.tmp 11), type := 4, pos := "law.go:52", after := #[{ on := 4, ground := Go.Ground.guard }], guard := Option.some (4, Bool.true) }) (v := ?_) rfl (by kernel_rfl) (by kernel_rfl) (by kernel_rfl) (fun _ _ _ h => h) (Or.inl ⟨by rfl, ?_⟩) (by assumption) ?_
  rotate_left
  · intro w hSw; (try dsimp only at hSw); go_simp; (try with_reducible rfl)
  simp only [Act.put, List.setIfInBounds_toArray, List.set_cons_zero, List.set_cons_succ]
  refine wpAnyH_take (i := 6) (oi := { dst := Option.some 65, op := Go.Op.move (Go.Operand.tmp 9), type := 26, pos := "law.go:52", after := #[{ on := 4, ground := Go.Ground.guard }], guard := Option.some (4, Bool.true) }) (v := ?_) rfl (by kernel_rfl) (by kernel_rfl) (by kernel_rfl) (fun _ _ _ h => h) (Or.inl ⟨by rfl, ?_⟩) (by assumption) ?_
  rotate_left
  · intro w hSw; (try dsimp only at hSw); go_simp; (try with_reducible rfl)
  simp only [Act.put, List.setIfInBounds_toArray, List.set_cons_zero, List.set_cons_succ]
  refine wpAnyH_ready (rs := [7]) (by kernel_rfl) (by simp) ?_
  refine AllReadyH.cons (o := { dst := Option.some 66, op := Go.Op.call { callee := Go.Callee.value (Go.Operand.func 21), args := #[Go.Operand.tmp 65], argTypes := #[26] }, type := 3, pos := "law.go:52", after := #[{ on := 6, ground := Go.Ground.data }, { on := 4, ground := Go.Ground.chain }, { on := 4, ground := Go.Ground.guard }], guard := Option.some (4, Bool.true) }) rfl (fun K hK => ?_) AllReadyH.nil
  go_simp
  refine (Num_c _ v2 2 (E2_16.out.step (Mv.of_below hKF1)).now (T_16.out.step (Mv.of_below hKF1)).now).mono ?_
  rintro e w14 ⟨rfl, hb⟩
  have hKF2 : KF w12 w14 := KF.step hKF1 hb
  clear hb
  dsimp only
  refine hK.out _ _ (HSx.out _ hKF2) (fun hHeld2 => ?_)
  clear hK K
  try simp only [Act.put, List.setIfInBounds_toArray, List.set_cons_zero, List.set_cons_succ]
  refine wpAnyH_take (i := 8) (oi := { dst := Option.some 67, op := Go.Op.binOp Go.BinOp.eql 3 (Go.Operand.tmp 66) (Go.Operand.const (Go.Value.int Go.IntKind.i64 0)) 3, type := 4, pos := "law.go:52", after := #[{ on := 7, ground := Go.Ground.data }, { on := 4, ground := Go.Ground.guard }], guard := Option.some (4, Bool.true) }) (v := ?_) rfl (by kernel_rfl) (by kernel_rfl) (by kernel_rfl) (fun _ _ _ h => h) (Or.inl ⟨by rfl, ?_⟩) (by assumption) ?_
  rotate_left
  · intro w hSw; (try dsimp only at hSw); go_simp; (try with_reducible rfl)
  simp only [Act.put, List.setIfInBounds_toArray, List.set_cons_zero, List.set_cons_succ]
  refine wpAnyH_take (i := 9) (oi := { dst := Option.some 68, op := Go.Op.binOp Go.BinOp.eql 4 (Go.Operand.tmp 64) (Go.Operand.tmp 67) 4, type := 4, pos := "law.go:52", after := #[{ on := 5, ground := Go.Ground.data }, { on := 8, ground := Go.Ground.data }, { on := 4, ground := Go.Ground.guard }], guard := Option.some (4, Bool.true) }) (v := ?_) rfl (by kernel_rfl) (by kernel_rfl) (by kernel_rfl) (fun _ _ _ h => h) (Or.inl ⟨by rfl, ?_⟩) (by assumption) ?_
  rotate_left
  · intro w hSw; (try dsimp only at hSw); go_simp; (try with_reducible rfl)
  simp only [Act.put, List.setIfInBounds_toArray, List.set_cons_zero, List.set_cons_succ]
  refine wpAnyH_take (i := 10) (oi := { dst := Option.some 69, op := Go.Op.pick (Go.Operand.tmp 63) (Go.Operand.tmp 68) (Go.Operand.const (Go.Value.bool Bool.false)), type := 4, pos := "law.go:52", after := #[{ on := 4, ground := Go.Ground.data }, { on := 9, ground := Go.Ground.data }], guard := Option.none }) (v := ?_) rfl (by kernel_rfl) (by kernel_rfl) (by kernel_rfl) (fun _ _ _ h => h) (Or.inl ⟨by rfl, ?_⟩) (by assumption) ?_
  rotate_left
  · intro w hSw; (try dsimp only at hSw); go_simp; (try with_reducible rfl)
  simp only [Act.put, List.setIfInBounds_toArray, List.set_cons_zero, List.set_cons_succ]
  refine wpAnyH_take (i := 11) (oi := { dst := Option.some 70, op := Go.Op.move (Go.Operand.tmp 69), type := 4, pos := "law.go:52", after := #[{ on := 10, ground := Go.Ground.data }, { on := 7, ground := Go.Ground.chain }], guard := Option.none }) (v := ?_) rfl (by kernel_rfl) (by kernel_rfl) (by kernel_rfl) (fun _ _ _ h => h) (Or.inl ⟨by rfl, ?_⟩) (by assumption) ?_
  rotate_left
  · intro w hSw; (try dsimp only at hSw); go_simp; (try with_reducible rfl)
  simp only [Act.put, List.setIfInBounds_toArray, List.set_cons_zero, List.set_cons_succ]
  refine wpAnyH_take (i := 12) (oi := { dst := Option.some 71, op := Go.Op.move (Go.Operand.tmp 11), type := 4, pos := "law.go:52", after := #[{ on := 11, ground := Go.Ground.guard }], guard := Option.some (11, Bool.true) }) (v := ?_) rfl (by kernel_rfl) (by kernel_rfl) (by kernel_rfl) (fun _ _ _ h => h) (Or.inl ⟨by rfl, ?_⟩) (by assumption) ?_
  rotate_left
  · intro w hSw; (try dsimp only at hSw); go_simp; (try with_reducible rfl)
  simp only [Act.put, List.setIfInBounds_toArray, List.set_cons_zero, List.set_cons_succ]
  refine wpAnyH_take (i := 13) (oi := { dst := Option.some 72, op := Go.Op.move (Go.Operand.tmp 71), type := 4, pos := "law.go:52", after := #[{ on := 12, ground := Go.Ground.data }, { on := 11, ground := Go.Ground.chain }, { on := 11, ground := Go.Ground.guard }], guard := Option.some (11, Bool.true) }) (v := ?_) rfl (by kernel_rfl) (by kernel_rfl) (by kernel_rfl) (fun _ _ _ h => h) (Or.inl ⟨by rfl, ?_⟩) (by assumption) ?_
  rotate_left
  · intro w hSw; (try dsimp only at hSw); go_simp; (try with_reducible rfl)
  simp only [Act.put, List.setIfInBounds_toArray, List.set_cons_zero, List.set_cons_succ]
  refine wpAnyH_take (i := 14) (oi := { dst := Option.some 73, op := Go.Op.move (Go.Operand.tmp 9), type := 26, pos := "law.go:52", after := #[{ on := 13, ground := Go.Ground.guard }], guard := Option.some (13, Bool.false) }) (v := ?_) rfl (by kernel_rfl) (by kernel_rfl) (by kernel_rfl) (fun _ _ _ h => h) (Or.inl ⟨by rfl, ?_⟩) (by assumption) ?_
  rotate_left
  · intro w hSw; (try dsimp only at hSw); go_simp; (try with_reducible rfl)
  simp only [Act.put, List.setIfInBounds_toArray, List.set_cons_zero, List.set_cons_succ]
  refine wpAnyH_ready (rs := [15]) (by kernel_rfl) (by simp) ?_
  refine AllReadyH.cons (o := { dst := Option.some 74, op := Go.Op.call { callee := Go.Callee.value (Go.Operand.func 21), args := #[Go.Operand.tmp 73], argTypes := #[26] }, type := 3, pos := "law.go:52", after := #[{ on := 14, ground := Go.Ground.data }, { on := 13, ground := Go.Ground.chain }, { on := 13, ground := Go.Ground.guard }], guard := Option.some (13, Bool.false) }) rfl (fun K hK => ?_) AllReadyH.nil
  go_simp
  refine (Num_c _ v2 2 (E2_16.out.step (Mv.of_below hKF2)).now (T_16.out.step (Mv.of_below hKF2)).now).mono ?_
  rintro e w15 ⟨rfl, hb⟩
  have hKF3 : KF w12 w15 := KF.step hKF2 hb
  clear hb
  dsimp only
  refine hK.out _ _ (HSx.out _ hKF3) (fun hHeld3 => ?_)
  clear hK K
  try simp only [Act.put, List.setIfInBounds_toArray, List.set_cons_zero, List.set_cons_succ]
  refine wpAnyH_take (i := 16) (oi := { dst := Option.some 75, op := Go.Op.binOp Go.BinOp.eql 3 (Go.Operand.tmp 74) (Go.Operand.const (Go.Value.int Go.IntKind.i64 2)) 3, type := 4, pos := "law.go:52", after := #[{ on := 15, ground := Go.Ground.data }, { on := 13, ground := Go.Ground.guard }], guard := Option.some (13, Bool.false) }) (v := ?_) rfl (by kernel_rfl) (by kernel_rfl) (by kernel_rfl) (fun _ _ _ h => h) (Or.inl ⟨by rfl, ?_⟩) (by assumption) ?_
  rotate_left
  · intro w hSw; (try dsimp only at hSw); go_simp; (try with_reducible rfl)
  simp only [Act.put, List.setIfInBounds_toArray, List.set_cons_zero, List.set_cons_succ]
  refine wpAnyH_take (i := 17) (oi := { dst := Option.some 76, op := Go.Op.pick (Go.Operand.tmp 72) (Go.Operand.const (Go.Value.bool Bool.true)) (Go.Operand.tmp 75), type := 4, pos := "law.go:52", after := #[{ on := 13, ground := Go.Ground.data }, { on := 16, ground := Go.Ground.data }, { on := 11, ground := Go.Ground.guard }], guard := Option.some (11, Bool.true) }) (v := ?_) rfl (by kernel_rfl) (by kernel_rfl) (by kernel_rfl) (fun _ _ _ h => h) (Or.inl ⟨by rfl, ?_⟩) (by assumption) ?_
  rotate_left
  · intro w hSw; (try dsimp only at hSw); go_simp; (try with_reducible rfl)
  simp only [Act.put, List.setIfInBounds_toArray, List.set_cons_zero, List.set_cons_succ]
  refine wpAnyH_take (i := 18) (oi := { dst := Option.some 77, op := Go.Op.pick (Go.Operand.tmp 70) (Go.Operand.tmp 76) (Go.Operand.const (Go.Value.bool Bool.false)), type := 4, pos := "law.go:52", after := #[{ on := 11, ground := Go.Ground.data }, { on := 17, ground := Go.Ground.data }], guard := Option.none }) (v := ?_) rfl (by kernel_rfl) (by kernel_rfl) (by kernel_rfl) (fun _ _ _ h => h) (Or.inl ⟨by rfl, ?_⟩) (by assumption) ?_
  rotate_left
  · intro w hSw; (try dsimp only at hSw); go_simp; (try with_reducible rfl)
  simp only [Act.put, List.setIfInBounds_toArray, List.set_cons_zero, List.set_cons_succ]
  refine wpAnyH_take (i := 19) (oi := { dst := Option.some 4, op := Go.Op.assign (Go.Operand.tmp 77), type := 4, pos := "law.go:52", after := #[{ on := 18, ground := Go.Ground.data }, { on := 15, ground := Go.Ground.chain }, { on := 0, ground := Go.Ground.phase }, { on := 1, ground := Go.Ground.phase }, { on := 2, ground := Go.Ground.phase }, { on := 3, ground := Go.Ground.phase }, { on := 4, ground := Go.Ground.phase }, { on := 5, ground := Go.Ground.phase }, { on := 6, ground := Go.Ground.phase }, { on := 7, ground := Go.Ground.phase }, { on := 8, ground := Go.Ground.phase }, { on := 9, ground := Go.Ground.phase }, { on := 10, ground := Go.Ground.phase }, { on := 11, ground := Go.Ground.phase }, { on := 12, ground := Go.Ground.phase }, { on := 13, ground := Go.Ground.phase }, { on := 14, ground := Go.Ground.phase }, { on := 15, ground := Go.Ground.phase }, { on := 16, ground := Go.Ground.phase }, { on := 17, ground := Go.Ground.phase }, { on := 18, ground := Go.Ground.phase }], guard := Option.none }) (v := ?_) rfl (by kernel_rfl) (by kernel_rfl) (by kernel_rfl) (fun _ _ _ h => h) (Or.inl ⟨by rfl, ?_⟩) (by assumption) ?_
  rotate_left
  · intro w hSw; (try dsimp only at hSw); go_simp; (try with_reducible rfl)
  simp only [Act.put, List.setIfInBounds_toArray, List.set_cons_zero, List.set_cons_succ]
  refine wpAnyH_done (by kernel_rfl) ?_ _
  have hbm : Below w12.heap.size w12 w15 := hKF3
  have hm : Mv No No w12 w15 := Mv.of_below hbm
  have T_18 := Lib.hid (T_16.out.step hm)
  clear T_16
  have A_18 := Lib.hid (A_16.out.step hm)
  clear A_16
  have E1_18 := Lib.hid (E1_16.out.step hm)
  clear E1_16
  have E2_18 := Lib.hid (E2_16.out.step hm)
  clear E2_16
  have X_18 := Lib.hid (X_16.out.step hm)
  clear X_16
  have Y_18 := Lib.hid (Y_17.out.step hm)
  clear Y_17
  have HM_18 := Lib.hid (HM_16.out.trans hm)
  clear HM_16
  have WI_18 := Lib.hid (WI_16.out.mono hm.size)
  clear WI_16
  clear hm
  clear hbm HSx hKF0 hKF1 hKF2 hKF3
  go_wp2_with fail
  go_ret
  exact ⟨rfl, HM_18.out.below⟩
set_option maxHeartbeats 8000000 in
set_option maxRecDepth 100000 in
theorem splays_ft (s : Sup) (hf : s.Fits) (d : ByteArray) (h0 : d.size ≤ 200) (hr : rightB s = false) (ho : okU d = true) (w : World) (tied : Tied w) : Calls Tryd.prog 10 #[.agg (sv s).toArray, .string d] w fun e w' => e = .returned (.bool true) ∧ Below w.heap.size w w' := by
  have HSL := Lib.hid hf.l
  have hd : decide (200 < (d.size : Int)) = false := by simp; omega
  have HRT := Lib.hid (fun w => right_any s hf.l w)
  have HRR := Lib.hid (fun w => rright_any s hf.l hf.g0 w)
  rw [hr] at HRT HRR
  have HLY := Lib.hid (fun w => slay_no s hf.l hr w)
  have HSR := Lib.hid (fun w => sread_any d w)
  have HRD := Lib.hid (fun w => rread_sup d w)
  rw [ho] at HSR HRD
  rw [if_pos rfl] at HSR
  have hul := (readU_fits d).l
  obtain ⟨x, hx⟩ : ∃ q, q = readU d := ⟨_, rfl⟩
  rw [← hx] at HSR HRD hul
  have HXL := Lib.hid hul
  have HPL := Lib.hid (fun w => plain_any x hul w)
  have hse := supE_self x
  clear hf hr ho hx hul h0
  have HM0 := Lib.hid (Mv.refl No w)
  have T0 := Lib.hid (Stays.tied tied)
  have WI0 := Lib.hid (Wi.no w)
  clear tied
  go_enter Tryd.func10, Tryd.ntmps10
  go_upto_region 1 with fail
  obtain ⟨w1, hw1⟩ : ∃ q, q = w.alloc (.cells (sv (s)).toArray 68) := ⟨_, rfl⟩
  try rw [← hw1]
  have hbm : Below w.heap.size w w1 := by rw [hw1]; exact (Below.refl _ _).alloc (Nat.le_refl _) _
  have hm : Mv No No w w1 := Mv.of_below hbm
  have hbx : Stays No w1 (fun W => SupAt W w.heap.size (s)) := Stays.boxS HSL.out WI0.out hw1
  have hsz1 : w1.heap.size = w.heap.size + 1 := by rw [hw1]; simp
  obtain ⟨BA, hBA⟩ : ∃ q, q = w.heap.size := ⟨_, rfl⟩
  try rw [← hBA]
  rw [← hBA] at hbx hsz1
  have T_1 := Lib.hid (T0.out.step hm)
  clear T0
  have HM_1 := Lib.hid (HM0.out.trans hm)
  clear HM0
  have WI_1 := Lib.hid (WI0.out.mono hm.size)
  clear WI0
  clear hm
  clear hbm hw1 hBA
  have A_2 := Lib.hid (hbx)
  clear hbx
  clear hsz1
  go_wp2_with fail
  refine (awake7 _ T_1.out.now).mono ?_
  rintro e w2 ⟨rfl, hb⟩
  have hbm : Below w1.heap.size w1 w2 := hb
  clear hb
  have hm : Mv No No w1 w2 := Mv.of_below hbm
  have T_3 := Lib.hid (T_1.out.step hm)
  clear T_1
  have A_3 := Lib.hid (A_2.out.step hm)
  clear A_2
  have HM_3 := Lib.hid (HM_1.out.trans hm)
  clear HM_1
  have WI_3 := Lib.hid (WI_1.out.mono hm.size)
  clear WI_1
  clear hm
  clear hbm
  go_wp2_with (first | ((with_reducible refine at_ld 68 (.tmp 2) ?_); refine ld_rp rfl _ rfl BA (0) rfl s ?_ ?_ ?_; exact HSL.out; exact (A_3.out.now).r))
  refine (of_any s HSL.out _).mono ?_
  rintro e w3 ⟨rfl, hb⟩
  have hbm : Below w2.heap.size w2 w3 := hb
  clear hb
  have hm : Mv No No w2 w3 := Mv.of_below hbm
  have T_4 := Lib.hid (T_3.out.step hm)
  clear T_3
  have A_4 := Lib.hid (A_3.out.step hm)
  clear A_3
  have HM_4 := Lib.hid (HM_3.out.trans hm)
  clear HM_3
  have WI_4 := Lib.hid (WI_3.out.mono hm.size)
  clear WI_3
  clear hm
  clear hbm
  go_wp2_with fail
  refine (HLY.out _).mono ?_
  rintro e w4 ⟨v1, rfl, he, hb⟩
  have hbm : Below w3.heap.size w3 w4 := hb
  clear hb
  have hm : Mv No No w3 w4 := Mv.of_below hbm
  have hst := Stays.err he WI_4.out
  clear he
  have T_5 := Lib.hid (T_4.out.step hm)
  clear T_4
  have A_5 := Lib.hid (A_4.out.step hm)
  clear A_4
  have HM_5 := Lib.hid (HM_4.out.trans hm)
  clear HM_4
  have WI_5 := Lib.hid (WI_4.out.mono hm.size)
  clear WI_4
  clear hm
  clear hbm
  have E1_6 := Lib.hid (hst)
  clear hst
  go_wp2_with (first | ((with_reducible refine at_ld 68 (.tmp 2) ?_); refine ld_rp rfl _ rfl BA (0) rfl s ?_ ?_ ?_; exact HSL.out; exact (A_5.out.now).r))
  refine (HRR.out _).mono ?_
  rintro e w5 ⟨rfl, hb⟩
  have hbm : Below w4.heap.size w4 w5 := hb
  clear hb
  have hm : Mv No No w4 w5 := Mv.of_below hbm
  have T_7 := Lib.hid (T_5.out.step hm)
  clear T_5
  have A_7 := Lib.hid (A_5.out.step hm)
  clear A_5
  have E1_7 := Lib.hid (E1_6.out.step hm)
  clear E1_6
  have HM_7 := Lib.hid (HM_5.out.trans hm)
  clear HM_5
  have WI_7 := Lib.hid (WI_5.out.mono hm.size)
  clear WI_5
  clear hm
  clear hbm
  go_wp2_with (first | ((with_reducible refine at_ld 68 (.tmp 2) ?_); refine ld_rp rfl _ rfl BA (0) rfl s ?_ ?_ ?_; exact HSL.out; exact (A_7.out.now).r))
  refine (of_any s HSL.out _).mono ?_
  rintro e w6 ⟨rfl, hb⟩
  have hbm : Below w5.heap.size w5 w6 := hb
  clear hb
  have hm : Mv No No w5 w6 := Mv.of_below hbm
  have T_8 := Lib.hid (T_7.out.step hm)
  clear T_7
  have A_8 := Lib.hid (A_7.out.step hm)
  clear A_7
  have E1_8 := Lib.hid (E1_7.out.step hm)
  clear E1_7
  have HM_8 := Lib.hid (HM_7.out.trans hm)
  clear HM_7
  have WI_8 := Lib.hid (WI_7.out.mono hm.size)
  clear WI_7
  clear hm
  clear hbm
  go_wp2_with fail
  refine (HRT.out _).mono ?_
  rintro e w7 ⟨rfl, hb⟩
  have hbm : Below w6.heap.size w6 w7 := hb
  clear hb
  have hm : Mv No No w6 w7 := Mv.of_below hbm
  have T_9 := Lib.hid (T_8.out.step hm)
  clear T_8
  have A_9 := Lib.hid (A_8.out.step hm)
  clear A_8
  have E1_9 := Lib.hid (E1_8.out.step hm)
  clear E1_8
  have HM_9 := Lib.hid (HM_8.out.trans hm)
  clear HM_8
  have WI_9 := Lib.hid (WI_8.out.mono hm.size)
  clear WI_8
  clear hm
  clear hbm
  go_wp2_with fail
  refine (Num_c _ v1 1 E1_9.out.now T_9.out.now).mono ?_
  rintro e w8 ⟨rfl, hb⟩
  have hbm : Below w7.heap.size w7 w8 := hb
  clear hb
  have hm : Mv No No w7 w8 := Mv.of_below hbm
  have T_10 := Lib.hid (T_9.out.step hm)
  clear T_9
  have A_10 := Lib.hid (A_9.out.step hm)
  clear A_9
  have E1_10 := Lib.hid (E1_9.out.step hm)
  clear E1_9
  have HM_10 := Lib.hid (HM_9.out.trans hm)
  clear HM_9
  have WI_10 := Lib.hid (WI_9.out.mono hm.size)
  clear WI_9
  clear hm
  clear hbm
  go_wp2_with fail
  refine (HSR.out _).mono ?_
  rintro e w9 ⟨v2, rfl, he, hb⟩
  have hbm : Below w8.heap.size w8 w9 := hb
  clear hb
  have hm : Mv No No w8 w9 := Mv.of_below hbm
  have T_11 := Lib.hid (T_10.out.step hm)
  clear T_10
  have A_11 := Lib.hid (A_10.out.step hm)
  clear A_10
  have E1_11 := Lib.hid (E1_10.out.step hm)
  clear E1_10
  have HM_11 := Lib.hid (HM_10.out.trans hm)
  clear HM_10
  have WI_11 := Lib.hid (WI_10.out.mono hm.size)
  clear WI_10
  clear hm
  clear hbm
  obtain rfl := ErrC.zero he
  clear he
  go_wp2_with (first | ((with_reducible refine at_al 72 ?_); refine al_sp rfl rfl ?_) | ((with_reducible refine at_st 72 (.tmp 8) (.tmp 52) ?_); refine stn_sp rfl _ _ rfl _ _ _ rfl rfl x ?_ rfl ?_ ?_; exact HXL.out; exact ssz))
  obtain ⟨w10, hw10⟩ : ∃ q, q = w9.alloc (.cells (sv (x)).toArray 72) := ⟨_, rfl⟩
  try rw [← hw10]
  have hbm : Below w9.heap.size w9 w10 := by rw [hw10]; exact (Below.refl _ _).alloc (Nat.le_refl _) _
  have hm : Mv No No w9 w10 := Mv.of_below hbm
  have hbx : Stays No w10 (fun W => SupAt W w9.heap.size (x)) := Stays.boxS HXL.out WI_11.out hw10
  have hsz10 : w10.heap.size = w9.heap.size + 1 := by rw [hw10]; simp
  obtain ⟨BX, hBX⟩ : ∃ q, q = w9.heap.size := ⟨_, rfl⟩
  try rw [← hBX]
  rw [← hBX] at hbx hsz10
  have T_12 := Lib.hid (T_11.out.step hm)
  clear T_11
  have A_12 := Lib.hid (A_11.out.step hm)
  clear A_11
  have E1_12 := Lib.hid (E1_11.out.step hm)
  clear E1_11
  have HM_12 := Lib.hid (HM_11.out.trans hm)
  clear HM_11
  have WI_12 := Lib.hid (WI_11.out.mono hm.size)
  clear WI_11
  clear hm
  clear hbm hw10 hBX
  have X_13 := Lib.hid (hbx)
  clear hbx
  clear hsz10
  refine (HRD.out _).mono ?_
  rintro e w11 ⟨rfl, hb⟩
  have hbm : Below w10.heap.size w10 w11 := hb
  clear hb
  have hm : Mv No No w10 w11 := Mv.of_below hbm
  have T_14 := Lib.hid (T_12.out.step hm)
  clear T_12
  have A_14 := Lib.hid (A_12.out.step hm)
  clear A_12
  have E1_14 := Lib.hid (E1_12.out.step hm)
  clear E1_12
  have X_14 := Lib.hid (X_13.out.step hm)
  clear X_13
  have HM_14 := Lib.hid (HM_12.out.trans hm)
  clear HM_12
  have WI_14 := Lib.hid (WI_12.out.mono hm.size)
  clear WI_12
  clear hm
  clear hbm
  go_wp2_with (first | ((with_reducible refine at_al 68 ?_); refine al_rp rfl rfl ?_) | ((with_reducible refine at_st 68 (.tmp 10) (.tmp 57) ?_); refine stn_rp rfl _ _ rfl _ _ _ rfl rfl x ?_ rfl ?_ ?_; exact HXL.out; exact ssz))
  obtain ⟨w12, hw12⟩ : ∃ q, q = w11.alloc (.cells (sv (x)).toArray 68) := ⟨_, rfl⟩
  try rw [← hw12]
  have hbm : Below w11.heap.size w11 w12 := by rw [hw12]; exact (Below.refl _ _).alloc (Nat.le_refl _) _
  have hm : Mv No No w11 w12 := Mv.of_below hbm
  have hbx : Stays No w12 (fun W => SupAt W w11.heap.size (x)) := Stays.boxS HXL.out WI_14.out hw12
  have hsz12 : w12.heap.size = w11.heap.size + 1 := by rw [hw12]; simp
  obtain ⟨BY, hBY⟩ : ∃ q, q = w11.heap.size := ⟨_, rfl⟩
  try rw [← hBY]
  rw [← hBY] at hbx hsz12
  have T_15 := Lib.hid (T_14.out.step hm)
  clear T_14
  have A_15 := Lib.hid (A_14.out.step hm)
  clear A_14
  have E1_15 := Lib.hid (E1_14.out.step hm)
  clear E1_14
  have X_15 := Lib.hid (X_14.out.step hm)
  clear X_14
  have HM_15 := Lib.hid (HM_14.out.trans hm)
  clear HM_14
  have WI_15 := Lib.hid (WI_14.out.mono hm.size)
  clear WI_14
  clear hm
  clear hbm hw12 hBY
  have Y_16 := Lib.hid (hbx)
  clear hbx
  clear hsz12
  have HSx : Hid (∀ wz, KF w12 wz → (fun wz => KF w12 wz) wz) := Lib.hid (fun wz h => h)
  refine wp_region_held_drew (S := fun wz => KF w12 wz) (by kernel_rfl) ?_ (fun hHeld => ?_)
  · exact HSx.out _ (KF.drew (KF.refl _))
  have hKF0 : KF w12 w12.drew := KF.drew (KF.refl _)
  refine wpAnyH_take (i := 0) (oi := { dst := Option.some 59, op := Go.Op.load 72 (Go.Operand.tmp 8), type := 72, pos := "law.go:52", after := #[], guard := Option.none }) rfl (by kernel_rfl) (by kernel_rfl) (by kernel_rfl) (fun _ _ _ h => h) (yieldsIf_load_mid (by rfl) 72 _ rfl BX 0 rfl (sv x) _ (fun W hW => (X_15.out.step (Mv.of_below hW)).now.r) Tryd.underlying72 rfl (szof_sp HXL.out)) (by assumption) ?_
  simp only [Act.put, List.setIfInBounds_toArray, List.set_cons_zero, List.set_cons_succ]
  refine wpAnyH_take (i := 2) (oi := { dst := Option.some 61, op := Go.Op.load 68 (Go.Operand.tmp 10), type := 68, pos := "law.go:52", after := #[], guard := Option.none }) rfl (by kernel_rfl) (by kernel_rfl) (by kernel_rfl) (fun _ _ _ h => h) (yieldsIf_load_mid (by rfl) 68 _ rfl BY 0 rfl (sv x) _ (fun W hW => (Y_16.out.step (Mv.of_below hW)).now.r) Tryd.underlying68 rfl (szof_rp HXL.out)) (by assumption) ?_
  simp only [Act.put, List.setIfInBounds_toArray, List.set_cons_zero, List.set_cons_succ]
  refine wpAnyH_ready (rs := [1]) (by kernel_rfl) (by simp) ?_
  refine AllReadyH.cons (o := { dst := Option.some 60, op := Go.Op.call { callee := Go.Callee.value (Go.Operand.func 46), args := #[Go.Operand.tmp 59], argTypes := #[72] }, type := 68, pos := "law.go:52", after := #[{ on := 0, ground := Go.Ground.data }], guard := Option.none }) rfl (fun K hK => ?_) AllReadyH.nil
  go_simp
  refine (HPL.out _).mono ?_
  rintro e w13 ⟨rfl, hb⟩
  have hKF1 : KF w12 w13 := KF.step hKF0 hb
  clear hb
  dsimp only
  refine hK.out _ _ (HSx.out _ hKF1) (fun hHeld1 => ?_)
  clear hK K
  try simp only [Act.put, List.setIfInBounds_toArray, List.set_cons_zero, List.set_cons_succ]
  refine wpAnyH_take (i := 3) (oi := { dst := Option.some 62, op := Go.Op.binOp Go.BinOp.eql 68 (Go.Operand.tmp 60) (Go.Operand.tmp 61) 68, type := 4, pos := "law.go:52", after := #[{ on := 1, ground := Go.Ground.data }, { on := 2, ground := Go.Ground.data }], guard := Option.none }) rfl (by kernel_rfl) (by kernel_rfl) (by kernel_rfl) (fun _ _ _ h => h) (yif_eq_rp (by rfl) _ _ rfl x x rfl rfl HXL.out HXL.out) (by assumption) ?_
  simp only [Act.put, List.setIfInBounds_toArray, List.set_cons_zero, List.set_cons_succ]
  rw [hse]
  refine wpAnyH_take (i := 4) (oi := { dst := Option.some 63, op := Go.Op.move (Go.Operand.tmp 62), type := 4, pos := "law.go:52", after := #[{ on := 3, ground := Go.Ground.data }, { on := 1, ground := Go.Ground.chain }], guard := Option.none }) (v := ?_) rfl (by kernel_rfl) (by kernel_rfl) (by kernel_rfl) (fun _ _ _ h => h) (Or.inl ⟨by rfl, ?_⟩) (by assumption) ?_
  rotate_left
  · intro w hSw; (try dsimp only at hSw); go_simp; (try with_reducible rfl)
  simp only [Act.put, List.setIfInBounds_toArray, List.set_cons_zero, List.set_cons_succ]
  refine wpAnyH_take (i := 5) (oi := { dst := Option.some 64, op := Go.Op.move (Go.Operand.tmp 11), type := 4, pos := "law.go:52", after := #[{ on := 4, ground := Go.Ground.guard }], guard := Option.some (4, Bool.true) }) (v := ?_) rfl (by kernel_rfl) (by kernel_rfl) (by kernel_rfl) (fun _ _ _ h => h) (Or.inl ⟨by rfl, ?_⟩) (by assumption) ?_
  rotate_left
  · intro w hSw; (try dsimp only at hSw); go_simp; (try with_reducible rfl)
  simp only [Act.put, List.setIfInBounds_toArray, List.set_cons_zero, List.set_cons_succ]
  refine wpAnyH_take (i := 6) (oi := { dst := Option.some 65, op := Go.Op.move (Go.Operand.tmp 9), type := 26, pos := "law.go:52", after := #[{ on := 4, ground := Go.Ground.guard }], guard := Option.some (4, Bool.true) }) (v := ?_) rfl (by kernel_rfl) (by kernel_rfl) (by kernel_rfl) (fun _ _ _ h => h) (Or.inl ⟨by rfl, ?_⟩) (by assumption) ?_
  rotate_left
  · intro w hSw; (try dsimp only at hSw); go_simp; (try with_reducible rfl)
  simp only [Act.put, List.setIfInBounds_toArray, List.set_cons_zero, List.set_cons_succ]
  refine wpAnyH_ready (rs := [7]) (by kernel_rfl) (by simp) ?_
  refine AllReadyH.cons (o := { dst := Option.some 66, op := Go.Op.call { callee := Go.Callee.value (Go.Operand.func 21), args := #[Go.Operand.tmp 65], argTypes := #[26] }, type := 3, pos := "law.go:52", after := #[{ on := 6, ground := Go.Ground.data }, { on := 4, ground := Go.Ground.chain }, { on := 4, ground := Go.Ground.guard }], guard := Option.some (4, Bool.true) }) rfl (fun K hK => ?_) AllReadyH.nil
  go_simp
  refine (num_nil_b2 _).mono ?_
  rintro e w14 ⟨rfl, hb⟩
  have hKF2 : KF w12 w14 := KF.step hKF1 hb
  clear hb
  dsimp only
  refine hK.out _ _ (HSx.out _ hKF2) (fun hHeld2 => ?_)
  clear hK K
  try simp only [Act.put, List.setIfInBounds_toArray, List.set_cons_zero, List.set_cons_succ]
  refine wpAnyH_take (i := 8) (oi := { dst := Option.some 67, op := Go.Op.binOp Go.BinOp.eql 3 (Go.Operand.tmp 66) (Go.Operand.const (Go.Value.int Go.IntKind.i64 0)) 3, type := 4, pos := "law.go:52", after := #[{ on := 7, ground := Go.Ground.data }, { on := 4, ground := Go.Ground.guard }], guard := Option.some (4, Bool.true) }) (v := ?_) rfl (by kernel_rfl) (by kernel_rfl) (by kernel_rfl) (fun _ _ _ h => h) (Or.inl ⟨by rfl, ?_⟩) (by assumption) ?_
  rotate_left
  · intro w hSw; (try dsimp only at hSw); go_simp; (try with_reducible rfl)
  simp only [Act.put, List.setIfInBounds_toArray, List.set_cons_zero, List.set_cons_succ]
  refine wpAnyH_take (i := 9) (oi := { dst := Option.some 68, op := Go.Op.binOp Go.BinOp.eql 4 (Go.Operand.tmp 64) (Go.Operand.tmp 67) 4, type := 4, pos := "law.go:52", after := #[{ on := 5, ground := Go.Ground.data }, { on := 8, ground := Go.Ground.data }, { on := 4, ground := Go.Ground.guard }], guard := Option.some (4, Bool.true) }) (v := ?_) rfl (by kernel_rfl) (by kernel_rfl) (by kernel_rfl) (fun _ _ _ h => h) (Or.inl ⟨by rfl, ?_⟩) (by assumption) ?_
  rotate_left
  · intro w hSw; (try dsimp only at hSw); go_simp; (try with_reducible rfl)
  simp only [Act.put, List.setIfInBounds_toArray, List.set_cons_zero, List.set_cons_succ]
  refine wpAnyH_take (i := 10) (oi := { dst := Option.some 69, op := Go.Op.pick (Go.Operand.tmp 63) (Go.Operand.tmp 68) (Go.Operand.const (Go.Value.bool Bool.false)), type := 4, pos := "law.go:52", after := #[{ on := 4, ground := Go.Ground.data }, { on := 9, ground := Go.Ground.data }], guard := Option.none }) (v := ?_) rfl (by kernel_rfl) (by kernel_rfl) (by kernel_rfl) (fun _ _ _ h => h) (Or.inl ⟨by rfl, ?_⟩) (by assumption) ?_
  rotate_left
  · intro w hSw; (try dsimp only at hSw); go_simp; (try with_reducible rfl)
  simp only [Act.put, List.setIfInBounds_toArray, List.set_cons_zero, List.set_cons_succ]
  refine wpAnyH_take (i := 11) (oi := { dst := Option.some 70, op := Go.Op.move (Go.Operand.tmp 69), type := 4, pos := "law.go:52", after := #[{ on := 10, ground := Go.Ground.data }, { on := 7, ground := Go.Ground.chain }], guard := Option.none }) (v := ?_) rfl (by kernel_rfl) (by kernel_rfl) (by kernel_rfl) (fun _ _ _ h => h) (Or.inl ⟨by rfl, ?_⟩) (by assumption) ?_
  rotate_left
  · intro w hSw; (try dsimp only at hSw); go_simp; (try with_reducible rfl)
  simp only [Act.put, List.setIfInBounds_toArray, List.set_cons_zero, List.set_cons_succ]
  refine wpAnyH_take (i := 12) (oi := { dst := Option.some 71, op := Go.Op.move (Go.Operand.tmp 11), type := 4, pos := "law.go:52", after := #[{ on := 11, ground := Go.Ground.guard }], guard := Option.some (11, Bool.true) }) (v := ?_) rfl (by kernel_rfl) (by kernel_rfl) (by kernel_rfl) (fun _ _ _ h => h) (Or.inl ⟨by rfl, ?_⟩) (by assumption) ?_
  rotate_left
  · intro w hSw; (try dsimp only at hSw); go_simp; (try with_reducible rfl)
  simp only [Act.put, List.setIfInBounds_toArray, List.set_cons_zero, List.set_cons_succ]
  refine wpAnyH_take (i := 13) (oi := { dst := Option.some 72, op := Go.Op.move (Go.Operand.tmp 71), type := 4, pos := "law.go:52", after := #[{ on := 12, ground := Go.Ground.data }, { on := 11, ground := Go.Ground.chain }, { on := 11, ground := Go.Ground.guard }], guard := Option.some (11, Bool.true) }) (v := ?_) rfl (by kernel_rfl) (by kernel_rfl) (by kernel_rfl) (fun _ _ _ h => h) (Or.inl ⟨by rfl, ?_⟩) (by assumption) ?_
  rotate_left
  · intro w hSw; (try dsimp only at hSw); go_simp; (try with_reducible rfl)
  simp only [Act.put, List.setIfInBounds_toArray, List.set_cons_zero, List.set_cons_succ]
  refine wpAnyH_take (i := 14) (oi := { dst := Option.some 73, op := Go.Op.move (Go.Operand.tmp 9), type := 26, pos := "law.go:52", after := #[{ on := 13, ground := Go.Ground.guard }], guard := Option.some (13, Bool.false) }) (v := undef) rfl (by kernel_rfl) (by kernel_rfl) (by kernel_rfl) (fun _ _ _ h => h) (Or.inr ⟨by rfl, rfl⟩) (by assumption) ?_
  simp only [Act.put, List.setIfInBounds_toArray, List.set_cons_zero, List.set_cons_succ]
  refine wpAnyH_take (i := 15) (oi := { dst := Option.some 74, op := Go.Op.call { callee := Go.Callee.value (Go.Operand.func 21), args := #[Go.Operand.tmp 73], argTypes := #[26] }, type := 3, pos := "law.go:52", after := #[{ on := 14, ground := Go.Ground.data }, { on := 13, ground := Go.Ground.chain }, { on := 13, ground := Go.Ground.guard }], guard := Option.some (13, Bool.false) }) (v := undef) rfl (by kernel_rfl) (by kernel_rfl) (by kernel_rfl) (fun _ _ _ h => h) (Or.inr ⟨by rfl, rfl⟩) (by assumption) ?_
  simp only [Act.put, List.setIfInBounds_toArray, List.set_cons_zero, List.set_cons_succ]
  refine wpAnyH_take (i := 16) (oi := { dst := Option.some 75, op := Go.Op.binOp Go.BinOp.eql 3 (Go.Operand.tmp 74) (Go.Operand.const (Go.Value.int Go.IntKind.i64 2)) 3, type := 4, pos := "law.go:52", after := #[{ on := 15, ground := Go.Ground.data }, { on := 13, ground := Go.Ground.guard }], guard := Option.some (13, Bool.false) }) (v := undef) rfl (by kernel_rfl) (by kernel_rfl) (by kernel_rfl) (fun _ _ _ h => h) (Or.inr ⟨by rfl, rfl⟩) (by assumption) ?_
  simp only [Act.put, List.setIfInBounds_toArray, List.set_cons_zero, List.set_cons_succ]
  refine wpAnyH_take (i := 17) (oi := { dst := Option.some 76, op := Go.Op.pick (Go.Operand.tmp 72) (Go.Operand.const (Go.Value.bool Bool.true)) (Go.Operand.tmp 75), type := 4, pos := "law.go:52", after := #[{ on := 13, ground := Go.Ground.data }, { on := 16, ground := Go.Ground.data }, { on := 11, ground := Go.Ground.guard }], guard := Option.some (11, Bool.true) }) (v := ?_) rfl (by kernel_rfl) (by kernel_rfl) (by kernel_rfl) (fun _ _ _ h => h) (Or.inl ⟨by rfl, ?_⟩) (by assumption) ?_
  rotate_left
  · intro w hSw; (try dsimp only at hSw); go_simp; (try with_reducible rfl)
  simp only [Act.put, List.setIfInBounds_toArray, List.set_cons_zero, List.set_cons_succ]
  refine wpAnyH_take (i := 18) (oi := { dst := Option.some 77, op := Go.Op.pick (Go.Operand.tmp 70) (Go.Operand.tmp 76) (Go.Operand.const (Go.Value.bool Bool.false)), type := 4, pos := "law.go:52", after := #[{ on := 11, ground := Go.Ground.data }, { on := 17, ground := Go.Ground.data }], guard := Option.none }) (v := ?_) rfl (by kernel_rfl) (by kernel_rfl) (by kernel_rfl) (fun _ _ _ h => h) (Or.inl ⟨by rfl, ?_⟩) (by assumption) ?_
  rotate_left
  · intro w hSw; (try dsimp only at hSw); go_simp; (try with_reducible rfl)
  simp only [Act.put, List.setIfInBounds_toArray, List.set_cons_zero, List.set_cons_succ]
  refine wpAnyH_take (i := 19) (oi := { dst := Option.some 4, op := Go.Op.assign (Go.Operand.tmp 77), type := 4, pos := "law.go:52", after := #[{ on := 18, ground := Go.Ground.data }, { on := 15, ground := Go.Ground.chain }, { on := 0, ground := Go.Ground.phase }, { on := 1, ground := Go.Ground.phase }, { on := 2, ground := Go.Ground.phase }, { on := 3, ground := Go.Ground.phase }, { on := 4, ground := Go.Ground.phase }, { on := 5, ground := Go.Ground.phase }, { on := 6, ground := Go.Ground.phase }, { on := 7, ground := Go.Ground.phase }, { on := 8, ground := Go.Ground.phase }, { on := 9, ground := Go.Ground.phase }, { on := 10, ground := Go.Ground.phase }, { on := 11, ground := Go.Ground.phase }, { on := 12, ground := Go.Ground.phase }, { on := 13, ground := Go.Ground.phase }, { on := 14, ground := Go.Ground.phase }, { on := 15, ground := Go.Ground.phase }, { on := 16, ground := Go.Ground.phase }, { on := 17, ground := Go.Ground.phase }, { on := 18, ground := Go.Ground.phase }], guard := Option.none }) (v := ?_) rfl (by kernel_rfl) (by kernel_rfl) (by kernel_rfl) (fun _ _ _ h => h) (Or.inl ⟨by rfl, ?_⟩) (by assumption) ?_
  rotate_left
  · intro w hSw; (try dsimp only at hSw); go_simp; (try with_reducible rfl)
  simp only [Act.put, List.setIfInBounds_toArray, List.set_cons_zero, List.set_cons_succ]
  refine wpAnyH_done (by kernel_rfl) ?_ _
  have hbm : Below w12.heap.size w12 w14 := hKF2
  have hm : Mv No No w12 w14 := Mv.of_below hbm
  have T_17 := Lib.hid (T_15.out.step hm)
  clear T_15
  have A_17 := Lib.hid (A_15.out.step hm)
  clear A_15
  have E1_17 := Lib.hid (E1_15.out.step hm)
  clear E1_15
  have X_17 := Lib.hid (X_15.out.step hm)
  clear X_15
  have Y_17 := Lib.hid (Y_16.out.step hm)
  clear Y_16
  have HM_17 := Lib.hid (HM_15.out.trans hm)
  clear HM_15
  have WI_17 := Lib.hid (WI_15.out.mono hm.size)
  clear WI_15
  clear hm
  clear hbm HSx hKF0 hKF1 hKF2
  go_wp2_with fail
  go_ret
  exact ⟨rfl, HM_17.out.below⟩
set_option maxHeartbeats 8000000 in
set_option maxRecDepth 100000 in
theorem splays_tf (s : Sup) (hf : s.Fits) (d : ByteArray) (h0 : d.size ≤ 200) (hr : rightB s = true) (ho : okU d = false) (w : World) (tied : Tied w) : Calls Tryd.prog 10 #[.agg (sv s).toArray, .string d] w fun e w' => e = .returned (.bool true) ∧ Below w.heap.size w w' := by
  have HSL := Lib.hid hf.l
  have hd : decide (200 < (d.size : Int)) = false := by simp; omega
  have HRT := Lib.hid (fun w => right_any s hf.l w)
  have HRR := Lib.hid (fun w => rright_any s hf.l hf.g0 w)
  rw [hr] at HRT HRR
  have HLY := Lib.hid (fun w => slay_ok s hf hr w)
  have HRL := Lib.hid (fun w => rlay_sup s hf hr w)
  obtain ⟨t, ht⟩ : ∃ q, q = layU s := ⟨_, rfl⟩
  rw [← ht] at HLY HRL
  clear ht
  have HSR := Lib.hid (fun w => sread_any d w)
  have HRD := Lib.hid (fun w => rread_sup d w)
  rw [ho] at HSR HRD
  rw [if_neg (by decide)] at HSR
  have hul := (readU_fits d).l
  obtain ⟨x, hx⟩ : ∃ q, q = readU d := ⟨_, rfl⟩
  rw [← hx] at HSR HRD hul
  have HXL := Lib.hid hul
  have HPL := Lib.hid (fun w => plain_any x hul w)
  have hse := supE_self x
  clear hf hr ho hx hul h0
  have HM0 := Lib.hid (Mv.refl No w)
  have T0 := Lib.hid (Stays.tied tied)
  have WI0 := Lib.hid (Wi.no w)
  clear tied
  go_enter Tryd.func10, Tryd.ntmps10
  go_upto_region 1 with fail
  obtain ⟨w1, hw1⟩ : ∃ q, q = w.alloc (.cells (sv (s)).toArray 68) := ⟨_, rfl⟩
  try rw [← hw1]
  have hbm : Below w.heap.size w w1 := by rw [hw1]; exact (Below.refl _ _).alloc (Nat.le_refl _) _
  have hm : Mv No No w w1 := Mv.of_below hbm
  have hbx : Stays No w1 (fun W => SupAt W w.heap.size (s)) := Stays.boxS HSL.out WI0.out hw1
  have hsz1 : w1.heap.size = w.heap.size + 1 := by rw [hw1]; simp
  obtain ⟨BA, hBA⟩ : ∃ q, q = w.heap.size := ⟨_, rfl⟩
  try rw [← hBA]
  rw [← hBA] at hbx hsz1
  have T_1 := Lib.hid (T0.out.step hm)
  clear T0
  have HM_1 := Lib.hid (HM0.out.trans hm)
  clear HM0
  have WI_1 := Lib.hid (WI0.out.mono hm.size)
  clear WI0
  clear hm
  clear hbm hw1 hBA
  have A_2 := Lib.hid (hbx)
  clear hbx
  clear hsz1
  go_wp2_with fail
  refine (awake7 _ T_1.out.now).mono ?_
  rintro e w2 ⟨rfl, hb⟩
  have hbm : Below w1.heap.size w1 w2 := hb
  clear hb
  have hm : Mv No No w1 w2 := Mv.of_below hbm
  have T_3 := Lib.hid (T_1.out.step hm)
  clear T_1
  have A_3 := Lib.hid (A_2.out.step hm)
  clear A_2
  have HM_3 := Lib.hid (HM_1.out.trans hm)
  clear HM_1
  have WI_3 := Lib.hid (WI_1.out.mono hm.size)
  clear WI_1
  clear hm
  clear hbm
  go_wp2_with (first | ((with_reducible refine at_ld 68 (.tmp 2) ?_); refine ld_rp rfl _ rfl BA (0) rfl s ?_ ?_ ?_; exact HSL.out; exact (A_3.out.now).r))
  refine (of_any s HSL.out _).mono ?_
  rintro e w3 ⟨rfl, hb⟩
  have hbm : Below w2.heap.size w2 w3 := hb
  clear hb
  have hm : Mv No No w2 w3 := Mv.of_below hbm
  have T_4 := Lib.hid (T_3.out.step hm)
  clear T_3
  have A_4 := Lib.hid (A_3.out.step hm)
  clear A_3
  have HM_4 := Lib.hid (HM_3.out.trans hm)
  clear HM_3
  have WI_4 := Lib.hid (WI_3.out.mono hm.size)
  clear WI_3
  clear hm
  clear hbm
  go_wp2_with fail
  refine (HLY.out _).mono ?_
  rintro e w4 ⟨rfl, hb⟩
  have hbm : Below w3.heap.size w3 w4 := hb
  clear hb
  have hm : Mv No No w3 w4 := Mv.of_below hbm
  have T_5 := Lib.hid (T_4.out.step hm)
  clear T_4
  have A_5 := Lib.hid (A_4.out.step hm)
  clear A_4
  have HM_5 := Lib.hid (HM_4.out.trans hm)
  clear HM_4
  have WI_5 := Lib.hid (WI_4.out.mono hm.size)
  clear WI_4
  clear hm
  clear hbm
  go_wp2_with (first | ((with_reducible refine at_ld 68 (.tmp 2) ?_); refine ld_rp rfl _ rfl BA (0) rfl s ?_ ?_ ?_; exact HSL.out; exact (A_5.out.now).r))
  refine (HRR.out _).mono ?_
  rintro e w5 ⟨rfl, hb⟩
  have hbm : Below w4.heap.size w4 w5 := hb
  clear hb
  have hm : Mv No No w4 w5 := Mv.of_below hbm
  have T_6 := Lib.hid (T_5.out.step hm)
  clear T_5
  have A_6 := Lib.hid (A_5.out.step hm)
  clear A_5
  have HM_6 := Lib.hid (HM_5.out.trans hm)
  clear HM_5
  have WI_6 := Lib.hid (WI_5.out.mono hm.size)
  clear WI_5
  clear hm
  clear hbm
  go_wp2_with (first | ((with_reducible refine at_ld 68 (.tmp 2) ?_); refine ld_rp rfl _ rfl BA (0) rfl s ?_ ?_ ?_; exact HSL.out; exact (A_6.out.now).r))
  refine (of_any s HSL.out _).mono ?_
  rintro e w6 ⟨rfl, hb⟩
  have hbm : Below w5.heap.size w5 w6 := hb
  clear hb
  have hm : Mv No No w5 w6 := Mv.of_below hbm
  have T_7 := Lib.hid (T_6.out.step hm)
  clear T_6
  have A_7 := Lib.hid (A_6.out.step hm)
  clear A_6
  have HM_7 := Lib.hid (HM_6.out.trans hm)
  clear HM_6
  have WI_7 := Lib.hid (WI_6.out.mono hm.size)
  clear WI_6
  clear hm
  clear hbm
  go_wp2_with fail
  refine (HRT.out _).mono ?_
  rintro e w7 ⟨rfl, hb⟩
  have hbm : Below w6.heap.size w6 w7 := hb
  clear hb
  have hm : Mv No No w6 w7 := Mv.of_below hbm
  have T_8 := Lib.hid (T_7.out.step hm)
  clear T_7
  have A_8 := Lib.hid (A_7.out.step hm)
  clear A_7
  have HM_8 := Lib.hid (HM_7.out.trans hm)
  clear HM_7
  have WI_8 := Lib.hid (WI_7.out.mono hm.size)
  clear WI_7
  clear hm
  clear hbm
  go_wp2_with fail
  refine (Num_nil w7).mono ?_
  rintro e _ ⟨rfl, rfl⟩
  go_wp2_with (first | ((with_reducible refine at_ld 68 (.tmp 2) ?_); refine ldw_rp (by first | rfl | go_simp) (.tmp 2) rfl BA (0) rfl s ?_ ?_ ?_; exact HSL.out; exact (A_8.out.now).r))
  refine (HRL.out _).mono ?_
  rintro e w8 ⟨rfl, hb⟩
  have hbm : Below w7.heap.size w7 w8 := hb
  clear hb
  have hm : Mv No No w7 w8 := Mv.of_below hbm
  have T_9 := Lib.hid (T_8.out.step hm)
  clear T_8
  have A_9 := Lib.hid (A_8.out.step hm)
  clear A_8
  have HM_9 := Lib.hid (HM_8.out.trans hm)
  clear HM_8
  have WI_9 := Lib.hid (WI_8.out.mono hm.size)
  clear WI_8
  clear hm
  clear hbm
  go_wp2_with fail
  refine (HSR.out _).mono ?_
  rintro e w9 ⟨v2, rfl, he, hb⟩
  have hbm : Below w8.heap.size w8 w9 := hb
  clear hb
  have hm : Mv No No w8 w9 := Mv.of_below hbm
  have hst := Stays.err he WI_9.out
  clear he
  have T_10 := Lib.hid (T_9.out.step hm)
  clear T_9
  have A_10 := Lib.hid (A_9.out.step hm)
  clear A_9
  have HM_10 := Lib.hid (HM_9.out.trans hm)
  clear HM_9
  have WI_10 := Lib.hid (WI_9.out.mono hm.size)
  clear WI_9
  clear hm
  clear hbm
  have E2_11 := Lib.hid (hst)
  clear hst
  go_wp2_with (first | ((with_reducible refine at_al 72 ?_); refine al_sp rfl rfl ?_) | ((with_reducible refine at_st 72 (.tmp 8) (.tmp 52) ?_); refine stn_sp rfl _ _ rfl _ _ _ rfl rfl x ?_ rfl ?_ ?_; exact HXL.out; exact ssz))
  obtain ⟨w10, hw10⟩ : ∃ q, q = w9.alloc (.cells (sv (x)).toArray 72) := ⟨_, rfl⟩
  try rw [← hw10]
  have hbm : Below w9.heap.size w9 w10 := by rw [hw10]; exact (Below.refl _ _).alloc (Nat.le_refl _) _
  have hm : Mv No No w9 w10 := Mv.of_below hbm
  have hbx : Stays No w10 (fun W => SupAt W w9.heap.size (x)) := Stays.boxS HXL.out WI_10.out hw10
  have hsz10 : w10.heap.size = w9.heap.size + 1 := by rw [hw10]; simp
  obtain ⟨BX, hBX⟩ : ∃ q, q = w9.heap.size := ⟨_, rfl⟩
  try rw [← hBX]
  rw [← hBX] at hbx hsz10
  have T_12 := Lib.hid (T_10.out.step hm)
  clear T_10
  have A_12 := Lib.hid (A_10.out.step hm)
  clear A_10
  have E2_12 := Lib.hid (E2_11.out.step hm)
  clear E2_11
  have HM_12 := Lib.hid (HM_10.out.trans hm)
  clear HM_10
  have WI_12 := Lib.hid (WI_10.out.mono hm.size)
  clear WI_10
  clear hm
  clear hbm hw10 hBX
  have X_13 := Lib.hid (hbx)
  clear hbx
  clear hsz10
  refine (HRD.out _).mono ?_
  rintro e w11 ⟨rfl, hb⟩
  have hbm : Below w10.heap.size w10 w11 := hb
  clear hb
  have hm : Mv No No w10 w11 := Mv.of_below hbm
  have T_14 := Lib.hid (T_12.out.step hm)
  clear T_12
  have A_14 := Lib.hid (A_12.out.step hm)
  clear A_12
  have E2_14 := Lib.hid (E2_12.out.step hm)
  clear E2_12
  have X_14 := Lib.hid (X_13.out.step hm)
  clear X_13
  have HM_14 := Lib.hid (HM_12.out.trans hm)
  clear HM_12
  have WI_14 := Lib.hid (WI_12.out.mono hm.size)
  clear WI_12
  clear hm
  clear hbm
  go_wp2_with (first | ((with_reducible refine at_al 68 ?_); refine al_rp rfl rfl ?_) | ((with_reducible refine at_st 68 (.tmp 10) (.tmp 57) ?_); refine stn_rp rfl _ _ rfl _ _ _ rfl rfl x ?_ rfl ?_ ?_; exact HXL.out; exact ssz))
  obtain ⟨w12, hw12⟩ : ∃ q, q = w11.alloc (.cells (sv (x)).toArray 68) := ⟨_, rfl⟩
  try rw [← hw12]
  have hbm : Below w11.heap.size w11 w12 := by rw [hw12]; exact (Below.refl _ _).alloc (Nat.le_refl _) _
  have hm : Mv No No w11 w12 := Mv.of_below hbm
  have hbx : Stays No w12 (fun W => SupAt W w11.heap.size (x)) := Stays.boxS HXL.out WI_14.out hw12
  have hsz12 : w12.heap.size = w11.heap.size + 1 := by rw [hw12]; simp
  obtain ⟨BY, hBY⟩ : ∃ q, q = w11.heap.size := ⟨_, rfl⟩
  try rw [← hBY]
  rw [← hBY] at hbx hsz12
  have T_15 := Lib.hid (T_14.out.step hm)
  clear T_14
  have A_15 := Lib.hid (A_14.out.step hm)
  clear A_14
  have E2_15 := Lib.hid (E2_14.out.step hm)
  clear E2_14
  have X_15 := Lib.hid (X_14.out.step hm)
  clear X_14
  have HM_15 := Lib.hid (HM_14.out.trans hm)
  clear HM_14
  have WI_15 := Lib.hid (WI_14.out.mono hm.size)
  clear WI_14
  clear hm
  clear hbm hw12 hBY
  have Y_16 := Lib.hid (hbx)
  clear hbx
  clear hsz12
  have HSx : Hid (∀ wz, KF w12 wz → (fun wz => KF w12 wz) wz) := Lib.hid (fun wz h => h)
  refine wp_region_held_drew (S := fun wz => KF w12 wz) (by kernel_rfl) ?_ (fun hHeld => ?_)
  · exact HSx.out _ (KF.drew (KF.refl _))
  have hKF0 : KF w12 w12.drew := KF.drew (KF.refl _)
  refine wpAnyH_take (i := 0) (oi := { dst := Option.some 59, op := Go.Op.load 72 (Go.Operand.tmp 8), type := 72, pos := "law.go:52", after := #[], guard := Option.none }) rfl (by kernel_rfl) (by kernel_rfl) (by kernel_rfl) (fun _ _ _ h => h) (yieldsIf_load_mid (by rfl) 72 _ rfl BX 0 rfl (sv x) _ (fun W hW => (X_15.out.step (Mv.of_below hW)).now.r) Tryd.underlying72 rfl (szof_sp HXL.out)) (by assumption) ?_
  simp only [Act.put, List.setIfInBounds_toArray, List.set_cons_zero, List.set_cons_succ]
  refine wpAnyH_take (i := 2) (oi := { dst := Option.some 61, op := Go.Op.load 68 (Go.Operand.tmp 10), type := 68, pos := "law.go:52", after := #[], guard := Option.none }) rfl (by kernel_rfl) (by kernel_rfl) (by kernel_rfl) (fun _ _ _ h => h) (yieldsIf_load_mid (by rfl) 68 _ rfl BY 0 rfl (sv x) _ (fun W hW => (Y_16.out.step (Mv.of_below hW)).now.r) Tryd.underlying68 rfl (szof_rp HXL.out)) (by assumption) ?_
  simp only [Act.put, List.setIfInBounds_toArray, List.set_cons_zero, List.set_cons_succ]
  refine wpAnyH_ready (rs := [1]) (by kernel_rfl) (by simp) ?_
  refine AllReadyH.cons (o := { dst := Option.some 60, op := Go.Op.call { callee := Go.Callee.value (Go.Operand.func 46), args := #[Go.Operand.tmp 59], argTypes := #[72] }, type := 68, pos := "law.go:52", after := #[{ on := 0, ground := Go.Ground.data }], guard := Option.none }) rfl (fun K hK => ?_) AllReadyH.nil
  go_simp
  refine (HPL.out _).mono ?_
  rintro e w13 ⟨rfl, hb⟩
  have hKF1 : KF w12 w13 := KF.step hKF0 hb
  clear hb
  dsimp only
  refine hK.out _ _ (HSx.out _ hKF1) (fun hHeld1 => ?_)
  clear hK K
  try simp only [Act.put, List.setIfInBounds_toArray, List.set_cons_zero, List.set_cons_succ]
  refine wpAnyH_take (i := 3) (oi := { dst := Option.some 62, op := Go.Op.binOp Go.BinOp.eql 68 (Go.Operand.tmp 60) (Go.Operand.tmp 61) 68, type := 4, pos := "law.go:52", after := #[{ on := 1, ground := Go.Ground.data }, { on := 2, ground := Go.Ground.data }], guard := Option.none }) rfl (by kernel_rfl) (by kernel_rfl) (by kernel_rfl) (fun _ _ _ h => h) (yif_eq_rp (by rfl) _ _ rfl x x rfl rfl HXL.out HXL.out) (by assumption) ?_
  simp only [Act.put, List.setIfInBounds_toArray, List.set_cons_zero, List.set_cons_succ]
  rw [hse]
  refine wpAnyH_take (i := 4) (oi := { dst := Option.some 63, op := Go.Op.move (Go.Operand.tmp 62), type := 4, pos := "law.go:52", after := #[{ on := 3, ground := Go.Ground.data }, { on := 1, ground := Go.Ground.chain }], guard := Option.none }) (v := ?_) rfl (by kernel_rfl) (by kernel_rfl) (by kernel_rfl) (fun _ _ _ h => h) (Or.inl ⟨by rfl, ?_⟩) (by assumption) ?_
  rotate_left
  · intro w hSw; (try dsimp only at hSw); go_simp; (try with_reducible rfl)
  simp only [Act.put, List.setIfInBounds_toArray, List.set_cons_zero, List.set_cons_succ]
  refine wpAnyH_take (i := 5) (oi := { dst := Option.some 64, op := Go.Op.move (Go.Operand.tmp 11), type := 4, pos := "law.go:52", after := #[{ on := 4, ground := Go.Ground.guard }], guard := Option.some (4, Bool.true) }) (v := ?_) rfl (by kernel_rfl) (by kernel_rfl) (by kernel_rfl) (fun _ _ _ h => h) (Or.inl ⟨by rfl, ?_⟩) (by assumption) ?_
  rotate_left
  · intro w hSw; (try dsimp only at hSw); go_simp; (try with_reducible rfl)
  simp only [Act.put, List.setIfInBounds_toArray, List.set_cons_zero, List.set_cons_succ]
  refine wpAnyH_take (i := 6) (oi := { dst := Option.some 65, op := Go.Op.move (Go.Operand.tmp 9), type := 26, pos := "law.go:52", after := #[{ on := 4, ground := Go.Ground.guard }], guard := Option.some (4, Bool.true) }) (v := ?_) rfl (by kernel_rfl) (by kernel_rfl) (by kernel_rfl) (fun _ _ _ h => h) (Or.inl ⟨by rfl, ?_⟩) (by assumption) ?_
  rotate_left
  · intro w hSw; (try dsimp only at hSw); go_simp; (try with_reducible rfl)
  simp only [Act.put, List.setIfInBounds_toArray, List.set_cons_zero, List.set_cons_succ]
  refine wpAnyH_ready (rs := [7]) (by kernel_rfl) (by simp) ?_
  refine AllReadyH.cons (o := { dst := Option.some 66, op := Go.Op.call { callee := Go.Callee.value (Go.Operand.func 21), args := #[Go.Operand.tmp 65], argTypes := #[26] }, type := 3, pos := "law.go:52", after := #[{ on := 6, ground := Go.Ground.data }, { on := 4, ground := Go.Ground.chain }, { on := 4, ground := Go.Ground.guard }], guard := Option.some (4, Bool.true) }) rfl (fun K hK => ?_) AllReadyH.nil
  go_simp
  refine (Num_c _ v2 2 (E2_15.out.step (Mv.of_below hKF1)).now (T_15.out.step (Mv.of_below hKF1)).now).mono ?_
  rintro e w14 ⟨rfl, hb⟩
  have hKF2 : KF w12 w14 := KF.step hKF1 hb
  clear hb
  dsimp only
  refine hK.out _ _ (HSx.out _ hKF2) (fun hHeld2 => ?_)
  clear hK K
  try simp only [Act.put, List.setIfInBounds_toArray, List.set_cons_zero, List.set_cons_succ]
  refine wpAnyH_take (i := 8) (oi := { dst := Option.some 67, op := Go.Op.binOp Go.BinOp.eql 3 (Go.Operand.tmp 66) (Go.Operand.const (Go.Value.int Go.IntKind.i64 0)) 3, type := 4, pos := "law.go:52", after := #[{ on := 7, ground := Go.Ground.data }, { on := 4, ground := Go.Ground.guard }], guard := Option.some (4, Bool.true) }) (v := ?_) rfl (by kernel_rfl) (by kernel_rfl) (by kernel_rfl) (fun _ _ _ h => h) (Or.inl ⟨by rfl, ?_⟩) (by assumption) ?_
  rotate_left
  · intro w hSw; (try dsimp only at hSw); go_simp; (try with_reducible rfl)
  simp only [Act.put, List.setIfInBounds_toArray, List.set_cons_zero, List.set_cons_succ]
  refine wpAnyH_take (i := 9) (oi := { dst := Option.some 68, op := Go.Op.binOp Go.BinOp.eql 4 (Go.Operand.tmp 64) (Go.Operand.tmp 67) 4, type := 4, pos := "law.go:52", after := #[{ on := 5, ground := Go.Ground.data }, { on := 8, ground := Go.Ground.data }, { on := 4, ground := Go.Ground.guard }], guard := Option.some (4, Bool.true) }) (v := ?_) rfl (by kernel_rfl) (by kernel_rfl) (by kernel_rfl) (fun _ _ _ h => h) (Or.inl ⟨by rfl, ?_⟩) (by assumption) ?_
  rotate_left
  · intro w hSw; (try dsimp only at hSw); go_simp; (try with_reducible rfl)
  simp only [Act.put, List.setIfInBounds_toArray, List.set_cons_zero, List.set_cons_succ]
  refine wpAnyH_take (i := 10) (oi := { dst := Option.some 69, op := Go.Op.pick (Go.Operand.tmp 63) (Go.Operand.tmp 68) (Go.Operand.const (Go.Value.bool Bool.false)), type := 4, pos := "law.go:52", after := #[{ on := 4, ground := Go.Ground.data }, { on := 9, ground := Go.Ground.data }], guard := Option.none }) (v := ?_) rfl (by kernel_rfl) (by kernel_rfl) (by kernel_rfl) (fun _ _ _ h => h) (Or.inl ⟨by rfl, ?_⟩) (by assumption) ?_
  rotate_left
  · intro w hSw; (try dsimp only at hSw); go_simp; (try with_reducible rfl)
  simp only [Act.put, List.setIfInBounds_toArray, List.set_cons_zero, List.set_cons_succ]
  refine wpAnyH_take (i := 11) (oi := { dst := Option.some 70, op := Go.Op.move (Go.Operand.tmp 69), type := 4, pos := "law.go:52", after := #[{ on := 10, ground := Go.Ground.data }, { on := 7, ground := Go.Ground.chain }], guard := Option.none }) (v := ?_) rfl (by kernel_rfl) (by kernel_rfl) (by kernel_rfl) (fun _ _ _ h => h) (Or.inl ⟨by rfl, ?_⟩) (by assumption) ?_
  rotate_left
  · intro w hSw; (try dsimp only at hSw); go_simp; (try with_reducible rfl)
  simp only [Act.put, List.setIfInBounds_toArray, List.set_cons_zero, List.set_cons_succ]
  refine wpAnyH_take (i := 12) (oi := { dst := Option.some 71, op := Go.Op.move (Go.Operand.tmp 11), type := 4, pos := "law.go:52", after := #[{ on := 11, ground := Go.Ground.guard }], guard := Option.some (11, Bool.true) }) (v := ?_) rfl (by kernel_rfl) (by kernel_rfl) (by kernel_rfl) (fun _ _ _ h => h) (Or.inl ⟨by rfl, ?_⟩) (by assumption) ?_
  rotate_left
  · intro w hSw; (try dsimp only at hSw); go_simp; (try with_reducible rfl)
  simp only [Act.put, List.setIfInBounds_toArray, List.set_cons_zero, List.set_cons_succ]
  refine wpAnyH_take (i := 13) (oi := { dst := Option.some 72, op := Go.Op.move (Go.Operand.tmp 71), type := 4, pos := "law.go:52", after := #[{ on := 12, ground := Go.Ground.data }, { on := 11, ground := Go.Ground.chain }, { on := 11, ground := Go.Ground.guard }], guard := Option.some (11, Bool.true) }) (v := ?_) rfl (by kernel_rfl) (by kernel_rfl) (by kernel_rfl) (fun _ _ _ h => h) (Or.inl ⟨by rfl, ?_⟩) (by assumption) ?_
  rotate_left
  · intro w hSw; (try dsimp only at hSw); go_simp; (try with_reducible rfl)
  simp only [Act.put, List.setIfInBounds_toArray, List.set_cons_zero, List.set_cons_succ]
  refine wpAnyH_take (i := 14) (oi := { dst := Option.some 73, op := Go.Op.move (Go.Operand.tmp 9), type := 26, pos := "law.go:52", after := #[{ on := 13, ground := Go.Ground.guard }], guard := Option.some (13, Bool.false) }) (v := ?_) rfl (by kernel_rfl) (by kernel_rfl) (by kernel_rfl) (fun _ _ _ h => h) (Or.inl ⟨by rfl, ?_⟩) (by assumption) ?_
  rotate_left
  · intro w hSw; (try dsimp only at hSw); go_simp; (try with_reducible rfl)
  simp only [Act.put, List.setIfInBounds_toArray, List.set_cons_zero, List.set_cons_succ]
  refine wpAnyH_ready (rs := [15]) (by kernel_rfl) (by simp) ?_
  refine AllReadyH.cons (o := { dst := Option.some 74, op := Go.Op.call { callee := Go.Callee.value (Go.Operand.func 21), args := #[Go.Operand.tmp 73], argTypes := #[26] }, type := 3, pos := "law.go:52", after := #[{ on := 14, ground := Go.Ground.data }, { on := 13, ground := Go.Ground.chain }, { on := 13, ground := Go.Ground.guard }], guard := Option.some (13, Bool.false) }) rfl (fun K hK => ?_) AllReadyH.nil
  go_simp
  refine (Num_c _ v2 2 (E2_15.out.step (Mv.of_below hKF2)).now (T_15.out.step (Mv.of_below hKF2)).now).mono ?_
  rintro e w15 ⟨rfl, hb⟩
  have hKF3 : KF w12 w15 := KF.step hKF2 hb
  clear hb
  dsimp only
  refine hK.out _ _ (HSx.out _ hKF3) (fun hHeld3 => ?_)
  clear hK K
  try simp only [Act.put, List.setIfInBounds_toArray, List.set_cons_zero, List.set_cons_succ]
  refine wpAnyH_take (i := 16) (oi := { dst := Option.some 75, op := Go.Op.binOp Go.BinOp.eql 3 (Go.Operand.tmp 74) (Go.Operand.const (Go.Value.int Go.IntKind.i64 2)) 3, type := 4, pos := "law.go:52", after := #[{ on := 15, ground := Go.Ground.data }, { on := 13, ground := Go.Ground.guard }], guard := Option.some (13, Bool.false) }) (v := ?_) rfl (by kernel_rfl) (by kernel_rfl) (by kernel_rfl) (fun _ _ _ h => h) (Or.inl ⟨by rfl, ?_⟩) (by assumption) ?_
  rotate_left
  · intro w hSw; (try dsimp only at hSw); go_simp; (try with_reducible rfl)
  simp only [Act.put, List.setIfInBounds_toArray, List.set_cons_zero, List.set_cons_succ]
  refine wpAnyH_take (i := 17) (oi := { dst := Option.some 76, op := Go.Op.pick (Go.Operand.tmp 72) (Go.Operand.const (Go.Value.bool Bool.true)) (Go.Operand.tmp 75), type := 4, pos := "law.go:52", after := #[{ on := 13, ground := Go.Ground.data }, { on := 16, ground := Go.Ground.data }, { on := 11, ground := Go.Ground.guard }], guard := Option.some (11, Bool.true) }) (v := ?_) rfl (by kernel_rfl) (by kernel_rfl) (by kernel_rfl) (fun _ _ _ h => h) (Or.inl ⟨by rfl, ?_⟩) (by assumption) ?_
  rotate_left
  · intro w hSw; (try dsimp only at hSw); go_simp; (try with_reducible rfl)
  simp only [Act.put, List.setIfInBounds_toArray, List.set_cons_zero, List.set_cons_succ]
  refine wpAnyH_take (i := 18) (oi := { dst := Option.some 77, op := Go.Op.pick (Go.Operand.tmp 70) (Go.Operand.tmp 76) (Go.Operand.const (Go.Value.bool Bool.false)), type := 4, pos := "law.go:52", after := #[{ on := 11, ground := Go.Ground.data }, { on := 17, ground := Go.Ground.data }], guard := Option.none }) (v := ?_) rfl (by kernel_rfl) (by kernel_rfl) (by kernel_rfl) (fun _ _ _ h => h) (Or.inl ⟨by rfl, ?_⟩) (by assumption) ?_
  rotate_left
  · intro w hSw; (try dsimp only at hSw); go_simp; (try with_reducible rfl)
  simp only [Act.put, List.setIfInBounds_toArray, List.set_cons_zero, List.set_cons_succ]
  refine wpAnyH_take (i := 19) (oi := { dst := Option.some 4, op := Go.Op.assign (Go.Operand.tmp 77), type := 4, pos := "law.go:52", after := #[{ on := 18, ground := Go.Ground.data }, { on := 15, ground := Go.Ground.chain }, { on := 0, ground := Go.Ground.phase }, { on := 1, ground := Go.Ground.phase }, { on := 2, ground := Go.Ground.phase }, { on := 3, ground := Go.Ground.phase }, { on := 4, ground := Go.Ground.phase }, { on := 5, ground := Go.Ground.phase }, { on := 6, ground := Go.Ground.phase }, { on := 7, ground := Go.Ground.phase }, { on := 8, ground := Go.Ground.phase }, { on := 9, ground := Go.Ground.phase }, { on := 10, ground := Go.Ground.phase }, { on := 11, ground := Go.Ground.phase }, { on := 12, ground := Go.Ground.phase }, { on := 13, ground := Go.Ground.phase }, { on := 14, ground := Go.Ground.phase }, { on := 15, ground := Go.Ground.phase }, { on := 16, ground := Go.Ground.phase }, { on := 17, ground := Go.Ground.phase }, { on := 18, ground := Go.Ground.phase }], guard := Option.none }) (v := ?_) rfl (by kernel_rfl) (by kernel_rfl) (by kernel_rfl) (fun _ _ _ h => h) (Or.inl ⟨by rfl, ?_⟩) (by assumption) ?_
  rotate_left
  · intro w hSw; (try dsimp only at hSw); go_simp; (try with_reducible rfl)
  simp only [Act.put, List.setIfInBounds_toArray, List.set_cons_zero, List.set_cons_succ]
  refine wpAnyH_done (by kernel_rfl) ?_ _
  have hbm : Below w12.heap.size w12 w15 := hKF3
  have hm : Mv No No w12 w15 := Mv.of_below hbm
  have T_17 := Lib.hid (T_15.out.step hm)
  clear T_15
  have A_17 := Lib.hid (A_15.out.step hm)
  clear A_15
  have E2_17 := Lib.hid (E2_15.out.step hm)
  clear E2_15
  have X_17 := Lib.hid (X_15.out.step hm)
  clear X_15
  have Y_17 := Lib.hid (Y_16.out.step hm)
  clear Y_16
  have HM_17 := Lib.hid (HM_15.out.trans hm)
  clear HM_15
  have WI_17 := Lib.hid (WI_15.out.mono hm.size)
  clear WI_15
  clear hm
  clear hbm HSx hKF0 hKF1 hKF2 hKF3
  go_wp2_with fail
  go_ret
  exact ⟨rfl, HM_17.out.below⟩
set_option maxHeartbeats 8000000 in
set_option maxRecDepth 100000 in
theorem splays_tt (s : Sup) (hf : s.Fits) (d : ByteArray) (h0 : d.size ≤ 200) (hr : rightB s = true) (ho : okU d = true) (w : World) (tied : Tied w) : Calls Tryd.prog 10 #[.agg (sv s).toArray, .string d] w fun e w' => e = .returned (.bool true) ∧ Below w.heap.size w w' := by
  have HSL := Lib.hid hf.l
  have hd : decide (200 < (d.size : Int)) = false := by simp; omega
  have HRT := Lib.hid (fun w => right_any s hf.l w)
  have HRR := Lib.hid (fun w => rright_any s hf.l hf.g0 w)
  rw [hr] at HRT HRR
  have HLY := Lib.hid (fun w => slay_ok s hf hr w)
  have HRL := Lib.hid (fun w => rlay_sup s hf hr w)
  obtain ⟨t, ht⟩ : ∃ q, q = layU s := ⟨_, rfl⟩
  rw [← ht] at HLY HRL
  clear ht
  have HSR := Lib.hid (fun w => sread_any d w)
  have HRD := Lib.hid (fun w => rread_sup d w)
  rw [ho] at HSR HRD
  rw [if_pos rfl] at HSR
  have hul := (readU_fits d).l
  obtain ⟨x, hx⟩ : ∃ q, q = readU d := ⟨_, rfl⟩
  rw [← hx] at HSR HRD hul
  have HXL := Lib.hid hul
  have HPL := Lib.hid (fun w => plain_any x hul w)
  have hse := supE_self x
  clear hf hr ho hx hul h0
  have HM0 := Lib.hid (Mv.refl No w)
  have T0 := Lib.hid (Stays.tied tied)
  have WI0 := Lib.hid (Wi.no w)
  clear tied
  go_enter Tryd.func10, Tryd.ntmps10
  go_upto_region 1 with fail
  obtain ⟨w1, hw1⟩ : ∃ q, q = w.alloc (.cells (sv (s)).toArray 68) := ⟨_, rfl⟩
  try rw [← hw1]
  have hbm : Below w.heap.size w w1 := by rw [hw1]; exact (Below.refl _ _).alloc (Nat.le_refl _) _
  have hm : Mv No No w w1 := Mv.of_below hbm
  have hbx : Stays No w1 (fun W => SupAt W w.heap.size (s)) := Stays.boxS HSL.out WI0.out hw1
  have hsz1 : w1.heap.size = w.heap.size + 1 := by rw [hw1]; simp
  obtain ⟨BA, hBA⟩ : ∃ q, q = w.heap.size := ⟨_, rfl⟩
  try rw [← hBA]
  rw [← hBA] at hbx hsz1
  have T_1 := Lib.hid (T0.out.step hm)
  clear T0
  have HM_1 := Lib.hid (HM0.out.trans hm)
  clear HM0
  have WI_1 := Lib.hid (WI0.out.mono hm.size)
  clear WI0
  clear hm
  clear hbm hw1 hBA
  have A_2 := Lib.hid (hbx)
  clear hbx
  clear hsz1
  go_wp2_with fail
  refine (awake7 _ T_1.out.now).mono ?_
  rintro e w2 ⟨rfl, hb⟩
  have hbm : Below w1.heap.size w1 w2 := hb
  clear hb
  have hm : Mv No No w1 w2 := Mv.of_below hbm
  have T_3 := Lib.hid (T_1.out.step hm)
  clear T_1
  have A_3 := Lib.hid (A_2.out.step hm)
  clear A_2
  have HM_3 := Lib.hid (HM_1.out.trans hm)
  clear HM_1
  have WI_3 := Lib.hid (WI_1.out.mono hm.size)
  clear WI_1
  clear hm
  clear hbm
  go_wp2_with (first | ((with_reducible refine at_ld 68 (.tmp 2) ?_); refine ld_rp rfl _ rfl BA (0) rfl s ?_ ?_ ?_; exact HSL.out; exact (A_3.out.now).r))
  refine (of_any s HSL.out _).mono ?_
  rintro e w3 ⟨rfl, hb⟩
  have hbm : Below w2.heap.size w2 w3 := hb
  clear hb
  have hm : Mv No No w2 w3 := Mv.of_below hbm
  have T_4 := Lib.hid (T_3.out.step hm)
  clear T_3
  have A_4 := Lib.hid (A_3.out.step hm)
  clear A_3
  have HM_4 := Lib.hid (HM_3.out.trans hm)
  clear HM_3
  have WI_4 := Lib.hid (WI_3.out.mono hm.size)
  clear WI_3
  clear hm
  clear hbm
  go_wp2_with fail
  refine (HLY.out _).mono ?_
  rintro e w4 ⟨rfl, hb⟩
  have hbm : Below w3.heap.size w3 w4 := hb
  clear hb
  have hm : Mv No No w3 w4 := Mv.of_below hbm
  have T_5 := Lib.hid (T_4.out.step hm)
  clear T_4
  have A_5 := Lib.hid (A_4.out.step hm)
  clear A_4
  have HM_5 := Lib.hid (HM_4.out.trans hm)
  clear HM_4
  have WI_5 := Lib.hid (WI_4.out.mono hm.size)
  clear WI_4
  clear hm
  clear hbm
  go_wp2_with (first | ((with_reducible refine at_ld 68 (.tmp 2) ?_); refine ld_rp rfl _ rfl BA (0) rfl s ?_ ?_ ?_; exact HSL.out; exact (A_5.out.now).r))
  refine (HRR.out _).mono ?_
  rintro e w5 ⟨rfl, hb⟩
  have hbm : Below w4.heap.size w4 w5 := hb
  clear hb
  have hm : Mv No No w4 w5 := Mv.of_below hbm
  have T_6 := Lib.hid (T_5.out.step hm)
  clear T_5
  have A_6 := Lib.hid (A_5.out.step hm)
  clear A_5
  have HM_6 := Lib.hid (HM_5.out.trans hm)
  clear HM_5
  have WI_6 := Lib.hid (WI_5.out.mono hm.size)
  clear WI_5
  clear hm
  clear hbm
  go_wp2_with (first | ((with_reducible refine at_ld 68 (.tmp 2) ?_); refine ld_rp rfl _ rfl BA (0) rfl s ?_ ?_ ?_; exact HSL.out; exact (A_6.out.now).r))
  refine (of_any s HSL.out _).mono ?_
  rintro e w6 ⟨rfl, hb⟩
  have hbm : Below w5.heap.size w5 w6 := hb
  clear hb
  have hm : Mv No No w5 w6 := Mv.of_below hbm
  have T_7 := Lib.hid (T_6.out.step hm)
  clear T_6
  have A_7 := Lib.hid (A_6.out.step hm)
  clear A_6
  have HM_7 := Lib.hid (HM_6.out.trans hm)
  clear HM_6
  have WI_7 := Lib.hid (WI_6.out.mono hm.size)
  clear WI_6
  clear hm
  clear hbm
  go_wp2_with fail
  refine (HRT.out _).mono ?_
  rintro e w7 ⟨rfl, hb⟩
  have hbm : Below w6.heap.size w6 w7 := hb
  clear hb
  have hm : Mv No No w6 w7 := Mv.of_below hbm
  have T_8 := Lib.hid (T_7.out.step hm)
  clear T_7
  have A_8 := Lib.hid (A_7.out.step hm)
  clear A_7
  have HM_8 := Lib.hid (HM_7.out.trans hm)
  clear HM_7
  have WI_8 := Lib.hid (WI_7.out.mono hm.size)
  clear WI_7
  clear hm
  clear hbm
  go_wp2_with fail
  refine (Num_nil w7).mono ?_
  rintro e _ ⟨rfl, rfl⟩
  go_wp2_with (first | ((with_reducible refine at_ld 68 (.tmp 2) ?_); refine ldw_rp (by first | rfl | go_simp) (.tmp 2) rfl BA (0) rfl s ?_ ?_ ?_; exact HSL.out; exact (A_8.out.now).r))
  refine (HRL.out _).mono ?_
  rintro e w8 ⟨rfl, hb⟩
  have hbm : Below w7.heap.size w7 w8 := hb
  clear hb
  have hm : Mv No No w7 w8 := Mv.of_below hbm
  have T_9 := Lib.hid (T_8.out.step hm)
  clear T_8
  have A_9 := Lib.hid (A_8.out.step hm)
  clear A_8
  have HM_9 := Lib.hid (HM_8.out.trans hm)
  clear HM_8
  have WI_9 := Lib.hid (WI_8.out.mono hm.size)
  clear WI_8
  clear hm
  clear hbm
  go_wp2_with fail
  refine (HSR.out _).mono ?_
  rintro e w9 ⟨v2, rfl, he, hb⟩
  have hbm : Below w8.heap.size w8 w9 := hb
  clear hb
  have hm : Mv No No w8 w9 := Mv.of_below hbm
  have T_10 := Lib.hid (T_9.out.step hm)
  clear T_9
  have A_10 := Lib.hid (A_9.out.step hm)
  clear A_9
  have HM_10 := Lib.hid (HM_9.out.trans hm)
  clear HM_9
  have WI_10 := Lib.hid (WI_9.out.mono hm.size)
  clear WI_9
  clear hm
  clear hbm
  obtain rfl := ErrC.zero he
  clear he
  go_wp2_with (first | ((with_reducible refine at_al 72 ?_); refine al_sp rfl rfl ?_) | ((with_reducible refine at_st 72 (.tmp 8) (.tmp 52) ?_); refine stn_sp rfl _ _ rfl _ _ _ rfl rfl x ?_ rfl ?_ ?_; exact HXL.out; exact ssz))
  obtain ⟨w10, hw10⟩ : ∃ q, q = w9.alloc (.cells (sv (x)).toArray 72) := ⟨_, rfl⟩
  try rw [← hw10]
  have hbm : Below w9.heap.size w9 w10 := by rw [hw10]; exact (Below.refl _ _).alloc (Nat.le_refl _) _
  have hm : Mv No No w9 w10 := Mv.of_below hbm
  have hbx : Stays No w10 (fun W => SupAt W w9.heap.size (x)) := Stays.boxS HXL.out WI_10.out hw10
  have hsz10 : w10.heap.size = w9.heap.size + 1 := by rw [hw10]; simp
  obtain ⟨BX, hBX⟩ : ∃ q, q = w9.heap.size := ⟨_, rfl⟩
  try rw [← hBX]
  rw [← hBX] at hbx hsz10
  have T_11 := Lib.hid (T_10.out.step hm)
  clear T_10
  have A_11 := Lib.hid (A_10.out.step hm)
  clear A_10
  have HM_11 := Lib.hid (HM_10.out.trans hm)
  clear HM_10
  have WI_11 := Lib.hid (WI_10.out.mono hm.size)
  clear WI_10
  clear hm
  clear hbm hw10 hBX
  have X_12 := Lib.hid (hbx)
  clear hbx
  clear hsz10
  refine (HRD.out _).mono ?_
  rintro e w11 ⟨rfl, hb⟩
  have hbm : Below w10.heap.size w10 w11 := hb
  clear hb
  have hm : Mv No No w10 w11 := Mv.of_below hbm
  have T_13 := Lib.hid (T_11.out.step hm)
  clear T_11
  have A_13 := Lib.hid (A_11.out.step hm)
  clear A_11
  have X_13 := Lib.hid (X_12.out.step hm)
  clear X_12
  have HM_13 := Lib.hid (HM_11.out.trans hm)
  clear HM_11
  have WI_13 := Lib.hid (WI_11.out.mono hm.size)
  clear WI_11
  clear hm
  clear hbm
  go_wp2_with (first | ((with_reducible refine at_al 68 ?_); refine al_rp rfl rfl ?_) | ((with_reducible refine at_st 68 (.tmp 10) (.tmp 57) ?_); refine stn_rp rfl _ _ rfl _ _ _ rfl rfl x ?_ rfl ?_ ?_; exact HXL.out; exact ssz))
  obtain ⟨w12, hw12⟩ : ∃ q, q = w11.alloc (.cells (sv (x)).toArray 68) := ⟨_, rfl⟩
  try rw [← hw12]
  have hbm : Below w11.heap.size w11 w12 := by rw [hw12]; exact (Below.refl _ _).alloc (Nat.le_refl _) _
  have hm : Mv No No w11 w12 := Mv.of_below hbm
  have hbx : Stays No w12 (fun W => SupAt W w11.heap.size (x)) := Stays.boxS HXL.out WI_13.out hw12
  have hsz12 : w12.heap.size = w11.heap.size + 1 := by rw [hw12]; simp
  obtain ⟨BY, hBY⟩ : ∃ q, q = w11.heap.size := ⟨_, rfl⟩
  try rw [← hBY]
  rw [← hBY] at hbx hsz12
  have T_14 := Lib.hid (T_13.out.step hm)
  clear T_13
  have A_14 := Lib.hid (A_13.out.step hm)
  clear A_13
  have X_14 := Lib.hid (X_13.out.step hm)
  clear X_13
  have HM_14 := Lib.hid (HM_13.out.trans hm)
  clear HM_13
  have WI_14 := Lib.hid (WI_13.out.mono hm.size)
  clear WI_13
  clear hm
  clear hbm hw12 hBY
  have Y_15 := Lib.hid (hbx)
  clear hbx
  clear hsz12
  have HSx : Hid (∀ wz, KF w12 wz → (fun wz => KF w12 wz) wz) := Lib.hid (fun wz h => h)
  refine wp_region_held_drew (S := fun wz => KF w12 wz) (by kernel_rfl) ?_ (fun hHeld => ?_)
  · exact HSx.out _ (KF.drew (KF.refl _))
  have hKF0 : KF w12 w12.drew := KF.drew (KF.refl _)
  refine wpAnyH_take (i := 0) (oi := { dst := Option.some 59, op := Go.Op.load 72 (Go.Operand.tmp 8), type := 72, pos := "law.go:52", after := #[], guard := Option.none }) rfl (by kernel_rfl) (by kernel_rfl) (by kernel_rfl) (fun _ _ _ h => h) (yieldsIf_load_mid (by rfl) 72 _ rfl BX 0 rfl (sv x) _ (fun W hW => (X_14.out.step (Mv.of_below hW)).now.r) Tryd.underlying72 rfl (szof_sp HXL.out)) (by assumption) ?_
  simp only [Act.put, List.setIfInBounds_toArray, List.set_cons_zero, List.set_cons_succ]
  refine wpAnyH_take (i := 2) (oi := { dst := Option.some 61, op := Go.Op.load 68 (Go.Operand.tmp 10), type := 68, pos := "law.go:52", after := #[], guard := Option.none }) rfl (by kernel_rfl) (by kernel_rfl) (by kernel_rfl) (fun _ _ _ h => h) (yieldsIf_load_mid (by rfl) 68 _ rfl BY 0 rfl (sv x) _ (fun W hW => (Y_15.out.step (Mv.of_below hW)).now.r) Tryd.underlying68 rfl (szof_rp HXL.out)) (by assumption) ?_
  simp only [Act.put, List.setIfInBounds_toArray, List.set_cons_zero, List.set_cons_succ]
  refine wpAnyH_ready (rs := [1]) (by kernel_rfl) (by simp) ?_
  refine AllReadyH.cons (o := { dst := Option.some 60, op := Go.Op.call { callee := Go.Callee.value (Go.Operand.func 46), args := #[Go.Operand.tmp 59], argTypes := #[72] }, type := 68, pos := "law.go:52", after := #[{ on := 0, ground := Go.Ground.data }], guard := Option.none }) rfl (fun K hK => ?_) AllReadyH.nil
  go_simp
  refine (HPL.out _).mono ?_
  rintro e w13 ⟨rfl, hb⟩
  have hKF1 : KF w12 w13 := KF.step hKF0 hb
  clear hb
  dsimp only
  refine hK.out _ _ (HSx.out _ hKF1) (fun hHeld1 => ?_)
  clear hK K
  try simp only [Act.put, List.setIfInBounds_toArray, List.set_cons_zero, List.set_cons_succ]
  refine wpAnyH_take (i := 3) (oi := { dst := Option.some 62, op := Go.Op.binOp Go.BinOp.eql 68 (Go.Operand.tmp 60) (Go.Operand.tmp 61) 68, type := 4, pos := "law.go:52", after := #[{ on := 1, ground := Go.Ground.data }, { on := 2, ground := Go.Ground.data }], guard := Option.none }) rfl (by kernel_rfl) (by kernel_rfl) (by kernel_rfl) (fun _ _ _ h => h) (yif_eq_rp (by rfl) _ _ rfl x x rfl rfl HXL.out HXL.out) (by assumption) ?_
  simp only [Act.put, List.setIfInBounds_toArray, List.set_cons_zero, List.set_cons_succ]
  rw [hse]
  refine wpAnyH_take (i := 4) (oi := { dst := Option.some 63, op := Go.Op.move (Go.Operand.tmp 62), type := 4, pos := "law.go:52", after := #[{ on := 3, ground := Go.Ground.data }, { on := 1, ground := Go.Ground.chain }], guard := Option.none }) (v := ?_) rfl (by kernel_rfl) (by kernel_rfl) (by kernel_rfl) (fun _ _ _ h => h) (Or.inl ⟨by rfl, ?_⟩) (by assumption) ?_
  rotate_left
  · intro w hSw; (try dsimp only at hSw); go_simp; (try with_reducible rfl)
  simp only [Act.put, List.setIfInBounds_toArray, List.set_cons_zero, List.set_cons_succ]
  refine wpAnyH_take (i := 5) (oi := { dst := Option.some 64, op := Go.Op.move (Go.Operand.tmp 11), type := 4, pos := "law.go:52", after := #[{ on := 4, ground := Go.Ground.guard }], guard := Option.some (4, Bool.true) }) (v := ?_) rfl (by kernel_rfl) (by kernel_rfl) (by kernel_rfl) (fun _ _ _ h => h) (Or.inl ⟨by rfl, ?_⟩) (by assumption) ?_
  rotate_left
  · intro w hSw; (try dsimp only at hSw); go_simp; (try with_reducible rfl)
  simp only [Act.put, List.setIfInBounds_toArray, List.set_cons_zero, List.set_cons_succ]
  refine wpAnyH_take (i := 6) (oi := { dst := Option.some 65, op := Go.Op.move (Go.Operand.tmp 9), type := 26, pos := "law.go:52", after := #[{ on := 4, ground := Go.Ground.guard }], guard := Option.some (4, Bool.true) }) (v := ?_) rfl (by kernel_rfl) (by kernel_rfl) (by kernel_rfl) (fun _ _ _ h => h) (Or.inl ⟨by rfl, ?_⟩) (by assumption) ?_
  rotate_left
  · intro w hSw; (try dsimp only at hSw); go_simp; (try with_reducible rfl)
  simp only [Act.put, List.setIfInBounds_toArray, List.set_cons_zero, List.set_cons_succ]
  refine wpAnyH_ready (rs := [7]) (by kernel_rfl) (by simp) ?_
  refine AllReadyH.cons (o := { dst := Option.some 66, op := Go.Op.call { callee := Go.Callee.value (Go.Operand.func 21), args := #[Go.Operand.tmp 65], argTypes := #[26] }, type := 3, pos := "law.go:52", after := #[{ on := 6, ground := Go.Ground.data }, { on := 4, ground := Go.Ground.chain }, { on := 4, ground := Go.Ground.guard }], guard := Option.some (4, Bool.true) }) rfl (fun K hK => ?_) AllReadyH.nil
  go_simp
  refine (num_nil_b2 _).mono ?_
  rintro e w14 ⟨rfl, hb⟩
  have hKF2 : KF w12 w14 := KF.step hKF1 hb
  clear hb
  dsimp only
  refine hK.out _ _ (HSx.out _ hKF2) (fun hHeld2 => ?_)
  clear hK K
  try simp only [Act.put, List.setIfInBounds_toArray, List.set_cons_zero, List.set_cons_succ]
  refine wpAnyH_take (i := 8) (oi := { dst := Option.some 67, op := Go.Op.binOp Go.BinOp.eql 3 (Go.Operand.tmp 66) (Go.Operand.const (Go.Value.int Go.IntKind.i64 0)) 3, type := 4, pos := "law.go:52", after := #[{ on := 7, ground := Go.Ground.data }, { on := 4, ground := Go.Ground.guard }], guard := Option.some (4, Bool.true) }) (v := ?_) rfl (by kernel_rfl) (by kernel_rfl) (by kernel_rfl) (fun _ _ _ h => h) (Or.inl ⟨by rfl, ?_⟩) (by assumption) ?_
  rotate_left
  · intro w hSw; (try dsimp only at hSw); go_simp; (try with_reducible rfl)
  simp only [Act.put, List.setIfInBounds_toArray, List.set_cons_zero, List.set_cons_succ]
  refine wpAnyH_take (i := 9) (oi := { dst := Option.some 68, op := Go.Op.binOp Go.BinOp.eql 4 (Go.Operand.tmp 64) (Go.Operand.tmp 67) 4, type := 4, pos := "law.go:52", after := #[{ on := 5, ground := Go.Ground.data }, { on := 8, ground := Go.Ground.data }, { on := 4, ground := Go.Ground.guard }], guard := Option.some (4, Bool.true) }) (v := ?_) rfl (by kernel_rfl) (by kernel_rfl) (by kernel_rfl) (fun _ _ _ h => h) (Or.inl ⟨by rfl, ?_⟩) (by assumption) ?_
  rotate_left
  · intro w hSw; (try dsimp only at hSw); go_simp; (try with_reducible rfl)
  simp only [Act.put, List.setIfInBounds_toArray, List.set_cons_zero, List.set_cons_succ]
  refine wpAnyH_take (i := 10) (oi := { dst := Option.some 69, op := Go.Op.pick (Go.Operand.tmp 63) (Go.Operand.tmp 68) (Go.Operand.const (Go.Value.bool Bool.false)), type := 4, pos := "law.go:52", after := #[{ on := 4, ground := Go.Ground.data }, { on := 9, ground := Go.Ground.data }], guard := Option.none }) (v := ?_) rfl (by kernel_rfl) (by kernel_rfl) (by kernel_rfl) (fun _ _ _ h => h) (Or.inl ⟨by rfl, ?_⟩) (by assumption) ?_
  rotate_left
  · intro w hSw; (try dsimp only at hSw); go_simp; (try with_reducible rfl)
  simp only [Act.put, List.setIfInBounds_toArray, List.set_cons_zero, List.set_cons_succ]
  refine wpAnyH_take (i := 11) (oi := { dst := Option.some 70, op := Go.Op.move (Go.Operand.tmp 69), type := 4, pos := "law.go:52", after := #[{ on := 10, ground := Go.Ground.data }, { on := 7, ground := Go.Ground.chain }], guard := Option.none }) (v := ?_) rfl (by kernel_rfl) (by kernel_rfl) (by kernel_rfl) (fun _ _ _ h => h) (Or.inl ⟨by rfl, ?_⟩) (by assumption) ?_
  rotate_left
  · intro w hSw; (try dsimp only at hSw); go_simp; (try with_reducible rfl)
  simp only [Act.put, List.setIfInBounds_toArray, List.set_cons_zero, List.set_cons_succ]
  refine wpAnyH_take (i := 12) (oi := { dst := Option.some 71, op := Go.Op.move (Go.Operand.tmp 11), type := 4, pos := "law.go:52", after := #[{ on := 11, ground := Go.Ground.guard }], guard := Option.some (11, Bool.true) }) (v := ?_) rfl (by kernel_rfl) (by kernel_rfl) (by kernel_rfl) (fun _ _ _ h => h) (Or.inl ⟨by rfl, ?_⟩) (by assumption) ?_
  rotate_left
  · intro w hSw; (try dsimp only at hSw); go_simp; (try with_reducible rfl)
  simp only [Act.put, List.setIfInBounds_toArray, List.set_cons_zero, List.set_cons_succ]
  refine wpAnyH_take (i := 13) (oi := { dst := Option.some 72, op := Go.Op.move (Go.Operand.tmp 71), type := 4, pos := "law.go:52", after := #[{ on := 12, ground := Go.Ground.data }, { on := 11, ground := Go.Ground.chain }, { on := 11, ground := Go.Ground.guard }], guard := Option.some (11, Bool.true) }) (v := ?_) rfl (by kernel_rfl) (by kernel_rfl) (by kernel_rfl) (fun _ _ _ h => h) (Or.inl ⟨by rfl, ?_⟩) (by assumption) ?_
  rotate_left
  · intro w hSw; (try dsimp only at hSw); go_simp; (try with_reducible rfl)
  simp only [Act.put, List.setIfInBounds_toArray, List.set_cons_zero, List.set_cons_succ]
  refine wpAnyH_take (i := 14) (oi := { dst := Option.some 73, op := Go.Op.move (Go.Operand.tmp 9), type := 26, pos := "law.go:52", after := #[{ on := 13, ground := Go.Ground.guard }], guard := Option.some (13, Bool.false) }) (v := undef) rfl (by kernel_rfl) (by kernel_rfl) (by kernel_rfl) (fun _ _ _ h => h) (Or.inr ⟨by rfl, rfl⟩) (by assumption) ?_
  simp only [Act.put, List.setIfInBounds_toArray, List.set_cons_zero, List.set_cons_succ]
  refine wpAnyH_take (i := 15) (oi := { dst := Option.some 74, op := Go.Op.call { callee := Go.Callee.value (Go.Operand.func 21), args := #[Go.Operand.tmp 73], argTypes := #[26] }, type := 3, pos := "law.go:52", after := #[{ on := 14, ground := Go.Ground.data }, { on := 13, ground := Go.Ground.chain }, { on := 13, ground := Go.Ground.guard }], guard := Option.some (13, Bool.false) }) (v := undef) rfl (by kernel_rfl) (by kernel_rfl) (by kernel_rfl) (fun _ _ _ h => h) (Or.inr ⟨by rfl, rfl⟩) (by assumption) ?_
  simp only [Act.put, List.setIfInBounds_toArray, List.set_cons_zero, List.set_cons_succ]
  refine wpAnyH_take (i := 16) (oi := { dst := Option.some 75, op := Go.Op.binOp Go.BinOp.eql 3 (Go.Operand.tmp 74) (Go.Operand.const (Go.Value.int Go.IntKind.i64 2)) 3, type := 4, pos := "law.go:52", after := #[{ on := 15, ground := Go.Ground.data }, { on := 13, ground := Go.Ground.guard }], guard := Option.some (13, Bool.false) }) (v := undef) rfl (by kernel_rfl) (by kernel_rfl) (by kernel_rfl) (fun _ _ _ h => h) (Or.inr ⟨by rfl, rfl⟩) (by assumption) ?_
  simp only [Act.put, List.setIfInBounds_toArray, List.set_cons_zero, List.set_cons_succ]
  refine wpAnyH_take (i := 17) (oi := { dst := Option.some 76, op := Go.Op.pick (Go.Operand.tmp 72) (Go.Operand.const (Go.Value.bool Bool.true)) (Go.Operand.tmp 75), type := 4, pos := "law.go:52", after := #[{ on := 13, ground := Go.Ground.data }, { on := 16, ground := Go.Ground.data }, { on := 11, ground := Go.Ground.guard }], guard := Option.some (11, Bool.true) }) (v := ?_) rfl (by kernel_rfl) (by kernel_rfl) (by kernel_rfl) (fun _ _ _ h => h) (Or.inl ⟨by rfl, ?_⟩) (by assumption) ?_
  rotate_left
  · intro w hSw; (try dsimp only at hSw); go_simp; (try with_reducible rfl)
  simp only [Act.put, List.setIfInBounds_toArray, List.set_cons_zero, List.set_cons_succ]
  refine wpAnyH_take (i := 18) (oi := { dst := Option.some 77, op := Go.Op.pick (Go.Operand.tmp 70) (Go.Operand.tmp 76) (Go.Operand.const (Go.Value.bool Bool.false)), type := 4, pos := "law.go:52", after := #[{ on := 11, ground := Go.Ground.data }, { on := 17, ground := Go.Ground.data }], guard := Option.none }) (v := ?_) rfl (by kernel_rfl) (by kernel_rfl) (by kernel_rfl) (fun _ _ _ h => h) (Or.inl ⟨by rfl, ?_⟩) (by assumption) ?_
  rotate_left
  · intro w hSw; (try dsimp only at hSw); go_simp; (try with_reducible rfl)
  simp only [Act.put, List.setIfInBounds_toArray, List.set_cons_zero, List.set_cons_succ]
  refine wpAnyH_take (i := 19) (oi := { dst := Option.some 4, op := Go.Op.assign (Go.Operand.tmp 77), type := 4, pos := "law.go:52", after := #[{ on := 18, ground := Go.Ground.data }, { on := 15, ground := Go.Ground.chain }, { on := 0, ground := Go.Ground.phase }, { on := 1, ground := Go.Ground.phase }, { on := 2, ground := Go.Ground.phase }, { on := 3, ground := Go.Ground.phase }, { on := 4, ground := Go.Ground.phase }, { on := 5, ground := Go.Ground.phase }, { on := 6, ground := Go.Ground.phase }, { on := 7, ground := Go.Ground.phase }, { on := 8, ground := Go.Ground.phase }, { on := 9, ground := Go.Ground.phase }, { on := 10, ground := Go.Ground.phase }, { on := 11, ground := Go.Ground.phase }, { on := 12, ground := Go.Ground.phase }, { on := 13, ground := Go.Ground.phase }, { on := 14, ground := Go.Ground.phase }, { on := 15, ground := Go.Ground.phase }, { on := 16, ground := Go.Ground.phase }, { on := 17, ground := Go.Ground.phase }, { on := 18, ground := Go.Ground.phase }], guard := Option.none }) (v := ?_) rfl (by kernel_rfl) (by kernel_rfl) (by kernel_rfl) (fun _ _ _ h => h) (Or.inl ⟨by rfl, ?_⟩) (by assumption) ?_
  rotate_left
  · intro w hSw; (try dsimp only at hSw); go_simp; (try with_reducible rfl)
  simp only [Act.put, List.setIfInBounds_toArray, List.set_cons_zero, List.set_cons_succ]
  refine wpAnyH_done (by kernel_rfl) ?_ _
  have hbm : Below w12.heap.size w12 w14 := hKF2
  have hm : Mv No No w12 w14 := Mv.of_below hbm
  have T_16 := Lib.hid (T_14.out.step hm)
  clear T_14
  have A_16 := Lib.hid (A_14.out.step hm)
  clear A_14
  have X_16 := Lib.hid (X_14.out.step hm)
  clear X_14
  have Y_16 := Lib.hid (Y_15.out.step hm)
  clear Y_15
  have HM_16 := Lib.hid (HM_14.out.trans hm)
  clear HM_14
  have WI_16 := Lib.hid (WI_14.out.mono hm.size)
  clear WI_14
  clear hm
  clear hbm HSx hKF0 hKF1 hKF2
  go_wp2_with fail
  go_ret
  exact ⟨rfl, HM_16.out.below⟩
theorem splays_walk (s : Sup) (d : ByteArray) (w : World) (q : s.u.length = 30 ∧ 0 ≤ s.g ∧ s.g ≤ 4294967295) (wd : d.size ≤ 140737488351232) (tied : Tied w) : Calls Tryd.prog 10 #[.agg (sv s).toArray, .string d] w fun e w' => e = .returned (.bool true) ∧ Below w.heap.size w w' := by
  have hf : s.Fits := ⟨q.1, q.2.1, q.2.2⟩
  by_cases h : 200 < d.size
  · exact splays_big s hf d h w tied
  cases hr : rightB s <;> cases ho : okU d
  · exact splays_ff s hf d (by omega) hr ho w tied
  · exact splays_ft s hf d (by omega) hr ho w tied
  · exact splays_tf s hf d (by omega) hr ho w tied
  · exact splays_tt s hf d (by omega) hr ho w tied
end Go.Proofs.YtmnkgcgmbdkjaaaDoor
