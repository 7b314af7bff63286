/- dynamolaw07.SuperBest: the walk. -/
import Derived.Test.YtmnkgcgmbdkjaaaDoorSupYPSuperPlays
import Derived.Test.YtmnkgcgmbdkjaaaDoorHP
namespace Go.Proofs.YtmnkgcgmbdkjaaaDoor
open Go.RowKit Go.Extern.Stop Go.Stop Go.Extern Go.Proofs.YtmnkgcgmbdkjaaaDoorW.PrintWords Go.Proofs.YtmnkgcgmbdkjaaaDoorW.PrintLast Go.Proofs.YtmnkgcgmbdkjaaaDoorW.PrintMore Go.Proofs.YtmnkgcgmbdkjaaaDoor.PSuperPlays
set_option linter.unusedVariables false
set_option linter.unusedSimpArgs false
theorem Stays.dsk {S Sx : Bs} {w w' : World} {D : Nat} {firm : List Pg} {loose : Ls} {down : Bool} (hd : Dsk w' Sx D firm loose down) (hs : ∀ k, Sx k → w.heap.size ≤ k) (hw : Wi S w) : Stays S w' (fun W => Dsk W Sx D firm loose down) := fun w2 t =>
  hd.keep t (fun k q qs => by have := hs k q; have := hw k qs; omega)
theorem num_nil_b3 (w : World) : Calls Tryd.prog 21 #[.nilIface] w fun e w' => e = .returned (.int .i64 0) ∧ Below w.heap.size w w' := (Num_nil w).mono fun e w2 h => ⟨h.1, by rw [← h.2]; exact Below.refl _ _⟩
theorem rbS_l (a b : Pg) : (rbS a b).u.length = 30 := by
  unfold rbS; split
  · exact (readU_fits _).l
  · split
    · exact (readU_fits _).l
    · exact sup0_l
theorem crashP_len (mask torn : Int) (firm : List Pg) (loose : Ls) : (crashP mask torn firm loose).length = firm.length := crashTo_length _ _ _ _ _
set_option maxHeartbeats 8000000 in
set_option maxRecDepth 100000 in
theorem sbest_t (a b : Pg) (ha : a.length = 128) (hb : b.length = 128) (hk : rbB a b = true) (w : World) (tied : Tied w) : Calls Tryd.prog 13 #[.agg (pv a).toArray, .agg (pv b).toArray] w fun e w' => e = .returned (.bool true) ∧ Below w.heap.size w w' := by
  have HAL := Lib.hid ha
  have HBL := Lib.hid hb
  have hxl := rbS_l a b
  have HRB := Lib.hid (fun w => rbest_any a b ha hb w)
  have hbp := rb_best (List.replicate 3 zp) ([] ++ [((0 : Int), a)] ++ [((1 : Int), b)]) a b (by simp) (by rw [readP_snoc, if_neg (show ¬ (1 : Int) = 0 by decide), readP_snoc, if_pos rfl]) (by rw [readP_snoc, if_pos rfl])
  rw [hk] at HRB hbp
  rw [if_pos rfl] at hbp
  obtain ⟨x, hx⟩ : ∃ q, q = rbS a b := ⟨_, rfl⟩
  rw [← hx] at HRB hbp hxl
  have HXL := Lib.hid hxl
  have HBP := Lib.hid hbp
  have HPL := Lib.hid (fun w => plain_any x hxl w)
  have hse := supE_self x
  have hbz := build_sp0
  clear ha hb hxl hbp hx hk
  have HM0 := Lib.hid (Mv.refl No w)
  have T0 := Lib.hid (Stays.tied tied)
  have WI0 := Lib.hid (Wi.no w)
  clear tied
  go_enter Tryd.func13, Tryd.ntmps13
  go_upto_region 1 with fail
  obtain ⟨w1, hw1⟩ : ∃ q, q = w.alloc (.cells (pv (a)).toArray 35) := ⟨_, rfl⟩
  try rw [← hw1]
  have hbm : Below w.heap.size w w1 := by rw [hw1]; exact (Below.refl _ _).alloc (Nat.le_refl _) _
  have hm : Mv No No w w1 := Mv.of_below hbm
  have hbx : Stays No w1 (fun W => PgAt W w.heap.size (a)) := Stays.box HAL.out WI0.out hw1
  have hsz1 : w1.heap.size = w.heap.size + 1 := by rw [hw1]; simp
  obtain ⟨BP, hBP⟩ : ∃ q, q = w.heap.size := ⟨_, rfl⟩
  try rw [← hBP]
  rw [← hBP] at hbx hsz1
  have T_1 := hdS T0 hm
  have HM_1 := hdT HM0 hm
  have WI_1 := hdW WI0 hm
  clear T0 HM0 WI0 hm hbm hw1 hBP
  have P_2 := Lib.hid (hbx)
  clear hbx
  obtain ⟨w2, hw2⟩ : ∃ q, q = w1.alloc (.cells (pv (b)).toArray 35) := ⟨_, rfl⟩
  try rw [← hw2]
  have hbm : Below w1.heap.size w1 w2 := by rw [hw2]; exact (Below.refl _ _).alloc (Nat.le_refl _) _
  have hm : Mv No No w1 w2 := Mv.of_below hbm
  have hbx : Stays No w2 (fun W => PgAt W w1.heap.size (b)) := Stays.box HBL.out WI_1.out hw2
  have hsz2 : w2.heap.size = w1.heap.size + 1 := by rw [hw2]; simp
  try rw [← hsz1]
  clear hsz1
  obtain ⟨BQ, hBQ⟩ : ∃ q, q = w1.heap.size := ⟨_, rfl⟩
  try rw [← hBQ]
  rw [← hBQ] at hbx hsz2
  have T_3 := hdS T_1 hm
  have P_3 := hdS P_2 hm
  have HM_3 := hdT HM_1 hm
  have WI_3 := hdW WI_1 hm
  clear T_1 P_2 HM_1 WI_1 hm hbm hw2 hBQ
  have Q_4 := Lib.hid (hbx)
  clear hbx hsz2
  go_wp2_with fail
  refine (awake7 _ T_3.out.now).mono ?_
  rintro e w3 ⟨rfl, hb⟩
  have hbm : Below w2.heap.size w2 w3 := hb
  clear hb
  have hm : Mv No No w2 w3 := Mv.of_below hbm
  have T_5 := hdS T_3 hm
  have P_5 := hdS P_3 hm
  have Q_5 := hdS Q_4 hm
  have HM_5 := hdT HM_3 hm
  have WI_5 := hdW WI_3 hm
  clear T_3 P_3 Q_4 HM_3 WI_3 hm hbm
  go_wp2_with fail
  refine (new_m 3 _ (by decide) (by decide)).mono ?_
  rintro e w4 ⟨D, S1, rfl, hd, hb, hm⟩
  have T_6 := hdS T_5 hm
  have P_6 := hdS P_5 hm
  have Q_6 := hdS Q_5 hm
  have HM_6 := hdT HM_5 hm
  clear hb T_5 P_5 Q_5 HM_5
  have WI_6 := Lib.hid (hd.wi)
  clear WI_5
  have HD_6 := Lib.hid (hd)
  clear hm hd
  go_wp2_with (first | ((with_reducible refine at_ld 35 (.tmp 2) ?_); refine ld_pr rfl _ rfl BP (0) rfl a ?_ ?_ ?_; exact HAL.out; exact (P_6.out.now).r))
  refine (write_ok 0 a HD_6.out (by simp) HAL.out (by simp [mayC])).mono ?_
  rintro e w5 ⟨S2, rfl, hd, hm⟩
  have T_7 := hdS T_6 hm
  have P_7 := hdS P_6 hm
  have Q_7 := hdS Q_6 hm
  have HM_7 := hdT HM_6 hm
  clear T_6 P_6 Q_6 HM_6
  have WI_7 := Lib.hid (hd.wi)
  clear WI_6
  have HD_7 := Lib.hid (hd)
  clear HD_6 hm hd
  go_wp2_with (first | ((with_reducible refine at_ld 35 (.tmp 3) ?_); refine ld_pr rfl _ rfl BQ (0) rfl b ?_ ?_ ?_; exact HBL.out; exact (Q_7.out.now).r))
  refine (write_ok 1 b HD_7.out (by simp) HBL.out (by simp [mayC])).mono ?_
  rintro e w6 ⟨S3, rfl, hd, hm⟩
  have T_8 := hdS T_7 hm
  have P_8 := hdS P_7 hm
  have Q_8 := hdS Q_7 hm
  have HM_8 := hdT HM_7 hm
  clear T_7 P_7 Q_7 HM_7
  have WI_8 := Lib.hid (hd.wi)
  clear WI_7
  have HD_8 := Lib.hid (hd)
  clear HD_7 hm hd
  go_wp2_with fail
  have HBC := Lib.hid (best_m HD_8.out (by simp))
  rw [HBP.out.1, HBP.out.2] at HBC
  refine (HBC.out).mono ?_
  rintro e w7 ⟨v1, rfl, he, hb⟩
  have hbm : Below w6.heap.size w6 w7 := hb
  clear hb
  have hm : Mv S3 S3 w6 w7 := Mv.of_below hbm
  have T_9 := hdS T_8 hm
  have P_9 := hdS P_8 hm
  have Q_9 := hdS Q_8 hm
  have HM_9 := hdT HM_8 hm
  have WI_9 := hdW WI_8 hm
  clear T_8 P_8 Q_8 HM_8 WI_8
  have HD_9 := Lib.hid (HD_8.out.under hbm)
  clear HD_8 hm hbm
  obtain rfl := ErrC.zero he
  clear he HBC
  go_wp2_with (first | ((with_reducible refine at_al 72 ?_); refine al_sp rfl rfl ?_) | ((with_reducible refine at_st 72 (.tmp 7) (.tmp 33) ?_); refine stn_sp rfl _ _ rfl _ _ _ rfl rfl x ?_ rfl ?_ ?_; exact HXL.out; exact ssz) | ((with_reducible refine at_ld 35 (.tmp 2) ?_); refine ld_pr rfl _ rfl BP (0) rfl a ?_ ?_ ?_; exact HAL.out; exact ((P_9.out.step (Mv.alloc S3 w7 (.cells (sv x).toArray 72))).now).r) | ((with_reducible refine at_ld 35 (.tmp 3) ?_); refine ld_pr rfl _ rfl BQ (0) rfl b ?_ ?_ ?_; exact HBL.out; exact ((Q_9.out.step (Mv.alloc S3 w7 (.cells (sv x).toArray 72))).now).r))
  obtain ⟨w8, hw8⟩ : ∃ q, q = w7.alloc (.cells (sv (x)).toArray 72) := ⟨_, rfl⟩
  try rw [← hw8]
  have hbm : Below w7.heap.size w7 w8 := by rw [hw8]; exact (Below.refl _ _).alloc (Nat.le_refl _) _
  have hm : Mv S3 S3 w7 w8 := Mv.of_below hbm
  have hbx : Stays S3 w8 (fun W => SupAt W w7.heap.size (x)) := Stays.boxS HXL.out WI_9.out hw8
  have hsz8 : w8.heap.size = w7.heap.size + 1 := by rw [hw8]; simp
  obtain ⟨BX, hBX⟩ : ∃ q, q = w7.heap.size := ⟨_, rfl⟩
  try rw [← hBX]
  rw [← hBX] at hbx hsz8
  have T_10 := hdS T_9 hm
  have P_10 := hdS P_9 hm
  have Q_10 := hdS Q_9 hm
  have HM_10 := hdT HM_9 hm
  have WI_10 := hdW WI_9 hm
  clear T_9 P_9 Q_9 HM_9 WI_9
  have HD_10 := Lib.hid (HD_9.out.under hbm)
  clear HD_9 hm hbm hw8 hBX
  have X_11 := Lib.hid (hbx)
  clear hbx hsz8
  refine (HRB.out _).mono ?_
  rintro e w9 ⟨rfl, hb⟩
  have hbm : Below w8.heap.size w8 w9 := hb
  clear hb
  have hm : Mv S3 S3 w8 w9 := Mv.of_below hbm
  have T_12 := hdS T_10 hm
  have P_12 := hdS P_10 hm
  have Q_12 := hdS Q_10 hm
  have X_12 := hdS X_11 hm
  have HM_12 := hdT HM_10 hm
  have WI_12 := hdW WI_10 hm
  clear T_10 P_10 Q_10 X_11 HM_10 WI_10
  have HD_12 := Lib.hid (HD_10.out.under hbm)
  clear HD_10 hm hbm
  go_wp2_with (first | ((with_reducible refine at_al 68 ?_); refine al_rp rfl rfl ?_) | ((with_reducible refine at_st 68 (.tmp 9) (.tmp 39) ?_); refine stn_rp rfl _ _ rfl _ _ _ rfl rfl x ?_ rfl ?_ ?_; exact HXL.out; exact ssz))
  obtain ⟨w10, hw10⟩ : ∃ q, q = w9.alloc (.cells (sv (x)).toArray 68) := ⟨_, rfl⟩
  try rw [← hw10]
  have hbm : Below w9.heap.size w9 w10 := by rw [hw10]; exact (Below.refl _ _).alloc (Nat.le_refl _) _
  have hm : Mv S3 S3 w9 w10 := Mv.of_below hbm
  have hbx : Stays S3 w10 (fun W => SupAt W w9.heap.size (x)) := Stays.boxS HXL.out WI_12.out hw10
  have hsz10 : w10.heap.size = w9.heap.size + 1 := by rw [hw10]; simp
  obtain ⟨BY, hBY⟩ : ∃ q, q = w9.heap.size := ⟨_, rfl⟩
  try rw [← hBY]
  rw [← hBY] at hbx hsz10
  have T_13 := hdS T_12 hm
  have P_13 := hdS P_12 hm
  have Q_13 := hdS Q_12 hm
  have X_13 := hdS X_12 hm
  have HM_13 := hdT HM_12 hm
  have WI_13 := hdW WI_12 hm
  clear T_12 P_12 Q_12 X_12 HM_12 WI_12
  have HD_13 := Lib.hid (HD_12.out.under hbm)
  clear HD_12 hm hbm hw10 hBY
  have Y_14 := Lib.hid (hbx)
  clear hbx hsz10
  refine (new_m 2 _ (by decide) (by decide)).mono ?_
  rintro e w11 ⟨D2, Sx, rfl, hdx, hb, hmx⟩
  have hbm : Below w10.heap.size w10 w11 := hb
  clear hb
  have hst := Stays.dsk hdx (fun k q => (hmx.s k q).resolve_left (fun z => z)) WI_13.out
  have hm : Mv S3 S3 w10 w11 := Mv.of_below hbm
  have T_15 := hdS T_13 hm
  have P_15 := hdS P_13 hm
  have Q_15 := hdS Q_13 hm
  have X_15 := hdS X_13 hm
  have Y_15 := hdS Y_14 hm
  have HM_15 := hdT HM_13 hm
  have WI_15 := hdW WI_13 hm
  clear T_13 P_13 Q_13 X_13 Y_14 HM_13 WI_13
  have HD_15 := Lib.hid (HD_13.out.under hbm)
  clear HD_13 hm hbm hdx hmx
  have K_16 := Lib.hid (hst)
  clear hst
  go_wp2_with fail
  refine (best_small (K_16.out.now) (by simp) (by simp)).mono ?_
  rintro e w12 ⟨v2, rfl, he, hb⟩
  have hbm : Below w11.heap.size w11 w12 := hb
  clear hb
  have hm : Mv S3 S3 w11 w12 := Mv.of_below hbm
  have hst := Stays.err he WI_15.out
  have T_17 := hdS T_15 hm
  have P_17 := hdS P_15 hm
  have Q_17 := hdS Q_15 hm
  have X_17 := hdS X_15 hm
  have Y_17 := hdS Y_15 hm
  have K_17 := hdS K_16 hm
  have HM_17 := hdT HM_15 hm
  have WI_17 := hdW WI_15 hm
  clear he T_15 P_15 Q_15 X_15 Y_15 K_16 HM_15 WI_15
  have HD_17 := Lib.hid (HD_15.out.under hbm)
  clear HD_15 hm hbm
  have E2_18 := Lib.hid (hst)
  clear hst
  go_wp2_with (first | ((with_reducible refine at_al 72 ?_); refine al_sp rfl rfl ?_) | ((with_reducible refine at_st 72 (.tmp 13) (.tmp 48) ?_); refine stn_sp rfl _ _ rfl _ _ _ rfl rfl sup0 ?_ rfl ?_ ?_; exact sup0_l; exact ssz))
  obtain ⟨w13, hw13⟩ : ∃ q, q = w12.alloc (.cells (sv (sup0)).toArray 72) := ⟨_, rfl⟩
  try rw [← hw13]
  have hbm : Below w12.heap.size w12 w13 := by rw [hw13]; exact (Below.refl _ _).alloc (Nat.le_refl _) _
  have hm : Mv S3 S3 w12 w13 := Mv.of_below hbm
  have hbx : Stays S3 w13 (fun W => SupAt W w12.heap.size (sup0)) := Stays.boxS sup0_l WI_17.out hw13
  have hsz13 : w13.heap.size = w12.heap.size + 1 := by rw [hw13]; simp
  obtain ⟨BZ, hBZ⟩ : ∃ q, q = w12.heap.size := ⟨_, rfl⟩
  try rw [← hBZ]
  rw [← hBZ] at hbx hsz13
  have T_19 := hdS T_17 hm
  have P_19 := hdS P_17 hm
  have Q_19 := hdS Q_17 hm
  have X_19 := hdS X_17 hm
  have Y_19 := hdS Y_17 hm
  have K_19 := hdS K_17 hm
  have E2_19 := hdS E2_18 hm
  have HM_19 := hdT HM_17 hm
  have WI_19 := hdW WI_17 hm
  clear T_17 P_17 Q_17 X_17 Y_17 K_17 E2_18 HM_17 WI_17
  have HD_19 := Lib.hid (HD_17.out.under hbm)
  clear HD_17 hm hbm hw13 hBZ
  have Z_20 := Lib.hid (hbx)
  clear hbx Z_20 K_19 hsz13
  refine (switch_bad sup0 sup0_fits (by decide) _ _).mono ?_
  rintro e w14 ⟨v3, rfl, he, hb⟩
  have hbm : Below w13.heap.size w13 w14 := hb
  clear hb
  have hm : Mv S3 S3 w13 w14 := Mv.of_below hbm
  have hst := Stays.err he WI_19.out
  have T_21 := hdS T_19 hm
  have P_21 := hdS P_19 hm
  have Q_21 := hdS Q_19 hm
  have X_21 := hdS X_19 hm
  have Y_21 := hdS Y_19 hm
  have E2_21 := hdS E2_19 hm
  have HM_21 := hdT HM_19 hm
  have WI_21 := hdW WI_19 hm
  clear he T_19 P_19 Q_19 X_19 Y_19 E2_19 HM_19 WI_19
  have HD_21 := Lib.hid (HD_19.out.under hbm)
  clear HD_19 hm hbm
  have E3_22 := Lib.hid (hst)
  clear hst
  go_wp2_with fail
  refine (crash_m 0 0 HD_21.out (by simp) (by decide) (by decide) (by decide)).mono ?_
  rintro e w15 ⟨S4, rfl, hd, hm⟩
  have T_23 := hdS T_21 hm
  have P_23 := hdS P_21 hm
  have Q_23 := hdS Q_21 hm
  have X_23 := hdS X_21 hm
  have Y_23 := hdS Y_21 hm
  have E2_23 := hdS E2_21 hm
  have E3_23 := hdS E3_22 hm
  have HM_23 := hdT HM_21 hm
  clear T_21 P_21 Q_21 X_21 Y_21 E2_21 E3_22 HM_21
  have WI_23 := Lib.hid (hd.wi)
  clear WI_21
  have HD_23 := Lib.hid (hd)
  clear HD_21 hm hd
  go_wp2_with fail
  refine (best_down HD_23.out (by simp) (by rw [crashP_len]; simp)).mono ?_
  rintro e w16 ⟨v4, rfl, he, hb⟩
  have hbm : Below w15.heap.size w15 w16 := hb
  clear hb
  have hm : Mv S4 S4 w15 w16 := Mv.of_below hbm
  have hst := Stays.err he WI_23.out
  have T_24 := hdS T_23 hm
  have P_24 := hdS P_23 hm
  have Q_24 := hdS Q_23 hm
  have X_24 := hdS X_23 hm
  have Y_24 := hdS Y_23 hm
  have E2_24 := hdS E2_23 hm
  have E3_24 := hdS E3_23 hm
  have HM_24 := hdT HM_23 hm
  have WI_24 := hdW WI_23 hm
  clear he T_23 P_23 Q_23 X_23 Y_23 E2_23 E3_23 HM_23 WI_23
  have HD_24 := Lib.hid (HD_23.out.under hbm)
  clear HD_23 hm hbm
  have E4_25 := Lib.hid (hst)
  clear hst
  go_wp2_with (first | ((with_reducible refine at_al 72 ?_); refine al_sp rfl rfl ?_) | ((with_reducible refine at_st 72 (.tmp 16) (.tmp 58) ?_); refine stn_sp rfl _ _ rfl _ _ _ rfl rfl sup0 ?_ rfl ?_ ?_; exact sup0_l; exact ssz))
  obtain ⟨w17, hw17⟩ : ∃ q, q = w16.alloc (.cells (sv (sup0)).toArray 72) := ⟨_, rfl⟩
  try rw [← hw17]
  have hbm : Below w16.heap.size w16 w17 := by rw [hw17]; exact (Below.refl _ _).alloc (Nat.le_refl _) _
  have hm : Mv S4 S4 w16 w17 := Mv.of_below hbm
  have hbx : Stays S4 w17 (fun W => SupAt W w16.heap.size (sup0)) := Stays.boxS sup0_l WI_24.out hw17
  have hsz17 : w17.heap.size = w16.heap.size + 1 := by rw [hw17]; simp
  obtain ⟨BZ, hBZ⟩ : ∃ q, q = w16.heap.size := ⟨_, rfl⟩
  try rw [← hBZ]
  rw [← hBZ] at hbx hsz17
  have T_26 := hdS T_24 hm
  have P_26 := hdS P_24 hm
  have Q_26 := hdS Q_24 hm
  have X_26 := hdS X_24 hm
  have Y_26 := hdS Y_24 hm
  have E2_26 := hdS E2_24 hm
  have E3_26 := hdS E3_24 hm
  have E4_26 := hdS E4_25 hm
  have HM_26 := hdT HM_24 hm
  have WI_26 := hdW WI_24 hm
  clear T_24 P_24 Q_24 X_24 Y_24 E2_24 E3_24 E4_25 HM_24 WI_24
  have HD_26 := Lib.hid (HD_24.out.under hbm)
  clear HD_24 hm hbm hw17 hBZ
  have Z_27 := Lib.hid (hbx)
  clear hbx Z_27 hsz17
  have HSx : Hid (∀ wz, KF w17 wz → (fun wz => KF w17 wz) wz) := Lib.hid (fun wz h => h)
  refine wp_region_held_drew (S := fun wz => KF w17 wz) (by kernel_rfl) ?_ (fun hHeld => ?_)
  · exact HSx.out _ (KF.drew (KF.refl _))
  have hKF0 : KF w17 w17.drew := KF.drew (KF.refl _)
  refine wpAnyH_take (i := 0) (oi := { dst := Option.some 60, op := Go.Op.move (Go.Operand.tmp 6), type := 26, pos := "law.go:70", after := #[], guard := Option.none }) (v := ?_) rfl (by kernel_rfl) (by kernel_rfl) (by kernel_rfl) (fun _ _ _ h => h) (Or.inl ⟨by rfl, ?_⟩) (by assumption) ?_
  rotate_left
  · intro w hSw; (try dsimp only at hSw); go_simp; (try with_reducible rfl)
  simp only [Act.put, List.setIfInBounds_toArray, List.set_cons_zero, List.set_cons_succ]
  refine wpAnyH_ready (rs := [1]) (by kernel_rfl) (by simp) ?_
  refine AllReadyH.cons (o := { dst := Option.some 61, op := Go.Op.call { callee := Go.Callee.value (Go.Operand.func 21), args := #[Go.Operand.tmp 60], argTypes := #[26] }, type := 3, pos := "law.go:70", after := #[{ on := 0, ground := Go.Ground.data }], guard := Option.none }) rfl (fun K hK => ?_) AllReadyH.nil
  go_simp
  refine (num_nil_b3 _).mono ?_
  rintro e w18 ⟨rfl, hb⟩
  have hKF1 : KF w17 w18 := KF.step hKF0 hb
  clear hb
  dsimp only
  refine hK.out _ _ (HSx.out _ hKF1) (fun hHeld1 => ?_)
  clear hK K
  try simp only [Act.put, List.setIfInBounds_toArray, List.set_cons_zero, List.set_cons_succ]
  refine wpAnyH_take (i := 2) (oi := { dst := Option.some 62, op := Go.Op.binOp Go.BinOp.eql 3 (Go.Operand.tmp 61) (Go.Operand.const (Go.Value.int Go.IntKind.i64 0)) 3, type := 4, pos := "law.go:70", after := #[{ on := 1, ground := Go.Ground.data }], guard := Option.none }) (v := ?_) rfl (by kernel_rfl) (by kernel_rfl) (by kernel_rfl) (fun _ _ _ h => h) (Or.inl ⟨by rfl, ?_⟩) (by assumption) ?_
  rotate_left
  · intro w hSw; (try dsimp only at hSw); go_simp; (try with_reducible rfl)
  simp only [Act.put, List.setIfInBounds_toArray, List.set_cons_zero, List.set_cons_succ]
  refine wpAnyH_take (i := 3) (oi := { dst := Option.some 63, op := Go.Op.move (Go.Operand.tmp 62), type := 4, pos := "law.go:70", after := #[{ on := 2, ground := Go.Ground.data }, { on := 1, ground := Go.Ground.chain }], guard := Option.none }) (v := ?_) rfl (by kernel_rfl) (by kernel_rfl) (by kernel_rfl) (fun _ _ _ h => h) (Or.inl ⟨by rfl, ?_⟩) (by assumption) ?_
  rotate_left
  · intro w hSw; (try dsimp only at hSw); go_simp; (try with_reducible rfl)
  simp only [Act.put, List.setIfInBounds_toArray, List.set_cons_zero, List.set_cons_succ]
  refine wpAnyH_take (i := 4) (oi := { dst := Option.some 64, op := Go.Op.load 72 (Go.Operand.tmp 7), type := 72, pos := "law.go:70", after := #[{ on := 3, ground := Go.Ground.guard }], guard := Option.some (3, Bool.true) }) rfl (by kernel_rfl) (by kernel_rfl) (by kernel_rfl) (fun _ _ _ h => h) (yieldsIf_load_mid (by rfl) 72 _ rfl BX 0 rfl (sv x) _ (fun W hW => (X_26.out.step (Mv.of_below hW)).now.r) Tryd.underlying72 rfl (szof_sp HXL.out)) (by assumption) ?_
  simp only [Act.put, List.setIfInBounds_toArray, List.set_cons_zero, List.set_cons_succ]
  refine wpAnyH_take (i := 6) (oi := { dst := Option.some 66, op := Go.Op.load 68 (Go.Operand.tmp 9), type := 68, pos := "law.go:70", after := #[{ on := 3, ground := Go.Ground.guard }], guard := Option.some (3, Bool.true) }) rfl (by kernel_rfl) (by kernel_rfl) (by kernel_rfl) (fun _ _ _ h => h) (yieldsIf_load_mid (by rfl) 68 _ rfl BY 0 rfl (sv x) _ (fun W hW => (Y_26.out.step (Mv.of_below hW)).now.r) Tryd.underlying68 rfl (szof_rp HXL.out)) (by assumption) ?_
  simp only [Act.put, List.setIfInBounds_toArray, List.set_cons_zero, List.set_cons_succ]
  refine wpAnyH_ready (rs := [5]) (by kernel_rfl) (by simp) ?_
  refine AllReadyH.cons (o := { dst := Option.some 65, op := Go.Op.call { callee := Go.Callee.value (Go.Operand.func 46), args := #[Go.Operand.tmp 64], argTypes := #[72] }, type := 68, pos := "law.go:70", after := #[{ on := 4, ground := Go.Ground.data }, { on := 3, ground := Go.Ground.chain }, { on := 3, ground := Go.Ground.guard }], guard := Option.some (3, Bool.true) }) rfl (fun K hK => ?_) AllReadyH.nil
  go_simp
  refine (HPL.out _).mono ?_
  rintro e w19 ⟨rfl, hb⟩
  have hKF2 : KF w17 w19 := KF.step hKF1 hb
  clear hb
  dsimp only
  refine hK.out _ _ (HSx.out _ hKF2) (fun hHeld2 => ?_)
  clear hK K
  try simp only [Act.put, List.setIfInBounds_toArray, List.set_cons_zero, List.set_cons_succ]
  refine wpAnyH_take (i := 7) (oi := { dst := Option.some 67, op := Go.Op.binOp Go.BinOp.eql 68 (Go.Operand.tmp 65) (Go.Operand.tmp 66) 68, type := 4, pos := "law.go:70", after := #[{ on := 5, ground := Go.Ground.data }, { on := 6, ground := Go.Ground.data }, { on := 3, ground := Go.Ground.guard }], guard := Option.some (3, Bool.true) }) rfl (by kernel_rfl) (by kernel_rfl) (by kernel_rfl) (fun _ _ _ h => h) (yif_eq_rp (by rfl) _ _ rfl x x rfl rfl HXL.out HXL.out) (by assumption) ?_
  simp only [Act.put, List.setIfInBounds_toArray, List.set_cons_zero, List.set_cons_succ]
  rw [hse]
  refine wpAnyH_take (i := 8) (oi := { dst := Option.some 68, op := Go.Op.pick (Go.Operand.tmp 63) (Go.Operand.tmp 67) (Go.Operand.const (Go.Value.bool Bool.false)), type := 4, pos := "law.go:70", after := #[{ on := 3, ground := Go.Ground.data }, { on := 7, ground := Go.Ground.data }], guard := Option.none }) (v := ?_) rfl (by kernel_rfl) (by kernel_rfl) (by kernel_rfl) (fun _ _ _ h => h) (Or.inl ⟨by rfl, ?_⟩) (by assumption) ?_
  rotate_left
  · intro w hSw; (try dsimp only at hSw); go_simp; (try with_reducible rfl)
  simp only [Act.put, List.setIfInBounds_toArray, List.set_cons_zero, List.set_cons_succ]
  refine wpAnyH_take (i := 9) (oi := { dst := Option.some 69, op := Go.Op.move (Go.Operand.tmp 68), type := 4, pos := "law.go:70", after := #[{ on := 8, ground := Go.Ground.data }, { on := 5, ground := Go.Ground.chain }], guard := Option.none }) (v := ?_) rfl (by kernel_rfl) (by kernel_rfl) (by kernel_rfl) (fun _ _ _ h => h) (Or.inl ⟨by rfl, ?_⟩) (by assumption) ?_
  rotate_left
  · intro w hSw; (try dsimp only at hSw); go_simp; (try with_reducible rfl)
  simp only [Act.put, List.setIfInBounds_toArray, List.set_cons_zero, List.set_cons_succ]
  refine wpAnyH_take (i := 10) (oi := { dst := Option.some 70, op := Go.Op.move (Go.Operand.tmp 10), type := 4, pos := "law.go:70", after := #[{ on := 9, ground := Go.Ground.guard }], guard := Option.some (9, Bool.true) }) (v := ?_) rfl (by kernel_rfl) (by kernel_rfl) (by kernel_rfl) (fun _ _ _ h => h) (Or.inl ⟨by rfl, ?_⟩) (by assumption) ?_
  rotate_left
  · intro w hSw; (try dsimp only at hSw); go_simp; (try with_reducible rfl)
  simp only [Act.put, List.setIfInBounds_toArray, List.set_cons_zero, List.set_cons_succ]
  refine wpAnyH_take (i := 11) (oi := { dst := Option.some 71, op := Go.Op.move (Go.Operand.tmp 8), type := 26, pos := "law.go:70", after := #[{ on := 9, ground := Go.Ground.guard }], guard := Option.some (9, Bool.true) }) (v := ?_) rfl (by kernel_rfl) (by kernel_rfl) (by kernel_rfl) (fun _ _ _ h => h) (Or.inl ⟨by rfl, ?_⟩) (by assumption) ?_
  rotate_left
  · intro w hSw; (try dsimp only at hSw); go_simp; (try with_reducible rfl)
  simp only [Act.put, List.setIfInBounds_toArray, List.set_cons_zero, List.set_cons_succ]
  refine wpAnyH_ready (rs := [12]) (by kernel_rfl) (by simp) ?_
  refine AllReadyH.cons (o := { dst := Option.some 72, op := Go.Op.call { callee := Go.Callee.value (Go.Operand.func 21), args := #[Go.Operand.tmp 71], argTypes := #[26] }, type := 3, pos := "law.go:70", after := #[{ on := 11, ground := Go.Ground.data }, { on := 9, ground := Go.Ground.chain }, { on := 9, ground := Go.Ground.guard }], guard := Option.some (9, Bool.true) }) rfl (fun K hK => ?_) AllReadyH.nil
  go_simp
  refine (num_nil_b3 _).mono ?_
  rintro e w20 ⟨rfl, hb⟩
  have hKF3 : KF w17 w20 := KF.step hKF2 hb
  clear hb
  dsimp only
  refine hK.out _ _ (HSx.out _ hKF3) (fun hHeld3 => ?_)
  clear hK K
  try simp only [Act.put, List.setIfInBounds_toArray, List.set_cons_zero, List.set_cons_succ]
  refine wpAnyH_take (i := 13) (oi := { dst := Option.some 73, op := Go.Op.binOp Go.BinOp.eql 3 (Go.Operand.tmp 72) (Go.Operand.const (Go.Value.int Go.IntKind.i64 0)) 3, type := 4, pos := "law.go:70", after := #[{ on := 12, ground := Go.Ground.data }, { on := 9, ground := Go.Ground.guard }], guard := Option.some (9, Bool.true) }) (v := ?_) rfl (by kernel_rfl) (by kernel_rfl) (by kernel_rfl) (fun _ _ _ h => h) (Or.inl ⟨by rfl, ?_⟩) (by assumption) ?_
  rotate_left
  · intro w hSw; (try dsimp only at hSw); go_simp; (try with_reducible rfl)
  simp only [Act.put, List.setIfInBounds_toArray, List.set_cons_zero, List.set_cons_succ]
  refine wpAnyH_take (i := 14) (oi := { dst := Option.some 74, op := Go.Op.binOp Go.BinOp.eql 4 (Go.Operand.tmp 70) (Go.Operand.tmp 73) 4, type := 4, pos := "law.go:70", after := #[{ on := 10, ground := Go.Ground.data }, { on := 13, ground := Go.Ground.data }, { on := 9, ground := Go.Ground.guard }], guard := Option.some (9, Bool.true) }) (v := ?_) rfl (by kernel_rfl) (by kernel_rfl) (by kernel_rfl) (fun _ _ _ h => h) (Or.inl ⟨by rfl, ?_⟩) (by assumption) ?_
  rotate_left
  · intro w hSw; (try dsimp only at hSw); go_simp; (try with_reducible rfl)
  simp only [Act.put, List.setIfInBounds_toArray, List.set_cons_zero, List.set_cons_succ]
  refine wpAnyH_take (i := 15) (oi := { dst := Option.some 75, op := Go.Op.pick (Go.Operand.tmp 69) (Go.Operand.tmp 74) (Go.Operand.const (Go.Value.bool Bool.false)), type := 4, pos := "law.go:70", after := #[{ on := 9, ground := Go.Ground.data }, { on := 14, ground := Go.Ground.data }], guard := Option.none }) (v := ?_) rfl (by kernel_rfl) (by kernel_rfl) (by kernel_rfl) (fun _ _ _ h => h) (Or.inl ⟨by rfl, ?_⟩) (by assumption) ?_
  rotate_left
  · intro w hSw; (try dsimp only at hSw); go_simp; (try with_reducible rfl)
  simp only [Act.put, List.setIfInBounds_toArray, List.set_cons_zero, List.set_cons_succ]
  refine wpAnyH_take (i := 16) (oi := { dst := Option.some 76, op := Go.Op.move (Go.Operand.tmp 75), type := 4, pos := "law.go:70", after := #[{ on := 15, ground := Go.Ground.data }, { on := 12, ground := Go.Ground.chain }], guard := Option.none }) (v := ?_) rfl (by kernel_rfl) (by kernel_rfl) (by kernel_rfl) (fun _ _ _ h => h) (Or.inl ⟨by rfl, ?_⟩) (by assumption) ?_
  rotate_left
  · intro w hSw; (try dsimp only at hSw); go_simp; (try with_reducible rfl)
  simp only [Act.put, List.setIfInBounds_toArray, List.set_cons_zero, List.set_cons_succ]
  refine wpAnyH_take (i := 17) (oi := { dst := Option.some 77, op := Go.Op.move (Go.Operand.tmp 10), type := 4, pos := "law.go:70", after := #[{ on := 16, ground := Go.Ground.guard }], guard := Option.some (16, Bool.true) }) (v := ?_) rfl (by kernel_rfl) (by kernel_rfl) (by kernel_rfl) (fun _ _ _ h => h) (Or.inl ⟨by rfl, ?_⟩) (by assumption) ?_
  rotate_left
  · intro w hSw; (try dsimp only at hSw); go_simp; (try with_reducible rfl)
  simp only [Act.put, List.setIfInBounds_toArray, List.set_cons_zero, List.set_cons_succ]
  refine wpAnyH_take (i := 18) (oi := { dst := Option.some 78, op := Go.Op.move (Go.Operand.tmp 77), type := 4, pos := "law.go:70", after := #[{ on := 17, ground := Go.Ground.data }, { on := 16, ground := Go.Ground.chain }, { on := 16, ground := Go.Ground.guard }], guard := Option.some (16, Bool.true) }) (v := ?_) rfl (by kernel_rfl) (by kernel_rfl) (by kernel_rfl) (fun _ _ _ h => h) (Or.inl ⟨by rfl, ?_⟩) (by assumption) ?_
  rotate_left
  · intro w hSw; (try dsimp only at hSw); go_simp; (try with_reducible rfl)
  simp only [Act.put, List.setIfInBounds_toArray, List.set_cons_zero, List.set_cons_succ]
  refine wpAnyH_take (i := 19) (oi := { dst := Option.some 79, op := Go.Op.move (Go.Operand.tmp 8), type := 26, pos := "law.go:70", after := #[{ on := 18, ground := Go.Ground.guard }], guard := Option.some (18, Bool.false) }) (v := undef) rfl (by kernel_rfl) (by kernel_rfl) (by kernel_rfl) (fun _ _ _ h => h) (Or.inr ⟨by rfl, rfl⟩) (by assumption) ?_
  simp only [Act.put, List.setIfInBounds_toArray, List.set_cons_zero, List.set_cons_succ]
  refine wpAnyH_take (i := 20) (oi := { dst := Option.some 80, op := Go.Op.call { callee := Go.Callee.value (Go.Operand.func 21), args := #[Go.Operand.tmp 79], argTypes := #[26] }, type := 3, pos := "law.go:70", after := #[{ on := 19, ground := Go.Ground.data }, { on := 18, ground := Go.Ground.chain }, { on := 18, ground := Go.Ground.guard }], guard := Option.some (18, Bool.false) }) (v := undef) rfl (by kernel_rfl) (by kernel_rfl) (by kernel_rfl) (fun _ _ _ h => h) (Or.inr ⟨by rfl, rfl⟩) (by assumption) ?_
  simp only [Act.put, List.setIfInBounds_toArray, List.set_cons_zero, List.set_cons_succ]
  refine wpAnyH_take (i := 21) (oi := { dst := Option.some 81, op := Go.Op.binOp Go.BinOp.eql 3 (Go.Operand.tmp 80) (Go.Operand.const (Go.Value.int Go.IntKind.i64 4)) 3, type := 4, pos := "law.go:70", after := #[{ on := 20, ground := Go.Ground.data }, { on := 18, ground := Go.Ground.guard }], guard := Option.some (18, Bool.false) }) (v := undef) rfl (by kernel_rfl) (by kernel_rfl) (by kernel_rfl) (fun _ _ _ h => h) (Or.inr ⟨by rfl, rfl⟩) (by assumption) ?_
  simp only [Act.put, List.setIfInBounds_toArray, List.set_cons_zero, List.set_cons_succ]
  refine wpAnyH_take (i := 22) (oi := { dst := Option.some 82, op := Go.Op.pick (Go.Operand.tmp 78) (Go.Operand.const (Go.Value.bool Bool.true)) (Go.Operand.tmp 81), type := 4, pos := "law.go:70", after := #[{ on := 18, ground := Go.Ground.data }, { on := 21, ground := Go.Ground.data }, { on := 16, ground := Go.Ground.guard }], guard := Option.some (16, Bool.true) }) (v := ?_) rfl (by kernel_rfl) (by kernel_rfl) (by kernel_rfl) (fun _ _ _ h => h) (Or.inl ⟨by rfl, ?_⟩) (by assumption) ?_
  rotate_left
  · intro w hSw; (try dsimp only at hSw); go_simp; (try with_reducible rfl)
  simp only [Act.put, List.setIfInBounds_toArray, List.set_cons_zero, List.set_cons_succ]
  refine wpAnyH_take (i := 23) (oi := { dst := Option.some 83, op := Go.Op.pick (Go.Operand.tmp 76) (Go.Operand.tmp 82) (Go.Operand.const (Go.Value.bool Bool.false)), type := 4, pos := "law.go:70", after := #[{ on := 16, ground := Go.Ground.data }, { on := 22, ground := Go.Ground.data }], guard := Option.none }) (v := ?_) rfl (by kernel_rfl) (by kernel_rfl) (by kernel_rfl) (fun _ _ _ h => h) (Or.inl ⟨by rfl, ?_⟩) (by assumption) ?_
  rotate_left
  · intro w hSw; (try dsimp only at hSw); go_simp; (try with_reducible rfl)
  simp only [Act.put, List.setIfInBounds_toArray, List.set_cons_zero, List.set_cons_succ]
  refine wpAnyH_take (i := 24) (oi := { dst := Option.some 84, op := Go.Op.move (Go.Operand.tmp 83), type := 4, pos := "law.go:70", after := #[{ on := 23, ground := Go.Ground.data }, { on := 20, ground := Go.Ground.chain }], guard := Option.none }) (v := ?_) rfl (by kernel_rfl) (by kernel_rfl) (by kernel_rfl) (fun _ _ _ h => h) (Or.inl ⟨by rfl, ?_⟩) (by assumption) ?_
  rotate_left
  · intro w hSw; (try dsimp only at hSw); go_simp; (try with_reducible rfl)
  simp only [Act.put, List.setIfInBounds_toArray, List.set_cons_zero, List.set_cons_succ]
  refine wpAnyH_take (i := 25) (oi := { dst := Option.some 85, op := Go.Op.move (Go.Operand.tmp 14), type := 26, pos := "law.go:70", after := #[{ on := 24, ground := Go.Ground.guard }], guard := Option.some (24, Bool.true) }) (v := ?_) rfl (by kernel_rfl) (by kernel_rfl) (by kernel_rfl) (fun _ _ _ h => h) (Or.inl ⟨by rfl, ?_⟩) (by assumption) ?_
  rotate_left
  · intro w hSw; (try dsimp only at hSw); go_simp; (try with_reducible rfl)
  simp only [Act.put, List.setIfInBounds_toArray, List.set_cons_zero, List.set_cons_succ]
  refine wpAnyH_ready (rs := [26]) (by kernel_rfl) (by simp) ?_
  refine AllReadyH.cons (o := { dst := Option.some 86, op := Go.Op.call { callee := Go.Callee.value (Go.Operand.func 21), args := #[Go.Operand.tmp 85], argTypes := #[26] }, type := 3, pos := "law.go:70", after := #[{ on := 25, ground := Go.Ground.data }, { on := 24, ground := Go.Ground.chain }, { on := 24, ground := Go.Ground.guard }], guard := Option.some (24, Bool.true) }) rfl (fun K hK => ?_) AllReadyH.nil
  go_simp
  refine (Num_c _ v2 1 (E2_26.out.step (Mv.of_below hKF3)).now (T_26.out.step (Mv.of_below hKF3)).now).mono ?_
  rintro e w21 ⟨rfl, hb⟩
  have hKF4 : KF w17 w21 := KF.step hKF3 hb
  clear hb
  dsimp only
  refine hK.out _ _ (HSx.out _ hKF4) (fun hHeld4 => ?_)
  clear hK K
  try simp only [Act.put, List.setIfInBounds_toArray, List.set_cons_zero, List.set_cons_succ]
  refine wpAnyH_take (i := 27) (oi := { dst := Option.some 87, op := Go.Op.binOp Go.BinOp.eql 3 (Go.Operand.tmp 86) (Go.Operand.const (Go.Value.int Go.IntKind.i64 1)) 3, type := 4, pos := "law.go:70", after := #[{ on := 26, ground := Go.Ground.data }, { on := 24, ground := Go.Ground.guard }], guard := Option.some (24, Bool.true) }) (v := ?_) rfl (by kernel_rfl) (by kernel_rfl) (by kernel_rfl) (fun _ _ _ h => h) (Or.inl ⟨by rfl, ?_⟩) (by assumption) ?_
  rotate_left
  · intro w hSw; (try dsimp only at hSw); go_simp; (try with_reducible rfl)
  simp only [Act.put, List.setIfInBounds_toArray, List.set_cons_zero, List.set_cons_succ]
  refine wpAnyH_take (i := 28) (oi := { dst := Option.some 88, op := Go.Op.pick (Go.Operand.tmp 84) (Go.Operand.tmp 87) (Go.Operand.const (Go.Value.bool Bool.false)), type := 4, pos := "law.go:70", after := #[{ on := 24, ground := Go.Ground.data }, { on := 27, ground := Go.Ground.data }], guard := Option.none }) (v := ?_) rfl (by kernel_rfl) (by kernel_rfl) (by kernel_rfl) (fun _ _ _ h => h) (Or.inl ⟨by rfl, ?_⟩) (by assumption) ?_
  rotate_left
  · intro w hSw; (try dsimp only at hSw); go_simp; (try with_reducible rfl)
  simp only [Act.put, List.setIfInBounds_toArray, List.set_cons_zero, List.set_cons_succ]
  refine wpAnyH_take (i := 29) (oi := { dst := Option.some 89, op := Go.Op.move (Go.Operand.tmp 88), type := 4, pos := "law.go:70", after := #[{ on := 28, ground := Go.Ground.data }, { on := 26, ground := Go.Ground.chain }], guard := Option.none }) (v := ?_) rfl (by kernel_rfl) (by kernel_rfl) (by kernel_rfl) (fun _ _ _ h => h) (Or.inl ⟨by rfl, ?_⟩) (by assumption) ?_
  rotate_left
  · intro w hSw; (try dsimp only at hSw); go_simp; (try with_reducible rfl)
  simp only [Act.put, List.setIfInBounds_toArray, List.set_cons_zero, List.set_cons_succ]
  refine wpAnyH_take (i := 30) (oi := { dst := Option.some 90, op := Go.Op.move (Go.Operand.tmp 15), type := 26, pos := "law.go:70", after := #[{ on := 29, ground := Go.Ground.guard }], guard := Option.some (29, Bool.true) }) (v := ?_) rfl (by kernel_rfl) (by kernel_rfl) (by kernel_rfl) (fun _ _ _ h => h) (Or.inl ⟨by rfl, ?_⟩) (by assumption) ?_
  rotate_left
  · intro w hSw; (try dsimp only at hSw); go_simp; (try with_reducible rfl)
  simp only [Act.put, List.setIfInBounds_toArray, List.set_cons_zero, List.set_cons_succ]
  refine wpAnyH_ready (rs := [31]) (by kernel_rfl) (by simp) ?_
  refine AllReadyH.cons (o := { dst := Option.some 91, op := Go.Op.call { callee := Go.Callee.value (Go.Operand.func 21), args := #[Go.Operand.tmp 90], argTypes := #[26] }, type := 3, pos := "law.go:70", after := #[{ on := 30, ground := Go.Ground.data }, { on := 29, ground := Go.Ground.chain }, { on := 29, ground := Go.Ground.guard }], guard := Option.some (29, Bool.true) }) rfl (fun K hK => ?_) AllReadyH.nil
  go_simp
  refine (Num_c _ v3 1 (E3_26.out.step (Mv.of_below hKF4)).now (T_26.out.step (Mv.of_below hKF4)).now).mono ?_
  rintro e w22 ⟨rfl, hb⟩
  have hKF5 : KF w17 w22 := KF.step hKF4 hb
  clear hb
  dsimp only
  refine hK.out _ _ (HSx.out _ hKF5) (fun hHeld5 => ?_)
  clear hK K
  try simp only [Act.put, List.setIfInBounds_toArray, List.set_cons_zero, List.set_cons_succ]
  refine wpAnyH_take (i := 32) (oi := { dst := Option.some 92, op := Go.Op.binOp Go.BinOp.eql 3 (Go.Operand.tmp 91) (Go.Operand.const (Go.Value.int Go.IntKind.i64 1)) 3, type := 4, pos := "law.go:70", after := #[{ on := 31, ground := Go.Ground.data }, { on := 29, ground := Go.Ground.guard }], guard := Option.some (29, Bool.true) }) (v := ?_) rfl (by kernel_rfl) (by kernel_rfl) (by kernel_rfl) (fun _ _ _ h => h) (Or.inl ⟨by rfl, ?_⟩) (by assumption) ?_
  rotate_left
  · intro w hSw; (try dsimp only at hSw); go_simp; (try with_reducible rfl)
  simp only [Act.put, List.setIfInBounds_toArray, List.set_cons_zero, List.set_cons_succ]
  refine wpAnyH_take (i := 33) (oi := { dst := Option.some 93, op := Go.Op.pick (Go.Operand.tmp 89) (Go.Operand.tmp 92) (Go.Operand.const (Go.Value.bool Bool.false)), type := 4, pos := "law.go:70", after := #[{ on := 29, ground := Go.Ground.data }, { on := 32, ground := Go.Ground.data }], guard := Option.none }) (v := ?_) rfl (by kernel_rfl) (by kernel_rfl) (by kernel_rfl) (fun _ _ _ h => h) (Or.inl ⟨by rfl, ?_⟩) (by assumption) ?_
  rotate_left
  · intro w hSw; (try dsimp only at hSw); go_simp; (try with_reducible rfl)
  simp only [Act.put, List.setIfInBounds_toArray, List.set_cons_zero, List.set_cons_succ]
  refine wpAnyH_take (i := 34) (oi := { dst := Option.some 94, op := Go.Op.move (Go.Operand.tmp 93), type := 4, pos := "law.go:70", after := #[{ on := 33, ground := Go.Ground.data }, { on := 31, ground := Go.Ground.chain }], guard := Option.none }) (v := ?_) rfl (by kernel_rfl) (by kernel_rfl) (by kernel_rfl) (fun _ _ _ h => h) (Or.inl ⟨by rfl, ?_⟩) (by assumption) ?_
  rotate_left
  · intro w hSw; (try dsimp only at hSw); go_simp; (try with_reducible rfl)
  simp only [Act.put, List.setIfInBounds_toArray, List.set_cons_zero, List.set_cons_succ]
  refine wpAnyH_take (i := 35) (oi := { dst := Option.some 95, op := Go.Op.move (Go.Operand.tmp 17), type := 26, pos := "law.go:70", after := #[{ on := 34, ground := Go.Ground.guard }], guard := Option.some (34, Bool.true) }) (v := ?_) rfl (by kernel_rfl) (by kernel_rfl) (by kernel_rfl) (fun _ _ _ h => h) (Or.inl ⟨by rfl, ?_⟩) (by assumption) ?_
  rotate_left
  · intro w hSw; (try dsimp only at hSw); go_simp; (try with_reducible rfl)
  simp only [Act.put, List.setIfInBounds_toArray, List.set_cons_zero, List.set_cons_succ]
  refine wpAnyH_ready (rs := [36]) (by kernel_rfl) (by simp) ?_
  refine AllReadyH.cons (o := { dst := Option.some 96, op := Go.Op.call { callee := Go.Callee.value (Go.Operand.func 21), args := #[Go.Operand.tmp 95], argTypes := #[26] }, type := 3, pos := "law.go:70", after := #[{ on := 35, ground := Go.Ground.data }, { on := 34, ground := Go.Ground.chain }, { on := 34, ground := Go.Ground.guard }], guard := Option.some (34, Bool.true) }) rfl (fun K hK => ?_) AllReadyH.nil
  go_simp
  refine (Num_c _ v4 7 (E4_26.out.step (Mv.of_below hKF5)).now (T_26.out.step (Mv.of_below hKF5)).now).mono ?_
  rintro e w23 ⟨rfl, hb⟩
  have hKF6 : KF w17 w23 := KF.step hKF5 hb
  clear hb
  dsimp only
  refine hK.out _ _ (HSx.out _ hKF6) (fun hHeld6 => ?_)
  clear hK K
  try simp only [Act.put, List.setIfInBounds_toArray, List.set_cons_zero, List.set_cons_succ]
  refine wpAnyH_take (i := 37) (oi := { dst := Option.some 97, op := Go.Op.binOp Go.BinOp.eql 3 (Go.Operand.tmp 96) (Go.Operand.const (Go.Value.int Go.IntKind.i64 7)) 3, type := 4, pos := "law.go:70", after := #[{ on := 36, ground := Go.Ground.data }, { on := 34, ground := Go.Ground.guard }], guard := Option.some (34, Bool.true) }) (v := ?_) rfl (by kernel_rfl) (by kernel_rfl) (by kernel_rfl) (fun _ _ _ h => h) (Or.inl ⟨by rfl, ?_⟩) (by assumption) ?_
  rotate_left
  · intro w hSw; (try dsimp only at hSw); go_simp; (try with_reducible rfl)
  simp only [Act.put, List.setIfInBounds_toArray, List.set_cons_zero, List.set_cons_succ]
  refine wpAnyH_take (i := 38) (oi := { dst := Option.some 98, op := Go.Op.pick (Go.Operand.tmp 94) (Go.Operand.tmp 97) (Go.Operand.const (Go.Value.bool Bool.false)), type := 4, pos := "law.go:70", after := #[{ on := 34, ground := Go.Ground.data }, { on := 37, ground := Go.Ground.data }], guard := Option.none }) (v := ?_) rfl (by kernel_rfl) (by kernel_rfl) (by kernel_rfl) (fun _ _ _ h => h) (Or.inl ⟨by rfl, ?_⟩) (by assumption) ?_
  rotate_left
  · intro w hSw; (try dsimp only at hSw); go_simp; (try with_reducible rfl)
  simp only [Act.put, List.setIfInBounds_toArray, List.set_cons_zero, List.set_cons_succ]
  refine wpAnyH_take (i := 39) (oi := { dst := Option.some 4, op := Go.Op.assign (Go.Operand.tmp 98), type := 4, pos := "law.go:70", after := #[{ on := 38, ground := Go.Ground.data }, { on := 36, ground := Go.Ground.chain }, { on := 0, ground := Go.Ground.phase }, { on := 1, ground := Go.Ground.phase }, { on := 2, ground := Go.Ground.phase }, { on := 3, ground := Go.Ground.phase }, { on := 4, ground := Go.Ground.phase }, { on := 5, ground := Go.Ground.phase }, { on := 6, ground := Go.Ground.phase }, { on := 7, ground := Go.Ground.phase }, { on := 8, ground := Go.Ground.phase }, { on := 9, ground := Go.Ground.phase }, { on := 10, ground := Go.Ground.phase }, { on := 11, ground := Go.Ground.phase }, { on := 12, ground := Go.Ground.phase }, { on := 13, ground := Go.Ground.phase }, { on := 14, ground := Go.Ground.phase }, { on := 15, ground := Go.Ground.phase }, { on := 16, ground := Go.Ground.phase }, { on := 17, ground := Go.Ground.phase }, { on := 18, ground := Go.Ground.phase }, { on := 19, ground := Go.Ground.phase }, { on := 20, ground := Go.Ground.phase }, { on := 21, ground := Go.Ground.phase }, { on := 22, ground := Go.Ground.phase }, { on := 23, ground := Go.Ground.phase }, { on := 24, ground := Go.Ground.phase }, { on := 25, ground := Go.Ground.phase }, { on := 26, ground := Go.Ground.phase }, { on := 27, ground := Go.Ground.phase }, { on := 28, ground := Go.Ground.phase }, { on := 29, ground := Go.Ground.phase }, { on := 30, ground := Go.Ground.phase }, { on := 31, ground := Go.Ground.phase }, { on := 32, ground := Go.Ground.phase }, { on := 33, ground := Go.Ground.phase }, { on := 34, ground := Go.Ground.phase }, { on := 35, ground := Go.Ground.phase }, { on := 36, ground := Go.Ground.phase }, { on := 37, ground := Go.Ground.phase }, { on := 38, ground := Go.Ground.phase }], guard := Option.none }) (v := ?_) rfl (by kernel_rfl) (by kernel_rfl) (by kernel_rfl) (fun _ _ _ h => h) (Or.inl ⟨by rfl, ?_⟩) (by assumption) ?_
  rotate_left
  · intro w hSw; (try dsimp only at hSw); go_simp; (try with_reducible rfl)
  simp only [Act.put, List.setIfInBounds_toArray, List.set_cons_zero, List.set_cons_succ]
  refine wpAnyH_done (by kernel_rfl) ?_ _
  have hbm : Below w17.heap.size w17 w23 := hKF6
  have hm : Mv S4 S4 w17 w23 := Mv.of_below hbm
  have T_28 := hdS T_26 hm
  have P_28 := hdS P_26 hm
  have Q_28 := hdS Q_26 hm
  have X_28 := hdS X_26 hm
  have Y_28 := hdS Y_26 hm
  have E2_28 := hdS E2_26 hm
  have E3_28 := hdS E3_26 hm
  have E4_28 := hdS E4_26 hm
  have HM_28 := hdT HM_26 hm
  have WI_28 := hdW WI_26 hm
  clear T_26 P_26 Q_26 X_26 Y_26 E2_26 E3_26 E4_26 HM_26 WI_26
  have HD_28 := Lib.hid (HD_26.out.under hbm)
  clear HD_26 hm hbm HSx hKF0 hKF1 hKF2 hKF3 hKF4 hKF5 hKF6
  go_wp2_with fail
  go_ret
  exact ⟨rfl, HM_28.out.below⟩
set_option maxHeartbeats 8000000 in
set_option maxRecDepth 100000 in
theorem sbest_f (a b : Pg) (ha : a.length = 128) (hb : b.length = 128) (hk : rbB a b = false) (w : World) (tied : Tied w) : Calls Tryd.prog 13 #[.agg (pv a).toArray, .agg (pv b).toArray] w fun e w' => e = .returned (.bool true) ∧ Below w.heap.size w w' := by
  have HAL := Lib.hid ha
  have HBL := Lib.hid hb
  have hxl := rbS_l a b
  have HRB := Lib.hid (fun w => rbest_any a b ha hb w)
  have hbp := rb_best (List.replicate 3 zp) ([] ++ [((0 : Int), a)] ++ [((1 : Int), b)]) a b (by simp) (by rw [readP_snoc, if_neg (show ¬ (1 : Int) = 0 by decide), readP_snoc, if_pos rfl]) (by rw [readP_snoc, if_pos rfl])
  rw [hk] at HRB hbp
  rw [if_neg (by decide)] at hbp
  obtain ⟨x, hx⟩ : ∃ q, q = rbS a b := ⟨_, rfl⟩
  rw [← hx] at HRB hbp hxl
  have HXL := Lib.hid hxl
  have HBP := Lib.hid hbp
  have HPL := Lib.hid (fun w => plain_any x hxl w)
  have hse := supE_self x
  have hbz := build_sp0
  clear ha hb hxl hbp hx hk
  have HM0 := Lib.hid (Mv.refl No w)
  have T0 := Lib.hid (Stays.tied tied)
  have WI0 := Lib.hid (Wi.no w)
  clear tied
  go_enter Tryd.func13, Tryd.ntmps13
  go_upto_region 1 with fail
  obtain ⟨w1, hw1⟩ : ∃ q, q = w.alloc (.cells (pv (a)).toArray 35) := ⟨_, rfl⟩
  try rw [← hw1]
  have hbm : Below w.heap.size w w1 := by rw [hw1]; exact (Below.refl _ _).alloc (Nat.le_refl _) _
  have hm : Mv No No w w1 := Mv.of_below hbm
  have hbx : Stays No w1 (fun W => PgAt W w.heap.size (a)) := Stays.box HAL.out WI0.out hw1
  have hsz1 : w1.heap.size = w.heap.size + 1 := by rw [hw1]; simp
  obtain ⟨BP, hBP⟩ : ∃ q, q = w.heap.size := ⟨_, rfl⟩
  try rw [← hBP]
  rw [← hBP] at hbx hsz1
  have T_1 := hdS T0 hm
  have HM_1 := hdT HM0 hm
  have WI_1 := hdW WI0 hm
  clear T0 HM0 WI0 hm hbm hw1 hBP
  have P_2 := Lib.hid (hbx)
  clear hbx
  obtain ⟨w2, hw2⟩ : ∃ q, q = w1.alloc (.cells (pv (b)).toArray 35) := ⟨_, rfl⟩
  try rw [← hw2]
  have hbm : Below w1.heap.size w1 w2 := by rw [hw2]; exact (Below.refl _ _).alloc (Nat.le_refl _) _
  have hm : Mv No No w1 w2 := Mv.of_below hbm
  have hbx : Stays No w2 (fun W => PgAt W w1.heap.size (b)) := Stays.box HBL.out WI_1.out hw2
  have hsz2 : w2.heap.size = w1.heap.size + 1 := by rw [hw2]; simp
  try rw [← hsz1]
  clear hsz1
  obtain ⟨BQ, hBQ⟩ : ∃ q, q = w1.heap.size := ⟨_, rfl⟩
  try rw [← hBQ]
  rw [← hBQ] at hbx hsz2
  have T_3 := hdS T_1 hm
  have P_3 := hdS P_2 hm
  have HM_3 := hdT HM_1 hm
  have WI_3 := hdW WI_1 hm
  clear T_1 P_2 HM_1 WI_1 hm hbm hw2 hBQ
  have Q_4 := Lib.hid (hbx)
  clear hbx hsz2
  go_wp2_with fail
  refine (awake7 _ T_3.out.now).mono ?_
  rintro e w3 ⟨rfl, hb⟩
  have hbm : Below w2.heap.size w2 w3 := hb
  clear hb
  have hm : Mv No No w2 w3 := Mv.of_below hbm
  have T_5 := hdS T_3 hm
  have P_5 := hdS P_3 hm
  have Q_5 := hdS Q_4 hm
  have HM_5 := hdT HM_3 hm
  have WI_5 := hdW WI_3 hm
  clear T_3 P_3 Q_4 HM_3 WI_3 hm hbm
  go_wp2_with fail
  refine (new_m 3 _ (by decide) (by decide)).mono ?_
  rintro e w4 ⟨D, S1, rfl, hd, hb, hm⟩
  have T_6 := hdS T_5 hm
  have P_6 := hdS P_5 hm
  have Q_6 := hdS Q_5 hm
  have HM_6 := hdT HM_5 hm
  clear hb T_5 P_5 Q_5 HM_5
  have WI_6 := Lib.hid (hd.wi)
  clear WI_5
  have HD_6 := Lib.hid (hd)
  clear hm hd
  go_wp2_with (first | ((with_reducible refine at_ld 35 (.tmp 2) ?_); refine ld_pr rfl _ rfl BP (0) rfl a ?_ ?_ ?_; exact HAL.out; exact (P_6.out.now).r))
  refine (write_ok 0 a HD_6.out (by simp) HAL.out (by simp [mayC])).mono ?_
  rintro e w5 ⟨S2, rfl, hd, hm⟩
  have T_7 := hdS T_6 hm
  have P_7 := hdS P_6 hm
  have Q_7 := hdS Q_6 hm
  have HM_7 := hdT HM_6 hm
  clear T_6 P_6 Q_6 HM_6
  have WI_7 := Lib.hid (hd.wi)
  clear WI_6
  have HD_7 := Lib.hid (hd)
  clear HD_6 hm hd
  go_wp2_with (first | ((with_reducible refine at_ld 35 (.tmp 3) ?_); refine ld_pr rfl _ rfl BQ (0) rfl b ?_ ?_ ?_; exact HBL.out; exact (Q_7.out.now).r))
  refine (write_ok 1 b HD_7.out (by simp) HBL.out (by simp [mayC])).mono ?_
  rintro e w6 ⟨S3, rfl, hd, hm⟩
  have T_8 := hdS T_7 hm
  have P_8 := hdS P_7 hm
  have Q_8 := hdS Q_7 hm
  have HM_8 := hdT HM_7 hm
  clear T_7 P_7 Q_7 HM_7
  have WI_8 := Lib.hid (hd.wi)
  clear WI_7
  have HD_8 := Lib.hid (hd)
  clear HD_7 hm hd
  go_wp2_with fail
  have HBC := Lib.hid (best_m HD_8.out (by simp))
  rw [HBP.out.1, HBP.out.2] at HBC
  refine (HBC.out).mono ?_
  rintro e w7 ⟨v1, rfl, he, hb⟩
  have hbm : Below w6.heap.size w6 w7 := hb
  clear hb
  have hm : Mv S3 S3 w6 w7 := Mv.of_below hbm
  have hst := Stays.err he WI_8.out
  have T_9 := hdS T_8 hm
  have P_9 := hdS P_8 hm
  have Q_9 := hdS Q_8 hm
  have HM_9 := hdT HM_8 hm
  have WI_9 := hdW WI_8 hm
  clear he T_8 P_8 Q_8 HM_8 WI_8
  have HD_9 := Lib.hid (HD_8.out.under hbm)
  clear HD_8 hm hbm
  have E1_10 := Lib.hid (hst)
  clear hst HBC
  go_wp2_with (first | ((with_reducible refine at_al 72 ?_); refine al_sp rfl rfl ?_) | ((with_reducible refine at_st 72 (.tmp 7) (.tmp 33) ?_); refine stn_sp rfl _ _ rfl _ _ _ rfl rfl x ?_ rfl ?_ ?_; exact HXL.out; exact ssz) | ((with_reducible refine at_ld 35 (.tmp 2) ?_); refine ld_pr rfl _ rfl BP (0) rfl a ?_ ?_ ?_; exact HAL.out; exact ((P_9.out.step (Mv.alloc S3 w7 (.cells (sv x).toArray 72))).now).r) | ((with_reducible refine at_ld 35 (.tmp 3) ?_); refine ld_pr rfl _ rfl BQ (0) rfl b ?_ ?_ ?_; exact HBL.out; exact ((Q_9.out.step (Mv.alloc S3 w7 (.cells (sv x).toArray 72))).now).r))
  obtain ⟨w8, hw8⟩ : ∃ q, q = w7.alloc (.cells (sv (x)).toArray 72) := ⟨_, rfl⟩
  try rw [← hw8]
  have hbm : Below w7.heap.size w7 w8 := by rw [hw8]; exact (Below.refl _ _).alloc (Nat.le_refl _) _
  have hm : Mv S3 S3 w7 w8 := Mv.of_below hbm
  have hbx : Stays S3 w8 (fun W => SupAt W w7.heap.size (x)) := Stays.boxS HXL.out WI_9.out hw8
  have hsz8 : w8.heap.size = w7.heap.size + 1 := by rw [hw8]; simp
  obtain ⟨BX, hBX⟩ : ∃ q, q = w7.heap.size := ⟨_, rfl⟩
  try rw [← hBX]
  rw [← hBX] at hbx hsz8
  have T_11 := hdS T_9 hm
  have P_11 := hdS P_9 hm
  have Q_11 := hdS Q_9 hm
  have E1_11 := hdS E1_10 hm
  have HM_11 := hdT HM_9 hm
  have WI_11 := hdW WI_9 hm
  clear T_9 P_9 Q_9 E1_10 HM_9 WI_9
  have HD_11 := Lib.hid (HD_9.out.under hbm)
  clear HD_9 hm hbm hw8 hBX
  have X_12 := Lib.hid (hbx)
  clear hbx hsz8
  refine (HRB.out _).mono ?_
  rintro e w9 ⟨rfl, hb⟩
  have hbm : Below w8.heap.size w8 w9 := hb
  clear hb
  have hm : Mv S3 S3 w8 w9 := Mv.of_below hbm
  have T_13 := hdS T_11 hm
  have P_13 := hdS P_11 hm
  have Q_13 := hdS Q_11 hm
  have E1_13 := hdS E1_11 hm
  have X_13 := hdS X_12 hm
  have HM_13 := hdT HM_11 hm
  have WI_13 := hdW WI_11 hm
  clear T_11 P_11 Q_11 E1_11 X_12 HM_11 WI_11
  have HD_13 := Lib.hid (HD_11.out.under hbm)
  clear HD_11 hm hbm
  go_wp2_with (first | ((with_reducible refine at_al 68 ?_); refine al_rp rfl rfl ?_) | ((with_reducible refine at_st 68 (.tmp 9) (.tmp 39) ?_); refine stn_rp rfl _ _ rfl _ _ _ rfl rfl x ?_ rfl ?_ ?_; exact HXL.out; exact ssz))
  obtain ⟨w10, hw10⟩ : ∃ q, q = w9.alloc (.cells (sv (x)).toArray 68) := ⟨_, rfl⟩
  try rw [← hw10]
  have hbm : Below w9.heap.size w9 w10 := by rw [hw10]; exact (Below.refl _ _).alloc (Nat.le_refl _) _
  have hm : Mv S3 S3 w9 w10 := Mv.of_below hbm
  have hbx : Stays S3 w10 (fun W => SupAt W w9.heap.size (x)) := Stays.boxS HXL.out WI_13.out hw10
  have hsz10 : w10.heap.size = w9.heap.size + 1 := by rw [hw10]; simp
  obtain ⟨BY, hBY⟩ : ∃ q, q = w9.heap.size := ⟨_, rfl⟩
  try rw [← hBY]
  rw [← hBY] at hbx hsz10
  have T_14 := hdS T_13 hm
  have P_14 := hdS P_13 hm
  have Q_14 := hdS Q_13 hm
  have E1_14 := hdS E1_13 hm
  have X_14 := hdS X_13 hm
  have HM_14 := hdT HM_13 hm
  have WI_14 := hdW WI_13 hm
  clear T_13 P_13 Q_13 E1_13 X_13 HM_13 WI_13
  have HD_14 := Lib.hid (HD_13.out.under hbm)
  clear HD_13 hm hbm hw10 hBY
  have Y_15 := Lib.hid (hbx)
  clear hbx hsz10
  refine (new_m 2 _ (by decide) (by decide)).mono ?_
  rintro e w11 ⟨D2, Sx, rfl, hdx, hb, hmx⟩
  have hbm : Below w10.heap.size w10 w11 := hb
  clear hb
  have hst := Stays.dsk hdx (fun k q => (hmx.s k q).resolve_left (fun z => z)) WI_14.out
  have hm : Mv S3 S3 w10 w11 := Mv.of_below hbm
  have T_16 := hdS T_14 hm
  have P_16 := hdS P_14 hm
  have Q_16 := hdS Q_14 hm
  have E1_16 := hdS E1_14 hm
  have X_16 := hdS X_14 hm
  have Y_16 := hdS Y_15 hm
  have HM_16 := hdT HM_14 hm
  have WI_16 := hdW WI_14 hm
  clear T_14 P_14 Q_14 E1_14 X_14 Y_15 HM_14 WI_14
  have HD_16 := Lib.hid (HD_14.out.under hbm)
  clear HD_14 hm hbm hdx hmx
  have K_17 := Lib.hid (hst)
  clear hst
  go_wp2_with fail
  refine (best_small (K_17.out.now) (by simp) (by simp)).mono ?_
  rintro e w12 ⟨v2, rfl, he, hb⟩
  have hbm : Below w11.heap.size w11 w12 := hb
  clear hb
  have hm : Mv S3 S3 w11 w12 := Mv.of_below hbm
  have hst := Stays.err he WI_16.out
  have T_18 := hdS T_16 hm
  have P_18 := hdS P_16 hm
  have Q_18 := hdS Q_16 hm
  have E1_18 := hdS E1_16 hm
  have X_18 := hdS X_16 hm
  have Y_18 := hdS Y_16 hm
  have K_18 := hdS K_17 hm
  have HM_18 := hdT HM_16 hm
  have WI_18 := hdW WI_16 hm
  clear he T_16 P_16 Q_16 E1_16 X_16 Y_16 K_17 HM_16 WI_16
  have HD_18 := Lib.hid (HD_16.out.under hbm)
  clear HD_16 hm hbm
  have E2_19 := Lib.hid (hst)
  clear hst
  go_wp2_with (first | ((with_reducible refine at_al 72 ?_); refine al_sp rfl rfl ?_) | ((with_reducible refine at_st 72 (.tmp 13) (.tmp 48) ?_); refine stn_sp rfl _ _ rfl _ _ _ rfl rfl sup0 ?_ rfl ?_ ?_; exact sup0_l; exact ssz))
  obtain ⟨w13, hw13⟩ : ∃ q, q = w12.alloc (.cells (sv (sup0)).toArray 72) := ⟨_, rfl⟩
  try rw [← hw13]
  have hbm : Below w12.heap.size w12 w13 := by rw [hw13]; exact (Below.refl _ _).alloc (Nat.le_refl _) _
  have hm : Mv S3 S3 w12 w13 := Mv.of_below hbm
  have hbx : Stays S3 w13 (fun W => SupAt W w12.heap.size (sup0)) := Stays.boxS sup0_l WI_18.out hw13
  have hsz13 : w13.heap.size = w12.heap.size + 1 := by rw [hw13]; simp
  obtain ⟨BZ, hBZ⟩ : ∃ q, q = w12.heap.size := ⟨_, rfl⟩
  try rw [← hBZ]
  rw [← hBZ] at hbx hsz13
  have T_20 := hdS T_18 hm
  have P_20 := hdS P_18 hm
  have Q_20 := hdS Q_18 hm
  have E1_20 := hdS E1_18 hm
  have X_20 := hdS X_18 hm
  have Y_20 := hdS Y_18 hm
  have K_20 := hdS K_18 hm
  have E2_20 := hdS E2_19 hm
  have HM_20 := hdT HM_18 hm
  have WI_20 := hdW WI_18 hm
  clear T_18 P_18 Q_18 E1_18 X_18 Y_18 K_18 E2_19 HM_18 WI_18
  have HD_20 := Lib.hid (HD_18.out.under hbm)
  clear HD_18 hm hbm hw13 hBZ
  have Z_21 := Lib.hid (hbx)
  clear hbx Z_21 K_20 hsz13
  refine (switch_bad sup0 sup0_fits (by decide) _ _).mono ?_
  rintro e w14 ⟨v3, rfl, he, hb⟩
  have hbm : Below w13.heap.size w13 w14 := hb
  clear hb
  have hm : Mv S3 S3 w13 w14 := Mv.of_below hbm
  have hst := Stays.err he WI_20.out
  have T_22 := hdS T_20 hm
  have P_22 := hdS P_20 hm
  have Q_22 := hdS Q_20 hm
  have E1_22 := hdS E1_20 hm
  have X_22 := hdS X_20 hm
  have Y_22 := hdS Y_20 hm
  have E2_22 := hdS E2_20 hm
  have HM_22 := hdT HM_20 hm
  have WI_22 := hdW WI_20 hm
  clear he T_20 P_20 Q_20 E1_20 X_20 Y_20 E2_20 HM_20 WI_20
  have HD_22 := Lib.hid (HD_20.out.under hbm)
  clear HD_20 hm hbm
  have E3_23 := Lib.hid (hst)
  clear hst
  go_wp2_with fail
  refine (crash_m 0 0 HD_22.out (by simp) (by decide) (by decide) (by decide)).mono ?_
  rintro e w15 ⟨S4, rfl, hd, hm⟩
  have T_24 := hdS T_22 hm
  have P_24 := hdS P_22 hm
  have Q_24 := hdS Q_22 hm
  have E1_24 := hdS E1_22 hm
  have X_24 := hdS X_22 hm
  have Y_24 := hdS Y_22 hm
  have E2_24 := hdS E2_22 hm
  have E3_24 := hdS E3_23 hm
  have HM_24 := hdT HM_22 hm
  clear T_22 P_22 Q_22 E1_22 X_22 Y_22 E2_22 E3_23 HM_22
  have WI_24 := Lib.hid (hd.wi)
  clear WI_22
  have HD_24 := Lib.hid (hd)
  clear HD_22 hm hd
  go_wp2_with fail
  refine (best_down HD_24.out (by simp) (by rw [crashP_len]; simp)).mono ?_
  rintro e w16 ⟨v4, rfl, he, hb⟩
  have hbm : Below w15.heap.size w15 w16 := hb
  clear hb
  have hm : Mv S4 S4 w15 w16 := Mv.of_below hbm
  have hst := Stays.err he WI_24.out
  have T_25 := hdS T_24 hm
  have P_25 := hdS P_24 hm
  have Q_25 := hdS Q_24 hm
  have E1_25 := hdS E1_24 hm
  have X_25 := hdS X_24 hm
  have Y_25 := hdS Y_24 hm
  have E2_25 := hdS E2_24 hm
  have E3_25 := hdS E3_24 hm
  have HM_25 := hdT HM_24 hm
  have WI_25 := hdW WI_24 hm
  clear he T_24 P_24 Q_24 E1_24 X_24 Y_24 E2_24 E3_24 HM_24 WI_24
  have HD_25 := Lib.hid (HD_24.out.under hbm)
  clear HD_24 hm hbm
  have E4_26 := Lib.hid (hst)
  clear hst
  go_wp2_with (first | ((with_reducible refine at_al 72 ?_); refine al_sp rfl rfl ?_) | ((with_reducible refine at_st 72 (.tmp 16) (.tmp 58) ?_); refine stn_sp rfl _ _ rfl _ _ _ rfl rfl sup0 ?_ rfl ?_ ?_; exact sup0_l; exact ssz))
  obtain ⟨w17, hw17⟩ : ∃ q, q = w16.alloc (.cells (sv (sup0)).toArray 72) := ⟨_, rfl⟩
  try rw [← hw17]
  have hbm : Below w16.heap.size w16 w17 := by rw [hw17]; exact (Below.refl _ _).alloc (Nat.le_refl _) _
  have hm : Mv S4 S4 w16 w17 := Mv.of_below hbm
  have hbx : Stays S4 w17 (fun W => SupAt W w16.heap.size (sup0)) := Stays.boxS sup0_l WI_25.out hw17
  have hsz17 : w17.heap.size = w16.heap.size + 1 := by rw [hw17]; simp
  obtain ⟨BZ, hBZ⟩ : ∃ q, q = w16.heap.size := ⟨_, rfl⟩
  try rw [← hBZ]
  rw [← hBZ] at hbx hsz17
  have T_27 := hdS T_25 hm
  have P_27 := hdS P_25 hm
  have Q_27 := hdS Q_25 hm
  have E1_27 := hdS E1_25 hm
  have X_27 := hdS X_25 hm
  have Y_27 := hdS Y_25 hm
  have E2_27 := hdS E2_25 hm
  have E3_27 := hdS E3_25 hm
  have E4_27 := hdS E4_26 hm
  have HM_27 := hdT HM_25 hm
  have WI_27 := hdW WI_25 hm
  clear T_25 P_25 Q_25 E1_25 X_25 Y_25 E2_25 E3_25 E4_26 HM_25 WI_25
  have HD_27 := Lib.hid (HD_25.out.under hbm)
  clear HD_25 hm hbm hw17 hBZ
  have Z_28 := Lib.hid (hbx)
  clear hbx Z_28 hsz17
  have HSx : Hid (∀ wz, KF w17 wz → (fun wz => KF w17 wz) wz) := Lib.hid (fun wz h => h)
  refine wp_region_held_drew (S := fun wz => KF w17 wz) (by kernel_rfl) ?_ (fun hHeld => ?_)
  · exact HSx.out _ (KF.drew (KF.refl _))
  have hKF0 : KF w17 w17.drew := KF.drew (KF.refl _)
  refine wpAnyH_take (i := 0) (oi := { dst := Option.some 60, op := Go.Op.move (Go.Operand.tmp 6), type := 26, pos := "law.go:70", after := #[], guard := Option.none }) (v := ?_) rfl (by kernel_rfl) (by kernel_rfl) (by kernel_rfl) (fun _ _ _ h => h) (Or.inl ⟨by rfl, ?_⟩) (by assumption) ?_
  rotate_left
  · intro w hSw; (try dsimp only at hSw); go_simp; (try with_reducible rfl)
  simp only [Act.put, List.setIfInBounds_toArray, List.set_cons_zero, List.set_cons_succ]
  refine wpAnyH_ready (rs := [1]) (by kernel_rfl) (by simp) ?_
  refine AllReadyH.cons (o := { dst := Option.some 61, op := Go.Op.call { callee := Go.Callee.value (Go.Operand.func 21), args := #[Go.Operand.tmp 60], argTypes := #[26] }, type := 3, pos := "law.go:70", after := #[{ on := 0, ground := Go.Ground.data }], guard := Option.none }) rfl (fun K hK => ?_) AllReadyH.nil
  go_simp
  refine (num_nil_b3 _).mono ?_
  rintro e w18 ⟨rfl, hb⟩
  have hKF1 : KF w17 w18 := KF.step hKF0 hb
  clear hb
  dsimp only
  refine hK.out _ _ (HSx.out _ hKF1) (fun hHeld1 => ?_)
  clear hK K
  try simp only [Act.put, List.setIfInBounds_toArray, List.set_cons_zero, List.set_cons_succ]
  refine wpAnyH_take (i := 2) (oi := { dst := Option.some 62, op := Go.Op.binOp Go.BinOp.eql 3 (Go.Operand.tmp 61) (Go.Operand.const (Go.Value.int Go.IntKind.i64 0)) 3, type := 4, pos := "law.go:70", after := #[{ on := 1, ground := Go.Ground.data }], guard := Option.none }) (v := ?_) rfl (by kernel_rfl) (by kernel_rfl) (by kernel_rfl) (fun _ _ _ h => h) (Or.inl ⟨by rfl, ?_⟩) (by assumption) ?_
  rotate_left
  · intro w hSw; (try dsimp only at hSw); go_simp; (try with_reducible rfl)
  simp only [Act.put, List.setIfInBounds_toArray, List.set_cons_zero, List.set_cons_succ]
  refine wpAnyH_take (i := 3) (oi := { dst := Option.some 63, op := Go.Op.move (Go.Operand.tmp 62), type := 4, pos := "law.go:70", after := #[{ on := 2, ground := Go.Ground.data }, { on := 1, ground := Go.Ground.chain }], guard := Option.none }) (v := ?_) rfl (by kernel_rfl) (by kernel_rfl) (by kernel_rfl) (fun _ _ _ h => h) (Or.inl ⟨by rfl, ?_⟩) (by assumption) ?_
  rotate_left
  · intro w hSw; (try dsimp only at hSw); go_simp; (try with_reducible rfl)
  simp only [Act.put, List.setIfInBounds_toArray, List.set_cons_zero, List.set_cons_succ]
  refine wpAnyH_take (i := 4) (oi := { dst := Option.some 64, op := Go.Op.load 72 (Go.Operand.tmp 7), type := 72, pos := "law.go:70", after := #[{ on := 3, ground := Go.Ground.guard }], guard := Option.some (3, Bool.true) }) rfl (by kernel_rfl) (by kernel_rfl) (by kernel_rfl) (fun _ _ _ h => h) (yieldsIf_load_mid (by rfl) 72 _ rfl BX 0 rfl (sv x) _ (fun W hW => (X_27.out.step (Mv.of_below hW)).now.r) Tryd.underlying72 rfl (szof_sp HXL.out)) (by assumption) ?_
  simp only [Act.put, List.setIfInBounds_toArray, List.set_cons_zero, List.set_cons_succ]
  refine wpAnyH_take (i := 6) (oi := { dst := Option.some 66, op := Go.Op.load 68 (Go.Operand.tmp 9), type := 68, pos := "law.go:70", after := #[{ on := 3, ground := Go.Ground.guard }], guard := Option.some (3, Bool.true) }) rfl (by kernel_rfl) (by kernel_rfl) (by kernel_rfl) (fun _ _ _ h => h) (yieldsIf_load_mid (by rfl) 68 _ rfl BY 0 rfl (sv x) _ (fun W hW => (Y_27.out.step (Mv.of_below hW)).now.r) Tryd.underlying68 rfl (szof_rp HXL.out)) (by assumption) ?_
  simp only [Act.put, List.setIfInBounds_toArray, List.set_cons_zero, List.set_cons_succ]
  refine wpAnyH_ready (rs := [5]) (by kernel_rfl) (by simp) ?_
  refine AllReadyH.cons (o := { dst := Option.some 65, op := Go.Op.call { callee := Go.Callee.value (Go.Operand.func 46), args := #[Go.Operand.tmp 64], argTypes := #[72] }, type := 68, pos := "law.go:70", after := #[{ on := 4, ground := Go.Ground.data }, { on := 3, ground := Go.Ground.chain }, { on := 3, ground := Go.Ground.guard }], guard := Option.some (3, Bool.true) }) rfl (fun K hK => ?_) AllReadyH.nil
  go_simp
  refine (HPL.out _).mono ?_
  rintro e w19 ⟨rfl, hb⟩
  have hKF2 : KF w17 w19 := KF.step hKF1 hb
  clear hb
  dsimp only
  refine hK.out _ _ (HSx.out _ hKF2) (fun hHeld2 => ?_)
  clear hK K
  try simp only [Act.put, List.setIfInBounds_toArray, List.set_cons_zero, List.set_cons_succ]
  refine wpAnyH_take (i := 7) (oi := { dst := Option.some 67, op := Go.Op.binOp Go.BinOp.eql 68 (Go.Operand.tmp 65) (Go.Operand.tmp 66) 68, type := 4, pos := "law.go:70", after := #[{ on := 5, ground := Go.Ground.data }, { on := 6, ground := Go.Ground.data }, { on := 3, ground := Go.Ground.guard }], guard := Option.some (3, Bool.true) }) rfl (by kernel_rfl) (by kernel_rfl) (by kernel_rfl) (fun _ _ _ h => h) (yif_eq_rp (by rfl) _ _ rfl x x rfl rfl HXL.out HXL.out) (by assumption) ?_
  simp only [Act.put, List.setIfInBounds_toArray, List.set_cons_zero, List.set_cons_succ]
  rw [hse]
  refine wpAnyH_take (i := 8) (oi := { dst := Option.some 68, op := Go.Op.pick (Go.Operand.tmp 63) (Go.Operand.tmp 67) (Go.Operand.const (Go.Value.bool Bool.false)), type := 4, pos := "law.go:70", after := #[{ on := 3, ground := Go.Ground.data }, { on := 7, ground := Go.Ground.data }], guard := Option.none }) (v := ?_) rfl (by kernel_rfl) (by kernel_rfl) (by kernel_rfl) (fun _ _ _ h => h) (Or.inl ⟨by rfl, ?_⟩) (by assumption) ?_
  rotate_left
  · intro w hSw; (try dsimp only at hSw); go_simp; (try with_reducible rfl)
  simp only [Act.put, List.setIfInBounds_toArray, List.set_cons_zero, List.set_cons_succ]
  refine wpAnyH_take (i := 9) (oi := { dst := Option.some 69, op := Go.Op.move (Go.Operand.tmp 68), type := 4, pos := "law.go:70", after := #[{ on := 8, ground := Go.Ground.data }, { on := 5, ground := Go.Ground.chain }], guard := Option.none }) (v := ?_) rfl (by kernel_rfl) (by kernel_rfl) (by kernel_rfl) (fun _ _ _ h => h) (Or.inl ⟨by rfl, ?_⟩) (by assumption) ?_
  rotate_left
  · intro w hSw; (try dsimp only at hSw); go_simp; (try with_reducible rfl)
  simp only [Act.put, List.setIfInBounds_toArray, List.set_cons_zero, List.set_cons_succ]
  refine wpAnyH_take (i := 10) (oi := { dst := Option.some 70, op := Go.Op.move (Go.Operand.tmp 10), type := 4, pos := "law.go:70", after := #[{ on := 9, ground := Go.Ground.guard }], guard := Option.some (9, Bool.true) }) (v := ?_) rfl (by kernel_rfl) (by kernel_rfl) (by kernel_rfl) (fun _ _ _ h => h) (Or.inl ⟨by rfl, ?_⟩) (by assumption) ?_
  rotate_left
  · intro w hSw; (try dsimp only at hSw); go_simp; (try with_reducible rfl)
  simp only [Act.put, List.setIfInBounds_toArray, List.set_cons_zero, List.set_cons_succ]
  refine wpAnyH_take (i := 11) (oi := { dst := Option.some 71, op := Go.Op.move (Go.Operand.tmp 8), type := 26, pos := "law.go:70", after := #[{ on := 9, ground := Go.Ground.guard }], guard := Option.some (9, Bool.true) }) (v := ?_) rfl (by kernel_rfl) (by kernel_rfl) (by kernel_rfl) (fun _ _ _ h => h) (Or.inl ⟨by rfl, ?_⟩) (by assumption) ?_
  rotate_left
  · intro w hSw; (try dsimp only at hSw); go_simp; (try with_reducible rfl)
  simp only [Act.put, List.setIfInBounds_toArray, List.set_cons_zero, List.set_cons_succ]
  refine wpAnyH_ready (rs := [12]) (by kernel_rfl) (by simp) ?_
  refine AllReadyH.cons (o := { dst := Option.some 72, op := Go.Op.call { callee := Go.Callee.value (Go.Operand.func 21), args := #[Go.Operand.tmp 71], argTypes := #[26] }, type := 3, pos := "law.go:70", after := #[{ on := 11, ground := Go.Ground.data }, { on := 9, ground := Go.Ground.chain }, { on := 9, ground := Go.Ground.guard }], guard := Option.some (9, Bool.true) }) rfl (fun K hK => ?_) AllReadyH.nil
  go_simp
  refine (Num_c _ v1 4 (E1_27.out.step (Mv.of_below hKF2)).now (T_27.out.step (Mv.of_below hKF2)).now).mono ?_
  rintro e w20 ⟨rfl, hb⟩
  have hKF3 : KF w17 w20 := KF.step hKF2 hb
  clear hb
  dsimp only
  refine hK.out _ _ (HSx.out _ hKF3) (fun hHeld3 => ?_)
  clear hK K
  try simp only [Act.put, List.setIfInBounds_toArray, List.set_cons_zero, List.set_cons_succ]
  refine wpAnyH_take (i := 13) (oi := { dst := Option.some 73, op := Go.Op.binOp Go.BinOp.eql 3 (Go.Operand.tmp 72) (Go.Operand.const (Go.Value.int Go.IntKind.i64 0)) 3, type := 4, pos := "law.go:70", after := #[{ on := 12, ground := Go.Ground.data }, { on := 9, ground := Go.Ground.guard }], guard := Option.some (9, Bool.true) }) (v := ?_) rfl (by kernel_rfl) (by kernel_rfl) (by kernel_rfl) (fun _ _ _ h => h) (Or.inl ⟨by rfl, ?_⟩) (by assumption) ?_
  rotate_left
  · intro w hSw; (try dsimp only at hSw); go_simp; (try with_reducible rfl)
  simp only [Act.put, List.setIfInBounds_toArray, List.set_cons_zero, List.set_cons_succ]
  refine wpAnyH_take (i := 14) (oi := { dst := Option.some 74, op := Go.Op.binOp Go.BinOp.eql 4 (Go.Operand.tmp 70) (Go.Operand.tmp 73) 4, type := 4, pos := "law.go:70", after := #[{ on := 10, ground := Go.Ground.data }, { on := 13, ground := Go.Ground.data }, { on := 9, ground := Go.Ground.guard }], guard := Option.some (9, Bool.true) }) (v := ?_) rfl (by kernel_rfl) (by kernel_rfl) (by kernel_rfl) (fun _ _ _ h => h) (Or.inl ⟨by rfl, ?_⟩) (by assumption) ?_
  rotate_left
  · intro w hSw; (try dsimp only at hSw); go_simp; (try with_reducible rfl)
  simp only [Act.put, List.setIfInBounds_toArray, List.set_cons_zero, List.set_cons_succ]
  refine wpAnyH_take (i := 15) (oi := { dst := Option.some 75, op := Go.Op.pick (Go.Operand.tmp 69) (Go.Operand.tmp 74) (Go.Operand.const (Go.Value.bool Bool.false)), type := 4, pos := "law.go:70", after := #[{ on := 9, ground := Go.Ground.data }, { on := 14, ground := Go.Ground.data }], guard := Option.none }) (v := ?_) rfl (by kernel_rfl) (by kernel_rfl) (by kernel_rfl) (fun _ _ _ h => h) (Or.inl ⟨by rfl, ?_⟩) (by assumption) ?_
  rotate_left
  · intro w hSw; (try dsimp only at hSw); go_simp; (try with_reducible rfl)
  simp only [Act.put, List.setIfInBounds_toArray, List.set_cons_zero, List.set_cons_succ]
  refine wpAnyH_take (i := 16) (oi := { dst := Option.some 76, op := Go.Op.move (Go.Operand.tmp 75), type := 4, pos := "law.go:70", after := #[{ on := 15, ground := Go.Ground.data }, { on := 12, ground := Go.Ground.chain }], guard := Option.none }) (v := ?_) rfl (by kernel_rfl) (by kernel_rfl) (by kernel_rfl) (fun _ _ _ h => h) (Or.inl ⟨by rfl, ?_⟩) (by assumption) ?_
  rotate_left
  · intro w hSw; (try dsimp only at hSw); go_simp; (try with_reducible rfl)
  simp only [Act.put, List.setIfInBounds_toArray, List.set_cons_zero, List.set_cons_succ]
  refine wpAnyH_take (i := 17) (oi := { dst := Option.some 77, op := Go.Op.move (Go.Operand.tmp 10), type := 4, pos := "law.go:70", after := #[{ on := 16, ground := Go.Ground.guard }], guard := Option.some (16, Bool.true) }) (v := ?_) rfl (by kernel_rfl) (by kernel_rfl) (by kernel_rfl) (fun _ _ _ h => h) (Or.inl ⟨by rfl, ?_⟩) (by assumption) ?_
  rotate_left
  · intro w hSw; (try dsimp only at hSw); go_simp; (try with_reducible rfl)
  simp only [Act.put, List.setIfInBounds_toArray, List.set_cons_zero, List.set_cons_succ]
  refine wpAnyH_take (i := 18) (oi := { dst := Option.some 78, op := Go.Op.move (Go.Operand.tmp 77), type := 4, pos := "law.go:70", after := #[{ on := 17, ground := Go.Ground.data }, { on := 16, ground := Go.Ground.chain }, { on := 16, ground := Go.Ground.guard }], guard := Option.some (16, Bool.true) }) (v := ?_) rfl (by kernel_rfl) (by kernel_rfl) (by kernel_rfl) (fun _ _ _ h => h) (Or.inl ⟨by rfl, ?_⟩) (by assumption) ?_
  rotate_left
  · intro w hSw; (try dsimp only at hSw); go_simp; (try with_reducible rfl)
  simp only [Act.put, List.setIfInBounds_toArray, List.set_cons_zero, List.set_cons_succ]
  refine wpAnyH_take (i := 19) (oi := { dst := Option.some 79, op := Go.Op.move (Go.Operand.tmp 8), type := 26, pos := "law.go:70", after := #[{ on := 18, ground := Go.Ground.guard }], guard := Option.some (18, Bool.false) }) (v := ?_) rfl (by kernel_rfl) (by kernel_rfl) (by kernel_rfl) (fun _ _ _ h => h) (Or.inl ⟨by rfl, ?_⟩) (by assumption) ?_
  rotate_left
  · intro w hSw; (try dsimp only at hSw); go_simp; (try with_reducible rfl)
  simp only [Act.put, List.setIfInBounds_toArray, List.set_cons_zero, List.set_cons_succ]
  refine wpAnyH_ready (rs := [20]) (by kernel_rfl) (by simp) ?_
  refine AllReadyH.cons (o := { dst := Option.some 80, op := Go.Op.call { callee := Go.Callee.value (Go.Operand.func 21), args := #[Go.Operand.tmp 79], argTypes := #[26] }, type := 3, pos := "law.go:70", after := #[{ on := 19, ground := Go.Ground.data }, { on := 18, ground := Go.Ground.chain }, { on := 18, ground := Go.Ground.guard }], guard := Option.some (18, Bool.false) }) rfl (fun K hK => ?_) AllReadyH.nil
  go_simp
  refine (Num_c _ v1 4 (E1_27.out.step (Mv.of_below hKF3)).now (T_27.out.step (Mv.of_below hKF3)).now).mono ?_
  rintro e w21 ⟨rfl, hb⟩
  have hKF4 : KF w17 w21 := KF.step hKF3 hb
  clear hb
  dsimp only
  refine hK.out _ _ (HSx.out _ hKF4) (fun hHeld4 => ?_)
  clear hK K
  try simp only [Act.put, List.setIfInBounds_toArray, List.set_cons_zero, List.set_cons_succ]
  refine wpAnyH_take (i := 21) (oi := { dst := Option.some 81, op := Go.Op.binOp Go.BinOp.eql 3 (Go.Operand.tmp 80) (Go.Operand.const (Go.Value.int Go.IntKind.i64 4)) 3, type := 4, pos := "law.go:70", after := #[{ on := 20, ground := Go.Ground.data }, { on := 18, ground := Go.Ground.guard }], guard := Option.some (18, Bool.false) }) (v := ?_) rfl (by kernel_rfl) (by kernel_rfl) (by kernel_rfl) (fun _ _ _ h => h) (Or.inl ⟨by rfl, ?_⟩) (by assumption) ?_
  rotate_left
  · intro w hSw; (try dsimp only at hSw); go_simp; (try with_reducible rfl)
  simp only [Act.put, List.setIfInBounds_toArray, List.set_cons_zero, List.set_cons_succ]
  refine wpAnyH_take (i := 22) (oi := { dst := Option.some 82, op := Go.Op.pick (Go.Operand.tmp 78) (Go.Operand.const (Go.Value.bool Bool.true)) (Go.Operand.tmp 81), type := 4, pos := "law.go:70", after := #[{ on := 18, ground := Go.Ground.data }, { on := 21, ground := Go.Ground.data }, { on := 16, ground := Go.Ground.guard }], guard := Option.some (16, Bool.true) }) (v := ?_) rfl (by kernel_rfl) (by kernel_rfl) (by kernel_rfl) (fun _ _ _ h => h) (Or.inl ⟨by rfl, ?_⟩) (by assumption) ?_
  rotate_left
  · intro w hSw; (try dsimp only at hSw); go_simp; (try with_reducible rfl)
  simp only [Act.put, List.setIfInBounds_toArray, List.set_cons_zero, List.set_cons_succ]
  refine wpAnyH_take (i := 23) (oi := { dst := Option.some 83, op := Go.Op.pick (Go.Operand.tmp 76) (Go.Operand.tmp 82) (Go.Operand.const (Go.Value.bool Bool.false)), type := 4, pos := "law.go:70", after := #[{ on := 16, ground := Go.Ground.data }, { on := 22, ground := Go.Ground.data }], guard := Option.none }) (v := ?_) rfl (by kernel_rfl) (by kernel_rfl) (by kernel_rfl) (fun _ _ _ h => h) (Or.inl ⟨by rfl, ?_⟩) (by assumption) ?_
  rotate_left
  · intro w hSw; (try dsimp only at hSw); go_simp; (try with_reducible rfl)
  simp only [Act.put, List.setIfInBounds_toArray, List.set_cons_zero, List.set_cons_succ]
  refine wpAnyH_take (i := 24) (oi := { dst := Option.some 84, op := Go.Op.move (Go.Operand.tmp 83), type := 4, pos := "law.go:70", after := #[{ on := 23, ground := Go.Ground.data }, { on := 20, ground := Go.Ground.chain }], guard := Option.none }) (v := ?_) rfl (by kernel_rfl) (by kernel_rfl) (by kernel_rfl) (fun _ _ _ h => h) (Or.inl ⟨by rfl, ?_⟩) (by assumption) ?_
  rotate_left
  · intro w hSw; (try dsimp only at hSw); go_simp; (try with_reducible rfl)
  simp only [Act.put, List.setIfInBounds_toArray, List.set_cons_zero, List.set_cons_succ]
  refine wpAnyH_take (i := 25) (oi := { dst := Option.some 85, op := Go.Op.move (Go.Operand.tmp 14), type := 26, pos := "law.go:70", after := #[{ on := 24, ground := Go.Ground.guard }], guard := Option.some (24, Bool.true) }) (v := ?_) rfl (by kernel_rfl) (by kernel_rfl) (by kernel_rfl) (fun _ _ _ h => h) (Or.inl ⟨by rfl, ?_⟩) (by assumption) ?_
  rotate_left
  · intro w hSw; (try dsimp only at hSw); go_simp; (try with_reducible rfl)
  simp only [Act.put, List.setIfInBounds_toArray, List.set_cons_zero, List.set_cons_succ]
  refine wpAnyH_ready (rs := [26]) (by kernel_rfl) (by simp) ?_
  refine AllReadyH.cons (o := { dst := Option.some 86, op := Go.Op.call { callee := Go.Callee.value (Go.Operand.func 21), args := #[Go.Operand.tmp 85], argTypes := #[26] }, type := 3, pos := "law.go:70", after := #[{ on := 25, ground := Go.Ground.data }, { on := 24, ground := Go.Ground.chain }, { on := 24, ground := Go.Ground.guard }], guard := Option.some (24, Bool.true) }) rfl (fun K hK => ?_) AllReadyH.nil
  go_simp
  refine (Num_c _ v2 1 (E2_27.out.step (Mv.of_below hKF4)).now (T_27.out.step (Mv.of_below hKF4)).now).mono ?_
  rintro e w22 ⟨rfl, hb⟩
  have hKF5 : KF w17 w22 := KF.step hKF4 hb
  clear hb
  dsimp only
  refine hK.out _ _ (HSx.out _ hKF5) (fun hHeld5 => ?_)
  clear hK K
  try simp only [Act.put, List.setIfInBounds_toArray, List.set_cons_zero, List.set_cons_succ]
  refine wpAnyH_take (i := 27) (oi := { dst := Option.some 87, op := Go.Op.binOp Go.BinOp.eql 3 (Go.Operand.tmp 86) (Go.Operand.const (Go.Value.int Go.IntKind.i64 1)) 3, type := 4, pos := "law.go:70", after := #[{ on := 26, ground := Go.Ground.data }, { on := 24, ground := Go.Ground.guard }], guard := Option.some (24, Bool.true) }) (v := ?_) rfl (by kernel_rfl) (by kernel_rfl) (by kernel_rfl) (fun _ _ _ h => h) (Or.inl ⟨by rfl, ?_⟩) (by assumption) ?_
  rotate_left
  · intro w hSw; (try dsimp only at hSw); go_simp; (try with_reducible rfl)
  simp only [Act.put, List.setIfInBounds_toArray, List.set_cons_zero, List.set_cons_succ]
  refine wpAnyH_take (i := 28) (oi := { dst := Option.some 88, op := Go.Op.pick (Go.Operand.tmp 84) (Go.Operand.tmp 87) (Go.Operand.const (Go.Value.bool Bool.false)), type := 4, pos := "law.go:70", after := #[{ on := 24, ground := Go.Ground.data }, { on := 27, ground := Go.Ground.data }], guard := Option.none }) (v := ?_) rfl (by kernel_rfl) (by kernel_rfl) (by kernel_rfl) (fun _ _ _ h => h) (Or.inl ⟨by rfl, ?_⟩) (by assumption) ?_
  rotate_left
  · intro w hSw; (try dsimp only at hSw); go_simp; (try with_reducible rfl)
  simp only [Act.put, List.setIfInBounds_toArray, List.set_cons_zero, List.set_cons_succ]
  refine wpAnyH_take (i := 29) (oi := { dst := Option.some 89, op := Go.Op.move (Go.Operand.tmp 88), type := 4, pos := "law.go:70", after := #[{ on := 28, ground := Go.Ground.data }, { on := 26, ground := Go.Ground.chain }], guard := Option.none }) (v := ?_) rfl (by kernel_rfl) (by kernel_rfl) (by kernel_rfl) (fun _ _ _ h => h) (Or.inl ⟨by rfl, ?_⟩) (by assumption) ?_
  rotate_left
  · intro w hSw; (try dsimp only at hSw); go_simp; (try with_reducible rfl)
  simp only [Act.put, List.setIfInBounds_toArray, List.set_cons_zero, List.set_cons_succ]
  refine wpAnyH_take (i := 30) (oi := { dst := Option.some 90, op := Go.Op.move (Go.Operand.tmp 15), type := 26, pos := "law.go:70", after := #[{ on := 29, ground := Go.Ground.guard }], guard := Option.some (29, Bool.true) }) (v := ?_) rfl (by kernel_rfl) (by kernel_rfl) (by kernel_rfl) (fun _ _ _ h => h) (Or.inl ⟨by rfl, ?_⟩) (by assumption) ?_
  rotate_left
  · intro w hSw; (try dsimp only at hSw); go_simp; (try with_reducible rfl)
  simp only [Act.put, List.setIfInBounds_toArray, List.set_cons_zero, List.set_cons_succ]
  refine wpAnyH_ready (rs := [31]) (by kernel_rfl) (by simp) ?_
  refine AllReadyH.cons (o := { dst := Option.some 91, op := Go.Op.call { callee := Go.Callee.value (Go.Operand.func 21), args := #[Go.Operand.tmp 90], argTypes := #[26] }, type := 3, pos := "law.go:70", after := #[{ on := 30, ground := Go.Ground.data }, { on := 29, ground := Go.Ground.chain }, { on := 29, ground := Go.Ground.guard }], guard := Option.some (29, Bool.true) }) rfl (fun K hK => ?_) AllReadyH.nil
  go_simp
  refine (Num_c _ v3 1 (E3_27.out.step (Mv.of_below hKF5)).now (T_27.out.step (Mv.of_below hKF5)).now).mono ?_
  rintro e w23 ⟨rfl, hb⟩
  have hKF6 : KF w17 w23 := KF.step hKF5 hb
  clear hb
  dsimp only
  refine hK.out _ _ (HSx.out _ hKF6) (fun hHeld6 => ?_)
  clear hK K
  try simp only [Act.put, List.setIfInBounds_toArray, List.set_cons_zero, List.set_cons_succ]
  refine wpAnyH_take (i := 32) (oi := { dst := Option.some 92, op := Go.Op.binOp Go.BinOp.eql 3 (Go.Operand.tmp 91) (Go.Operand.const (Go.Value.int Go.IntKind.i64 1)) 3, type := 4, pos := "law.go:70", after := #[{ on := 31, ground := Go.Ground.data }, { on := 29, ground := Go.Ground.guard }], guard := Option.some (29, Bool.true) }) (v := ?_) rfl (by kernel_rfl) (by kernel_rfl) (by kernel_rfl) (fun _ _ _ h => h) (Or.inl ⟨by rfl, ?_⟩) (by assumption) ?_
  rotate_left
  · intro w hSw; (try dsimp only at hSw); go_simp; (try with_reducible rfl)
  simp only [Act.put, List.setIfInBounds_toArray, List.set_cons_zero, List.set_cons_succ]
  refine wpAnyH_take (i := 33) (oi := { dst := Option.some 93, op := Go.Op.pick (Go.Operand.tmp 89) (Go.Operand.tmp 92) (Go.Operand.const (Go.Value.bool Bool.false)), type := 4, pos := "law.go:70", after := #[{ on := 29, ground := Go.Ground.data }, { on := 32, ground := Go.Ground.data }], guard := Option.none }) (v := ?_) rfl (by kernel_rfl) (by kernel_rfl) (by kernel_rfl) (fun _ _ _ h => h) (Or.inl ⟨by rfl, ?_⟩) (by assumption) ?_
  rotate_left
  · intro w hSw; (try dsimp only at hSw); go_simp; (try with_reducible rfl)
  simp only [Act.put, List.setIfInBounds_toArray, List.set_cons_zero, List.set_cons_succ]
  refine wpAnyH_take (i := 34) (oi := { dst := Option.some 94, op := Go.Op.move (Go.Operand.tmp 93), type := 4, pos := "law.go:70", after := #[{ on := 33, ground := Go.Ground.data }, { on := 31, ground := Go.Ground.chain }], guard := Option.none }) (v := ?_) rfl (by kernel_rfl) (by kernel_rfl) (by kernel_rfl) (fun _ _ _ h => h) (Or.inl ⟨by rfl, ?_⟩) (by assumption) ?_
  rotate_left
  · intro w hSw; (try dsimp only at hSw); go_simp; (try with_reducible rfl)
  simp only [Act.put, List.setIfInBounds_toArray, List.set_cons_zero, List.set_cons_succ]
  refine wpAnyH_take (i := 35) (oi := { dst := Option.some 95, op := Go.Op.move (Go.Operand.tmp 17), type := 26, pos := "law.go:70", after := #[{ on := 34, ground := Go.Ground.guard }], guard := Option.some (34, Bool.true) }) (v := ?_) rfl (by kernel_rfl) (by kernel_rfl) (by kernel_rfl) (fun _ _ _ h => h) (Or.inl ⟨by rfl, ?_⟩) (by assumption) ?_
  rotate_left
  · intro w hSw; (try dsimp only at hSw); go_simp; (try with_reducible rfl)
  simp only [Act.put, List.setIfInBounds_toArray, List.set_cons_zero, List.set_cons_succ]
  refine wpAnyH_ready (rs := [36]) (by kernel_rfl) (by simp) ?_
  refine AllReadyH.cons (o := { dst := Option.some 96, op := Go.Op.call { callee := Go.Callee.value (Go.Operand.func 21), args := #[Go.Operand.tmp 95], argTypes := #[26] }, type := 3, pos := "law.go:70", after := #[{ on := 35, ground := Go.Ground.data }, { on := 34, ground := Go.Ground.chain }, { on := 34, ground := Go.Ground.guard }], guard := Option.some (34, Bool.true) }) rfl (fun K hK => ?_) AllReadyH.nil
  go_simp
  refine (Num_c _ v4 7 (E4_27.out.step (Mv.of_below hKF6)).now (T_27.out.step (Mv.of_below hKF6)).now).mono ?_
  rintro e w24 ⟨rfl, hb⟩
  have hKF7 : KF w17 w24 := KF.step hKF6 hb
  clear hb
  dsimp only
  refine hK.out _ _ (HSx.out _ hKF7) (fun hHeld7 => ?_)
  clear hK K
  try simp only [Act.put, List.setIfInBounds_toArray, List.set_cons_zero, List.set_cons_succ]
  refine wpAnyH_take (i := 37) (oi := { dst := Option.some 97, op := Go.Op.binOp Go.BinOp.eql 3 (Go.Operand.tmp 96) (Go.Operand.const (Go.Value.int Go.IntKind.i64 7)) 3, type := 4, pos := "law.go:70", after := #[{ on := 36, ground := Go.Ground.data }, { on := 34, ground := Go.Ground.guard }], guard := Option.some (34, Bool.true) }) (v := ?_) rfl (by kernel_rfl) (by kernel_rfl) (by kernel_rfl) (fun _ _ _ h => h) (Or.inl ⟨by rfl, ?_⟩) (by assumption) ?_
  rotate_left
  · intro w hSw; (try dsimp only at hSw); go_simp; (try with_reducible rfl)
  simp only [Act.put, List.setIfInBounds_toArray, List.set_cons_zero, List.set_cons_succ]
  refine wpAnyH_take (i := 38) (oi := { dst := Option.some 98, op := Go.Op.pick (Go.Operand.tmp 94) (Go.Operand.tmp 97) (Go.Operand.const (Go.Value.bool Bool.false)), type := 4, pos := "law.go:70", after := #[{ on := 34, ground := Go.Ground.data }, { on := 37, ground := Go.Ground.data }], guard := Option.none }) (v := ?_) rfl (by kernel_rfl) (by kernel_rfl) (by kernel_rfl) (fun _ _ _ h => h) (Or.inl ⟨by rfl, ?_⟩) (by assumption) ?_
  rotate_left
  · intro w hSw; (try dsimp only at hSw); go_simp; (try with_reducible rfl)
  simp only [Act.put, List.setIfInBounds_toArray, List.set_cons_zero, List.set_cons_succ]
  refine wpAnyH_take (i := 39) (oi := { dst := Option.some 4, op := Go.Op.assign (Go.Operand.tmp 98), type := 4, pos := "law.go:70", after := #[{ on := 38, ground := Go.Ground.data }, { on := 36, ground := Go.Ground.chain }, { on := 0, ground := Go.Ground.phase }, { on := 1, ground := Go.Ground.phase }, { on := 2, ground := Go.Ground.phase }, { on := 3, ground := Go.Ground.phase }, { on := 4, ground := Go.Ground.phase }, { on := 5, ground := Go.Ground.phase }, { on := 6, ground := Go.Ground.phase }, { on := 7, ground := Go.Ground.phase }, { on := 8, ground := Go.Ground.phase }, { on := 9, ground := Go.Ground.phase }, { on := 10, ground := Go.Ground.phase }, { on := 11, ground := Go.Ground.phase }, { on := 12, ground := Go.Ground.phase }, { on := 13, ground := Go.Ground.phase }, { on := 14, ground := Go.Ground.phase }, { on := 15, ground := Go.Ground.phase }, { on := 16, ground := Go.Ground.phase }, { on := 17, ground := Go.Ground.phase }, { on := 18, ground := Go.Ground.phase }, { on := 19, ground := Go.Ground.phase }, { on := 20, ground := Go.Ground.phase }, { on := 21, ground := Go.Ground.phase }, { on := 22, ground := Go.Ground.phase }, { on := 23, ground := Go.Ground.phase }, { on := 24, ground := Go.Ground.phase }, { on := 25, ground := Go.Ground.phase }, { on := 26, ground := Go.Ground.phase }, { on := 27, ground := Go.Ground.phase }, { on := 28, ground := Go.Ground.phase }, { on := 29, ground := Go.Ground.phase }, { on := 30, ground := Go.Ground.phase }, { on := 31, ground := Go.Ground.phase }, { on := 32, ground := Go.Ground.phase }, { on := 33, ground := Go.Ground.phase }, { on := 34, ground := Go.Ground.phase }, { on := 35, ground := Go.Ground.phase }, { on := 36, ground := Go.Ground.phase }, { on := 37, ground := Go.Ground.phase }, { on := 38, ground := Go.Ground.phase }], guard := Option.none }) (v := ?_) rfl (by kernel_rfl) (by kernel_rfl) (by kernel_rfl) (fun _ _ _ h => h) (Or.inl ⟨by rfl, ?_⟩) (by assumption) ?_
  rotate_left
  · intro w hSw; (try dsimp only at hSw); go_simp; (try with_reducible rfl)
  simp only [Act.put, List.setIfInBounds_toArray, List.set_cons_zero, List.set_cons_succ]
  refine wpAnyH_done (by kernel_rfl) ?_ _
  have hbm : Below w17.heap.size w17 w24 := hKF7
  have hm : Mv S4 S4 w17 w24 := Mv.of_below hbm
  have T_29 := hdS T_27 hm
  have P_29 := hdS P_27 hm
  have Q_29 := hdS Q_27 hm
  have E1_29 := hdS E1_27 hm
  have X_29 := hdS X_27 hm
  have Y_29 := hdS Y_27 hm
  have E2_29 := hdS E2_27 hm
  have E3_29 := hdS E3_27 hm
  have E4_29 := hdS E4_27 hm
  have HM_29 := hdT HM_27 hm
  have WI_29 := hdW WI_27 hm
  clear T_27 P_27 Q_27 E1_27 X_27 Y_27 E2_27 E3_27 E4_27 HM_27 WI_27
  have HD_29 := Lib.hid (HD_27.out.under hbm)
  clear HD_27 hm hbm HSx hKF0 hKF1 hKF2 hKF3 hKF4 hKF5 hKF6 hKF7
  go_wp2_with fail
  go_ret
  exact ⟨rfl, HM_29.out.below⟩
theorem sbest_walk (a b : Pg) (w : World) (ha : a.length = 128) (hb : b.length = 128) (tied : Tied w) : Calls Tryd.prog 13 #[.agg (pv a).toArray, .agg (pv b).toArray] w fun e w' => e = .returned (.bool true) ∧ Below w.heap.size w w' := by
  cases hk : rbB a b
  · exact sbest_f a b ha hb hk w tied
  · exact sbest_t a b ha hb hk w tied
end Go.Proofs.YtmnkgcgmbdkjaaaDoor
