/- dynamolaw05.FrameDisks: the walk. -/
import Derived.Test.YtmnkgcgmbdkjaaaDoorFrCPSuperPlays
namespace Go.Proofs.YtmnkgcgmbdkjaaaDoor
open Go.RowKit Go.Extern.Stop Go.Stop Go.Extern Go.Proofs.YtmnkgcgmbdkjaaaDoorW.PrintWords Go.Proofs.YtmnkgcgmbdkjaaaDoorW.PrintLast Go.Proofs.YtmnkgcgmbdkjaaaDoorW.PrintMore Go.Proofs.YtmnkgcgmbdkjaaaDoor.PSuperPlays
set_option linter.unusedVariables false
set_option linter.unusedSimpArgs false
theorem disks_read (j k : Int) (d : ByteArray) (h0 : 0 ≤ j) (h4 : j ≤ 4) : readP (List.replicate 5 zp) ([] ++ [(j, framP k d)]) j = framP k d := by
  rw [readP_snoc, if_pos rfl]
theorem disks_other (j i k : Int) (d : ByteArray) (h0 : 0 ≤ i) (h4 : i ≤ 4) (h : j ≠ i) : readP (List.replicate 5 zp) ([] ++ [(j, framP k d)]) i = zp := by
  rw [readP_snoc, if_neg h]
  show (List.replicate 5 zp).getD i.toNat zp = zp
  rw [List.getD_eq_getElem?_getD, List.getElem?_replicate]
  split <;> rfl
theorem ld_same (j k : Int) (d : ByteArray) (h0 : 0 ≤ j) (h4 : j ≤ 4) (hf : frC k d = 0) : ldD (List.replicate 5 zp) ([] ++ [(j, framP k d)]) false j k = 0 ∧ ldS (List.replicate 5 zp) ([] ++ [(j, framP k d)]) false j k = d := by
  have hm : mayC false (List.replicate 5 zp).length j = 0 := by unfold mayC; rw [if_neg (by decide), if_pos (by simp; omega)]
  obtain ⟨⟨h1, h2⟩, h3⟩ := frC_zero.1 hf
  have e : ldD (List.replicate 5 zp) ([] ++ [(j, framP k d)]) false j k = 0 := by
    unfold ldD; rw [if_neg (fun q => q hm), disks_read j k d h0 h4]; unfold ldC
    rw [if_neg (by rw [rd_lay k d hf]; decide), if_neg (by rw [framP_kind k d (by omega) h2]; simp)]
  refine ⟨e, ?_⟩
  unfold ldS
  rw [if_pos e, disks_read j k d h0 h4, framP_data k d h3]
theorem ld_kind (j k o : Int) (d : ByteArray) (h0 : 0 ≤ j) (h4 : j ≤ 4) (hf : frC k d = 0) (ho : o ≠ k) : ldD (List.replicate 5 zp) ([] ++ [(j, framP k d)]) false j o = 2 ∧ ldS (List.replicate 5 zp) ([] ++ [(j, framP k d)]) false j o = ⟨#[]⟩ := by
  have hm : mayC false (List.replicate 5 zp).length j = 0 := by unfold mayC; rw [if_neg (by decide), if_pos (by simp; omega)]
  obtain ⟨⟨h1, h2⟩, h3⟩ := frC_zero.1 hf
  have e : ldD (List.replicate 5 zp) ([] ++ [(j, framP k d)]) false j o = 2 := by
    unfold ldD; rw [if_neg (fun q => q hm), disks_read j k d h0 h4]; unfold ldC
    rw [if_neg (by rw [rd_lay k d hf]; decide), if_pos (by rw [framP_kind k d (by omega) h2]; exact fun e => ho e.symm)]
  refine ⟨e, ?_⟩
  unfold ldS
  rw [if_neg (by rw [e]; decide)]
theorem ld_zero (j i k : Int) (d : ByteArray) (h0 : 0 ≤ i) (h4 : i ≤ 4) (h : j ≠ i) : ldD (List.replicate 5 zp) ([] ++ [(j, framP k d)]) false i k = 3 ∧ ldS (List.replicate 5 zp) ([] ++ [(j, framP k d)]) false i k = ⟨#[]⟩ := by
  have hm : mayC false (List.replicate 5 zp).length i = 0 := by unfold mayC; rw [if_neg (by decide), if_pos (by simp; omega)]
  have e : ldD (List.replicate 5 zp) ([] ++ [(j, framP k d)]) false i k = 3 := by
    unfold ldD; rw [if_neg (fun q => q hm), disks_other j i k d h0 h4 h]; unfold ldC
    rw [rd_zero]; rfl
  refine ⟨e, ?_⟩
  unfold ldS
  rw [if_neg (by rw [e]; decide)]
set_option maxHeartbeats 4000000 in
set_option maxRecDepth 100000 in
theorem disks_big (k o : Int) (d : ByteArray) (j : Int) (h : 500 < d.size) (w : World) (tied : Tied w) : Calls Tryd.prog 7 #[.int .i64 k, .int .i64 o, .string d, .int .i64 j] w fun e w' => e = .returned (.bool true) ∧ Below w.heap.size w w' := by
  have hd : decide (500 < (d.size : Int)) = true := by simp; omega
  clear h
  have HM0 := Lib.hid (Mv.refl No w)
  have T0 := Lib.hid (Stays.tied tied)
  have WI0 := Lib.hid (Wi.no w)
  clear tied
  go_enter Tryd.func7, Tryd.ntmps7
  go_wp2_with fail
  refine (awake5 _ T0.out.now).mono ?_
  rintro e w1 ⟨rfl, hb⟩
  have hbm : Below w.heap.size w w1 := hb
  clear hb
  have hm : Mv No No w w1 := Mv.of_below hbm
  have T_1 := Lib.hid (T0.out.step hm)
  clear T0
  have HM_1 := Lib.hid (HM0.out.trans hm)
  clear HM0
  have WI_1 := Lib.hid (WI0.out.mono hm.size)
  clear WI0
  clear hm
  clear hbm
  go_wp2_with fail
  refine (awake5 _ T_1.out.now).mono ?_
  rintro e w2 ⟨rfl, hb⟩
  have hbm : Below w1.heap.size w1 w2 := hb
  clear hb
  have hm : Mv No No w1 w2 := Mv.of_below hbm
  have T_2 := Lib.hid (T_1.out.step hm)
  clear T_1
  have HM_2 := Lib.hid (HM_1.out.trans hm)
  clear HM_1
  have WI_2 := Lib.hid (WI_1.out.mono hm.size)
  clear WI_1
  clear hm
  clear hbm
  go_wp2_with fail
  go_ret
  exact ⟨rfl, HM_2.out.below⟩
set_option maxHeartbeats 4000000 in
set_option maxRecDepth 100000 in
theorem disks_no0 (k o : Int) (d : ByteArray) (j : Int) (h0 : d.size ≤ 500)  (h : k < 1) (w : World) (tied : Tied w) : Calls Tryd.prog 7 #[.int .i64 k, .int .i64 o, .string d, .int .i64 j] w fun e w' => e = .returned (.bool true) ∧ Below w.heap.size w w' := by
  have hd : decide (500 < (d.size : Int)) = false := by simp; omega
  have e0 : decide (k < 1) = true := by simp; omega
  have hfc : frC k d ≠ 0 := fun e => by have := frC_zero.1 e; omega
  have HFC := Lib.hid hfc
  obtain ⟨cc, hcc⟩ : ∃ q, q = frC k d := ⟨_, rfl⟩
  clear hfc h h0 
  have HM0 := Lib.hid (Mv.refl No w)
  have T0 := Lib.hid (Stays.tied tied)
  have WI0 := Lib.hid (Wi.no w)
  clear tied
  go_enter Tryd.func7, Tryd.ntmps7
  go_wp2_with fail
  refine (awake5 _ T0.out.now).mono ?_
  rintro e w1 ⟨rfl, hb⟩
  have hbm : Below w.heap.size w w1 := hb
  clear hb
  have hm : Mv No No w w1 := Mv.of_below hbm
  have T_1 := Lib.hid (T0.out.step hm)
  clear T0
  have HM_1 := Lib.hid (HM0.out.trans hm)
  clear HM0
  have WI_1 := Lib.hid (WI0.out.mono hm.size)
  clear WI0
  clear hm
  clear hbm
  go_wp2_with fail
  refine (new_m 5 _ (by decide) (by decide)).mono ?_
  rintro e w2 ⟨D, S1, rfl, hd, hb, hm⟩
  clear hb
  have T_2 := Lib.hid (T_1.out.step hm)
  clear T_1
  have HM_2 := Lib.hid (HM_1.out.trans hm)
  clear HM_1
  have WI_2 := Lib.hid (hd.wi)
  clear WI_1
  have HD_2 := Lib.hid (hd)
  clear hm
  clear hd
  go_wp2_with fail
  have HSB := Lib.hid (store_bad (.pointer (some ⟨D, 0, none⟩)) j k d HFC.out w2)
  rw [← hcc] at HSB
  have hne : (cc != 0) = true := by rw [hcc]; simpa using HFC.out
  clear hcc HFC
  refine (HSB.out).mono ?_
  rintro e w3 ⟨v1, rfl, he, hb⟩
  have hbm : Below w2.heap.size w2 w3 := hb
  clear hb
  have hm : Mv S1 S1 w2 w3 := Mv.of_below hbm
  have hst := Stays.err he WI_2.out
  clear he
  have T_3 := Lib.hid (T_2.out.step hm)
  clear T_2
  have HM_3 := Lib.hid (HM_2.out.trans hm)
  clear HM_2
  have WI_3 := Lib.hid (WI_2.out.mono hm.size)
  clear WI_2
  have HD_3 := Lib.hid (HD_2.out.under hbm)
  clear HD_2
  clear hm
  clear hbm
  have E1_4 := Lib.hid (hst)
  clear hst
  go_wp2_with fail
  refine (Num_nil w3).mono ?_
  rintro e _ ⟨rfl, rfl⟩
  go_wp2_with fail
  refine (Num_c _ v1 cc E1_4.out.now T_3.out.now).mono ?_
  rintro e w4 ⟨rfl, hb⟩
  have hbm : Below w3.heap.size w3 w4 := hb
  clear hb
  have hm : Mv S1 S1 w3 w4 := Mv.of_below hbm
  have T_5 := Lib.hid (T_3.out.step hm)
  clear T_3
  have E1_5 := Lib.hid (E1_4.out.step hm)
  clear E1_4
  have HM_5 := Lib.hid (HM_3.out.trans hm)
  clear HM_3
  have WI_5 := Lib.hid (WI_3.out.mono hm.size)
  clear WI_3
  have HD_5 := Lib.hid (HD_3.out.under hbm)
  clear HD_3
  clear hm
  clear hbm
  go_wp2_with fail
  refine (soft_m HD_5.out).mono ?_
  rintro e _ ⟨rfl, rfl⟩
  go_wp2_with fail
  go_ret
  exact ⟨rfl, HM_5.out.below⟩
set_option maxHeartbeats 4000000 in
set_option maxRecDepth 100000 in
theorem disks_no1 (k o : Int) (d : ByteArray) (j : Int) (h0 : d.size ≤ 500) (g0 : ¬ k < 1) (h : 255 < k) (w : World) (tied : Tied w) : Calls Tryd.prog 7 #[.int .i64 k, .int .i64 o, .string d, .int .i64 j] w fun e w' => e = .returned (.bool true) ∧ Below w.heap.size w w' := by
  have hd : decide (500 < (d.size : Int)) = false := by simp; omega
  have e0 : decide (k < 1) = false := by simp; omega
  have e1 : decide (255 < k) = true := by simp; omega
  have hfc : frC k d ≠ 0 := fun e => by have := frC_zero.1 e; omega
  have HFC := Lib.hid hfc
  obtain ⟨cc, hcc⟩ : ∃ q, q = frC k d := ⟨_, rfl⟩
  clear hfc h h0 g0
  have HM0 := Lib.hid (Mv.refl No w)
  have T0 := Lib.hid (Stays.tied tied)
  have WI0 := Lib.hid (Wi.no w)
  clear tied
  go_enter Tryd.func7, Tryd.ntmps7
  go_wp2_with fail
  refine (awake5 _ T0.out.now).mono ?_
  rintro e w1 ⟨rfl, hb⟩
  have hbm : Below w.heap.size w w1 := hb
  clear hb
  have hm : Mv No No w w1 := Mv.of_below hbm
  have T_1 := Lib.hid (T0.out.step hm)
  clear T0
  have HM_1 := Lib.hid (HM0.out.trans hm)
  clear HM0
  have WI_1 := Lib.hid (WI0.out.mono hm.size)
  clear WI0
  clear hm
  clear hbm
  go_wp2_with fail
  refine (new_m 5 _ (by decide) (by decide)).mono ?_
  rintro e w2 ⟨D, S1, rfl, hd, hb, hm⟩
  clear hb
  have T_2 := Lib.hid (T_1.out.step hm)
  clear T_1
  have HM_2 := Lib.hid (HM_1.out.trans hm)
  clear HM_1
  have WI_2 := Lib.hid (hd.wi)
  clear WI_1
  have HD_2 := Lib.hid (hd)
  clear hm
  clear hd
  go_wp2_with fail
  have HSB := Lib.hid (store_bad (.pointer (some ⟨D, 0, none⟩)) j k d HFC.out w2)
  rw [← hcc] at HSB
  have hne : (cc != 0) = true := by rw [hcc]; simpa using HFC.out
  clear hcc HFC
  refine (HSB.out).mono ?_
  rintro e w3 ⟨v1, rfl, he, hb⟩
  have hbm : Below w2.heap.size w2 w3 := hb
  clear hb
  have hm : Mv S1 S1 w2 w3 := Mv.of_below hbm
  have hst := Stays.err he WI_2.out
  clear he
  have T_3 := Lib.hid (T_2.out.step hm)
  clear T_2
  have HM_3 := Lib.hid (HM_2.out.trans hm)
  clear HM_2
  have WI_3 := Lib.hid (WI_2.out.mono hm.size)
  clear WI_2
  have HD_3 := Lib.hid (HD_2.out.under hbm)
  clear HD_2
  clear hm
  clear hbm
  have E1_4 := Lib.hid (hst)
  clear hst
  go_wp2_with fail
  refine (Num_nil w3).mono ?_
  rintro e _ ⟨rfl, rfl⟩
  go_wp2_with fail
  refine (Num_c _ v1 cc E1_4.out.now T_3.out.now).mono ?_
  rintro e w4 ⟨rfl, hb⟩
  have hbm : Below w3.heap.size w3 w4 := hb
  clear hb
  have hm : Mv S1 S1 w3 w4 := Mv.of_below hbm
  have T_5 := Lib.hid (T_3.out.step hm)
  clear T_3
  have E1_5 := Lib.hid (E1_4.out.step hm)
  clear E1_4
  have HM_5 := Lib.hid (HM_3.out.trans hm)
  clear HM_3
  have WI_5 := Lib.hid (WI_3.out.mono hm.size)
  clear WI_3
  have HD_5 := Lib.hid (HD_3.out.under hbm)
  clear HD_3
  clear hm
  clear hbm
  go_wp2_with fail
  refine (soft_m HD_5.out).mono ?_
  rintro e _ ⟨rfl, rfl⟩
  go_wp2_with fail
  go_ret
  exact ⟨rfl, HM_5.out.below⟩
set_option maxHeartbeats 4000000 in
set_option maxRecDepth 100000 in
theorem disks_no2 (k o : Int) (d : ByteArray) (j : Int) (h0 : d.size ≤ 500) (g0 : ¬ k < 1) (g1 : ¬ 255 < k) (h : 120 < d.size) (w : World) (tied : Tied w) : Calls Tryd.prog 7 #[.int .i64 k, .int .i64 o, .string d, .int .i64 j] w fun e w' => e = .returned (.bool true) ∧ Below w.heap.size w w' := by
  have hd : decide (500 < (d.size : Int)) = false := by simp; omega
  have e0 : decide (k < 1) = false := by simp; omega
  have e1 : decide (255 < k) = false := by simp; omega
  have e2 : decide (120 < (d.size : Int)) = true := by simp; omega
  have hfc : frC k d ≠ 0 := fun e => by have := frC_zero.1 e; omega
  have HFC := Lib.hid hfc
  obtain ⟨cc, hcc⟩ : ∃ q, q = frC k d := ⟨_, rfl⟩
  clear hfc h h0 g0 g1
  have HM0 := Lib.hid (Mv.refl No w)
  have T0 := Lib.hid (Stays.tied tied)
  have WI0 := Lib.hid (Wi.no w)
  clear tied
  go_enter Tryd.func7, Tryd.ntmps7
  go_wp2_with fail
  refine (awake5 _ T0.out.now).mono ?_
  rintro e w1 ⟨rfl, hb⟩
  have hbm : Below w.heap.size w w1 := hb
  clear hb
  have hm : Mv No No w w1 := Mv.of_below hbm
  have T_1 := Lib.hid (T0.out.step hm)
  clear T0
  have HM_1 := Lib.hid (HM0.out.trans hm)
  clear HM0
  have WI_1 := Lib.hid (WI0.out.mono hm.size)
  clear WI0
  clear hm
  clear hbm
  go_wp2_with fail
  refine (new_m 5 _ (by decide) (by decide)).mono ?_
  rintro e w2 ⟨D, S1, rfl, hd, hb, hm⟩
  clear hb
  have T_2 := Lib.hid (T_1.out.step hm)
  clear T_1
  have HM_2 := Lib.hid (HM_1.out.trans hm)
  clear HM_1
  have WI_2 := Lib.hid (hd.wi)
  clear WI_1
  have HD_2 := Lib.hid (hd)
  clear hm
  clear hd
  go_wp2_with fail
  have HSB := Lib.hid (store_bad (.pointer (some ⟨D, 0, none⟩)) j k d HFC.out w2)
  rw [← hcc] at HSB
  have hne : (cc != 0) = true := by rw [hcc]; simpa using HFC.out
  clear hcc HFC
  refine (HSB.out).mono ?_
  rintro e w3 ⟨v1, rfl, he, hb⟩
  have hbm : Below w2.heap.size w2 w3 := hb
  clear hb
  have hm : Mv S1 S1 w2 w3 := Mv.of_below hbm
  have hst := Stays.err he WI_2.out
  clear he
  have T_3 := Lib.hid (T_2.out.step hm)
  clear T_2
  have HM_3 := Lib.hid (HM_2.out.trans hm)
  clear HM_2
  have WI_3 := Lib.hid (WI_2.out.mono hm.size)
  clear WI_2
  have HD_3 := Lib.hid (HD_2.out.under hbm)
  clear HD_2
  clear hm
  clear hbm
  have E1_4 := Lib.hid (hst)
  clear hst
  go_wp2_with fail
  refine (Num_nil w3).mono ?_
  rintro e _ ⟨rfl, rfl⟩
  go_wp2_with fail
  refine (Num_c _ v1 cc E1_4.out.now T_3.out.now).mono ?_
  rintro e w4 ⟨rfl, hb⟩
  have hbm : Below w3.heap.size w3 w4 := hb
  clear hb
  have hm : Mv S1 S1 w3 w4 := Mv.of_below hbm
  have T_5 := Lib.hid (T_3.out.step hm)
  clear T_3
  have E1_5 := Lib.hid (E1_4.out.step hm)
  clear E1_4
  have HM_5 := Lib.hid (HM_3.out.trans hm)
  clear HM_3
  have WI_5 := Lib.hid (WI_3.out.mono hm.size)
  clear WI_3
  have HD_5 := Lib.hid (HD_3.out.under hbm)
  clear HD_3
  clear hm
  clear hbm
  go_wp2_with fail
  refine (soft_m HD_5.out).mono ?_
  rintro e _ ⟨rfl, rfl⟩
  go_wp2_with fail
  go_ret
  exact ⟨rfl, HM_5.out.below⟩
set_option maxHeartbeats 4000000 in
set_option maxRecDepth 100000 in
theorem disks_no3 (k o : Int) (d : ByteArray) (j : Int) (h0 : d.size ≤ 500) (g0 : ¬ k < 1) (g1 : ¬ 255 < k) (g2 : ¬ 120 < d.size) (h : j < 0) (w : World) (tied : Tied w) : Calls Tryd.prog 7 #[.int .i64 k, .int .i64 o, .string d, .int .i64 j] w fun e w' => e = .returned (.bool true) ∧ Below w.heap.size w w' := by
  have hd : decide (500 < (d.size : Int)) = false := by simp; omega
  have e0 : decide (k < 1) = false := by simp; omega
  have e1 : decide (255 < k) = false := by simp; omega
  have e2 : decide (120 < (d.size : Int)) = false := by simp; omega
  have e3 : decide (j < 0) = true := by simp; omega
  have hfc : frC k d = 0 := frC_zero.2 ⟨⟨by omega, by omega⟩, by omega⟩
  have HFC := Lib.hid hfc
  have hmc : mayC false (List.replicate 5 zp).length j = 1 := by unfold mayC; rw [if_neg (by decide), if_neg (by simp; omega)]
  have HMC := Lib.hid hmc
  clear hmc
  clear hfc h h0 g0 g1 g2
  have HM0 := Lib.hid (Mv.refl No w)
  have T0 := Lib.hid (Stays.tied tied)
  have WI0 := Lib.hid (Wi.no w)
  clear tied
  go_enter Tryd.func7, Tryd.ntmps7
  go_wp2_with fail
  refine (awake5 _ T0.out.now).mono ?_
  rintro e w1 ⟨rfl, hb⟩
  have hbm : Below w.heap.size w w1 := hb
  clear hb
  have hm : Mv No No w w1 := Mv.of_below hbm
  have T_1 := Lib.hid (T0.out.step hm)
  clear T0
  have HM_1 := Lib.hid (HM0.out.trans hm)
  clear HM0
  have WI_1 := Lib.hid (WI0.out.mono hm.size)
  clear WI0
  clear hm
  clear hbm
  go_wp2_with fail
  refine (new_m 5 _ (by decide) (by decide)).mono ?_
  rintro e w2 ⟨D, S1, rfl, hd, hb, hm⟩
  clear hb
  have T_2 := Lib.hid (T_1.out.step hm)
  clear T_1
  have HM_2 := Lib.hid (HM_1.out.trans hm)
  clear HM_1
  have WI_2 := Lib.hid (hd.wi)
  clear WI_1
  have HD_2 := Lib.hid (hd)
  clear hm
  clear hd
  go_wp2_with fail
  have HSB := Lib.hid (store_no j k d HFC.out HD_2.out (by simp) (by rw [HMC.out]; decide))
  rw [HMC.out] at HSB
  refine (HSB.out).mono ?_
  rintro e w3 ⟨v1, rfl, he, hb⟩
  have hbm : Below w2.heap.size w2 w3 := hb
  clear hb
  have hm : Mv S1 S1 w2 w3 := Mv.of_below hbm
  have hst := Stays.err he WI_2.out
  clear he
  have T_3 := Lib.hid (T_2.out.step hm)
  clear T_2
  have HM_3 := Lib.hid (HM_2.out.trans hm)
  clear HM_2
  have WI_3 := Lib.hid (WI_2.out.mono hm.size)
  clear WI_2
  have HD_3 := Lib.hid (HD_2.out.under hbm)
  clear HD_2
  clear hm
  clear hbm
  have E1_4 := Lib.hid (hst)
  clear hst
  go_wp2_with fail
  refine (Num_nil w3).mono ?_
  rintro e _ ⟨rfl, rfl⟩
  go_wp2_with fail
  refine (Num_c _ v1 1 E1_4.out.now T_3.out.now).mono ?_
  rintro e w4 ⟨rfl, hb⟩
  have hbm : Below w3.heap.size w3 w4 := hb
  clear hb
  have hm : Mv S1 S1 w3 w4 := Mv.of_below hbm
  have T_5 := Lib.hid (T_3.out.step hm)
  clear T_3
  have E1_5 := Lib.hid (E1_4.out.step hm)
  clear E1_4
  have HM_5 := Lib.hid (HM_3.out.trans hm)
  clear HM_3
  have WI_5 := Lib.hid (WI_3.out.mono hm.size)
  clear WI_3
  have HD_5 := Lib.hid (HD_3.out.under hbm)
  clear HD_3
  clear hm
  clear hbm
  go_wp2_with fail
  refine (soft_m HD_5.out).mono ?_
  rintro e _ ⟨rfl, rfl⟩
  go_wp2_with fail
  go_ret
  exact ⟨rfl, HM_5.out.below⟩
set_option maxHeartbeats 4000000 in
set_option maxRecDepth 100000 in
theorem disks_no4 (k o : Int) (d : ByteArray) (j : Int) (h0 : d.size ≤ 500) (g0 : ¬ k < 1) (g1 : ¬ 255 < k) (g2 : ¬ 120 < d.size) (g3 : ¬ j < 0) (h : 4 < j) (w : World) (tied : Tied w) : Calls Tryd.prog 7 #[.int .i64 k, .int .i64 o, .string d, .int .i64 j] w fun e w' => e = .returned (.bool true) ∧ Below w.heap.size w w' := by
  have hd : decide (500 < (d.size : Int)) = false := by simp; omega
  have e0 : decide (k < 1) = false := by simp; omega
  have e1 : decide (255 < k) = false := by simp; omega
  have e2 : decide (120 < (d.size : Int)) = false := by simp; omega
  have e3 : decide (j < 0) = false := by simp; omega
  have e4 : decide (4 < j) = true := by simp; omega
  have hfc : frC k d = 0 := frC_zero.2 ⟨⟨by omega, by omega⟩, by omega⟩
  have HFC := Lib.hid hfc
  have hmc : mayC false (List.replicate 5 zp).length j = 1 := by unfold mayC; rw [if_neg (by decide), if_neg (by simp; omega)]
  have HMC := Lib.hid hmc
  clear hmc
  clear hfc h h0 g0 g1 g2 g3
  have HM0 := Lib.hid (Mv.refl No w)
  have T0 := Lib.hid (Stays.tied tied)
  have WI0 := Lib.hid (Wi.no w)
  clear tied
  go_enter Tryd.func7, Tryd.ntmps7
  go_wp2_with fail
  refine (awake5 _ T0.out.now).mono ?_
  rintro e w1 ⟨rfl, hb⟩
  have hbm : Below w.heap.size w w1 := hb
  clear hb
  have hm : Mv No No w w1 := Mv.of_below hbm
  have T_1 := Lib.hid (T0.out.step hm)
  clear T0
  have HM_1 := Lib.hid (HM0.out.trans hm)
  clear HM0
  have WI_1 := Lib.hid (WI0.out.mono hm.size)
  clear WI0
  clear hm
  clear hbm
  go_wp2_with fail
  refine (new_m 5 _ (by decide) (by decide)).mono ?_
  rintro e w2 ⟨D, S1, rfl, hd, hb, hm⟩
  clear hb
  have T_2 := Lib.hid (T_1.out.step hm)
  clear T_1
  have HM_2 := Lib.hid (HM_1.out.trans hm)
  clear HM_1
  have WI_2 := Lib.hid (hd.wi)
  clear WI_1
  have HD_2 := Lib.hid (hd)
  clear hm
  clear hd
  go_wp2_with fail
  have HSB := Lib.hid (store_no j k d HFC.out HD_2.out (by simp) (by rw [HMC.out]; decide))
  rw [HMC.out] at HSB
  refine (HSB.out).mono ?_
  rintro e w3 ⟨v1, rfl, he, hb⟩
  have hbm : Below w2.heap.size w2 w3 := hb
  clear hb
  have hm : Mv S1 S1 w2 w3 := Mv.of_below hbm
  have hst := Stays.err he WI_2.out
  clear he
  have T_3 := Lib.hid (T_2.out.step hm)
  clear T_2
  have HM_3 := Lib.hid (HM_2.out.trans hm)
  clear HM_2
  have WI_3 := Lib.hid (WI_2.out.mono hm.size)
  clear WI_2
  have HD_3 := Lib.hid (HD_2.out.under hbm)
  clear HD_2
  clear hm
  clear hbm
  have E1_4 := Lib.hid (hst)
  clear hst
  go_wp2_with fail
  refine (Num_nil w3).mono ?_
  rintro e _ ⟨rfl, rfl⟩
  go_wp2_with fail
  refine (Num_c _ v1 1 E1_4.out.now T_3.out.now).mono ?_
  rintro e w4 ⟨rfl, hb⟩
  have hbm : Below w3.heap.size w3 w4 := hb
  clear hb
  have hm : Mv S1 S1 w3 w4 := Mv.of_below hbm
  have T_5 := Lib.hid (T_3.out.step hm)
  clear T_3
  have E1_5 := Lib.hid (E1_4.out.step hm)
  clear E1_4
  have HM_5 := Lib.hid (HM_3.out.trans hm)
  clear HM_3
  have WI_5 := Lib.hid (WI_3.out.mono hm.size)
  clear WI_3
  have HD_5 := Lib.hid (HD_3.out.under hbm)
  clear HD_3
  clear hm
  clear hbm
  go_wp2_with fail
  refine (soft_m HD_5.out).mono ?_
  rintro e _ ⟨rfl, rfl⟩
  go_wp2_with fail
  go_ret
  exact ⟨rfl, HM_5.out.below⟩
set_option maxHeartbeats 4000000 in
set_option maxRecDepth 100000 in
theorem disks_ok0 (k o : Int) (d : ByteArray) (j : Int) (h0 : d.size ≤ 500) (hf : frC k d = 0) (j0 : 0 ≤ j) (j4 : j ≤ 4) (ho : k = o) (w : World) (tied : Tied w) : Calls Tryd.prog 7 #[.int .i64 k, .int .i64 o, .string d, .int .i64 j] w fun e w' => e = .returned (.bool true) ∧ Below w.heap.size w w' := by
  have hd : decide (500 < (d.size : Int)) = false := by simp; omega
  obtain ⟨⟨f0, f1⟩, f2⟩ := frC_zero.1 hf
  have e0 : decide (k < 1) = false := by simp; omega
  have e1 : decide (255 < k) = false := by simp; omega
  have e2 : decide (120 < (d.size : Int)) = false := by simp; omega
  have e3 : decide (j < 0) = false := by simp; omega
  have e4 : decide (4 < j) = false := by simp; omega
  have HFC := Lib.hid hf
  have HMC := Lib.hid (show mayC false (List.replicate 5 zp).length j = 0 by unfold mayC; rw [if_neg (by decide), if_pos (by simp; omega)])
  have HL1 := Lib.hid (ld_same j k d j0 j4 hf)
  subst ho
  have HL2 := HL1
  have heo : (k == k) = true := by simp
  obtain ⟨i, hi⟩ : ∃ i, i = (j + 1) % 5 := ⟨_, rfl⟩
  have hi0 : 0 ≤ i := by omega
  have hi4 : i ≤ 4 := by omega
  have HL3 := Lib.hid (ld_zero j i k d hi0 hi4 (by omega))
  have hw5 : wrap64 (j + 1) = j + 1 := by unfold wrap64; omega
  have hw6 : IntKind.i64.wrap (j + 1) = j + 1 := by simp [IntKind.wrap, IntKind.bits, IntKind.signed]; omega
  have ht5 : (j + 1).tmod 5 = i := by rw [Int.tmod_eq_emod_of_nonneg (by omega)]; omega
  have ht6 : (j + 1) % 5 = i := hi.symm
  clear hf j0 j4 h0 f0 f1 f2 hi0 hi4 hi
  have HM0 := Lib.hid (Mv.refl No w)
  have T0 := Lib.hid (Stays.tied tied)
  have WI0 := Lib.hid (Wi.no w)
  clear tied
  go_enter Tryd.func7, Tryd.ntmps7
  go_wp2_with fail
  refine (awake5 _ T0.out.now).mono ?_
  rintro e w1 ⟨rfl, hb⟩
  have hbm : Below w.heap.size w w1 := hb
  clear hb
  have hm : Mv No No w w1 := Mv.of_below hbm
  have T_1 := Lib.hid (T0.out.step hm)
  clear T0
  have HM_1 := Lib.hid (HM0.out.trans hm)
  clear HM0
  have WI_1 := Lib.hid (WI0.out.mono hm.size)
  clear WI0
  clear hm
  clear hbm
  go_wp2_with fail
  refine (new_m 5 _ (by decide) (by decide)).mono ?_
  rintro e w2 ⟨D, S1, rfl, hd, hb, hm⟩
  clear hb
  have T_2 := Lib.hid (T_1.out.step hm)
  clear T_1
  have HM_2 := Lib.hid (HM_1.out.trans hm)
  clear HM_1
  have WI_2 := Lib.hid (hd.wi)
  clear WI_1
  have HD_2 := Lib.hid (hd)
  clear hm
  clear hd
  go_wp2_with fail
  refine (store_ok j k d HFC.out HD_2.out (by simp) HMC.out).mono ?_
  rintro e w3 ⟨S2, rfl, hd, hm⟩
  have T_3 := Lib.hid (T_2.out.step hm)
  clear T_2
  have HM_3 := Lib.hid (HM_2.out.trans hm)
  clear HM_2
  have WI_3 := Lib.hid (hd.wi)
  clear WI_2
  have HD_3 := Lib.hid (hd)
  clear HD_2
  clear hm
  clear hd
  go_wp2_with fail
  refine (Num_nil w3).mono ?_
  rintro e _ ⟨rfl, rfl⟩
  go_wp2_with fail
  have HLD := Lib.hid (load_m j k HD_3.out (by simp))
  rw [HL1.out.1, HL1.out.2] at HLD
  refine (HLD.out).mono ?_
  rintro e w4 ⟨v1, rfl, he, hb⟩
  have hbm : Below w3.heap.size w3 w4 := hb
  clear hb
  have hm : Mv S2 S2 w3 w4 := Mv.of_below hbm
  have T_4 := Lib.hid (T_3.out.step hm)
  clear T_3
  have HM_4 := Lib.hid (HM_3.out.trans hm)
  clear HM_3
  have WI_4 := Lib.hid (WI_3.out.mono hm.size)
  clear WI_3
  have HD_4 := Lib.hid (HD_3.out.under hbm)
  clear HD_3
  clear hm
  clear hbm
  obtain rfl := ErrC.zero he
  clear he HLD
  go_wp2_with fail
  have HLD := Lib.hid (load_m j k HD_4.out (by simp))
  rw [HL2.out.1, HL2.out.2] at HLD
  refine (HLD.out).mono ?_
  rintro e w5 ⟨v2, rfl, he, hb⟩
  have hbm : Below w4.heap.size w4 w5 := hb
  clear hb
  have hm : Mv S2 S2 w4 w5 := Mv.of_below hbm
  have T_5 := Lib.hid (T_4.out.step hm)
  clear T_4
  have HM_5 := Lib.hid (HM_4.out.trans hm)
  clear HM_4
  have WI_5 := Lib.hid (WI_4.out.mono hm.size)
  clear WI_4
  have HD_5 := Lib.hid (HD_4.out.under hbm)
  clear HD_4
  clear hm
  clear hbm
  obtain rfl := ErrC.zero he
  clear he HLD
  go_wp2_with fail
  have HLD := Lib.hid (load_m i k HD_5.out (by simp))
  rw [HL3.out.1, HL3.out.2] at HLD
  refine (HLD.out).mono ?_
  rintro e w6 ⟨v3, rfl, he, hb⟩
  have hbm : Below w5.heap.size w5 w6 := hb
  clear hb
  have hm : Mv S2 S2 w5 w6 := Mv.of_below hbm
  have hst := Stays.err he WI_5.out
  clear he
  have T_6 := Lib.hid (T_5.out.step hm)
  clear T_5
  have HM_6 := Lib.hid (HM_5.out.trans hm)
  clear HM_5
  have WI_6 := Lib.hid (WI_5.out.mono hm.size)
  clear WI_5
  have HD_6 := Lib.hid (HD_5.out.under hbm)
  clear HD_5
  clear hm
  clear hbm
  have E3_7 := Lib.hid (hst)
  clear hst
  clear HLD
  go_wp2_with fail
  refine (load_none 0 k _).mono ?_
  rintro e w7 ⟨v4, rfl, he, hb⟩
  have hbm : Below w6.heap.size w6 w7 := hb
  clear hb
  have hm : Mv S2 S2 w6 w7 := Mv.of_below hbm
  have hst := Stays.err he WI_6.out
  clear he
  have T_8 := Lib.hid (T_6.out.step hm)
  clear T_6
  have E3_8 := Lib.hid (E3_7.out.step hm)
  clear E3_7
  have HM_8 := Lib.hid (HM_6.out.trans hm)
  clear HM_6
  have WI_8 := Lib.hid (WI_6.out.mono hm.size)
  clear WI_6
  have HD_8 := Lib.hid (HD_6.out.under hbm)
  clear HD_6
  clear hm
  clear hbm
  have E4_9 := Lib.hid (hst)
  clear hst
  go_wp2_with fail
  refine (Num_nil w7).mono ?_
  rintro e _ ⟨rfl, rfl⟩
  go_wp2_with fail
  refine (Num_nil w7).mono ?_
  rintro e _ ⟨rfl, rfl⟩
  go_wp2_with fail
  refine (Num_nil w7).mono ?_
  rintro e _ ⟨rfl, rfl⟩
  go_wp2_with fail
  refine (Num_c _ v3 3 E3_8.out.now T_8.out.now).mono ?_
  rintro e w8 ⟨rfl, hb⟩
  have hbm : Below w7.heap.size w7 w8 := hb
  clear hb
  have hm : Mv S2 S2 w7 w8 := Mv.of_below hbm
  have T_10 := Lib.hid (T_8.out.step hm)
  clear T_8
  have E3_10 := Lib.hid (E3_8.out.step hm)
  clear E3_8
  have E4_10 := Lib.hid (E4_9.out.step hm)
  clear E4_9
  have HM_10 := Lib.hid (HM_8.out.trans hm)
  clear HM_8
  have WI_10 := Lib.hid (WI_8.out.mono hm.size)
  clear WI_8
  have HD_10 := Lib.hid (HD_8.out.under hbm)
  clear HD_8
  clear hm
  clear hbm
  go_wp2_with fail
  refine (Num_c _ v4 1 E4_10.out.now T_10.out.now).mono ?_
  rintro e w9 ⟨rfl, hb⟩
  have hbm : Below w8.heap.size w8 w9 := hb
  clear hb
  have hm : Mv S2 S2 w8 w9 := Mv.of_below hbm
  have T_11 := Lib.hid (T_10.out.step hm)
  clear T_10
  have E3_11 := Lib.hid (E3_10.out.step hm)
  clear E3_10
  have E4_11 := Lib.hid (E4_10.out.step hm)
  clear E4_10
  have HM_11 := Lib.hid (HM_10.out.trans hm)
  clear HM_10
  have WI_11 := Lib.hid (WI_10.out.mono hm.size)
  clear WI_10
  have HD_11 := Lib.hid (HD_10.out.under hbm)
  clear HD_10
  clear hm
  clear hbm
  go_wp2_with fail
  go_ret
  exact ⟨rfl, HM_11.out.below⟩
set_option maxHeartbeats 4000000 in
set_option maxRecDepth 100000 in
theorem disks_ok1 (k o : Int) (d : ByteArray) (j : Int) (h0 : d.size ≤ 500) (hf : frC k d = 0) (j0 : 0 ≤ j) (j4 : j ≤ 4) (ho : o ≠ k) (w : World) (tied : Tied w) : Calls Tryd.prog 7 #[.int .i64 k, .int .i64 o, .string d, .int .i64 j] w fun e w' => e = .returned (.bool true) ∧ Below w.heap.size w w' := by
  have hd : decide (500 < (d.size : Int)) = false := by simp; omega
  obtain ⟨⟨f0, f1⟩, f2⟩ := frC_zero.1 hf
  have e0 : decide (k < 1) = false := by simp; omega
  have e1 : decide (255 < k) = false := by simp; omega
  have e2 : decide (120 < (d.size : Int)) = false := by simp; omega
  have e3 : decide (j < 0) = false := by simp; omega
  have e4 : decide (4 < j) = false := by simp; omega
  have HFC := Lib.hid hf
  have HMC := Lib.hid (show mayC false (List.replicate 5 zp).length j = 0 by unfold mayC; rw [if_neg (by decide), if_pos (by simp; omega)])
  have HL1 := Lib.hid (ld_same j k d j0 j4 hf)
  have HL2 := Lib.hid (ld_kind j k o d j0 j4 hf ho)
  have heo : (o == k) = false := by simpa using ho
  have heo2 : (o != k) = true := by simpa using ho
  obtain ⟨i, hi⟩ : ∃ i, i = (j + 1) % 5 := ⟨_, rfl⟩
  have hi0 : 0 ≤ i := by omega
  have hi4 : i ≤ 4 := by omega
  have HL3 := Lib.hid (ld_zero j i k d hi0 hi4 (by omega))
  have hw5 : wrap64 (j + 1) = j + 1 := by unfold wrap64; omega
  have hw6 : IntKind.i64.wrap (j + 1) = j + 1 := by simp [IntKind.wrap, IntKind.bits, IntKind.signed]; omega
  have ht5 : (j + 1).tmod 5 = i := by rw [Int.tmod_eq_emod_of_nonneg (by omega)]; omega
  have ht6 : (j + 1) % 5 = i := hi.symm
  clear hf j0 j4 h0 f0 f1 f2 hi0 hi4 hi ho
  have HM0 := Lib.hid (Mv.refl No w)
  have T0 := Lib.hid (Stays.tied tied)
  have WI0 := Lib.hid (Wi.no w)
  clear tied
  go_enter Tryd.func7, Tryd.ntmps7
  go_wp2_with fail
  refine (awake5 _ T0.out.now).mono ?_
  rintro e w1 ⟨rfl, hb⟩
  have hbm : Below w.heap.size w w1 := hb
  clear hb
  have hm : Mv No No w w1 := Mv.of_below hbm
  have T_1 := Lib.hid (T0.out.step hm)
  clear T0
  have HM_1 := Lib.hid (HM0.out.trans hm)
  clear HM0
  have WI_1 := Lib.hid (WI0.out.mono hm.size)
  clear WI0
  clear hm
  clear hbm
  go_wp2_with fail
  refine (new_m 5 _ (by decide) (by decide)).mono ?_
  rintro e w2 ⟨D, S1, rfl, hd, hb, hm⟩
  clear hb
  have T_2 := Lib.hid (T_1.out.step hm)
  clear T_1
  have HM_2 := Lib.hid (HM_1.out.trans hm)
  clear HM_1
  have WI_2 := Lib.hid (hd.wi)
  clear WI_1
  have HD_2 := Lib.hid (hd)
  clear hm
  clear hd
  go_wp2_with fail
  refine (store_ok j k d HFC.out HD_2.out (by simp) HMC.out).mono ?_
  rintro e w3 ⟨S2, rfl, hd, hm⟩
  have T_3 := Lib.hid (T_2.out.step hm)
  clear T_2
  have HM_3 := Lib.hid (HM_2.out.trans hm)
  clear HM_2
  have WI_3 := Lib.hid (hd.wi)
  clear WI_2
  have HD_3 := Lib.hid (hd)
  clear HD_2
  clear hm
  clear hd
  go_wp2_with fail
  refine (Num_nil w3).mono ?_
  rintro e _ ⟨rfl, rfl⟩
  go_wp2_with fail
  have HLD := Lib.hid (load_m j k HD_3.out (by simp))
  rw [HL1.out.1, HL1.out.2] at HLD
  refine (HLD.out).mono ?_
  rintro e w4 ⟨v1, rfl, he, hb⟩
  have hbm : Below w3.heap.size w3 w4 := hb
  clear hb
  have hm : Mv S2 S2 w3 w4 := Mv.of_below hbm
  have T_4 := Lib.hid (T_3.out.step hm)
  clear T_3
  have HM_4 := Lib.hid (HM_3.out.trans hm)
  clear HM_3
  have WI_4 := Lib.hid (WI_3.out.mono hm.size)
  clear WI_3
  have HD_4 := Lib.hid (HD_3.out.under hbm)
  clear HD_3
  clear hm
  clear hbm
  obtain rfl := ErrC.zero he
  clear he HLD
  go_wp2_with fail
  have HLD := Lib.hid (load_m j o HD_4.out (by simp))
  rw [HL2.out.1, HL2.out.2] at HLD
  refine (HLD.out).mono ?_
  rintro e w5 ⟨v2, rfl, he, hb⟩
  have hbm : Below w4.heap.size w4 w5 := hb
  clear hb
  have hm : Mv S2 S2 w4 w5 := Mv.of_below hbm
  have hst := Stays.err he WI_4.out
  clear he
  have T_5 := Lib.hid (T_4.out.step hm)
  clear T_4
  have HM_5 := Lib.hid (HM_4.out.trans hm)
  clear HM_4
  have WI_5 := Lib.hid (WI_4.out.mono hm.size)
  clear WI_4
  have HD_5 := Lib.hid (HD_4.out.under hbm)
  clear HD_4
  clear hm
  clear hbm
  have E2_6 := Lib.hid (hst)
  clear hst
  clear HLD
  go_wp2_with fail
  have HLD := Lib.hid (load_m i k HD_5.out (by simp))
  rw [HL3.out.1, HL3.out.2] at HLD
  refine (HLD.out).mono ?_
  rintro e w6 ⟨v3, rfl, he, hb⟩
  have hbm : Below w5.heap.size w5 w6 := hb
  clear hb
  have hm : Mv S2 S2 w5 w6 := Mv.of_below hbm
  have hst := Stays.err he WI_5.out
  clear he
  have T_7 := Lib.hid (T_5.out.step hm)
  clear T_5
  have E2_7 := Lib.hid (E2_6.out.step hm)
  clear E2_6
  have HM_7 := Lib.hid (HM_5.out.trans hm)
  clear HM_5
  have WI_7 := Lib.hid (WI_5.out.mono hm.size)
  clear WI_5
  have HD_7 := Lib.hid (HD_5.out.under hbm)
  clear HD_5
  clear hm
  clear hbm
  have E3_8 := Lib.hid (hst)
  clear hst
  clear HLD
  go_wp2_with fail
  refine (load_none 0 k _).mono ?_
  rintro e w7 ⟨v4, rfl, he, hb⟩
  have hbm : Below w6.heap.size w6 w7 := hb
  clear hb
  have hm : Mv S2 S2 w6 w7 := Mv.of_below hbm
  have hst := Stays.err he WI_7.out
  clear he
  have T_9 := Lib.hid (T_7.out.step hm)
  clear T_7
  have E2_9 := Lib.hid (E2_7.out.step hm)
  clear E2_7
  have E3_9 := Lib.hid (E3_8.out.step hm)
  clear E3_8
  have HM_9 := Lib.hid (HM_7.out.trans hm)
  clear HM_7
  have WI_9 := Lib.hid (WI_7.out.mono hm.size)
  clear WI_7
  have HD_9 := Lib.hid (HD_7.out.under hbm)
  clear HD_7
  clear hm
  clear hbm
  have E4_10 := Lib.hid (hst)
  clear hst
  go_wp2_with fail
  refine (Num_nil w7).mono ?_
  rintro e _ ⟨rfl, rfl⟩
  go_wp2_with fail
  refine (Num_nil w7).mono ?_
  rintro e _ ⟨rfl, rfl⟩
  go_wp2_with fail
  refine (Num_c _ v2 2 E2_9.out.now T_9.out.now).mono ?_
  rintro e w8 ⟨rfl, hb⟩
  have hbm : Below w7.heap.size w7 w8 := hb
  clear hb
  have hm : Mv S2 S2 w7 w8 := Mv.of_below hbm
  have T_11 := Lib.hid (T_9.out.step hm)
  clear T_9
  have E2_11 := Lib.hid (E2_9.out.step hm)
  clear E2_9
  have E3_11 := Lib.hid (E3_9.out.step hm)
  clear E3_9
  have E4_11 := Lib.hid (E4_10.out.step hm)
  clear E4_10
  have HM_11 := Lib.hid (HM_9.out.trans hm)
  clear HM_9
  have WI_11 := Lib.hid (WI_9.out.mono hm.size)
  clear WI_9
  have HD_11 := Lib.hid (HD_9.out.under hbm)
  clear HD_9
  clear hm
  clear hbm
  go_wp2_with fail
  refine (Num_c _ v3 3 E3_11.out.now T_11.out.now).mono ?_
  rintro e w9 ⟨rfl, hb⟩
  have hbm : Below w8.heap.size w8 w9 := hb
  clear hb
  have hm : Mv S2 S2 w8 w9 := Mv.of_below hbm
  have T_12 := Lib.hid (T_11.out.step hm)
  clear T_11
  have E2_12 := Lib.hid (E2_11.out.step hm)
  clear E2_11
  have E3_12 := Lib.hid (E3_11.out.step hm)
  clear E3_11
  have E4_12 := Lib.hid (E4_11.out.step hm)
  clear E4_11
  have HM_12 := Lib.hid (HM_11.out.trans hm)
  clear HM_11
  have WI_12 := Lib.hid (WI_11.out.mono hm.size)
  clear WI_11
  have HD_12 := Lib.hid (HD_11.out.under hbm)
  clear HD_11
  clear hm
  clear hbm
  go_wp2_with fail
  refine (Num_c _ v4 1 E4_12.out.now T_12.out.now).mono ?_
  rintro e w10 ⟨rfl, hb⟩
  have hbm : Below w9.heap.size w9 w10 := hb
  clear hb
  have hm : Mv S2 S2 w9 w10 := Mv.of_below hbm
  have T_13 := Lib.hid (T_12.out.step hm)
  clear T_12
  have E2_13 := Lib.hid (E2_12.out.step hm)
  clear E2_12
  have E3_13 := Lib.hid (E3_12.out.step hm)
  clear E3_12
  have E4_13 := Lib.hid (E4_12.out.step hm)
  clear E4_12
  have HM_13 := Lib.hid (HM_12.out.trans hm)
  clear HM_12
  have WI_13 := Lib.hid (WI_12.out.mono hm.size)
  clear WI_12
  have HD_13 := Lib.hid (HD_12.out.under hbm)
  clear HD_12
  clear hm
  clear hbm
  go_wp2_with fail
  go_ret
  exact ⟨rfl, HM_13.out.below⟩
theorem disks_walk (k o : Int) (d : ByteArray) (j : Int) (w : World) (wk : (Lit.int .i64 k).wf = true) (wo : (Lit.int .i64 o).wf = true) (wd : d.size ≤ 140737488351232) (wj : (Lit.int .i64 j).wf = true) (tied : Tied w) : Calls Tryd.prog 7 #[.int .i64 k, .int .i64 o, .string d, .int .i64 j] w fun e w' => e = .returned (.bool true) ∧ Below w.heap.size w w' := by
  by_cases h : 500 < d.size
  · exact disks_big k o d j h w tied
  have h0 : d.size ≤ 500 := by omega
  by_cases g0 : k < 1
  · exact disks_no0 k o d j h0 g0 w tied
  by_cases g1 : 255 < k
  · exact disks_no1 k o d j h0 g0 g1 w tied
  by_cases g2 : 120 < d.size
  · exact disks_no2 k o d j h0 g0 g1 g2 w tied
  by_cases g3 : j < 0
  · exact disks_no3 k o d j h0 g0 g1 g2 g3 w tied
  by_cases g4 : 4 < j
  · exact disks_no4 k o d j h0 g0 g1 g2 g3 g4 w tied
  have hf : frC k d = 0 := frC_zero.2 ⟨⟨by omega, by omega⟩, by omega⟩
  by_cases ho : k = o
  · exact disks_ok0 k o d j h0 hf (by omega) (by omega) ho w tied
  · exact disks_ok1 k o d j h0 hf (by omega) (by omega) (fun e => ho e.symm) w tied
end Go.Proofs.YtmnkgcgmbdkjaaaDoor
