/- dynamolaw05.FrameBack: the walk. -/
import Derived.Test.YtmnkgcgmbdkjaaaDoorFrAPSuperPlays
import Derived.Test.YtmnkgcgmbdkjaaaDoorHP
namespace Go.Proofs.YtmnkgcgmbdkjaaaDoor
open Go.RowKit Go.Extern.Stop Go.Stop Go.Extern Go.Proofs.YtmnkgcgmbdkjaaaDoorW.PrintWords Go.Proofs.YtmnkgcgmbdkjaaaDoorW.PrintLast Go.Proofs.YtmnkgcgmbdkjaaaDoorW.PrintMore Go.Proofs.YtmnkgcgmbdkjaaaDoor.PSuperPlays
set_option linter.unusedVariables false
set_option linter.unusedSimpArgs false
theorem xor_zero8 (x : UInt8) : x ^^^ 0 = x := by simp
theorem xor_self8 {x y : UInt8} (h : x ^^^ y = x) : y = 0 := by
  have := congrArg (fun z => x ^^^ z) h
  simpa [← UInt8.xor_assoc] using this
theorem xor8 (x : UInt8) (m : Nat) (hm : m < 256) : bits .xor .u8 ((x.toNat : Nat) : Int) (m : Int) = (((x ^^^ UInt8.ofNat m).toNat : Nat) : Int) := by
  have hx := x.toNat_lt
  rw [u8_xor_nat _ _ hx hm, UInt8.toNat_xor, UInt8.toNat_ofNat', Nat.mod_eq_of_lt (by simpa using hm)]
theorem spl_same (p : Pg) (i : Nat) (x : UInt8) (h : p[i]? = some x) : spl p i [x] = p := by
  have hi : i < p.length := (List.getElem?_eq_some_iff.1 h).1
  apply List.ext_getElem?; intro j
  rw [spl_get _ _ _ (by simp; omega)]
  by_cases h1 : j < i
  · rw [if_pos h1]
  · rw [if_neg h1]
    by_cases h2 : j = i
    · subst h2; rw [if_pos (by simp), h]; simp
    · rw [if_neg (by simp; omega)]
theorem fr_sum (k : Int) (d : ByteArray) : getK (strP ((framP k d).take 4)) 4 = ((sumL ((framP k d).drop 4) : Nat) : Int) := by
  rw [framP_take, framP_drop, strP_data, getK_sum]
theorem fr_read (k : Int) (d : ByteArray) (h : frC k d = 0) : rdC (framP k d) = 0 ∧ rdK (framP k d) = k ∧ rdD (framP k d) = d := by
  have h0 := rd_lay k d h
  obtain ⟨⟨h1, h2⟩, h3⟩ := frC_zero.1 h
  refine ⟨h0, ?_, ?_⟩
  · unfold rdK; rw [if_pos h0]; exact framP_kind k d (by omega) h2
  · unfold rdD; rw [if_pos h0]; exact framP_data k d h3
theorem fr_bad {p : Pg} {c : Int} (h : rdC p = c) (hc : c ≠ 0) : rdK p = 0 ∧ rdD p = ⟨#[]⟩ := by
  unfold rdK rdD; rw [h, if_neg hc, if_neg hc]; exact ⟨rfl, rfl⟩
set_option maxHeartbeats 4000000 in
set_option maxRecDepth 100000 in
theorem back_big (k : Int) (d : ByteArray) (n m : Nat) (h : 500 < d.size) (w : World) (tied : Tied w) : Calls Tryd.prog 4 #[.int .i64 k, .string d, .int .u8 (n : Int), .int .u8 (m : Int)] w fun e w' => e = .returned (.bool true) ∧ Below w.heap.size w w' := by
  have hd : decide (500 < (d.size : Int)) = true := by simp; omega
  clear h
  have HM0 := Lib.hid (Mv.refl No w)
  have T0 := Lib.hid (Stays.tied tied)
  have WI0 := Lib.hid (Wi.no w)
  clear tied
  go_enter Tryd.func4, Tryd.ntmps4
  go_wp2_with fail
  refine (awake5 _ T0.out.now).mono ?_
  rintro e w1 ⟨rfl, hb⟩
  have hbm : Below w.heap.size w w1 := hb
  clear hb
  have hm : Mv No No w w1 := Mv.of_below hbm
  have T_1 := Lib.hid (T0.out.step hm)
  clear T0
  have HM_1 := Lib.hid (HM0.out.trans hm)
  clear HM0
  have WI_1 := Lib.hid (WI0.out.mono hm.size)
  clear WI0
  clear hm
  clear hbm
  go_wp2_with fail
  refine (awake5 _ T_1.out.now).mono ?_
  rintro e w2 ⟨rfl, hb⟩
  have hbm : Below w1.heap.size w1 w2 := hb
  clear hb
  have hm : Mv No No w1 w2 := Mv.of_below hbm
  have T_2 := Lib.hid (T_1.out.step hm)
  clear T_1
  have HM_2 := Lib.hid (HM_1.out.trans hm)
  clear HM_1
  have WI_2 := Lib.hid (WI_1.out.mono hm.size)
  clear WI_1
  clear hm
  clear hbm
  go_wp2_with fail
  go_ret
  exact ⟨rfl, HM_2.out.below⟩
set_option maxHeartbeats 4000000 in
set_option maxRecDepth 100000 in
theorem back_no (k : Int) (d : ByteArray) (n m : Nat) (hs : d.size ≤ 500) (h1 : frC k d ≠ 0) (w : World) (tied : Tied w) : Calls Tryd.prog 4 #[.int .i64 k, .string d, .int .u8 (n : Int), .int .u8 (m : Int)] w fun e w' => e = .returned (.bool true) ∧ Below w.heap.size w w' := by
  have hd : decide (500 < (d.size : Int)) = false := by simp; omega
  have HL := Lib.hid (fun w => lay_m k d w)
  rw [show layP k d = zp by unfold layP; rw [if_neg h1]] at HL
  obtain ⟨c1, hc1⟩ : ∃ q, q = frC k d := ⟨_, rfl⟩
  rw [← hc1] at HL h1
  have hn : (c1 != 0) = true := by simpa using h1
  clear hs h1 hc1
  have hbz := build_zp
  have hbq := beq_pg zp
  have HM0 := Lib.hid (Mv.refl No w)
  have T0 := Lib.hid (Stays.tied tied)
  have WI0 := Lib.hid (Wi.no w)
  clear tied
  go_enter Tryd.func4, Tryd.ntmps4
  go_wp2_with fail
  refine (awake5 _ T0.out.now).mono ?_
  rintro e w1 ⟨rfl, hb⟩
  have hbm : Below w.heap.size w w1 := hb
  clear hb
  have hm : Mv No No w w1 := Mv.of_below hbm
  have T_1 := Lib.hid (T0.out.step hm)
  clear T0
  have HM_1 := Lib.hid (HM0.out.trans hm)
  clear HM0
  have WI_1 := Lib.hid (WI0.out.mono hm.size)
  clear WI0
  clear hm
  clear hbm
  go_wp2_with fail
  refine (HL.out _).mono ?_
  rintro e w2 ⟨v1, rfl, he, hb⟩
  have hbm : Below w1.heap.size w1 w2 := hb
  clear hb
  have hm : Mv No No w1 w2 := Mv.of_below hbm
  have hst := Stays.err he WI_1.out
  clear he
  have T_2 := Lib.hid (T_1.out.step hm)
  clear T_1
  have HM_2 := Lib.hid (HM_1.out.trans hm)
  clear HM_1
  have WI_2 := Lib.hid (WI_1.out.mono hm.size)
  clear WI_1
  clear hm
  clear hbm
  have E1_3 := Lib.hid (hst)
  clear hst
  go_wp2_with (first | ((with_reducible refine at_al 36 ?_); refine al_pg rfl rfl ?_) | ((with_reducible refine at_st 36 (.tmp 9) (.tmp 29) ?_); refine st_new rfl _ _ rfl _ _ _ rfl rfl zp ?_ rfl ?_ ?_; exact zp_length; exact zsz))
  obtain ⟨w3, hw3⟩ : ∃ q, q = w2.alloc (.cells (pv (zp)).toArray 36) := ⟨_, rfl⟩
  try rw [← hw3]
  have hbm : Below w2.heap.size w2 w3 := by rw [hw3]; exact (Below.refl _ _).alloc (Nat.le_refl _) _
  have hm : Mv No No w2 w3 := Mv.of_below hbm
  have hbx : Stays No w3 (fun W => PgAt W w2.heap.size (zp)) := Stays.box zp_length WI_2.out hw3
  obtain ⟨BX, hBX⟩ : ∃ q, q = w2.heap.size := ⟨_, rfl⟩
  try rw [← hBX]
  rw [← hBX] at hbx
  have T_4 := Lib.hid (T_2.out.step hm)
  clear T_2
  have E1_4 := Lib.hid (E1_3.out.step hm)
  clear E1_3
  have HM_4 := Lib.hid (HM_2.out.trans hm)
  clear HM_2
  have WI_4 := Lib.hid (WI_2.out.mono hm.size)
  clear WI_2
  clear hm
  clear hbm hw3 hBX
  have X_5 := Lib.hid (hbx)
  clear hbx
  refine (Num_c _ v1 _ E1_4.out.now T_4.out.now).mono ?_
  rintro e w4 ⟨rfl, hb⟩
  have hbm : Below w3.heap.size w3 w4 := hb
  clear hb
  have hm : Mv No No w3 w4 := Mv.of_below hbm
  have T_6 := Lib.hid (T_4.out.step hm)
  clear T_4
  have E1_6 := Lib.hid (E1_4.out.step hm)
  clear E1_4
  have X_6 := Lib.hid (X_5.out.step hm)
  clear X_5
  have HM_6 := Lib.hid (HM_4.out.trans hm)
  clear HM_4
  have WI_6 := Lib.hid (WI_4.out.mono hm.size)
  clear WI_4
  clear hm
  clear hbm
  go_wp2_with (first | ((with_reducible refine at_ld 36 (.tmp 9) ?_); refine ld_pg rfl _ rfl BX (0) rfl zp ?_ ?_ ?_; exact zp_length; exact (X_6.out.now).r) | ((with_reducible refine at_bin .eql 36 (.tmp 34) (.tmp 35) ?_); refine eqw_pg (by first | rfl | go_simp) (.tmp 34) (.tmp 35) rfl zp zp ?_ ?_ ?_ ?_ ?_; rfl; rfl; exact zp_length; exact zp_length))
  go_ret
  exact ⟨rfl, HM_6.out.below⟩
set_option maxHeartbeats 4000000 in
set_option maxRecDepth 100000 in
theorem back_zero (k : Int) (d : ByteArray) (n m : Nat) (hm : m < 256) (hs : d.size ≤ 500) (h1 : frC k d = 0) (hz : m = 0) (w : World) (tied : Tied w) : Calls Tryd.prog 4 #[.int .i64 k, .string d, .int .u8 (n : Int), .int .u8 (m : Int)] w fun e w' => e = .returned (.bool true) ∧ Below w.heap.size w w' := by
  have hd : decide (500 < (d.size : Int)) = false := by simp; omega
  have HL := Lib.hid (fun w => lay_m k d w)
  have hpl := layP_length k d
  obtain ⟨hr1, hr2, hr3⟩ := fr_read k d h1
  rw [show layP k d = framP k d by unfold layP; rw [if_pos h1]] at HL hpl
  have hsum := fr_sum k d
  rw [h1] at HL
  obtain ⟨p, hp⟩ : ∃ q, q = framP k d := ⟨_, rfl⟩
  rw [← hp] at HL hpl hr1 hr2 hr3 hsum
  have HR := Lib.hid (fun w => read_fr p hpl w)
  rw [hr1, hr2, hr3] at HR
  obtain ⟨i, hi⟩ : ∃ i, i = n % 128 := ⟨_, rfl⟩
  have hi2 : i < 128 := by omega
  have hit : (n : Int).tmod 128 = (i : Int) := by rw [Int.tmod_eq_emod_of_nonneg (by omega)]; omega
  have hit2 : (n : Int) % 128 = (i : Int) := by omega
  obtain ⟨x, hx⟩ : ∃ x, p[i]? = some x := ⟨_, List.getElem?_eq_getElem (by omega)⟩
  have hxor := xor8 x m hm
  have hql : (spl p i [x ^^^ UInt8.ofNat m]).length = 128 := by rw [spl_length _ _ _ (by simp; omega)]; exact hpl
  have HR2 := Lib.hid (fun w => read_fr (spl p i [x ^^^ UInt8.ofNat m]) hql w)
  subst hz
  rw [show spl p i [x ^^^ UInt8.ofNat 0] = p by rw [show UInt8.ofNat 0 = 0 from rfl, xor_zero8]; exact spl_same p i x hx, hr1, hr2, hr3] at HR2
  have hmz : ((0 : Nat) : Int) = 0 := rfl
  rw [hmz] at hxor
  obtain ⟨q, hq⟩ : ∃ q, q = spl p i [x ^^^ UInt8.ofNat 0] := ⟨_, rfl⟩
  rw [← hq] at hql
  have hqp : q = p := by rw [hq, show UInt8.ofNat 0 = 0 from rfl, xor_zero8]; exact spl_same p i x hx
  obtain ⟨z, hzz⟩ : ∃ z, z = x ^^^ UInt8.ofNat 0 := ⟨_, rfl⟩
  rw [← hzz] at hq hxor
  have HP := Lib.hid hpl
  have HQ := Lib.hid hql
  have HQE := Lib.hid hq
  have HX := Lib.hid hx
  have HQP := Lib.hid hqp
  clear hqp
  have hit3 : (i : Int).toNat = i := by omega
  have hlo : ¬ (i : Int) < 0 := by omega
  have hhi : (i : Int) < 128 := by omega
  clear h1 hs hpl hql hq hx hzz hi hp hr1 hr2 hr3 hsum
  have HM0 := Lib.hid (Mv.refl No w)
  have T0 := Lib.hid (Stays.tied tied)
  have WI0 := Lib.hid (Wi.no w)
  clear tied
  go_enter Tryd.func4, Tryd.ntmps4
  go_wp2_with fail
  refine (awake5 _ T0.out.now).mono ?_
  rintro e w1 ⟨rfl, hb⟩
  have hbm : Below w.heap.size w w1 := hb
  clear hb
  have hm : Mv No No w w1 := Mv.of_below hbm
  have T_1 := Lib.hid (T0.out.step hm)
  clear T0
  have HM_1 := Lib.hid (HM0.out.trans hm)
  clear HM0
  have WI_1 := Lib.hid (WI0.out.mono hm.size)
  clear WI0
  clear hm
  clear hbm
  go_wp2_with fail
  refine (HL.out _).mono ?_
  rintro e w2 ⟨v1, rfl, he, hb⟩
  have hbm : Below w1.heap.size w1 w2 := hb
  clear hb
  have hm : Mv No No w1 w2 := Mv.of_below hbm
  have T_2 := Lib.hid (T_1.out.step hm)
  clear T_1
  have HM_2 := Lib.hid (HM_1.out.trans hm)
  clear HM_1
  have WI_2 := Lib.hid (WI_1.out.mono hm.size)
  clear WI_1
  clear hm
  clear hbm
  obtain rfl := ErrC.zero he
  clear he
  go_wp2_with (first | ((with_reducible refine at_al 36 ?_); refine al_pg rfl rfl ?_) | ((with_reducible refine at_st 36 (.tmp 9) (.tmp 29) ?_); refine st_new rfl _ _ rfl _ _ _ rfl rfl p ?_ rfl ?_ ?_; exact HP.out; exact zsz))
  obtain ⟨w3, hw3⟩ : ∃ q, q = w2.alloc (.cells (pv (p)).toArray 36) := ⟨_, rfl⟩
  try rw [← hw3]
  have hbm : Below w2.heap.size w2 w3 := by rw [hw3]; exact (Below.refl _ _).alloc (Nat.le_refl _) _
  have hm := Mv.own (S := No) hw3
  have hwi := Wi.own WI_2.out hw3
  have hpx : PgAt w3 w2.heap.size (p) := by rw [hw3]; exact PgAt.new _ _ _ HP.out
  obtain ⟨BX, hBX⟩ : ∃ q, q = w2.heap.size := ⟨_, rfl⟩
  rw [← hBX] at hm hwi hpx
  try rw [← hBX]
  have T_3 := Lib.hid (T_2.out.step hm)
  clear T_2
  have HM_3 := Lib.hid (HM_2.out.trans hm)
  clear HM_2
  have WI_3 := Lib.hid (hwi)
  clear WI_2
  clear hm
  clear hbm hw3 hBX hwi
  have OX_3 := Lib.hid hpx
  clear hpx
  refine (Num_nil w3).mono ?_
  rintro e _ ⟨rfl, rfl⟩
  go_wp2_with (first | ((with_reducible refine at_ld 36 (.tmp 9) ?_); refine ld_pg rfl _ rfl BX (0) rfl p ?_ ?_ ?_; exact HP.out; exact OX_3.out.r))
  refine (HR.out _).mono ?_
  rintro e w4 ⟨v2, rfl, he, hb⟩
  have hbm : Below w3.heap.size w3 w4 := hb
  clear hb
  have hm : Mv (fun k => No k ∨ k = BX) (fun k => No k ∨ k = BX) w3 w4 := Mv.of_below hbm
  have T_4 := Lib.hid (T_3.out.step hm)
  clear T_3
  have OX_4 := Lib.hid (OX_3.out.under hbm OX_3.out.lt)
  clear OX_3
  have HM_4 := Lib.hid (HM_3.out.trans hm)
  clear HM_3
  have WI_4 := Lib.hid (WI_3.out.mono hm.size)
  clear WI_3
  clear hm
  clear hbm
  obtain rfl := ErrC.zero he
  clear he
  have cx := (OX_4.out).byte i x HX.out
  have fx := (OX_4.out).free i hi2
  have hq2 : PgAt (w4.setCell ⟨BX, i, none⟩ (.int .u8 (z.toNat : Int))) BX q := by rw [HQE.out]; exact (OX_4.out).put i z hi2
  have HQ2 := Lib.hid hq2.r
  clear hq2
  go_wp2_with (first | ((with_reducible refine at_ld 36 (.tmp 9) ?_); refine ld_pg rfl _ rfl BX (0) rfl q ?_ ?_ ?_; exact HQ.out; exact HQ2.out))
  clear cx fx HQ2
  obtain ⟨w5, hw5⟩ : ∃ q, q = w4.setCell ⟨BX, i, none⟩ (.int .u8 ((z).toNat : Int)) := ⟨_, rfl⟩
  try rw [← hw5]
  have hm : Mv (fun k => No k ∨ k = BX) (fun k => No k ∨ k = BX) w4 w5 := by rw [hw5]; exact Mv.set _ _ _ _ (.inr rfl)
  have hpx : PgAt w5 BX q := by rw [hw5, HQE.out]; exact OX_4.out.put i _ hi2
  have T_5 := Lib.hid (T_4.out.step hm)
  clear T_4
  have HM_5 := Lib.hid (HM_4.out.trans hm)
  clear HM_4
  have WI_5 := Lib.hid (WI_4.out.mono hm.size)
  clear WI_4
  clear hm
  clear hw5 OX_4
  have OX_5 := Lib.hid hpx
  clear hpx
  obtain rfl := HQP.out
  refine (HR2.out _).mono ?_
  rintro e w6 ⟨v3, rfl, he, hb⟩
  have hbm : Below w5.heap.size w5 w6 := hb
  clear hb
  have hm : Mv (fun k => No k ∨ k = BX) (fun k => No k ∨ k = BX) w5 w6 := Mv.of_below hbm
  have T_6 := Lib.hid (T_5.out.step hm)
  clear T_5
  have OX_6 := Lib.hid (OX_5.out.under hbm OX_5.out.lt)
  clear OX_5
  have HM_6 := Lib.hid (HM_5.out.trans hm)
  clear HM_5
  have WI_6 := Lib.hid (WI_5.out.mono hm.size)
  clear WI_5
  clear hm
  clear hbm
  obtain rfl := ErrC.zero he
  clear he
  go_wp2_with fail
  refine (Num_nil w6).mono ?_
  rintro e _ ⟨rfl, rfl⟩
  go_wp2_with fail
  refine (Num_nil w6).mono ?_
  rintro e _ ⟨rfl, rfl⟩
  go_wp2_with fail
  go_ret
  exact ⟨rfl, HM_6.out.below⟩
set_option maxHeartbeats 4000000 in
set_option maxRecDepth 100000 in
theorem back_some (k : Int) (d : ByteArray) (n m : Nat) (hm : m < 256) (hs : d.size ≤ 500) (h1 : frC k d = 0) (hz : m ≠ 0) (w : World) (tied : Tied w) : Calls Tryd.prog 4 #[.int .i64 k, .string d, .int .u8 (n : Int), .int .u8 (m : Int)] w fun e w' => e = .returned (.bool true) ∧ Below w.heap.size w w' := by
  have hd : decide (500 < (d.size : Int)) = false := by simp; omega
  have HL := Lib.hid (fun w => lay_m k d w)
  have hpl := layP_length k d
  obtain ⟨hr1, hr2, hr3⟩ := fr_read k d h1
  rw [show layP k d = framP k d by unfold layP; rw [if_pos h1]] at HL hpl
  have hsum := fr_sum k d
  rw [h1] at HL
  obtain ⟨p, hp⟩ : ∃ q, q = framP k d := ⟨_, rfl⟩
  rw [← hp] at HL hpl hr1 hr2 hr3 hsum
  have HR := Lib.hid (fun w => read_fr p hpl w)
  rw [hr1, hr2, hr3] at HR
  obtain ⟨i, hi⟩ : ∃ i, i = n % 128 := ⟨_, rfl⟩
  have hi2 : i < 128 := by omega
  have hit : (n : Int).tmod 128 = (i : Int) := by rw [Int.tmod_eq_emod_of_nonneg (by omega)]; omega
  have hit2 : (n : Int) % 128 = (i : Int) := by omega
  obtain ⟨x, hx⟩ : ∃ x, p[i]? = some x := ⟨_, List.getElem?_eq_getElem (by omega)⟩
  have hxor := xor8 x m hm
  have hql : (spl p i [x ^^^ UInt8.ofNat m]).length = 128 := by rw [spl_length _ _ _ (by simp; omega)]; exact hpl
  have HR2 := Lib.hid (fun w => read_fr (spl p i [x ^^^ UInt8.ofNat m]) hql w)
  have hbad : rdC (spl p i [x ^^^ UInt8.ofNat m]) = 3 := rd_spoilt p hpl hsum i hi2 x _ hx (fun e => hz (by have := congrArg UInt8.toNat (xor_self8 e.symm); rwa [UInt8.toNat_ofNat', Nat.mod_eq_of_lt (by simpa using hm)] at this))
  obtain ⟨hb2, hb3⟩ := fr_bad hbad (by decide)
  rw [hbad, hb2, hb3] at HR2
  have hmz : ((m : Int) == 0) = false := by simpa using hz
  have hmz2 : ((m : Int) != 0) = true := by simpa using hz
  clear hz hbad hb2 hb3
  obtain ⟨q, hq⟩ : ∃ q, q = spl p i [x ^^^ UInt8.ofNat m] := ⟨_, rfl⟩
  rw [← hq] at HR2 hql
  obtain ⟨z, hzz⟩ : ∃ z, z = x ^^^ UInt8.ofNat m := ⟨_, rfl⟩
  rw [← hzz] at hq hxor
  have HP := Lib.hid hpl
  have HQ := Lib.hid hql
  have HQE := Lib.hid hq
  have HX := Lib.hid hx
  have hit3 : (i : Int).toNat = i := by omega
  have hlo : ¬ (i : Int) < 0 := by omega
  have hhi : (i : Int) < 128 := by omega
  clear h1 hs hpl hql hq hx hzz hi hp hr1 hr2 hr3 hsum
  have HM0 := Lib.hid (Mv.refl No w)
  have T0 := Lib.hid (Stays.tied tied)
  have WI0 := Lib.hid (Wi.no w)
  clear tied
  go_enter Tryd.func4, Tryd.ntmps4
  go_wp2_with fail
  refine (awake5 _ T0.out.now).mono ?_
  rintro e w1 ⟨rfl, hb⟩
  have hbm : Below w.heap.size w w1 := hb
  clear hb
  have hm : Mv No No w w1 := Mv.of_below hbm
  have T_1 := Lib.hid (T0.out.step hm)
  clear T0
  have HM_1 := Lib.hid (HM0.out.trans hm)
  clear HM0
  have WI_1 := Lib.hid (WI0.out.mono hm.size)
  clear WI0
  clear hm
  clear hbm
  go_wp2_with fail
  refine (HL.out _).mono ?_
  rintro e w2 ⟨v1, rfl, he, hb⟩
  have hbm : Below w1.heap.size w1 w2 := hb
  clear hb
  have hm : Mv No No w1 w2 := Mv.of_below hbm
  have T_2 := Lib.hid (T_1.out.step hm)
  clear T_1
  have HM_2 := Lib.hid (HM_1.out.trans hm)
  clear HM_1
  have WI_2 := Lib.hid (WI_1.out.mono hm.size)
  clear WI_1
  clear hm
  clear hbm
  obtain rfl := ErrC.zero he
  clear he
  go_wp2_with (first | ((with_reducible refine at_al 36 ?_); refine al_pg rfl rfl ?_) | ((with_reducible refine at_st 36 (.tmp 9) (.tmp 29) ?_); refine st_new rfl _ _ rfl _ _ _ rfl rfl p ?_ rfl ?_ ?_; exact HP.out; exact zsz))
  obtain ⟨w3, hw3⟩ : ∃ q, q = w2.alloc (.cells (pv (p)).toArray 36) := ⟨_, rfl⟩
  try rw [← hw3]
  have hbm : Below w2.heap.size w2 w3 := by rw [hw3]; exact (Below.refl _ _).alloc (Nat.le_refl _) _
  have hm := Mv.own (S := No) hw3
  have hwi := Wi.own WI_2.out hw3
  have hpx : PgAt w3 w2.heap.size (p) := by rw [hw3]; exact PgAt.new _ _ _ HP.out
  obtain ⟨BX, hBX⟩ : ∃ q, q = w2.heap.size := ⟨_, rfl⟩
  rw [← hBX] at hm hwi hpx
  try rw [← hBX]
  have T_3 := Lib.hid (T_2.out.step hm)
  clear T_2
  have HM_3 := Lib.hid (HM_2.out.trans hm)
  clear HM_2
  have WI_3 := Lib.hid (hwi)
  clear WI_2
  clear hm
  clear hbm hw3 hBX hwi
  have OX_3 := Lib.hid hpx
  clear hpx
  refine (Num_nil w3).mono ?_
  rintro e _ ⟨rfl, rfl⟩
  go_wp2_with (first | ((with_reducible refine at_ld 36 (.tmp 9) ?_); refine ld_pg rfl _ rfl BX (0) rfl p ?_ ?_ ?_; exact HP.out; exact OX_3.out.r))
  refine (HR.out _).mono ?_
  rintro e w4 ⟨v2, rfl, he, hb⟩
  have hbm : Below w3.heap.size w3 w4 := hb
  clear hb
  have hm : Mv (fun k => No k ∨ k = BX) (fun k => No k ∨ k = BX) w3 w4 := Mv.of_below hbm
  have T_4 := Lib.hid (T_3.out.step hm)
  clear T_3
  have OX_4 := Lib.hid (OX_3.out.under hbm OX_3.out.lt)
  clear OX_3
  have HM_4 := Lib.hid (HM_3.out.trans hm)
  clear HM_3
  have WI_4 := Lib.hid (WI_3.out.mono hm.size)
  clear WI_3
  clear hm
  clear hbm
  obtain rfl := ErrC.zero he
  clear he
  have cx := (OX_4.out).byte i x HX.out
  have fx := (OX_4.out).free i hi2
  have hq2 : PgAt (w4.setCell ⟨BX, i, none⟩ (.int .u8 (z.toNat : Int))) BX q := by rw [HQE.out]; exact (OX_4.out).put i z hi2
  have HQ2 := Lib.hid hq2.r
  clear hq2
  go_wp2_with (first | ((with_reducible refine at_ld 36 (.tmp 9) ?_); refine ld_pg rfl _ rfl BX (0) rfl q ?_ ?_ ?_; exact HQ.out; exact HQ2.out))
  clear cx fx HQ2
  obtain ⟨w5, hw5⟩ : ∃ q, q = w4.setCell ⟨BX, i, none⟩ (.int .u8 ((z).toNat : Int)) := ⟨_, rfl⟩
  try rw [← hw5]
  have hm : Mv (fun k => No k ∨ k = BX) (fun k => No k ∨ k = BX) w4 w5 := by rw [hw5]; exact Mv.set _ _ _ _ (.inr rfl)
  have hpx : PgAt w5 BX q := by rw [hw5, HQE.out]; exact OX_4.out.put i _ hi2
  have T_5 := Lib.hid (T_4.out.step hm)
  clear T_4
  have HM_5 := Lib.hid (HM_4.out.trans hm)
  clear HM_4
  have WI_5 := Lib.hid (WI_4.out.mono hm.size)
  clear WI_4
  clear hm
  clear hw5 OX_4
  have OX_5 := Lib.hid hpx
  clear hpx
  refine (HR2.out _).mono ?_
  rintro e w6 ⟨v3, rfl, he, hb⟩
  have hbm : Below w5.heap.size w5 w6 := hb
  clear hb
  have hm : Mv (fun k => No k ∨ k = BX) (fun k => No k ∨ k = BX) w5 w6 := Mv.of_below hbm
  have hst := Stays.err he WI_5.out
  clear he
  have T_6 := Lib.hid (T_5.out.step hm)
  clear T_5
  have OX_6 := Lib.hid (OX_5.out.under hbm OX_5.out.lt)
  clear OX_5
  have HM_6 := Lib.hid (HM_5.out.trans hm)
  clear HM_5
  have WI_6 := Lib.hid (WI_5.out.mono hm.size)
  clear WI_5
  clear hm
  clear hbm
  have E3_7 := Lib.hid (hst)
  clear hst
  go_wp2_with fail
  refine (Num_nil w6).mono ?_
  rintro e _ ⟨rfl, rfl⟩
  go_wp2_with fail
  refine (Num_c _ v3 3 E3_7.out.now T_6.out.now).mono ?_
  rintro e w7 ⟨rfl, hb⟩
  have hbm : Below w6.heap.size w6 w7 := hb
  clear hb
  have hm : Mv (fun k => No k ∨ k = BX) (fun k => No k ∨ k = BX) w6 w7 := Mv.of_below hbm
  have T_8 := Lib.hid (T_6.out.step hm)
  clear T_6
  have E3_8 := Lib.hid (E3_7.out.step hm)
  clear E3_7
  have OX_8 := Lib.hid (OX_6.out.under hbm OX_6.out.lt)
  clear OX_6
  have HM_8 := Lib.hid (HM_6.out.trans hm)
  clear HM_6
  have WI_8 := Lib.hid (WI_6.out.mono hm.size)
  clear WI_6
  clear hm
  clear hbm
  go_wp2_with fail
  go_ret
  exact ⟨rfl, HM_8.out.below⟩
theorem back_walk (k : Int) (d : ByteArray) (a b : Int) (w : World) (wk : (Lit.int .i64 k).wf = true) (wd : d.size ≤ 140737488351232) (wa : (Lit.int .u8 a).wf = true) (wb : (Lit.int .u8 b).wf = true) (tied : Tied w) : Calls Tryd.prog 4 #[.int .i64 k, .string d, .int .u8 a, .int .u8 b] w fun e w' => e = .returned (.bool true) ∧ Below w.heap.size w w' := by
  have ha := wf_b8 wa
  have hb := wf_b8 wb
  obtain ⟨n, rfl⟩ : ∃ n : Nat, a = (n : Int) := ⟨a.toNat, by omega⟩
  obtain ⟨m, rfl⟩ : ∃ n : Nat, b = (n : Int) := ⟨b.toNat, by omega⟩
  by_cases hs : 500 < d.size
  · exact back_big k d n m hs w tied
  by_cases h1 : frC k d = 0
  · by_cases hz : m = 0
    · exact back_zero k d n m (by omega) (by omega) h1 hz w tied
    · exact back_some k d n m (by omega) (by omega) h1 hz w tied
  · exact back_no k d n m (by omega) h1 w tied
end Go.Proofs.YtmnkgcgmbdkjaaaDoor
