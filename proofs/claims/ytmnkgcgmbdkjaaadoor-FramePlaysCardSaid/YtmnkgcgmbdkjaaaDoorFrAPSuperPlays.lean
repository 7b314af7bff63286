/- dynamolaw05: awake, FrameUnlike: the walks. -/
import Derived.Test.YtmnkgcgmbdkjaaaDoorHD
namespace Go.Proofs.YtmnkgcgmbdkjaaaDoor
open Go.RowKit Go.Extern.Stop Go.Stop Go.Extern Go.Proofs.YtmnkgcgmbdkjaaaDoorW.PrintWords Go.Proofs.YtmnkgcgmbdkjaaaDoorW.PrintLast Go.Proofs.YtmnkgcgmbdkjaaaDoorW.PrintMore Go.Proofs.YtmnkgcgmbdkjaaaDoor.PSuperPlays
set_option linter.unusedVariables false
set_option linter.unusedSimpArgs false
def strX : ByteArray := ⟨#[120]⟩
theorem frC_x : frC 7 strX = 0 := by decide
theorem layP_x : layP 7 strX = framP 7 strX := by unfold layP; rw [if_pos frC_x]
theorem frame_x4 : (framP 7 strX)[4]? = some 7 := by
  have h := framP_at 7 strX 0
  rw [show 4 + 0 = 4 from rfl] at h
  rw [h]; rfl
theorem rdK_zero : rdK zp = 0 := by unfold rdK; rw [rd_zero]; rfl
set_option maxHeartbeats 4000000 in
set_option maxRecDepth 100000 in
theorem awake5 (w : World) (tied : Tied w) : Calls Tryd.prog 32 #[] w fun e w' => e = .returned (.bool true) ∧ Below w.heap.size w w' := by
  have hbz := build_zp
  have HL := Lib.hid (fun w => lay_m 7 strX w)
  rw [frC_x] at HL
  have HR := Lib.hid (fun w => read_fr zp zp_length w)
  rw [rd_zero] at HR
  have HM0 := Lib.hid (Mv.refl No w)
  have T0 := Lib.hid (Stays.tied tied)
  clear tied
  go_enter Tryd.func32, Tryd.ntmps32
  go_wp2_with fail
  refine (HR.out _).mono ?_
  rintro e w1 ⟨v1, rfl, he, hb⟩
  have hbm : Below w.heap.size w w1 := hb
  clear hb
  have hm : Mv No No w w1 := Mv.of_below hbm
  have hst := Stays.err he (Wi.no _)
  clear he
  have T_1 := Lib.hid (T0.out.step hm)
  clear T0
  have HM_1 := Lib.hid (HM0.out.trans hm)
  clear HM0
  clear hm
  clear hbm
  have E1_2 := Lib.hid (hst)
  clear hst
  go_wp2_with fail
  refine (HL.out _).mono ?_
  rintro e w2 ⟨v2, rfl, he, hb⟩
  have hbm : Below w1.heap.size w1 w2 := hb
  clear hb
  have hm : Mv No No w1 w2 := Mv.of_below hbm
  have T_3 := Lib.hid (T_1.out.step hm)
  clear T_1
  have E1_3 := Lib.hid (E1_2.out.step hm)
  clear E1_2
  have HM_3 := Lib.hid (HM_1.out.trans hm)
  clear HM_1
  clear hm
  clear hbm
  obtain rfl := ErrC.zero he
  clear he
  go_wp2_with (first | ((with_reducible refine at_al 36 ?_); refine al_pg rfl rfl ?_) | ((with_reducible refine at_st 36 (.tmp 4) (.tmp 14) ?_); refine st_new rfl _ _ rfl _ _ _ rfl rfl (layP 7 strX) ?_ rfl ?_ ?_; exact layP_length _ _; exact zsz))
  obtain ⟨w3, hw3⟩ : ∃ q, q = w2.alloc (.cells (pv (layP 7 strX)).toArray 36) := ⟨_, rfl⟩
  try rw [← hw3]
  have hbm : Below w2.heap.size w2 w3 := by rw [hw3]; exact (Below.refl _ _).alloc (Nat.le_refl _) _
  have hm : Mv No No w2 w3 := Mv.of_below hbm
  have hbx : Stays No w3 (fun W => PgAt W w2.heap.size (layP 7 strX)) := Stays.box (layP_length _ _) (Wi.no _) hw3
  obtain ⟨BX, hBX⟩ : ∃ q, q = w2.heap.size := ⟨_, rfl⟩
  try rw [← hBX]
  rw [← hBX] at hbx
  have T_4 := Lib.hid (T_3.out.step hm)
  clear T_3
  have E1_4 := Lib.hid (E1_3.out.step hm)
  clear E1_3
  have HM_4 := Lib.hid (HM_3.out.trans hm)
  clear HM_3
  clear hm
  clear hbm hw3 hBX
  have X_5 := Lib.hid (hbx)
  clear hbx
  refine (Num_c _ v1 3 E1_4.out.now T_4.out.now).mono ?_
  rintro e w4 ⟨rfl, hb⟩
  have hbm : Below w3.heap.size w3 w4 := hb
  clear hb
  have hm : Mv No No w3 w4 := Mv.of_below hbm
  have T_6 := Lib.hid (T_4.out.step hm)
  clear T_4
  have E1_6 := Lib.hid (E1_4.out.step hm)
  clear E1_4
  have X_6 := Lib.hid (X_5.out.step hm)
  clear X_5
  have HM_6 := Lib.hid (HM_4.out.trans hm)
  clear HM_4
  clear hm
  clear hbm
  go_wp2_with fail
  refine (Num_nil w4).mono ?_
  rintro e _ ⟨rfl, rfl⟩
  have c4 := (X_6.out.now).byte 4 7 (by rw [layP_x]; exact frame_x4)
  go_wp2_with fail
  go_ret
  exact ⟨rfl, HM_6.out.below⟩
set_option maxHeartbeats 4000000 in
set_option maxRecDepth 100000 in
theorem unlike_big (a b : Int) (s t : ByteArray) (h : 500 < s.size ∨ 500 < t.size) (w : World) (tied : Tied w) : Calls Tryd.prog 6 #[.int .i64 a, .int .i64 b, .string s, .string t] w fun e w' => e = .returned (.bool true) ∧ Below w.heap.size w w' := by
  rcases h with h | h
  · have hd : decide (500 < (s.size : Int)) = true := by simp; omega
    clear h
    have HM0 := Lib.hid (Mv.refl No w)
    have T0 := Lib.hid (Stays.tied tied)
    clear tied
    go_enter Tryd.func6, Tryd.ntmps6
    go_wp2_with fail
    refine (awake5 _ T0.out.now).mono ?_
    rintro e w1 ⟨rfl, hb⟩
    have hbm : Below w.heap.size w w1 := hb
    clear hb
    have hm : Mv No No w w1 := Mv.of_below hbm
    have T_1 := Lib.hid (T0.out.step hm)
    clear T0
    have HM_1 := Lib.hid (HM0.out.trans hm)
    clear HM0
    clear hm
    clear hbm
    go_wp2_with fail
    refine (awake5 _ T_1.out.now).mono ?_
    rintro e w2 ⟨rfl, hb⟩
    have hbm : Below w1.heap.size w1 w2 := hb
    clear hb
    have hm : Mv No No w1 w2 := Mv.of_below hbm
    have T_2 := Lib.hid (T_1.out.step hm)
    clear T_1
    have HM_2 := Lib.hid (HM_1.out.trans hm)
    clear HM_1
    clear hm
    clear hbm
    go_wp2_with fail
    go_ret
    exact ⟨rfl, HM_2.out.below⟩
  · have hd2 : decide (500 < (t.size : Int)) = true := by simp; omega
    by_cases h1 : 500 < s.size
    · have hd : decide (500 < (s.size : Int)) = true := by simp; omega
      clear h h1
      have HM0 := Lib.hid (Mv.refl No w)
      have T0 := Lib.hid (Stays.tied tied)
      clear tied
      go_enter Tryd.func6, Tryd.ntmps6
      go_wp2_with fail
      refine (awake5 _ T0.out.now).mono ?_
      rintro e w1 ⟨rfl, hb⟩
      have hbm : Below w.heap.size w w1 := hb
      clear hb
      have hm : Mv No No w w1 := Mv.of_below hbm
      have T_1 := Lib.hid (T0.out.step hm)
      clear T0
      have HM_1 := Lib.hid (HM0.out.trans hm)
      clear HM0
      clear hm
      clear hbm
      go_wp2_with fail
      refine (awake5 _ T_1.out.now).mono ?_
      rintro e w2 ⟨rfl, hb⟩
      have hbm : Below w1.heap.size w1 w2 := hb
      clear hb
      have hm : Mv No No w1 w2 := Mv.of_below hbm
      have T_2 := Lib.hid (T_1.out.step hm)
      clear T_1
      have HM_2 := Lib.hid (HM_1.out.trans hm)
      clear HM_1
      clear hm
      clear hbm
      go_wp2_with fail
      go_ret
      exact ⟨rfl, HM_2.out.below⟩
    · have hd : decide (500 < (s.size : Int)) = false := by simp; omega
      clear h h1
      have HM0 := Lib.hid (Mv.refl No w)
      have T0 := Lib.hid (Stays.tied tied)
      clear tied
      go_enter Tryd.func6, Tryd.ntmps6
      go_wp2_with fail
      refine (awake5 _ T0.out.now).mono ?_
      rintro e w1 ⟨rfl, hb⟩
      have hbm : Below w.heap.size w w1 := hb
      clear hb
      have hm : Mv No No w w1 := Mv.of_below hbm
      have T_1 := Lib.hid (T0.out.step hm)
      clear T0
      have HM_1 := Lib.hid (HM0.out.trans hm)
      clear HM0
      clear hm
      clear hbm
      go_wp2_with fail
      refine (awake5 _ T_1.out.now).mono ?_
      rintro e w2 ⟨rfl, hb⟩
      have hbm : Below w1.heap.size w1 w2 := hb
      clear hb
      have hm : Mv No No w1 w2 := Mv.of_below hbm
      have T_2 := Lib.hid (T_1.out.step hm)
      clear T_1
      have HM_2 := Lib.hid (HM_1.out.trans hm)
      clear HM_1
      clear hm
      clear hbm
      go_wp2_with fail
      go_ret
      exact ⟨rfl, HM_2.out.below⟩
set_option maxHeartbeats 4000000 in
set_option maxRecDepth 100000 in
theorem unlike_no1 (a b : Int) (s t : ByteArray) (hs : s.size ≤ 500) (ht : t.size ≤ 500) (h1 : frC a s ≠ 0) (w : World) (tied : Tied w) : Calls Tryd.prog 6 #[.int .i64 a, .int .i64 b, .string s, .string t] w fun e w' => e = .returned (.bool true) ∧ Below w.heap.size w w' := by
  have hd : decide (500 < (s.size : Int)) = false := by simp; omega
  have hd2 : decide (500 < (t.size : Int)) = false := by simp; omega
  clear hs ht
  have HL1 := Lib.hid (fun w => lay_m a s w)
  have HL2 := Lib.hid (fun w => lay_m b t w)
  obtain ⟨c1, hc1⟩ : ∃ q, q = frC a s := ⟨_, rfl⟩
  obtain ⟨c2, hc2⟩ : ∃ q, q = frC b t := ⟨_, rfl⟩
  obtain ⟨p1, hp1⟩ : ∃ q, q = layP a s := ⟨_, rfl⟩
  obtain ⟨p2, hp2⟩ : ∃ q, q = layP b t := ⟨_, rfl⟩
  have P1 : Hid (p1.length = 128) := Lib.hid (by rw [hp1]; exact layP_length _ _)
  have P2 : Hid (p2.length = 128) := Lib.hid (by rw [hp2]; exact layP_length _ _)
  rw [← hc1, ← hp1] at HL1
  rw [← hc2, ← hp2] at HL2
  have hn1 : (c1 != 0) = true := by rw [hc1]; simpa using h1
  clear hp1 hp2 hc1 hc2 h1
  have HM0 := Lib.hid (Mv.refl No w)
  have T0 := Lib.hid (Stays.tied tied)
  clear tied
  go_enter Tryd.func6, Tryd.ntmps6
  go_wp2_with fail
  refine (awake5 _ T0.out.now).mono ?_
  rintro e w1 ⟨rfl, hb⟩
  have hbm : Below w.heap.size w w1 := hb
  clear hb
  have hm : Mv No No w w1 := Mv.of_below hbm
  have T_1 := Lib.hid (T0.out.step hm)
  clear T0
  have HM_1 := Lib.hid (HM0.out.trans hm)
  clear HM0
  clear hm
  clear hbm
  go_wp2_with fail
  refine (HL1.out _).mono ?_
  rintro e w2 ⟨v1, rfl, he, hb⟩
  have hbm : Below w1.heap.size w1 w2 := hb
  clear hb
  have hm : Mv No No w1 w2 := Mv.of_below hbm
  have hst := Stays.err he (Wi.no _)
  clear he
  have T_2 := Lib.hid (T_1.out.step hm)
  clear T_1
  have HM_2 := Lib.hid (HM_1.out.trans hm)
  clear HM_1
  clear hm
  clear hbm
  have E1_3 := Lib.hid (hst)
  clear hst
  go_wp2_with (first | ((with_reducible refine at_al 36 ?_); refine al_pg rfl rfl ?_) | ((with_reducible refine at_st 36 (.tmp 9) (.tmp 30) ?_); refine st_new rfl _ _ rfl _ _ _ rfl rfl p1 ?_ rfl ?_ ?_; exact P1.out; exact zsz))
  obtain ⟨w3, hw3⟩ : ∃ q, q = w2.alloc (.cells (pv (p1)).toArray 36) := ⟨_, rfl⟩
  try rw [← hw3]
  have hbm : Below w2.heap.size w2 w3 := by rw [hw3]; exact (Below.refl _ _).alloc (Nat.le_refl _) _
  have hm : Mv No No w2 w3 := Mv.of_below hbm
  have hbx : Stays No w3 (fun W => PgAt W w2.heap.size (p1)) := Stays.box P1.out (Wi.no _) hw3
  obtain ⟨BX, hBX⟩ : ∃ q, q = w2.heap.size := ⟨_, rfl⟩
  try rw [← hBX]
  rw [← hBX] at hbx
  have T_4 := Lib.hid (T_2.out.step hm)
  clear T_2
  have E1_4 := Lib.hid (E1_3.out.step hm)
  clear E1_3
  have HM_4 := Lib.hid (HM_2.out.trans hm)
  clear HM_2
  clear hm
  clear hbm hw3 hBX
  have X_5 := Lib.hid (hbx)
  clear hbx
  refine (HL2.out _).mono ?_
  rintro e w4 ⟨v2, rfl, he, hb⟩
  have hbm : Below w3.heap.size w3 w4 := hb
  clear hb
  have hm : Mv No No w3 w4 := Mv.of_below hbm
  have hst := Stays.err he (Wi.no _)
  clear he
  have T_6 := Lib.hid (T_4.out.step hm)
  clear T_4
  have E1_6 := Lib.hid (E1_4.out.step hm)
  clear E1_4
  have X_6 := Lib.hid (X_5.out.step hm)
  clear X_5
  have HM_6 := Lib.hid (HM_4.out.trans hm)
  clear HM_4
  clear hm
  clear hbm
  have E2_7 := Lib.hid (hst)
  clear hst
  go_wp2_with (first | ((with_reducible refine at_al 36 ?_); refine al_pg rfl rfl ?_) | ((with_reducible refine at_st 36 (.tmp 11) (.tmp 36) ?_); refine st_new rfl _ _ rfl _ _ _ rfl rfl p2 ?_ rfl ?_ ?_; exact P2.out; exact zsz))
  obtain ⟨w5, hw5⟩ : ∃ q, q = w4.alloc (.cells (pv (p2)).toArray 36) := ⟨_, rfl⟩
  try rw [← hw5]
  have hbm : Below w4.heap.size w4 w5 := by rw [hw5]; exact (Below.refl _ _).alloc (Nat.le_refl _) _
  have hm : Mv No No w4 w5 := Mv.of_below hbm
  have hbx : Stays No w5 (fun W => PgAt W w4.heap.size (p2)) := Stays.box P2.out (Wi.no _) hw5
  obtain ⟨BY, hBY⟩ : ∃ q, q = w4.heap.size := ⟨_, rfl⟩
  try rw [← hBY]
  rw [← hBY] at hbx
  have T_8 := Lib.hid (T_6.out.step hm)
  clear T_6
  have E1_8 := Lib.hid (E1_6.out.step hm)
  clear E1_6
  have X_8 := Lib.hid (X_6.out.step hm)
  clear X_6
  have E2_8 := Lib.hid (E2_7.out.step hm)
  clear E2_7
  have HM_8 := Lib.hid (HM_6.out.trans hm)
  clear HM_6
  clear hm
  clear hbm hw5 hBY
  have Y_9 := Lib.hid (hbx)
  clear hbx
  refine (Num_c _ v1 _ E1_8.out.now T_8.out.now).mono ?_
  rintro e w6 ⟨rfl, hb⟩
  have hbm : Below w5.heap.size w5 w6 := hb
  clear hb
  have hm : Mv No No w5 w6 := Mv.of_below hbm
  have T_10 := Lib.hid (T_8.out.step hm)
  clear T_8
  have E1_10 := Lib.hid (E1_8.out.step hm)
  clear E1_8
  have X_10 := Lib.hid (X_8.out.step hm)
  clear X_8
  have E2_10 := Lib.hid (E2_8.out.step hm)
  clear E2_8
  have Y_10 := Lib.hid (Y_9.out.step hm)
  clear Y_9
  have HM_10 := Lib.hid (HM_8.out.trans hm)
  clear HM_8
  clear hm
  clear hbm
  go_wp2_with fail
  go_ret
  exact ⟨rfl, HM_10.out.below⟩
set_option maxHeartbeats 4000000 in
set_option maxRecDepth 100000 in
theorem unlike_no2 (a b : Int) (s t : ByteArray) (hs : s.size ≤ 500) (ht : t.size ≤ 500) (h1 : frC a s = 0) (h2 : frC b t ≠ 0) (w : World) (tied : Tied w) : Calls Tryd.prog 6 #[.int .i64 a, .int .i64 b, .string s, .string t] w fun e w' => e = .returned (.bool true) ∧ Below w.heap.size w w' := by
  have hd : decide (500 < (s.size : Int)) = false := by simp; omega
  have hd2 : decide (500 < (t.size : Int)) = false := by simp; omega
  clear hs ht
  have HL1 := Lib.hid (fun w => lay_m a s w)
  have HL2 := Lib.hid (fun w => lay_m b t w)
  obtain ⟨c1, hc1⟩ : ∃ q, q = frC a s := ⟨_, rfl⟩
  obtain ⟨c2, hc2⟩ : ∃ q, q = frC b t := ⟨_, rfl⟩
  obtain ⟨p1, hp1⟩ : ∃ q, q = layP a s := ⟨_, rfl⟩
  obtain ⟨p2, hp2⟩ : ∃ q, q = layP b t := ⟨_, rfl⟩
  have P1 : Hid (p1.length = 128) := Lib.hid (by rw [hp1]; exact layP_length _ _)
  have P2 : Hid (p2.length = 128) := Lib.hid (by rw [hp2]; exact layP_length _ _)
  rw [← hc1, ← hp1] at HL1
  rw [← hc2, ← hp2] at HL2
  have hn1 : (c1 != 0) = false := by rw [hc1]; simpa using h1
  have hn2 : (c2 != 0) = true := by rw [hc2]; simpa using h2
  clear hp1 hp2 hc1 hc2 h1 h2
  have HM0 := Lib.hid (Mv.refl No w)
  have T0 := Lib.hid (Stays.tied tied)
  clear tied
  go_enter Tryd.func6, Tryd.ntmps6
  go_wp2_with fail
  refine (awake5 _ T0.out.now).mono ?_
  rintro e w1 ⟨rfl, hb⟩
  have hbm : Below w.heap.size w w1 := hb
  clear hb
  have hm : Mv No No w w1 := Mv.of_below hbm
  have T_1 := Lib.hid (T0.out.step hm)
  clear T0
  have HM_1 := Lib.hid (HM0.out.trans hm)
  clear HM0
  clear hm
  clear hbm
  go_wp2_with fail
  refine (HL1.out _).mono ?_
  rintro e w2 ⟨v1, rfl, he, hb⟩
  have hbm : Below w1.heap.size w1 w2 := hb
  clear hb
  have hm : Mv No No w1 w2 := Mv.of_below hbm
  have hst := Stays.err he (Wi.no _)
  clear he
  have T_2 := Lib.hid (T_1.out.step hm)
  clear T_1
  have HM_2 := Lib.hid (HM_1.out.trans hm)
  clear HM_1
  clear hm
  clear hbm
  have E1_3 := Lib.hid (hst)
  clear hst
  go_wp2_with (first | ((with_reducible refine at_al 36 ?_); refine al_pg rfl rfl ?_) | ((with_reducible refine at_st 36 (.tmp 9) (.tmp 30) ?_); refine st_new rfl _ _ rfl _ _ _ rfl rfl p1 ?_ rfl ?_ ?_; exact P1.out; exact zsz))
  obtain ⟨w3, hw3⟩ : ∃ q, q = w2.alloc (.cells (pv (p1)).toArray 36) := ⟨_, rfl⟩
  try rw [← hw3]
  have hbm : Below w2.heap.size w2 w3 := by rw [hw3]; exact (Below.refl _ _).alloc (Nat.le_refl _) _
  have hm : Mv No No w2 w3 := Mv.of_below hbm
  have hbx : Stays No w3 (fun W => PgAt W w2.heap.size (p1)) := Stays.box P1.out (Wi.no _) hw3
  obtain ⟨BX, hBX⟩ : ∃ q, q = w2.heap.size := ⟨_, rfl⟩
  try rw [← hBX]
  rw [← hBX] at hbx
  have T_4 := Lib.hid (T_2.out.step hm)
  clear T_2
  have E1_4 := Lib.hid (E1_3.out.step hm)
  clear E1_3
  have HM_4 := Lib.hid (HM_2.out.trans hm)
  clear HM_2
  clear hm
  clear hbm hw3 hBX
  have X_5 := Lib.hid (hbx)
  clear hbx
  refine (HL2.out _).mono ?_
  rintro e w4 ⟨v2, rfl, he, hb⟩
  have hbm : Below w3.heap.size w3 w4 := hb
  clear hb
  have hm : Mv No No w3 w4 := Mv.of_below hbm
  have hst := Stays.err he (Wi.no _)
  clear he
  have T_6 := Lib.hid (T_4.out.step hm)
  clear T_4
  have E1_6 := Lib.hid (E1_4.out.step hm)
  clear E1_4
  have X_6 := Lib.hid (X_5.out.step hm)
  clear X_5
  have HM_6 := Lib.hid (HM_4.out.trans hm)
  clear HM_4
  clear hm
  clear hbm
  have E2_7 := Lib.hid (hst)
  clear hst
  go_wp2_with (first | ((with_reducible refine at_al 36 ?_); refine al_pg rfl rfl ?_) | ((with_reducible refine at_st 36 (.tmp 11) (.tmp 36) ?_); refine st_new rfl _ _ rfl _ _ _ rfl rfl p2 ?_ rfl ?_ ?_; exact P2.out; exact zsz))
  obtain ⟨w5, hw5⟩ : ∃ q, q = w4.alloc (.cells (pv (p2)).toArray 36) := ⟨_, rfl⟩
  try rw [← hw5]
  have hbm : Below w4.heap.size w4 w5 := by rw [hw5]; exact (Below.refl _ _).alloc (Nat.le_refl _) _
  have hm : Mv No No w4 w5 := Mv.of_below hbm
  have hbx : Stays No w5 (fun W => PgAt W w4.heap.size (p2)) := Stays.box P2.out (Wi.no _) hw5
  obtain ⟨BY, hBY⟩ : ∃ q, q = w4.heap.size := ⟨_, rfl⟩
  try rw [← hBY]
  rw [← hBY] at hbx
  have T_8 := Lib.hid (T_6.out.step hm)
  clear T_6
  have E1_8 := Lib.hid (E1_6.out.step hm)
  clear E1_6
  have X_8 := Lib.hid (X_6.out.step hm)
  clear X_6
  have E2_8 := Lib.hid (E2_7.out.step hm)
  clear E2_7
  have HM_8 := Lib.hid (HM_6.out.trans hm)
  clear HM_6
  clear hm
  clear hbm hw5 hBY
  have Y_9 := Lib.hid (hbx)
  clear hbx
  refine (Num_c _ v1 _ E1_8.out.now T_8.out.now).mono ?_
  rintro e w6 ⟨rfl, hb⟩
  have hbm : Below w5.heap.size w5 w6 := hb
  clear hb
  have hm : Mv No No w5 w6 := Mv.of_below hbm
  have T_10 := Lib.hid (T_8.out.step hm)
  clear T_8
  have E1_10 := Lib.hid (E1_8.out.step hm)
  clear E1_8
  have X_10 := Lib.hid (X_8.out.step hm)
  clear X_8
  have E2_10 := Lib.hid (E2_8.out.step hm)
  clear E2_8
  have Y_10 := Lib.hid (Y_9.out.step hm)
  clear Y_9
  have HM_10 := Lib.hid (HM_8.out.trans hm)
  clear HM_8
  clear hm
  clear hbm
  go_wp2_with fail
  refine (Num_c _ v2 _ E2_10.out.now T_10.out.now).mono ?_
  rintro e w7 ⟨rfl, hb⟩
  have hbm : Below w6.heap.size w6 w7 := hb
  clear hb
  have hm : Mv No No w6 w7 := Mv.of_below hbm
  have T_11 := Lib.hid (T_10.out.step hm)
  clear T_10
  have E1_11 := Lib.hid (E1_10.out.step hm)
  clear E1_10
  have X_11 := Lib.hid (X_10.out.step hm)
  clear X_10
  have E2_11 := Lib.hid (E2_10.out.step hm)
  clear E2_10
  have Y_11 := Lib.hid (Y_10.out.step hm)
  clear Y_10
  have HM_11 := Lib.hid (HM_10.out.trans hm)
  clear HM_10
  clear hm
  clear hbm
  go_wp2_with fail
  go_ret
  exact ⟨rfl, HM_11.out.below⟩
set_option maxHeartbeats 4000000 in
set_option maxRecDepth 100000 in
theorem unlike_ok (a b : Int) (s t : ByteArray) (hs : s.size ≤ 500) (ht : t.size ≤ 500) (h1 : frC a s = 0) (h2 : frC b t = 0) (w : World) (tied : Tied w) : Calls Tryd.prog 6 #[.int .i64 a, .int .i64 b, .string s, .string t] w fun e w' => e = .returned (.bool true) ∧ Below w.heap.size w w' := by
  have hd : decide (500 < (s.size : Int)) = false := by simp; omega
  have hd2 : decide (500 < (t.size : Int)) = false := by simp; omega
  clear hs ht
  have HL1 := Lib.hid (fun w => lay_m a s w)
  have HL2 := Lib.hid (fun w => lay_m b t w)
  obtain ⟨c1, hc1⟩ : ∃ q, q = frC a s := ⟨_, rfl⟩
  obtain ⟨c2, hc2⟩ : ∃ q, q = frC b t := ⟨_, rfl⟩
  obtain ⟨p1, hp1⟩ : ∃ q, q = layP a s := ⟨_, rfl⟩
  obtain ⟨p2, hp2⟩ : ∃ q, q = layP b t := ⟨_, rfl⟩
  have P1 : Hid (p1.length = 128) := Lib.hid (by rw [hp1]; exact layP_length _ _)
  have P2 : Hid (p2.length = 128) := Lib.hid (by rw [hp2]; exact layP_length _ _)
  have he : (p1 == p2) = (decide (a = b) && decide (s = t)) := by
    have k := framP_inj a b s t h1 h2
    rw [hp1, hp2]; unfold layP; rw [if_pos h1, if_pos h2]
    by_cases e1 : a = b <;> by_cases e2 : s = t <;> simp [e1, e2] at k ⊢ <;> simp [k]
  rw [← hc1, ← hp1] at HL1
  rw [← hc2, ← hp2] at HL2
  have hn1 : (c1 != 0) = false := by rw [hc1]; simpa using h1
  have hn2 : (c2 != 0) = false := by rw [hc2]; simpa using h2
  clear hp1 hp2 hc1 hc2 h1 h2
  have HM0 := Lib.hid (Mv.refl No w)
  have T0 := Lib.hid (Stays.tied tied)
  clear tied
  go_enter Tryd.func6, Tryd.ntmps6
  go_wp2_with fail
  refine (awake5 _ T0.out.now).mono ?_
  rintro e w1 ⟨rfl, hb⟩
  have hbm : Below w.heap.size w w1 := hb
  clear hb
  have hm : Mv No No w w1 := Mv.of_below hbm
  have T_1 := Lib.hid (T0.out.step hm)
  clear T0
  have HM_1 := Lib.hid (HM0.out.trans hm)
  clear HM0
  clear hm
  clear hbm
  go_wp2_with fail
  refine (HL1.out _).mono ?_
  rintro e w2 ⟨v1, rfl, he, hb⟩
  have hbm : Below w1.heap.size w1 w2 := hb
  clear hb
  have hm : Mv No No w1 w2 := Mv.of_below hbm
  have hst := Stays.err he (Wi.no _)
  clear he
  have T_2 := Lib.hid (T_1.out.step hm)
  clear T_1
  have HM_2 := Lib.hid (HM_1.out.trans hm)
  clear HM_1
  clear hm
  clear hbm
  have E1_3 := Lib.hid (hst)
  clear hst
  go_wp2_with (first | ((with_reducible refine at_al 36 ?_); refine al_pg rfl rfl ?_) | ((with_reducible refine at_st 36 (.tmp 9) (.tmp 30) ?_); refine st_new rfl _ _ rfl _ _ _ rfl rfl p1 ?_ rfl ?_ ?_; exact P1.out; exact zsz))
  obtain ⟨w3, hw3⟩ : ∃ q, q = w2.alloc (.cells (pv (p1)).toArray 36) := ⟨_, rfl⟩
  try rw [← hw3]
  have hbm : Below w2.heap.size w2 w3 := by rw [hw3]; exact (Below.refl _ _).alloc (Nat.le_refl _) _
  have hm : Mv No No w2 w3 := Mv.of_below hbm
  have hbx : Stays No w3 (fun W => PgAt W w2.heap.size (p1)) := Stays.box P1.out (Wi.no _) hw3
  obtain ⟨BX, hBX⟩ : ∃ q, q = w2.heap.size := ⟨_, rfl⟩
  try rw [← hBX]
  rw [← hBX] at hbx
  have T_4 := Lib.hid (T_2.out.step hm)
  clear T_2
  have E1_4 := Lib.hid (E1_3.out.step hm)
  clear E1_3
  have HM_4 := Lib.hid (HM_2.out.trans hm)
  clear HM_2
  clear hm
  clear hbm hw3 hBX
  have X_5 := Lib.hid (hbx)
  clear hbx
  refine (HL2.out _).mono ?_
  rintro e w4 ⟨v2, rfl, he, hb⟩
  have hbm : Below w3.heap.size w3 w4 := hb
  clear hb
  have hm : Mv No No w3 w4 := Mv.of_below hbm
  have hst := Stays.err he (Wi.no _)
  clear he
  have T_6 := Lib.hid (T_4.out.step hm)
  clear T_4
  have E1_6 := Lib.hid (E1_4.out.step hm)
  clear E1_4
  have X_6 := Lib.hid (X_5.out.step hm)
  clear X_5
  have HM_6 := Lib.hid (HM_4.out.trans hm)
  clear HM_4
  clear hm
  clear hbm
  have E2_7 := Lib.hid (hst)
  clear hst
  go_wp2_with (first | ((with_reducible refine at_al 36 ?_); refine al_pg rfl rfl ?_) | ((with_reducible refine at_st 36 (.tmp 11) (.tmp 36) ?_); refine st_new rfl _ _ rfl _ _ _ rfl rfl p2 ?_ rfl ?_ ?_; exact P2.out; exact zsz))
  obtain ⟨w5, hw5⟩ : ∃ q, q = w4.alloc (.cells (pv (p2)).toArray 36) := ⟨_, rfl⟩
  try rw [← hw5]
  have hbm : Below w4.heap.size w4 w5 := by rw [hw5]; exact (Below.refl _ _).alloc (Nat.le_refl _) _
  have hm : Mv No No w4 w5 := Mv.of_below hbm
  have hbx : Stays No w5 (fun W => PgAt W w4.heap.size (p2)) := Stays.box P2.out (Wi.no _) hw5
  obtain ⟨BY, hBY⟩ : ∃ q, q = w4.heap.size := ⟨_, rfl⟩
  try rw [← hBY]
  rw [← hBY] at hbx
  have T_8 := Lib.hid (T_6.out.step hm)
  clear T_6
  have E1_8 := Lib.hid (E1_6.out.step hm)
  clear E1_6
  have X_8 := Lib.hid (X_6.out.step hm)
  clear X_6
  have E2_8 := Lib.hid (E2_7.out.step hm)
  clear E2_7
  have HM_8 := Lib.hid (HM_6.out.trans hm)
  clear HM_6
  clear hm
  clear hbm hw5 hBY
  have Y_9 := Lib.hid (hbx)
  clear hbx
  refine (Num_c _ v1 _ E1_8.out.now T_8.out.now).mono ?_
  rintro e w6 ⟨rfl, hb⟩
  have hbm : Below w5.heap.size w5 w6 := hb
  clear hb
  have hm : Mv No No w5 w6 := Mv.of_below hbm
  have T_10 := Lib.hid (T_8.out.step hm)
  clear T_8
  have E1_10 := Lib.hid (E1_8.out.step hm)
  clear E1_8
  have X_10 := Lib.hid (X_8.out.step hm)
  clear X_8
  have E2_10 := Lib.hid (E2_8.out.step hm)
  clear E2_8
  have Y_10 := Lib.hid (Y_9.out.step hm)
  clear Y_9
  have HM_10 := Lib.hid (HM_8.out.trans hm)
  clear HM_8
  clear hm
  clear hbm
  go_wp2_with fail
  refine (Num_c _ v2 _ E2_10.out.now T_10.out.now).mono ?_
  rintro e w7 ⟨rfl, hb⟩
  have hbm : Below w6.heap.size w6 w7 := hb
  clear hb
  have hm : Mv No No w6 w7 := Mv.of_below hbm
  have T_11 := Lib.hid (T_10.out.step hm)
  clear T_10
  have E1_11 := Lib.hid (E1_10.out.step hm)
  clear E1_10
  have X_11 := Lib.hid (X_10.out.step hm)
  clear X_10
  have E2_11 := Lib.hid (E2_10.out.step hm)
  clear E2_10
  have Y_11 := Lib.hid (Y_10.out.step hm)
  clear Y_10
  have HM_11 := Lib.hid (HM_10.out.trans hm)
  clear HM_10
  clear hm
  clear hbm
  by_cases ea : a = b
  · have eaz : (a == b) = true := by simpa using ea
    by_cases es : s = t
    · have esz := str_eq es
      rw [show decide (a = b) = true by simpa using ea, show decide (s = t) = true by simpa using es] at he
      simp only [Bool.and_self, Bool.and_true, Bool.and_false, Bool.true_and, Bool.false_and] at he
      clear ea es
      go_wp2_with (first | ((with_reducible refine at_ld 36 (.tmp 9) ?_); refine ld_pg rfl _ rfl BX (0) rfl p1 ?_ ?_ ?_; exact P1.out; exact (X_11.out.now).r) | ((with_reducible refine at_ld 36 (.tmp 11) ?_); refine ld_pg rfl _ rfl BY (0) rfl p2 ?_ ?_ ?_; exact P2.out; exact (Y_11.out.now).r) | ((with_reducible refine at_bin .eql 36 (.tmp 46) (.tmp 47) ?_); refine eqw_pg (by first | rfl | go_simp) (.tmp 46) (.tmp 47) rfl p1 p2 ?_ ?_ ?_ ?_ ?_; rfl; rfl; exact P1.out; exact P2.out))
      go_ret
      exact ⟨rfl, HM_11.out.below⟩
    · have esz := str_ne es
      rw [show decide (a = b) = true by simpa using ea, show decide (s = t) = false by simpa using es] at he
      simp only [Bool.and_self, Bool.and_true, Bool.and_false, Bool.true_and, Bool.false_and] at he
      clear ea es
      go_wp2_with (first | ((with_reducible refine at_ld 36 (.tmp 9) ?_); refine ld_pg rfl _ rfl BX (0) rfl p1 ?_ ?_ ?_; exact P1.out; exact (X_11.out.now).r) | ((with_reducible refine at_ld 36 (.tmp 11) ?_); refine ld_pg rfl _ rfl BY (0) rfl p2 ?_ ?_ ?_; exact P2.out; exact (Y_11.out.now).r) | ((with_reducible refine at_bin .eql 36 (.tmp 46) (.tmp 47) ?_); refine eqw_pg (by first | rfl | go_simp) (.tmp 46) (.tmp 47) rfl p1 p2 ?_ ?_ ?_ ?_ ?_; rfl; rfl; exact P1.out; exact P2.out))
      go_ret
      exact ⟨rfl, HM_11.out.below⟩
  · have eaz : (a == b) = false := by simpa using ea
    rw [show decide (a = b) = false by simpa using ea, Bool.false_and] at he
    clear ea
    go_wp2_with (first | ((with_reducible refine at_ld 36 (.tmp 9) ?_); refine ld_pg rfl _ rfl BX (0) rfl p1 ?_ ?_ ?_; exact P1.out; exact (X_11.out.now).r) | ((with_reducible refine at_ld 36 (.tmp 11) ?_); refine ld_pg rfl _ rfl BY (0) rfl p2 ?_ ?_ ?_; exact P2.out; exact (Y_11.out.now).r) | ((with_reducible refine at_bin .eql 36 (.tmp 46) (.tmp 47) ?_); refine eqw_pg (by first | rfl | go_simp) (.tmp 46) (.tmp 47) rfl p1 p2 ?_ ?_ ?_ ?_ ?_; rfl; rfl; exact P1.out; exact P2.out))
    go_ret
    exact ⟨rfl, HM_11.out.below⟩
theorem unlike_walk (a b : Int) (s t : ByteArray) (w : World) (wa : (Lit.int .i64 a).wf = true) (wb : (Lit.int .i64 b).wf = true) (ws : s.size ≤ 140737488351232) (wt : t.size ≤ 140737488351232) (tied : Tied w) : Calls Tryd.prog 6 #[.int .i64 a, .int .i64 b, .string s, .string t] w fun e w' => e = .returned (.bool true) ∧ Below w.heap.size w w' := by
  by_cases hs : 500 < s.size
  · exact unlike_big a b s t (.inl hs) w tied
  by_cases ht : 500 < t.size
  · exact unlike_big a b s t (.inr ht) w tied
  by_cases h1 : frC a s = 0
  · by_cases h2 : frC b t = 0
    · exact unlike_ok a b s t (by omega) (by omega) h1 h2 w tied
    · exact unlike_no2 a b s t (by omega) (by omega) h1 h2 w tied
  · exact unlike_no1 a b s t (by omega) (by omega) h1 w tied
end Go.Proofs.YtmnkgcgmbdkjaaaDoor
