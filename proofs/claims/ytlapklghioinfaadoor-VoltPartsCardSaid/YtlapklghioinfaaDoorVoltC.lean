/- The laws of layer 19: more walks. -/
import Derived.Test.YtlapklghioinfaaDoorVoltB
import Derived.Deep.RegionHeld3
namespace Go.Proofs.YtlapklghioinfaaDoor
open Go.RowKit Go.Extern.Stop Go.Stop Go.Extern
set_option linter.unusedVariables false
set_option linter.unusedSimpArgs false

set_option maxHeartbeats 2000000 in
theorem parts_ok (ch a b x m1 m : Int) (p0 : 0 ≤ ch) (p1 : ch ≤ 255) (p2 : 0 ≤ a) (p3 : a ≤ 255) (p4 : 0 ≤ b) (p5 : b ≤ 255) (q0 : 0 ≤ x) (q1 : x ≤ 200) (r0 : a ≤ x) (r1 : a + b ≤ x) (hx : ch % 201 = x) (hm1 : Hid (min a (200 - x) = m1)) (hm : Hid (min (a + b) (200 - x) = m)) (w : World) (tied : Tied w) :
    Calls Tryd.prog 7 #[.int .u8 ch, .int .u8 a, .int .u8 b] w fun e w' => e = .returned (.bool true) ∧ Below w.heap.size w w' := by
  have h1 : Hid (spendR x 0 0 0 a = ⟨0, x - a, a, 0, 0⟩) := by
    have h := spendR_ok (c := x) (s := 0) (g := 0) (d := 0) ((rightB_iff _ _ _ _).2 (by omega)) p2 r0 ((rightB_iff _ _ _ _).2 (by omega))
    rw [Int.zero_add] at h; exact h
  have h2 : Hid (spendR (x - a) a 0 0 b = ⟨0, x - (a + b), a + b, 0, 0⟩) := by
    have h := spendR_ok (c := x - a) (s := a) (g := 0) (d := 0) ((rightB_iff _ _ _ _).2 (by omega)) p4 (by omega) ((rightB_iff _ _ _ _).2 (by omega))
    rw [show x - a - b = x - (a + b) by omega] at h; exact h
  have h3 : Hid (spendR x 0 0 0 (a + b) = ⟨0, x - (a + b), a + b, 0, 0⟩) := by
    have h := spendR_ok (c := x) (s := 0) (g := 0) (d := 0) (n := a + b) ((rightB_iff _ _ _ _).2 (by omega)) (by omega) r1 ((rightB_iff _ _ _ _).2 (by omega))
    rw [Int.zero_add] at h; exact h
  have g1 : Hid (gainR x 0 0 0 a = ⟨0, x + m1, 0, m1, 0⟩) := by
    have h := gainR_ok (c := x) (s := 0) (g := 0) (d := 0) (n := a) ((rightB_iff _ _ _ _).2 (by omega)) p2 ((rightB_iff _ _ _ _).2 (by omega))
    rw [hm1.out, Int.zero_add] at h; exact h
  have g2 : Hid (gainR (x + m1) 0 m1 0 b = ⟨0, x + m, 0, m, 0⟩) := by
    have h' := hm.out
    have h1' := hm1.out
    have h := gainR_ok (c := x + m1) (s := 0) (g := m1) (d := 0) (n := b) ((rightB_iff _ _ _ _).2 (by omega)) p4 ((rightB_iff _ _ _ _).2 (by omega))
    rw [show x + m1 + min b (200 - (x + m1)) = x + m by omega, show m1 + min b (200 - (x + m1)) = m by omega] at h; exact h
  have g3 : Hid (gainR x 0 0 0 (a + b) = ⟨0, x + m, 0, m, 0⟩) := by
    have h := gainR_ok (c := x) (s := 0) (g := 0) (d := 0) (n := a + b) ((rightB_iff _ _ _ _).2 (by omega)) (by omega) ((rightB_iff _ _ _ _).2 (by omega))
    rw [hm.out, Int.zero_add] at h; exact h
  clear hm hm1
  have HB0 := Lib.hid (Below.refl w.heap.size w)
  have T := Lib.hid tied
  clear tied
  go_enter Tryd.func7, Tryd.ntmps7
  go_wp2_with fail
  refine (volt_awake _ (by exact (T.out.under T.out.lt (by repeat (first | exact HB0.out | exact Below.refl _ _ | refine Below.alloc ?_ (by first | omega | (simp; done) | (simp; omega)) _ | refine Below.setCell ?_ (by first | omega | (simp; done) | (simp; omega)) _))))).mono ?_
  rintro e w1 ⟨rfl, hb⟩
  have HB1 := Lib.hid (Below.trans (B := w.heap.size) (a := w) (by repeat (first | exact HB0.out | exact Below.refl _ _ | refine Below.alloc ?_ (by first | omega | (simp; done) | (simp; omega)) _ | refine Below.setCell ?_ (by first | omega | (simp; done) | (simp; omega)) _)) (hb.mono (by first | omega | (simp; done) | (simp; omega))))
  have hz1 := hb.size
  try simp at hz1
  obtain ⟨hc1, hf1⟩ := bcell hb
  clear hb
  try have hl_wheapsize_w1 : w.heap.size < w1.heap.size := by omega
  try have hm_wheapsize_w1 : w.heap.size ≤ w1.heap.size := by omega
  go_wp2_with fail
  refine (volt_spend_eq h1.out _).mono ?_
  rintro e w2 ⟨v1, rfl, hr, hb⟩
  have HB2 := Lib.hid (Below.trans (B := w.heap.size) (a := w) (by repeat (first | exact HB1.out | exact Below.refl _ _ | refine Below.alloc ?_ (by first | omega | (simp; done) | (simp; omega)) _ | refine Below.setCell ?_ (by first | omega | (simp; done) | (simp; omega)) _)) (hb.mono (by first | omega | (simp; done) | (simp; omega))))
  have hz2 := hb.size
  try simp at hz2
  obtain ⟨hc2, hf2⟩ := bcell hb
  obtain ⟨BE1, hr, hBE1⟩ := err_at hr
  try simp at hBE1
  have E1_2 := Lib.hid hr
  clear hr
  clear hb
  try have hl_wheapsize_w2 : w.heap.size < w2.heap.size := by omega
  try have hm_wheapsize_w2 : w.heap.size ≤ w2.heap.size := by omega
  try have hl_w1heapsize_w2 : w1.heap.size < w2.heap.size := by omega
  try have hm_w1heapsize_w2 : w1.heap.size ≤ w2.heap.size := by omega
  go_wp2_with fail
  refine (volt_spend_eq h2.out _).mono ?_
  rintro e w3 ⟨v2, rfl, hr, hb⟩
  have HB3 := Lib.hid (Below.trans (B := w.heap.size) (a := w) (by repeat (first | exact HB2.out | exact Below.refl _ _ | refine Below.alloc ?_ (by first | omega | (simp; done) | (simp; omega)) _ | refine Below.setCell ?_ (by first | omega | (simp; done) | (simp; omega)) _)) (hb.mono (by first | omega | (simp; done) | (simp; omega))))
  have hz3 := hb.size
  try simp at hz3
  have E1_3 := Lib.hid (ErrR.under (B := BE1) (v := v1) (n := 0) (by repeat (first | exact E1_2.out | refine ErrR.alloc ?_ _ | refine ErrR.setCell ?_ (by first | omega | (simp; done) | (simp; omega)) _)) hb)
  clear E1_2
  obtain ⟨hc3, hf3⟩ := bcell hb
  obtain ⟨BE2, hr, hBE2⟩ := err_at hr
  try simp at hBE2
  have E2_3 := Lib.hid hr
  clear hr
  clear hb
  try have hl_wheapsize_w3 : w.heap.size < w3.heap.size := by omega
  try have hm_wheapsize_w3 : w.heap.size ≤ w3.heap.size := by omega
  try have hl_w1heapsize_w3 : w1.heap.size < w3.heap.size := by omega
  try have hm_w1heapsize_w3 : w1.heap.size ≤ w3.heap.size := by omega
  try have hl_w2heapsize_w3 : w2.heap.size < w3.heap.size := by omega
  try have hm_w2heapsize_w3 : w2.heap.size ≤ w3.heap.size := by omega
  go_wp2_with fail
  refine (volt_spend_eq h3.out _).mono ?_
  rintro e w4 ⟨v3, rfl, hr, hb⟩
  have HB4 := Lib.hid (Below.trans (B := w.heap.size) (a := w) (by repeat (first | exact HB3.out | exact Below.refl _ _ | refine Below.alloc ?_ (by first | omega | (simp; done) | (simp; omega)) _ | refine Below.setCell ?_ (by first | omega | (simp; done) | (simp; omega)) _)) (hb.mono (by first | omega | (simp; done) | (simp; omega))))
  have hz4 := hb.size
  try simp at hz4
  have E1_4 := Lib.hid (ErrR.under (B := BE1) (v := v1) (n := 0) (by repeat (first | exact E1_3.out | refine ErrR.alloc ?_ _ | refine ErrR.setCell ?_ (by first | omega | (simp; done) | (simp; omega)) _)) hb)
  clear E1_3
  have E2_4 := Lib.hid (ErrR.under (B := BE2) (v := v2) (n := 0) (by repeat (first | exact E2_3.out | refine ErrR.alloc ?_ _ | refine ErrR.setCell ?_ (by first | omega | (simp; done) | (simp; omega)) _)) hb)
  clear E2_3
  obtain ⟨hc4, hf4⟩ := bcell hb
  obtain ⟨BE3, hr, hBE3⟩ := err_at hr
  try simp at hBE3
  have E3_4 := Lib.hid hr
  clear hr
  clear hb
  try have hl_wheapsize_w4 : w.heap.size < w4.heap.size := by omega
  try have hm_wheapsize_w4 : w.heap.size ≤ w4.heap.size := by omega
  try have hl_w1heapsize_w4 : w1.heap.size < w4.heap.size := by omega
  try have hm_w1heapsize_w4 : w1.heap.size ≤ w4.heap.size := by omega
  try have hl_w2heapsize_w4 : w2.heap.size < w4.heap.size := by omega
  try have hm_w2heapsize_w4 : w2.heap.size ≤ w4.heap.size := by omega
  try have hl_w3heapsize_w4 : w3.heap.size < w4.heap.size := by omega
  try have hm_w3heapsize_w4 : w3.heap.size ≤ w4.heap.size := by omega
  go_wp2_with fail
  refine (Num_any (B := BE1) _ v1 0 (by exact (by repeat (first | exact E1_4.out | refine ErrR.alloc ?_ _ | refine ErrR.setCell ?_ (by first | omega | (simp; done) | (simp; omega)) _))) (by exact (T.out.under T.out.lt (by repeat (first | exact HB4.out | exact Below.refl _ _ | refine Below.alloc ?_ (by first | omega | (simp; done) | (simp; omega)) _ | refine Below.setCell ?_ (by first | omega | (simp; done) | (simp; omega)) _))))).mono ?_
  rintro e w5 ⟨rfl, hb⟩
  have HB5 := Lib.hid (Below.trans (B := w.heap.size) (a := w) (by repeat (first | exact HB4.out | exact Below.refl _ _ | refine Below.alloc ?_ (by first | omega | (simp; done) | (simp; omega)) _ | refine Below.setCell ?_ (by first | omega | (simp; done) | (simp; omega)) _)) (hb.mono (by first | omega | (simp; done) | (simp; omega))))
  have hz5 := hb.size
  try simp at hz5
  have E1_5 := Lib.hid (ErrR.under (B := BE1) (v := v1) (n := 0) (by repeat (first | exact E1_4.out | refine ErrR.alloc ?_ _ | refine ErrR.setCell ?_ (by first | omega | (simp; done) | (simp; omega)) _)) hb)
  clear E1_4
  have E2_5 := Lib.hid (ErrR.under (B := BE2) (v := v2) (n := 0) (by repeat (first | exact E2_4.out | refine ErrR.alloc ?_ _ | refine ErrR.setCell ?_ (by first | omega | (simp; done) | (simp; omega)) _)) hb)
  clear E2_4
  have E3_5 := Lib.hid (ErrR.under (B := BE3) (v := v3) (n := 0) (by repeat (first | exact E3_4.out | refine ErrR.alloc ?_ _ | refine ErrR.setCell ?_ (by first | omega | (simp; done) | (simp; omega)) _)) hb)
  clear E3_4
  obtain ⟨hc5, hf5⟩ := bcell hb
  clear hb
  try have hl_wheapsize_w5 : w.heap.size < w5.heap.size := by omega
  try have hm_wheapsize_w5 : w.heap.size ≤ w5.heap.size := by omega
  try have hl_w1heapsize_w5 : w1.heap.size < w5.heap.size := by omega
  try have hm_w1heapsize_w5 : w1.heap.size ≤ w5.heap.size := by omega
  try have hl_w2heapsize_w5 : w2.heap.size < w5.heap.size := by omega
  try have hm_w2heapsize_w5 : w2.heap.size ≤ w5.heap.size := by omega
  try have hl_w3heapsize_w5 : w3.heap.size < w5.heap.size := by omega
  try have hm_w3heapsize_w5 : w3.heap.size ≤ w5.heap.size := by omega
  try have hl_w4heapsize_w5 : w4.heap.size < w5.heap.size := by omega
  try have hm_w4heapsize_w5 : w4.heap.size ≤ w5.heap.size := by omega
  go_wp2_with fail
  refine (Num_any (B := BE2) _ v2 0 (by exact (by repeat (first | exact E2_5.out | refine ErrR.alloc ?_ _ | refine ErrR.setCell ?_ (by first | omega | (simp; done) | (simp; omega)) _))) (by exact (T.out.under T.out.lt (by repeat (first | exact HB5.out | exact Below.refl _ _ | refine Below.alloc ?_ (by first | omega | (simp; done) | (simp; omega)) _ | refine Below.setCell ?_ (by first | omega | (simp; done) | (simp; omega)) _))))).mono ?_
  rintro e w6 ⟨rfl, hb⟩
  have HB6 := Lib.hid (Below.trans (B := w.heap.size) (a := w) (by repeat (first | exact HB5.out | exact Below.refl _ _ | refine Below.alloc ?_ (by first | omega | (simp; done) | (simp; omega)) _ | refine Below.setCell ?_ (by first | omega | (simp; done) | (simp; omega)) _)) (hb.mono (by first | omega | (simp; done) | (simp; omega))))
  have hz6 := hb.size
  try simp at hz6
  have E1_6 := Lib.hid (ErrR.under (B := BE1) (v := v1) (n := 0) (by repeat (first | exact E1_5.out | refine ErrR.alloc ?_ _ | refine ErrR.setCell ?_ (by first | omega | (simp; done) | (simp; omega)) _)) hb)
  clear E1_5
  have E2_6 := Lib.hid (ErrR.under (B := BE2) (v := v2) (n := 0) (by repeat (first | exact E2_5.out | refine ErrR.alloc ?_ _ | refine ErrR.setCell ?_ (by first | omega | (simp; done) | (simp; omega)) _)) hb)
  clear E2_5
  have E3_6 := Lib.hid (ErrR.under (B := BE3) (v := v3) (n := 0) (by repeat (first | exact E3_5.out | refine ErrR.alloc ?_ _ | refine ErrR.setCell ?_ (by first | omega | (simp; done) | (simp; omega)) _)) hb)
  clear E3_5
  obtain ⟨hc6, hf6⟩ := bcell hb
  clear hb
  try have hl_wheapsize_w6 : w.heap.size < w6.heap.size := by omega
  try have hm_wheapsize_w6 : w.heap.size ≤ w6.heap.size := by omega
  try have hl_w1heapsize_w6 : w1.heap.size < w6.heap.size := by omega
  try have hm_w1heapsize_w6 : w1.heap.size ≤ w6.heap.size := by omega
  try have hl_w2heapsize_w6 : w2.heap.size < w6.heap.size := by omega
  try have hm_w2heapsize_w6 : w2.heap.size ≤ w6.heap.size := by omega
  try have hl_w3heapsize_w6 : w3.heap.size < w6.heap.size := by omega
  try have hm_w3heapsize_w6 : w3.heap.size ≤ w6.heap.size := by omega
  try have hl_w4heapsize_w6 : w4.heap.size < w6.heap.size := by omega
  try have hm_w4heapsize_w6 : w4.heap.size ≤ w6.heap.size := by omega
  try have hl_w5heapsize_w6 : w5.heap.size < w6.heap.size := by omega
  try have hm_w5heapsize_w6 : w5.heap.size ≤ w6.heap.size := by omega
  clear E2_6
  go_wp2_with fail
  refine (Num_any (B := BE3) _ v3 0 (by exact (by repeat (first | exact E3_6.out | refine ErrR.alloc ?_ _ | refine ErrR.setCell ?_ (by first | omega | (simp; done) | (simp; omega)) _))) (by exact (T.out.under T.out.lt (by repeat (first | exact HB6.out | exact Below.refl _ _ | refine Below.alloc ?_ (by first | omega | (simp; done) | (simp; omega)) _ | refine Below.setCell ?_ (by first | omega | (simp; done) | (simp; omega)) _))))).mono ?_
  rintro e w7 ⟨rfl, hb⟩
  have HB7 := Lib.hid (Below.trans (B := w.heap.size) (a := w) (by repeat (first | exact HB6.out | exact Below.refl _ _ | refine Below.alloc ?_ (by first | omega | (simp; done) | (simp; omega)) _ | refine Below.setCell ?_ (by first | omega | (simp; done) | (simp; omega)) _)) (hb.mono (by first | omega | (simp; done) | (simp; omega))))
  have hz7 := hb.size
  try simp at hz7
  have E1_7 := Lib.hid (ErrR.under (B := BE1) (v := v1) (n := 0) (by repeat (first | exact E1_6.out | refine ErrR.alloc ?_ _ | refine ErrR.setCell ?_ (by first | omega | (simp; done) | (simp; omega)) _)) hb)
  clear E1_6
  have E3_7 := Lib.hid (ErrR.under (B := BE3) (v := v3) (n := 0) (by repeat (first | exact E3_6.out | refine ErrR.alloc ?_ _ | refine ErrR.setCell ?_ (by first | omega | (simp; done) | (simp; omega)) _)) hb)
  clear E3_6
  obtain ⟨hc7, hf7⟩ := bcell hb
  clear hb
  try have hl_wheapsize_w7 : w.heap.size < w7.heap.size := by omega
  try have hm_wheapsize_w7 : w.heap.size ≤ w7.heap.size := by omega
  try have hl_w1heapsize_w7 : w1.heap.size < w7.heap.size := by omega
  try have hm_w1heapsize_w7 : w1.heap.size ≤ w7.heap.size := by omega
  try have hl_w2heapsize_w7 : w2.heap.size < w7.heap.size := by omega
  try have hm_w2heapsize_w7 : w2.heap.size ≤ w7.heap.size := by omega
  try have hl_w3heapsize_w7 : w3.heap.size < w7.heap.size := by omega
  try have hm_w3heapsize_w7 : w3.heap.size ≤ w7.heap.size := by omega
  try have hl_w4heapsize_w7 : w4.heap.size < w7.heap.size := by omega
  try have hm_w4heapsize_w7 : w4.heap.size ≤ w7.heap.size := by omega
  try have hl_w5heapsize_w7 : w5.heap.size < w7.heap.size := by omega
  try have hm_w5heapsize_w7 : w5.heap.size ≤ w7.heap.size := by omega
  try have hl_w6heapsize_w7 : w6.heap.size < w7.heap.size := by omega
  try have hm_w6heapsize_w7 : w6.heap.size ≤ w7.heap.size := by omega
  go_wp2_with fail
  refine (volt_gain_eq g1.out _).mono ?_
  rintro e w8 ⟨v4, rfl, hr, hb⟩
  have HB8 := Lib.hid (Below.trans (B := w.heap.size) (a := w) (by repeat (first | exact HB7.out | exact Below.refl _ _ | refine Below.alloc ?_ (by first | omega | (simp; done) | (simp; omega)) _ | refine Below.setCell ?_ (by first | omega | (simp; done) | (simp; omega)) _)) (hb.mono (by first | omega | (simp; done) | (simp; omega))))
  have hz8 := hb.size
  try simp at hz8
  have E1_8 := Lib.hid (ErrR.under (B := BE1) (v := v1) (n := 0) (by repeat (first | exact E1_7.out | refine ErrR.alloc ?_ _ | refine ErrR.setCell ?_ (by first | omega | (simp; done) | (simp; omega)) _)) hb)
  clear E1_7
  have E3_8 := Lib.hid (ErrR.under (B := BE3) (v := v3) (n := 0) (by repeat (first | exact E3_7.out | refine ErrR.alloc ?_ _ | refine ErrR.setCell ?_ (by first | omega | (simp; done) | (simp; omega)) _)) hb)
  clear E3_7
  obtain ⟨hc8, hf8⟩ := bcell hb
  obtain ⟨BE4, hr, hBE4⟩ := err_at hr
  try simp at hBE4
  have E4_8 := Lib.hid hr
  clear hr
  clear hb
  try have hl_wheapsize_w8 : w.heap.size < w8.heap.size := by omega
  try have hm_wheapsize_w8 : w.heap.size ≤ w8.heap.size := by omega
  try have hl_w1heapsize_w8 : w1.heap.size < w8.heap.size := by omega
  try have hm_w1heapsize_w8 : w1.heap.size ≤ w8.heap.size := by omega
  try have hl_w2heapsize_w8 : w2.heap.size < w8.heap.size := by omega
  try have hm_w2heapsize_w8 : w2.heap.size ≤ w8.heap.size := by omega
  try have hl_w3heapsize_w8 : w3.heap.size < w8.heap.size := by omega
  try have hm_w3heapsize_w8 : w3.heap.size ≤ w8.heap.size := by omega
  try have hl_w4heapsize_w8 : w4.heap.size < w8.heap.size := by omega
  try have hm_w4heapsize_w8 : w4.heap.size ≤ w8.heap.size := by omega
  try have hl_w5heapsize_w8 : w5.heap.size < w8.heap.size := by omega
  try have hm_w5heapsize_w8 : w5.heap.size ≤ w8.heap.size := by omega
  try have hl_w6heapsize_w8 : w6.heap.size < w8.heap.size := by omega
  try have hm_w6heapsize_w8 : w6.heap.size ≤ w8.heap.size := by omega
  try have hl_w7heapsize_w8 : w7.heap.size < w8.heap.size := by omega
  try have hm_w7heapsize_w8 : w7.heap.size ≤ w8.heap.size := by omega
  go_wp2_with fail
  refine (volt_gain_eq g2.out _).mono ?_
  rintro e w9 ⟨v5, rfl, hr, hb⟩
  have HB9 := Lib.hid (Below.trans (B := w.heap.size) (a := w) (by repeat (first | exact HB8.out | exact Below.refl _ _ | refine Below.alloc ?_ (by first | omega | (simp; done) | (simp; omega)) _ | refine Below.setCell ?_ (by first | omega | (simp; done) | (simp; omega)) _)) (hb.mono (by first | omega | (simp; done) | (simp; omega))))
  have hz9 := hb.size
  try simp at hz9
  have E1_9 := Lib.hid (ErrR.under (B := BE1) (v := v1) (n := 0) (by repeat (first | exact E1_8.out | refine ErrR.alloc ?_ _ | refine ErrR.setCell ?_ (by first | omega | (simp; done) | (simp; omega)) _)) hb)
  clear E1_8
  have E3_9 := Lib.hid (ErrR.under (B := BE3) (v := v3) (n := 0) (by repeat (first | exact E3_8.out | refine ErrR.alloc ?_ _ | refine ErrR.setCell ?_ (by first | omega | (simp; done) | (simp; omega)) _)) hb)
  clear E3_8
  have E4_9 := Lib.hid (ErrR.under (B := BE4) (v := v4) (n := 0) (by repeat (first | exact E4_8.out | refine ErrR.alloc ?_ _ | refine ErrR.setCell ?_ (by first | omega | (simp; done) | (simp; omega)) _)) hb)
  clear E4_8
  obtain ⟨hc9, hf9⟩ := bcell hb
  obtain ⟨BE5, hr, hBE5⟩ := err_at hr
  try simp at hBE5
  have E5_9 := Lib.hid hr
  clear hr
  clear hb
  try have hl_wheapsize_w9 : w.heap.size < w9.heap.size := by omega
  try have hm_wheapsize_w9 : w.heap.size ≤ w9.heap.size := by omega
  try have hl_w1heapsize_w9 : w1.heap.size < w9.heap.size := by omega
  try have hm_w1heapsize_w9 : w1.heap.size ≤ w9.heap.size := by omega
  try have hl_w2heapsize_w9 : w2.heap.size < w9.heap.size := by omega
  try have hm_w2heapsize_w9 : w2.heap.size ≤ w9.heap.size := by omega
  try have hl_w3heapsize_w9 : w3.heap.size < w9.heap.size := by omega
  try have hm_w3heapsize_w9 : w3.heap.size ≤ w9.heap.size := by omega
  try have hl_w4heapsize_w9 : w4.heap.size < w9.heap.size := by omega
  try have hm_w4heapsize_w9 : w4.heap.size ≤ w9.heap.size := by omega
  try have hl_w5heapsize_w9 : w5.heap.size < w9.heap.size := by omega
  try have hm_w5heapsize_w9 : w5.heap.size ≤ w9.heap.size := by omega
  try have hl_w6heapsize_w9 : w6.heap.size < w9.heap.size := by omega
  try have hm_w6heapsize_w9 : w6.heap.size ≤ w9.heap.size := by omega
  try have hl_w7heapsize_w9 : w7.heap.size < w9.heap.size := by omega
  try have hm_w7heapsize_w9 : w7.heap.size ≤ w9.heap.size := by omega
  try have hl_w8heapsize_w9 : w8.heap.size < w9.heap.size := by omega
  try have hm_w8heapsize_w9 : w8.heap.size ≤ w9.heap.size := by omega
  go_wp2_with fail
  refine (volt_gain_eq g3.out _).mono ?_
  rintro e w10 ⟨v6, rfl, hr, hb⟩
  have HB10 := Lib.hid (Below.trans (B := w.heap.size) (a := w) (by repeat (first | exact HB9.out | exact Below.refl _ _ | refine Below.alloc ?_ (by first | omega | (simp; done) | (simp; omega)) _ | refine Below.setCell ?_ (by first | omega | (simp; done) | (simp; omega)) _)) (hb.mono (by first | omega | (simp; done) | (simp; omega))))
  have hz10 := hb.size
  try simp at hz10
  have E1_10 := Lib.hid (ErrR.under (B := BE1) (v := v1) (n := 0) (by repeat (first | exact E1_9.out | refine ErrR.alloc ?_ _ | refine ErrR.setCell ?_ (by first | omega | (simp; done) | (simp; omega)) _)) hb)
  clear E1_9
  have E3_10 := Lib.hid (ErrR.under (B := BE3) (v := v3) (n := 0) (by repeat (first | exact E3_9.out | refine ErrR.alloc ?_ _ | refine ErrR.setCell ?_ (by first | omega | (simp; done) | (simp; omega)) _)) hb)
  clear E3_9
  have E4_10 := Lib.hid (ErrR.under (B := BE4) (v := v4) (n := 0) (by repeat (first | exact E4_9.out | refine ErrR.alloc ?_ _ | refine ErrR.setCell ?_ (by first | omega | (simp; done) | (simp; omega)) _)) hb)
  clear E4_9
  have E5_10 := Lib.hid (ErrR.under (B := BE5) (v := v5) (n := 0) (by repeat (first | exact E5_9.out | refine ErrR.alloc ?_ _ | refine ErrR.setCell ?_ (by first | omega | (simp; done) | (simp; omega)) _)) hb)
  clear E5_9
  obtain ⟨hc10, hf10⟩ := bcell hb
  obtain ⟨BE6, hr, hBE6⟩ := err_at hr
  try simp at hBE6
  have E6_10 := Lib.hid hr
  clear hr
  clear hb
  try have hl_wheapsize_w10 : w.heap.size < w10.heap.size := by omega
  try have hm_wheapsize_w10 : w.heap.size ≤ w10.heap.size := by omega
  try have hl_w1heapsize_w10 : w1.heap.size < w10.heap.size := by omega
  try have hm_w1heapsize_w10 : w1.heap.size ≤ w10.heap.size := by omega
  try have hl_w2heapsize_w10 : w2.heap.size < w10.heap.size := by omega
  try have hm_w2heapsize_w10 : w2.heap.size ≤ w10.heap.size := by omega
  try have hl_w3heapsize_w10 : w3.heap.size < w10.heap.size := by omega
  try have hm_w3heapsize_w10 : w3.heap.size ≤ w10.heap.size := by omega
  try have hl_w4heapsize_w10 : w4.heap.size < w10.heap.size := by omega
  try have hm_w4heapsize_w10 : w4.heap.size ≤ w10.heap.size := by omega
  try have hl_w5heapsize_w10 : w5.heap.size < w10.heap.size := by omega
  try have hm_w5heapsize_w10 : w5.heap.size ≤ w10.heap.size := by omega
  try have hl_w6heapsize_w10 : w6.heap.size < w10.heap.size := by omega
  try have hm_w6heapsize_w10 : w6.heap.size ≤ w10.heap.size := by omega
  try have hl_w7heapsize_w10 : w7.heap.size < w10.heap.size := by omega
  try have hm_w7heapsize_w10 : w7.heap.size ≤ w10.heap.size := by omega
  try have hl_w8heapsize_w10 : w8.heap.size < w10.heap.size := by omega
  try have hm_w8heapsize_w10 : w8.heap.size ≤ w10.heap.size := by omega
  try have hl_w9heapsize_w10 : w9.heap.size < w10.heap.size := by omega
  try have hm_w9heapsize_w10 : w9.heap.size ≤ w10.heap.size := by omega
  go_wp2_with fail
  refine (Num_any (B := BE4) _ v4 0 (by exact (by repeat (first | exact E4_10.out | refine ErrR.alloc ?_ _ | refine ErrR.setCell ?_ (by first | omega | (simp; done) | (simp; omega)) _))) (by exact (T.out.under T.out.lt (by repeat (first | exact HB10.out | exact Below.refl _ _ | refine Below.alloc ?_ (by first | omega | (simp; done) | (simp; omega)) _ | refine Below.setCell ?_ (by first | omega | (simp; done) | (simp; omega)) _))))).mono ?_
  rintro e w11 ⟨rfl, hb⟩
  have HB11 := Lib.hid (Below.trans (B := w.heap.size) (a := w) (by repeat (first | exact HB10.out | exact Below.refl _ _ | refine Below.alloc ?_ (by first | omega | (simp; done) | (simp; omega)) _ | refine Below.setCell ?_ (by first | omega | (simp; done) | (simp; omega)) _)) (hb.mono (by first | omega | (simp; done) | (simp; omega))))
  have hz11 := hb.size
  try simp at hz11
  have E1_11 := Lib.hid (ErrR.under (B := BE1) (v := v1) (n := 0) (by repeat (first | exact E1_10.out | refine ErrR.alloc ?_ _ | refine ErrR.setCell ?_ (by first | omega | (simp; done) | (simp; omega)) _)) hb)
  clear E1_10
  have E3_11 := Lib.hid (ErrR.under (B := BE3) (v := v3) (n := 0) (by repeat (first | exact E3_10.out | refine ErrR.alloc ?_ _ | refine ErrR.setCell ?_ (by first | omega | (simp; done) | (simp; omega)) _)) hb)
  clear E3_10
  have E4_11 := Lib.hid (ErrR.under (B := BE4) (v := v4) (n := 0) (by repeat (first | exact E4_10.out | refine ErrR.alloc ?_ _ | refine ErrR.setCell ?_ (by first | omega | (simp; done) | (simp; omega)) _)) hb)
  clear E4_10
  have E5_11 := Lib.hid (ErrR.under (B := BE5) (v := v5) (n := 0) (by repeat (first | exact E5_10.out | refine ErrR.alloc ?_ _ | refine ErrR.setCell ?_ (by first | omega | (simp; done) | (simp; omega)) _)) hb)
  clear E5_10
  have E6_11 := Lib.hid (ErrR.under (B := BE6) (v := v6) (n := 0) (by repeat (first | exact E6_10.out | refine ErrR.alloc ?_ _ | refine ErrR.setCell ?_ (by first | omega | (simp; done) | (simp; omega)) _)) hb)
  clear E6_10
  obtain ⟨hc11, hf11⟩ := bcell hb
  clear hb
  try have hl_wheapsize_w11 : w.heap.size < w11.heap.size := by omega
  try have hm_wheapsize_w11 : w.heap.size ≤ w11.heap.size := by omega
  try have hl_w1heapsize_w11 : w1.heap.size < w11.heap.size := by omega
  try have hm_w1heapsize_w11 : w1.heap.size ≤ w11.heap.size := by omega
  try have hl_w2heapsize_w11 : w2.heap.size < w11.heap.size := by omega
  try have hm_w2heapsize_w11 : w2.heap.size ≤ w11.heap.size := by omega
  try have hl_w3heapsize_w11 : w3.heap.size < w11.heap.size := by omega
  try have hm_w3heapsize_w11 : w3.heap.size ≤ w11.heap.size := by omega
  try have hl_w4heapsize_w11 : w4.heap.size < w11.heap.size := by omega
  try have hm_w4heapsize_w11 : w4.heap.size ≤ w11.heap.size := by omega
  try have hl_w5heapsize_w11 : w5.heap.size < w11.heap.size := by omega
  try have hm_w5heapsize_w11 : w5.heap.size ≤ w11.heap.size := by omega
  try have hl_w6heapsize_w11 : w6.heap.size < w11.heap.size := by omega
  try have hm_w6heapsize_w11 : w6.heap.size ≤ w11.heap.size := by omega
  try have hl_w7heapsize_w11 : w7.heap.size < w11.heap.size := by omega
  try have hm_w7heapsize_w11 : w7.heap.size ≤ w11.heap.size := by omega
  try have hl_w8heapsize_w11 : w8.heap.size < w11.heap.size := by omega
  try have hm_w8heapsize_w11 : w8.heap.size ≤ w11.heap.size := by omega
  try have hl_w9heapsize_w11 : w9.heap.size < w11.heap.size := by omega
  try have hm_w9heapsize_w11 : w9.heap.size ≤ w11.heap.size := by omega
  try have hl_w10heapsize_w11 : w10.heap.size < w11.heap.size := by omega
  try have hm_w10heapsize_w11 : w10.heap.size ≤ w11.heap.size := by omega
  clear E4_11
  go_wp2_with fail
  refine (Num_any (B := BE5) _ v5 0 (by exact (by repeat (first | exact E5_11.out | refine ErrR.alloc ?_ _ | refine ErrR.setCell ?_ (by first | omega | (simp; done) | (simp; omega)) _))) (by exact (T.out.under T.out.lt (by repeat (first | exact HB11.out | exact Below.refl _ _ | refine Below.alloc ?_ (by first | omega | (simp; done) | (simp; omega)) _ | refine Below.setCell ?_ (by first | omega | (simp; done) | (simp; omega)) _))))).mono ?_
  rintro e w12 ⟨rfl, hb⟩
  have HB12 := Lib.hid (Below.trans (B := w.heap.size) (a := w) (by repeat (first | exact HB11.out | exact Below.refl _ _ | refine Below.alloc ?_ (by first | omega | (simp; done) | (simp; omega)) _ | refine Below.setCell ?_ (by first | omega | (simp; done) | (simp; omega)) _)) (hb.mono (by first | omega | (simp; done) | (simp; omega))))
  have hz12 := hb.size
  try simp at hz12
  have E1_12 := Lib.hid (ErrR.under (B := BE1) (v := v1) (n := 0) (by repeat (first | exact E1_11.out | refine ErrR.alloc ?_ _ | refine ErrR.setCell ?_ (by first | omega | (simp; done) | (simp; omega)) _)) hb)
  clear E1_11
  have E3_12 := Lib.hid (ErrR.under (B := BE3) (v := v3) (n := 0) (by repeat (first | exact E3_11.out | refine ErrR.alloc ?_ _ | refine ErrR.setCell ?_ (by first | omega | (simp; done) | (simp; omega)) _)) hb)
  clear E3_11
  have E5_12 := Lib.hid (ErrR.under (B := BE5) (v := v5) (n := 0) (by repeat (first | exact E5_11.out | refine ErrR.alloc ?_ _ | refine ErrR.setCell ?_ (by first | omega | (simp; done) | (simp; omega)) _)) hb)
  clear E5_11
  have E6_12 := Lib.hid (ErrR.under (B := BE6) (v := v6) (n := 0) (by repeat (first | exact E6_11.out | refine ErrR.alloc ?_ _ | refine ErrR.setCell ?_ (by first | omega | (simp; done) | (simp; omega)) _)) hb)
  clear E6_11
  obtain ⟨hc12, hf12⟩ := bcell hb
  clear hb
  try have hl_wheapsize_w12 : w.heap.size < w12.heap.size := by omega
  try have hm_wheapsize_w12 : w.heap.size ≤ w12.heap.size := by omega
  try have hl_w1heapsize_w12 : w1.heap.size < w12.heap.size := by omega
  try have hm_w1heapsize_w12 : w1.heap.size ≤ w12.heap.size := by omega
  try have hl_w2heapsize_w12 : w2.heap.size < w12.heap.size := by omega
  try have hm_w2heapsize_w12 : w2.heap.size ≤ w12.heap.size := by omega
  try have hl_w3heapsize_w12 : w3.heap.size < w12.heap.size := by omega
  try have hm_w3heapsize_w12 : w3.heap.size ≤ w12.heap.size := by omega
  try have hl_w4heapsize_w12 : w4.heap.size < w12.heap.size := by omega
  try have hm_w4heapsize_w12 : w4.heap.size ≤ w12.heap.size := by omega
  try have hl_w5heapsize_w12 : w5.heap.size < w12.heap.size := by omega
  try have hm_w5heapsize_w12 : w5.heap.size ≤ w12.heap.size := by omega
  try have hl_w6heapsize_w12 : w6.heap.size < w12.heap.size := by omega
  try have hm_w6heapsize_w12 : w6.heap.size ≤ w12.heap.size := by omega
  try have hl_w7heapsize_w12 : w7.heap.size < w12.heap.size := by omega
  try have hm_w7heapsize_w12 : w7.heap.size ≤ w12.heap.size := by omega
  try have hl_w8heapsize_w12 : w8.heap.size < w12.heap.size := by omega
  try have hm_w8heapsize_w12 : w8.heap.size ≤ w12.heap.size := by omega
  try have hl_w9heapsize_w12 : w9.heap.size < w12.heap.size := by omega
  try have hm_w9heapsize_w12 : w9.heap.size ≤ w12.heap.size := by omega
  try have hl_w10heapsize_w12 : w10.heap.size < w12.heap.size := by omega
  try have hm_w10heapsize_w12 : w10.heap.size ≤ w12.heap.size := by omega
  try have hl_w11heapsize_w12 : w11.heap.size < w12.heap.size := by omega
  try have hm_w11heapsize_w12 : w11.heap.size ≤ w12.heap.size := by omega
  clear E5_12
  go_wp2_with fail
  refine (Num_any (B := BE6) _ v6 0 (by exact (by repeat (first | exact E6_12.out | refine ErrR.alloc ?_ _ | refine ErrR.setCell ?_ (by first | omega | (simp; done) | (simp; omega)) _))) (by exact (T.out.under T.out.lt (by repeat (first | exact HB12.out | exact Below.refl _ _ | refine Below.alloc ?_ (by first | omega | (simp; done) | (simp; omega)) _ | refine Below.setCell ?_ (by first | omega | (simp; done) | (simp; omega)) _))))).mono ?_
  rintro e w13 ⟨rfl, hb⟩
  have HB13 := Lib.hid (Below.trans (B := w.heap.size) (a := w) (by repeat (first | exact HB12.out | exact Below.refl _ _ | refine Below.alloc ?_ (by first | omega | (simp; done) | (simp; omega)) _ | refine Below.setCell ?_ (by first | omega | (simp; done) | (simp; omega)) _)) (hb.mono (by first | omega | (simp; done) | (simp; omega))))
  have hz13 := hb.size
  try simp at hz13
  have E1_13 := Lib.hid (ErrR.under (B := BE1) (v := v1) (n := 0) (by repeat (first | exact E1_12.out | refine ErrR.alloc ?_ _ | refine ErrR.setCell ?_ (by first | omega | (simp; done) | (simp; omega)) _)) hb)
  clear E1_12
  have E3_13 := Lib.hid (ErrR.under (B := BE3) (v := v3) (n := 0) (by repeat (first | exact E3_12.out | refine ErrR.alloc ?_ _ | refine ErrR.setCell ?_ (by first | omega | (simp; done) | (simp; omega)) _)) hb)
  clear E3_12
  have E6_13 := Lib.hid (ErrR.under (B := BE6) (v := v6) (n := 0) (by repeat (first | exact E6_12.out | refine ErrR.alloc ?_ _ | refine ErrR.setCell ?_ (by first | omega | (simp; done) | (simp; omega)) _)) hb)
  clear E6_12
  obtain ⟨hc13, hf13⟩ := bcell hb
  clear hb
  try have hl_wheapsize_w13 : w.heap.size < w13.heap.size := by omega
  try have hm_wheapsize_w13 : w.heap.size ≤ w13.heap.size := by omega
  try have hl_w1heapsize_w13 : w1.heap.size < w13.heap.size := by omega
  try have hm_w1heapsize_w13 : w1.heap.size ≤ w13.heap.size := by omega
  try have hl_w2heapsize_w13 : w2.heap.size < w13.heap.size := by omega
  try have hm_w2heapsize_w13 : w2.heap.size ≤ w13.heap.size := by omega
  try have hl_w3heapsize_w13 : w3.heap.size < w13.heap.size := by omega
  try have hm_w3heapsize_w13 : w3.heap.size ≤ w13.heap.size := by omega
  try have hl_w4heapsize_w13 : w4.heap.size < w13.heap.size := by omega
  try have hm_w4heapsize_w13 : w4.heap.size ≤ w13.heap.size := by omega
  try have hl_w5heapsize_w13 : w5.heap.size < w13.heap.size := by omega
  try have hm_w5heapsize_w13 : w5.heap.size ≤ w13.heap.size := by omega
  try have hl_w6heapsize_w13 : w6.heap.size < w13.heap.size := by omega
  try have hm_w6heapsize_w13 : w6.heap.size ≤ w13.heap.size := by omega
  try have hl_w7heapsize_w13 : w7.heap.size < w13.heap.size := by omega
  try have hm_w7heapsize_w13 : w7.heap.size ≤ w13.heap.size := by omega
  try have hl_w8heapsize_w13 : w8.heap.size < w13.heap.size := by omega
  try have hm_w8heapsize_w13 : w8.heap.size ≤ w13.heap.size := by omega
  try have hl_w9heapsize_w13 : w9.heap.size < w13.heap.size := by omega
  try have hm_w9heapsize_w13 : w9.heap.size ≤ w13.heap.size := by omega
  try have hl_w10heapsize_w13 : w10.heap.size < w13.heap.size := by omega
  try have hm_w10heapsize_w13 : w10.heap.size ≤ w13.heap.size := by omega
  try have hl_w11heapsize_w13 : w11.heap.size < w13.heap.size := by omega
  try have hm_w11heapsize_w13 : w11.heap.size ≤ w13.heap.size := by omega
  try have hl_w12heapsize_w13 : w12.heap.size < w13.heap.size := by omega
  try have hm_w12heapsize_w13 : w12.heap.size ≤ w13.heap.size := by omega
  clear E6_13
  go_wp2_with fail
  refine (Num_any (B := BE1) _ v1 0 (by exact (by repeat (first | exact E1_13.out | refine ErrR.alloc ?_ _ | refine ErrR.setCell ?_ (by first | omega | (simp; done) | (simp; omega)) _))) (by exact (T.out.under T.out.lt (by repeat (first | exact HB13.out | exact Below.refl _ _ | refine Below.alloc ?_ (by first | omega | (simp; done) | (simp; omega)) _ | refine Below.setCell ?_ (by first | omega | (simp; done) | (simp; omega)) _))))).mono ?_
  rintro e w14 ⟨rfl, hb⟩
  have HB14 := Lib.hid (Below.trans (B := w.heap.size) (a := w) (by repeat (first | exact HB13.out | exact Below.refl _ _ | refine Below.alloc ?_ (by first | omega | (simp; done) | (simp; omega)) _ | refine Below.setCell ?_ (by first | omega | (simp; done) | (simp; omega)) _)) (hb.mono (by first | omega | (simp; done) | (simp; omega))))
  have hz14 := hb.size
  try simp at hz14
  have E1_14 := Lib.hid (ErrR.under (B := BE1) (v := v1) (n := 0) (by repeat (first | exact E1_13.out | refine ErrR.alloc ?_ _ | refine ErrR.setCell ?_ (by first | omega | (simp; done) | (simp; omega)) _)) hb)
  clear E1_13
  have E3_14 := Lib.hid (ErrR.under (B := BE3) (v := v3) (n := 0) (by repeat (first | exact E3_13.out | refine ErrR.alloc ?_ _ | refine ErrR.setCell ?_ (by first | omega | (simp; done) | (simp; omega)) _)) hb)
  clear E3_13
  obtain ⟨hc14, hf14⟩ := bcell hb
  clear hb
  try have hl_wheapsize_w14 : w.heap.size < w14.heap.size := by omega
  try have hm_wheapsize_w14 : w.heap.size ≤ w14.heap.size := by omega
  try have hl_w1heapsize_w14 : w1.heap.size < w14.heap.size := by omega
  try have hm_w1heapsize_w14 : w1.heap.size ≤ w14.heap.size := by omega
  try have hl_w2heapsize_w14 : w2.heap.size < w14.heap.size := by omega
  try have hm_w2heapsize_w14 : w2.heap.size ≤ w14.heap.size := by omega
  try have hl_w3heapsize_w14 : w3.heap.size < w14.heap.size := by omega
  try have hm_w3heapsize_w14 : w3.heap.size ≤ w14.heap.size := by omega
  try have hl_w4heapsize_w14 : w4.heap.size < w14.heap.size := by omega
  try have hm_w4heapsize_w14 : w4.heap.size ≤ w14.heap.size := by omega
  try have hl_w5heapsize_w14 : w5.heap.size < w14.heap.size := by omega
  try have hm_w5heapsize_w14 : w5.heap.size ≤ w14.heap.size := by omega
  try have hl_w6heapsize_w14 : w6.heap.size < w14.heap.size := by omega
  try have hm_w6heapsize_w14 : w6.heap.size ≤ w14.heap.size := by omega
  try have hl_w7heapsize_w14 : w7.heap.size < w14.heap.size := by omega
  try have hm_w7heapsize_w14 : w7.heap.size ≤ w14.heap.size := by omega
  try have hl_w8heapsize_w14 : w8.heap.size < w14.heap.size := by omega
  try have hm_w8heapsize_w14 : w8.heap.size ≤ w14.heap.size := by omega
  try have hl_w9heapsize_w14 : w9.heap.size < w14.heap.size := by omega
  try have hm_w9heapsize_w14 : w9.heap.size ≤ w14.heap.size := by omega
  try have hl_w10heapsize_w14 : w10.heap.size < w14.heap.size := by omega
  try have hm_w10heapsize_w14 : w10.heap.size ≤ w14.heap.size := by omega
  try have hl_w11heapsize_w14 : w11.heap.size < w14.heap.size := by omega
  try have hm_w11heapsize_w14 : w11.heap.size ≤ w14.heap.size := by omega
  try have hl_w12heapsize_w14 : w12.heap.size < w14.heap.size := by omega
  try have hm_w12heapsize_w14 : w12.heap.size ≤ w14.heap.size := by omega
  try have hl_w13heapsize_w14 : w13.heap.size < w14.heap.size := by omega
  try have hm_w13heapsize_w14 : w13.heap.size ≤ w14.heap.size := by omega
  clear E1_14
  go_wp2_with fail
  go_ret
  exact ⟨rfl, (by repeat (first | exact HB14.out | exact Below.refl _ _ | refine Below.alloc ?_ (by first | omega | (simp; done) | (simp; omega)) _ | refine Below.setCell ?_ (by first | omega | (simp; done) | (simp; omega)) _))⟩
set_option maxHeartbeats 2000000 in
theorem parts_low (ch a b x m1 m : Int) (p0 : 0 ≤ ch) (p1 : ch ≤ 255) (p2 : 0 ≤ a) (p3 : a ≤ 255) (p4 : 0 ≤ b) (p5 : b ≤ 255) (q0 : 0 ≤ x) (q1 : x ≤ 200) (r0 : a ≤ x) (r1 : x < a + b) (hx : ch % 201 = x) (hm1 : Hid (min a (200 - x) = m1)) (hm : Hid (min (a + b) (200 - x) = m)) (w : World) (tied : Tied w) :
    Calls Tryd.prog 7 #[.int .u8 ch, .int .u8 a, .int .u8 b] w fun e w' => e = .returned (.bool true) ∧ Below w.heap.size w w' := by
  have h1 : Hid (spendR x 0 0 0 a = ⟨0, x - a, a, 0, 0⟩) := by
    have h := spendR_ok (c := x) (s := 0) (g := 0) (d := 0) ((rightB_iff _ _ _ _).2 (by omega)) p2 r0 ((rightB_iff _ _ _ _).2 (by omega))
    rw [Int.zero_add] at h; exact h
  have h2 : Hid (spendR (x - a) a 0 0 b = ⟨11, 0, 0, 0, 0⟩) := spendR_low ((rightB_iff _ _ _ _).2 (by omega)) p4 (by omega)
  have h3 : Hid (spendR x 0 0 0 (a + b) = ⟨11, 0, 0, 0, 0⟩) := spendR_low ((rightB_iff _ _ _ _).2 (by omega)) (by omega) r1
  have g1 : Hid (gainR x 0 0 0 a = ⟨0, x + m1, 0, m1, 0⟩) := by
    have h := gainR_ok (c := x) (s := 0) (g := 0) (d := 0) (n := a) ((rightB_iff _ _ _ _).2 (by omega)) p2 ((rightB_iff _ _ _ _).2 (by omega))
    rw [hm1.out, Int.zero_add] at h; exact h
  have g2 : Hid (gainR (x + m1) 0 m1 0 b = ⟨0, x + m, 0, m, 0⟩) := by
    have h' := hm.out
    have h1' := hm1.out
    have h := gainR_ok (c := x + m1) (s := 0) (g := m1) (d := 0) (n := b) ((rightB_iff _ _ _ _).2 (by omega)) p4 ((rightB_iff _ _ _ _).2 (by omega))
    rw [show x + m1 + min b (200 - (x + m1)) = x + m by omega, show m1 + min b (200 - (x + m1)) = m by omega] at h; exact h
  have g3 : Hid (gainR x 0 0 0 (a + b) = ⟨0, x + m, 0, m, 0⟩) := by
    have h := gainR_ok (c := x) (s := 0) (g := 0) (d := 0) (n := a + b) ((rightB_iff _ _ _ _).2 (by omega)) (by omega) ((rightB_iff _ _ _ _).2 (by omega))
    rw [hm.out, Int.zero_add] at h; exact h
  clear hm hm1
  have HB0 := Lib.hid (Below.refl w.heap.size w)
  have T := Lib.hid tied
  clear tied
  go_enter Tryd.func7, Tryd.ntmps7
  go_wp2_with fail
  refine (volt_awake _ (by exact (T.out.under T.out.lt (by repeat (first | exact HB0.out | exact Below.refl _ _ | refine Below.alloc ?_ (by first | omega | (simp; done) | (simp; omega)) _ | refine Below.setCell ?_ (by first | omega | (simp; done) | (simp; omega)) _))))).mono ?_
  rintro e w1 ⟨rfl, hb⟩
  have HB1 := Lib.hid (Below.trans (B := w.heap.size) (a := w) (by repeat (first | exact HB0.out | exact Below.refl _ _ | refine Below.alloc ?_ (by first | omega | (simp; done) | (simp; omega)) _ | refine Below.setCell ?_ (by first | omega | (simp; done) | (simp; omega)) _)) (hb.mono (by first | omega | (simp; done) | (simp; omega))))
  have hz1 := hb.size
  try simp at hz1
  obtain ⟨hc1, hf1⟩ := bcell hb
  clear hb
  try have hl_wheapsize_w1 : w.heap.size < w1.heap.size := by omega
  try have hm_wheapsize_w1 : w.heap.size ≤ w1.heap.size := by omega
  go_wp2_with fail
  refine (volt_spend_eq h1.out _).mono ?_
  rintro e w2 ⟨v1, rfl, hr, hb⟩
  have HB2 := Lib.hid (Below.trans (B := w.heap.size) (a := w) (by repeat (first | exact HB1.out | exact Below.refl _ _ | refine Below.alloc ?_ (by first | omega | (simp; done) | (simp; omega)) _ | refine Below.setCell ?_ (by first | omega | (simp; done) | (simp; omega)) _)) (hb.mono (by first | omega | (simp; done) | (simp; omega))))
  have hz2 := hb.size
  try simp at hz2
  obtain ⟨hc2, hf2⟩ := bcell hb
  obtain ⟨BE1, hr, hBE1⟩ := err_at hr
  try simp at hBE1
  have E1_2 := Lib.hid hr
  clear hr
  clear hb
  try have hl_wheapsize_w2 : w.heap.size < w2.heap.size := by omega
  try have hm_wheapsize_w2 : w.heap.size ≤ w2.heap.size := by omega
  try have hl_w1heapsize_w2 : w1.heap.size < w2.heap.size := by omega
  try have hm_w1heapsize_w2 : w1.heap.size ≤ w2.heap.size := by omega
  go_wp2_with fail
  refine (volt_spend_eq h2.out _).mono ?_
  rintro e w3 ⟨v2, rfl, hr, hb⟩
  have HB3 := Lib.hid (Below.trans (B := w.heap.size) (a := w) (by repeat (first | exact HB2.out | exact Below.refl _ _ | refine Below.alloc ?_ (by first | omega | (simp; done) | (simp; omega)) _ | refine Below.setCell ?_ (by first | omega | (simp; done) | (simp; omega)) _)) (hb.mono (by first | omega | (simp; done) | (simp; omega))))
  have hz3 := hb.size
  try simp at hz3
  have E1_3 := Lib.hid (ErrR.under (B := BE1) (v := v1) (n := 0) (by repeat (first | exact E1_2.out | refine ErrR.alloc ?_ _ | refine ErrR.setCell ?_ (by first | omega | (simp; done) | (simp; omega)) _)) hb)
  clear E1_2
  obtain ⟨hc3, hf3⟩ := bcell hb
  obtain ⟨BE2, hr, hBE2⟩ := err_at hr
  try simp at hBE2
  have E2_3 := Lib.hid hr
  clear hr
  clear hb
  try have hl_wheapsize_w3 : w.heap.size < w3.heap.size := by omega
  try have hm_wheapsize_w3 : w.heap.size ≤ w3.heap.size := by omega
  try have hl_w1heapsize_w3 : w1.heap.size < w3.heap.size := by omega
  try have hm_w1heapsize_w3 : w1.heap.size ≤ w3.heap.size := by omega
  try have hl_w2heapsize_w3 : w2.heap.size < w3.heap.size := by omega
  try have hm_w2heapsize_w3 : w2.heap.size ≤ w3.heap.size := by omega
  go_wp2_with fail
  refine (volt_spend_eq h3.out _).mono ?_
  rintro e w4 ⟨v3, rfl, hr, hb⟩
  have HB4 := Lib.hid (Below.trans (B := w.heap.size) (a := w) (by repeat (first | exact HB3.out | exact Below.refl _ _ | refine Below.alloc ?_ (by first | omega | (simp; done) | (simp; omega)) _ | refine Below.setCell ?_ (by first | omega | (simp; done) | (simp; omega)) _)) (hb.mono (by first | omega | (simp; done) | (simp; omega))))
  have hz4 := hb.size
  try simp at hz4
  have E1_4 := Lib.hid (ErrR.under (B := BE1) (v := v1) (n := 0) (by repeat (first | exact E1_3.out | refine ErrR.alloc ?_ _ | refine ErrR.setCell ?_ (by first | omega | (simp; done) | (simp; omega)) _)) hb)
  clear E1_3
  have E2_4 := Lib.hid (ErrR.under (B := BE2) (v := v2) (n := 11) (by repeat (first | exact E2_3.out | refine ErrR.alloc ?_ _ | refine ErrR.setCell ?_ (by first | omega | (simp; done) | (simp; omega)) _)) hb)
  clear E2_3
  obtain ⟨hc4, hf4⟩ := bcell hb
  obtain ⟨BE3, hr, hBE3⟩ := err_at hr
  try simp at hBE3
  have E3_4 := Lib.hid hr
  clear hr
  clear hb
  try have hl_wheapsize_w4 : w.heap.size < w4.heap.size := by omega
  try have hm_wheapsize_w4 : w.heap.size ≤ w4.heap.size := by omega
  try have hl_w1heapsize_w4 : w1.heap.size < w4.heap.size := by omega
  try have hm_w1heapsize_w4 : w1.heap.size ≤ w4.heap.size := by omega
  try have hl_w2heapsize_w4 : w2.heap.size < w4.heap.size := by omega
  try have hm_w2heapsize_w4 : w2.heap.size ≤ w4.heap.size := by omega
  try have hl_w3heapsize_w4 : w3.heap.size < w4.heap.size := by omega
  try have hm_w3heapsize_w4 : w3.heap.size ≤ w4.heap.size := by omega
  go_wp2_with fail
  refine (Num_any (B := BE1) _ v1 0 (by exact (by repeat (first | exact E1_4.out | refine ErrR.alloc ?_ _ | refine ErrR.setCell ?_ (by first | omega | (simp; done) | (simp; omega)) _))) (by exact (T.out.under T.out.lt (by repeat (first | exact HB4.out | exact Below.refl _ _ | refine Below.alloc ?_ (by first | omega | (simp; done) | (simp; omega)) _ | refine Below.setCell ?_ (by first | omega | (simp; done) | (simp; omega)) _))))).mono ?_
  rintro e w5 ⟨rfl, hb⟩
  have HB5 := Lib.hid (Below.trans (B := w.heap.size) (a := w) (by repeat (first | exact HB4.out | exact Below.refl _ _ | refine Below.alloc ?_ (by first | omega | (simp; done) | (simp; omega)) _ | refine Below.setCell ?_ (by first | omega | (simp; done) | (simp; omega)) _)) (hb.mono (by first | omega | (simp; done) | (simp; omega))))
  have hz5 := hb.size
  try simp at hz5
  have E1_5 := Lib.hid (ErrR.under (B := BE1) (v := v1) (n := 0) (by repeat (first | exact E1_4.out | refine ErrR.alloc ?_ _ | refine ErrR.setCell ?_ (by first | omega | (simp; done) | (simp; omega)) _)) hb)
  clear E1_4
  have E2_5 := Lib.hid (ErrR.under (B := BE2) (v := v2) (n := 11) (by repeat (first | exact E2_4.out | refine ErrR.alloc ?_ _ | refine ErrR.setCell ?_ (by first | omega | (simp; done) | (simp; omega)) _)) hb)
  clear E2_4
  have E3_5 := Lib.hid (ErrR.under (B := BE3) (v := v3) (n := 11) (by repeat (first | exact E3_4.out | refine ErrR.alloc ?_ _ | refine ErrR.setCell ?_ (by first | omega | (simp; done) | (simp; omega)) _)) hb)
  clear E3_4
  obtain ⟨hc5, hf5⟩ := bcell hb
  clear hb
  try have hl_wheapsize_w5 : w.heap.size < w5.heap.size := by omega
  try have hm_wheapsize_w5 : w.heap.size ≤ w5.heap.size := by omega
  try have hl_w1heapsize_w5 : w1.heap.size < w5.heap.size := by omega
  try have hm_w1heapsize_w5 : w1.heap.size ≤ w5.heap.size := by omega
  try have hl_w2heapsize_w5 : w2.heap.size < w5.heap.size := by omega
  try have hm_w2heapsize_w5 : w2.heap.size ≤ w5.heap.size := by omega
  try have hl_w3heapsize_w5 : w3.heap.size < w5.heap.size := by omega
  try have hm_w3heapsize_w5 : w3.heap.size ≤ w5.heap.size := by omega
  try have hl_w4heapsize_w5 : w4.heap.size < w5.heap.size := by omega
  try have hm_w4heapsize_w5 : w4.heap.size ≤ w5.heap.size := by omega
  go_wp2_with fail
  refine (Num_any (B := BE2) _ v2 11 (by exact (by repeat (first | exact E2_5.out | refine ErrR.alloc ?_ _ | refine ErrR.setCell ?_ (by first | omega | (simp; done) | (simp; omega)) _))) (by exact (T.out.under T.out.lt (by repeat (first | exact HB5.out | exact Below.refl _ _ | refine Below.alloc ?_ (by first | omega | (simp; done) | (simp; omega)) _ | refine Below.setCell ?_ (by first | omega | (simp; done) | (simp; omega)) _))))).mono ?_
  rintro e w6 ⟨rfl, hb⟩
  have HB6 := Lib.hid (Below.trans (B := w.heap.size) (a := w) (by repeat (first | exact HB5.out | exact Below.refl _ _ | refine Below.alloc ?_ (by first | omega | (simp; done) | (simp; omega)) _ | refine Below.setCell ?_ (by first | omega | (simp; done) | (simp; omega)) _)) (hb.mono (by first | omega | (simp; done) | (simp; omega))))
  have hz6 := hb.size
  try simp at hz6
  have E1_6 := Lib.hid (ErrR.under (B := BE1) (v := v1) (n := 0) (by repeat (first | exact E1_5.out | refine ErrR.alloc ?_ _ | refine ErrR.setCell ?_ (by first | omega | (simp; done) | (simp; omega)) _)) hb)
  clear E1_5
  have E2_6 := Lib.hid (ErrR.under (B := BE2) (v := v2) (n := 11) (by repeat (first | exact E2_5.out | refine ErrR.alloc ?_ _ | refine ErrR.setCell ?_ (by first | omega | (simp; done) | (simp; omega)) _)) hb)
  clear E2_5
  have E3_6 := Lib.hid (ErrR.under (B := BE3) (v := v3) (n := 11) (by repeat (first | exact E3_5.out | refine ErrR.alloc ?_ _ | refine ErrR.setCell ?_ (by first | omega | (simp; done) | (simp; omega)) _)) hb)
  clear E3_5
  obtain ⟨hc6, hf6⟩ := bcell hb
  clear hb
  try have hl_wheapsize_w6 : w.heap.size < w6.heap.size := by omega
  try have hm_wheapsize_w6 : w.heap.size ≤ w6.heap.size := by omega
  try have hl_w1heapsize_w6 : w1.heap.size < w6.heap.size := by omega
  try have hm_w1heapsize_w6 : w1.heap.size ≤ w6.heap.size := by omega
  try have hl_w2heapsize_w6 : w2.heap.size < w6.heap.size := by omega
  try have hm_w2heapsize_w6 : w2.heap.size ≤ w6.heap.size := by omega
  try have hl_w3heapsize_w6 : w3.heap.size < w6.heap.size := by omega
  try have hm_w3heapsize_w6 : w3.heap.size ≤ w6.heap.size := by omega
  try have hl_w4heapsize_w6 : w4.heap.size < w6.heap.size := by omega
  try have hm_w4heapsize_w6 : w4.heap.size ≤ w6.heap.size := by omega
  try have hl_w5heapsize_w6 : w5.heap.size < w6.heap.size := by omega
  try have hm_w5heapsize_w6 : w5.heap.size ≤ w6.heap.size := by omega
  clear E2_6
  go_wp2_with fail
  refine (Num_any (B := BE3) _ v3 11 (by exact (by repeat (first | exact E3_6.out | refine ErrR.alloc ?_ _ | refine ErrR.setCell ?_ (by first | omega | (simp; done) | (simp; omega)) _))) (by exact (T.out.under T.out.lt (by repeat (first | exact HB6.out | exact Below.refl _ _ | refine Below.alloc ?_ (by first | omega | (simp; done) | (simp; omega)) _ | refine Below.setCell ?_ (by first | omega | (simp; done) | (simp; omega)) _))))).mono ?_
  rintro e w7 ⟨rfl, hb⟩
  have HB7 := Lib.hid (Below.trans (B := w.heap.size) (a := w) (by repeat (first | exact HB6.out | exact Below.refl _ _ | refine Below.alloc ?_ (by first | omega | (simp; done) | (simp; omega)) _ | refine Below.setCell ?_ (by first | omega | (simp; done) | (simp; omega)) _)) (hb.mono (by first | omega | (simp; done) | (simp; omega))))
  have hz7 := hb.size
  try simp at hz7
  have E1_7 := Lib.hid (ErrR.under (B := BE1) (v := v1) (n := 0) (by repeat (first | exact E1_6.out | refine ErrR.alloc ?_ _ | refine ErrR.setCell ?_ (by first | omega | (simp; done) | (simp; omega)) _)) hb)
  clear E1_6
  have E3_7 := Lib.hid (ErrR.under (B := BE3) (v := v3) (n := 11) (by repeat (first | exact E3_6.out | refine ErrR.alloc ?_ _ | refine ErrR.setCell ?_ (by first | omega | (simp; done) | (simp; omega)) _)) hb)
  clear E3_6
  obtain ⟨hc7, hf7⟩ := bcell hb
  clear hb
  try have hl_wheapsize_w7 : w.heap.size < w7.heap.size := by omega
  try have hm_wheapsize_w7 : w.heap.size ≤ w7.heap.size := by omega
  try have hl_w1heapsize_w7 : w1.heap.size < w7.heap.size := by omega
  try have hm_w1heapsize_w7 : w1.heap.size ≤ w7.heap.size := by omega
  try have hl_w2heapsize_w7 : w2.heap.size < w7.heap.size := by omega
  try have hm_w2heapsize_w7 : w2.heap.size ≤ w7.heap.size := by omega
  try have hl_w3heapsize_w7 : w3.heap.size < w7.heap.size := by omega
  try have hm_w3heapsize_w7 : w3.heap.size ≤ w7.heap.size := by omega
  try have hl_w4heapsize_w7 : w4.heap.size < w7.heap.size := by omega
  try have hm_w4heapsize_w7 : w4.heap.size ≤ w7.heap.size := by omega
  try have hl_w5heapsize_w7 : w5.heap.size < w7.heap.size := by omega
  try have hm_w5heapsize_w7 : w5.heap.size ≤ w7.heap.size := by omega
  try have hl_w6heapsize_w7 : w6.heap.size < w7.heap.size := by omega
  try have hm_w6heapsize_w7 : w6.heap.size ≤ w7.heap.size := by omega
  go_wp2_with fail
  refine (volt_gain_eq g1.out _).mono ?_
  rintro e w8 ⟨v4, rfl, hr, hb⟩
  have HB8 := Lib.hid (Below.trans (B := w.heap.size) (a := w) (by repeat (first | exact HB7.out | exact Below.refl _ _ | refine Below.alloc ?_ (by first | omega | (simp; done) | (simp; omega)) _ | refine Below.setCell ?_ (by first | omega | (simp; done) | (simp; omega)) _)) (hb.mono (by first | omega | (simp; done) | (simp; omega))))
  have hz8 := hb.size
  try simp at hz8
  have E1_8 := Lib.hid (ErrR.under (B := BE1) (v := v1) (n := 0) (by repeat (first | exact E1_7.out | refine ErrR.alloc ?_ _ | refine ErrR.setCell ?_ (by first | omega | (simp; done) | (simp; omega)) _)) hb)
  clear E1_7
  have E3_8 := Lib.hid (ErrR.under (B := BE3) (v := v3) (n := 11) (by repeat (first | exact E3_7.out | refine ErrR.alloc ?_ _ | refine ErrR.setCell ?_ (by first | omega | (simp; done) | (simp; omega)) _)) hb)
  clear E3_7
  obtain ⟨hc8, hf8⟩ := bcell hb
  obtain ⟨BE4, hr, hBE4⟩ := err_at hr
  try simp at hBE4
  have E4_8 := Lib.hid hr
  clear hr
  clear hb
  try have hl_wheapsize_w8 : w.heap.size < w8.heap.size := by omega
  try have hm_wheapsize_w8 : w.heap.size ≤ w8.heap.size := by omega
  try have hl_w1heapsize_w8 : w1.heap.size < w8.heap.size := by omega
  try have hm_w1heapsize_w8 : w1.heap.size ≤ w8.heap.size := by omega
  try have hl_w2heapsize_w8 : w2.heap.size < w8.heap.size := by omega
  try have hm_w2heapsize_w8 : w2.heap.size ≤ w8.heap.size := by omega
  try have hl_w3heapsize_w8 : w3.heap.size < w8.heap.size := by omega
  try have hm_w3heapsize_w8 : w3.heap.size ≤ w8.heap.size := by omega
  try have hl_w4heapsize_w8 : w4.heap.size < w8.heap.size := by omega
  try have hm_w4heapsize_w8 : w4.heap.size ≤ w8.heap.size := by omega
  try have hl_w5heapsize_w8 : w5.heap.size < w8.heap.size := by omega
  try have hm_w5heapsize_w8 : w5.heap.size ≤ w8.heap.size := by omega
  try have hl_w6heapsize_w8 : w6.heap.size < w8.heap.size := by omega
  try have hm_w6heapsize_w8 : w6.heap.size ≤ w8.heap.size := by omega
  try have hl_w7heapsize_w8 : w7.heap.size < w8.heap.size := by omega
  try have hm_w7heapsize_w8 : w7.heap.size ≤ w8.heap.size := by omega
  go_wp2_with fail
  refine (volt_gain_eq g2.out _).mono ?_
  rintro e w9 ⟨v5, rfl, hr, hb⟩
  have HB9 := Lib.hid (Below.trans (B := w.heap.size) (a := w) (by repeat (first | exact HB8.out | exact Below.refl _ _ | refine Below.alloc ?_ (by first | omega | (simp; done) | (simp; omega)) _ | refine Below.setCell ?_ (by first | omega | (simp; done) | (simp; omega)) _)) (hb.mono (by first | omega | (simp; done) | (simp; omega))))
  have hz9 := hb.size
  try simp at hz9
  have E1_9 := Lib.hid (ErrR.under (B := BE1) (v := v1) (n := 0) (by repeat (first | exact E1_8.out | refine ErrR.alloc ?_ _ | refine ErrR.setCell ?_ (by first | omega | (simp; done) | (simp; omega)) _)) hb)
  clear E1_8
  have E3_9 := Lib.hid (ErrR.under (B := BE3) (v := v3) (n := 11) (by repeat (first | exact E3_8.out | refine ErrR.alloc ?_ _ | refine ErrR.setCell ?_ (by first | omega | (simp; done) | (simp; omega)) _)) hb)
  clear E3_8
  have E4_9 := Lib.hid (ErrR.under (B := BE4) (v := v4) (n := 0) (by repeat (first | exact E4_8.out | refine ErrR.alloc ?_ _ | refine ErrR.setCell ?_ (by first | omega | (simp; done) | (simp; omega)) _)) hb)
  clear E4_8
  obtain ⟨hc9, hf9⟩ := bcell hb
  obtain ⟨BE5, hr, hBE5⟩ := err_at hr
  try simp at hBE5
  have E5_9 := Lib.hid hr
  clear hr
  clear hb
  try have hl_wheapsize_w9 : w.heap.size < w9.heap.size := by omega
  try have hm_wheapsize_w9 : w.heap.size ≤ w9.heap.size := by omega
  try have hl_w1heapsize_w9 : w1.heap.size < w9.heap.size := by omega
  try have hm_w1heapsize_w9 : w1.heap.size ≤ w9.heap.size := by omega
  try have hl_w2heapsize_w9 : w2.heap.size < w9.heap.size := by omega
  try have hm_w2heapsize_w9 : w2.heap.size ≤ w9.heap.size := by omega
  try have hl_w3heapsize_w9 : w3.heap.size < w9.heap.size := by omega
  try have hm_w3heapsize_w9 : w3.heap.size ≤ w9.heap.size := by omega
  try have hl_w4heapsize_w9 : w4.heap.size < w9.heap.size := by omega
  try have hm_w4heapsize_w9 : w4.heap.size ≤ w9.heap.size := by omega
  try have hl_w5heapsize_w9 : w5.heap.size < w9.heap.size := by omega
  try have hm_w5heapsize_w9 : w5.heap.size ≤ w9.heap.size := by omega
  try have hl_w6heapsize_w9 : w6.heap.size < w9.heap.size := by omega
  try have hm_w6heapsize_w9 : w6.heap.size ≤ w9.heap.size := by omega
  try have hl_w7heapsize_w9 : w7.heap.size < w9.heap.size := by omega
  try have hm_w7heapsize_w9 : w7.heap.size ≤ w9.heap.size := by omega
  try have hl_w8heapsize_w9 : w8.heap.size < w9.heap.size := by omega
  try have hm_w8heapsize_w9 : w8.heap.size ≤ w9.heap.size := by omega
  go_wp2_with fail
  refine (volt_gain_eq g3.out _).mono ?_
  rintro e w10 ⟨v6, rfl, hr, hb⟩
  have HB10 := Lib.hid (Below.trans (B := w.heap.size) (a := w) (by repeat (first | exact HB9.out | exact Below.refl _ _ | refine Below.alloc ?_ (by first | omega | (simp; done) | (simp; omega)) _ | refine Below.setCell ?_ (by first | omega | (simp; done) | (simp; omega)) _)) (hb.mono (by first | omega | (simp; done) | (simp; omega))))
  have hz10 := hb.size
  try simp at hz10
  have E1_10 := Lib.hid (ErrR.under (B := BE1) (v := v1) (n := 0) (by repeat (first | exact E1_9.out | refine ErrR.alloc ?_ _ | refine ErrR.setCell ?_ (by first | omega | (simp; done) | (simp; omega)) _)) hb)
  clear E1_9
  have E3_10 := Lib.hid (ErrR.under (B := BE3) (v := v3) (n := 11) (by repeat (first | exact E3_9.out | refine ErrR.alloc ?_ _ | refine ErrR.setCell ?_ (by first | omega | (simp; done) | (simp; omega)) _)) hb)
  clear E3_9
  have E4_10 := Lib.hid (ErrR.under (B := BE4) (v := v4) (n := 0) (by repeat (first | exact E4_9.out | refine ErrR.alloc ?_ _ | refine ErrR.setCell ?_ (by first | omega | (simp; done) | (simp; omega)) _)) hb)
  clear E4_9
  have E5_10 := Lib.hid (ErrR.under (B := BE5) (v := v5) (n := 0) (by repeat (first | exact E5_9.out | refine ErrR.alloc ?_ _ | refine ErrR.setCell ?_ (by first | omega | (simp; done) | (simp; omega)) _)) hb)
  clear E5_9
  obtain ⟨hc10, hf10⟩ := bcell hb
  obtain ⟨BE6, hr, hBE6⟩ := err_at hr
  try simp at hBE6
  have E6_10 := Lib.hid hr
  clear hr
  clear hb
  try have hl_wheapsize_w10 : w.heap.size < w10.heap.size := by omega
  try have hm_wheapsize_w10 : w.heap.size ≤ w10.heap.size := by omega
  try have hl_w1heapsize_w10 : w1.heap.size < w10.heap.size := by omega
  try have hm_w1heapsize_w10 : w1.heap.size ≤ w10.heap.size := by omega
  try have hl_w2heapsize_w10 : w2.heap.size < w10.heap.size := by omega
  try have hm_w2heapsize_w10 : w2.heap.size ≤ w10.heap.size := by omega
  try have hl_w3heapsize_w10 : w3.heap.size < w10.heap.size := by omega
  try have hm_w3heapsize_w10 : w3.heap.size ≤ w10.heap.size := by omega
  try have hl_w4heapsize_w10 : w4.heap.size < w10.heap.size := by omega
  try have hm_w4heapsize_w10 : w4.heap.size ≤ w10.heap.size := by omega
  try have hl_w5heapsize_w10 : w5.heap.size < w10.heap.size := by omega
  try have hm_w5heapsize_w10 : w5.heap.size ≤ w10.heap.size := by omega
  try have hl_w6heapsize_w10 : w6.heap.size < w10.heap.size := by omega
  try have hm_w6heapsize_w10 : w6.heap.size ≤ w10.heap.size := by omega
  try have hl_w7heapsize_w10 : w7.heap.size < w10.heap.size := by omega
  try have hm_w7heapsize_w10 : w7.heap.size ≤ w10.heap.size := by omega
  try have hl_w8heapsize_w10 : w8.heap.size < w10.heap.size := by omega
  try have hm_w8heapsize_w10 : w8.heap.size ≤ w10.heap.size := by omega
  try have hl_w9heapsize_w10 : w9.heap.size < w10.heap.size := by omega
  try have hm_w9heapsize_w10 : w9.heap.size ≤ w10.heap.size := by omega
  go_wp2_with fail
  refine (Num_any (B := BE4) _ v4 0 (by exact (by repeat (first | exact E4_10.out | refine ErrR.alloc ?_ _ | refine ErrR.setCell ?_ (by first | omega | (simp; done) | (simp; omega)) _))) (by exact (T.out.under T.out.lt (by repeat (first | exact HB10.out | exact Below.refl _ _ | refine Below.alloc ?_ (by first | omega | (simp; done) | (simp; omega)) _ | refine Below.setCell ?_ (by first | omega | (simp; done) | (simp; omega)) _))))).mono ?_
  rintro e w11 ⟨rfl, hb⟩
  have HB11 := Lib.hid (Below.trans (B := w.heap.size) (a := w) (by repeat (first | exact HB10.out | exact Below.refl _ _ | refine Below.alloc ?_ (by first | omega | (simp; done) | (simp; omega)) _ | refine Below.setCell ?_ (by first | omega | (simp; done) | (simp; omega)) _)) (hb.mono (by first | omega | (simp; done) | (simp; omega))))
  have hz11 := hb.size
  try simp at hz11
  have E1_11 := Lib.hid (ErrR.under (B := BE1) (v := v1) (n := 0) (by repeat (first | exact E1_10.out | refine ErrR.alloc ?_ _ | refine ErrR.setCell ?_ (by first | omega | (simp; done) | (simp; omega)) _)) hb)
  clear E1_10
  have E3_11 := Lib.hid (ErrR.under (B := BE3) (v := v3) (n := 11) (by repeat (first | exact E3_10.out | refine ErrR.alloc ?_ _ | refine ErrR.setCell ?_ (by first | omega | (simp; done) | (simp; omega)) _)) hb)
  clear E3_10
  have E4_11 := Lib.hid (ErrR.under (B := BE4) (v := v4) (n := 0) (by repeat (first | exact E4_10.out | refine ErrR.alloc ?_ _ | refine ErrR.setCell ?_ (by first | omega | (simp; done) | (simp; omega)) _)) hb)
  clear E4_10
  have E5_11 := Lib.hid (ErrR.under (B := BE5) (v := v5) (n := 0) (by repeat (first | exact E5_10.out | refine ErrR.alloc ?_ _ | refine ErrR.setCell ?_ (by first | omega | (simp; done) | (simp; omega)) _)) hb)
  clear E5_10
  have E6_11 := Lib.hid (ErrR.under (B := BE6) (v := v6) (n := 0) (by repeat (first | exact E6_10.out | refine ErrR.alloc ?_ _ | refine ErrR.setCell ?_ (by first | omega | (simp; done) | (simp; omega)) _)) hb)
  clear E6_10
  obtain ⟨hc11, hf11⟩ := bcell hb
  clear hb
  try have hl_wheapsize_w11 : w.heap.size < w11.heap.size := by omega
  try have hm_wheapsize_w11 : w.heap.size ≤ w11.heap.size := by omega
  try have hl_w1heapsize_w11 : w1.heap.size < w11.heap.size := by omega
  try have hm_w1heapsize_w11 : w1.heap.size ≤ w11.heap.size := by omega
  try have hl_w2heapsize_w11 : w2.heap.size < w11.heap.size := by omega
  try have hm_w2heapsize_w11 : w2.heap.size ≤ w11.heap.size := by omega
  try have hl_w3heapsize_w11 : w3.heap.size < w11.heap.size := by omega
  try have hm_w3heapsize_w11 : w3.heap.size ≤ w11.heap.size := by omega
  try have hl_w4heapsize_w11 : w4.heap.size < w11.heap.size := by omega
  try have hm_w4heapsize_w11 : w4.heap.size ≤ w11.heap.size := by omega
  try have hl_w5heapsize_w11 : w5.heap.size < w11.heap.size := by omega
  try have hm_w5heapsize_w11 : w5.heap.size ≤ w11.heap.size := by omega
  try have hl_w6heapsize_w11 : w6.heap.size < w11.heap.size := by omega
  try have hm_w6heapsize_w11 : w6.heap.size ≤ w11.heap.size := by omega
  try have hl_w7heapsize_w11 : w7.heap.size < w11.heap.size := by omega
  try have hm_w7heapsize_w11 : w7.heap.size ≤ w11.heap.size := by omega
  try have hl_w8heapsize_w11 : w8.heap.size < w11.heap.size := by omega
  try have hm_w8heapsize_w11 : w8.heap.size ≤ w11.heap.size := by omega
  try have hl_w9heapsize_w11 : w9.heap.size < w11.heap.size := by omega
  try have hm_w9heapsize_w11 : w9.heap.size ≤ w11.heap.size := by omega
  try have hl_w10heapsize_w11 : w10.heap.size < w11.heap.size := by omega
  try have hm_w10heapsize_w11 : w10.heap.size ≤ w11.heap.size := by omega
  clear E4_11
  go_wp2_with fail
  refine (Num_any (B := BE5) _ v5 0 (by exact (by repeat (first | exact E5_11.out | refine ErrR.alloc ?_ _ | refine ErrR.setCell ?_ (by first | omega | (simp; done) | (simp; omega)) _))) (by exact (T.out.under T.out.lt (by repeat (first | exact HB11.out | exact Below.refl _ _ | refine Below.alloc ?_ (by first | omega | (simp; done) | (simp; omega)) _ | refine Below.setCell ?_ (by first | omega | (simp; done) | (simp; omega)) _))))).mono ?_
  rintro e w12 ⟨rfl, hb⟩
  have HB12 := Lib.hid (Below.trans (B := w.heap.size) (a := w) (by repeat (first | exact HB11.out | exact Below.refl _ _ | refine Below.alloc ?_ (by first | omega | (simp; done) | (simp; omega)) _ | refine Below.setCell ?_ (by first | omega | (simp; done) | (simp; omega)) _)) (hb.mono (by first | omega | (simp; done) | (simp; omega))))
  have hz12 := hb.size
  try simp at hz12
  have E1_12 := Lib.hid (ErrR.under (B := BE1) (v := v1) (n := 0) (by repeat (first | exact E1_11.out | refine ErrR.alloc ?_ _ | refine ErrR.setCell ?_ (by first | omega | (simp; done) | (simp; omega)) _)) hb)
  clear E1_11
  have E3_12 := Lib.hid (ErrR.under (B := BE3) (v := v3) (n := 11) (by repeat (first | exact E3_11.out | refine ErrR.alloc ?_ _ | refine ErrR.setCell ?_ (by first | omega | (simp; done) | (simp; omega)) _)) hb)
  clear E3_11
  have E5_12 := Lib.hid (ErrR.under (B := BE5) (v := v5) (n := 0) (by repeat (first | exact E5_11.out | refine ErrR.alloc ?_ _ | refine ErrR.setCell ?_ (by first | omega | (simp; done) | (simp; omega)) _)) hb)
  clear E5_11
  have E6_12 := Lib.hid (ErrR.under (B := BE6) (v := v6) (n := 0) (by repeat (first | exact E6_11.out | refine ErrR.alloc ?_ _ | refine ErrR.setCell ?_ (by first | omega | (simp; done) | (simp; omega)) _)) hb)
  clear E6_11
  obtain ⟨hc12, hf12⟩ := bcell hb
  clear hb
  try have hl_wheapsize_w12 : w.heap.size < w12.heap.size := by omega
  try have hm_wheapsize_w12 : w.heap.size ≤ w12.heap.size := by omega
  try have hl_w1heapsize_w12 : w1.heap.size < w12.heap.size := by omega
  try have hm_w1heapsize_w12 : w1.heap.size ≤ w12.heap.size := by omega
  try have hl_w2heapsize_w12 : w2.heap.size < w12.heap.size := by omega
  try have hm_w2heapsize_w12 : w2.heap.size ≤ w12.heap.size := by omega
  try have hl_w3heapsize_w12 : w3.heap.size < w12.heap.size := by omega
  try have hm_w3heapsize_w12 : w3.heap.size ≤ w12.heap.size := by omega
  try have hl_w4heapsize_w12 : w4.heap.size < w12.heap.size := by omega
  try have hm_w4heapsize_w12 : w4.heap.size ≤ w12.heap.size := by omega
  try have hl_w5heapsize_w12 : w5.heap.size < w12.heap.size := by omega
  try have hm_w5heapsize_w12 : w5.heap.size ≤ w12.heap.size := by omega
  try have hl_w6heapsize_w12 : w6.heap.size < w12.heap.size := by omega
  try have hm_w6heapsize_w12 : w6.heap.size ≤ w12.heap.size := by omega
  try have hl_w7heapsize_w12 : w7.heap.size < w12.heap.size := by omega
  try have hm_w7heapsize_w12 : w7.heap.size ≤ w12.heap.size := by omega
  try have hl_w8heapsize_w12 : w8.heap.size < w12.heap.size := by omega
  try have hm_w8heapsize_w12 : w8.heap.size ≤ w12.heap.size := by omega
  try have hl_w9heapsize_w12 : w9.heap.size < w12.heap.size := by omega
  try have hm_w9heapsize_w12 : w9.heap.size ≤ w12.heap.size := by omega
  try have hl_w10heapsize_w12 : w10.heap.size < w12.heap.size := by omega
  try have hm_w10heapsize_w12 : w10.heap.size ≤ w12.heap.size := by omega
  try have hl_w11heapsize_w12 : w11.heap.size < w12.heap.size := by omega
  try have hm_w11heapsize_w12 : w11.heap.size ≤ w12.heap.size := by omega
  clear E5_12
  go_wp2_with fail
  refine (Num_any (B := BE6) _ v6 0 (by exact (by repeat (first | exact E6_12.out | refine ErrR.alloc ?_ _ | refine ErrR.setCell ?_ (by first | omega | (simp; done) | (simp; omega)) _))) (by exact (T.out.under T.out.lt (by repeat (first | exact HB12.out | exact Below.refl _ _ | refine Below.alloc ?_ (by first | omega | (simp; done) | (simp; omega)) _ | refine Below.setCell ?_ (by first | omega | (simp; done) | (simp; omega)) _))))).mono ?_
  rintro e w13 ⟨rfl, hb⟩
  have HB13 := Lib.hid (Below.trans (B := w.heap.size) (a := w) (by repeat (first | exact HB12.out | exact Below.refl _ _ | refine Below.alloc ?_ (by first | omega | (simp; done) | (simp; omega)) _ | refine Below.setCell ?_ (by first | omega | (simp; done) | (simp; omega)) _)) (hb.mono (by first | omega | (simp; done) | (simp; omega))))
  have hz13 := hb.size
  try simp at hz13
  have E1_13 := Lib.hid (ErrR.under (B := BE1) (v := v1) (n := 0) (by repeat (first | exact E1_12.out | refine ErrR.alloc ?_ _ | refine ErrR.setCell ?_ (by first | omega | (simp; done) | (simp; omega)) _)) hb)
  clear E1_12
  have E3_13 := Lib.hid (ErrR.under (B := BE3) (v := v3) (n := 11) (by repeat (first | exact E3_12.out | refine ErrR.alloc ?_ _ | refine ErrR.setCell ?_ (by first | omega | (simp; done) | (simp; omega)) _)) hb)
  clear E3_12
  have E6_13 := Lib.hid (ErrR.under (B := BE6) (v := v6) (n := 0) (by repeat (first | exact E6_12.out | refine ErrR.alloc ?_ _ | refine ErrR.setCell ?_ (by first | omega | (simp; done) | (simp; omega)) _)) hb)
  clear E6_12
  obtain ⟨hc13, hf13⟩ := bcell hb
  clear hb
  try have hl_wheapsize_w13 : w.heap.size < w13.heap.size := by omega
  try have hm_wheapsize_w13 : w.heap.size ≤ w13.heap.size := by omega
  try have hl_w1heapsize_w13 : w1.heap.size < w13.heap.size := by omega
  try have hm_w1heapsize_w13 : w1.heap.size ≤ w13.heap.size := by omega
  try have hl_w2heapsize_w13 : w2.heap.size < w13.heap.size := by omega
  try have hm_w2heapsize_w13 : w2.heap.size ≤ w13.heap.size := by omega
  try have hl_w3heapsize_w13 : w3.heap.size < w13.heap.size := by omega
  try have hm_w3heapsize_w13 : w3.heap.size ≤ w13.heap.size := by omega
  try have hl_w4heapsize_w13 : w4.heap.size < w13.heap.size := by omega
  try have hm_w4heapsize_w13 : w4.heap.size ≤ w13.heap.size := by omega
  try have hl_w5heapsize_w13 : w5.heap.size < w13.heap.size := by omega
  try have hm_w5heapsize_w13 : w5.heap.size ≤ w13.heap.size := by omega
  try have hl_w6heapsize_w13 : w6.heap.size < w13.heap.size := by omega
  try have hm_w6heapsize_w13 : w6.heap.size ≤ w13.heap.size := by omega
  try have hl_w7heapsize_w13 : w7.heap.size < w13.heap.size := by omega
  try have hm_w7heapsize_w13 : w7.heap.size ≤ w13.heap.size := by omega
  try have hl_w8heapsize_w13 : w8.heap.size < w13.heap.size := by omega
  try have hm_w8heapsize_w13 : w8.heap.size ≤ w13.heap.size := by omega
  try have hl_w9heapsize_w13 : w9.heap.size < w13.heap.size := by omega
  try have hm_w9heapsize_w13 : w9.heap.size ≤ w13.heap.size := by omega
  try have hl_w10heapsize_w13 : w10.heap.size < w13.heap.size := by omega
  try have hm_w10heapsize_w13 : w10.heap.size ≤ w13.heap.size := by omega
  try have hl_w11heapsize_w13 : w11.heap.size < w13.heap.size := by omega
  try have hm_w11heapsize_w13 : w11.heap.size ≤ w13.heap.size := by omega
  try have hl_w12heapsize_w13 : w12.heap.size < w13.heap.size := by omega
  try have hm_w12heapsize_w13 : w12.heap.size ≤ w13.heap.size := by omega
  clear E6_13
  go_wp2_with fail
  refine (Num_any (B := BE1) _ v1 0 (by exact (by repeat (first | exact E1_13.out | refine ErrR.alloc ?_ _ | refine ErrR.setCell ?_ (by first | omega | (simp; done) | (simp; omega)) _))) (by exact (T.out.under T.out.lt (by repeat (first | exact HB13.out | exact Below.refl _ _ | refine Below.alloc ?_ (by first | omega | (simp; done) | (simp; omega)) _ | refine Below.setCell ?_ (by first | omega | (simp; done) | (simp; omega)) _))))).mono ?_
  rintro e w14 ⟨rfl, hb⟩
  have HB14 := Lib.hid (Below.trans (B := w.heap.size) (a := w) (by repeat (first | exact HB13.out | exact Below.refl _ _ | refine Below.alloc ?_ (by first | omega | (simp; done) | (simp; omega)) _ | refine Below.setCell ?_ (by first | omega | (simp; done) | (simp; omega)) _)) (hb.mono (by first | omega | (simp; done) | (simp; omega))))
  have hz14 := hb.size
  try simp at hz14
  have E1_14 := Lib.hid (ErrR.under (B := BE1) (v := v1) (n := 0) (by repeat (first | exact E1_13.out | refine ErrR.alloc ?_ _ | refine ErrR.setCell ?_ (by first | omega | (simp; done) | (simp; omega)) _)) hb)
  clear E1_13
  have E3_14 := Lib.hid (ErrR.under (B := BE3) (v := v3) (n := 11) (by repeat (first | exact E3_13.out | refine ErrR.alloc ?_ _ | refine ErrR.setCell ?_ (by first | omega | (simp; done) | (simp; omega)) _)) hb)
  clear E3_13
  obtain ⟨hc14, hf14⟩ := bcell hb
  clear hb
  try have hl_wheapsize_w14 : w.heap.size < w14.heap.size := by omega
  try have hm_wheapsize_w14 : w.heap.size ≤ w14.heap.size := by omega
  try have hl_w1heapsize_w14 : w1.heap.size < w14.heap.size := by omega
  try have hm_w1heapsize_w14 : w1.heap.size ≤ w14.heap.size := by omega
  try have hl_w2heapsize_w14 : w2.heap.size < w14.heap.size := by omega
  try have hm_w2heapsize_w14 : w2.heap.size ≤ w14.heap.size := by omega
  try have hl_w3heapsize_w14 : w3.heap.size < w14.heap.size := by omega
  try have hm_w3heapsize_w14 : w3.heap.size ≤ w14.heap.size := by omega
  try have hl_w4heapsize_w14 : w4.heap.size < w14.heap.size := by omega
  try have hm_w4heapsize_w14 : w4.heap.size ≤ w14.heap.size := by omega
  try have hl_w5heapsize_w14 : w5.heap.size < w14.heap.size := by omega
  try have hm_w5heapsize_w14 : w5.heap.size ≤ w14.heap.size := by omega
  try have hl_w6heapsize_w14 : w6.heap.size < w14.heap.size := by omega
  try have hm_w6heapsize_w14 : w6.heap.size ≤ w14.heap.size := by omega
  try have hl_w7heapsize_w14 : w7.heap.size < w14.heap.size := by omega
  try have hm_w7heapsize_w14 : w7.heap.size ≤ w14.heap.size := by omega
  try have hl_w8heapsize_w14 : w8.heap.size < w14.heap.size := by omega
  try have hm_w8heapsize_w14 : w8.heap.size ≤ w14.heap.size := by omega
  try have hl_w9heapsize_w14 : w9.heap.size < w14.heap.size := by omega
  try have hm_w9heapsize_w14 : w9.heap.size ≤ w14.heap.size := by omega
  try have hl_w10heapsize_w14 : w10.heap.size < w14.heap.size := by omega
  try have hm_w10heapsize_w14 : w10.heap.size ≤ w14.heap.size := by omega
  try have hl_w11heapsize_w14 : w11.heap.size < w14.heap.size := by omega
  try have hm_w11heapsize_w14 : w11.heap.size ≤ w14.heap.size := by omega
  try have hl_w12heapsize_w14 : w12.heap.size < w14.heap.size := by omega
  try have hm_w12heapsize_w14 : w12.heap.size ≤ w14.heap.size := by omega
  try have hl_w13heapsize_w14 : w13.heap.size < w14.heap.size := by omega
  try have hm_w13heapsize_w14 : w13.heap.size ≤ w14.heap.size := by omega
  clear E1_14
  go_wp2_with fail
  go_ret
  exact ⟨rfl, (by repeat (first | exact HB14.out | exact Below.refl _ _ | refine Below.alloc ?_ (by first | omega | (simp; done) | (simp; omega)) _ | refine Below.setCell ?_ (by first | omega | (simp; done) | (simp; omega)) _))⟩
set_option maxHeartbeats 2000000 in
theorem parts_none (ch a b x m1 m : Int) (p0 : 0 ≤ ch) (p1 : ch ≤ 255) (p2 : 0 ≤ a) (p3 : a ≤ 255) (p4 : 0 ≤ b) (p5 : b ≤ 255) (q0 : 0 ≤ x) (q1 : x ≤ 200) (r0 : x < a) (r1 : b = 0) (hx : ch % 201 = x) (hm1 : Hid (min a (200 - x) = m1)) (hm : Hid (min (a + b) (200 - x) = m)) (w : World) (tied : Tied w) :
    Calls Tryd.prog 7 #[.int .u8 ch, .int .u8 a, .int .u8 b] w fun e w' => e = .returned (.bool true) ∧ Below w.heap.size w w' := by
  have h1 : Hid (spendR x 0 0 0 a = ⟨11, 0, 0, 0, 0⟩) := spendR_low ((rightB_iff _ _ _ _).2 (by omega)) p2 r0
  have h2 : Hid (spendR 0 0 0 0 b = ⟨0, 0, 0, 0, 0⟩) := by rw [r1]; exact (show spendR 0 0 0 0 0 = ⟨0, 0, 0, 0, 0⟩ by decide)
  have h3 : Hid (spendR x 0 0 0 (a + b) = ⟨11, 0, 0, 0, 0⟩) := spendR_low ((rightB_iff _ _ _ _).2 (by omega)) (by omega) (by omega)
  clear r1
  have g1 : Hid (gainR x 0 0 0 a = ⟨0, x + m1, 0, m1, 0⟩) := by
    have h := gainR_ok (c := x) (s := 0) (g := 0) (d := 0) (n := a) ((rightB_iff _ _ _ _).2 (by omega)) p2 ((rightB_iff _ _ _ _).2 (by omega))
    rw [hm1.out, Int.zero_add] at h; exact h
  have g2 : Hid (gainR (x + m1) 0 m1 0 b = ⟨0, x + m, 0, m, 0⟩) := by
    have h' := hm.out
    have h1' := hm1.out
    have h := gainR_ok (c := x + m1) (s := 0) (g := m1) (d := 0) (n := b) ((rightB_iff _ _ _ _).2 (by omega)) p4 ((rightB_iff _ _ _ _).2 (by omega))
    rw [show x + m1 + min b (200 - (x + m1)) = x + m by omega, show m1 + min b (200 - (x + m1)) = m by omega] at h; exact h
  have g3 : Hid (gainR x 0 0 0 (a + b) = ⟨0, x + m, 0, m, 0⟩) := by
    have h := gainR_ok (c := x) (s := 0) (g := 0) (d := 0) (n := a + b) ((rightB_iff _ _ _ _).2 (by omega)) (by omega) ((rightB_iff _ _ _ _).2 (by omega))
    rw [hm.out, Int.zero_add] at h; exact h
  clear hm hm1
  have HB0 := Lib.hid (Below.refl w.heap.size w)
  have T := Lib.hid tied
  clear tied
  go_enter Tryd.func7, Tryd.ntmps7
  go_wp2_with fail
  refine (volt_awake _ (by exact (T.out.under T.out.lt (by repeat (first | exact HB0.out | exact Below.refl _ _ | refine Below.alloc ?_ (by first | omega | (simp; done) | (simp; omega)) _ | refine Below.setCell ?_ (by first | omega | (simp; done) | (simp; omega)) _))))).mono ?_
  rintro e w1 ⟨rfl, hb⟩
  have HB1 := Lib.hid (Below.trans (B := w.heap.size) (a := w) (by repeat (first | exact HB0.out | exact Below.refl _ _ | refine Below.alloc ?_ (by first | omega | (simp; done) | (simp; omega)) _ | refine Below.setCell ?_ (by first | omega | (simp; done) | (simp; omega)) _)) (hb.mono (by first | omega | (simp; done) | (simp; omega))))
  have hz1 := hb.size
  try simp at hz1
  obtain ⟨hc1, hf1⟩ := bcell hb
  clear hb
  try have hl_wheapsize_w1 : w.heap.size < w1.heap.size := by omega
  try have hm_wheapsize_w1 : w.heap.size ≤ w1.heap.size := by omega
  go_wp2_with fail
  refine (volt_spend_eq h1.out _).mono ?_
  rintro e w2 ⟨v1, rfl, hr, hb⟩
  have HB2 := Lib.hid (Below.trans (B := w.heap.size) (a := w) (by repeat (first | exact HB1.out | exact Below.refl _ _ | refine Below.alloc ?_ (by first | omega | (simp; done) | (simp; omega)) _ | refine Below.setCell ?_ (by first | omega | (simp; done) | (simp; omega)) _)) (hb.mono (by first | omega | (simp; done) | (simp; omega))))
  have hz2 := hb.size
  try simp at hz2
  obtain ⟨hc2, hf2⟩ := bcell hb
  obtain ⟨BE1, hr, hBE1⟩ := err_at hr
  try simp at hBE1
  have E1_2 := Lib.hid hr
  clear hr
  clear hb
  try have hl_wheapsize_w2 : w.heap.size < w2.heap.size := by omega
  try have hm_wheapsize_w2 : w.heap.size ≤ w2.heap.size := by omega
  try have hl_w1heapsize_w2 : w1.heap.size < w2.heap.size := by omega
  try have hm_w1heapsize_w2 : w1.heap.size ≤ w2.heap.size := by omega
  go_wp2_with fail
  refine (volt_spend_eq h2.out _).mono ?_
  rintro e w3 ⟨v2, rfl, hr, hb⟩
  have HB3 := Lib.hid (Below.trans (B := w.heap.size) (a := w) (by repeat (first | exact HB2.out | exact Below.refl _ _ | refine Below.alloc ?_ (by first | omega | (simp; done) | (simp; omega)) _ | refine Below.setCell ?_ (by first | omega | (simp; done) | (simp; omega)) _)) (hb.mono (by first | omega | (simp; done) | (simp; omega))))
  have hz3 := hb.size
  try simp at hz3
  have E1_3 := Lib.hid (ErrR.under (B := BE1) (v := v1) (n := 11) (by repeat (first | exact E1_2.out | refine ErrR.alloc ?_ _ | refine ErrR.setCell ?_ (by first | omega | (simp; done) | (simp; omega)) _)) hb)
  clear E1_2
  obtain ⟨hc3, hf3⟩ := bcell hb
  obtain ⟨BE2, hr, hBE2⟩ := err_at hr
  try simp at hBE2
  have E2_3 := Lib.hid hr
  clear hr
  clear hb
  try have hl_wheapsize_w3 : w.heap.size < w3.heap.size := by omega
  try have hm_wheapsize_w3 : w.heap.size ≤ w3.heap.size := by omega
  try have hl_w1heapsize_w3 : w1.heap.size < w3.heap.size := by omega
  try have hm_w1heapsize_w3 : w1.heap.size ≤ w3.heap.size := by omega
  try have hl_w2heapsize_w3 : w2.heap.size < w3.heap.size := by omega
  try have hm_w2heapsize_w3 : w2.heap.size ≤ w3.heap.size := by omega
  go_wp2_with fail
  refine (volt_spend_eq h3.out _).mono ?_
  rintro e w4 ⟨v3, rfl, hr, hb⟩
  have HB4 := Lib.hid (Below.trans (B := w.heap.size) (a := w) (by repeat (first | exact HB3.out | exact Below.refl _ _ | refine Below.alloc ?_ (by first | omega | (simp; done) | (simp; omega)) _ | refine Below.setCell ?_ (by first | omega | (simp; done) | (simp; omega)) _)) (hb.mono (by first | omega | (simp; done) | (simp; omega))))
  have hz4 := hb.size
  try simp at hz4
  have E1_4 := Lib.hid (ErrR.under (B := BE1) (v := v1) (n := 11) (by repeat (first | exact E1_3.out | refine ErrR.alloc ?_ _ | refine ErrR.setCell ?_ (by first | omega | (simp; done) | (simp; omega)) _)) hb)
  clear E1_3
  have E2_4 := Lib.hid (ErrR.under (B := BE2) (v := v2) (n := 0) (by repeat (first | exact E2_3.out | refine ErrR.alloc ?_ _ | refine ErrR.setCell ?_ (by first | omega | (simp; done) | (simp; omega)) _)) hb)
  clear E2_3
  obtain ⟨hc4, hf4⟩ := bcell hb
  obtain ⟨BE3, hr, hBE3⟩ := err_at hr
  try simp at hBE3
  have E3_4 := Lib.hid hr
  clear hr
  clear hb
  try have hl_wheapsize_w4 : w.heap.size < w4.heap.size := by omega
  try have hm_wheapsize_w4 : w.heap.size ≤ w4.heap.size := by omega
  try have hl_w1heapsize_w4 : w1.heap.size < w4.heap.size := by omega
  try have hm_w1heapsize_w4 : w1.heap.size ≤ w4.heap.size := by omega
  try have hl_w2heapsize_w4 : w2.heap.size < w4.heap.size := by omega
  try have hm_w2heapsize_w4 : w2.heap.size ≤ w4.heap.size := by omega
  try have hl_w3heapsize_w4 : w3.heap.size < w4.heap.size := by omega
  try have hm_w3heapsize_w4 : w3.heap.size ≤ w4.heap.size := by omega
  go_wp2_with fail
  refine (Num_any (B := BE1) _ v1 11 (by exact (by repeat (first | exact E1_4.out | refine ErrR.alloc ?_ _ | refine ErrR.setCell ?_ (by first | omega | (simp; done) | (simp; omega)) _))) (by exact (T.out.under T.out.lt (by repeat (first | exact HB4.out | exact Below.refl _ _ | refine Below.alloc ?_ (by first | omega | (simp; done) | (simp; omega)) _ | refine Below.setCell ?_ (by first | omega | (simp; done) | (simp; omega)) _))))).mono ?_
  rintro e w5 ⟨rfl, hb⟩
  have HB5 := Lib.hid (Below.trans (B := w.heap.size) (a := w) (by repeat (first | exact HB4.out | exact Below.refl _ _ | refine Below.alloc ?_ (by first | omega | (simp; done) | (simp; omega)) _ | refine Below.setCell ?_ (by first | omega | (simp; done) | (simp; omega)) _)) (hb.mono (by first | omega | (simp; done) | (simp; omega))))
  have hz5 := hb.size
  try simp at hz5
  have E1_5 := Lib.hid (ErrR.under (B := BE1) (v := v1) (n := 11) (by repeat (first | exact E1_4.out | refine ErrR.alloc ?_ _ | refine ErrR.setCell ?_ (by first | omega | (simp; done) | (simp; omega)) _)) hb)
  clear E1_4
  have E2_5 := Lib.hid (ErrR.under (B := BE2) (v := v2) (n := 0) (by repeat (first | exact E2_4.out | refine ErrR.alloc ?_ _ | refine ErrR.setCell ?_ (by first | omega | (simp; done) | (simp; omega)) _)) hb)
  clear E2_4
  have E3_5 := Lib.hid (ErrR.under (B := BE3) (v := v3) (n := 11) (by repeat (first | exact E3_4.out | refine ErrR.alloc ?_ _ | refine ErrR.setCell ?_ (by first | omega | (simp; done) | (simp; omega)) _)) hb)
  clear E3_4
  obtain ⟨hc5, hf5⟩ := bcell hb
  clear hb
  try have hl_wheapsize_w5 : w.heap.size < w5.heap.size := by omega
  try have hm_wheapsize_w5 : w.heap.size ≤ w5.heap.size := by omega
  try have hl_w1heapsize_w5 : w1.heap.size < w5.heap.size := by omega
  try have hm_w1heapsize_w5 : w1.heap.size ≤ w5.heap.size := by omega
  try have hl_w2heapsize_w5 : w2.heap.size < w5.heap.size := by omega
  try have hm_w2heapsize_w5 : w2.heap.size ≤ w5.heap.size := by omega
  try have hl_w3heapsize_w5 : w3.heap.size < w5.heap.size := by omega
  try have hm_w3heapsize_w5 : w3.heap.size ≤ w5.heap.size := by omega
  try have hl_w4heapsize_w5 : w4.heap.size < w5.heap.size := by omega
  try have hm_w4heapsize_w5 : w4.heap.size ≤ w5.heap.size := by omega
  go_wp2_with fail
  refine (volt_gain_eq g1.out _).mono ?_
  rintro e w6 ⟨v4, rfl, hr, hb⟩
  have HB6 := Lib.hid (Below.trans (B := w.heap.size) (a := w) (by repeat (first | exact HB5.out | exact Below.refl _ _ | refine Below.alloc ?_ (by first | omega | (simp; done) | (simp; omega)) _ | refine Below.setCell ?_ (by first | omega | (simp; done) | (simp; omega)) _)) (hb.mono (by first | omega | (simp; done) | (simp; omega))))
  have hz6 := hb.size
  try simp at hz6
  have E1_6 := Lib.hid (ErrR.under (B := BE1) (v := v1) (n := 11) (by repeat (first | exact E1_5.out | refine ErrR.alloc ?_ _ | refine ErrR.setCell ?_ (by first | omega | (simp; done) | (simp; omega)) _)) hb)
  clear E1_5
  have E2_6 := Lib.hid (ErrR.under (B := BE2) (v := v2) (n := 0) (by repeat (first | exact E2_5.out | refine ErrR.alloc ?_ _ | refine ErrR.setCell ?_ (by first | omega | (simp; done) | (simp; omega)) _)) hb)
  clear E2_5
  have E3_6 := Lib.hid (ErrR.under (B := BE3) (v := v3) (n := 11) (by repeat (first | exact E3_5.out | refine ErrR.alloc ?_ _ | refine ErrR.setCell ?_ (by first | omega | (simp; done) | (simp; omega)) _)) hb)
  clear E3_5
  obtain ⟨hc6, hf6⟩ := bcell hb
  obtain ⟨BE4, hr, hBE4⟩ := err_at hr
  try simp at hBE4
  have E4_6 := Lib.hid hr
  clear hr
  clear hb
  try have hl_wheapsize_w6 : w.heap.size < w6.heap.size := by omega
  try have hm_wheapsize_w6 : w.heap.size ≤ w6.heap.size := by omega
  try have hl_w1heapsize_w6 : w1.heap.size < w6.heap.size := by omega
  try have hm_w1heapsize_w6 : w1.heap.size ≤ w6.heap.size := by omega
  try have hl_w2heapsize_w6 : w2.heap.size < w6.heap.size := by omega
  try have hm_w2heapsize_w6 : w2.heap.size ≤ w6.heap.size := by omega
  try have hl_w3heapsize_w6 : w3.heap.size < w6.heap.size := by omega
  try have hm_w3heapsize_w6 : w3.heap.size ≤ w6.heap.size := by omega
  try have hl_w4heapsize_w6 : w4.heap.size < w6.heap.size := by omega
  try have hm_w4heapsize_w6 : w4.heap.size ≤ w6.heap.size := by omega
  try have hl_w5heapsize_w6 : w5.heap.size < w6.heap.size := by omega
  try have hm_w5heapsize_w6 : w5.heap.size ≤ w6.heap.size := by omega
  go_wp2_with fail
  refine (volt_gain_eq g2.out _).mono ?_
  rintro e w7 ⟨v5, rfl, hr, hb⟩
  have HB7 := Lib.hid (Below.trans (B := w.heap.size) (a := w) (by repeat (first | exact HB6.out | exact Below.refl _ _ | refine Below.alloc ?_ (by first | omega | (simp; done) | (simp; omega)) _ | refine Below.setCell ?_ (by first | omega | (simp; done) | (simp; omega)) _)) (hb.mono (by first | omega | (simp; done) | (simp; omega))))
  have hz7 := hb.size
  try simp at hz7
  have E1_7 := Lib.hid (ErrR.under (B := BE1) (v := v1) (n := 11) (by repeat (first | exact E1_6.out | refine ErrR.alloc ?_ _ | refine ErrR.setCell ?_ (by first | omega | (simp; done) | (simp; omega)) _)) hb)
  clear E1_6
  have E2_7 := Lib.hid (ErrR.under (B := BE2) (v := v2) (n := 0) (by repeat (first | exact E2_6.out | refine ErrR.alloc ?_ _ | refine ErrR.setCell ?_ (by first | omega | (simp; done) | (simp; omega)) _)) hb)
  clear E2_6
  have E3_7 := Lib.hid (ErrR.under (B := BE3) (v := v3) (n := 11) (by repeat (first | exact E3_6.out | refine ErrR.alloc ?_ _ | refine ErrR.setCell ?_ (by first | omega | (simp; done) | (simp; omega)) _)) hb)
  clear E3_6
  have E4_7 := Lib.hid (ErrR.under (B := BE4) (v := v4) (n := 0) (by repeat (first | exact E4_6.out | refine ErrR.alloc ?_ _ | refine ErrR.setCell ?_ (by first | omega | (simp; done) | (simp; omega)) _)) hb)
  clear E4_6
  obtain ⟨hc7, hf7⟩ := bcell hb
  obtain ⟨BE5, hr, hBE5⟩ := err_at hr
  try simp at hBE5
  have E5_7 := Lib.hid hr
  clear hr
  clear hb
  try have hl_wheapsize_w7 : w.heap.size < w7.heap.size := by omega
  try have hm_wheapsize_w7 : w.heap.size ≤ w7.heap.size := by omega
  try have hl_w1heapsize_w7 : w1.heap.size < w7.heap.size := by omega
  try have hm_w1heapsize_w7 : w1.heap.size ≤ w7.heap.size := by omega
  try have hl_w2heapsize_w7 : w2.heap.size < w7.heap.size := by omega
  try have hm_w2heapsize_w7 : w2.heap.size ≤ w7.heap.size := by omega
  try have hl_w3heapsize_w7 : w3.heap.size < w7.heap.size := by omega
  try have hm_w3heapsize_w7 : w3.heap.size ≤ w7.heap.size := by omega
  try have hl_w4heapsize_w7 : w4.heap.size < w7.heap.size := by omega
  try have hm_w4heapsize_w7 : w4.heap.size ≤ w7.heap.size := by omega
  try have hl_w5heapsize_w7 : w5.heap.size < w7.heap.size := by omega
  try have hm_w5heapsize_w7 : w5.heap.size ≤ w7.heap.size := by omega
  try have hl_w6heapsize_w7 : w6.heap.size < w7.heap.size := by omega
  try have hm_w6heapsize_w7 : w6.heap.size ≤ w7.heap.size := by omega
  go_wp2_with fail
  refine (volt_gain_eq g3.out _).mono ?_
  rintro e w8 ⟨v6, rfl, hr, hb⟩
  have HB8 := Lib.hid (Below.trans (B := w.heap.size) (a := w) (by repeat (first | exact HB7.out | exact Below.refl _ _ | refine Below.alloc ?_ (by first | omega | (simp; done) | (simp; omega)) _ | refine Below.setCell ?_ (by first | omega | (simp; done) | (simp; omega)) _)) (hb.mono (by first | omega | (simp; done) | (simp; omega))))
  have hz8 := hb.size
  try simp at hz8
  have E1_8 := Lib.hid (ErrR.under (B := BE1) (v := v1) (n := 11) (by repeat (first | exact E1_7.out | refine ErrR.alloc ?_ _ | refine ErrR.setCell ?_ (by first | omega | (simp; done) | (simp; omega)) _)) hb)
  clear E1_7
  have E2_8 := Lib.hid (ErrR.under (B := BE2) (v := v2) (n := 0) (by repeat (first | exact E2_7.out | refine ErrR.alloc ?_ _ | refine ErrR.setCell ?_ (by first | omega | (simp; done) | (simp; omega)) _)) hb)
  clear E2_7
  have E3_8 := Lib.hid (ErrR.under (B := BE3) (v := v3) (n := 11) (by repeat (first | exact E3_7.out | refine ErrR.alloc ?_ _ | refine ErrR.setCell ?_ (by first | omega | (simp; done) | (simp; omega)) _)) hb)
  clear E3_7
  have E4_8 := Lib.hid (ErrR.under (B := BE4) (v := v4) (n := 0) (by repeat (first | exact E4_7.out | refine ErrR.alloc ?_ _ | refine ErrR.setCell ?_ (by first | omega | (simp; done) | (simp; omega)) _)) hb)
  clear E4_7
  have E5_8 := Lib.hid (ErrR.under (B := BE5) (v := v5) (n := 0) (by repeat (first | exact E5_7.out | refine ErrR.alloc ?_ _ | refine ErrR.setCell ?_ (by first | omega | (simp; done) | (simp; omega)) _)) hb)
  clear E5_7
  obtain ⟨hc8, hf8⟩ := bcell hb
  obtain ⟨BE6, hr, hBE6⟩ := err_at hr
  try simp at hBE6
  have E6_8 := Lib.hid hr
  clear hr
  clear hb
  try have hl_wheapsize_w8 : w.heap.size < w8.heap.size := by omega
  try have hm_wheapsize_w8 : w.heap.size ≤ w8.heap.size := by omega
  try have hl_w1heapsize_w8 : w1.heap.size < w8.heap.size := by omega
  try have hm_w1heapsize_w8 : w1.heap.size ≤ w8.heap.size := by omega
  try have hl_w2heapsize_w8 : w2.heap.size < w8.heap.size := by omega
  try have hm_w2heapsize_w8 : w2.heap.size ≤ w8.heap.size := by omega
  try have hl_w3heapsize_w8 : w3.heap.size < w8.heap.size := by omega
  try have hm_w3heapsize_w8 : w3.heap.size ≤ w8.heap.size := by omega
  try have hl_w4heapsize_w8 : w4.heap.size < w8.heap.size := by omega
  try have hm_w4heapsize_w8 : w4.heap.size ≤ w8.heap.size := by omega
  try have hl_w5heapsize_w8 : w5.heap.size < w8.heap.size := by omega
  try have hm_w5heapsize_w8 : w5.heap.size ≤ w8.heap.size := by omega
  try have hl_w6heapsize_w8 : w6.heap.size < w8.heap.size := by omega
  try have hm_w6heapsize_w8 : w6.heap.size ≤ w8.heap.size := by omega
  try have hl_w7heapsize_w8 : w7.heap.size < w8.heap.size := by omega
  try have hm_w7heapsize_w8 : w7.heap.size ≤ w8.heap.size := by omega
  go_wp2_with fail
  refine (Num_any (B := BE4) _ v4 0 (by exact (by repeat (first | exact E4_8.out | refine ErrR.alloc ?_ _ | refine ErrR.setCell ?_ (by first | omega | (simp; done) | (simp; omega)) _))) (by exact (T.out.under T.out.lt (by repeat (first | exact HB8.out | exact Below.refl _ _ | refine Below.alloc ?_ (by first | omega | (simp; done) | (simp; omega)) _ | refine Below.setCell ?_ (by first | omega | (simp; done) | (simp; omega)) _))))).mono ?_
  rintro e w9 ⟨rfl, hb⟩
  have HB9 := Lib.hid (Below.trans (B := w.heap.size) (a := w) (by repeat (first | exact HB8.out | exact Below.refl _ _ | refine Below.alloc ?_ (by first | omega | (simp; done) | (simp; omega)) _ | refine Below.setCell ?_ (by first | omega | (simp; done) | (simp; omega)) _)) (hb.mono (by first | omega | (simp; done) | (simp; omega))))
  have hz9 := hb.size
  try simp at hz9
  have E1_9 := Lib.hid (ErrR.under (B := BE1) (v := v1) (n := 11) (by repeat (first | exact E1_8.out | refine ErrR.alloc ?_ _ | refine ErrR.setCell ?_ (by first | omega | (simp; done) | (simp; omega)) _)) hb)
  clear E1_8
  have E2_9 := Lib.hid (ErrR.under (B := BE2) (v := v2) (n := 0) (by repeat (first | exact E2_8.out | refine ErrR.alloc ?_ _ | refine ErrR.setCell ?_ (by first | omega | (simp; done) | (simp; omega)) _)) hb)
  clear E2_8
  have E3_9 := Lib.hid (ErrR.under (B := BE3) (v := v3) (n := 11) (by repeat (first | exact E3_8.out | refine ErrR.alloc ?_ _ | refine ErrR.setCell ?_ (by first | omega | (simp; done) | (simp; omega)) _)) hb)
  clear E3_8
  have E4_9 := Lib.hid (ErrR.under (B := BE4) (v := v4) (n := 0) (by repeat (first | exact E4_8.out | refine ErrR.alloc ?_ _ | refine ErrR.setCell ?_ (by first | omega | (simp; done) | (simp; omega)) _)) hb)
  clear E4_8
  have E5_9 := Lib.hid (ErrR.under (B := BE5) (v := v5) (n := 0) (by repeat (first | exact E5_8.out | refine ErrR.alloc ?_ _ | refine ErrR.setCell ?_ (by first | omega | (simp; done) | (simp; omega)) _)) hb)
  clear E5_8
  have E6_9 := Lib.hid (ErrR.under (B := BE6) (v := v6) (n := 0) (by repeat (first | exact E6_8.out | refine ErrR.alloc ?_ _ | refine ErrR.setCell ?_ (by first | omega | (simp; done) | (simp; omega)) _)) hb)
  clear E6_8
  obtain ⟨hc9, hf9⟩ := bcell hb
  clear hb
  try have hl_wheapsize_w9 : w.heap.size < w9.heap.size := by omega
  try have hm_wheapsize_w9 : w.heap.size ≤ w9.heap.size := by omega
  try have hl_w1heapsize_w9 : w1.heap.size < w9.heap.size := by omega
  try have hm_w1heapsize_w9 : w1.heap.size ≤ w9.heap.size := by omega
  try have hl_w2heapsize_w9 : w2.heap.size < w9.heap.size := by omega
  try have hm_w2heapsize_w9 : w2.heap.size ≤ w9.heap.size := by omega
  try have hl_w3heapsize_w9 : w3.heap.size < w9.heap.size := by omega
  try have hm_w3heapsize_w9 : w3.heap.size ≤ w9.heap.size := by omega
  try have hl_w4heapsize_w9 : w4.heap.size < w9.heap.size := by omega
  try have hm_w4heapsize_w9 : w4.heap.size ≤ w9.heap.size := by omega
  try have hl_w5heapsize_w9 : w5.heap.size < w9.heap.size := by omega
  try have hm_w5heapsize_w9 : w5.heap.size ≤ w9.heap.size := by omega
  try have hl_w6heapsize_w9 : w6.heap.size < w9.heap.size := by omega
  try have hm_w6heapsize_w9 : w6.heap.size ≤ w9.heap.size := by omega
  try have hl_w7heapsize_w9 : w7.heap.size < w9.heap.size := by omega
  try have hm_w7heapsize_w9 : w7.heap.size ≤ w9.heap.size := by omega
  try have hl_w8heapsize_w9 : w8.heap.size < w9.heap.size := by omega
  try have hm_w8heapsize_w9 : w8.heap.size ≤ w9.heap.size := by omega
  clear E4_9
  go_wp2_with fail
  refine (Num_any (B := BE5) _ v5 0 (by exact (by repeat (first | exact E5_9.out | refine ErrR.alloc ?_ _ | refine ErrR.setCell ?_ (by first | omega | (simp; done) | (simp; omega)) _))) (by exact (T.out.under T.out.lt (by repeat (first | exact HB9.out | exact Below.refl _ _ | refine Below.alloc ?_ (by first | omega | (simp; done) | (simp; omega)) _ | refine Below.setCell ?_ (by first | omega | (simp; done) | (simp; omega)) _))))).mono ?_
  rintro e w10 ⟨rfl, hb⟩
  have HB10 := Lib.hid (Below.trans (B := w.heap.size) (a := w) (by repeat (first | exact HB9.out | exact Below.refl _ _ | refine Below.alloc ?_ (by first | omega | (simp; done) | (simp; omega)) _ | refine Below.setCell ?_ (by first | omega | (simp; done) | (simp; omega)) _)) (hb.mono (by first | omega | (simp; done) | (simp; omega))))
  have hz10 := hb.size
  try simp at hz10
  have E1_10 := Lib.hid (ErrR.under (B := BE1) (v := v1) (n := 11) (by repeat (first | exact E1_9.out | refine ErrR.alloc ?_ _ | refine ErrR.setCell ?_ (by first | omega | (simp; done) | (simp; omega)) _)) hb)
  clear E1_9
  have E2_10 := Lib.hid (ErrR.under (B := BE2) (v := v2) (n := 0) (by repeat (first | exact E2_9.out | refine ErrR.alloc ?_ _ | refine ErrR.setCell ?_ (by first | omega | (simp; done) | (simp; omega)) _)) hb)
  clear E2_9
  have E3_10 := Lib.hid (ErrR.under (B := BE3) (v := v3) (n := 11) (by repeat (first | exact E3_9.out | refine ErrR.alloc ?_ _ | refine ErrR.setCell ?_ (by first | omega | (simp; done) | (simp; omega)) _)) hb)
  clear E3_9
  have E5_10 := Lib.hid (ErrR.under (B := BE5) (v := v5) (n := 0) (by repeat (first | exact E5_9.out | refine ErrR.alloc ?_ _ | refine ErrR.setCell ?_ (by first | omega | (simp; done) | (simp; omega)) _)) hb)
  clear E5_9
  have E6_10 := Lib.hid (ErrR.under (B := BE6) (v := v6) (n := 0) (by repeat (first | exact E6_9.out | refine ErrR.alloc ?_ _ | refine ErrR.setCell ?_ (by first | omega | (simp; done) | (simp; omega)) _)) hb)
  clear E6_9
  obtain ⟨hc10, hf10⟩ := bcell hb
  clear hb
  try have hl_wheapsize_w10 : w.heap.size < w10.heap.size := by omega
  try have hm_wheapsize_w10 : w.heap.size ≤ w10.heap.size := by omega
  try have hl_w1heapsize_w10 : w1.heap.size < w10.heap.size := by omega
  try have hm_w1heapsize_w10 : w1.heap.size ≤ w10.heap.size := by omega
  try have hl_w2heapsize_w10 : w2.heap.size < w10.heap.size := by omega
  try have hm_w2heapsize_w10 : w2.heap.size ≤ w10.heap.size := by omega
  try have hl_w3heapsize_w10 : w3.heap.size < w10.heap.size := by omega
  try have hm_w3heapsize_w10 : w3.heap.size ≤ w10.heap.size := by omega
  try have hl_w4heapsize_w10 : w4.heap.size < w10.heap.size := by omega
  try have hm_w4heapsize_w10 : w4.heap.size ≤ w10.heap.size := by omega
  try have hl_w5heapsize_w10 : w5.heap.size < w10.heap.size := by omega
  try have hm_w5heapsize_w10 : w5.heap.size ≤ w10.heap.size := by omega
  try have hl_w6heapsize_w10 : w6.heap.size < w10.heap.size := by omega
  try have hm_w6heapsize_w10 : w6.heap.size ≤ w10.heap.size := by omega
  try have hl_w7heapsize_w10 : w7.heap.size < w10.heap.size := by omega
  try have hm_w7heapsize_w10 : w7.heap.size ≤ w10.heap.size := by omega
  try have hl_w8heapsize_w10 : w8.heap.size < w10.heap.size := by omega
  try have hm_w8heapsize_w10 : w8.heap.size ≤ w10.heap.size := by omega
  try have hl_w9heapsize_w10 : w9.heap.size < w10.heap.size := by omega
  try have hm_w9heapsize_w10 : w9.heap.size ≤ w10.heap.size := by omega
  clear E5_10
  go_wp2_with fail
  refine (Num_any (B := BE6) _ v6 0 (by exact (by repeat (first | exact E6_10.out | refine ErrR.alloc ?_ _ | refine ErrR.setCell ?_ (by first | omega | (simp; done) | (simp; omega)) _))) (by exact (T.out.under T.out.lt (by repeat (first | exact HB10.out | exact Below.refl _ _ | refine Below.alloc ?_ (by first | omega | (simp; done) | (simp; omega)) _ | refine Below.setCell ?_ (by first | omega | (simp; done) | (simp; omega)) _))))).mono ?_
  rintro e w11 ⟨rfl, hb⟩
  have HB11 := Lib.hid (Below.trans (B := w.heap.size) (a := w) (by repeat (first | exact HB10.out | exact Below.refl _ _ | refine Below.alloc ?_ (by first | omega | (simp; done) | (simp; omega)) _ | refine Below.setCell ?_ (by first | omega | (simp; done) | (simp; omega)) _)) (hb.mono (by first | omega | (simp; done) | (simp; omega))))
  have hz11 := hb.size
  try simp at hz11
  have E1_11 := Lib.hid (ErrR.under (B := BE1) (v := v1) (n := 11) (by repeat (first | exact E1_10.out | refine ErrR.alloc ?_ _ | refine ErrR.setCell ?_ (by first | omega | (simp; done) | (simp; omega)) _)) hb)
  clear E1_10
  have E2_11 := Lib.hid (ErrR.under (B := BE2) (v := v2) (n := 0) (by repeat (first | exact E2_10.out | refine ErrR.alloc ?_ _ | refine ErrR.setCell ?_ (by first | omega | (simp; done) | (simp; omega)) _)) hb)
  clear E2_10
  have E3_11 := Lib.hid (ErrR.under (B := BE3) (v := v3) (n := 11) (by repeat (first | exact E3_10.out | refine ErrR.alloc ?_ _ | refine ErrR.setCell ?_ (by first | omega | (simp; done) | (simp; omega)) _)) hb)
  clear E3_10
  have E6_11 := Lib.hid (ErrR.under (B := BE6) (v := v6) (n := 0) (by repeat (first | exact E6_10.out | refine ErrR.alloc ?_ _ | refine ErrR.setCell ?_ (by first | omega | (simp; done) | (simp; omega)) _)) hb)
  clear E6_10
  obtain ⟨hc11, hf11⟩ := bcell hb
  clear hb
  try have hl_wheapsize_w11 : w.heap.size < w11.heap.size := by omega
  try have hm_wheapsize_w11 : w.heap.size ≤ w11.heap.size := by omega
  try have hl_w1heapsize_w11 : w1.heap.size < w11.heap.size := by omega
  try have hm_w1heapsize_w11 : w1.heap.size ≤ w11.heap.size := by omega
  try have hl_w2heapsize_w11 : w2.heap.size < w11.heap.size := by omega
  try have hm_w2heapsize_w11 : w2.heap.size ≤ w11.heap.size := by omega
  try have hl_w3heapsize_w11 : w3.heap.size < w11.heap.size := by omega
  try have hm_w3heapsize_w11 : w3.heap.size ≤ w11.heap.size := by omega
  try have hl_w4heapsize_w11 : w4.heap.size < w11.heap.size := by omega
  try have hm_w4heapsize_w11 : w4.heap.size ≤ w11.heap.size := by omega
  try have hl_w5heapsize_w11 : w5.heap.size < w11.heap.size := by omega
  try have hm_w5heapsize_w11 : w5.heap.size ≤ w11.heap.size := by omega
  try have hl_w6heapsize_w11 : w6.heap.size < w11.heap.size := by omega
  try have hm_w6heapsize_w11 : w6.heap.size ≤ w11.heap.size := by omega
  try have hl_w7heapsize_w11 : w7.heap.size < w11.heap.size := by omega
  try have hm_w7heapsize_w11 : w7.heap.size ≤ w11.heap.size := by omega
  try have hl_w8heapsize_w11 : w8.heap.size < w11.heap.size := by omega
  try have hm_w8heapsize_w11 : w8.heap.size ≤ w11.heap.size := by omega
  try have hl_w9heapsize_w11 : w9.heap.size < w11.heap.size := by omega
  try have hm_w9heapsize_w11 : w9.heap.size ≤ w11.heap.size := by omega
  try have hl_w10heapsize_w11 : w10.heap.size < w11.heap.size := by omega
  try have hm_w10heapsize_w11 : w10.heap.size ≤ w11.heap.size := by omega
  clear E6_11
  go_wp2_with fail
  refine (Num_any (B := BE1) _ v1 11 (by exact (by repeat (first | exact E1_11.out | refine ErrR.alloc ?_ _ | refine ErrR.setCell ?_ (by first | omega | (simp; done) | (simp; omega)) _))) (by exact (T.out.under T.out.lt (by repeat (first | exact HB11.out | exact Below.refl _ _ | refine Below.alloc ?_ (by first | omega | (simp; done) | (simp; omega)) _ | refine Below.setCell ?_ (by first | omega | (simp; done) | (simp; omega)) _))))).mono ?_
  rintro e w12 ⟨rfl, hb⟩
  have HB12 := Lib.hid (Below.trans (B := w.heap.size) (a := w) (by repeat (first | exact HB11.out | exact Below.refl _ _ | refine Below.alloc ?_ (by first | omega | (simp; done) | (simp; omega)) _ | refine Below.setCell ?_ (by first | omega | (simp; done) | (simp; omega)) _)) (hb.mono (by first | omega | (simp; done) | (simp; omega))))
  have hz12 := hb.size
  try simp at hz12
  have E1_12 := Lib.hid (ErrR.under (B := BE1) (v := v1) (n := 11) (by repeat (first | exact E1_11.out | refine ErrR.alloc ?_ _ | refine ErrR.setCell ?_ (by first | omega | (simp; done) | (simp; omega)) _)) hb)
  clear E1_11
  have E2_12 := Lib.hid (ErrR.under (B := BE2) (v := v2) (n := 0) (by repeat (first | exact E2_11.out | refine ErrR.alloc ?_ _ | refine ErrR.setCell ?_ (by first | omega | (simp; done) | (simp; omega)) _)) hb)
  clear E2_11
  have E3_12 := Lib.hid (ErrR.under (B := BE3) (v := v3) (n := 11) (by repeat (first | exact E3_11.out | refine ErrR.alloc ?_ _ | refine ErrR.setCell ?_ (by first | omega | (simp; done) | (simp; omega)) _)) hb)
  clear E3_11
  obtain ⟨hc12, hf12⟩ := bcell hb
  clear hb
  try have hl_wheapsize_w12 : w.heap.size < w12.heap.size := by omega
  try have hm_wheapsize_w12 : w.heap.size ≤ w12.heap.size := by omega
  try have hl_w1heapsize_w12 : w1.heap.size < w12.heap.size := by omega
  try have hm_w1heapsize_w12 : w1.heap.size ≤ w12.heap.size := by omega
  try have hl_w2heapsize_w12 : w2.heap.size < w12.heap.size := by omega
  try have hm_w2heapsize_w12 : w2.heap.size ≤ w12.heap.size := by omega
  try have hl_w3heapsize_w12 : w3.heap.size < w12.heap.size := by omega
  try have hm_w3heapsize_w12 : w3.heap.size ≤ w12.heap.size := by omega
  try have hl_w4heapsize_w12 : w4.heap.size < w12.heap.size := by omega
  try have hm_w4heapsize_w12 : w4.heap.size ≤ w12.heap.size := by omega
  try have hl_w5heapsize_w12 : w5.heap.size < w12.heap.size := by omega
  try have hm_w5heapsize_w12 : w5.heap.size ≤ w12.heap.size := by omega
  try have hl_w6heapsize_w12 : w6.heap.size < w12.heap.size := by omega
  try have hm_w6heapsize_w12 : w6.heap.size ≤ w12.heap.size := by omega
  try have hl_w7heapsize_w12 : w7.heap.size < w12.heap.size := by omega
  try have hm_w7heapsize_w12 : w7.heap.size ≤ w12.heap.size := by omega
  try have hl_w8heapsize_w12 : w8.heap.size < w12.heap.size := by omega
  try have hm_w8heapsize_w12 : w8.heap.size ≤ w12.heap.size := by omega
  try have hl_w9heapsize_w12 : w9.heap.size < w12.heap.size := by omega
  try have hm_w9heapsize_w12 : w9.heap.size ≤ w12.heap.size := by omega
  try have hl_w10heapsize_w12 : w10.heap.size < w12.heap.size := by omega
  try have hm_w10heapsize_w12 : w10.heap.size ≤ w12.heap.size := by omega
  try have hl_w11heapsize_w12 : w11.heap.size < w12.heap.size := by omega
  try have hm_w11heapsize_w12 : w11.heap.size ≤ w12.heap.size := by omega
  clear E1_12
  go_wp2_with fail
  refine (Num_any (B := BE3) _ v3 11 (by exact (by repeat (first | exact E3_12.out | refine ErrR.alloc ?_ _ | refine ErrR.setCell ?_ (by first | omega | (simp; done) | (simp; omega)) _))) (by exact (T.out.under T.out.lt (by repeat (first | exact HB12.out | exact Below.refl _ _ | refine Below.alloc ?_ (by first | omega | (simp; done) | (simp; omega)) _ | refine Below.setCell ?_ (by first | omega | (simp; done) | (simp; omega)) _))))).mono ?_
  rintro e w13 ⟨rfl, hb⟩
  have HB13 := Lib.hid (Below.trans (B := w.heap.size) (a := w) (by repeat (first | exact HB12.out | exact Below.refl _ _ | refine Below.alloc ?_ (by first | omega | (simp; done) | (simp; omega)) _ | refine Below.setCell ?_ (by first | omega | (simp; done) | (simp; omega)) _)) (hb.mono (by first | omega | (simp; done) | (simp; omega))))
  have hz13 := hb.size
  try simp at hz13
  have E2_13 := Lib.hid (ErrR.under (B := BE2) (v := v2) (n := 0) (by repeat (first | exact E2_12.out | refine ErrR.alloc ?_ _ | refine ErrR.setCell ?_ (by first | omega | (simp; done) | (simp; omega)) _)) hb)
  clear E2_12
  have E3_13 := Lib.hid (ErrR.under (B := BE3) (v := v3) (n := 11) (by repeat (first | exact E3_12.out | refine ErrR.alloc ?_ _ | refine ErrR.setCell ?_ (by first | omega | (simp; done) | (simp; omega)) _)) hb)
  clear E3_12
  obtain ⟨hc13, hf13⟩ := bcell hb
  clear hb
  try have hl_wheapsize_w13 : w.heap.size < w13.heap.size := by omega
  try have hm_wheapsize_w13 : w.heap.size ≤ w13.heap.size := by omega
  try have hl_w1heapsize_w13 : w1.heap.size < w13.heap.size := by omega
  try have hm_w1heapsize_w13 : w1.heap.size ≤ w13.heap.size := by omega
  try have hl_w2heapsize_w13 : w2.heap.size < w13.heap.size := by omega
  try have hm_w2heapsize_w13 : w2.heap.size ≤ w13.heap.size := by omega
  try have hl_w3heapsize_w13 : w3.heap.size < w13.heap.size := by omega
  try have hm_w3heapsize_w13 : w3.heap.size ≤ w13.heap.size := by omega
  try have hl_w4heapsize_w13 : w4.heap.size < w13.heap.size := by omega
  try have hm_w4heapsize_w13 : w4.heap.size ≤ w13.heap.size := by omega
  try have hl_w5heapsize_w13 : w5.heap.size < w13.heap.size := by omega
  try have hm_w5heapsize_w13 : w5.heap.size ≤ w13.heap.size := by omega
  try have hl_w6heapsize_w13 : w6.heap.size < w13.heap.size := by omega
  try have hm_w6heapsize_w13 : w6.heap.size ≤ w13.heap.size := by omega
  try have hl_w7heapsize_w13 : w7.heap.size < w13.heap.size := by omega
  try have hm_w7heapsize_w13 : w7.heap.size ≤ w13.heap.size := by omega
  try have hl_w8heapsize_w13 : w8.heap.size < w13.heap.size := by omega
  try have hm_w8heapsize_w13 : w8.heap.size ≤ w13.heap.size := by omega
  try have hl_w9heapsize_w13 : w9.heap.size < w13.heap.size := by omega
  try have hm_w9heapsize_w13 : w9.heap.size ≤ w13.heap.size := by omega
  try have hl_w10heapsize_w13 : w10.heap.size < w13.heap.size := by omega
  try have hm_w10heapsize_w13 : w10.heap.size ≤ w13.heap.size := by omega
  try have hl_w11heapsize_w13 : w11.heap.size < w13.heap.size := by omega
  try have hm_w11heapsize_w13 : w11.heap.size ≤ w13.heap.size := by omega
  try have hl_w12heapsize_w13 : w12.heap.size < w13.heap.size := by omega
  try have hm_w12heapsize_w13 : w12.heap.size ≤ w13.heap.size := by omega
  clear E3_13
  go_wp2_with fail
  go_ret
  exact ⟨rfl, (by repeat (first | exact HB13.out | exact Below.refl _ _ | refine Below.alloc ?_ (by first | omega | (simp; done) | (simp; omega)) _ | refine Below.setCell ?_ (by first | omega | (simp; done) | (simp; omega)) _))⟩
set_option maxHeartbeats 2000000 in
theorem parts_both (ch a b x m1 m : Int) (p0 : 0 ≤ ch) (p1 : ch ≤ 255) (p2 : 0 ≤ a) (p3 : a ≤ 255) (p4 : 0 ≤ b) (p5 : b ≤ 255) (q0 : 0 ≤ x) (q1 : x ≤ 200) (r0 : x < a) (r1 : 0 < b) (hx : ch % 201 = x) (hm1 : Hid (min a (200 - x) = m1)) (hm : Hid (min (a + b) (200 - x) = m)) (w : World) (tied : Tied w) :
    Calls Tryd.prog 7 #[.int .u8 ch, .int .u8 a, .int .u8 b] w fun e w' => e = .returned (.bool true) ∧ Below w.heap.size w w' := by
  have h1 : Hid (spendR x 0 0 0 a = ⟨11, 0, 0, 0, 0⟩) := spendR_low ((rightB_iff _ _ _ _).2 (by omega)) p2 r0
  have h2 : Hid (spendR 0 0 0 0 b = ⟨11, 0, 0, 0, 0⟩) := spendR_low ((rightB_iff _ _ _ _).2 (by omega)) p4 r1
  have h3 : Hid (spendR x 0 0 0 (a + b) = ⟨11, 0, 0, 0, 0⟩) := spendR_low ((rightB_iff _ _ _ _).2 (by omega)) (by omega) (by omega)
  have g1 : Hid (gainR x 0 0 0 a = ⟨0, x + m1, 0, m1, 0⟩) := by
    have h := gainR_ok (c := x) (s := 0) (g := 0) (d := 0) (n := a) ((rightB_iff _ _ _ _).2 (by omega)) p2 ((rightB_iff _ _ _ _).2 (by omega))
    rw [hm1.out, Int.zero_add] at h; exact h
  have g2 : Hid (gainR (x + m1) 0 m1 0 b = ⟨0, x + m, 0, m, 0⟩) := by
    have h' := hm.out
    have h1' := hm1.out
    have h := gainR_ok (c := x + m1) (s := 0) (g := m1) (d := 0) (n := b) ((rightB_iff _ _ _ _).2 (by omega)) p4 ((rightB_iff _ _ _ _).2 (by omega))
    rw [show x + m1 + min b (200 - (x + m1)) = x + m by omega, show m1 + min b (200 - (x + m1)) = m by omega] at h; exact h
  have g3 : Hid (gainR x 0 0 0 (a + b) = ⟨0, x + m, 0, m, 0⟩) := by
    have h := gainR_ok (c := x) (s := 0) (g := 0) (d := 0) (n := a + b) ((rightB_iff _ _ _ _).2 (by omega)) (by omega) ((rightB_iff _ _ _ _).2 (by omega))
    rw [hm.out, Int.zero_add] at h; exact h
  clear hm hm1
  have HB0 := Lib.hid (Below.refl w.heap.size w)
  have T := Lib.hid tied
  clear tied
  go_enter Tryd.func7, Tryd.ntmps7
  go_wp2_with fail
  refine (volt_awake _ (by exact (T.out.under T.out.lt (by repeat (first | exact HB0.out | exact Below.refl _ _ | refine Below.alloc ?_ (by first | omega | (simp; done) | (simp; omega)) _ | refine Below.setCell ?_ (by first | omega | (simp; done) | (simp; omega)) _))))).mono ?_
  rintro e w1 ⟨rfl, hb⟩
  have HB1 := Lib.hid (Below.trans (B := w.heap.size) (a := w) (by repeat (first | exact HB0.out | exact Below.refl _ _ | refine Below.alloc ?_ (by first | omega | (simp; done) | (simp; omega)) _ | refine Below.setCell ?_ (by first | omega | (simp; done) | (simp; omega)) _)) (hb.mono (by first | omega | (simp; done) | (simp; omega))))
  have hz1 := hb.size
  try simp at hz1
  obtain ⟨hc1, hf1⟩ := bcell hb
  clear hb
  try have hl_wheapsize_w1 : w.heap.size < w1.heap.size := by omega
  try have hm_wheapsize_w1 : w.heap.size ≤ w1.heap.size := by omega
  go_wp2_with fail
  refine (volt_spend_eq h1.out _).mono ?_
  rintro e w2 ⟨v1, rfl, hr, hb⟩
  have HB2 := Lib.hid (Below.trans (B := w.heap.size) (a := w) (by repeat (first | exact HB1.out | exact Below.refl _ _ | refine Below.alloc ?_ (by first | omega | (simp; done) | (simp; omega)) _ | refine Below.setCell ?_ (by first | omega | (simp; done) | (simp; omega)) _)) (hb.mono (by first | omega | (simp; done) | (simp; omega))))
  have hz2 := hb.size
  try simp at hz2
  obtain ⟨hc2, hf2⟩ := bcell hb
  obtain ⟨BE1, hr, hBE1⟩ := err_at hr
  try simp at hBE1
  have E1_2 := Lib.hid hr
  clear hr
  clear hb
  try have hl_wheapsize_w2 : w.heap.size < w2.heap.size := by omega
  try have hm_wheapsize_w2 : w.heap.size ≤ w2.heap.size := by omega
  try have hl_w1heapsize_w2 : w1.heap.size < w2.heap.size := by omega
  try have hm_w1heapsize_w2 : w1.heap.size ≤ w2.heap.size := by omega
  go_wp2_with fail
  refine (volt_spend_eq h2.out _).mono ?_
  rintro e w3 ⟨v2, rfl, hr, hb⟩
  have HB3 := Lib.hid (Below.trans (B := w.heap.size) (a := w) (by repeat (first | exact HB2.out | exact Below.refl _ _ | refine Below.alloc ?_ (by first | omega | (simp; done) | (simp; omega)) _ | refine Below.setCell ?_ (by first | omega | (simp; done) | (simp; omega)) _)) (hb.mono (by first | omega | (simp; done) | (simp; omega))))
  have hz3 := hb.size
  try simp at hz3
  have E1_3 := Lib.hid (ErrR.under (B := BE1) (v := v1) (n := 11) (by repeat (first | exact E1_2.out | refine ErrR.alloc ?_ _ | refine ErrR.setCell ?_ (by first | omega | (simp; done) | (simp; omega)) _)) hb)
  clear E1_2
  obtain ⟨hc3, hf3⟩ := bcell hb
  obtain ⟨BE2, hr, hBE2⟩ := err_at hr
  try simp at hBE2
  have E2_3 := Lib.hid hr
  clear hr
  clear hb
  try have hl_wheapsize_w3 : w.heap.size < w3.heap.size := by omega
  try have hm_wheapsize_w3 : w.heap.size ≤ w3.heap.size := by omega
  try have hl_w1heapsize_w3 : w1.heap.size < w3.heap.size := by omega
  try have hm_w1heapsize_w3 : w1.heap.size ≤ w3.heap.size := by omega
  try have hl_w2heapsize_w3 : w2.heap.size < w3.heap.size := by omega
  try have hm_w2heapsize_w3 : w2.heap.size ≤ w3.heap.size := by omega
  go_wp2_with fail
  refine (volt_spend_eq h3.out _).mono ?_
  rintro e w4 ⟨v3, rfl, hr, hb⟩
  have HB4 := Lib.hid (Below.trans (B := w.heap.size) (a := w) (by repeat (first | exact HB3.out | exact Below.refl _ _ | refine Below.alloc ?_ (by first | omega | (simp; done) | (simp; omega)) _ | refine Below.setCell ?_ (by first | omega | (simp; done) | (simp; omega)) _)) (hb.mono (by first | omega | (simp; done) | (simp; omega))))
  have hz4 := hb.size
  try simp at hz4
  have E1_4 := Lib.hid (ErrR.under (B := BE1) (v := v1) (n := 11) (by repeat (first | exact E1_3.out | refine ErrR.alloc ?_ _ | refine ErrR.setCell ?_ (by first | omega | (simp; done) | (simp; omega)) _)) hb)
  clear E1_3
  have E2_4 := Lib.hid (ErrR.under (B := BE2) (v := v2) (n := 11) (by repeat (first | exact E2_3.out | refine ErrR.alloc ?_ _ | refine ErrR.setCell ?_ (by first | omega | (simp; done) | (simp; omega)) _)) hb)
  clear E2_3
  obtain ⟨hc4, hf4⟩ := bcell hb
  obtain ⟨BE3, hr, hBE3⟩ := err_at hr
  try simp at hBE3
  have E3_4 := Lib.hid hr
  clear hr
  clear hb
  try have hl_wheapsize_w4 : w.heap.size < w4.heap.size := by omega
  try have hm_wheapsize_w4 : w.heap.size ≤ w4.heap.size := by omega
  try have hl_w1heapsize_w4 : w1.heap.size < w4.heap.size := by omega
  try have hm_w1heapsize_w4 : w1.heap.size ≤ w4.heap.size := by omega
  try have hl_w2heapsize_w4 : w2.heap.size < w4.heap.size := by omega
  try have hm_w2heapsize_w4 : w2.heap.size ≤ w4.heap.size := by omega
  try have hl_w3heapsize_w4 : w3.heap.size < w4.heap.size := by omega
  try have hm_w3heapsize_w4 : w3.heap.size ≤ w4.heap.size := by omega
  go_wp2_with fail
  refine (Num_any (B := BE1) _ v1 11 (by exact (by repeat (first | exact E1_4.out | refine ErrR.alloc ?_ _ | refine ErrR.setCell ?_ (by first | omega | (simp; done) | (simp; omega)) _))) (by exact (T.out.under T.out.lt (by repeat (first | exact HB4.out | exact Below.refl _ _ | refine Below.alloc ?_ (by first | omega | (simp; done) | (simp; omega)) _ | refine Below.setCell ?_ (by first | omega | (simp; done) | (simp; omega)) _))))).mono ?_
  rintro e w5 ⟨rfl, hb⟩
  have HB5 := Lib.hid (Below.trans (B := w.heap.size) (a := w) (by repeat (first | exact HB4.out | exact Below.refl _ _ | refine Below.alloc ?_ (by first | omega | (simp; done) | (simp; omega)) _ | refine Below.setCell ?_ (by first | omega | (simp; done) | (simp; omega)) _)) (hb.mono (by first | omega | (simp; done) | (simp; omega))))
  have hz5 := hb.size
  try simp at hz5
  have E1_5 := Lib.hid (ErrR.under (B := BE1) (v := v1) (n := 11) (by repeat (first | exact E1_4.out | refine ErrR.alloc ?_ _ | refine ErrR.setCell ?_ (by first | omega | (simp; done) | (simp; omega)) _)) hb)
  clear E1_4
  have E2_5 := Lib.hid (ErrR.under (B := BE2) (v := v2) (n := 11) (by repeat (first | exact E2_4.out | refine ErrR.alloc ?_ _ | refine ErrR.setCell ?_ (by first | omega | (simp; done) | (simp; omega)) _)) hb)
  clear E2_4
  have E3_5 := Lib.hid (ErrR.under (B := BE3) (v := v3) (n := 11) (by repeat (first | exact E3_4.out | refine ErrR.alloc ?_ _ | refine ErrR.setCell ?_ (by first | omega | (simp; done) | (simp; omega)) _)) hb)
  clear E3_4
  obtain ⟨hc5, hf5⟩ := bcell hb
  clear hb
  try have hl_wheapsize_w5 : w.heap.size < w5.heap.size := by omega
  try have hm_wheapsize_w5 : w.heap.size ≤ w5.heap.size := by omega
  try have hl_w1heapsize_w5 : w1.heap.size < w5.heap.size := by omega
  try have hm_w1heapsize_w5 : w1.heap.size ≤ w5.heap.size := by omega
  try have hl_w2heapsize_w5 : w2.heap.size < w5.heap.size := by omega
  try have hm_w2heapsize_w5 : w2.heap.size ≤ w5.heap.size := by omega
  try have hl_w3heapsize_w5 : w3.heap.size < w5.heap.size := by omega
  try have hm_w3heapsize_w5 : w3.heap.size ≤ w5.heap.size := by omega
  try have hl_w4heapsize_w5 : w4.heap.size < w5.heap.size := by omega
  try have hm_w4heapsize_w5 : w4.heap.size ≤ w5.heap.size := by omega
  go_wp2_with fail
  refine (volt_gain_eq g1.out _).mono ?_
  rintro e w6 ⟨v4, rfl, hr, hb⟩
  have HB6 := Lib.hid (Below.trans (B := w.heap.size) (a := w) (by repeat (first | exact HB5.out | exact Below.refl _ _ | refine Below.alloc ?_ (by first | omega | (simp; done) | (simp; omega)) _ | refine Below.setCell ?_ (by first | omega | (simp; done) | (simp; omega)) _)) (hb.mono (by first | omega | (simp; done) | (simp; omega))))
  have hz6 := hb.size
  try simp at hz6
  have E1_6 := Lib.hid (ErrR.under (B := BE1) (v := v1) (n := 11) (by repeat (first | exact E1_5.out | refine ErrR.alloc ?_ _ | refine ErrR.setCell ?_ (by first | omega | (simp; done) | (simp; omega)) _)) hb)
  clear E1_5
  have E2_6 := Lib.hid (ErrR.under (B := BE2) (v := v2) (n := 11) (by repeat (first | exact E2_5.out | refine ErrR.alloc ?_ _ | refine ErrR.setCell ?_ (by first | omega | (simp; done) | (simp; omega)) _)) hb)
  clear E2_5
  have E3_6 := Lib.hid (ErrR.under (B := BE3) (v := v3) (n := 11) (by repeat (first | exact E3_5.out | refine ErrR.alloc ?_ _ | refine ErrR.setCell ?_ (by first | omega | (simp; done) | (simp; omega)) _)) hb)
  clear E3_5
  obtain ⟨hc6, hf6⟩ := bcell hb
  obtain ⟨BE4, hr, hBE4⟩ := err_at hr
  try simp at hBE4
  have E4_6 := Lib.hid hr
  clear hr
  clear hb
  try have hl_wheapsize_w6 : w.heap.size < w6.heap.size := by omega
  try have hm_wheapsize_w6 : w.heap.size ≤ w6.heap.size := by omega
  try have hl_w1heapsize_w6 : w1.heap.size < w6.heap.size := by omega
  try have hm_w1heapsize_w6 : w1.heap.size ≤ w6.heap.size := by omega
  try have hl_w2heapsize_w6 : w2.heap.size < w6.heap.size := by omega
  try have hm_w2heapsize_w6 : w2.heap.size ≤ w6.heap.size := by omega
  try have hl_w3heapsize_w6 : w3.heap.size < w6.heap.size := by omega
  try have hm_w3heapsize_w6 : w3.heap.size ≤ w6.heap.size := by omega
  try have hl_w4heapsize_w6 : w4.heap.size < w6.heap.size := by omega
  try have hm_w4heapsize_w6 : w4.heap.size ≤ w6.heap.size := by omega
  try have hl_w5heapsize_w6 : w5.heap.size < w6.heap.size := by omega
  try have hm_w5heapsize_w6 : w5.heap.size ≤ w6.heap.size := by omega
  go_wp2_with fail
  refine (volt_gain_eq g2.out _).mono ?_
  rintro e w7 ⟨v5, rfl, hr, hb⟩
  have HB7 := Lib.hid (Below.trans (B := w.heap.size) (a := w) (by repeat (first | exact HB6.out | exact Below.refl _ _ | refine Below.alloc ?_ (by first | omega | (simp; done) | (simp; omega)) _ | refine Below.setCell ?_ (by first | omega | (simp; done) | (simp; omega)) _)) (hb.mono (by first | omega | (simp; done) | (simp; omega))))
  have hz7 := hb.size
  try simp at hz7
  have E1_7 := Lib.hid (ErrR.under (B := BE1) (v := v1) (n := 11) (by repeat (first | exact E1_6.out | refine ErrR.alloc ?_ _ | refine ErrR.setCell ?_ (by first | omega | (simp; done) | (simp; omega)) _)) hb)
  clear E1_6
  have E2_7 := Lib.hid (ErrR.under (B := BE2) (v := v2) (n := 11) (by repeat (first | exact E2_6.out | refine ErrR.alloc ?_ _ | refine ErrR.setCell ?_ (by first | omega | (simp; done) | (simp; omega)) _)) hb)
  clear E2_6
  have E3_7 := Lib.hid (ErrR.under (B := BE3) (v := v3) (n := 11) (by repeat (first | exact E3_6.out | refine ErrR.alloc ?_ _ | refine ErrR.setCell ?_ (by first | omega | (simp; done) | (simp; omega)) _)) hb)
  clear E3_6
  have E4_7 := Lib.hid (ErrR.under (B := BE4) (v := v4) (n := 0) (by repeat (first | exact E4_6.out | refine ErrR.alloc ?_ _ | refine ErrR.setCell ?_ (by first | omega | (simp; done) | (simp; omega)) _)) hb)
  clear E4_6
  obtain ⟨hc7, hf7⟩ := bcell hb
  obtain ⟨BE5, hr, hBE5⟩ := err_at hr
  try simp at hBE5
  have E5_7 := Lib.hid hr
  clear hr
  clear hb
  try have hl_wheapsize_w7 : w.heap.size < w7.heap.size := by omega
  try have hm_wheapsize_w7 : w.heap.size ≤ w7.heap.size := by omega
  try have hl_w1heapsize_w7 : w1.heap.size < w7.heap.size := by omega
  try have hm_w1heapsize_w7 : w1.heap.size ≤ w7.heap.size := by omega
  try have hl_w2heapsize_w7 : w2.heap.size < w7.heap.size := by omega
  try have hm_w2heapsize_w7 : w2.heap.size ≤ w7.heap.size := by omega
  try have hl_w3heapsize_w7 : w3.heap.size < w7.heap.size := by omega
  try have hm_w3heapsize_w7 : w3.heap.size ≤ w7.heap.size := by omega
  try have hl_w4heapsize_w7 : w4.heap.size < w7.heap.size := by omega
  try have hm_w4heapsize_w7 : w4.heap.size ≤ w7.heap.size := by omega
  try have hl_w5heapsize_w7 : w5.heap.size < w7.heap.size := by omega
  try have hm_w5heapsize_w7 : w5.heap.size ≤ w7.heap.size := by omega
  try have hl_w6heapsize_w7 : w6.heap.size < w7.heap.size := by omega
  try have hm_w6heapsize_w7 : w6.heap.size ≤ w7.heap.size := by omega
  go_wp2_with fail
  refine (volt_gain_eq g3.out _).mono ?_
  rintro e w8 ⟨v6, rfl, hr, hb⟩
  have HB8 := Lib.hid (Below.trans (B := w.heap.size) (a := w) (by repeat (first | exact HB7.out | exact Below.refl _ _ | refine Below.alloc ?_ (by first | omega | (simp; done) | (simp; omega)) _ | refine Below.setCell ?_ (by first | omega | (simp; done) | (simp; omega)) _)) (hb.mono (by first | omega | (simp; done) | (simp; omega))))
  have hz8 := hb.size
  try simp at hz8
  have E1_8 := Lib.hid (ErrR.under (B := BE1) (v := v1) (n := 11) (by repeat (first | exact E1_7.out | refine ErrR.alloc ?_ _ | refine ErrR.setCell ?_ (by first | omega | (simp; done) | (simp; omega)) _)) hb)
  clear E1_7
  have E2_8 := Lib.hid (ErrR.under (B := BE2) (v := v2) (n := 11) (by repeat (first | exact E2_7.out | refine ErrR.alloc ?_ _ | refine ErrR.setCell ?_ (by first | omega | (simp; done) | (simp; omega)) _)) hb)
  clear E2_7
  have E3_8 := Lib.hid (ErrR.under (B := BE3) (v := v3) (n := 11) (by repeat (first | exact E3_7.out | refine ErrR.alloc ?_ _ | refine ErrR.setCell ?_ (by first | omega | (simp; done) | (simp; omega)) _)) hb)
  clear E3_7
  have E4_8 := Lib.hid (ErrR.under (B := BE4) (v := v4) (n := 0) (by repeat (first | exact E4_7.out | refine ErrR.alloc ?_ _ | refine ErrR.setCell ?_ (by first | omega | (simp; done) | (simp; omega)) _)) hb)
  clear E4_7
  have E5_8 := Lib.hid (ErrR.under (B := BE5) (v := v5) (n := 0) (by repeat (first | exact E5_7.out | refine ErrR.alloc ?_ _ | refine ErrR.setCell ?_ (by first | omega | (simp; done) | (simp; omega)) _)) hb)
  clear E5_7
  obtain ⟨hc8, hf8⟩ := bcell hb
  obtain ⟨BE6, hr, hBE6⟩ := err_at hr
  try simp at hBE6
  have E6_8 := Lib.hid hr
  clear hr
  clear hb
  try have hl_wheapsize_w8 : w.heap.size < w8.heap.size := by omega
  try have hm_wheapsize_w8 : w.heap.size ≤ w8.heap.size := by omega
  try have hl_w1heapsize_w8 : w1.heap.size < w8.heap.size := by omega
  try have hm_w1heapsize_w8 : w1.heap.size ≤ w8.heap.size := by omega
  try have hl_w2heapsize_w8 : w2.heap.size < w8.heap.size := by omega
  try have hm_w2heapsize_w8 : w2.heap.size ≤ w8.heap.size := by omega
  try have hl_w3heapsize_w8 : w3.heap.size < w8.heap.size := by omega
  try have hm_w3heapsize_w8 : w3.heap.size ≤ w8.heap.size := by omega
  try have hl_w4heapsize_w8 : w4.heap.size < w8.heap.size := by omega
  try have hm_w4heapsize_w8 : w4.heap.size ≤ w8.heap.size := by omega
  try have hl_w5heapsize_w8 : w5.heap.size < w8.heap.size := by omega
  try have hm_w5heapsize_w8 : w5.heap.size ≤ w8.heap.size := by omega
  try have hl_w6heapsize_w8 : w6.heap.size < w8.heap.size := by omega
  try have hm_w6heapsize_w8 : w6.heap.size ≤ w8.heap.size := by omega
  try have hl_w7heapsize_w8 : w7.heap.size < w8.heap.size := by omega
  try have hm_w7heapsize_w8 : w7.heap.size ≤ w8.heap.size := by omega
  go_wp2_with fail
  refine (Num_any (B := BE4) _ v4 0 (by exact (by repeat (first | exact E4_8.out | refine ErrR.alloc ?_ _ | refine ErrR.setCell ?_ (by first | omega | (simp; done) | (simp; omega)) _))) (by exact (T.out.under T.out.lt (by repeat (first | exact HB8.out | exact Below.refl _ _ | refine Below.alloc ?_ (by first | omega | (simp; done) | (simp; omega)) _ | refine Below.setCell ?_ (by first | omega | (simp; done) | (simp; omega)) _))))).mono ?_
  rintro e w9 ⟨rfl, hb⟩
  have HB9 := Lib.hid (Below.trans (B := w.heap.size) (a := w) (by repeat (first | exact HB8.out | exact Below.refl _ _ | refine Below.alloc ?_ (by first | omega | (simp; done) | (simp; omega)) _ | refine Below.setCell ?_ (by first | omega | (simp; done) | (simp; omega)) _)) (hb.mono (by first | omega | (simp; done) | (simp; omega))))
  have hz9 := hb.size
  try simp at hz9
  have E1_9 := Lib.hid (ErrR.under (B := BE1) (v := v1) (n := 11) (by repeat (first | exact E1_8.out | refine ErrR.alloc ?_ _ | refine ErrR.setCell ?_ (by first | omega | (simp; done) | (simp; omega)) _)) hb)
  clear E1_8
  have E2_9 := Lib.hid (ErrR.under (B := BE2) (v := v2) (n := 11) (by repeat (first | exact E2_8.out | refine ErrR.alloc ?_ _ | refine ErrR.setCell ?_ (by first | omega | (simp; done) | (simp; omega)) _)) hb)
  clear E2_8
  have E3_9 := Lib.hid (ErrR.under (B := BE3) (v := v3) (n := 11) (by repeat (first | exact E3_8.out | refine ErrR.alloc ?_ _ | refine ErrR.setCell ?_ (by first | omega | (simp; done) | (simp; omega)) _)) hb)
  clear E3_8
  have E4_9 := Lib.hid (ErrR.under (B := BE4) (v := v4) (n := 0) (by repeat (first | exact E4_8.out | refine ErrR.alloc ?_ _ | refine ErrR.setCell ?_ (by first | omega | (simp; done) | (simp; omega)) _)) hb)
  clear E4_8
  have E5_9 := Lib.hid (ErrR.under (B := BE5) (v := v5) (n := 0) (by repeat (first | exact E5_8.out | refine ErrR.alloc ?_ _ | refine ErrR.setCell ?_ (by first | omega | (simp; done) | (simp; omega)) _)) hb)
  clear E5_8
  have E6_9 := Lib.hid (ErrR.under (B := BE6) (v := v6) (n := 0) (by repeat (first | exact E6_8.out | refine ErrR.alloc ?_ _ | refine ErrR.setCell ?_ (by first | omega | (simp; done) | (simp; omega)) _)) hb)
  clear E6_8
  obtain ⟨hc9, hf9⟩ := bcell hb
  clear hb
  try have hl_wheapsize_w9 : w.heap.size < w9.heap.size := by omega
  try have hm_wheapsize_w9 : w.heap.size ≤ w9.heap.size := by omega
  try have hl_w1heapsize_w9 : w1.heap.size < w9.heap.size := by omega
  try have hm_w1heapsize_w9 : w1.heap.size ≤ w9.heap.size := by omega
  try have hl_w2heapsize_w9 : w2.heap.size < w9.heap.size := by omega
  try have hm_w2heapsize_w9 : w2.heap.size ≤ w9.heap.size := by omega
  try have hl_w3heapsize_w9 : w3.heap.size < w9.heap.size := by omega
  try have hm_w3heapsize_w9 : w3.heap.size ≤ w9.heap.size := by omega
  try have hl_w4heapsize_w9 : w4.heap.size < w9.heap.size := by omega
  try have hm_w4heapsize_w9 : w4.heap.size ≤ w9.heap.size := by omega
  try have hl_w5heapsize_w9 : w5.heap.size < w9.heap.size := by omega
  try have hm_w5heapsize_w9 : w5.heap.size ≤ w9.heap.size := by omega
  try have hl_w6heapsize_w9 : w6.heap.size < w9.heap.size := by omega
  try have hm_w6heapsize_w9 : w6.heap.size ≤ w9.heap.size := by omega
  try have hl_w7heapsize_w9 : w7.heap.size < w9.heap.size := by omega
  try have hm_w7heapsize_w9 : w7.heap.size ≤ w9.heap.size := by omega
  try have hl_w8heapsize_w9 : w8.heap.size < w9.heap.size := by omega
  try have hm_w8heapsize_w9 : w8.heap.size ≤ w9.heap.size := by omega
  clear E4_9
  go_wp2_with fail
  refine (Num_any (B := BE5) _ v5 0 (by exact (by repeat (first | exact E5_9.out | refine ErrR.alloc ?_ _ | refine ErrR.setCell ?_ (by first | omega | (simp; done) | (simp; omega)) _))) (by exact (T.out.under T.out.lt (by repeat (first | exact HB9.out | exact Below.refl _ _ | refine Below.alloc ?_ (by first | omega | (simp; done) | (simp; omega)) _ | refine Below.setCell ?_ (by first | omega | (simp; done) | (simp; omega)) _))))).mono ?_
  rintro e w10 ⟨rfl, hb⟩
  have HB10 := Lib.hid (Below.trans (B := w.heap.size) (a := w) (by repeat (first | exact HB9.out | exact Below.refl _ _ | refine Below.alloc ?_ (by first | omega | (simp; done) | (simp; omega)) _ | refine Below.setCell ?_ (by first | omega | (simp; done) | (simp; omega)) _)) (hb.mono (by first | omega | (simp; done) | (simp; omega))))
  have hz10 := hb.size
  try simp at hz10
  have E1_10 := Lib.hid (ErrR.under (B := BE1) (v := v1) (n := 11) (by repeat (first | exact E1_9.out | refine ErrR.alloc ?_ _ | refine ErrR.setCell ?_ (by first | omega | (simp; done) | (simp; omega)) _)) hb)
  clear E1_9
  have E2_10 := Lib.hid (ErrR.under (B := BE2) (v := v2) (n := 11) (by repeat (first | exact E2_9.out | refine ErrR.alloc ?_ _ | refine ErrR.setCell ?_ (by first | omega | (simp; done) | (simp; omega)) _)) hb)
  clear E2_9
  have E3_10 := Lib.hid (ErrR.under (B := BE3) (v := v3) (n := 11) (by repeat (first | exact E3_9.out | refine ErrR.alloc ?_ _ | refine ErrR.setCell ?_ (by first | omega | (simp; done) | (simp; omega)) _)) hb)
  clear E3_9
  have E5_10 := Lib.hid (ErrR.under (B := BE5) (v := v5) (n := 0) (by repeat (first | exact E5_9.out | refine ErrR.alloc ?_ _ | refine ErrR.setCell ?_ (by first | omega | (simp; done) | (simp; omega)) _)) hb)
  clear E5_9
  have E6_10 := Lib.hid (ErrR.under (B := BE6) (v := v6) (n := 0) (by repeat (first | exact E6_9.out | refine ErrR.alloc ?_ _ | refine ErrR.setCell ?_ (by first | omega | (simp; done) | (simp; omega)) _)) hb)
  clear E6_9
  obtain ⟨hc10, hf10⟩ := bcell hb
  clear hb
  try have hl_wheapsize_w10 : w.heap.size < w10.heap.size := by omega
  try have hm_wheapsize_w10 : w.heap.size ≤ w10.heap.size := by omega
  try have hl_w1heapsize_w10 : w1.heap.size < w10.heap.size := by omega
  try have hm_w1heapsize_w10 : w1.heap.size ≤ w10.heap.size := by omega
  try have hl_w2heapsize_w10 : w2.heap.size < w10.heap.size := by omega
  try have hm_w2heapsize_w10 : w2.heap.size ≤ w10.heap.size := by omega
  try have hl_w3heapsize_w10 : w3.heap.size < w10.heap.size := by omega
  try have hm_w3heapsize_w10 : w3.heap.size ≤ w10.heap.size := by omega
  try have hl_w4heapsize_w10 : w4.heap.size < w10.heap.size := by omega
  try have hm_w4heapsize_w10 : w4.heap.size ≤ w10.heap.size := by omega
  try have hl_w5heapsize_w10 : w5.heap.size < w10.heap.size := by omega
  try have hm_w5heapsize_w10 : w5.heap.size ≤ w10.heap.size := by omega
  try have hl_w6heapsize_w10 : w6.heap.size < w10.heap.size := by omega
  try have hm_w6heapsize_w10 : w6.heap.size ≤ w10.heap.size := by omega
  try have hl_w7heapsize_w10 : w7.heap.size < w10.heap.size := by omega
  try have hm_w7heapsize_w10 : w7.heap.size ≤ w10.heap.size := by omega
  try have hl_w8heapsize_w10 : w8.heap.size < w10.heap.size := by omega
  try have hm_w8heapsize_w10 : w8.heap.size ≤ w10.heap.size := by omega
  try have hl_w9heapsize_w10 : w9.heap.size < w10.heap.size := by omega
  try have hm_w9heapsize_w10 : w9.heap.size ≤ w10.heap.size := by omega
  clear E5_10
  go_wp2_with fail
  refine (Num_any (B := BE6) _ v6 0 (by exact (by repeat (first | exact E6_10.out | refine ErrR.alloc ?_ _ | refine ErrR.setCell ?_ (by first | omega | (simp; done) | (simp; omega)) _))) (by exact (T.out.under T.out.lt (by repeat (first | exact HB10.out | exact Below.refl _ _ | refine Below.alloc ?_ (by first | omega | (simp; done) | (simp; omega)) _ | refine Below.setCell ?_ (by first | omega | (simp; done) | (simp; omega)) _))))).mono ?_
  rintro e w11 ⟨rfl, hb⟩
  have HB11 := Lib.hid (Below.trans (B := w.heap.size) (a := w) (by repeat (first | exact HB10.out | exact Below.refl _ _ | refine Below.alloc ?_ (by first | omega | (simp; done) | (simp; omega)) _ | refine Below.setCell ?_ (by first | omega | (simp; done) | (simp; omega)) _)) (hb.mono (by first | omega | (simp; done) | (simp; omega))))
  have hz11 := hb.size
  try simp at hz11
  have E1_11 := Lib.hid (ErrR.under (B := BE1) (v := v1) (n := 11) (by repeat (first | exact E1_10.out | refine ErrR.alloc ?_ _ | refine ErrR.setCell ?_ (by first | omega | (simp; done) | (simp; omega)) _)) hb)
  clear E1_10
  have E2_11 := Lib.hid (ErrR.under (B := BE2) (v := v2) (n := 11) (by repeat (first | exact E2_10.out | refine ErrR.alloc ?_ _ | refine ErrR.setCell ?_ (by first | omega | (simp; done) | (simp; omega)) _)) hb)
  clear E2_10
  have E3_11 := Lib.hid (ErrR.under (B := BE3) (v := v3) (n := 11) (by repeat (first | exact E3_10.out | refine ErrR.alloc ?_ _ | refine ErrR.setCell ?_ (by first | omega | (simp; done) | (simp; omega)) _)) hb)
  clear E3_10
  have E6_11 := Lib.hid (ErrR.under (B := BE6) (v := v6) (n := 0) (by repeat (first | exact E6_10.out | refine ErrR.alloc ?_ _ | refine ErrR.setCell ?_ (by first | omega | (simp; done) | (simp; omega)) _)) hb)
  clear E6_10
  obtain ⟨hc11, hf11⟩ := bcell hb
  clear hb
  try have hl_wheapsize_w11 : w.heap.size < w11.heap.size := by omega
  try have hm_wheapsize_w11 : w.heap.size ≤ w11.heap.size := by omega
  try have hl_w1heapsize_w11 : w1.heap.size < w11.heap.size := by omega
  try have hm_w1heapsize_w11 : w1.heap.size ≤ w11.heap.size := by omega
  try have hl_w2heapsize_w11 : w2.heap.size < w11.heap.size := by omega
  try have hm_w2heapsize_w11 : w2.heap.size ≤ w11.heap.size := by omega
  try have hl_w3heapsize_w11 : w3.heap.size < w11.heap.size := by omega
  try have hm_w3heapsize_w11 : w3.heap.size ≤ w11.heap.size := by omega
  try have hl_w4heapsize_w11 : w4.heap.size < w11.heap.size := by omega
  try have hm_w4heapsize_w11 : w4.heap.size ≤ w11.heap.size := by omega
  try have hl_w5heapsize_w11 : w5.heap.size < w11.heap.size := by omega
  try have hm_w5heapsize_w11 : w5.heap.size ≤ w11.heap.size := by omega
  try have hl_w6heapsize_w11 : w6.heap.size < w11.heap.size := by omega
  try have hm_w6heapsize_w11 : w6.heap.size ≤ w11.heap.size := by omega
  try have hl_w7heapsize_w11 : w7.heap.size < w11.heap.size := by omega
  try have hm_w7heapsize_w11 : w7.heap.size ≤ w11.heap.size := by omega
  try have hl_w8heapsize_w11 : w8.heap.size < w11.heap.size := by omega
  try have hm_w8heapsize_w11 : w8.heap.size ≤ w11.heap.size := by omega
  try have hl_w9heapsize_w11 : w9.heap.size < w11.heap.size := by omega
  try have hm_w9heapsize_w11 : w9.heap.size ≤ w11.heap.size := by omega
  try have hl_w10heapsize_w11 : w10.heap.size < w11.heap.size := by omega
  try have hm_w10heapsize_w11 : w10.heap.size ≤ w11.heap.size := by omega
  clear E6_11
  go_wp2_with fail
  refine (Num_any (B := BE1) _ v1 11 (by exact (by repeat (first | exact E1_11.out | refine ErrR.alloc ?_ _ | refine ErrR.setCell ?_ (by first | omega | (simp; done) | (simp; omega)) _))) (by exact (T.out.under T.out.lt (by repeat (first | exact HB11.out | exact Below.refl _ _ | refine Below.alloc ?_ (by first | omega | (simp; done) | (simp; omega)) _ | refine Below.setCell ?_ (by first | omega | (simp; done) | (simp; omega)) _))))).mono ?_
  rintro e w12 ⟨rfl, hb⟩
  have HB12 := Lib.hid (Below.trans (B := w.heap.size) (a := w) (by repeat (first | exact HB11.out | exact Below.refl _ _ | refine Below.alloc ?_ (by first | omega | (simp; done) | (simp; omega)) _ | refine Below.setCell ?_ (by first | omega | (simp; done) | (simp; omega)) _)) (hb.mono (by first | omega | (simp; done) | (simp; omega))))
  have hz12 := hb.size
  try simp at hz12
  have E1_12 := Lib.hid (ErrR.under (B := BE1) (v := v1) (n := 11) (by repeat (first | exact E1_11.out | refine ErrR.alloc ?_ _ | refine ErrR.setCell ?_ (by first | omega | (simp; done) | (simp; omega)) _)) hb)
  clear E1_11
  have E2_12 := Lib.hid (ErrR.under (B := BE2) (v := v2) (n := 11) (by repeat (first | exact E2_11.out | refine ErrR.alloc ?_ _ | refine ErrR.setCell ?_ (by first | omega | (simp; done) | (simp; omega)) _)) hb)
  clear E2_11
  have E3_12 := Lib.hid (ErrR.under (B := BE3) (v := v3) (n := 11) (by repeat (first | exact E3_11.out | refine ErrR.alloc ?_ _ | refine ErrR.setCell ?_ (by first | omega | (simp; done) | (simp; omega)) _)) hb)
  clear E3_11
  obtain ⟨hc12, hf12⟩ := bcell hb
  clear hb
  try have hl_wheapsize_w12 : w.heap.size < w12.heap.size := by omega
  try have hm_wheapsize_w12 : w.heap.size ≤ w12.heap.size := by omega
  try have hl_w1heapsize_w12 : w1.heap.size < w12.heap.size := by omega
  try have hm_w1heapsize_w12 : w1.heap.size ≤ w12.heap.size := by omega
  try have hl_w2heapsize_w12 : w2.heap.size < w12.heap.size := by omega
  try have hm_w2heapsize_w12 : w2.heap.size ≤ w12.heap.size := by omega
  try have hl_w3heapsize_w12 : w3.heap.size < w12.heap.size := by omega
  try have hm_w3heapsize_w12 : w3.heap.size ≤ w12.heap.size := by omega
  try have hl_w4heapsize_w12 : w4.heap.size < w12.heap.size := by omega
  try have hm_w4heapsize_w12 : w4.heap.size ≤ w12.heap.size := by omega
  try have hl_w5heapsize_w12 : w5.heap.size < w12.heap.size := by omega
  try have hm_w5heapsize_w12 : w5.heap.size ≤ w12.heap.size := by omega
  try have hl_w6heapsize_w12 : w6.heap.size < w12.heap.size := by omega
  try have hm_w6heapsize_w12 : w6.heap.size ≤ w12.heap.size := by omega
  try have hl_w7heapsize_w12 : w7.heap.size < w12.heap.size := by omega
  try have hm_w7heapsize_w12 : w7.heap.size ≤ w12.heap.size := by omega
  try have hl_w8heapsize_w12 : w8.heap.size < w12.heap.size := by omega
  try have hm_w8heapsize_w12 : w8.heap.size ≤ w12.heap.size := by omega
  try have hl_w9heapsize_w12 : w9.heap.size < w12.heap.size := by omega
  try have hm_w9heapsize_w12 : w9.heap.size ≤ w12.heap.size := by omega
  try have hl_w10heapsize_w12 : w10.heap.size < w12.heap.size := by omega
  try have hm_w10heapsize_w12 : w10.heap.size ≤ w12.heap.size := by omega
  try have hl_w11heapsize_w12 : w11.heap.size < w12.heap.size := by omega
  try have hm_w11heapsize_w12 : w11.heap.size ≤ w12.heap.size := by omega
  clear E1_12
  go_wp2_with fail
  refine (Num_any (B := BE3) _ v3 11 (by exact (by repeat (first | exact E3_12.out | refine ErrR.alloc ?_ _ | refine ErrR.setCell ?_ (by first | omega | (simp; done) | (simp; omega)) _))) (by exact (T.out.under T.out.lt (by repeat (first | exact HB12.out | exact Below.refl _ _ | refine Below.alloc ?_ (by first | omega | (simp; done) | (simp; omega)) _ | refine Below.setCell ?_ (by first | omega | (simp; done) | (simp; omega)) _))))).mono ?_
  rintro e w13 ⟨rfl, hb⟩
  have HB13 := Lib.hid (Below.trans (B := w.heap.size) (a := w) (by repeat (first | exact HB12.out | exact Below.refl _ _ | refine Below.alloc ?_ (by first | omega | (simp; done) | (simp; omega)) _ | refine Below.setCell ?_ (by first | omega | (simp; done) | (simp; omega)) _)) (hb.mono (by first | omega | (simp; done) | (simp; omega))))
  have hz13 := hb.size
  try simp at hz13
  have E2_13 := Lib.hid (ErrR.under (B := BE2) (v := v2) (n := 11) (by repeat (first | exact E2_12.out | refine ErrR.alloc ?_ _ | refine ErrR.setCell ?_ (by first | omega | (simp; done) | (simp; omega)) _)) hb)
  clear E2_12
  have E3_13 := Lib.hid (ErrR.under (B := BE3) (v := v3) (n := 11) (by repeat (first | exact E3_12.out | refine ErrR.alloc ?_ _ | refine ErrR.setCell ?_ (by first | omega | (simp; done) | (simp; omega)) _)) hb)
  clear E3_12
  obtain ⟨hc13, hf13⟩ := bcell hb
  clear hb
  try have hl_wheapsize_w13 : w.heap.size < w13.heap.size := by omega
  try have hm_wheapsize_w13 : w.heap.size ≤ w13.heap.size := by omega
  try have hl_w1heapsize_w13 : w1.heap.size < w13.heap.size := by omega
  try have hm_w1heapsize_w13 : w1.heap.size ≤ w13.heap.size := by omega
  try have hl_w2heapsize_w13 : w2.heap.size < w13.heap.size := by omega
  try have hm_w2heapsize_w13 : w2.heap.size ≤ w13.heap.size := by omega
  try have hl_w3heapsize_w13 : w3.heap.size < w13.heap.size := by omega
  try have hm_w3heapsize_w13 : w3.heap.size ≤ w13.heap.size := by omega
  try have hl_w4heapsize_w13 : w4.heap.size < w13.heap.size := by omega
  try have hm_w4heapsize_w13 : w4.heap.size ≤ w13.heap.size := by omega
  try have hl_w5heapsize_w13 : w5.heap.size < w13.heap.size := by omega
  try have hm_w5heapsize_w13 : w5.heap.size ≤ w13.heap.size := by omega
  try have hl_w6heapsize_w13 : w6.heap.size < w13.heap.size := by omega
  try have hm_w6heapsize_w13 : w6.heap.size ≤ w13.heap.size := by omega
  try have hl_w7heapsize_w13 : w7.heap.size < w13.heap.size := by omega
  try have hm_w7heapsize_w13 : w7.heap.size ≤ w13.heap.size := by omega
  try have hl_w8heapsize_w13 : w8.heap.size < w13.heap.size := by omega
  try have hm_w8heapsize_w13 : w8.heap.size ≤ w13.heap.size := by omega
  try have hl_w9heapsize_w13 : w9.heap.size < w13.heap.size := by omega
  try have hm_w9heapsize_w13 : w9.heap.size ≤ w13.heap.size := by omega
  try have hl_w10heapsize_w13 : w10.heap.size < w13.heap.size := by omega
  try have hm_w10heapsize_w13 : w10.heap.size ≤ w13.heap.size := by omega
  try have hl_w11heapsize_w13 : w11.heap.size < w13.heap.size := by omega
  try have hm_w11heapsize_w13 : w11.heap.size ≤ w13.heap.size := by omega
  try have hl_w12heapsize_w13 : w12.heap.size < w13.heap.size := by omega
  try have hm_w12heapsize_w13 : w12.heap.size ≤ w13.heap.size := by omega
  clear E3_13
  go_wp2_with fail
  go_ret
  exact ⟨rfl, (by repeat (first | exact HB13.out | exact Below.refl _ _ | refine Below.alloc ?_ (by first | omega | (simp; done) | (simp; omega)) _ | refine Below.setCell ?_ (by first | omega | (simp; done) | (simp; omega)) _))⟩
theorem parts_walk (ch a b : Int) (w : World) (wf1 : (Lit.int .u8 ch).wf = true) (wf2 : (Lit.int .u8 a).wf = true) (wf3 : (Lit.int .u8 b).wf = true) (tied : Tied w) :
    Calls Tryd.prog 7 #[.int .u8 ch, .int .u8 a, .int .u8 b] w fun e w' => e = .returned (.bool true) ∧ Below w.heap.size w w' := by
  have h1 := wf_u8 wf1
  have h2 := wf_u8 wf2
  have h3 := wf_u8 wf3
  have k0 : 0 ≤ ch % 201 := by omega
  have k1 : ch % 201 ≤ 200 := by omega
  by_cases h : a ≤ ch % 201
  · by_cases h' : a + b ≤ ch % 201
    · exact parts_ok ch a b (ch % 201) _ _ h1.1 h1.2 h2.1 h2.2 h3.1 h3.2 k0 k1 h h' rfl rfl rfl w tied
    · exact parts_low ch a b (ch % 201) _ _ h1.1 h1.2 h2.1 h2.2 h3.1 h3.2 k0 k1 h (by omega) rfl rfl rfl w tied
  · by_cases h' : b = 0
    · exact parts_none ch a b (ch % 201) _ _ h1.1 h1.2 h2.1 h2.2 h3.1 h3.2 k0 k1 (by omega) h' rfl rfl rfl w tied
    · exact parts_both ch a b (ch % 201) _ _ h1.1 h1.2 h2.1 h2.2 h3.1 h3.2 k0 k1 (by omega) (by omega) rfl rfl rfl w tied
end Go.Proofs.YtlapklghioinfaaDoor
