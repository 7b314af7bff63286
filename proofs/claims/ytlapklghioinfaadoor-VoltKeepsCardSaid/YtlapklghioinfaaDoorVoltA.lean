/- The laws of layer 19: their walks. -/
import Derived.Test.YtlapklghioinfaaDoorVolt
import Derived.Outline
namespace Go.Proofs.YtlapklghioinfaaDoor
open Go.RowKit Go.Extern.Stop Go.Stop Go.Extern
set_option linter.unusedVariables false

theorem volt_spend_eq {c s g d n k c' s' g' d' : Int} (h : spendR c s g d n = ⟨k, c', s', g', d'⟩) (w : World) :
    Calls Tryd.prog 24 #[.agg #[.int .i64 c, .int .i64 s, .int .i64 g, .int .i64 d], .int .i64 n] w fun e w' => ∃ v, e = .returned (.tuple #[.agg #[.int .i64 c', .int .i64 s', .int .i64 g', .int .i64 d'], v]) ∧ ErrR w.heap.size w' v k ∧ Below w.heap.size w w' := by
  have := volt_spend c s g d n w; rw [h] at this; exact this
theorem volt_gain_eq {c s g d n k c' s' g' d' : Int} (h : gainR c s g d n = ⟨k, c', s', g', d'⟩) (w : World) :
    Calls Tryd.prog 25 #[.agg #[.int .i64 c, .int .i64 s, .int .i64 g, .int .i64 d], .int .i64 n] w fun e w' => ∃ v, e = .returned (.tuple #[.agg #[.int .i64 c', .int .i64 s', .int .i64 g', .int .i64 d'], v]) ∧ ErrR w.heap.size w' v k ∧ Below w.heap.size w w' := by
  have := volt_gain c s g d n w; rw [h] at this; exact this
theorem volt_set_eq {c s g d n k c' s' g' d' : Int} (h : setR c s g d n = ⟨k, c', s', g', d'⟩) (w : World) :
    Calls Tryd.prog 26 #[.agg #[.int .i64 c, .int .i64 s, .int .i64 g, .int .i64 d], .int .i64 n] w fun e w' => ∃ v, e = .returned (.tuple #[.agg #[.int .i64 c', .int .i64 s', .int .i64 g', .int .i64 d'], v]) ∧ ErrR w.heap.size w' v k ∧ Below w.heap.size w w' := by
  have := volt_set c s g d n w; rw [h] at this; exact this
theorem volt_awake (w : World) (tied : Tied w) : Calls Tryd.prog 23 #[] w fun e w' => e = .returned (.bool true) ∧ Below w.heap.size w w' := by
  have HB0 := Lib.hid (Below.refl w.heap.size w)
  have T := Lib.hid tied
  clear tied
  have h1 := Lib.hid (show spendR 50 0 0 0 7 = ⟨0, 43, 7, 0, 0⟩ by decide)
  go_enter Tryd.func23, Tryd.ntmps23
  go_wp2_with fail
  refine (volt_spend_eq h1.out _).mono ?_
  rintro e w1 ⟨v1, rfl, hr, hb⟩
  have HB1 := Lib.hid (Below.trans (B := w.heap.size) (a := w) (by repeat (first | exact HB0.out | exact Below.refl _ _ | refine Below.alloc ?_ (by first | omega | (simp; done) | (simp; omega)) _ | refine Below.setCell ?_ (by first | omega | (simp; done) | (simp; omega)) _)) (hb.mono (by first | omega | (simp; done) | (simp; omega))))
  have hz1 := hb.size
  try simp at hz1
  obtain ⟨hc1, hf1⟩ := bcell hb
  obtain ⟨BE1, hr, hBE1⟩ := err_at hr
  try simp at hBE1
  have E1_1 := Lib.hid hr
  clear hr
  clear hb
  try have hl_wheapsize_w1 : w.heap.size < w1.heap.size := by omega
  try have hm_wheapsize_w1 : w.heap.size ≤ w1.heap.size := by omega
  go_wp2_with fail
  refine (Num_any (B := BE1) _ v1 0 (by exact (by repeat (first | exact E1_1.out | refine ErrR.alloc ?_ _ | refine ErrR.setCell ?_ (by first | omega | (simp; done) | (simp; omega)) _))) (by exact (T.out.under T.out.lt (by repeat (first | exact HB1.out | exact Below.refl _ _ | refine Below.alloc ?_ (by first | omega | (simp; done) | (simp; omega)) _ | refine Below.setCell ?_ (by first | omega | (simp; done) | (simp; omega)) _))))).mono ?_
  rintro e w2 ⟨rfl, hb⟩
  have HB2 := Lib.hid (Below.trans (B := w.heap.size) (a := w) (by repeat (first | exact HB1.out | exact Below.refl _ _ | refine Below.alloc ?_ (by first | omega | (simp; done) | (simp; omega)) _ | refine Below.setCell ?_ (by first | omega | (simp; done) | (simp; omega)) _)) (hb.mono (by first | omega | (simp; done) | (simp; omega))))
  have hz2 := hb.size
  try simp at hz2
  have E1_2 := Lib.hid (ErrR.under (B := BE1) (v := v1) (n := 0) (by repeat (first | exact E1_1.out | refine ErrR.alloc ?_ _ | refine ErrR.setCell ?_ (by first | omega | (simp; done) | (simp; omega)) _)) hb)
  clear E1_1
  obtain ⟨hc2, hf2⟩ := bcell hb
  clear hb
  try have hl_wheapsize_w2 : w.heap.size < w2.heap.size := by omega
  try have hm_wheapsize_w2 : w.heap.size ≤ w2.heap.size := by omega
  try have hl_w1heapsize_w2 : w1.heap.size < w2.heap.size := by omega
  try have hm_w1heapsize_w2 : w1.heap.size ≤ w2.heap.size := by omega
  clear E1_2
  go_wp2_with fail
  go_ret
  exact ⟨rfl, (by repeat (first | exact HB2.out | exact Below.refl _ _ | refine Below.alloc ?_ (by first | omega | (simp; done) | (simp; omega)) _ | refine Below.setCell ?_ (by first | omega | (simp; done) | (simp; omega)) _))⟩

theorem wf_u16 {n : Int} (h : (Lit.int .u16 n).wf = true) : 0 ≤ n ∧ n ≤ 65535 := by simpa [Lit.wf, IntKind.min, IntKind.max, IntKind.signed, IntKind.bits] using h
theorem wf_u8 {n : Int} (h : (Lit.int .u8 n).wf = true) : 0 ≤ n ∧ n ≤ 255 := by simpa [Lit.wf, IntKind.min, IntKind.max, IntKind.signed, IntKind.bits] using h
theorem wf_i64 {n : Int} (h : (Lit.int .i64 n).wf = true) : -9223372036854775808 ≤ n ∧ n ≤ 9223372036854775807 := by simpa [Lit.wf, IntKind.min, IntKind.max, IntKind.signed, IntKind.bits] using h

/-! ### VoltFull -/
theorem rightB_full : rightB 200 0 0 0 = true := by decide
theorem rightB_none : rightB 0 0 0 0 = true := by decide
theorem gain_at_full {n : Int} (h : 0 ≤ n) : gainR 200 0 0 0 n = ⟨0, 200, 0, 0, 0⟩ := by
  rw [gainR, if_pos ⟨rightB_full, h⟩, show min n (200 - 200) = 0 by omega]; decide
theorem spend_at_none {n : Int} (h : 0 < n) : spendR 0 0 0 0 n = ⟨11, 0, 0, 0, 0⟩ := by
  rw [spendR, if_pos ⟨rightB_none, by omega⟩, if_pos h]
theorem finR_ok {c s g d : Int} (h : rightB c s g d = true) : finR c s g d = ⟨0, c, s, g, d⟩ := if_pos h
theorem gain_at_none {n : Int} (h : 0 ≤ n) (h2 : n ≤ 200) : gainR 0 0 0 0 n = ⟨0, n, 0, n, 0⟩ := by
  rw [gainR, if_pos ⟨rightB_none, h⟩, show min n (200 - 0) = n by omega, Int.zero_add, finR_ok ((rightB_iff _ _ _ _).2 (by omega))]
theorem gain_at_none_much {n : Int} (h2 : 200 < n) : gainR 0 0 0 0 n = ⟨0, 200, 0, 200, 0⟩ := by
  rw [gainR, if_pos ⟨rightB_none, by omega⟩, show min n (200 - 0) = 200 by omega]; decide
theorem full_zero (w : World) (tied : Tied w) : Calls Tryd.prog 8 #[.int .u16 0] w fun e w' => e = .returned (.bool true) ∧ Below w.heap.size w w' := by
  have HB0 := Lib.hid (Below.refl w.heap.size w)
  have T := Lib.hid tied
  clear tied
  have h1 := Lib.hid (show gainR 200 0 0 0 0 = ⟨0, 200, 0, 0, 0⟩ by decide)
  have h2 := Lib.hid (show spendR 0 0 0 0 0 = ⟨0, 0, 0, 0, 0⟩ by decide)
  have h3 := Lib.hid (show gainR 0 0 0 0 0 = ⟨0, 0, 0, 0, 0⟩ by decide)
  go_enter Tryd.func8, Tryd.ntmps8
  go_wp2_with fail
  refine (volt_awake _ (by exact (T.out.under T.out.lt (by repeat (first | exact HB0.out | exact Below.refl _ _ | refine Below.alloc ?_ (by first | omega | (simp; done) | (simp; omega)) _ | refine Below.setCell ?_ (by first | omega | (simp; done) | (simp; omega)) _))))).mono ?_
  rintro e w1 ⟨rfl, hb⟩
  have HB1 := Lib.hid (Below.trans (B := w.heap.size) (a := w) (by repeat (first | exact HB0.out | exact Below.refl _ _ | refine Below.alloc ?_ (by first | omega | (simp; done) | (simp; omega)) _ | refine Below.setCell ?_ (by first | omega | (simp; done) | (simp; omega)) _)) (hb.mono (by first | omega | (simp; done) | (simp; omega))))
  have hz1 := hb.size
  try simp at hz1
  obtain ⟨hc1, hf1⟩ := bcell hb
  clear hb
  try have hl_wheapsize_w1 : w.heap.size < w1.heap.size := by omega
  try have hm_wheapsize_w1 : w.heap.size ≤ w1.heap.size := by omega
  go_wp2_with fail
  refine (volt_gain_eq h1.out _).mono ?_
  rintro e w2 ⟨v1, rfl, hr, hb⟩
  have HB2 := Lib.hid (Below.trans (B := w.heap.size) (a := w) (by repeat (first | exact HB1.out | exact Below.refl _ _ | refine Below.alloc ?_ (by first | omega | (simp; done) | (simp; omega)) _ | refine Below.setCell ?_ (by first | omega | (simp; done) | (simp; omega)) _)) (hb.mono (by first | omega | (simp; done) | (simp; omega))))
  have hz2 := hb.size
  try simp at hz2
  obtain ⟨hc2, hf2⟩ := bcell hb
  obtain ⟨BE1, hr, hBE1⟩ := err_at hr
  try simp at hBE1
  have E1_2 := Lib.hid hr
  clear hr
  clear hb
  try have hl_wheapsize_w2 : w.heap.size < w2.heap.size := by omega
  try have hm_wheapsize_w2 : w.heap.size ≤ w2.heap.size := by omega
  try have hl_w1heapsize_w2 : w1.heap.size < w2.heap.size := by omega
  try have hm_w1heapsize_w2 : w1.heap.size ≤ w2.heap.size := by omega
  go_wp2_with fail
  refine (volt_spend_eq h2.out _).mono ?_
  rintro e w3 ⟨v2, rfl, hr, hb⟩
  have HB3 := Lib.hid (Below.trans (B := w.heap.size) (a := w) (by repeat (first | exact HB2.out | exact Below.refl _ _ | refine Below.alloc ?_ (by first | omega | (simp; done) | (simp; omega)) _ | refine Below.setCell ?_ (by first | omega | (simp; done) | (simp; omega)) _)) (hb.mono (by first | omega | (simp; done) | (simp; omega))))
  have hz3 := hb.size
  try simp at hz3
  have E1_3 := Lib.hid (ErrR.under (B := BE1) (v := v1) (n := 0) (by repeat (first | exact E1_2.out | refine ErrR.alloc ?_ _ | refine ErrR.setCell ?_ (by first | omega | (simp; done) | (simp; omega)) _)) hb)
  clear E1_2
  obtain ⟨hc3, hf3⟩ := bcell hb
  obtain ⟨BE2, hr, hBE2⟩ := err_at hr
  try simp at hBE2
  have E2_3 := Lib.hid hr
  clear hr
  clear hb
  try have hl_wheapsize_w3 : w.heap.size < w3.heap.size := by omega
  try have hm_wheapsize_w3 : w.heap.size ≤ w3.heap.size := by omega
  try have hl_w1heapsize_w3 : w1.heap.size < w3.heap.size := by omega
  try have hm_w1heapsize_w3 : w1.heap.size ≤ w3.heap.size := by omega
  try have hl_w2heapsize_w3 : w2.heap.size < w3.heap.size := by omega
  try have hm_w2heapsize_w3 : w2.heap.size ≤ w3.heap.size := by omega
  go_wp2_with fail
  refine (volt_gain_eq h3.out _).mono ?_
  rintro e w4 ⟨v3, rfl, hr, hb⟩
  have HB4 := Lib.hid (Below.trans (B := w.heap.size) (a := w) (by repeat (first | exact HB3.out | exact Below.refl _ _ | refine Below.alloc ?_ (by first | omega | (simp; done) | (simp; omega)) _ | refine Below.setCell ?_ (by first | omega | (simp; done) | (simp; omega)) _)) (hb.mono (by first | omega | (simp; done) | (simp; omega))))
  have hz4 := hb.size
  try simp at hz4
  have E1_4 := Lib.hid (ErrR.under (B := BE1) (v := v1) (n := 0) (by repeat (first | exact E1_3.out | refine ErrR.alloc ?_ _ | refine ErrR.setCell ?_ (by first | omega | (simp; done) | (simp; omega)) _)) hb)
  clear E1_3
  have E2_4 := Lib.hid (ErrR.under (B := BE2) (v := v2) (n := 0) (by repeat (first | exact E2_3.out | refine ErrR.alloc ?_ _ | refine ErrR.setCell ?_ (by first | omega | (simp; done) | (simp; omega)) _)) hb)
  clear E2_3
  obtain ⟨hc4, hf4⟩ := bcell hb
  obtain ⟨BE3, hr, hBE3⟩ := err_at hr
  try simp at hBE3
  have E3_4 := Lib.hid hr
  clear hr
  clear hb
  try have hl_wheapsize_w4 : w.heap.size < w4.heap.size := by omega
  try have hm_wheapsize_w4 : w.heap.size ≤ w4.heap.size := by omega
  try have hl_w1heapsize_w4 : w1.heap.size < w4.heap.size := by omega
  try have hm_w1heapsize_w4 : w1.heap.size ≤ w4.heap.size := by omega
  try have hl_w2heapsize_w4 : w2.heap.size < w4.heap.size := by omega
  try have hm_w2heapsize_w4 : w2.heap.size ≤ w4.heap.size := by omega
  try have hl_w3heapsize_w4 : w3.heap.size < w4.heap.size := by omega
  try have hm_w3heapsize_w4 : w3.heap.size ≤ w4.heap.size := by omega
  go_wp2_with fail
  refine (Num_any (B := BE1) _ v1 0 (by exact (by repeat (first | exact E1_4.out | refine ErrR.alloc ?_ _ | refine ErrR.setCell ?_ (by first | omega | (simp; done) | (simp; omega)) _))) (by exact (T.out.under T.out.lt (by repeat (first | exact HB4.out | exact Below.refl _ _ | refine Below.alloc ?_ (by first | omega | (simp; done) | (simp; omega)) _ | refine Below.setCell ?_ (by first | omega | (simp; done) | (simp; omega)) _))))).mono ?_
  rintro e w5 ⟨rfl, hb⟩
  have HB5 := Lib.hid (Below.trans (B := w.heap.size) (a := w) (by repeat (first | exact HB4.out | exact Below.refl _ _ | refine Below.alloc ?_ (by first | omega | (simp; done) | (simp; omega)) _ | refine Below.setCell ?_ (by first | omega | (simp; done) | (simp; omega)) _)) (hb.mono (by first | omega | (simp; done) | (simp; omega))))
  have hz5 := hb.size
  try simp at hz5
  have E1_5 := Lib.hid (ErrR.under (B := BE1) (v := v1) (n := 0) (by repeat (first | exact E1_4.out | refine ErrR.alloc ?_ _ | refine ErrR.setCell ?_ (by first | omega | (simp; done) | (simp; omega)) _)) hb)
  clear E1_4
  have E2_5 := Lib.hid (ErrR.under (B := BE2) (v := v2) (n := 0) (by repeat (first | exact E2_4.out | refine ErrR.alloc ?_ _ | refine ErrR.setCell ?_ (by first | omega | (simp; done) | (simp; omega)) _)) hb)
  clear E2_4
  have E3_5 := Lib.hid (ErrR.under (B := BE3) (v := v3) (n := 0) (by repeat (first | exact E3_4.out | refine ErrR.alloc ?_ _ | refine ErrR.setCell ?_ (by first | omega | (simp; done) | (simp; omega)) _)) hb)
  clear E3_4
  obtain ⟨hc5, hf5⟩ := bcell hb
  clear hb
  try have hl_wheapsize_w5 : w.heap.size < w5.heap.size := by omega
  try have hm_wheapsize_w5 : w.heap.size ≤ w5.heap.size := by omega
  try have hl_w1heapsize_w5 : w1.heap.size < w5.heap.size := by omega
  try have hm_w1heapsize_w5 : w1.heap.size ≤ w5.heap.size := by omega
  try have hl_w2heapsize_w5 : w2.heap.size < w5.heap.size := by omega
  try have hm_w2heapsize_w5 : w2.heap.size ≤ w5.heap.size := by omega
  try have hl_w3heapsize_w5 : w3.heap.size < w5.heap.size := by omega
  try have hm_w3heapsize_w5 : w3.heap.size ≤ w5.heap.size := by omega
  try have hl_w4heapsize_w5 : w4.heap.size < w5.heap.size := by omega
  try have hm_w4heapsize_w5 : w4.heap.size ≤ w5.heap.size := by omega
  clear E1_5
  go_wp2_with fail
  refine (Num_any (B := BE2) _ v2 0 (by exact (by repeat (first | exact E2_5.out | refine ErrR.alloc ?_ _ | refine ErrR.setCell ?_ (by first | omega | (simp; done) | (simp; omega)) _))) (by exact (T.out.under T.out.lt (by repeat (first | exact HB5.out | exact Below.refl _ _ | refine Below.alloc ?_ (by first | omega | (simp; done) | (simp; omega)) _ | refine Below.setCell ?_ (by first | omega | (simp; done) | (simp; omega)) _))))).mono ?_
  rintro e w6 ⟨rfl, hb⟩
  have HB6 := Lib.hid (Below.trans (B := w.heap.size) (a := w) (by repeat (first | exact HB5.out | exact Below.refl _ _ | refine Below.alloc ?_ (by first | omega | (simp; done) | (simp; omega)) _ | refine Below.setCell ?_ (by first | omega | (simp; done) | (simp; omega)) _)) (hb.mono (by first | omega | (simp; done) | (simp; omega))))
  have hz6 := hb.size
  try simp at hz6
  have E2_6 := Lib.hid (ErrR.under (B := BE2) (v := v2) (n := 0) (by repeat (first | exact E2_5.out | refine ErrR.alloc ?_ _ | refine ErrR.setCell ?_ (by first | omega | (simp; done) | (simp; omega)) _)) hb)
  clear E2_5
  have E3_6 := Lib.hid (ErrR.under (B := BE3) (v := v3) (n := 0) (by repeat (first | exact E3_5.out | refine ErrR.alloc ?_ _ | refine ErrR.setCell ?_ (by first | omega | (simp; done) | (simp; omega)) _)) hb)
  clear E3_5
  obtain ⟨hc6, hf6⟩ := bcell hb
  clear hb
  try have hl_wheapsize_w6 : w.heap.size < w6.heap.size := by omega
  try have hm_wheapsize_w6 : w.heap.size ≤ w6.heap.size := by omega
  try have hl_w1heapsize_w6 : w1.heap.size < w6.heap.size := by omega
  try have hm_w1heapsize_w6 : w1.heap.size ≤ w6.heap.size := by omega
  try have hl_w2heapsize_w6 : w2.heap.size < w6.heap.size := by omega
  try have hm_w2heapsize_w6 : w2.heap.size ≤ w6.heap.size := by omega
  try have hl_w3heapsize_w6 : w3.heap.size < w6.heap.size := by omega
  try have hm_w3heapsize_w6 : w3.heap.size ≤ w6.heap.size := by omega
  try have hl_w4heapsize_w6 : w4.heap.size < w6.heap.size := by omega
  try have hm_w4heapsize_w6 : w4.heap.size ≤ w6.heap.size := by omega
  try have hl_w5heapsize_w6 : w5.heap.size < w6.heap.size := by omega
  try have hm_w5heapsize_w6 : w5.heap.size ≤ w6.heap.size := by omega
  clear E2_6
  go_wp2_with fail
  refine (Num_any (B := BE3) _ v3 0 (by exact (by repeat (first | exact E3_6.out | refine ErrR.alloc ?_ _ | refine ErrR.setCell ?_ (by first | omega | (simp; done) | (simp; omega)) _))) (by exact (T.out.under T.out.lt (by repeat (first | exact HB6.out | exact Below.refl _ _ | refine Below.alloc ?_ (by first | omega | (simp; done) | (simp; omega)) _ | refine Below.setCell ?_ (by first | omega | (simp; done) | (simp; omega)) _))))).mono ?_
  rintro e w7 ⟨rfl, hb⟩
  have HB7 := Lib.hid (Below.trans (B := w.heap.size) (a := w) (by repeat (first | exact HB6.out | exact Below.refl _ _ | refine Below.alloc ?_ (by first | omega | (simp; done) | (simp; omega)) _ | refine Below.setCell ?_ (by first | omega | (simp; done) | (simp; omega)) _)) (hb.mono (by first | omega | (simp; done) | (simp; omega))))
  have hz7 := hb.size
  try simp at hz7
  have E3_7 := Lib.hid (ErrR.under (B := BE3) (v := v3) (n := 0) (by repeat (first | exact E3_6.out | refine ErrR.alloc ?_ _ | refine ErrR.setCell ?_ (by first | omega | (simp; done) | (simp; omega)) _)) hb)
  clear E3_6
  obtain ⟨hc7, hf7⟩ := bcell hb
  clear hb
  try have hl_wheapsize_w7 : w.heap.size < w7.heap.size := by omega
  try have hm_wheapsize_w7 : w.heap.size ≤ w7.heap.size := by omega
  try have hl_w1heapsize_w7 : w1.heap.size < w7.heap.size := by omega
  try have hm_w1heapsize_w7 : w1.heap.size ≤ w7.heap.size := by omega
  try have hl_w2heapsize_w7 : w2.heap.size < w7.heap.size := by omega
  try have hm_w2heapsize_w7 : w2.heap.size ≤ w7.heap.size := by omega
  try have hl_w3heapsize_w7 : w3.heap.size < w7.heap.size := by omega
  try have hm_w3heapsize_w7 : w3.heap.size ≤ w7.heap.size := by omega
  try have hl_w4heapsize_w7 : w4.heap.size < w7.heap.size := by omega
  try have hm_w4heapsize_w7 : w4.heap.size ≤ w7.heap.size := by omega
  try have hl_w5heapsize_w7 : w5.heap.size < w7.heap.size := by omega
  try have hm_w5heapsize_w7 : w5.heap.size ≤ w7.heap.size := by omega
  try have hl_w6heapsize_w7 : w6.heap.size < w7.heap.size := by omega
  try have hm_w6heapsize_w7 : w6.heap.size ≤ w7.heap.size := by omega
  clear E3_7
  go_wp2_with fail
  go_ret
  exact ⟨rfl, (by repeat (first | exact HB7.out | exact Below.refl _ _ | refine Below.alloc ?_ (by first | omega | (simp; done) | (simp; omega)) _ | refine Below.setCell ?_ (by first | omega | (simp; done) | (simp; omega)) _))⟩
theorem full_some (n : Int) (w : World) (p0 : 0 < n) (p1 : n ≤ 200) (tied : Tied w) : Calls Tryd.prog 8 #[.int .u16 n] w fun e w' => e = .returned (.bool true) ∧ Below w.heap.size w w' := by
  have HB0 := Lib.hid (Below.refl w.heap.size w)
  have T := Lib.hid tied
  clear tied
  have h1 := Lib.hid (gain_at_full (show 0 ≤ n by omega))
  have h2 := Lib.hid (spend_at_none p0)
  have h3 := Lib.hid (gain_at_none (show 0 ≤ n by omega) p1)
  have b0 : (n == 0) = false := by simp; omega
  go_enter Tryd.func8, Tryd.ntmps8
  go_wp2_with fail
  refine (volt_awake _ (by exact (T.out.under T.out.lt (by repeat (first | exact HB0.out | exact Below.refl _ _ | refine Below.alloc ?_ (by first | omega | (simp; done) | (simp; omega)) _ | refine Below.setCell ?_ (by first | omega | (simp; done) | (simp; omega)) _))))).mono ?_
  rintro e w1 ⟨rfl, hb⟩
  have HB1 := Lib.hid (Below.trans (B := w.heap.size) (a := w) (by repeat (first | exact HB0.out | exact Below.refl _ _ | refine Below.alloc ?_ (by first | omega | (simp; done) | (simp; omega)) _ | refine Below.setCell ?_ (by first | omega | (simp; done) | (simp; omega)) _)) (hb.mono (by first | omega | (simp; done) | (simp; omega))))
  have hz1 := hb.size
  try simp at hz1
  obtain ⟨hc1, hf1⟩ := bcell hb
  clear hb
  try have hl_wheapsize_w1 : w.heap.size < w1.heap.size := by omega
  try have hm_wheapsize_w1 : w.heap.size ≤ w1.heap.size := by omega
  go_wp2_with fail
  refine (volt_gain_eq h1.out _).mono ?_
  rintro e w2 ⟨v1, rfl, hr, hb⟩
  have HB2 := Lib.hid (Below.trans (B := w.heap.size) (a := w) (by repeat (first | exact HB1.out | exact Below.refl _ _ | refine Below.alloc ?_ (by first | omega | (simp; done) | (simp; omega)) _ | refine Below.setCell ?_ (by first | omega | (simp; done) | (simp; omega)) _)) (hb.mono (by first | omega | (simp; done) | (simp; omega))))
  have hz2 := hb.size
  try simp at hz2
  obtain ⟨hc2, hf2⟩ := bcell hb
  obtain ⟨BE1, hr, hBE1⟩ := err_at hr
  try simp at hBE1
  have E1_2 := Lib.hid hr
  clear hr
  clear hb
  try have hl_wheapsize_w2 : w.heap.size < w2.heap.size := by omega
  try have hm_wheapsize_w2 : w.heap.size ≤ w2.heap.size := by omega
  try have hl_w1heapsize_w2 : w1.heap.size < w2.heap.size := by omega
  try have hm_w1heapsize_w2 : w1.heap.size ≤ w2.heap.size := by omega
  go_wp2_with fail
  refine (volt_spend_eq h2.out _).mono ?_
  rintro e w3 ⟨v2, rfl, hr, hb⟩
  have HB3 := Lib.hid (Below.trans (B := w.heap.size) (a := w) (by repeat (first | exact HB2.out | exact Below.refl _ _ | refine Below.alloc ?_ (by first | omega | (simp; done) | (simp; omega)) _ | refine Below.setCell ?_ (by first | omega | (simp; done) | (simp; omega)) _)) (hb.mono (by first | omega | (simp; done) | (simp; omega))))
  have hz3 := hb.size
  try simp at hz3
  have E1_3 := Lib.hid (ErrR.under (B := BE1) (v := v1) (n := 0) (by repeat (first | exact E1_2.out | refine ErrR.alloc ?_ _ | refine ErrR.setCell ?_ (by first | omega | (simp; done) | (simp; omega)) _)) hb)
  clear E1_2
  obtain ⟨hc3, hf3⟩ := bcell hb
  obtain ⟨BE2, hr, hBE2⟩ := err_at hr
  try simp at hBE2
  have E2_3 := Lib.hid hr
  clear hr
  clear hb
  try have hl_wheapsize_w3 : w.heap.size < w3.heap.size := by omega
  try have hm_wheapsize_w3 : w.heap.size ≤ w3.heap.size := by omega
  try have hl_w1heapsize_w3 : w1.heap.size < w3.heap.size := by omega
  try have hm_w1heapsize_w3 : w1.heap.size ≤ w3.heap.size := by omega
  try have hl_w2heapsize_w3 : w2.heap.size < w3.heap.size := by omega
  try have hm_w2heapsize_w3 : w2.heap.size ≤ w3.heap.size := by omega
  go_wp2_with fail
  refine (volt_gain_eq h3.out _).mono ?_
  rintro e w4 ⟨v3, rfl, hr, hb⟩
  have HB4 := Lib.hid (Below.trans (B := w.heap.size) (a := w) (by repeat (first | exact HB3.out | exact Below.refl _ _ | refine Below.alloc ?_ (by first | omega | (simp; done) | (simp; omega)) _ | refine Below.setCell ?_ (by first | omega | (simp; done) | (simp; omega)) _)) (hb.mono (by first | omega | (simp; done) | (simp; omega))))
  have hz4 := hb.size
  try simp at hz4
  have E1_4 := Lib.hid (ErrR.under (B := BE1) (v := v1) (n := 0) (by repeat (first | exact E1_3.out | refine ErrR.alloc ?_ _ | refine ErrR.setCell ?_ (by first | omega | (simp; done) | (simp; omega)) _)) hb)
  clear E1_3
  have E2_4 := Lib.hid (ErrR.under (B := BE2) (v := v2) (n := 11) (by repeat (first | exact E2_3.out | refine ErrR.alloc ?_ _ | refine ErrR.setCell ?_ (by first | omega | (simp; done) | (simp; omega)) _)) hb)
  clear E2_3
  obtain ⟨hc4, hf4⟩ := bcell hb
  obtain ⟨BE3, hr, hBE3⟩ := err_at hr
  try simp at hBE3
  have E3_4 := Lib.hid hr
  clear hr
  clear hb
  try have hl_wheapsize_w4 : w.heap.size < w4.heap.size := by omega
  try have hm_wheapsize_w4 : w.heap.size ≤ w4.heap.size := by omega
  try have hl_w1heapsize_w4 : w1.heap.size < w4.heap.size := by omega
  try have hm_w1heapsize_w4 : w1.heap.size ≤ w4.heap.size := by omega
  try have hl_w2heapsize_w4 : w2.heap.size < w4.heap.size := by omega
  try have hm_w2heapsize_w4 : w2.heap.size ≤ w4.heap.size := by omega
  try have hl_w3heapsize_w4 : w3.heap.size < w4.heap.size := by omega
  try have hm_w3heapsize_w4 : w3.heap.size ≤ w4.heap.size := by omega
  go_wp2_with fail
  refine (Num_any (B := BE1) _ v1 0 (by exact (by repeat (first | exact E1_4.out | refine ErrR.alloc ?_ _ | refine ErrR.setCell ?_ (by first | omega | (simp; done) | (simp; omega)) _))) (by exact (T.out.under T.out.lt (by repeat (first | exact HB4.out | exact Below.refl _ _ | refine Below.alloc ?_ (by first | omega | (simp; done) | (simp; omega)) _ | refine Below.setCell ?_ (by first | omega | (simp; done) | (simp; omega)) _))))).mono ?_
  rintro e w5 ⟨rfl, hb⟩
  have HB5 := Lib.hid (Below.trans (B := w.heap.size) (a := w) (by repeat (first | exact HB4.out | exact Below.refl _ _ | refine Below.alloc ?_ (by first | omega | (simp; done) | (simp; omega)) _ | refine Below.setCell ?_ (by first | omega | (simp; done) | (simp; omega)) _)) (hb.mono (by first | omega | (simp; done) | (simp; omega))))
  have hz5 := hb.size
  try simp at hz5
  have E1_5 := Lib.hid (ErrR.under (B := BE1) (v := v1) (n := 0) (by repeat (first | exact E1_4.out | refine ErrR.alloc ?_ _ | refine ErrR.setCell ?_ (by first | omega | (simp; done) | (simp; omega)) _)) hb)
  clear E1_4
  have E2_5 := Lib.hid (ErrR.under (B := BE2) (v := v2) (n := 11) (by repeat (first | exact E2_4.out | refine ErrR.alloc ?_ _ | refine ErrR.setCell ?_ (by first | omega | (simp; done) | (simp; omega)) _)) hb)
  clear E2_4
  have E3_5 := Lib.hid (ErrR.under (B := BE3) (v := v3) (n := 0) (by repeat (first | exact E3_4.out | refine ErrR.alloc ?_ _ | refine ErrR.setCell ?_ (by first | omega | (simp; done) | (simp; omega)) _)) hb)
  clear E3_4
  obtain ⟨hc5, hf5⟩ := bcell hb
  clear hb
  try have hl_wheapsize_w5 : w.heap.size < w5.heap.size := by omega
  try have hm_wheapsize_w5 : w.heap.size ≤ w5.heap.size := by omega
  try have hl_w1heapsize_w5 : w1.heap.size < w5.heap.size := by omega
  try have hm_w1heapsize_w5 : w1.heap.size ≤ w5.heap.size := by omega
  try have hl_w2heapsize_w5 : w2.heap.size < w5.heap.size := by omega
  try have hm_w2heapsize_w5 : w2.heap.size ≤ w5.heap.size := by omega
  try have hl_w3heapsize_w5 : w3.heap.size < w5.heap.size := by omega
  try have hm_w3heapsize_w5 : w3.heap.size ≤ w5.heap.size := by omega
  try have hl_w4heapsize_w5 : w4.heap.size < w5.heap.size := by omega
  try have hm_w4heapsize_w5 : w4.heap.size ≤ w5.heap.size := by omega
  clear E1_5
  go_wp2_with fail
  refine (Num_any (B := BE2) _ v2 11 (by exact (by repeat (first | exact E2_5.out | refine ErrR.alloc ?_ _ | refine ErrR.setCell ?_ (by first | omega | (simp; done) | (simp; omega)) _))) (by exact (T.out.under T.out.lt (by repeat (first | exact HB5.out | exact Below.refl _ _ | refine Below.alloc ?_ (by first | omega | (simp; done) | (simp; omega)) _ | refine Below.setCell ?_ (by first | omega | (simp; done) | (simp; omega)) _))))).mono ?_
  rintro e w6 ⟨rfl, hb⟩
  have HB6 := Lib.hid (Below.trans (B := w.heap.size) (a := w) (by repeat (first | exact HB5.out | exact Below.refl _ _ | refine Below.alloc ?_ (by first | omega | (simp; done) | (simp; omega)) _ | refine Below.setCell ?_ (by first | omega | (simp; done) | (simp; omega)) _)) (hb.mono (by first | omega | (simp; done) | (simp; omega))))
  have hz6 := hb.size
  try simp at hz6
  have E2_6 := Lib.hid (ErrR.under (B := BE2) (v := v2) (n := 11) (by repeat (first | exact E2_5.out | refine ErrR.alloc ?_ _ | refine ErrR.setCell ?_ (by first | omega | (simp; done) | (simp; omega)) _)) hb)
  clear E2_5
  have E3_6 := Lib.hid (ErrR.under (B := BE3) (v := v3) (n := 0) (by repeat (first | exact E3_5.out | refine ErrR.alloc ?_ _ | refine ErrR.setCell ?_ (by first | omega | (simp; done) | (simp; omega)) _)) hb)
  clear E3_5
  obtain ⟨hc6, hf6⟩ := bcell hb
  clear hb
  try have hl_wheapsize_w6 : w.heap.size < w6.heap.size := by omega
  try have hm_wheapsize_w6 : w.heap.size ≤ w6.heap.size := by omega
  try have hl_w1heapsize_w6 : w1.heap.size < w6.heap.size := by omega
  try have hm_w1heapsize_w6 : w1.heap.size ≤ w6.heap.size := by omega
  try have hl_w2heapsize_w6 : w2.heap.size < w6.heap.size := by omega
  try have hm_w2heapsize_w6 : w2.heap.size ≤ w6.heap.size := by omega
  try have hl_w3heapsize_w6 : w3.heap.size < w6.heap.size := by omega
  try have hm_w3heapsize_w6 : w3.heap.size ≤ w6.heap.size := by omega
  try have hl_w4heapsize_w6 : w4.heap.size < w6.heap.size := by omega
  try have hm_w4heapsize_w6 : w4.heap.size ≤ w6.heap.size := by omega
  try have hl_w5heapsize_w6 : w5.heap.size < w6.heap.size := by omega
  try have hm_w5heapsize_w6 : w5.heap.size ≤ w6.heap.size := by omega
  clear E2_6
  go_wp2_with fail
  refine (Num_any (B := BE3) _ v3 0 (by exact (by repeat (first | exact E3_6.out | refine ErrR.alloc ?_ _ | refine ErrR.setCell ?_ (by first | omega | (simp; done) | (simp; omega)) _))) (by exact (T.out.under T.out.lt (by repeat (first | exact HB6.out | exact Below.refl _ _ | refine Below.alloc ?_ (by first | omega | (simp; done) | (simp; omega)) _ | refine Below.setCell ?_ (by first | omega | (simp; done) | (simp; omega)) _))))).mono ?_
  rintro e w7 ⟨rfl, hb⟩
  have HB7 := Lib.hid (Below.trans (B := w.heap.size) (a := w) (by repeat (first | exact HB6.out | exact Below.refl _ _ | refine Below.alloc ?_ (by first | omega | (simp; done) | (simp; omega)) _ | refine Below.setCell ?_ (by first | omega | (simp; done) | (simp; omega)) _)) (hb.mono (by first | omega | (simp; done) | (simp; omega))))
  have hz7 := hb.size
  try simp at hz7
  have E3_7 := Lib.hid (ErrR.under (B := BE3) (v := v3) (n := 0) (by repeat (first | exact E3_6.out | refine ErrR.alloc ?_ _ | refine ErrR.setCell ?_ (by first | omega | (simp; done) | (simp; omega)) _)) hb)
  clear E3_6
  obtain ⟨hc7, hf7⟩ := bcell hb
  clear hb
  try have hl_wheapsize_w7 : w.heap.size < w7.heap.size := by omega
  try have hm_wheapsize_w7 : w.heap.size ≤ w7.heap.size := by omega
  try have hl_w1heapsize_w7 : w1.heap.size < w7.heap.size := by omega
  try have hm_w1heapsize_w7 : w1.heap.size ≤ w7.heap.size := by omega
  try have hl_w2heapsize_w7 : w2.heap.size < w7.heap.size := by omega
  try have hm_w2heapsize_w7 : w2.heap.size ≤ w7.heap.size := by omega
  try have hl_w3heapsize_w7 : w3.heap.size < w7.heap.size := by omega
  try have hm_w3heapsize_w7 : w3.heap.size ≤ w7.heap.size := by omega
  try have hl_w4heapsize_w7 : w4.heap.size < w7.heap.size := by omega
  try have hm_w4heapsize_w7 : w4.heap.size ≤ w7.heap.size := by omega
  try have hl_w5heapsize_w7 : w5.heap.size < w7.heap.size := by omega
  try have hm_w5heapsize_w7 : w5.heap.size ≤ w7.heap.size := by omega
  try have hl_w6heapsize_w7 : w6.heap.size < w7.heap.size := by omega
  try have hm_w6heapsize_w7 : w6.heap.size ≤ w7.heap.size := by omega
  clear E3_7
  go_wp2_with fail
  go_ret
  exact ⟨rfl, (by repeat (first | exact HB7.out | exact Below.refl _ _ | refine Below.alloc ?_ (by first | omega | (simp; done) | (simp; omega)) _ | refine Below.setCell ?_ (by first | omega | (simp; done) | (simp; omega)) _))⟩
theorem full_much (n : Int) (w : World) (p0 : 200 < n) (p1 : n ≤ 65535) (tied : Tied w) : Calls Tryd.prog 8 #[.int .u16 n] w fun e w' => e = .returned (.bool true) ∧ Below w.heap.size w w' := by
  have HB0 := Lib.hid (Below.refl w.heap.size w)
  have T := Lib.hid tied
  clear tied
  have h1 := Lib.hid (gain_at_full (show 0 ≤ n by omega))
  have h2 := Lib.hid (spend_at_none (show 0 < n by omega))
  have h3 := Lib.hid (gain_at_none_much p0)
  have b0 : (n == 0) = false := by simp; omega
  go_enter Tryd.func8, Tryd.ntmps8
  go_wp2_with fail
  refine (volt_awake _ (by exact (T.out.under T.out.lt (by repeat (first | exact HB0.out | exact Below.refl _ _ | refine Below.alloc ?_ (by first | omega | (simp; done) | (simp; omega)) _ | refine Below.setCell ?_ (by first | omega | (simp; done) | (simp; omega)) _))))).mono ?_
  rintro e w1 ⟨rfl, hb⟩
  have HB1 := Lib.hid (Below.trans (B := w.heap.size) (a := w) (by repeat (first | exact HB0.out | exact Below.refl _ _ | refine Below.alloc ?_ (by first | omega | (simp; done) | (simp; omega)) _ | refine Below.setCell ?_ (by first | omega | (simp; done) | (simp; omega)) _)) (hb.mono (by first | omega | (simp; done) | (simp; omega))))
  have hz1 := hb.size
  try simp at hz1
  obtain ⟨hc1, hf1⟩ := bcell hb
  clear hb
  try have hl_wheapsize_w1 : w.heap.size < w1.heap.size := by omega
  try have hm_wheapsize_w1 : w.heap.size ≤ w1.heap.size := by omega
  go_wp2_with fail
  refine (volt_gain_eq h1.out _).mono ?_
  rintro e w2 ⟨v1, rfl, hr, hb⟩
  have HB2 := Lib.hid (Below.trans (B := w.heap.size) (a := w) (by repeat (first | exact HB1.out | exact Below.refl _ _ | refine Below.alloc ?_ (by first | omega | (simp; done) | (simp; omega)) _ | refine Below.setCell ?_ (by first | omega | (simp; done) | (simp; omega)) _)) (hb.mono (by first | omega | (simp; done) | (simp; omega))))
  have hz2 := hb.size
  try simp at hz2
  obtain ⟨hc2, hf2⟩ := bcell hb
  obtain ⟨BE1, hr, hBE1⟩ := err_at hr
  try simp at hBE1
  have E1_2 := Lib.hid hr
  clear hr
  clear hb
  try have hl_wheapsize_w2 : w.heap.size < w2.heap.size := by omega
  try have hm_wheapsize_w2 : w.heap.size ≤ w2.heap.size := by omega
  try have hl_w1heapsize_w2 : w1.heap.size < w2.heap.size := by omega
  try have hm_w1heapsize_w2 : w1.heap.size ≤ w2.heap.size := by omega
  go_wp2_with fail
  refine (volt_spend_eq h2.out _).mono ?_
  rintro e w3 ⟨v2, rfl, hr, hb⟩
  have HB3 := Lib.hid (Below.trans (B := w.heap.size) (a := w) (by repeat (first | exact HB2.out | exact Below.refl _ _ | refine Below.alloc ?_ (by first | omega | (simp; done) | (simp; omega)) _ | refine Below.setCell ?_ (by first | omega | (simp; done) | (simp; omega)) _)) (hb.mono (by first | omega | (simp; done) | (simp; omega))))
  have hz3 := hb.size
  try simp at hz3
  have E1_3 := Lib.hid (ErrR.under (B := BE1) (v := v1) (n := 0) (by repeat (first | exact E1_2.out | refine ErrR.alloc ?_ _ | refine ErrR.setCell ?_ (by first | omega | (simp; done) | (simp; omega)) _)) hb)
  clear E1_2
  obtain ⟨hc3, hf3⟩ := bcell hb
  obtain ⟨BE2, hr, hBE2⟩ := err_at hr
  try simp at hBE2
  have E2_3 := Lib.hid hr
  clear hr
  clear hb
  try have hl_wheapsize_w3 : w.heap.size < w3.heap.size := by omega
  try have hm_wheapsize_w3 : w.heap.size ≤ w3.heap.size := by omega
  try have hl_w1heapsize_w3 : w1.heap.size < w3.heap.size := by omega
  try have hm_w1heapsize_w3 : w1.heap.size ≤ w3.heap.size := by omega
  try have hl_w2heapsize_w3 : w2.heap.size < w3.heap.size := by omega
  try have hm_w2heapsize_w3 : w2.heap.size ≤ w3.heap.size := by omega
  go_wp2_with fail
  refine (volt_gain_eq h3.out _).mono ?_
  rintro e w4 ⟨v3, rfl, hr, hb⟩
  have HB4 := Lib.hid (Below.trans (B := w.heap.size) (a := w) (by repeat (first | exact HB3.out | exact Below.refl _ _ | refine Below.alloc ?_ (by first | omega | (simp; done) | (simp; omega)) _ | refine Below.setCell ?_ (by first | omega | (simp; done) | (simp; omega)) _)) (hb.mono (by first | omega | (simp; done) | (simp; omega))))
  have hz4 := hb.size
  try simp at hz4
  have E1_4 := Lib.hid (ErrR.under (B := BE1) (v := v1) (n := 0) (by repeat (first | exact E1_3.out | refine ErrR.alloc ?_ _ | refine ErrR.setCell ?_ (by first | omega | (simp; done) | (simp; omega)) _)) hb)
  clear E1_3
  have E2_4 := Lib.hid (ErrR.under (B := BE2) (v := v2) (n := 11) (by repeat (first | exact E2_3.out | refine ErrR.alloc ?_ _ | refine ErrR.setCell ?_ (by first | omega | (simp; done) | (simp; omega)) _)) hb)
  clear E2_3
  obtain ⟨hc4, hf4⟩ := bcell hb
  obtain ⟨BE3, hr, hBE3⟩ := err_at hr
  try simp at hBE3
  have E3_4 := Lib.hid hr
  clear hr
  clear hb
  try have hl_wheapsize_w4 : w.heap.size < w4.heap.size := by omega
  try have hm_wheapsize_w4 : w.heap.size ≤ w4.heap.size := by omega
  try have hl_w1heapsize_w4 : w1.heap.size < w4.heap.size := by omega
  try have hm_w1heapsize_w4 : w1.heap.size ≤ w4.heap.size := by omega
  try have hl_w2heapsize_w4 : w2.heap.size < w4.heap.size := by omega
  try have hm_w2heapsize_w4 : w2.heap.size ≤ w4.heap.size := by omega
  try have hl_w3heapsize_w4 : w3.heap.size < w4.heap.size := by omega
  try have hm_w3heapsize_w4 : w3.heap.size ≤ w4.heap.size := by omega
  go_wp2_with fail
  refine (Num_any (B := BE1) _ v1 0 (by exact (by repeat (first | exact E1_4.out | refine ErrR.alloc ?_ _ | refine ErrR.setCell ?_ (by first | omega | (simp; done) | (simp; omega)) _))) (by exact (T.out.under T.out.lt (by repeat (first | exact HB4.out | exact Below.refl _ _ | refine Below.alloc ?_ (by first | omega | (simp; done) | (simp; omega)) _ | refine Below.setCell ?_ (by first | omega | (simp; done) | (simp; omega)) _))))).mono ?_
  rintro e w5 ⟨rfl, hb⟩
  have HB5 := Lib.hid (Below.trans (B := w.heap.size) (a := w) (by repeat (first | exact HB4.out | exact Below.refl _ _ | refine Below.alloc ?_ (by first | omega | (simp; done) | (simp; omega)) _ | refine Below.setCell ?_ (by first | omega | (simp; done) | (simp; omega)) _)) (hb.mono (by first | omega | (simp; done) | (simp; omega))))
  have hz5 := hb.size
  try simp at hz5
  have E1_5 := Lib.hid (ErrR.under (B := BE1) (v := v1) (n := 0) (by repeat (first | exact E1_4.out | refine ErrR.alloc ?_ _ | refine ErrR.setCell ?_ (by first | omega | (simp; done) | (simp; omega)) _)) hb)
  clear E1_4
  have E2_5 := Lib.hid (ErrR.under (B := BE2) (v := v2) (n := 11) (by repeat (first | exact E2_4.out | refine ErrR.alloc ?_ _ | refine ErrR.setCell ?_ (by first | omega | (simp; done) | (simp; omega)) _)) hb)
  clear E2_4
  have E3_5 := Lib.hid (ErrR.under (B := BE3) (v := v3) (n := 0) (by repeat (first | exact E3_4.out | refine ErrR.alloc ?_ _ | refine ErrR.setCell ?_ (by first | omega | (simp; done) | (simp; omega)) _)) hb)
  clear E3_4
  obtain ⟨hc5, hf5⟩ := bcell hb
  clear hb
  try have hl_wheapsize_w5 : w.heap.size < w5.heap.size := by omega
  try have hm_wheapsize_w5 : w.heap.size ≤ w5.heap.size := by omega
  try have hl_w1heapsize_w5 : w1.heap.size < w5.heap.size := by omega
  try have hm_w1heapsize_w5 : w1.heap.size ≤ w5.heap.size := by omega
  try have hl_w2heapsize_w5 : w2.heap.size < w5.heap.size := by omega
  try have hm_w2heapsize_w5 : w2.heap.size ≤ w5.heap.size := by omega
  try have hl_w3heapsize_w5 : w3.heap.size < w5.heap.size := by omega
  try have hm_w3heapsize_w5 : w3.heap.size ≤ w5.heap.size := by omega
  try have hl_w4heapsize_w5 : w4.heap.size < w5.heap.size := by omega
  try have hm_w4heapsize_w5 : w4.heap.size ≤ w5.heap.size := by omega
  clear E1_5
  go_wp2_with fail
  refine (Num_any (B := BE2) _ v2 11 (by exact (by repeat (first | exact E2_5.out | refine ErrR.alloc ?_ _ | refine ErrR.setCell ?_ (by first | omega | (simp; done) | (simp; omega)) _))) (by exact (T.out.under T.out.lt (by repeat (first | exact HB5.out | exact Below.refl _ _ | refine Below.alloc ?_ (by first | omega | (simp; done) | (simp; omega)) _ | refine Below.setCell ?_ (by first | omega | (simp; done) | (simp; omega)) _))))).mono ?_
  rintro e w6 ⟨rfl, hb⟩
  have HB6 := Lib.hid (Below.trans (B := w.heap.size) (a := w) (by repeat (first | exact HB5.out | exact Below.refl _ _ | refine Below.alloc ?_ (by first | omega | (simp; done) | (simp; omega)) _ | refine Below.setCell ?_ (by first | omega | (simp; done) | (simp; omega)) _)) (hb.mono (by first | omega | (simp; done) | (simp; omega))))
  have hz6 := hb.size
  try simp at hz6
  have E2_6 := Lib.hid (ErrR.under (B := BE2) (v := v2) (n := 11) (by repeat (first | exact E2_5.out | refine ErrR.alloc ?_ _ | refine ErrR.setCell ?_ (by first | omega | (simp; done) | (simp; omega)) _)) hb)
  clear E2_5
  have E3_6 := Lib.hid (ErrR.under (B := BE3) (v := v3) (n := 0) (by repeat (first | exact E3_5.out | refine ErrR.alloc ?_ _ | refine ErrR.setCell ?_ (by first | omega | (simp; done) | (simp; omega)) _)) hb)
  clear E3_5
  obtain ⟨hc6, hf6⟩ := bcell hb
  clear hb
  try have hl_wheapsize_w6 : w.heap.size < w6.heap.size := by omega
  try have hm_wheapsize_w6 : w.heap.size ≤ w6.heap.size := by omega
  try have hl_w1heapsize_w6 : w1.heap.size < w6.heap.size := by omega
  try have hm_w1heapsize_w6 : w1.heap.size ≤ w6.heap.size := by omega
  try have hl_w2heapsize_w6 : w2.heap.size < w6.heap.size := by omega
  try have hm_w2heapsize_w6 : w2.heap.size ≤ w6.heap.size := by omega
  try have hl_w3heapsize_w6 : w3.heap.size < w6.heap.size := by omega
  try have hm_w3heapsize_w6 : w3.heap.size ≤ w6.heap.size := by omega
  try have hl_w4heapsize_w6 : w4.heap.size < w6.heap.size := by omega
  try have hm_w4heapsize_w6 : w4.heap.size ≤ w6.heap.size := by omega
  try have hl_w5heapsize_w6 : w5.heap.size < w6.heap.size := by omega
  try have hm_w5heapsize_w6 : w5.heap.size ≤ w6.heap.size := by omega
  clear E2_6
  go_wp2_with fail
  refine (Num_any (B := BE3) _ v3 0 (by exact (by repeat (first | exact E3_6.out | refine ErrR.alloc ?_ _ | refine ErrR.setCell ?_ (by first | omega | (simp; done) | (simp; omega)) _))) (by exact (T.out.under T.out.lt (by repeat (first | exact HB6.out | exact Below.refl _ _ | refine Below.alloc ?_ (by first | omega | (simp; done) | (simp; omega)) _ | refine Below.setCell ?_ (by first | omega | (simp; done) | (simp; omega)) _))))).mono ?_
  rintro e w7 ⟨rfl, hb⟩
  have HB7 := Lib.hid (Below.trans (B := w.heap.size) (a := w) (by repeat (first | exact HB6.out | exact Below.refl _ _ | refine Below.alloc ?_ (by first | omega | (simp; done) | (simp; omega)) _ | refine Below.setCell ?_ (by first | omega | (simp; done) | (simp; omega)) _)) (hb.mono (by first | omega | (simp; done) | (simp; omega))))
  have hz7 := hb.size
  try simp at hz7
  have E3_7 := Lib.hid (ErrR.under (B := BE3) (v := v3) (n := 0) (by repeat (first | exact E3_6.out | refine ErrR.alloc ?_ _ | refine ErrR.setCell ?_ (by first | omega | (simp; done) | (simp; omega)) _)) hb)
  clear E3_6
  obtain ⟨hc7, hf7⟩ := bcell hb
  clear hb
  try have hl_wheapsize_w7 : w.heap.size < w7.heap.size := by omega
  try have hm_wheapsize_w7 : w.heap.size ≤ w7.heap.size := by omega
  try have hl_w1heapsize_w7 : w1.heap.size < w7.heap.size := by omega
  try have hm_w1heapsize_w7 : w1.heap.size ≤ w7.heap.size := by omega
  try have hl_w2heapsize_w7 : w2.heap.size < w7.heap.size := by omega
  try have hm_w2heapsize_w7 : w2.heap.size ≤ w7.heap.size := by omega
  try have hl_w3heapsize_w7 : w3.heap.size < w7.heap.size := by omega
  try have hm_w3heapsize_w7 : w3.heap.size ≤ w7.heap.size := by omega
  try have hl_w4heapsize_w7 : w4.heap.size < w7.heap.size := by omega
  try have hm_w4heapsize_w7 : w4.heap.size ≤ w7.heap.size := by omega
  try have hl_w5heapsize_w7 : w5.heap.size < w7.heap.size := by omega
  try have hm_w5heapsize_w7 : w5.heap.size ≤ w7.heap.size := by omega
  try have hl_w6heapsize_w7 : w6.heap.size < w7.heap.size := by omega
  try have hm_w6heapsize_w7 : w6.heap.size ≤ w7.heap.size := by omega
  clear E3_7
  go_wp2_with fail
  go_ret
  exact ⟨rfl, (by repeat (first | exact HB7.out | exact Below.refl _ _ | refine Below.alloc ?_ (by first | omega | (simp; done) | (simp; omega)) _ | refine Below.setCell ?_ (by first | omega | (simp; done) | (simp; omega)) _))⟩
theorem full_walk (n : Int) (w : World) (wf : (Lit.int .u16 n).wf = true) (tied : Tied w) : Calls Tryd.prog 8 #[.int .u16 n] w fun e w' => e = .returned (.bool true) ∧ Below w.heap.size w w' := by
  have hb := wf_u16 wf
  by_cases h0 : n = 0
  · subst h0; exact full_zero w tied
  · by_cases h1 : n ≤ 200
    · exact full_some n w (by omega) h1 tied
    · exact full_much n w (by omega) hb.2 tied
end Go.Proofs.YtlapklghioinfaaDoor
