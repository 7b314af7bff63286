/- The laws of layer 19: more walks. -/
import Derived.Test.YtlapklghioinfaaDoorVoltA
import Derived.Deep.RegionHeld3
namespace Go.Proofs.YtlapklghioinfaaDoor
open Go.RowKit Go.Extern.Stop Go.Stop Go.Extern
set_option linter.unusedVariables false
set_option linter.unusedSimpArgs false

theorem setR_ok {c s g d k : Int} (h : rightB c s g d = true) (m : mayB k = true) (r : rightB k s g (d + (k - c)) = true) : setR c s g d k = ⟨0, k, s, g, d + (k - c)⟩ := by
  rw [setR, if_pos ⟨h, m⟩, finR_ok r]
theorem spendR_ok {c s g d n : Int} (h : rightB c s g d = true) (h0 : 0 ≤ n) (h1 : n ≤ c) (r : rightB (c - n) (s + n) g d = true) : spendR c s g d n = ⟨0, c - n, s + n, g, d⟩ := by
  rw [spendR, if_pos ⟨h, h0⟩, if_neg (by omega), finR_ok r]
theorem spendR_low {c s g d n : Int} (h : rightB c s g d = true) (h0 : 0 ≤ n) (h1 : c < n) : spendR c s g d n = ⟨11, 0, 0, 0, 0⟩ := by
  rw [spendR, if_pos ⟨h, h0⟩, if_pos h1]
theorem gainR_ok {c s g d n : Int} (h : rightB c s g d = true) (h0 : 0 ≤ n) (r : rightB (c + min n (200 - c)) s (g + min n (200 - c)) d = true) : gainR c s g d n = ⟨0, c + min n (200 - c), s, g + min n (200 - c), d⟩ := by
  rw [gainR, if_pos ⟨h, h0⟩, finR_ok r]
theorem volt_first_eq {c s g d r : Int} (h : wrap64 (wrap64 (wrap64 (c - g) - d) + s) = r) (w : World) :
    Calls Tryd.prog 27 #[.agg #[.int .i64 c, .int .i64 s, .int .i64 g, .int .i64 d]] w fun e w' => e = .returned (.int .i64 r) ∧ Below w.heap.size w w' := by
  have := volt_first c s g d w; rw [h] at this; exact this

/-! ### VoltSets -/
theorem sets_core (ch to x k : Int) (p0 : 0 ≤ ch) (p1 : ch ≤ 255) (p2 : 0 ≤ to) (p3 : to ≤ 255) (q0 : 0 ≤ x) (q1 : x ≤ 200) (q2 : 0 ≤ k) (q3 : k ≤ 200) (hx : ch % 201 = x) (hk : to % 201 = k) (w : World) (tied : Tied w) :
    Calls Tryd.prog 9 #[.int .u8 ch, .int .u8 to] w fun e w' => e = .returned (.bool true) ∧ Below w.heap.size w w' := by
  have h1 : Hid (setR x 0 0 0 k = ⟨0, k, 0, 0, k - x⟩) := by
    have h := setR_ok (c := x) (s := 0) (g := 0) (d := 0) (k := k) ((rightB_iff _ _ _ _).2 (by omega)) ((mayB_iff _).2 (by omega)) ((rightB_iff _ _ _ _).2 (by omega))
    rw [Int.zero_add] at h; exact h
  have h2 : Hid (setR k 0 0 (k - x) x = ⟨0, x, 0, 0, 0⟩) := by
    have h := setR_ok (c := k) (s := 0) (g := 0) (d := k - x) (k := x) ((rightB_iff _ _ _ _).2 (by omega)) ((mayB_iff _).2 (by omega)) ((rightB_iff _ _ _ _).2 (by omega))
    rw [show k - x + (x - k) = 0 by omega] at h; exact h
  have h3 : Hid (wrap64 (wrap64 (wrap64 (k - 0) - (k - x)) + 0) = x) := by
    show wrap64 (wrap64 (wrap64 (k - 0) - (k - x)) + 0) = x
    unfold wrap64; omega
  have HB0 := Lib.hid (Below.refl w.heap.size w)
  have T := Lib.hid tied
  clear tied
  go_enter Tryd.func9, Tryd.ntmps9
  go_wp2_with fail
  refine (volt_awake _ (by exact (T.out.under T.out.lt (by repeat (first | exact HB0.out | exact Below.refl _ _ | refine Below.alloc ?_ (by first | omega | (simp; done) | (simp; omega)) _ | refine Below.setCell ?_ (by first | omega | (simp; done) | (simp; omega)) _))))).mono ?_
  rintro e w1 ⟨rfl, hb⟩
  have HB1 := Lib.hid (Below.trans (B := w.heap.size) (a := w) (by repeat (first | exact HB0.out | exact Below.refl _ _ | refine Below.alloc ?_ (by first | omega | (simp; done) | (simp; omega)) _ | refine Below.setCell ?_ (by first | omega | (simp; done) | (simp; omega)) _)) (hb.mono (by first | omega | (simp; done) | (simp; omega))))
  have hz1 := hb.size
  try simp at hz1
  obtain ⟨hc1, hf1⟩ := bcell hb
  clear hb
  try have hl_wheapsize_w1 : w.heap.size < w1.heap.size := by omega
  try have hm_wheapsize_w1 : w.heap.size ≤ w1.heap.size := by omega
  go_wp2_with fail
  refine (volt_set_eq h1.out _).mono ?_
  rintro e w2 ⟨v1, rfl, hr, hb⟩
  have HB2 := Lib.hid (Below.trans (B := w.heap.size) (a := w) (by repeat (first | exact HB1.out | exact Below.refl _ _ | refine Below.alloc ?_ (by first | omega | (simp; done) | (simp; omega)) _ | refine Below.setCell ?_ (by first | omega | (simp; done) | (simp; omega)) _)) (hb.mono (by first | omega | (simp; done) | (simp; omega))))
  have hz2 := hb.size
  try simp at hz2
  obtain ⟨hc2, hf2⟩ := bcell hb
  obtain ⟨BE1, hr, hBE1⟩ := err_at hr
  try simp at hBE1
  have E1_2 := Lib.hid hr
  clear hr
  clear hb
  try have hl_wheapsize_w2 : w.heap.size < w2.heap.size := by omega
  try have hm_wheapsize_w2 : w.heap.size ≤ w2.heap.size := by omega
  try have hl_w1heapsize_w2 : w1.heap.size < w2.heap.size := by omega
  try have hm_w1heapsize_w2 : w1.heap.size ≤ w2.heap.size := by omega
  go_wp2_with fail
  refine (volt_set_eq h2.out _).mono ?_
  rintro e w3 ⟨v2, rfl, hr, hb⟩
  have HB3 := Lib.hid (Below.trans (B := w.heap.size) (a := w) (by repeat (first | exact HB2.out | exact Below.refl _ _ | refine Below.alloc ?_ (by first | omega | (simp; done) | (simp; omega)) _ | refine Below.setCell ?_ (by first | omega | (simp; done) | (simp; omega)) _)) (hb.mono (by first | omega | (simp; done) | (simp; omega))))
  have hz3 := hb.size
  try simp at hz3
  have E1_3 := Lib.hid (ErrR.under (B := BE1) (v := v1) (n := 0) (by repeat (first | exact E1_2.out | refine ErrR.alloc ?_ _ | refine ErrR.setCell ?_ (by first | omega | (simp; done) | (simp; omega)) _)) hb)
  clear E1_2
  obtain ⟨hc3, hf3⟩ := bcell hb
  obtain ⟨BE2, hr, hBE2⟩ := err_at hr
  try simp at hBE2
  have E2_3 := Lib.hid hr
  clear hr
  clear hb
  try have hl_wheapsize_w3 : w.heap.size < w3.heap.size := by omega
  try have hm_wheapsize_w3 : w.heap.size ≤ w3.heap.size := by omega
  try have hl_w1heapsize_w3 : w1.heap.size < w3.heap.size := by omega
  try have hm_w1heapsize_w3 : w1.heap.size ≤ w3.heap.size := by omega
  try have hl_w2heapsize_w3 : w2.heap.size < w3.heap.size := by omega
  try have hm_w2heapsize_w3 : w2.heap.size ≤ w3.heap.size := by omega
  go_wp2_with fail
  obtain ⟨Wr1, hWr1⟩ : ∃ Wr1, Wr1 = w3.alloc (Obj.cells #[Value.int IntKind.i64 (x), Value.int IntKind.i64 (0), Value.int IntKind.i64 (0), Value.int IntKind.i64 (0)] 41) := ⟨_, rfl⟩
  have dr1_0 : Wr1.cell? ⟨w1.heap.size, 0, none⟩ = some (.int .i64 (x)) := by rw [hWr1]; simp [go_sem, *]
  have dr1_1 : Wr1.cell? ⟨w1.heap.size, 1, none⟩ = some (.int .i64 (0)) := by rw [hWr1]; simp [go_sem, *]
  have dr1_2 : Wr1.cell? ⟨w1.heap.size, 2, none⟩ = some (.int .i64 (0)) := by rw [hWr1]; simp [go_sem, *]
  have dr1_3 : Wr1.cell? ⟨w1.heap.size, 3, none⟩ = some (.int .i64 (0)) := by rw [hWr1]; simp [go_sem, *]
  have dr1_4 : Wr1.cell? ⟨w2.heap.size, 0, none⟩ = some (.int .i64 (k)) := by rw [hWr1]; simp [go_sem, *]
  have dr1_5 : Wr1.cell? ⟨w2.heap.size, 1, none⟩ = some (.int .i64 (0)) := by rw [hWr1]; simp [go_sem, *]
  have dr1_6 : Wr1.cell? ⟨w2.heap.size, 2, none⟩ = some (.int .i64 (0)) := by rw [hWr1]; simp [go_sem, *]
  have dr1_7 : Wr1.cell? ⟨w2.heap.size, 3, none⟩ = some (.int .i64 (k - x)) := by rw [hWr1]; simp [go_sem, *]
  have dr1_8 : Wr1.cell? ⟨w3.heap.size, 0, none⟩ = some (.int .i64 (x)) := by rw [hWr1]; simp [go_sem, *]
  have dr1_9 : Wr1.cell? ⟨w3.heap.size, 1, none⟩ = some (.int .i64 (0)) := by rw [hWr1]; simp [go_sem, *]
  have dr1_10 : Wr1.cell? ⟨w3.heap.size, 2, none⟩ = some (.int .i64 (0)) := by rw [hWr1]; simp [go_sem, *]
  have dr1_11 : Wr1.cell? ⟨w3.heap.size, 3, none⟩ = some (.int .i64 (0)) := by rw [hWr1]; simp [go_sem, *]
  have hTr1 := Lib.hid (show Tied Wr1 by rw [hWr1]; exact (T.out.under T.out.lt (by repeat (first | exact HB3.out | exact Below.refl _ _ | refine Below.alloc ?_ (by first | omega | (simp; done) | (simp; omega)) _ | refine Below.setCell ?_ (by first | omega | (simp; done) | (simp; omega)) _))))
  have E1r1 := Lib.hid (show ErrR BE1 Wr1 v1 0 by rw [hWr1]; exact (by repeat (first | exact E1_3.out | refine ErrR.alloc ?_ _ | refine ErrR.setCell ?_ (by first | omega | (simp; done) | (simp; omega)) _)))
  have E2r1 := Lib.hid (show ErrR BE2 Wr1 v2 0 by rw [hWr1]; exact (by repeat (first | exact E2_3.out | refine ErrR.alloc ?_ _ | refine ErrR.setCell ?_ (by first | omega | (simp; done) | (simp; omega)) _)))
  have HBr1 := Lib.hid (show Below w.heap.size w Wr1 by rw [hWr1]; exact (by repeat (first | exact HB3.out | exact Below.refl _ _ | refine Below.alloc ?_ (by first | omega | (simp; done) | (simp; omega)) _ | refine Below.setCell ?_ (by first | omega | (simp; done) | (simp; omega)) _)))
  have hs_w3heapsize_r1 : w3.heap.size < Wr1.heap.size := by rw [hWr1]; simp; try omega
  have hs_w1heapsize_r1 : w1.heap.size < Wr1.heap.size := by rw [hWr1]; simp; try omega
  have hs_w2heapsize_r1 : w2.heap.size < Wr1.heap.size := by rw [hWr1]; simp; try omega
  rw [← hWr1]
  clear hWr1 hc1 hc2 hc3 hf1 hf2 hf3
  have HSr1 := Lib.hid (show ∀ w', KF Wr1 w' → w'.cell? ⟨w1.heap.size, 0, none⟩ = some (.int .i64 (x)) ∧ w'.cell? ⟨w1.heap.size, 1, none⟩ = some (.int .i64 (0)) ∧ w'.cell? ⟨w1.heap.size, 2, none⟩ = some (.int .i64 (0)) ∧ w'.cell? ⟨w1.heap.size, 3, none⟩ = some (.int .i64 (0)) ∧ w'.cell? ⟨w2.heap.size, 0, none⟩ = some (.int .i64 (k)) ∧ w'.cell? ⟨w2.heap.size, 1, none⟩ = some (.int .i64 (0)) ∧ w'.cell? ⟨w2.heap.size, 2, none⟩ = some (.int .i64 (0)) ∧ w'.cell? ⟨w2.heap.size, 3, none⟩ = some (.int .i64 (k - x)) ∧ w'.cell? ⟨w3.heap.size, 0, none⟩ = some (.int .i64 (x)) ∧ w'.cell? ⟨w3.heap.size, 1, none⟩ = some (.int .i64 (0)) ∧ w'.cell? ⟨w3.heap.size, 2, none⟩ = some (.int .i64 (0)) ∧ w'.cell? ⟨w3.heap.size, 3, none⟩ = some (.int .i64 (0)) ∧ KF Wr1 w' from fun w' h => ⟨h.cell dr1_0, h.cell dr1_1, h.cell dr1_2, h.cell dr1_3, h.cell dr1_4, h.cell dr1_5, h.cell dr1_6, h.cell dr1_7, h.cell dr1_8, h.cell dr1_9, h.cell dr1_10, h.cell dr1_11, h⟩)
  have HPr1 := Lib.hid (show ∀ w', (w'.cell? ⟨w1.heap.size, 0, none⟩ = some (.int .i64 (x)) ∧ w'.cell? ⟨w1.heap.size, 1, none⟩ = some (.int .i64 (0)) ∧ w'.cell? ⟨w1.heap.size, 2, none⟩ = some (.int .i64 (0)) ∧ w'.cell? ⟨w1.heap.size, 3, none⟩ = some (.int .i64 (0)) ∧ w'.cell? ⟨w2.heap.size, 0, none⟩ = some (.int .i64 (k)) ∧ w'.cell? ⟨w2.heap.size, 1, none⟩ = some (.int .i64 (0)) ∧ w'.cell? ⟨w2.heap.size, 2, none⟩ = some (.int .i64 (0)) ∧ w'.cell? ⟨w2.heap.size, 3, none⟩ = some (.int .i64 (k - x)) ∧ w'.cell? ⟨w3.heap.size, 0, none⟩ = some (.int .i64 (x)) ∧ w'.cell? ⟨w3.heap.size, 1, none⟩ = some (.int .i64 (0)) ∧ w'.cell? ⟨w3.heap.size, 2, none⟩ = some (.int .i64 (0)) ∧ w'.cell? ⟨w3.heap.size, 3, none⟩ = some (.int .i64 (0)) ∧ KF Wr1 w') → KF Wr1 w' from fun w' h => h.2.2.2.2.2.2.2.2.2.2.2.2)
  have Dr1_0 := Lib.hid dr1_0
  have Dr1_1 := Lib.hid dr1_1
  have Dr1_2 := Lib.hid dr1_2
  have Dr1_3 := Lib.hid dr1_3
  have Dr1_4 := Lib.hid dr1_4
  have Dr1_5 := Lib.hid dr1_5
  have Dr1_6 := Lib.hid dr1_6
  have Dr1_7 := Lib.hid dr1_7
  have Dr1_8 := Lib.hid dr1_8
  have Dr1_9 := Lib.hid dr1_9
  have Dr1_10 := Lib.hid dr1_10
  have Dr1_11 := Lib.hid dr1_11
  clear dr1_0 dr1_1 dr1_2 dr1_3 dr1_4 dr1_5 dr1_6 dr1_7 dr1_8 dr1_9 dr1_10 dr1_11
  go_region_held3 (fun w' => w'.cell? ⟨w1.heap.size, 0, none⟩ = some (.int .i64 (x)) ∧ w'.cell? ⟨w1.heap.size, 1, none⟩ = some (.int .i64 (0)) ∧ w'.cell? ⟨w1.heap.size, 2, none⟩ = some (.int .i64 (0)) ∧ w'.cell? ⟨w1.heap.size, 3, none⟩ = some (.int .i64 (0)) ∧ w'.cell? ⟨w2.heap.size, 0, none⟩ = some (.int .i64 (k)) ∧ w'.cell? ⟨w2.heap.size, 1, none⟩ = some (.int .i64 (0)) ∧ w'.cell? ⟨w2.heap.size, 2, none⟩ = some (.int .i64 (0)) ∧ w'.cell? ⟨w2.heap.size, 3, none⟩ = some (.int .i64 (k - x)) ∧ w'.cell? ⟨w3.heap.size, 0, none⟩ = some (.int .i64 (x)) ∧ w'.cell? ⟨w3.heap.size, 1, none⟩ = some (.int .i64 (0)) ∧ w'.cell? ⟨w3.heap.size, 2, none⟩ = some (.int .i64 (0)) ∧ w'.cell? ⟨w3.heap.size, 3, none⟩ = some (.int .i64 (0)) ∧ KF Wr1 w') ((refine HSr1.out _ ?_; first | assumption | exact Below.drew (Below.refl _ _))) (first | (go_at_call 21; (with_reducible refine (Num_any (B := BE1) _ v1 0 (KF.err (HPr1.out _ (by assumption)) E1r1.out) (KF.tied (HPr1.out _ (by assumption)) hTr1.out)).mono ?_); rintro e wnr1 ⟨rfl, hb⟩; have hKr1 := KF.step (HPr1.out _ (by assumption)) hb; clear hb) | (go_at_call 21; (with_reducible refine (Num_any (B := BE2) _ v2 0 (KF.err (HPr1.out _ (by assumption)) E2r1.out) (KF.tied (HPr1.out _ (by assumption)) hTr1.out)).mono ?_); rintro e wnr1 ⟨rfl, hb⟩; have hKr1 := KF.step (HPr1.out _ (by assumption)) hb; clear hb) | (go_at_call 27; (with_reducible refine (volt_first_eq h3.out _).mono ?_); rintro e wnr1 ⟨rfl, hb⟩; have hKr1 := KF.step (HPr1.out _ (by assumption)) hb; clear hb))
  have HBr1n := Lib.hid (Below.trans (B := w.heap.size) HBr1.out (hKr1.mono HBr1.out.size))
  have hzr1 : Wr1.heap.size ≤ wnr1.heap.size := hKr1.size
  go_wp2_with fail
  go_ret
  exact ⟨rfl, (by repeat (first | exact HBr1n.out | exact Below.refl _ _ | refine Below.alloc ?_ (by first | omega | (simp; done) | (simp; omega)) _ | refine Below.setCell ?_ (by first | omega | (simp; done) | (simp; omega)) _))⟩
theorem sets_walk (ch to : Int) (w : World) (wf1 : (Lit.int .u8 ch).wf = true) (wf2 : (Lit.int .u8 to).wf = true) (tied : Tied w) :
    Calls Tryd.prog 9 #[.int .u8 ch, .int .u8 to] w fun e w' => e = .returned (.bool true) ∧ Below w.heap.size w w' := by
  have h1 := wf_u8 wf1
  have h2 := wf_u8 wf2
  exact sets_core ch to (ch % 201) (to % 201) (by omega) (by omega) (by omega) (by omega) (by omega) (by omega) (by omega) (by omega) rfl rfl w tied

/-! ### VoltBack -/
theorem back_low (ch n x : Int) (p0 : 0 ≤ ch) (p1 : ch ≤ 255) (p2 : 0 ≤ n) (p3 : n ≤ 255) (q0 : 0 ≤ x) (q1 : x ≤ 200) (hlt : x < n) (hx : ch % 201 = x) (w : World) (tied : Tied w) :
    Calls Tryd.prog 12 #[.int .u8 ch, .int .u8 n] w fun e w' => e = .returned (.bool true) ∧ Below w.heap.size w w' := by
  have h1 : Hid (spendR x 0 0 0 n = ⟨11, 0, 0, 0, 0⟩) := spendR_low ((rightB_iff _ _ _ _).2 (by omega)) p2 hlt
  have HB0 := Lib.hid (Below.refl w.heap.size w)
  have T := Lib.hid tied
  clear tied
  go_enter Tryd.func12, Tryd.ntmps12
  go_wp2_with fail
  refine (volt_awake _ (by exact (T.out.under T.out.lt (by repeat (first | exact HB0.out | exact Below.refl _ _ | refine Below.alloc ?_ (by first | omega | (simp; done) | (simp; omega)) _ | refine Below.setCell ?_ (by first | omega | (simp; done) | (simp; omega)) _))))).mono ?_
  rintro e w1 ⟨rfl, hb⟩
  have HB1 := Lib.hid (Below.trans (B := w.heap.size) (a := w) (by repeat (first | exact HB0.out | exact Below.refl _ _ | refine Below.alloc ?_ (by first | omega | (simp; done) | (simp; omega)) _ | refine Below.setCell ?_ (by first | omega | (simp; done) | (simp; omega)) _)) (hb.mono (by first | omega | (simp; done) | (simp; omega))))
  have hz1 := hb.size
  try simp at hz1
  obtain ⟨hc1, hf1⟩ := bcell hb
  clear hb
  try have hl_wheapsize_w1 : w.heap.size < w1.heap.size := by omega
  try have hm_wheapsize_w1 : w.heap.size ≤ w1.heap.size := by omega
  go_wp2_with fail
  refine (volt_spend_eq h1.out _).mono ?_
  rintro e w2 ⟨v1, rfl, hr, hb⟩
  have HB2 := Lib.hid (Below.trans (B := w.heap.size) (a := w) (by repeat (first | exact HB1.out | exact Below.refl _ _ | refine Below.alloc ?_ (by first | omega | (simp; done) | (simp; omega)) _ | refine Below.setCell ?_ (by first | omega | (simp; done) | (simp; omega)) _)) (hb.mono (by first | omega | (simp; done) | (simp; omega))))
  have hz2 := hb.size
  try simp at hz2
  obtain ⟨hc2, hf2⟩ := bcell hb
  obtain ⟨BE1, hr, hBE1⟩ := err_at hr
  try simp at hBE1
  have E1_2 := Lib.hid hr
  clear hr
  clear hb
  try have hl_wheapsize_w2 : w.heap.size < w2.heap.size := by omega
  try have hm_wheapsize_w2 : w.heap.size ≤ w2.heap.size := by omega
  try have hl_w1heapsize_w2 : w1.heap.size < w2.heap.size := by omega
  try have hm_w1heapsize_w2 : w1.heap.size ≤ w2.heap.size := by omega
  go_wp2_with fail
  refine (Num_any (B := BE1) _ v1 11 (by exact (by repeat (first | exact E1_2.out | refine ErrR.alloc ?_ _ | refine ErrR.setCell ?_ (by first | omega | (simp; done) | (simp; omega)) _))) (by exact (T.out.under T.out.lt (by repeat (first | exact HB2.out | exact Below.refl _ _ | refine Below.alloc ?_ (by first | omega | (simp; done) | (simp; omega)) _ | refine Below.setCell ?_ (by first | omega | (simp; done) | (simp; omega)) _))))).mono ?_
  rintro e w3 ⟨rfl, hb⟩
  have HB3 := Lib.hid (Below.trans (B := w.heap.size) (a := w) (by repeat (first | exact HB2.out | exact Below.refl _ _ | refine Below.alloc ?_ (by first | omega | (simp; done) | (simp; omega)) _ | refine Below.setCell ?_ (by first | omega | (simp; done) | (simp; omega)) _)) (hb.mono (by first | omega | (simp; done) | (simp; omega))))
  have hz3 := hb.size
  try simp at hz3
  have E1_3 := Lib.hid (ErrR.under (B := BE1) (v := v1) (n := 11) (by repeat (first | exact E1_2.out | refine ErrR.alloc ?_ _ | refine ErrR.setCell ?_ (by first | omega | (simp; done) | (simp; omega)) _)) hb)
  clear E1_2
  obtain ⟨hc3, hf3⟩ := bcell hb
  clear hb
  try have hl_wheapsize_w3 : w.heap.size < w3.heap.size := by omega
  try have hm_wheapsize_w3 : w.heap.size ≤ w3.heap.size := by omega
  try have hl_w1heapsize_w3 : w1.heap.size < w3.heap.size := by omega
  try have hm_w1heapsize_w3 : w1.heap.size ≤ w3.heap.size := by omega
  try have hl_w2heapsize_w3 : w2.heap.size < w3.heap.size := by omega
  try have hm_w2heapsize_w3 : w2.heap.size ≤ w3.heap.size := by omega
  go_wp2_with fail
  refine (Num_any (B := BE1) _ v1 11 (by exact (by repeat (first | exact E1_3.out | refine ErrR.alloc ?_ _ | refine ErrR.setCell ?_ (by first | omega | (simp; done) | (simp; omega)) _))) (by exact (T.out.under T.out.lt (by repeat (first | exact HB3.out | exact Below.refl _ _ | refine Below.alloc ?_ (by first | omega | (simp; done) | (simp; omega)) _ | refine Below.setCell ?_ (by first | omega | (simp; done) | (simp; omega)) _))))).mono ?_
  rintro e w4 ⟨rfl, hb⟩
  have HB4 := Lib.hid (Below.trans (B := w.heap.size) (a := w) (by repeat (first | exact HB3.out | exact Below.refl _ _ | refine Below.alloc ?_ (by first | omega | (simp; done) | (simp; omega)) _ | refine Below.setCell ?_ (by first | omega | (simp; done) | (simp; omega)) _)) (hb.mono (by first | omega | (simp; done) | (simp; omega))))
  have hz4 := hb.size
  try simp at hz4
  have E1_4 := Lib.hid (ErrR.under (B := BE1) (v := v1) (n := 11) (by repeat (first | exact E1_3.out | refine ErrR.alloc ?_ _ | refine ErrR.setCell ?_ (by first | omega | (simp; done) | (simp; omega)) _)) hb)
  clear E1_3
  obtain ⟨hc4, hf4⟩ := bcell hb
  clear hb
  try have hl_wheapsize_w4 : w.heap.size < w4.heap.size := by omega
  try have hm_wheapsize_w4 : w.heap.size ≤ w4.heap.size := by omega
  try have hl_w1heapsize_w4 : w1.heap.size < w4.heap.size := by omega
  try have hm_w1heapsize_w4 : w1.heap.size ≤ w4.heap.size := by omega
  try have hl_w2heapsize_w4 : w2.heap.size < w4.heap.size := by omega
  try have hm_w2heapsize_w4 : w2.heap.size ≤ w4.heap.size := by omega
  try have hl_w3heapsize_w4 : w3.heap.size < w4.heap.size := by omega
  try have hm_w3heapsize_w4 : w3.heap.size ≤ w4.heap.size := by omega
  clear E1_4
  go_wp2_with fail
  go_ret
  exact ⟨rfl, (by repeat (first | exact HB4.out | exact Below.refl _ _ | refine Below.alloc ?_ (by first | omega | (simp; done) | (simp; omega)) _ | refine Below.setCell ?_ (by first | omega | (simp; done) | (simp; omega)) _))⟩
theorem back_ok (ch n x : Int) (p0 : 0 ≤ ch) (p1 : ch ≤ 255) (p2 : 0 ≤ n) (p3 : n ≤ 255) (q0 : 0 ≤ x) (q1 : x ≤ 200) (hle : n ≤ x) (hx : ch % 201 = x) (w : World) (tied : Tied w) :
    Calls Tryd.prog 12 #[.int .u8 ch, .int .u8 n] w fun e w' => e = .returned (.bool true) ∧ Below w.heap.size w w' := by
  have h1 : Hid (spendR x 0 0 0 n = ⟨0, x - n, n, 0, 0⟩) := by
    have h := spendR_ok (c := x) (s := 0) (g := 0) (d := 0) ((rightB_iff _ _ _ _).2 (by omega)) p2 hle ((rightB_iff _ _ _ _).2 (by omega))
    rw [Int.zero_add] at h; exact h
  have h2 : Hid (gainR (x - n) n 0 0 n = ⟨0, x, n, n, 0⟩) := by
    have h := gainR_ok (c := x - n) (s := n) (g := 0) (d := 0) (n := n) ((rightB_iff _ _ _ _).2 (by omega)) p2 ((rightB_iff _ _ _ _).2 (by omega))
    rw [show min n (200 - (x - n)) = n by omega, Int.zero_add, show x - n + n = x by omega] at h; exact h
  have h3 : Hid (setR x n n 0 77 = ⟨0, 77, n, n, 77 - x⟩) := by
    have h := setR_ok (c := x) (s := n) (g := n) (d := 0) (k := 77) ((rightB_iff _ _ _ _).2 (by omega)) ((mayB_iff _).2 (by omega)) ((rightB_iff _ _ _ _).2 (by omega))
    rw [Int.zero_add] at h; exact h
  have HB0 := Lib.hid (Below.refl w.heap.size w)
  have T := Lib.hid tied
  clear tied
  go_enter Tryd.func12, Tryd.ntmps12
  go_wp2_with fail
  refine (volt_awake _ (by exact (T.out.under T.out.lt (by repeat (first | exact HB0.out | exact Below.refl _ _ | refine Below.alloc ?_ (by first | omega | (simp; done) | (simp; omega)) _ | refine Below.setCell ?_ (by first | omega | (simp; done) | (simp; omega)) _))))).mono ?_
  rintro e w1 ⟨rfl, hb⟩
  have HB1 := Lib.hid (Below.trans (B := w.heap.size) (a := w) (by repeat (first | exact HB0.out | exact Below.refl _ _ | refine Below.alloc ?_ (by first | omega | (simp; done) | (simp; omega)) _ | refine Below.setCell ?_ (by first | omega | (simp; done) | (simp; omega)) _)) (hb.mono (by first | omega | (simp; done) | (simp; omega))))
  have hz1 := hb.size
  try simp at hz1
  obtain ⟨hc1, hf1⟩ := bcell hb
  clear hb
  try have hl_wheapsize_w1 : w.heap.size < w1.heap.size := by omega
  try have hm_wheapsize_w1 : w.heap.size ≤ w1.heap.size := by omega
  go_wp2_with fail
  refine (volt_spend_eq h1.out _).mono ?_
  rintro e w2 ⟨v1, rfl, hr, hb⟩
  have HB2 := Lib.hid (Below.trans (B := w.heap.size) (a := w) (by repeat (first | exact HB1.out | exact Below.refl _ _ | refine Below.alloc ?_ (by first | omega | (simp; done) | (simp; omega)) _ | refine Below.setCell ?_ (by first | omega | (simp; done) | (simp; omega)) _)) (hb.mono (by first | omega | (simp; done) | (simp; omega))))
  have hz2 := hb.size
  try simp at hz2
  obtain ⟨hc2, hf2⟩ := bcell hb
  obtain ⟨BE1, hr, hBE1⟩ := err_at hr
  try simp at hBE1
  have E1_2 := Lib.hid hr
  clear hr
  clear hb
  try have hl_wheapsize_w2 : w.heap.size < w2.heap.size := by omega
  try have hm_wheapsize_w2 : w.heap.size ≤ w2.heap.size := by omega
  try have hl_w1heapsize_w2 : w1.heap.size < w2.heap.size := by omega
  try have hm_w1heapsize_w2 : w1.heap.size ≤ w2.heap.size := by omega
  go_wp2_with fail
  refine (Num_any (B := BE1) _ v1 0 (by exact (by repeat (first | exact E1_2.out | refine ErrR.alloc ?_ _ | refine ErrR.setCell ?_ (by first | omega | (simp; done) | (simp; omega)) _))) (by exact (T.out.under T.out.lt (by repeat (first | exact HB2.out | exact Below.refl _ _ | refine Below.alloc ?_ (by first | omega | (simp; done) | (simp; omega)) _ | refine Below.setCell ?_ (by first | omega | (simp; done) | (simp; omega)) _))))).mono ?_
  rintro e w3 ⟨rfl, hb⟩
  have HB3 := Lib.hid (Below.trans (B := w.heap.size) (a := w) (by repeat (first | exact HB2.out | exact Below.refl _ _ | refine Below.alloc ?_ (by first | omega | (simp; done) | (simp; omega)) _ | refine Below.setCell ?_ (by first | omega | (simp; done) | (simp; omega)) _)) (hb.mono (by first | omega | (simp; done) | (simp; omega))))
  have hz3 := hb.size
  try simp at hz3
  have E1_3 := Lib.hid (ErrR.under (B := BE1) (v := v1) (n := 0) (by repeat (first | exact E1_2.out | refine ErrR.alloc ?_ _ | refine ErrR.setCell ?_ (by first | omega | (simp; done) | (simp; omega)) _)) hb)
  clear E1_2
  obtain ⟨hc3, hf3⟩ := bcell hb
  clear hb
  try have hl_wheapsize_w3 : w.heap.size < w3.heap.size := by omega
  try have hm_wheapsize_w3 : w.heap.size ≤ w3.heap.size := by omega
  try have hl_w1heapsize_w3 : w1.heap.size < w3.heap.size := by omega
  try have hm_w1heapsize_w3 : w1.heap.size ≤ w3.heap.size := by omega
  try have hl_w2heapsize_w3 : w2.heap.size < w3.heap.size := by omega
  try have hm_w2heapsize_w3 : w2.heap.size ≤ w3.heap.size := by omega
  clear E1_3
  go_wp2_with fail
  refine (volt_gain_eq h2.out _).mono ?_
  rintro e w4 ⟨v2, rfl, hr, hb⟩
  have HB4 := Lib.hid (Below.trans (B := w.heap.size) (a := w) (by repeat (first | exact HB3.out | exact Below.refl _ _ | refine Below.alloc ?_ (by first | omega | (simp; done) | (simp; omega)) _ | refine Below.setCell ?_ (by first | omega | (simp; done) | (simp; omega)) _)) (hb.mono (by first | omega | (simp; done) | (simp; omega))))
  have hz4 := hb.size
  try simp at hz4
  obtain ⟨hc4, hf4⟩ := bcell hb
  obtain ⟨BE2, hr, hBE2⟩ := err_at hr
  try simp at hBE2
  have E2_4 := Lib.hid hr
  clear hr
  clear hb
  try have hl_wheapsize_w4 : w.heap.size < w4.heap.size := by omega
  try have hm_wheapsize_w4 : w.heap.size ≤ w4.heap.size := by omega
  try have hl_w1heapsize_w4 : w1.heap.size < w4.heap.size := by omega
  try have hm_w1heapsize_w4 : w1.heap.size ≤ w4.heap.size := by omega
  try have hl_w2heapsize_w4 : w2.heap.size < w4.heap.size := by omega
  try have hm_w2heapsize_w4 : w2.heap.size ≤ w4.heap.size := by omega
  try have hl_w3heapsize_w4 : w3.heap.size < w4.heap.size := by omega
  try have hm_w3heapsize_w4 : w3.heap.size ≤ w4.heap.size := by omega
  go_wp2_with fail
  refine (volt_set_eq h3.out _).mono ?_
  rintro e w5 ⟨v3, rfl, hr, hb⟩
  have HB5 := Lib.hid (Below.trans (B := w.heap.size) (a := w) (by repeat (first | exact HB4.out | exact Below.refl _ _ | refine Below.alloc ?_ (by first | omega | (simp; done) | (simp; omega)) _ | refine Below.setCell ?_ (by first | omega | (simp; done) | (simp; omega)) _)) (hb.mono (by first | omega | (simp; done) | (simp; omega))))
  have hz5 := hb.size
  try simp at hz5
  have E2_5 := Lib.hid (ErrR.under (B := BE2) (v := v2) (n := 0) (by repeat (first | exact E2_4.out | refine ErrR.alloc ?_ _ | refine ErrR.setCell ?_ (by first | omega | (simp; done) | (simp; omega)) _)) hb)
  clear E2_4
  obtain ⟨hc5, hf5⟩ := bcell hb
  obtain ⟨BE3, hr, hBE3⟩ := err_at hr
  try simp at hBE3
  have E3_5 := Lib.hid hr
  clear hr
  clear hb
  try have hl_wheapsize_w5 : w.heap.size < w5.heap.size := by omega
  try have hm_wheapsize_w5 : w.heap.size ≤ w5.heap.size := by omega
  try have hl_w1heapsize_w5 : w1.heap.size < w5.heap.size := by omega
  try have hm_w1heapsize_w5 : w1.heap.size ≤ w5.heap.size := by omega
  try have hl_w2heapsize_w5 : w2.heap.size < w5.heap.size := by omega
  try have hm_w2heapsize_w5 : w2.heap.size ≤ w5.heap.size := by omega
  try have hl_w3heapsize_w5 : w3.heap.size < w5.heap.size := by omega
  try have hm_w3heapsize_w5 : w3.heap.size ≤ w5.heap.size := by omega
  try have hl_w4heapsize_w5 : w4.heap.size < w5.heap.size := by omega
  try have hm_w4heapsize_w5 : w4.heap.size ≤ w5.heap.size := by omega
  go_wp2_with fail
  refine (Num_any (B := BE2) _ v2 0 (by exact (by repeat (first | exact E2_5.out | refine ErrR.alloc ?_ _ | refine ErrR.setCell ?_ (by first | omega | (simp; done) | (simp; omega)) _))) (by exact (T.out.under T.out.lt (by repeat (first | exact HB5.out | exact Below.refl _ _ | refine Below.alloc ?_ (by first | omega | (simp; done) | (simp; omega)) _ | refine Below.setCell ?_ (by first | omega | (simp; done) | (simp; omega)) _))))).mono ?_
  rintro e w6 ⟨rfl, hb⟩
  have HB6 := Lib.hid (Below.trans (B := w.heap.size) (a := w) (by repeat (first | exact HB5.out | exact Below.refl _ _ | refine Below.alloc ?_ (by first | omega | (simp; done) | (simp; omega)) _ | refine Below.setCell ?_ (by first | omega | (simp; done) | (simp; omega)) _)) (hb.mono (by first | omega | (simp; done) | (simp; omega))))
  have hz6 := hb.size
  try simp at hz6
  have E2_6 := Lib.hid (ErrR.under (B := BE2) (v := v2) (n := 0) (by repeat (first | exact E2_5.out | refine ErrR.alloc ?_ _ | refine ErrR.setCell ?_ (by first | omega | (simp; done) | (simp; omega)) _)) hb)
  clear E2_5
  have E3_6 := Lib.hid (ErrR.under (B := BE3) (v := v3) (n := 0) (by repeat (first | exact E3_5.out | refine ErrR.alloc ?_ _ | refine ErrR.setCell ?_ (by first | omega | (simp; done) | (simp; omega)) _)) hb)
  clear E3_5
  obtain ⟨hc6, hf6⟩ := bcell hb
  clear hb
  try have hl_wheapsize_w6 : w.heap.size < w6.heap.size := by omega
  try have hm_wheapsize_w6 : w.heap.size ≤ w6.heap.size := by omega
  try have hl_w1heapsize_w6 : w1.heap.size < w6.heap.size := by omega
  try have hm_w1heapsize_w6 : w1.heap.size ≤ w6.heap.size := by omega
  try have hl_w2heapsize_w6 : w2.heap.size < w6.heap.size := by omega
  try have hm_w2heapsize_w6 : w2.heap.size ≤ w6.heap.size := by omega
  try have hl_w3heapsize_w6 : w3.heap.size < w6.heap.size := by omega
  try have hm_w3heapsize_w6 : w3.heap.size ≤ w6.heap.size := by omega
  try have hl_w4heapsize_w6 : w4.heap.size < w6.heap.size := by omega
  try have hm_w4heapsize_w6 : w4.heap.size ≤ w6.heap.size := by omega
  try have hl_w5heapsize_w6 : w5.heap.size < w6.heap.size := by omega
  try have hm_w5heapsize_w6 : w5.heap.size ≤ w6.heap.size := by omega
  clear E2_6
  go_wp2_with fail
  refine (Num_any (B := BE3) _ v3 0 (by exact (by repeat (first | exact E3_6.out | refine ErrR.alloc ?_ _ | refine ErrR.setCell ?_ (by first | omega | (simp; done) | (simp; omega)) _))) (by exact (T.out.under T.out.lt (by repeat (first | exact HB6.out | exact Below.refl _ _ | refine Below.alloc ?_ (by first | omega | (simp; done) | (simp; omega)) _ | refine Below.setCell ?_ (by first | omega | (simp; done) | (simp; omega)) _))))).mono ?_
  rintro e w7 ⟨rfl, hb⟩
  have HB7 := Lib.hid (Below.trans (B := w.heap.size) (a := w) (by repeat (first | exact HB6.out | exact Below.refl _ _ | refine Below.alloc ?_ (by first | omega | (simp; done) | (simp; omega)) _ | refine Below.setCell ?_ (by first | omega | (simp; done) | (simp; omega)) _)) (hb.mono (by first | omega | (simp; done) | (simp; omega))))
  have hz7 := hb.size
  try simp at hz7
  have E3_7 := Lib.hid (ErrR.under (B := BE3) (v := v3) (n := 0) (by repeat (first | exact E3_6.out | refine ErrR.alloc ?_ _ | refine ErrR.setCell ?_ (by first | omega | (simp; done) | (simp; omega)) _)) hb)
  clear E3_6
  obtain ⟨hc7, hf7⟩ := bcell hb
  clear hb
  try have hl_wheapsize_w7 : w.heap.size < w7.heap.size := by omega
  try have hm_wheapsize_w7 : w.heap.size ≤ w7.heap.size := by omega
  try have hl_w1heapsize_w7 : w1.heap.size < w7.heap.size := by omega
  try have hm_w1heapsize_w7 : w1.heap.size ≤ w7.heap.size := by omega
  try have hl_w2heapsize_w7 : w2.heap.size < w7.heap.size := by omega
  try have hm_w2heapsize_w7 : w2.heap.size ≤ w7.heap.size := by omega
  try have hl_w3heapsize_w7 : w3.heap.size < w7.heap.size := by omega
  try have hm_w3heapsize_w7 : w3.heap.size ≤ w7.heap.size := by omega
  try have hl_w4heapsize_w7 : w4.heap.size < w7.heap.size := by omega
  try have hm_w4heapsize_w7 : w4.heap.size ≤ w7.heap.size := by omega
  try have hl_w5heapsize_w7 : w5.heap.size < w7.heap.size := by omega
  try have hm_w5heapsize_w7 : w5.heap.size ≤ w7.heap.size := by omega
  try have hl_w6heapsize_w7 : w6.heap.size < w7.heap.size := by omega
  try have hm_w6heapsize_w7 : w6.heap.size ≤ w7.heap.size := by omega
  clear E3_7
  go_wp2_with fail
  go_ret
  exact ⟨rfl, (by repeat (first | exact HB7.out | exact Below.refl _ _ | refine Below.alloc ?_ (by first | omega | (simp; done) | (simp; omega)) _ | refine Below.setCell ?_ (by first | omega | (simp; done) | (simp; omega)) _))⟩
theorem back_walk (ch n : Int) (w : World) (wf1 : (Lit.int .u8 ch).wf = true) (wf2 : (Lit.int .u8 n).wf = true) (tied : Tied w) :
    Calls Tryd.prog 12 #[.int .u8 ch, .int .u8 n] w fun e w' => e = .returned (.bool true) ∧ Below w.heap.size w w' := by
  have h1 := wf_u8 wf1
  have h2 := wf_u8 wf2
  by_cases h : n ≤ ch % 201
  · exact back_ok ch n (ch % 201) (by omega) (by omega) (by omega) (by omega) (by omega) (by omega) h rfl w tied
  · exact back_low ch n (ch % 201) (by omega) (by omega) (by omega) (by omega) (by omega) (by omega) (by omega) rfl w tied
end Go.Proofs.YtlapklghioinfaaDoor
