/- SlotTouch: the walk. -/
import Derived.Test.YtfgbnnmaooillaaDoorTouchPPSlotPlays
import Derived.Outline
namespace Go.Proofs.YtfgbnnmaooillaaDoor
open Go.ChangeShapes Go.WideShapes Go.RowKit Go.Lib Go.Proofs.YtfgbnnmaooillaaDoorW.PrintWords Go.Proofs.YtfgbnnmaooillaaDoorW.PrintLast Go.Proofs.YtfgbnnmaooillaaDoorW.PrintMore Go.Proofs.YtfgbnnmaooillaaDoor.PSlotPlays
set_option linter.unusedVariables false
set_option linter.unusedSimpArgs false

set_option maxHeartbeats 1000000 in
theorem touch_in (r f a b : Int) (W : World) (tied : Tied W) (r0 : 0 ≤ r) (r1 : r ≤ 255) (f0 : 0 ≤ f) (f1 : f ≤ 255) (a0 : 0 ≤ a) (a1 : a ≤ 255) (b0 : 0 ≤ b) (b1 : b ≤ 255) :
    Calls Tryd.prog 8 #[.int .u8 r, .int .u8 f, .int .u8 a, .int .u8 b] W fun e w' => e = .returned (.bool true) ∧ Below W.heap.size W w' := by
  have T := Lib.hid tied
  clear tied
  go_enter Tryd.func8, Tryd.ntmps8
  go_wp2_with fail
  refine (awake_call _).mono ?_
  rintro e w1 ⟨rfl, hb⟩
  have HB1 := Lib.hid hb
  clear hb
  go_upto_region 7 with fail
  obtain ⟨W2, hW2⟩ : ∃ W2, W2 = ((w1.alloc (.cells #[.int .i64 (r % 10), .int .i64 f, .int .i64 (f + 1 + a)] 42)).alloc (.cells #[.int .i64 (r % 10), .int .i64 (f + 1 + a), .int .i64 (f + 1 + a + 1 + b)] 42)).alloc (.cells #[.int .i64 ((r + 1) % 10), .int .i64 (f + 1 + a - 1), .int .i64 (f + 1 + a + 1)] 42) := ⟨_, rfl⟩
  rw [← hW2]
  have h9 : W2.cell? ⟨w1.heap.size, 0, none⟩ = some (.int .i64 (r % 10)) ∧ W2.cell? ⟨w1.heap.size, 1, none⟩ = some (.int .i64 (f)) ∧ W2.cell? ⟨w1.heap.size, 2, none⟩ = some (.int .i64 (f + 1 + a)) ∧ W2.cell? ⟨w1.heap.size + 1, 0, none⟩ = some (.int .i64 (r % 10)) ∧ W2.cell? ⟨w1.heap.size + 1, 1, none⟩ = some (.int .i64 (f + 1 + a)) ∧ W2.cell? ⟨w1.heap.size + 1, 2, none⟩ = some (.int .i64 (f + 1 + a + 1 + b)) ∧ W2.cell? ⟨w1.heap.size + 1 + 1, 0, none⟩ = some (.int .i64 ((r + 1) % 10)) ∧ W2.cell? ⟨w1.heap.size + 1 + 1, 1, none⟩ = some (.int .i64 (f + 1 + a - 1)) ∧ W2.cell? ⟨w1.heap.size + 1 + 1, 2, none⟩ = some (.int .i64 (f + 1 + a + 1)) := by rw [hW2]; simp [go_sem]
  have HB2 := Lib.hid (show Below W.heap.size W W2 by rw [hW2]; exact ((HB1.out.alloc HB1.out.size _).alloc (by have := HB1.out.size; simp; omega) _).alloc (by have := HB1.out.size; simp; omega) _)
  have hs : W2.heap.size = w1.heap.size + 3 := by rw [hW2]; simp
  have H9 := Lib.hid (show ∀ w, Below W2.heap.size W2 w → w.cell? ⟨w1.heap.size, 0, none⟩ = some (.int .i64 (r % 10)) ∧ w.cell? ⟨w1.heap.size, 1, none⟩ = some (.int .i64 (f)) ∧ w.cell? ⟨w1.heap.size, 2, none⟩ = some (.int .i64 (f + 1 + a)) ∧ w.cell? ⟨w1.heap.size + 1, 0, none⟩ = some (.int .i64 (r % 10)) ∧ w.cell? ⟨w1.heap.size + 1, 1, none⟩ = some (.int .i64 (f + 1 + a)) ∧ w.cell? ⟨w1.heap.size + 1, 2, none⟩ = some (.int .i64 (f + 1 + a + 1 + b)) ∧ w.cell? ⟨w1.heap.size + 1 + 1, 0, none⟩ = some (.int .i64 ((r + 1) % 10)) ∧ w.cell? ⟨w1.heap.size + 1 + 1, 1, none⟩ = some (.int .i64 (f + 1 + a - 1)) ∧ w.cell? ⟨w1.heap.size + 1 + 1, 2, none⟩ = some (.int .i64 (f + 1 + a + 1)) from fun w hb => by
    obtain ⟨x0, x1, x2, y0, y1, y2, z0, z1, z2⟩ := h9
    exact ⟨(hb.cell (p := ⟨w1.heap.size, 0, none⟩) (by show w1.heap.size < W2.heap.size; omega)).trans x0, (hb.cell (p := ⟨w1.heap.size, 1, none⟩) (by show w1.heap.size < W2.heap.size; omega)).trans x1, (hb.cell (p := ⟨w1.heap.size, 2, none⟩) (by show w1.heap.size < W2.heap.size; omega)).trans x2, (hb.cell (p := ⟨w1.heap.size + 1, 0, none⟩) (by show w1.heap.size + 1 < W2.heap.size; omega)).trans y0, (hb.cell (p := ⟨w1.heap.size + 1, 1, none⟩) (by show w1.heap.size + 1 < W2.heap.size; omega)).trans y1, (hb.cell (p := ⟨w1.heap.size + 1, 2, none⟩) (by show w1.heap.size + 1 < W2.heap.size; omega)).trans y2, (hb.cell (p := ⟨w1.heap.size + 1 + 1, 0, none⟩) (by show w1.heap.size + 1 + 1 < W2.heap.size; omega)).trans z0, (hb.cell (p := ⟨w1.heap.size + 1 + 1, 1, none⟩) (by show w1.heap.size + 1 + 1 < W2.heap.size; omega)).trans z1, (hb.cell (p := ⟨w1.heap.size + 1 + 1, 2, none⟩) (by show w1.heap.size + 1 + 1 < W2.heap.size; omega)).trans z2⟩)
  have HC2 := Lib.hid (Below.refl W2.heap.size W2)
  obtain ⟨x0, x1, x2, y0, y1, y2, z0, z1, z2⟩ := h9
  clear hW2 hs
  have q0 : 0 ≤ r % 10 := by omega
  have q1 : r % 10 ≤ 9 := by omega
  have rX : rightB (toBk ⟨r % 10, f, f + 1 + a⟩) = true := (right_iff _).2 (by simp only []; omega)
  have rY : rightB (toBk ⟨r % 10, f + 1 + a, f + 1 + a + 1 + b⟩) = true := (right_iff _).2 (by simp only []; omega)
  have rZ : rightB (toBk ⟨(r + 1) % 10, f + 1 + a - 1, f + 1 + a + 1⟩) = true := (right_iff _).2 (by simp only []; omega)
  have rI : rightB (toBk ⟨r % 10, f + 1 + a - 1, f + 1 + a⟩) = true := (right_iff _).2 (by simp only []; omega)
  have HT1 := Lib.hid (touch1 _ rX)
  have HT2 := Lib.hid (touch2 _ _ rX rY rfl rfl)
  have HT3 := Lib.hid (touch3 _ _ rX rZ (by simp only []; omega) rfl)
  have HT4 := Lib.hid (touch4 _ _ rX rI rfl rfl)
  have HT5 := Lib.hid (touch5 ⟨r % 10, f, f + 1 + a⟩ ⟨r % 10, f + 1 + a, f + 1 + a + 1 + b⟩ rX rfl (by simp only []; omega))
  clear rX rY rZ rI
  go_wp2_with fail
  refine (add_any (.slice none 0 0) [] 1 ⟨r % 10, f, f + 1 + a⟩ _ (Kd.R_nil kSB 42 _ 0 (fun _ => True)) (by simp)).mono ?_
  rintro e w3 ⟨v3, e3, rfl, hr, he, hb⟩
  rw [HT1.out] at he
  rw [addL, HT1.out, if_pos rfl, List.nil_append] at hr
  have HR3 := Lib.hid hr
  have HE3 := Lib.hid he
  have HC3 := Lib.hid (bstep0 HC2.out hb)
  obtain ⟨x0', x1', x2', y0', y1', y2', z0', z1', z2'⟩ := H9.out _ HC3.out
  clear hr he x0 x1 x2 y0 y1 y2 z0 z1 z2
  obtain ⟨x0, x1, x2, y0, y1, y2, z0, z1, z2⟩ := (⟨x0', x1', x2', y0', y1', y2', z0', z1', z2'⟩ : w3.cell? ⟨w1.heap.size, 0, none⟩ = some (.int .i64 (r % 10)) ∧ w3.cell? ⟨w1.heap.size, 1, none⟩ = some (.int .i64 (f)) ∧ w3.cell? ⟨w1.heap.size, 2, none⟩ = some (.int .i64 (f + 1 + a)) ∧ w3.cell? ⟨w1.heap.size + 1, 0, none⟩ = some (.int .i64 (r % 10)) ∧ w3.cell? ⟨w1.heap.size + 1, 1, none⟩ = some (.int .i64 (f + 1 + a)) ∧ w3.cell? ⟨w1.heap.size + 1, 2, none⟩ = some (.int .i64 (f + 1 + a + 1 + b)) ∧ w3.cell? ⟨w1.heap.size + 1 + 1, 0, none⟩ = some (.int .i64 ((r + 1) % 10)) ∧ w3.cell? ⟨w1.heap.size + 1 + 1, 1, none⟩ = some (.int .i64 (f + 1 + a - 1)) ∧ w3.cell? ⟨w1.heap.size + 1 + 1, 2, none⟩ = some (.int .i64 (f + 1 + a + 1)))
  clear x0' x1' x2' y0' y1' y2' z0' z1' z2'
  clear hb
  go_wp2_with fail
  refine (add_any v3 [⟨r % 10, f, f + 1 + a⟩] 1 ⟨r % 10, f + 1 + a, f + 1 + a + 1 + b⟩ _ HR3.out (by simp)).mono ?_
  rintro e w4 ⟨v4, e4, rfl, hr, he, hb⟩
  rw [HT2.out] at he
  rw [addL, HT2.out, if_pos rfl] at hr
  have HR4 := Lib.hid hr
  have HE4 := Lib.hid he
  have HC4 := Lib.hid (bstep0 HC3.out hb)
  obtain ⟨x0', x1', x2', y0', y1', y2', z0', z1', z2'⟩ := H9.out _ HC4.out
  clear hr he x0 x1 x2 y0 y1 y2 z0 z1 z2
  obtain ⟨x0, x1, x2, y0, y1, y2, z0, z1, z2⟩ := (⟨x0', x1', x2', y0', y1', y2', z0', z1', z2'⟩ : w4.cell? ⟨w1.heap.size, 0, none⟩ = some (.int .i64 (r % 10)) ∧ w4.cell? ⟨w1.heap.size, 1, none⟩ = some (.int .i64 (f)) ∧ w4.cell? ⟨w1.heap.size, 2, none⟩ = some (.int .i64 (f + 1 + a)) ∧ w4.cell? ⟨w1.heap.size + 1, 0, none⟩ = some (.int .i64 (r % 10)) ∧ w4.cell? ⟨w1.heap.size + 1, 1, none⟩ = some (.int .i64 (f + 1 + a)) ∧ w4.cell? ⟨w1.heap.size + 1, 2, none⟩ = some (.int .i64 (f + 1 + a + 1 + b)) ∧ w4.cell? ⟨w1.heap.size + 1 + 1, 0, none⟩ = some (.int .i64 ((r + 1) % 10)) ∧ w4.cell? ⟨w1.heap.size + 1 + 1, 1, none⟩ = some (.int .i64 (f + 1 + a - 1)) ∧ w4.cell? ⟨w1.heap.size + 1 + 1, 2, none⟩ = some (.int .i64 (f + 1 + a + 1)))
  clear x0' x1' x2' y0' y1' y2' z0' z1' z2'
  have HE3_4 := Lib.hid (ErrC.under HE3.out hb)
  clear HE3
  have HR3_4 := Lib.hid (Kd.R_below HR3.out hb)
  clear HR3
  clear hb
  go_wp2_with fail
  refine (add_any v3 [⟨r % 10, f, f + 1 + a⟩] 1 ⟨(r + 1) % 10, f + 1 + a - 1, f + 1 + a + 1⟩ _ HR3_4.out (by simp)).mono ?_
  rintro e w5 ⟨v5, e5, rfl, hr, he, hb⟩
  rw [HT3.out] at he
  have HE5 := Lib.hid he
  have HC5 := Lib.hid (bstep0 HC4.out hb)
  obtain ⟨x0', x1', x2', y0', y1', y2', z0', z1', z2'⟩ := H9.out _ HC5.out
  clear hr he x0 x1 x2 y0 y1 y2 z0 z1 z2
  obtain ⟨x0, x1, x2, y0, y1, y2, z0, z1, z2⟩ := (⟨x0', x1', x2', y0', y1', y2', z0', z1', z2'⟩ : w5.cell? ⟨w1.heap.size, 0, none⟩ = some (.int .i64 (r % 10)) ∧ w5.cell? ⟨w1.heap.size, 1, none⟩ = some (.int .i64 (f)) ∧ w5.cell? ⟨w1.heap.size, 2, none⟩ = some (.int .i64 (f + 1 + a)) ∧ w5.cell? ⟨w1.heap.size + 1, 0, none⟩ = some (.int .i64 (r % 10)) ∧ w5.cell? ⟨w1.heap.size + 1, 1, none⟩ = some (.int .i64 (f + 1 + a)) ∧ w5.cell? ⟨w1.heap.size + 1, 2, none⟩ = some (.int .i64 (f + 1 + a + 1 + b)) ∧ w5.cell? ⟨w1.heap.size + 1 + 1, 0, none⟩ = some (.int .i64 ((r + 1) % 10)) ∧ w5.cell? ⟨w1.heap.size + 1 + 1, 1, none⟩ = some (.int .i64 (f + 1 + a - 1)) ∧ w5.cell? ⟨w1.heap.size + 1 + 1, 2, none⟩ = some (.int .i64 (f + 1 + a + 1)))
  clear x0' x1' x2' y0' y1' y2' z0' z1' z2'
  have HE3_5 := Lib.hid (ErrC.under HE3_4.out hb)
  clear HE3_4
  have HE4_5 := Lib.hid (ErrC.under HE4.out hb)
  clear HE4
  have HR3_5 := Lib.hid (Kd.R_below HR3_4.out hb)
  clear HR3_4
  have HR4_5 := Lib.hid (Kd.R_below HR4.out hb)
  clear HR4
  clear hb
  go_wp2_with fail
  refine (add_any v3 [⟨r % 10, f, f + 1 + a⟩] 2 ⟨r % 10, f + 1 + a - 1, f + 1 + a⟩ _ HR3_5.out (by simp)).mono ?_
  rintro e w6 ⟨v6, e6, rfl, hr, he, hb⟩
  rw [HT4.out] at he
  have HE6 := Lib.hid he
  have HC6 := Lib.hid (bstep0 HC5.out hb)
  obtain ⟨x0', x1', x2', y0', y1', y2', z0', z1', z2'⟩ := H9.out _ HC6.out
  clear hr he x0 x1 x2 y0 y1 y2 z0 z1 z2
  obtain ⟨x0, x1, x2, y0, y1, y2, z0, z1, z2⟩ := (⟨x0', x1', x2', y0', y1', y2', z0', z1', z2'⟩ : w6.cell? ⟨w1.heap.size, 0, none⟩ = some (.int .i64 (r % 10)) ∧ w6.cell? ⟨w1.heap.size, 1, none⟩ = some (.int .i64 (f)) ∧ w6.cell? ⟨w1.heap.size, 2, none⟩ = some (.int .i64 (f + 1 + a)) ∧ w6.cell? ⟨w1.heap.size + 1, 0, none⟩ = some (.int .i64 (r % 10)) ∧ w6.cell? ⟨w1.heap.size + 1, 1, none⟩ = some (.int .i64 (f + 1 + a)) ∧ w6.cell? ⟨w1.heap.size + 1, 2, none⟩ = some (.int .i64 (f + 1 + a + 1 + b)) ∧ w6.cell? ⟨w1.heap.size + 1 + 1, 0, none⟩ = some (.int .i64 ((r + 1) % 10)) ∧ w6.cell? ⟨w1.heap.size + 1 + 1, 1, none⟩ = some (.int .i64 (f + 1 + a - 1)) ∧ w6.cell? ⟨w1.heap.size + 1 + 1, 2, none⟩ = some (.int .i64 (f + 1 + a + 1)))
  clear x0' x1' x2' y0' y1' y2' z0' z1' z2'
  have HE3_6 := Lib.hid (ErrC.under HE3_5.out hb)
  clear HE3_5
  have HE4_6 := Lib.hid (ErrC.under HE4_5.out hb)
  clear HE4_5
  have HE5_6 := Lib.hid (ErrC.under HE5.out hb)
  clear HE5
  have HR3_6 := Lib.hid (Kd.R_below HR3_5.out hb)
  clear HR3_5
  have HR4_6 := Lib.hid (Kd.R_below HR4_5.out hb)
  clear HR4_5
  clear hb
  clear x0 x1 x2 y0 y1 y2 z0 z1 z2
  go_wp2_with fail
  refine (Num_c _ _ 0 HE3_6.out (T.out.under T.out.lt (HB2.out.trans (HC6.out.mono HB2.out.size)))).mono ?_
  rintro e w7 ⟨rfl, hb⟩
  have HC7 := Lib.hid (bstep0 HC6.out hb)
  have HE4_7 := Lib.hid (ErrC.under HE4_6.out hb)
  clear HE4_6
  have HE5_7 := Lib.hid (ErrC.under HE5_6.out hb)
  clear HE5_6
  have HE6_7 := Lib.hid (ErrC.under HE6.out hb)
  clear HE6
  have HR3_7 := Lib.hid (Kd.R_below HR3_6.out hb)
  clear HR3_6
  have HR4_7 := Lib.hid (Kd.R_below HR4_6.out hb)
  clear HR4_6
  clear hb
  go_wp2_with fail
  refine (Num_c _ _ 0 HE4_7.out (T.out.under T.out.lt (HB2.out.trans (HC7.out.mono HB2.out.size)))).mono ?_
  rintro e w8 ⟨rfl, hb⟩
  have HC8 := Lib.hid (bstep0 HC7.out hb)
  have HE5_8 := Lib.hid (ErrC.under HE5_7.out hb)
  clear HE5_7
  have HE6_8 := Lib.hid (ErrC.under HE6_7.out hb)
  clear HE6_7
  have HR3_8 := Lib.hid (Kd.R_below HR3_7.out hb)
  clear HR3_7
  have HR4_8 := Lib.hid (Kd.R_below HR4_7.out hb)
  clear HR4_7
  clear hb
  obtain ⟨A4, c4, e4', hc4, hC4⟩ := Kd.R_reads HR4_8.out
  subst e4'
  go_wp2_with fail
  refine (Num_c _ _ 10 HE5_8.out (T.out.under T.out.lt (HB2.out.trans (HC8.out.mono HB2.out.size)))).mono ?_
  rintro e w9 ⟨rfl, hb⟩
  have HC9 := Lib.hid (bstep0 HC8.out hb)
  have HE6_9 := Lib.hid (ErrC.under HE6_8.out hb)
  clear HE6_8
  have HR3_9 := Lib.hid (Kd.R_below HR3_8.out hb)
  clear HR3_8
  have HR4_9 := Lib.hid (Kd.R_below HR4_8.out hb)
  clear HR4_8
  clear hb
  go_wp2_with fail
  refine (Num_c _ _ 5 HE6_9.out (T.out.under T.out.lt (HB2.out.trans (HC9.out.mono HB2.out.size)))).mono ?_
  rintro e w10 ⟨rfl, hb⟩
  have HC10 := Lib.hid (bstep0 HC9.out hb)
  have HR3_10 := Lib.hid (Kd.R_below HR3_9.out hb)
  clear HR3_9
  have HR4_10 := Lib.hid (Kd.R_below HR4_9.out hb)
  clear HR4_9
  clear hb
  go_wp2_with fail
  refine (peak_call 0 2000 _ HR4_10.out (by simp)).mono ?_
  rintro e w11 ⟨rfl, hb⟩
  have HC11 := Lib.hid (bstep0 HC10.out hb)
  clear hb
  rw [show ([⟨r % 10, f, f + 1 + a⟩] ++ [⟨r % 10, f + 1 + a, f + 1 + a + 1 + b⟩] : List SB) = [⟨r % 10, f, f + 1 + a⟩, ⟨r % 10, f + 1 + a, f + 1 + a + 1 + b⟩] from rfl, HT5.out]
  go_wp2_with fail
  go_ret
  exact ⟨rfl, HB2.out.trans (HC11.out.mono HB2.out.size)⟩
theorem touch_walk (r f a b : Int) (W : World) (w1 : (Lit.int .u8 r).wf = true) (w2 : (Lit.int .u8 f).wf = true) (w3 : (Lit.int .u8 a).wf = true) (w4 : (Lit.int .u8 b).wf = true) (tied : Tied W) :
    Calls Tryd.prog 8 #[.int .u8 r, .int .u8 f, .int .u8 a, .int .u8 b] W fun e w' => e = .returned (.bool true) ∧ Below W.heap.size W w' := by
  have wf : ∀ {n : Int}, (Lit.int .u8 n).wf = true → 0 ≤ n ∧ n ≤ 255 := fun h => by simpa [Lit.wf, IntKind.min, IntKind.max, IntKind.signed, IntKind.bits] using h
  exact touch_in r f a b W tied (wf w1).1 (wf w1).2 (wf w2).1 (wf w2).2 (wf w3).1 (wf w3).2 (wf w4).1 (wf w4).2
end Go.Proofs.YtfgbnnmaooillaaDoor
