/- SlotPlays: the walk. -/
import Derived.Test.YtfgbnnmaooillaaDoorPlaysPPSlotPlays
import Derived.Deep.LoopGhost
import Derived.Deep.Cut
import Derived.Deep.CutRange
import Derived.Deep.QuietTactic
import Derived.BigQuiet
import Derived.Outline
namespace Go.Proofs.YtfgbnnmaooillaaDoor
open Go.ChangeShapes Go.WideShapes Go.RowKit Go.Lib Go.Proofs.YtfgbnnmaooillaaDoorW.PrintWords Go.Proofs.YtfgbnnmaooillaaDoorW.PrintLast Go.Proofs.YtfgbnnmaooillaaDoorW.PrintMore Go.Proofs.YtfgbnnmaooillaaDoor.PSlotPlays
set_option linter.unusedVariables false
set_option linter.unusedSimpArgs false

theorem rpeak_call (A : Option Addr) (cp : Nat) (l : List RB) (a b r : Int) (W : World) (h : RBs W A l cp) (hl : l.length ≤ 1000) (ha : -1000000000000 ≤ a) (hb : b ≤ 1000000000000) (hab : b - a ≤ 1000) :
    Calls Tryd.prog 25 #[.slice A l.length cp, .int .i64 a, .int .i64 b, .int .i64 r] W fun e w' => e = .returned (.int .i64 (peakL (bks (rL r l)) a b : Nat)) ∧ Below W.heap.size W w' :=
  dynamoref20_Peak.calls 3000 A cp l a b r _ W h.1 h.2.1 (rpeak_f l a b r hl ha hb hab)
theorem rright_call (b0 b1 b2 : Int) (W : World) : Calls Tryd.prog 22 #[.agg #[.int .i64 b0, .int .i64 b1, .int .i64 b2]] W fun e w' => e = .returned (.bool (rightB ⟨b0, b1, b2⟩)) ∧ Below W.heap.size W w' := dynamoref20_Right.calls b0 b1 b2 _ W (rRight_f _ _ _)
theorem sright_call (b0 b1 b2 : Int) (W : World) : Calls Tryd.prog 21 #[.agg #[.int .i64 b0, .int .i64 b1, .int .i64 b2]] W fun e w' => e = .returned (.bool (rightB ⟨b0, b1, b2⟩)) ∧ Below W.heap.size W w' := slot_Right.calls b0 b1 b2 _ W (sRight_f _ _ _)
/-- what slot.Add has made -/
structure AddRes (W w : World) (v ev : Value) (L : List SB) (code : Int) : Prop where
  r : Kd.R kSB 42 w W.heap.size (fun _ => True) v L
  e : ErrC W.heap.size w ev code
  below : Below W.heap.size W w
theorem AddRes.mk' {W w w' : World} {v ev : Value} {L : List SB} {code : Int} (h : Below W.heap.size W w) (hr : Kd.R kSB 42 w' w.heap.size (fun _ => True) v L) (he : ErrC w.heap.size w' ev code) (hb : Below w.heap.size w w') : AddRes W w' v ev L code :=
  ⟨Kd.R_lower hr h.size, he.mono h.size, h.trans (hb.mono h.size)⟩
theorem AddRes.under {W w w' : World} {v ev : Value} {L : List SB} {code : Int} (h : AddRes W w v ev L code) (hb : Below w.heap.size w w') : AddRes W w' v ev L code :=
  ⟨Kd.R_below h.r hb, h.e.under hb, h.below.trans (hb.mono h.below.size)⟩
set_option maxRecDepth 100000 in
theorem plays_long (A : Option Addr) (cp : Nat) (l : List RB) (b0 b1 b2 room a z : Int) (W : World) (h : RBs W A l cp) (hl : 60 < l.length) :
    Calls Tryd.prog 7 #[.slice A l.length cp, .agg #[.int .i64 b0, .int .i64 b1, .int .i64 b2], .int .i64 room, .int .i64 a, .int .i64 z] W fun e w' => e = .returned (.bool true) ∧ Below W.heap.size W w' := by
  have hd : decide ((60 : Int) < (l.length : Int)) = true := by simp; omega
  have HR := Lib.hid h
  clear h
  go_enter Tryd.func7, Tryd.ntmps7
  go_wp2_with fail
  refine (awake_call _).mono ?_
  rintro e w1 ⟨rfl, hb⟩
  have HB := Lib.hid (under_alloc hb)
  clear hb
  go_wp2_with fail
  refine (awake_call _).mono ?_
  rintro e w2 ⟨rfl, hb⟩
  have HB2 := Lib.hid (bstep0 HB.out hb)
  clear hb
  go_wp2_with fail
  go_ret
  exact ⟨rfl, HB2.out⟩
set_option maxHeartbeats 4000000 in
set_option maxRecDepth 100000 in
theorem plays_short (A : Option Addr) (cp : Nat) (l : List RB) (b0 b1 b2 room a z : Int) (W : World) (h : RBs W A l cp) (hl : l.length ≤ 60) (tied : Tied W) (ha0 : -9223372036854775808 ≤ a) (ha1 : a ≤ 9223372036854775807) (hz0 : -9223372036854775808 ≤ z) (hz1 : z ≤ 9223372036854775807) :
    Calls Tryd.prog 7 #[.slice A l.length cp, .agg #[.int .i64 b0, .int .i64 b1, .int .i64 b2], .int .i64 room, .int .i64 a, .int .i64 z] W fun e w' => e = .returned (.bool true) ∧ Below W.heap.size W w' := by
  have HBd := Lib.hid (And.intro (And.intro ha0 ha1) (And.intro hz0 hz1))
  have T := Lib.hid tied
  obtain ⟨L, hL⟩ : ∃ L, L = l.map ofR := ⟨_, rfl⟩
  have hLl : L.length = l.length := by rw [hL]; simp
  have HL := Lib.hid hL
  have HLl := Lib.hid hLl
  have hd : decide ((60 : Int) < (l.length : Int)) = false := by simp; omega
  have HR := Lib.hid h
  clear h hL hLl tied ha0 ha1 hz0 hz1
  go_enter Tryd.func7, Tryd.ntmps7
  go_wp2_with fail
  refine (awake_call _).mono ?_
  rintro e w1 ⟨rfl, hb⟩
  have hs1 : W.heap.size < w1.heap.size := by have := hb.size; simp at this; omega
  have k0 : w1.cell? ⟨W.heap.size, 0, none⟩ = some (.int .i64 b0) := (hb.cell (p := ⟨W.heap.size, 0, none⟩) (by simp)).trans (by simp)
  have k1 : w1.cell? ⟨W.heap.size, 1, none⟩ = some (.int .i64 b1) := (hb.cell (p := ⟨W.heap.size, 1, none⟩) (by simp)).trans (by simp)
  have k2 : w1.cell? ⟨W.heap.size, 2, none⟩ = some (.int .i64 b2) := (hb.cell (p := ⟨W.heap.size, 2, none⟩) (by simp)).trans (by simp)
  have HB1 := Lib.hid (under_alloc hb)
  clear hb
  go_upto_region 4 with fail
  obtain ⟨w2, hw2⟩ : ∃ w2, w2 = w1.alloc (.cells #[.int .i64 b0, .int .i64 b1, .int .i64 b2] 42) := ⟨_, rfl⟩
  rw [← hw2]
  have HK := Lib.hid (show ∀ w, Below w2.heap.size w2 w → (w.cell? ⟨W.heap.size, 0, none⟩ = some (.int .i64 b0) ∧ w.cell? ⟨W.heap.size, 1, none⟩ = some (.int .i64 b1) ∧ w.cell? ⟨W.heap.size, 2, none⟩ = some (.int .i64 b2)) ∧ (w.cell? ⟨w1.heap.size, 0, none⟩ = some (.int .i64 b0) ∧ w.cell? ⟨w1.heap.size, 1, none⟩ = some (.int .i64 b1) ∧ w.cell? ⟨w1.heap.size, 2, none⟩ = some (.int .i64 b2)) from fun w hb => by
    have hs : w2.heap.size = w1.heap.size + 1 := by rw [hw2]; simp
    have hne : W.heap.size ≠ w1.heap.size := by omega
    refine ⟨⟨(hb.cell (p := ⟨W.heap.size, 0, none⟩) (by show W.heap.size < _; omega)).trans ?_, (hb.cell (p := ⟨W.heap.size, 1, none⟩) (by show W.heap.size < _; omega)).trans ?_, (hb.cell (p := ⟨W.heap.size, 2, none⟩) (by show W.heap.size < _; omega)).trans ?_⟩, (hb.cell (p := ⟨w1.heap.size, 0, none⟩) (by show w1.heap.size < _; omega)).trans ?_, (hb.cell (p := ⟨w1.heap.size, 1, none⟩) (by show w1.heap.size < _; omega)).trans ?_, (hb.cell (p := ⟨w1.heap.size, 2, none⟩) (by show w1.heap.size < _; omega)).trans ?_⟩
    · rw [hw2]; exact Lib.cell?_alloc_some _ k0
    · rw [hw2]; exact Lib.cell?_alloc_some _ k1
    · rw [hw2]; exact Lib.cell?_alloc_some _ k2
    · rw [hw2]; simp
    · rw [hw2]; simp
    · rw [hw2]; simp)
  have HB2 := Lib.hid (show Below W.heap.size W w2 by rw [hw2]; exact HB1.out.alloc HB1.out.size _)
  have HT := Lib.hid (fun w (hb : Below w2.heap.size w2 w) => T.out.under T.out.lt (bstep0 HB2.out hb))
  have HRl := Lib.hid (fun w (hb : Below w2.heap.size w2 w) => HR.out.below (bstep0 HB2.out hb))
  have HC2 := Lib.hid (Below.refl w2.heap.size w2)
  have hn1 : W.heap.size < w2.heap.size := by rw [hw2]; simp; omega
  have hn2 : w1.heap.size < w2.heap.size := by rw [hw2]; simp
  clear hw2 k0 k1 k2 hs1
  have HS := Lib.hid (show ∀ w', Below w2.heap.size w2 w' → ((w'.cell? ⟨W.heap.size, 0, none⟩ = some (.int .i64 b0) ∧ w'.cell? ⟨W.heap.size, 1, none⟩ = some (.int .i64 b1) ∧ w'.cell? ⟨W.heap.size, 2, none⟩ = some (.int .i64 b2)) ∧ (w'.cell? ⟨w1.heap.size, 0, none⟩ = some (.int .i64 b0) ∧ w'.cell? ⟨w1.heap.size, 1, none⟩ = some (.int .i64 b1) ∧ w'.cell? ⟨w1.heap.size, 2, none⟩ = some (.int .i64 b2))) ∧ Below w2.heap.size w2 w' from fun w' hb => ⟨HK.out w' hb, hb⟩)
  have HP := Lib.hid (show ∀ w', (((w'.cell? ⟨W.heap.size, 0, none⟩ = some (.int .i64 b0) ∧ w'.cell? ⟨W.heap.size, 1, none⟩ = some (.int .i64 b1) ∧ w'.cell? ⟨W.heap.size, 2, none⟩ = some (.int .i64 b2)) ∧ (w'.cell? ⟨w1.heap.size, 0, none⟩ = some (.int .i64 b0) ∧ w'.cell? ⟨w1.heap.size, 1, none⟩ = some (.int .i64 b1) ∧ w'.cell? ⟨w1.heap.size, 2, none⟩ = some (.int .i64 b2))) ∧ Below w2.heap.size w2 w') → Below w2.heap.size w2 w' from fun w' h => h.2)
  obtain ⟨rb, hrb⟩ : ∃ q, q = rightB ⟨b0, b1, b2⟩ := ⟨_, rfl⟩
  have HRB := Lib.hid hrb
  have HRt := Lib.hid (rright_call b0 b1 b2)
  have HSt := Lib.hid (sright_call b0 b1 b2)
  rw [← hrb] at HRt HSt
  clear hrb
  go_cut [35] from 31 to 35 (fun s35 wx => s35 = .bool false ∧ Hid (Below w2.heap.size w2 wx))
  case first =>
    go_region_held3 (fun w' => ((w'.cell? ⟨W.heap.size, 0, none⟩ = some (.int .i64 b0) ∧ w'.cell? ⟨W.heap.size, 1, none⟩ = some (.int .i64 b1) ∧ w'.cell? ⟨W.heap.size, 2, none⟩ = some (.int .i64 b2)) ∧ (w'.cell? ⟨w1.heap.size, 0, none⟩ = some (.int .i64 b0) ∧ w'.cell? ⟨w1.heap.size, 1, none⟩ = some (.int .i64 b1) ∧ w'.cell? ⟨w1.heap.size, 2, none⟩ = some (.int .i64 b2))) ∧ Below w2.heap.size w2 w') ((refine HS.out _ ?_; first | assumption | exact Below.drew (Below.refl _ _))) (first | (go_at_call 21; (with_reducible refine (HSt.out _).mono ?_); rintro e wn ⟨rfl, hb⟩; have hBn := bstep0 (HP.out _ (by assumption)) hb; clear hb) | (go_at_call 22; (with_reducible refine (HRt.out _).mono ?_); rintro e wn ⟨rfl, hb⟩; have hBn := bstep0 (HP.out _ (by assumption)) hb; clear hb))
    all_goals go_wp2_with fail
    all_goals go_meet
    all_goals exact ⟨by simp, Lib.hid (HP.out _ (by assumption))⟩
  obtain ⟨w3, rfl⟩ : ∃ x : World, x = wc := ⟨_, rfl⟩
  obtain ⟨rfl, HC3⟩ := hcut
  clear HC2
  go_upto_region 6 with fail
  go_cut [63] from 36 to 63 (fun s63 wx => s63 = .bool false ∧ Hid (Below w2.heap.size w2 wx))
  case first =>
    by_cases c1 : -1000 ≤ a
    rotate_left
    · have q1 : decide (-1000 ≤ a) = false := by simpa using c1
      go_wp2_with fail
      go_meet
      exact ⟨rfl, HC3⟩
    have q1 : decide (-1000 ≤ a) = true := by simpa using c1
    by_cases c2 : z ≤ 1000000
    rotate_left
    · have q2 : decide (z ≤ 1000000) = false := by simpa using c2
      go_wp2_with fail
      go_meet
      exact ⟨rfl, HC3⟩
    have q2 : decide (z ≤ 1000000) = true := by simpa using c2
    by_cases c3 : wrap64 (z - a) ≤ 1000
    rotate_left
    · have q3 : decide (wrap64 (z - a) ≤ 1000) = false := by simpa using c3
      go_wp2_with fail
      go_meet
      exact ⟨rfl, HC3⟩
    have q3 : decide (wrap64 (z - a) ≤ 1000) = true := by simpa using c3
    by_cases c4 : a ≤ 1000000
    rotate_left
    · have q4 : decide (a ≤ 1000000) = false := by simpa using c4
      go_wp2_with fail
      go_meet
      exact ⟨rfl, HC3⟩
    have q4 : decide (a ≤ 1000000) = true := by simpa using c4
    have hza : z - a ≤ 1000 := by obtain ⟨⟨_, _⟩, _, _⟩ := HBd.out; unfold wrap64 at c3; omega
    have HZA := Lib.hid hza
    clear hza c3
    go_wp2_with fail
    refine (of_call A cp l _ (HRl.out _ HC3.out) (by omega)).mono ?_
    rintro e w4 ⟨v4, rfl, hv, hb⟩
    rw [← HL.out] at hv
    have HV4 := Lib.hid hv
    have HC4 := Lib.hid (bstep0 HC3.out hb)
    clear hv hb
    go_wp2_with fail
    refine (peak_call a z _ HV4.out (by have := HLl.out; omega)).mono ?_
    rintro e w5 ⟨rfl, hb⟩
    have HC5 := Lib.hid (bstep0 HC4.out hb)
    clear hb
    go_wp2_with fail
    refine (rpeak_call A cp l a z (-1) _ (HRl.out _ HC5.out) (by omega) (by omega) (by omega) HZA.out).mono ?_
    rw [rL_all, ← HL.out]
    rintro e w6 ⟨rfl, hb⟩
    have HC6 := Lib.hid (bstep0 HC5.out hb)
    clear hb
    go_wp2_with fail
    go_meet
    exact ⟨by simp, HC6⟩
  obtain ⟨w4, rfl⟩ : ∃ x : World, x = wc := ⟨_, rfl⟩
  obtain ⟨rfl, HC4⟩ := hcut
  clear HC3
  go_upto_region 8 with fail
  have HL1000 : Hid (L.length ≤ 1000) := Lib.hid (by have := HLl.out; omega)
  obtain ⟨code, hcode⟩ : ∃ q, q = addC L room ⟨b0, b1, b2⟩ := ⟨_, rfl⟩
  have HCode := Lib.hid hcode
  clear hcode
  go_cut [12, 13] from 64 to 71 (fun s12 s13 wx => Hid (AddRes w2 wx s12 s13 (addL L room ⟨b0, b1, b2⟩) code))
  case first =>
    have HS4 := Lib.hid (show ∀ w', Below w4.heap.size w4 w' → ((w'.cell? ⟨W.heap.size, 0, none⟩ = some (.int .i64 b0) ∧ w'.cell? ⟨W.heap.size, 1, none⟩ = some (.int .i64 b1) ∧ w'.cell? ⟨W.heap.size, 2, none⟩ = some (.int .i64 b2)) ∧ (w'.cell? ⟨w1.heap.size, 0, none⟩ = some (.int .i64 b0) ∧ w'.cell? ⟨w1.heap.size, 1, none⟩ = some (.int .i64 b1) ∧ w'.cell? ⟨w1.heap.size, 2, none⟩ = some (.int .i64 b2))) ∧ Below w2.heap.size w2 w' from fun w' hb => HS.out w' (bstep0 HC4.out hb))
    go_region_held3 (fun w' => ((w'.cell? ⟨W.heap.size, 0, none⟩ = some (.int .i64 b0) ∧ w'.cell? ⟨W.heap.size, 1, none⟩ = some (.int .i64 b1) ∧ w'.cell? ⟨W.heap.size, 2, none⟩ = some (.int .i64 b2)) ∧ (w'.cell? ⟨w1.heap.size, 0, none⟩ = some (.int .i64 b0) ∧ w'.cell? ⟨w1.heap.size, 1, none⟩ = some (.int .i64 b1) ∧ w'.cell? ⟨w1.heap.size, 2, none⟩ = some (.int .i64 b2))) ∧ Below w2.heap.size w2 w') ((refine HS.out _ ?_; first | assumption | exact HC4.out | exact Below.drew HC4.out)) (first | (go_at_call 24; (with_reducible refine (of_call A cp l _ (HRl.out _ (HP.out _ (by assumption))) (by omega)).mono ?_); rintro e wn ⟨v5, rfl, hv, hb⟩; rw [← HL.out] at hv; have HV5 := Lib.hid hv; have hBn := bstep0 (HP.out _ (by assumption)) hb; clear hv hb) | (go_at_call 26; (refine (add_any v5 L room ⟨b0, b1, b2⟩ _ HV5.out HL1000.out).mono ?_); rintro e wn2 ⟨v6, e6, rfl, hr, he, hb⟩; rw [← HCode.out] at he; have HRes := Lib.hid (AddRes.mk' (HP.out _ (by assumption)) hr he hb); have hBn2 := bstep0 (HP.out _ (by assumption)) hb; clear hr he hb))
    all_goals go_wp2_with fail
    all_goals go_meet
    all_goals exact HRes
  obtain ⟨w5, rfl⟩ : ∃ x : World, x = wc := ⟨_, rfl⟩
  have HA5 := Lib.hid hcut.out
  clear hcut HC4
  have HRT : Hid (rightB (toBk ⟨b0, b1, b2⟩) = rb) := Lib.hid HRB.out.symm
  cases rb with
  | false =>
    have hbad : rightB (toBk ⟨b0, b1, b2⟩) = false ∨ room < 1 ∨ 10 < room := .inl HRT.out
    have hcode : code = 1 := by rw [HCode.out]; unfold addC; rw [if_pos hbad]
    have hnil : addL L room ⟨b0, b1, b2⟩ = [] := by unfold addL; rw [← HCode.out, hcode]; rfl
    subst hcode
    rw [hnil] at HA5
    clear hbad hnil
    obtain ⟨A8, c8, rfl, _, _⟩ := Kd.R_reads HA5.out.r
    obtain ⟨⟨x0, x1, x2⟩, _⟩ := HK.out _ HA5.out.below
    go_wp2_with fail
    refine (HRt.out _).mono ?_
    rintro e w6 ⟨rfl, hb⟩
    have HA6 := Lib.hid (HA5.out.under hb)
    clear hb
    clear x0 x1 x2
    go_wp2_with fail
    refine (Num_c _ _ 1 HA6.out.e (HT.out _ HA6.out.below)).mono ?_
    rintro e w7 ⟨rfl, hb⟩
    have HA7 := Lib.hid (HA6.out.under hb)
    clear hb
    go_wp2_with fail
    go_ret
    exact ⟨by simp, HB2.out.trans (HA7.out.below.mono HB2.out.size)⟩
  | true =>
    by_cases hr1 : room < 1
    · have hbad : rightB (toBk ⟨b0, b1, b2⟩) = false ∨ room < 1 ∨ 10 < room := .inr (.inl hr1)
      have hd1 : decide (room < 1) = true := by simpa using hr1
      have hcode : code = 1 := by rw [HCode.out]; unfold addC; rw [if_pos hbad]
      have hnil : addL L room ⟨b0, b1, b2⟩ = [] := by unfold addL; rw [← HCode.out, hcode]; rfl
      subst hcode
      rw [hnil] at HA5
      clear hbad hnil
      obtain ⟨A8, c8, rfl, _, _⟩ := Kd.R_reads HA5.out.r
      obtain ⟨⟨x0, x1, x2⟩, _⟩ := HK.out _ HA5.out.below
      go_wp2_with fail
      refine (HRt.out _).mono ?_
      rintro e w6 ⟨rfl, hb⟩
      have HA6 := Lib.hid (HA5.out.under hb)
      clear hb
      clear x0 x1 x2
      go_wp2_with fail
      refine (Num_c _ _ 1 HA6.out.e (HT.out _ HA6.out.below)).mono ?_
      rintro e w7 ⟨rfl, hb⟩
      have HA7 := Lib.hid (HA6.out.under hb)
      clear hb
      go_wp2_with fail
      go_ret
      exact ⟨by simp, HB2.out.trans (HA7.out.below.mono HB2.out.size)⟩
    have hd1 : decide (room < 1) = false := by simpa using hr1
    by_cases hr2 : 10 < room
    · have hbad : rightB (toBk ⟨b0, b1, b2⟩) = false ∨ room < 1 ∨ 10 < room := .inr (.inr hr2)
      have hd2 : decide (10 < room) = true := by simpa using hr2
      have hcode : code = 1 := by rw [HCode.out]; unfold addC; rw [if_pos hbad]
      have hnil : addL L room ⟨b0, b1, b2⟩ = [] := by unfold addL; rw [← HCode.out, hcode]; rfl
      subst hcode
      rw [hnil] at HA5
      clear hbad hnil
      obtain ⟨A8, c8, rfl, _, _⟩ := Kd.R_reads HA5.out.r
      obtain ⟨⟨x0, x1, x2⟩, _⟩ := HK.out _ HA5.out.below
      go_wp2_with fail
      refine (HRt.out _).mono ?_
      rintro e w6 ⟨rfl, hb⟩
      have HA6 := Lib.hid (HA5.out.under hb)
      clear hb
      clear x0 x1 x2
      go_wp2_with fail
      refine (Num_c _ _ 1 HA6.out.e (HT.out _ HA6.out.below)).mono ?_
      rintro e w7 ⟨rfl, hb⟩
      have HA7 := Lib.hid (HA6.out.under hb)
      clear hb
      go_wp2_with fail
      go_ret
      exact ⟨by simp, HB2.out.trans (HA7.out.below.mono HB2.out.size)⟩
    have hd2 : decide (10 < room) = false := by simpa using hr2
    have hcode : code = if 0 < peakL (bks (ownL b0 L)) b1 b2 then 5 else if room ≤ (peakL (bks L) b1 b2 : Nat) then 10 else 0 := by
      rw [HCode.out]; unfold addC; rw [if_neg (fun h => h.elim (fun h => by rw [HRT.out] at h; cases h) (fun h => h.elim hr1 hr2))]
    obtain ⟨t0, t1, t2, t3, t4⟩ := (right_iff ⟨b0, b1, b2⟩).1 HRT.out
    simp only at t0 t1 t2 t3 t4
    have HC0 := Lib.hid hcode
    clear hcode
    obtain ⟨⟨x0, x1, x2⟩, y0, y1, y2⟩ := HK.out _ HA5.out.below
    go_wp2_with fail
    refine (HRt.out _).mono ?_
    rintro e w6 ⟨rfl, hb⟩
    have HA6 := Lib.hid (HA5.out.under hb)
    clear hb
    clear x0 x1 x2 y0 y1 y2
    obtain ⟨⟨x0, x1, x2⟩, y0, y1, y2⟩ := HK.out _ HA6.out.below
    by_cases hbig : 1000 < b2 - b1
    · have hbd : decide (1000 < b2 - b1) = true := by simpa using hbig
      go_wp2_with fail
      go_ret
      exact ⟨rfl, HB2.out.trans (HA6.out.below.mono HB2.out.size)⟩
    have hbd : decide (1000 < b2 - b1) = false := by simpa using hbig
    obtain ⟨po, hpo⟩ : ∃ q, q = peakL (bks (ownL b0 L)) b1 b2 := ⟨_, rfl⟩
    obtain ⟨pa, hpa⟩ : ∃ q, q = peakL (bks L) b1 b2 := ⟨_, rfl⟩
    rw [← hpo, ← hpa] at HC0
    have HPO := Lib.hid (show peakL (bks (rL b0 l)) b1 b2 = po by rw [rL_own b0 t0, ← HL.out, hpo])
    have HPA := Lib.hid (show peakL (bks (rL (-1) l)) b1 b2 = pa by rw [rL_all, ← HL.out, hpa])
    clear hpo hpa
    go_wp2_with fail
    refine (rpeak_call A cp l b1 b2 b0 _ (HRl.out _ HA6.out.below) (by omega) (by omega) (by omega) (by omega)).mono ?_
    rw [HPO.out]
    rintro e w7 ⟨rfl, hb⟩
    have HA7 := Lib.hid (HA6.out.under hb)
    clear hb
    clear x0 x1 x2 y0 y1 y2
    obtain ⟨⟨x0, x1, x2⟩, y0, y1, y2⟩ := HK.out _ HA7.out.below
    by_cases hp5 : 0 < po
    · have hcode : code = 5 := by rw [HC0.out, if_pos hp5]
      have hpz : (0 : Int) < (po : Int) := by omega
      clear x0 x1 x2 y0 y1 y2
      have hnil : addL L room ⟨b0, b1, b2⟩ = [] := by unfold addL; rw [← HCode.out, hcode]; rfl
      subst hcode
      rw [hnil] at HA7
      clear hnil
      obtain ⟨A8, c8, rfl, _, _⟩ := Kd.R_reads HA7.out.r
      go_wp2_with fail
      refine (Num_c _ _ 5 HA7.out.e (HT.out _ HA7.out.below)).mono ?_
      rintro e w8 ⟨rfl, hb⟩
      have HA8 := Lib.hid (HA7.out.under hb)
      clear hb
      go_wp2_with fail
      refine (Num_c _ _ 5 HA8.out.e (HT.out _ HA8.out.below)).mono ?_
      rintro e w9 ⟨rfl, hb⟩
      have HA9 := Lib.hid (HA8.out.under hb)
      clear hb
      go_wp2_with fail
      go_ret
      exact ⟨by simp, HB2.out.trans (HA9.out.below.mono HB2.out.size)⟩
    have hpz : ¬ (0 : Int) < (po : Int) := by omega
    go_wp2_with fail
    refine (rpeak_call A cp l b1 b2 (-1) _ (HRl.out _ HA7.out.below) (by omega) (by omega) (by omega) (by omega)).mono ?_
    rw [HPA.out]
    rintro e w8 ⟨rfl, hb⟩
    have HA8 := Lib.hid (HA7.out.under hb)
    clear hb
    clear x0 x1 x2 y0 y1 y2
    by_cases hpr : room ≤ (pa : Int)
    · have hcode : code = 10 := by rw [HC0.out, if_neg hp5, if_pos hpr]
      have hpd : decide (room ≤ (pa : Int)) = true := by simpa using hpr
      have hnil : addL L room ⟨b0, b1, b2⟩ = [] := by unfold addL; rw [← HCode.out, hcode]; rfl
      subst hcode
      rw [hnil] at HA8
      clear hnil
      obtain ⟨A8, c8, rfl, _, _⟩ := Kd.R_reads HA8.out.r
      go_wp2_with fail
      refine (Num_c _ _ 10 HA8.out.e (HT.out _ HA8.out.below)).mono ?_
      rintro e w9 ⟨rfl, hb⟩
      have HA9 := Lib.hid (HA8.out.under hb)
      clear hb
      go_wp2_with fail
      refine (Num_c _ _ 10 HA9.out.e (HT.out _ HA9.out.below)).mono ?_
      rintro e w10 ⟨rfl, hb⟩
      have HA10 := Lib.hid (HA9.out.under hb)
      clear hb
      go_wp2_with fail
      go_ret
      exact ⟨by simp, HB2.out.trans (HA10.out.below.mono HB2.out.size)⟩
    have hpd : decide (room ≤ (pa : Int)) = false := by simpa using hpr
    have hcode : code = 0 := by rw [HC0.out, if_neg hp5, if_neg hpr]
    have hadd : addL L room ⟨b0, b1, b2⟩ = L ++ [⟨b0, b1, b2⟩] := by unfold addL; rw [← HCode.out, hcode, if_pos rfl]
    subst hcode
    rw [hadd] at HA8
    clear hadd
    go_wp2_with fail
    refine (Num_c _ _ 0 HA8.out.e (HT.out _ HA8.out.below)).mono ?_
    rintro e w9 ⟨rfl, hb⟩
    have HA9 := Lib.hid (HA8.out.under hb)
    clear hb
    obtain ⟨A8, c8, h8, hc8, hC8⟩ := Kd.R_reads HA9.out.r
    have hyl : (L ++ [(⟨b0, b1, b2⟩ : SB)]).length = l.length + 1 := by rw [List.length_append, HLl.out]; rfl
    rw [hyl] at h8 hc8
    subst h8
    have HC8 := Lib.hid hC8
    have HYL := Lib.hid hyl
    clear hC8 hyl hp5 hpr hbig hr1 hr2
    obtain ⟨ad8, e8, z0, z1, z2⟩ := at_T42 HC8.out (l.length : Int) (by omega) (by rw [HYL.out]; omega)
    subst e8
    rw [rdS_nat _ l.length (by rw [HYL.out]; omega), Int.toNat_natCast] at z0 z1 z2
    have hlast : (L ++ [(⟨b0, b1, b2⟩ : SB)])[l.length]'(by rw [HYL.out]; omega) = ⟨b0, b1, b2⟩ := by have := HLl.out; rw [List.getElem_append_right (by omega)]; simp
    rw [hlast] at z0 z1 z2
    simp only at z0 z1 z2
    have HZ := Lib.hid (And.intro z0 (And.intro z1 z2))
    clear z0 z1 z2 hlast
    have hw1 : IntKind.i64.wrap ((l.length : Int) + 1) = (l.length : Int) + 1 := IntWalk.i64_in _ (by omega)
    have HW1 := Lib.hid hw1
    clear hw1
    go_wp2_with fail
    go_loopg [15] l.length (fun gg s15 wx => ∃ j : Nat, j ≤ l.length ∧ l.length - j ≤ gg ∧ s15 = .int .i64 j ∧ Hid (Below w9.heap.size w9 wx))
    case atStart => exact ⟨0, Nat.zero_le _, by omega, rfl, Lib.hid (Below.refl _ _)⟩
    case round =>
      obtain ⟨j, hj, hg, rfl, HBx⟩ := hrel
      by_cases hlt : j < l.length
      · have hltz : (j : Int) < (l.length : Int) := by omega
        have hLj : j < L.length := by have := HLl.out; omega
        obtain ⟨ad', e', y0, y1, y2⟩ := at_T42 (Kd.C_below HC8.out HBx.out) (j : Int) (by omega) (by rw [HYL.out]; omega)
        obtain rfl := Option.some.inj e'
        rw [rdS_nat _ j (by rw [HYL.out]; omega), Int.toNat_natCast, List.getElem_append_left hLj] at y0 y1 y2
        obtain ⟨s, hs⟩ : ∃ s, s = L[j] := ⟨_, rfl⟩
        rw [← hs] at y0 y1 y2
        have HCell := Lib.hid (show ∀ (w : World) (base : Nat) (ok : Nat → Prop) (v : Value), Kd.R kSB 42 w base ok v L → ∃ g cap, v = .slice (some ⟨g, 0, none⟩) L.length cap ∧ w.cell? ⟨g, j * 3, none⟩ = some (.int .i64 s.f0) ∧ w.cell? ⟨g, j * 3 + 1, none⟩ = some (.int .i64 s.f1) ∧ w.cell? ⟨g, j * 3 + 2, none⟩ = some (.int .i64 s.f2) from fun w base ok v h => by rw [hs]; exact R_cells h j hLj)
        clear hs
        have HSj := Lib.hid (show ∀ w', Below wr.heap.size wr w' → (w'.cell? (ad8.add (j * 3)) = some (.int .i64 s.f0) ∧ w'.cell? ⟨(ad8.add (j * 3)).block, (ad8.add (j * 3)).off + 1, none⟩ = some (.int .i64 s.f1) ∧ w'.cell? ⟨(ad8.add (j * 3)).block, (ad8.add (j * 3)).off + 2, none⟩ = some (.int .i64 s.f2)) ∧ Below wr.heap.size wr w' from fun w' h => ⟨⟨(h.cell (cell_old y0)).trans y0, (h.cell (p := ⟨(ad8.add (j * 3)).block, (ad8.add (j * 3)).off + 1, none⟩) (cell_old y1)).trans y1, (h.cell (p := ⟨(ad8.add (j * 3)).block, (ad8.add (j * 3)).off + 2, none⟩) (cell_old y2)).trans y2⟩, h⟩)
        have HPj := Lib.hid (show ∀ w', ((w'.cell? (ad8.add (j * 3)) = some (.int .i64 s.f0) ∧ w'.cell? ⟨(ad8.add (j * 3)).block, (ad8.add (j * 3)).off + 1, none⟩ = some (.int .i64 s.f1) ∧ w'.cell? ⟨(ad8.add (j * 3)).block, (ad8.add (j * 3)).off + 2, none⟩ = some (.int .i64 s.f2)) ∧ Below wr.heap.size wr w') → Below wr.heap.size wr w' from fun w' h => h.2)
        clear y0 y1 y2
        have hw1 := HW1.out
        have hjz : (j : Int) < (l.length : Int) + 1 := by omega
        go_upto_region 23 with fail
        go_cut [154] from 131 to 154 (fun s154 wx => s154 = .bool false ∧ Hid (Below wr.heap.size wr wx))
        case first =>
          refine wp_region_held_drew (S := (fun w' => (w'.cell? (ad8.add (j * 3)) = some (.int .i64 s.f0) ∧ w'.cell? ⟨(ad8.add (j * 3)).block, (ad8.add (j * 3)).off + 1, none⟩ = some (.int .i64 s.f1) ∧ w'.cell? ⟨(ad8.add (j * 3)).block, (ad8.add (j * 3)).off + 2, none⟩ = some (.int .i64 s.f2)) ∧ Below wr.heap.size wr w')) (by kernel_rfl) ?_ (fun hHeld => ?_)
          · exact HSj.out _ (Below.drew (Below.refl _ _))
          refine wpAnyH_take (i := 0) (oi := { dst := some 137, op := Go.Op.move (Go.Operand.tmp 12), type := 46, pos := "law.go:56", after := #[], guard := none }) (v := ?_) rfl (by kernel_rfl) (by kernel_rfl) (by kernel_rfl) (fun _ _ _ h => h) (Or.inl ⟨by rfl, ?_⟩) (by assumption) ?_
          rotate_left
          · intro w hSw; (try dsimp only at hSw); go_simp; (try with_reducible rfl)
          simp only [Act.put, List.setIfInBounds_toArray, List.set_cons_zero, List.set_cons_succ]
          refine wpAnyH_take (i := 1) (oi := { dst := some 138, op := Go.Op.call { callee := Go.Callee.builtin Go.Builtin.len, args := #[Go.Operand.tmp 137], argTypes := #[46] }, type := 3, pos := "law.go:56", after := #[{ on := 0, ground := Go.Ground.data }], guard := none }) (v := ?_) rfl (by kernel_rfl) (by kernel_rfl) (by kernel_rfl) (fun _ _ _ h => h) (Or.inl ⟨by rfl, ?_⟩) (by assumption) ?_
          rotate_left
          · intro w hSw; (try dsimp only at hSw); go_simp; (try with_reducible rfl)
          simp only [Act.put, List.setIfInBounds_toArray, List.set_cons_zero, List.set_cons_succ]
          refine wpAnyH_take (i := 2) (oi := { dst := some 139, op := Go.Op.move (Go.Operand.tmp 0), type := 39, pos := "law.go:56", after := #[], guard := none }) (v := ?_) rfl (by kernel_rfl) (by kernel_rfl) (by kernel_rfl) (fun _ _ _ h => h) (Or.inl ⟨by rfl, ?_⟩) (by assumption) ?_
          rotate_left
          · intro w hSw; (try dsimp only at hSw); go_simp; (try with_reducible rfl)
          simp only [Act.put, List.setIfInBounds_toArray, List.set_cons_zero, List.set_cons_succ]
          refine wpAnyH_take (i := 3) (oi := { dst := some 140, op := Go.Op.call { callee := Go.Callee.builtin Go.Builtin.len, args := #[Go.Operand.tmp 139], argTypes := #[39] }, type := 3, pos := "law.go:56", after := #[{ on := 2, ground := Go.Ground.data }], guard := none }) (v := ?_) rfl (by kernel_rfl) (by kernel_rfl) (by kernel_rfl) (fun _ _ _ h => h) (Or.inl ⟨by rfl, ?_⟩) (by assumption) ?_
          rotate_left
          · intro w hSw; (try dsimp only at hSw); go_simp; (try with_reducible rfl)
          simp only [Act.put, List.setIfInBounds_toArray, List.set_cons_zero, List.set_cons_succ]
          refine wpAnyH_take (i := 4) (oi := { dst := some 141, op := Go.Op.binOp Go.BinOp.add 3 (Go.Operand.tmp 140) (Go.Operand.const (Go.Value.int Go.IntKind.i64 1)) 3, type := 3, pos := "law.go:56", after := #[{ on := 3, ground := Go.Ground.data }], guard := none }) (v := ?_) rfl (by kernel_rfl) (by kernel_rfl) (by kernel_rfl) (fun _ _ _ h => h) (Or.inl ⟨by rfl, ?_⟩) (by assumption) ?_
          rotate_left
          · intro w hSw; (try dsimp only at hSw); go_simp; (try with_reducible rfl)
          simp only [Act.put, List.setIfInBounds_toArray, List.set_cons_zero, List.set_cons_succ]
          refine wpAnyH_take (i := 5) (oi := { dst := some 142, op := Go.Op.binOp Go.BinOp.neq 3 (Go.Operand.tmp 138) (Go.Operand.tmp 141) 3, type := 4, pos := "law.go:56", after := #[{ on := 1, ground := Go.Ground.data }, { on := 4, ground := Go.Ground.data }], guard := none }) (v := ?_) rfl (by kernel_rfl) (by kernel_rfl) (by kernel_rfl) (fun _ _ _ h => h) (Or.inl ⟨by rfl, ?_⟩) (by assumption) ?_
          rotate_left
          · intro w hSw; (try dsimp only at hSw); go_simp; (try with_reducible rfl)
          simp only [Act.put, List.setIfInBounds_toArray, List.set_cons_zero, List.set_cons_succ]
          refine wpAnyH_take (i := 6) (oi := { dst := some 143, op := Go.Op.move (Go.Operand.tmp 142), type := 4, pos := "law.go:56", after := #[{ on := 5, ground := Go.Ground.data }], guard := none }) (v := ?_) rfl (by kernel_rfl) (by kernel_rfl) (by kernel_rfl) (fun _ _ _ h => h) (Or.inl ⟨by rfl, ?_⟩) (by assumption) ?_
          rotate_left
          · intro w hSw; (try dsimp only at hSw); go_simp; (try with_reducible rfl)
          simp only [Act.put, List.setIfInBounds_toArray, List.set_cons_zero, List.set_cons_succ]
          refine wpAnyH_take (i := 7) (oi := { dst := some 144, op := Go.Op.move (Go.Operand.tmp 12), type := 46, pos := "law.go:56", after := #[{ on := 6, ground := Go.Ground.guard }], guard := some (6, false) }) (v := ?_) rfl (by kernel_rfl) (by kernel_rfl) (by kernel_rfl) (fun _ _ _ h => h) (Or.inl ⟨by rfl, ?_⟩) (by assumption) ?_
          rotate_left
          · intro w hSw; (try dsimp only at hSw); go_simp; (try with_reducible rfl)
          simp only [Act.put, List.setIfInBounds_toArray, List.set_cons_zero, List.set_cons_succ]
          refine wpAnyH_take (i := 8) (oi := { dst := some 145, op := Go.Op.move (Go.Operand.tmp 15), type := 3, pos := "law.go:56", after := #[{ on := 6, ground := Go.Ground.guard }], guard := some (6, false) }) (v := ?_) rfl (by kernel_rfl) (by kernel_rfl) (by kernel_rfl) (fun _ _ _ h => h) (Or.inl ⟨by rfl, ?_⟩) (by assumption) ?_
          rotate_left
          · intro w hSw; (try dsimp only at hSw); go_simp; (try with_reducible rfl)
          simp only [Act.put, List.setIfInBounds_toArray, List.set_cons_zero, List.set_cons_succ]
          refine wpAnyH_take (i := 9) (oi := { dst := some 146, op := Go.Op.indexAddr 46 (Go.Operand.tmp 144) (Go.Operand.tmp 145), type := 0, pos := "law.go:56", after := #[{ on := 7, ground := Go.Ground.data }, { on := 8, ground := Go.Ground.data }, { on := 6, ground := Go.Ground.guard }], guard := some (6, false) }) (v := ?_) rfl (by kernel_rfl) (by kernel_rfl) (by kernel_rfl) (fun _ _ _ h => h) (Or.inl ⟨by rfl, ?_⟩) (by assumption) ?_
          rotate_left
          · intro w hSw; (try dsimp only at hSw); go_simp; (try with_reducible rfl)
          simp only [Act.put, List.setIfInBounds_toArray, List.set_cons_zero, List.set_cons_succ]
          refine wpAnyH_take (i := 10) (oi := { dst := some 147, op := Go.Op.load 42 (Go.Operand.tmp 146), type := 42, pos := "law.go:56", after := #[{ on := 9, ground := Go.Ground.data }, { on := 6, ground := Go.Ground.guard }], guard := some (6, false) }) (v := ?_) rfl (by kernel_rfl) (by kernel_rfl) (by kernel_rfl) (fun _ _ _ h => h) (Or.inl ⟨by rfl, ?_⟩) (by assumption) ?_
          rotate_left
          · intro w hSw; (try dsimp only at hSw); go_simp; (try with_reducible rfl)
          simp only [Act.put, List.setIfInBounds_toArray, List.set_cons_zero, List.set_cons_succ]
          refine wpAnyH_take (i := 11) (oi := { dst := some 148, op := Go.Op.move (Go.Operand.tmp 0), type := 39, pos := "law.go:56", after := #[{ on := 6, ground := Go.Ground.guard }], guard := some (6, false) }) (v := ?_) rfl (by kernel_rfl) (by kernel_rfl) (by kernel_rfl) (fun _ _ _ h => h) (Or.inl ⟨by rfl, ?_⟩) (by assumption) ?_
          rotate_left
          · intro w hSw; (try dsimp only at hSw); go_simp; (try with_reducible rfl)
          simp only [Act.put, List.setIfInBounds_toArray, List.set_cons_zero, List.set_cons_succ]
          refine wpAnyH_take (i := 13) (oi := { dst := some 150, op := Go.Op.move (Go.Operand.tmp 15), type := 3, pos := "law.go:56", after := #[{ on := 6, ground := Go.Ground.guard }], guard := some (6, false) }) (v := ?_) rfl (by kernel_rfl) (by kernel_rfl) (by kernel_rfl) (fun _ _ _ h => h) (Or.inl ⟨by rfl, ?_⟩) (by assumption) ?_
          rotate_left
          · intro w hSw; (try dsimp only at hSw); go_simp; (try with_reducible rfl)
          simp only [Act.put, List.setIfInBounds_toArray, List.set_cons_zero, List.set_cons_succ]
          refine wpAnyH_ready (rs := [12]) (by kernel_rfl) (by simp) ?_
          refine AllReadyH.cons (o := { dst := some 149, op := Go.Op.call { callee := Go.Callee.value (Go.Operand.func 24), args := #[Go.Operand.tmp 148], argTypes := #[39] }, type := 46, pos := "law.go:56", after := #[{ on := 11, ground := Go.Ground.data }, { on := 6, ground := Go.Ground.chain }, { on := 6, ground := Go.Ground.guard }], guard := some (6, false) }) rfl (fun K hK => ?_) AllReadyH.nil
          go_simp
          (go_at_call 24; (with_reducible refine (of_call A cp l _ (HRl.out _ (bstep0 (bstep0 HA9.out.below HBx.out) (HPj.out _ (by assumption)))) (by omega)).mono ?_); rintro e wn ⟨v4, rfl, hv, hb⟩; rw [← HL.out] at hv; obtain ⟨g4, cap4, rfl, z0, z1, z2⟩ := HCell.out _ _ _ _ hv; rw [HLl.out]; have HBN := Lib.hid (bstep0 (HPj.out _ (by assumption)) hb); clear hb hv)
          go_wp2_with fail
          refine hK.out _ _ (HSj.out _ HBN.out) (fun _ => wpAnyH_switch (S' := (fun w' => (w'.cell? ⟨g4, j * 3, none⟩ = some (.int .i64 s.f0) ∧ w'.cell? ⟨g4, j * 3 + 1, none⟩ = some (.int .i64 s.f1) ∧ w'.cell? ⟨g4, j * 3 + 2, none⟩ = some (.int .i64 s.f2)) ∧ Below wr.heap.size wr w')) (fun w h => HSj.out w h.2) _ _ _ _ ?_)
          have hHeld2 : (fun w' => (w'.cell? ⟨g4, j * 3, none⟩ = some (.int .i64 s.f0) ∧ w'.cell? ⟨g4, j * 3 + 1, none⟩ = some (.int .i64 s.f1) ∧ w'.cell? ⟨g4, j * 3 + 2, none⟩ = some (.int .i64 s.f2)) ∧ Below wr.heap.size wr w') wn := ⟨⟨z0, z1, z2⟩, HBN.out⟩
          clear hK K
          try simp only [Act.put, List.setIfInBounds_toArray, List.set_cons_zero, List.set_cons_succ]
          refine wpAnyH_take (i := 14) (oi := { dst := some 151, op := Go.Op.indexAddr 46 (Go.Operand.tmp 149) (Go.Operand.tmp 150), type := 0, pos := "law.go:56", after := #[{ on := 12, ground := Go.Ground.data }, { on := 13, ground := Go.Ground.data }, { on := 6, ground := Go.Ground.guard }], guard := some (6, false) }) (v := ?_) rfl (by kernel_rfl) (by kernel_rfl) (by kernel_rfl) (fun _ _ _ h => h) (Or.inl ⟨by rfl, ?_⟩) (by assumption) ?_
          rotate_left
          · intro w hSw; (try dsimp only at hSw); go_simp; (try with_reducible rfl)
          simp only [Act.put, List.setIfInBounds_toArray, List.set_cons_zero, List.set_cons_succ]
          refine wpAnyH_take (i := 15) (oi := { dst := some 152, op := Go.Op.load 42 (Go.Operand.tmp 151), type := 42, pos := "law.go:56", after := #[{ on := 14, ground := Go.Ground.data }, { on := 6, ground := Go.Ground.guard }], guard := some (6, false) }) (v := ?_) rfl (by kernel_rfl) (by kernel_rfl) (by kernel_rfl) (fun _ _ _ h => h) (Or.inl ⟨by rfl, ?_⟩) (by assumption) ?_
          rotate_left
          · intro w hSw; (try dsimp only at hSw); go_simp; (try with_reducible rfl)
          simp only [Act.put, List.setIfInBounds_toArray, List.set_cons_zero, List.set_cons_succ]
          refine wpAnyH_take (i := 16) (oi := { dst := some 153, op := Go.Op.binOp Go.BinOp.neq 42 (Go.Operand.tmp 147) (Go.Operand.tmp 152) 42, type := 4, pos := "law.go:56", after := #[{ on := 10, ground := Go.Ground.data }, { on := 15, ground := Go.Ground.data }, { on := 6, ground := Go.Ground.guard }], guard := some (6, false) }) (v := ?_) rfl (by kernel_rfl) (by kernel_rfl) (by kernel_rfl) (fun _ _ _ h => h) (Or.inl ⟨by rfl, ?_⟩) (by assumption) ?_
          rotate_left
          · intro w hSw; (try dsimp only at hSw); go_simp; (try with_reducible rfl)
          simp only [Act.put, List.setIfInBounds_toArray, List.set_cons_zero, List.set_cons_succ]
          refine wpAnyH_take (i := 17) (oi := { dst := some 154, op := Go.Op.pick (Go.Operand.tmp 143) (Go.Operand.const (Go.Value.bool true)) (Go.Operand.tmp 153), type := 4, pos := "law.go:56", after := #[{ on := 6, ground := Go.Ground.data }, { on := 16, ground := Go.Ground.data }], guard := none }) (v := ?_) rfl (by kernel_rfl) (by kernel_rfl) (by kernel_rfl) (fun _ _ _ h => h) (Or.inl ⟨by rfl, ?_⟩) (by assumption) ?_
          rotate_left
          · intro w hSw; (try dsimp only at hSw); go_simp; (try with_reducible rfl)
          simp only [Act.put, List.setIfInBounds_toArray, List.set_cons_zero, List.set_cons_succ]
          refine wpAnyH_done (by kernel_rfl) ?_ _
          go_wp2_with fail
          go_meet
          exact ⟨rfl, Lib.hid (HPj.out _ (HSj.out _ hHeld2.2))⟩
        clear hw1
        obtain ⟨wz, rfl⟩ : ∃ x : World, x = wc := ⟨_, rfl⟩
        obtain ⟨rfl, HBz⟩ := hcut
        have hj6 : j ≤ 1000000 := by omega
        go_wp2_with fail
        go_roundg (l.length - (j + 1))
        case measure => omega
        case rel => exact ⟨j + 1, by omega, by omega, by go_num, Lib.hid (bstep0 HBx.out HBz.out)⟩
      · obtain rfl : j = l.length := by omega
        have hltb : ¬ (l.length : Int) < (l.length : Int) := by omega
        have hw1 := HW1.out
        have hjz : (l.length : Int) < (l.length : Int) + 1 := by omega
        obtain ⟨z0, z1, z2⟩ := HZ.out
        replace z0 := (HBx.out.cell (cell_old z0)).trans z0
        replace z1 := (HBx.out.cell (p := ⟨(ad8.add (l.length * 3)).block, (ad8.add (l.length * 3)).off + 1, none⟩) (cell_old z1)).trans z1
        replace z2 := (HBx.out.cell (p := ⟨(ad8.add (l.length * 3)).block, (ad8.add (l.length * 3)).off + 2, none⟩) (cell_old z2)).trans z2
        obtain ⟨_, y0, y1, y2⟩ := HK.out _ (bstep0 HA9.out.below HBx.out)
        go_wp2_with fail
        go_quiet (fail)
        go_wp2_with fail
        go_ret
        exact ⟨by simp, HB2.out.trans (((bstep0 HA9.out.below HBx.out).trans (by first | exact pw_below_drewN (Below.refl _ _) _ | exact Below.refl _ _ | exact Below.drew (Below.refl _ _))).mono HB2.out.size)⟩
theorem plays_walk (A : Option Addr) (cp : Nat) (l : List RB) (b0 b1 b2 room a z : Int) (W : World) (h : RBs W A l cp) (_ : (Lit.int .i64 b0).wf = true) (_ : (Lit.int .i64 b1).wf = true) (_ : (Lit.int .i64 b2).wf = true) (_ : (Lit.int .i64 room).wf = true) (wa : (Lit.int .i64 a).wf = true) (wz : (Lit.int .i64 z).wf = true) (tied : Tied W) :
    Calls Tryd.prog 7 #[.slice A l.length cp, .agg #[.int .i64 b0, .int .i64 b1, .int .i64 b2], .int .i64 room, .int .i64 a, .int .i64 z] W fun e w' => e = .returned (.bool true) ∧ Below W.heap.size W w' := by
  have wf : ∀ {n : Int}, (Lit.int .i64 n).wf = true → -9223372036854775808 ≤ n ∧ n ≤ 9223372036854775807 := fun h => by simpa [Lit.wf, IntKind.min, IntKind.max, IntKind.signed, IntKind.bits] using h
  by_cases hl : l.length ≤ 60
  · exact plays_short A cp l b0 b1 b2 room a z W h hl tied (wf wa).1 (wf wa).2 (wf wz).1 (wf wz).2
  · exact plays_long A cp l b0 b1 b2 room a z W h (by omega)

end Go.Proofs.YtfgbnnmaooillaaDoor
