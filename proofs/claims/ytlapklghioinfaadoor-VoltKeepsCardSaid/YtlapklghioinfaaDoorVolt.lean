/- Package volt by its contracts. -/
import Derived.Test.YtlapklghioinfaaDoorNum
import Derived.Deep.QuietTactic
import Derived.BigQuiet
namespace Go.Proofs.YtlapklghioinfaaDoor
open Go.RowKit Go.Extern.Stop Go.Stop Go.Extern

/-- 'may': a charge of 0 to 200 -/
def mayB (c : Int) : Bool := decide (0 ≤ c) && decide (c ≤ 200)
theorem volt_may (c : Int) (w : World) : Calls Tryd.prog 37 #[.int .i64 c] w fun e w' => e = .returned (.bool (mayB c)) ∧ w = w' := by
  unfold mayB
  by_cases h0 : 0 ≤ c
  · have hd : decide (0 ≤ c) = true := by simpa using h0
    go_enter Tryd.func37, Tryd.ntmps37
    go_wp2
    go_ret
    exact ⟨by simp [h0], rfl⟩
  · have hd : decide (0 ≤ c) = false := by simpa using h0
    go_enter Tryd.func37, Tryd.ntmps37
    go_wp2
    go_ret
    exact ⟨by simp, rfl⟩
/-- 'held': a sum from its least to 2^40 -/
def heldB (n least : Int) : Bool := decide (least ≤ n) && decide (n ≤ 1099511627776)
theorem volt_held (n least : Int) (w : World) : Calls Tryd.prog 39 #[.int .i64 n, .int .i64 least] w fun e w' => e = .returned (.bool (heldB n least)) ∧ w = w' := by
  unfold heldB
  by_cases h0 : least ≤ n
  · have hd : decide (least ≤ n) = true := by simpa using h0
    go_enter Tryd.func39, Tryd.ntmps39
    go_wp2
    go_ret
    exact ⟨by simp [h0], rfl⟩
  · have hd : decide (least ≤ n) = false := by simpa using h0
    go_enter Tryd.func39, Tryd.ntmps39
    go_wp2
    go_ret
    exact ⟨by simp, rfl⟩
def rightB (c s g d : Int) : Bool := mayB c && heldB s 0 && heldB g 0 && heldB d (-1099511627776)
theorem volt_right (c s g d : Int) (w : World) :
    Calls Tryd.prog 32 #[.agg #[.int .i64 c, .int .i64 s, .int .i64 g, .int .i64 d]] w fun e w' => e = .returned (.bool (rightB c s g d)) ∧ w' = w.alloc (.cells #[.int .i64 c, .int .i64 s, .int .i64 g, .int .i64 d] 41) := by
  by_cases h1 : mayB c = true
  · by_cases h2 : heldB s 0 = true
    · by_cases h3 : heldB g 0 = true
      · go_enter Tryd.func32, Tryd.ntmps32
        go_wp2_with (first | (go_at_call 37; refine (volt_may c _).mono ?_; rintro e w1 ⟨rfl, rfl⟩) | (go_at_call 39; refine (volt_held _ _ _).mono ?_; rintro e w1 ⟨rfl, rfl⟩))
        go_ret
        exact ⟨by simp [rightB, h1, h2, h3], rfl⟩
      · rw [Bool.not_eq_true] at h3
        go_enter Tryd.func32, Tryd.ntmps32
        go_wp2_with (first | (go_at_call 37; refine (volt_may c _).mono ?_; rintro e w1 ⟨rfl, rfl⟩) | (go_at_call 39; refine (volt_held _ _ _).mono ?_; rintro e w1 ⟨rfl, rfl⟩))
        go_ret
        exact ⟨by simp [rightB, h1, h2, h3], rfl⟩
    · rw [Bool.not_eq_true] at h2
      go_enter Tryd.func32, Tryd.ntmps32
      go_wp2_with (first | (go_at_call 37; refine (volt_may c _).mono ?_; rintro e w1 ⟨rfl, rfl⟩) | (go_at_call 39; refine (volt_held _ _ _).mono ?_; rintro e w1 ⟨rfl, rfl⟩))
      go_ret
      exact ⟨by simp [rightB, h1, h2], rfl⟩
  · rw [Bool.not_eq_true] at h1
    go_enter Tryd.func32, Tryd.ntmps32
    go_wp2_with (first | (go_at_call 37; refine (volt_may c _).mono ?_; rintro e w1 ⟨rfl, rfl⟩) | (go_at_call 39; refine (volt_held _ _ _).mono ?_; rintro e w1 ⟨rfl, rfl⟩))
    go_ret
    exact ⟨by simp [rightB, h1], rfl⟩

/-- nothing is too great: 'then' -/
theorem volt_then_ok (c s g d : Int) (w : World) (h : rightB c s g d = true) :
    Calls Tryd.prog 36 #[.agg #[.int .i64 c, .int .i64 s, .int .i64 g, .int .i64 d]] w fun e w' => ∃ v, e = .returned (.tuple #[.agg #[.int .i64 c, .int .i64 s, .int .i64 g, .int .i64 d], v]) ∧ ErrR w.heap.size w' v 0 ∧ Below w.heap.size w w' := by
  go_enter Tryd.func36, Tryd.ntmps36
  go_wp2_with (go_at_call 32; refine (volt_right _ _ _ _ _).mono ?_; rintro e w1 ⟨rfl, rfl⟩)
  exact bodyPost_ret (v := .tuple #[.agg #[.int .i64 c, .int .i64 s, .int .i64 g, .int .i64 d], .nilIface]) (by simp [results, Tryd.results36, go_sem]) rfl ⟨_, rfl, ErrR.nil _ _, (((Below.refl _ _).alloc (Nat.le_refl _) _).alloc (by simp) _).alloc (by simp; omega) _⟩
theorem volt_then_no (c s g d : Int) (w : World) (h : rightB c s g d = false) :
    Calls Tryd.prog 36 #[.agg #[.int .i64 c, .int .i64 s, .int .i64 g, .int .i64 d]] w fun e w' => ∃ v, e = .returned (.tuple #[.agg #[.int .i64 0, .int .i64 0, .int .i64 0, .int .i64 0], v]) ∧ ErrR w.heap.size w' v 8 ∧ Below w.heap.size w w' := by
  go_enter Tryd.func36, Tryd.ntmps36
  go_wp2_with (first | (go_at_call 32; refine (volt_right _ _ _ _ _).mono ?_; rintro e w1 ⟨rfl, rfl⟩) | (go_at_call 22; refine (Tag_num _ _ _).mono ?_; rintro e w1 ⟨t, v, rfl, hr, hb⟩; obtain ⟨hc, hf⟩ := bcell hb; have hz : w.heap.size + 3 ≤ w1.heap.size := (by have := hb.size; simp at this; omega); have Hr := Lib.hid (hr.mono (B' := w.heap.size + 3) (by simp)); have HB := Lib.hid (Below.trans (a := w) (B := w.heap.size) (by repeat (first | exact Below.refl _ _ | refine Below.alloc ?_ (by first | omega | (simp; done) | (simp; omega)) _)) (hb.mono (by simp; try omega))); clear hr hb))
  exact bodyPost_ret (v := .tuple #[.agg #[.int .i64 0, .int .i64 0, .int .i64 0, .int .i64 0], .iface t v]) (by simp [results, Tryd.results36, go_sem, hc]) rfl ⟨_, rfl, ErrR.mono (B := w.heap.size + 3) (by repeat (first | exact Hr.out | refine ErrR.setCell ?_ (by simp) _)) (by omega), (by repeat (first | exact Below.refl _ _ | exact HB.out | refine Below.setCell ?_ (by first | omega | (simp; done) | (simp; omega)) _ | refine Below.alloc ?_ (by first | omega | (simp; done) | (simp; omega)) _))⟩

/-! ### what is done -/
/-- an account and an error's number -/
structure R5 where
  code : Int
  c : Int
  s : Int
  g : Int
  d : Int
  deriving DecidableEq
/-- an account, if it is right -/
def finR (c s g d : Int) : R5 := if rightB c s g d = true then ⟨0, c, s, g, d⟩ else ⟨8, 0, 0, 0, 0⟩
theorem volt_then (c s g d : Int) (w : World) :
    Calls Tryd.prog 36 #[.agg #[.int .i64 c, .int .i64 s, .int .i64 g, .int .i64 d]] w fun e w' => ∃ v, e = .returned (.tuple #[.agg #[.int .i64 (finR c s g d).c, .int .i64 (finR c s g d).s, .int .i64 (finR c s g d).g, .int .i64 (finR c s g d).d], v]) ∧ ErrR w.heap.size w' v (finR c s g d).code ∧ Below w.heap.size w w' := by
  by_cases h : rightB c s g d = true
  · rw [show finR c s g d = ⟨0, c, s, g, d⟩ from if_pos h]; exact volt_then_ok c s g d w h
  · rw [show finR c s g d = ⟨8, 0, 0, 0, 0⟩ from if_neg h]; exact volt_then_no c s g d w (Bool.not_eq_true _ ▸ h)
theorem mayB_iff (c : Int) : mayB c = true ↔ 0 ≤ c ∧ c ≤ 200 := by simp [mayB]
theorem heldB_iff (n l : Int) : heldB n l = true ↔ l ≤ n ∧ n ≤ 1099511627776 := by simp [heldB]
theorem rightB_iff (c s g d : Int) : rightB c s g d = true ↔ (0 ≤ c ∧ c ≤ 200) ∧ (0 ≤ s ∧ s ≤ 1099511627776) ∧ (0 ≤ g ∧ g ≤ 1099511627776) ∧ (-1099511627776 ≤ d ∧ d ≤ 1099511627776) := by
  simp [rightB, mayB_iff, heldB_iff, and_assoc]

/-! #### Spend -/
theorem spend_arg (c s g d n : Int) (w : World) (h : rightB c s g d = false) :
    Calls Tryd.prog 24 #[.agg #[.int .i64 c, .int .i64 s, .int .i64 g, .int .i64 d], .int .i64 n] w fun e w' => ∃ v, e = .returned (.tuple #[.agg #[.int .i64 0, .int .i64 0, .int .i64 0, .int .i64 0], v]) ∧ ErrR w.heap.size w' v 1 ∧ Below w.heap.size w w' := by
  go_enter Tryd.func24, Tryd.ntmps24
  go_wp2_with (first | (go_at_call 32; refine (volt_right _ _ _ _ _).mono ?_; rintro e w1 ⟨rfl, rfl⟩) | (go_at_call 22; refine (Tag_num _ _ _).mono ?_; rintro e w1 ⟨t, v, rfl, hr, hb⟩; obtain ⟨hc, hf⟩ := bcell hb; have hz : w.heap.size + 3 ≤ w1.heap.size := (by have := hb.size; simp at this; omega); have Hr := Lib.hid (hr.mono (B' := w.heap.size + 3) (by simp)); have HB := Lib.hid (Below.trans (a := w) (B := w.heap.size) (by repeat (first | exact Below.refl _ _ | refine Below.setCell ?_ (by first | omega | (simp; done) | (simp; omega)) _ | refine Below.alloc ?_ (by first | omega | (simp; done) | (simp; omega)) _)) (hb.mono (by simp; try omega))); clear hr hb))
  exact bodyPost_ret (v := .tuple #[.agg #[.int .i64 0, .int .i64 0, .int .i64 0, .int .i64 0], .iface t v]) (by simp [results, Tryd.results24, go_sem, hc]) rfl ⟨_, rfl, ErrR.mono (B := w.heap.size + 3) (by repeat (first | exact Hr.out | refine ErrR.setCell ?_ (by simp) _)) (by omega), (by repeat (first | exact Below.refl _ _ | exact HB.out | refine Below.setCell ?_ (by first | omega | (simp; done) | (simp; omega)) _ | refine Below.alloc ?_ (by first | omega | (simp; done) | (simp; omega)) _))⟩
theorem spend_neg (c s g d n : Int) (w : World) (h : rightB c s g d = true) (hn : n < 0) :
    Calls Tryd.prog 24 #[.agg #[.int .i64 c, .int .i64 s, .int .i64 g, .int .i64 d], .int .i64 n] w fun e w' => ∃ v, e = .returned (.tuple #[.agg #[.int .i64 0, .int .i64 0, .int .i64 0, .int .i64 0], v]) ∧ ErrR w.heap.size w' v 1 ∧ Below w.heap.size w w' := by
  have hn' : ¬ 0 ≤ n := by omega
  go_enter Tryd.func24, Tryd.ntmps24
  go_wp2_with (first | (go_at_call 32; refine (volt_right _ _ _ _ _).mono ?_; rintro e w1 ⟨rfl, rfl⟩) | (go_at_call 22; refine (Tag_num _ _ _).mono ?_; rintro e w1 ⟨t, v, rfl, hr, hb⟩; obtain ⟨hc, hf⟩ := bcell hb; have hz : w.heap.size + 3 ≤ w1.heap.size := (by have := hb.size; simp at this; omega); have Hr := Lib.hid (hr.mono (B' := w.heap.size + 3) (by simp)); have HB := Lib.hid (Below.trans (a := w) (B := w.heap.size) (by repeat (first | exact Below.refl _ _ | refine Below.setCell ?_ (by first | omega | (simp; done) | (simp; omega)) _ | refine Below.alloc ?_ (by first | omega | (simp; done) | (simp; omega)) _)) (hb.mono (by simp; try omega))); clear hr hb))
  exact bodyPost_ret (v := .tuple #[.agg #[.int .i64 0, .int .i64 0, .int .i64 0, .int .i64 0], .iface t v]) (by simp [results, Tryd.results24, go_sem, hc]) rfl ⟨_, rfl, ErrR.mono (B := w.heap.size + 3) (by repeat (first | exact Hr.out | refine ErrR.setCell ?_ (by simp) _)) (by omega), (by repeat (first | exact Below.refl _ _ | exact HB.out | refine Below.setCell ?_ (by first | omega | (simp; done) | (simp; omega)) _ | refine Below.alloc ?_ (by first | omega | (simp; done) | (simp; omega)) _))⟩
theorem spend_low (c s g d n : Int) (w : World) (h : rightB c s g d = true) (h0 : 0 ≤ n) (hn : c < n) :
    Calls Tryd.prog 24 #[.agg #[.int .i64 c, .int .i64 s, .int .i64 g, .int .i64 d], .int .i64 n] w fun e w' => ∃ v, e = .returned (.tuple #[.agg #[.int .i64 0, .int .i64 0, .int .i64 0, .int .i64 0], v]) ∧ ErrR w.heap.size w' v 11 ∧ Below w.heap.size w w' := by
  go_enter Tryd.func24, Tryd.ntmps24
  go_wp2_with (first | (go_at_call 32; refine (volt_right _ _ _ _ _).mono ?_; rintro e w1 ⟨rfl, rfl⟩) | (go_at_call 22; refine (Tag_num _ _ _).mono ?_; rintro e w1 ⟨t, v, rfl, hr, hb⟩; obtain ⟨hc, hf⟩ := bcell hb; have hz : w.heap.size + 3 ≤ w1.heap.size := (by have := hb.size; simp at this; omega); have Hr := Lib.hid (hr.mono (B' := w.heap.size + 3) (by simp)); have HB := Lib.hid (Below.trans (a := w) (B := w.heap.size) (by repeat (first | exact Below.refl _ _ | refine Below.setCell ?_ (by first | omega | (simp; done) | (simp; omega)) _ | refine Below.alloc ?_ (by first | omega | (simp; done) | (simp; omega)) _)) (hb.mono (by simp; try omega))); clear hr hb))
  exact bodyPost_ret (v := .tuple #[.agg #[.int .i64 0, .int .i64 0, .int .i64 0, .int .i64 0], .iface t v]) (by simp [results, Tryd.results24, go_sem, hc]) rfl ⟨_, rfl, ErrR.mono (B := w.heap.size + 3) (by repeat (first | exact Hr.out | refine ErrR.setCell ?_ (by simp) _)) (by omega), (by repeat (first | exact Below.refl _ _ | exact HB.out | refine Below.setCell ?_ (by first | omega | (simp; done) | (simp; omega)) _ | refine Below.alloc ?_ (by first | omega | (simp; done) | (simp; omega)) _))⟩
theorem spend_ok (c s g d n : Int) (w : World) (h : rightB c s g d = true) (h0 : 0 ≤ n) (hn : n ≤ c) :
    Calls Tryd.prog 24 #[.agg #[.int .i64 c, .int .i64 s, .int .i64 g, .int .i64 d], .int .i64 n] w fun e w' => ∃ v, e = .returned (.tuple #[.agg #[.int .i64 (finR (c - n) (s + n) g d).c, .int .i64 (finR (c - n) (s + n) g d).s, .int .i64 (finR (c - n) (s + n) g d).g, .int .i64 (finR (c - n) (s + n) g d).d], v]) ∧ ErrR w.heap.size w' v (finR (c - n) (s + n) g d).code ∧ Below w.heap.size w w' := by
  obtain ⟨⟨p0, p1⟩, ⟨p2, p3⟩, ⟨p4, p5⟩, p6, p7⟩ := (rightB_iff c s g d).1 h
  have HT := Lib.hid (volt_then (c - n) (s + n) g d)
  generalize finR (c - n) (s + n) g d = r at HT ⊢
  go_enter Tryd.func24, Tryd.ntmps24
  go_wp2_with (first | (go_at_call 32; refine (volt_right _ _ _ _ _).mono ?_; rintro e w1 ⟨rfl, rfl⟩))
  refine (HT.out _).mono ?_
  rintro e w1 ⟨v, rfl, hr, hb⟩
  obtain ⟨hc, hf⟩ := bcell hb; have hz : w.heap.size + 2 ≤ w1.heap.size := (by have := hb.size; simp at this; omega); have Hr := Lib.hid (hr.mono (B' := w.heap.size + 2) (by simp)); have HB := Lib.hid (Below.trans (a := w) (B := w.heap.size) (by repeat (first | exact Below.refl _ _ | refine Below.setCell ?_ (by first | omega | (simp; done) | (simp; omega)) _ | refine Below.alloc ?_ (by first | omega | (simp; done) | (simp; omega)) _)) (hb.mono (by simp; try omega))); clear hr hb
  go_wp2
  exact bodyPost_ret (v := .tuple #[.agg #[.int .i64 r.c, .int .i64 r.s, .int .i64 r.g, .int .i64 r.d], v]) (by simp [results, Tryd.results24, go_sem, hc]) rfl ⟨_, rfl, ErrR.mono (B := w.heap.size + 2) (by repeat (first | exact Hr.out | refine ErrR.setCell ?_ (by simp) _)) (by omega), (by repeat (first | exact Below.refl _ _ | exact HB.out | refine Below.setCell ?_ (by first | omega | (simp; done) | (simp; omega)) _ | refine Below.alloc ?_ (by first | omega | (simp; done) | (simp; omega)) _))⟩
def spendR (c s g d n : Int) : R5 := if rightB c s g d = true ∧ 0 ≤ n then (if c < n then ⟨11, 0, 0, 0, 0⟩ else finR (c - n) (s + n) g d) else ⟨1, 0, 0, 0, 0⟩
def gainR (c s g d n : Int) : R5 := if rightB c s g d = true ∧ 0 ≤ n then finR (c + min n (200 - c)) s (g + min n (200 - c)) d else ⟨1, 0, 0, 0, 0⟩
def setR (c s g d k : Int) : R5 := if rightB c s g d = true ∧ mayB k = true then finR k s g (d + (k - c)) else ⟨1, 0, 0, 0, 0⟩

/-! #### Gain -/
theorem gain_arg (c s g d n : Int) (w : World) (h : rightB c s g d = false) :
    Calls Tryd.prog 25 #[.agg #[.int .i64 c, .int .i64 s, .int .i64 g, .int .i64 d], .int .i64 n] w fun e w' => ∃ v, e = .returned (.tuple #[.agg #[.int .i64 0, .int .i64 0, .int .i64 0, .int .i64 0], v]) ∧ ErrR w.heap.size w' v 1 ∧ Below w.heap.size w w' := by
  go_enter Tryd.func25, Tryd.ntmps25
  go_wp2_with (first | (go_at_call 32; refine (volt_right _ _ _ _ _).mono ?_; rintro e w1 ⟨rfl, rfl⟩) | (go_at_call 22; refine (Tag_num _ _ _).mono ?_; rintro e w1 ⟨t, v, rfl, hr, hb⟩; obtain ⟨hc, hf⟩ := bcell hb; have hz : w.heap.size + 3 ≤ w1.heap.size := (by have := hb.size; simp at this; omega); have Hr := Lib.hid (hr.mono (B' := w.heap.size + 3) (by simp)); have HB := Lib.hid (Below.trans (a := w) (B := w.heap.size) (by repeat (first | exact Below.refl _ _ | refine Below.setCell ?_ (by first | omega | (simp; done) | (simp; omega)) _ | refine Below.alloc ?_ (by first | omega | (simp; done) | (simp; omega)) _)) (hb.mono (by simp; try omega))); clear hr hb))
  exact bodyPost_ret (v := .tuple #[.agg #[.int .i64 0, .int .i64 0, .int .i64 0, .int .i64 0], .iface t v]) (by simp [results, Tryd.results25, go_sem, hc]) rfl ⟨_, rfl, ErrR.mono (B := w.heap.size + 3) (by repeat (first | exact Hr.out | refine ErrR.setCell ?_ (by simp) _)) (by omega), (by repeat (first | exact Below.refl _ _ | exact HB.out | refine Below.setCell ?_ (by first | omega | (simp; done) | (simp; omega)) _ | refine Below.alloc ?_ (by first | omega | (simp; done) | (simp; omega)) _))⟩
theorem gain_neg (c s g d n : Int) (w : World) (h : rightB c s g d = true) (hn : n < 0) :
    Calls Tryd.prog 25 #[.agg #[.int .i64 c, .int .i64 s, .int .i64 g, .int .i64 d], .int .i64 n] w fun e w' => ∃ v, e = .returned (.tuple #[.agg #[.int .i64 0, .int .i64 0, .int .i64 0, .int .i64 0], v]) ∧ ErrR w.heap.size w' v 1 ∧ Below w.heap.size w w' := by
  have hn' : ¬ 0 ≤ n := by omega
  go_enter Tryd.func25, Tryd.ntmps25
  go_wp2_with (first | (go_at_call 32; refine (volt_right _ _ _ _ _).mono ?_; rintro e w1 ⟨rfl, rfl⟩) | (go_at_call 22; refine (Tag_num _ _ _).mono ?_; rintro e w1 ⟨t, v, rfl, hr, hb⟩; obtain ⟨hc, hf⟩ := bcell hb; have hz : w.heap.size + 3 ≤ w1.heap.size := (by have := hb.size; simp at this; omega); have Hr := Lib.hid (hr.mono (B' := w.heap.size + 3) (by simp)); have HB := Lib.hid (Below.trans (a := w) (B := w.heap.size) (by repeat (first | exact Below.refl _ _ | refine Below.setCell ?_ (by first | omega | (simp; done) | (simp; omega)) _ | refine Below.alloc ?_ (by first | omega | (simp; done) | (simp; omega)) _)) (hb.mono (by simp; try omega))); clear hr hb))
  exact bodyPost_ret (v := .tuple #[.agg #[.int .i64 0, .int .i64 0, .int .i64 0, .int .i64 0], .iface t v]) (by simp [results, Tryd.results25, go_sem, hc]) rfl ⟨_, rfl, ErrR.mono (B := w.heap.size + 3) (by repeat (first | exact Hr.out | refine ErrR.setCell ?_ (by simp) _)) (by omega), (by repeat (first | exact Below.refl _ _ | exact HB.out | refine Below.setCell ?_ (by first | omega | (simp; done) | (simp; omega)) _ | refine Below.alloc ?_ (by first | omega | (simp; done) | (simp; omega)) _))⟩
theorem gain_some (c s g d n : Int) (w : World) (h : rightB c s g d = true) (h0 : 0 ≤ n) (hn : n ≤ 200 - c) :
    Calls Tryd.prog 25 #[.agg #[.int .i64 c, .int .i64 s, .int .i64 g, .int .i64 d], .int .i64 n] w fun e w' => ∃ v, e = .returned (.tuple #[.agg #[.int .i64 (finR (c + n) s (g + n) d).c, .int .i64 (finR (c + n) s (g + n) d).s, .int .i64 (finR (c + n) s (g + n) d).g, .int .i64 (finR (c + n) s (g + n) d).d], v]) ∧ ErrR w.heap.size w' v (finR (c + n) s (g + n) d).code ∧ Below w.heap.size w w' := by
  obtain ⟨⟨p0, p1⟩, ⟨p2, p3⟩, ⟨p4, p5⟩, p6, p7⟩ := (rightB_iff c s g d).1 h
  have HT := Lib.hid (volt_then (c + n) s (g + n) d)
  generalize finR (c + n) s (g + n) d = r at HT ⊢
  go_enter Tryd.func25, Tryd.ntmps25
  go_wp2_with (first | (go_at_call 32; refine (volt_right _ _ _ _ _).mono ?_; rintro e w1 ⟨rfl, rfl⟩))
  refine (HT.out _).mono ?_
  rintro e w1 ⟨v, rfl, hr, hb⟩
  obtain ⟨hc, hf⟩ := bcell hb; have hz : w.heap.size + 2 ≤ w1.heap.size := (by have := hb.size; simp at this; omega); have Hr := Lib.hid (hr.mono (B' := w.heap.size + 2) (by simp)); have HB := Lib.hid (Below.trans (a := w) (B := w.heap.size) (by repeat (first | exact Below.refl _ _ | refine Below.setCell ?_ (by first | omega | (simp; done) | (simp; omega)) _ | refine Below.alloc ?_ (by first | omega | (simp; done) | (simp; omega)) _)) (hb.mono (by simp; try omega))); clear hr hb
  go_wp2
  exact bodyPost_ret (v := .tuple #[.agg #[.int .i64 r.c, .int .i64 r.s, .int .i64 r.g, .int .i64 r.d], v]) (by simp [results, Tryd.results25, go_sem, hc]) rfl ⟨_, rfl, ErrR.mono (B := w.heap.size + 2) (by repeat (first | exact Hr.out | refine ErrR.setCell ?_ (by simp) _)) (by omega), (by repeat (first | exact Below.refl _ _ | exact HB.out | refine Below.setCell ?_ (by first | omega | (simp; done) | (simp; omega)) _ | refine Below.alloc ?_ (by first | omega | (simp; done) | (simp; omega)) _))⟩
theorem gain_full (c s g d n : Int) (w : World) (h : rightB c s g d = true) (h0 : 0 ≤ n) (hn : 200 - c < n) :
    Calls Tryd.prog 25 #[.agg #[.int .i64 c, .int .i64 s, .int .i64 g, .int .i64 d], .int .i64 n] w fun e w' => ∃ v, e = .returned (.tuple #[.agg #[.int .i64 (finR (c + (200 - c)) s (g + (200 - c)) d).c, .int .i64 (finR (c + (200 - c)) s (g + (200 - c)) d).s, .int .i64 (finR (c + (200 - c)) s (g + (200 - c)) d).g, .int .i64 (finR (c + (200 - c)) s (g + (200 - c)) d).d], v]) ∧ ErrR w.heap.size w' v (finR (c + (200 - c)) s (g + (200 - c)) d).code ∧ Below w.heap.size w w' := by
  obtain ⟨⟨p0, p1⟩, ⟨p2, p3⟩, ⟨p4, p5⟩, p6, p7⟩ := (rightB_iff c s g d).1 h
  have HT := Lib.hid (volt_then (c + (200 - c)) s (g + (200 - c)) d)
  generalize finR (c + (200 - c)) s (g + (200 - c)) d = r at HT ⊢
  go_enter Tryd.func25, Tryd.ntmps25
  go_wp2_with (first | (go_at_call 32; refine (volt_right _ _ _ _ _).mono ?_; rintro e w1 ⟨rfl, rfl⟩))
  refine (HT.out _).mono ?_
  rintro e w1 ⟨v, rfl, hr, hb⟩
  obtain ⟨hc, hf⟩ := bcell hb; have hz : w.heap.size + 2 ≤ w1.heap.size := (by have := hb.size; simp at this; omega); have Hr := Lib.hid (hr.mono (B' := w.heap.size + 2) (by simp)); have HB := Lib.hid (Below.trans (a := w) (B := w.heap.size) (by repeat (first | exact Below.refl _ _ | refine Below.setCell ?_ (by first | omega | (simp; done) | (simp; omega)) _ | refine Below.alloc ?_ (by first | omega | (simp; done) | (simp; omega)) _)) (hb.mono (by simp; try omega))); clear hr hb
  go_wp2
  exact bodyPost_ret (v := .tuple #[.agg #[.int .i64 r.c, .int .i64 r.s, .int .i64 r.g, .int .i64 r.d], v]) (by simp [results, Tryd.results25, go_sem, hc]) rfl ⟨_, rfl, ErrR.mono (B := w.heap.size + 2) (by repeat (first | exact Hr.out | refine ErrR.setCell ?_ (by simp) _)) (by omega), (by repeat (first | exact Below.refl _ _ | exact HB.out | refine Below.setCell ?_ (by first | omega | (simp; done) | (simp; omega)) _ | refine Below.alloc ?_ (by first | omega | (simp; done) | (simp; omega)) _))⟩

/-! #### Set -/
theorem set_arg (c s g d n : Int) (w : World) (h : rightB c s g d = false) :
    Calls Tryd.prog 26 #[.agg #[.int .i64 c, .int .i64 s, .int .i64 g, .int .i64 d], .int .i64 n] w fun e w' => ∃ v, e = .returned (.tuple #[.agg #[.int .i64 0, .int .i64 0, .int .i64 0, .int .i64 0], v]) ∧ ErrR w.heap.size w' v 1 ∧ Below w.heap.size w w' := by
  go_enter Tryd.func26, Tryd.ntmps26
  go_wp2_with (first | (go_at_call 32; refine (volt_right _ _ _ _ _).mono ?_; rintro e w1 ⟨rfl, rfl⟩) | (go_at_call 37; refine (volt_may _ _).mono ?_; rintro e w1 ⟨rfl, rfl⟩) | (go_at_call 22; refine (Tag_num _ _ _).mono ?_; rintro e w1 ⟨t, v, rfl, hr, hb⟩; obtain ⟨hc, hf⟩ := bcell hb; have hz : w.heap.size + 3 ≤ w1.heap.size := (by have := hb.size; simp at this; omega); have Hr := Lib.hid (hr.mono (B' := w.heap.size + 3) (by simp)); have HB := Lib.hid (Below.trans (a := w) (B := w.heap.size) (by repeat (first | exact Below.refl _ _ | refine Below.setCell ?_ (by first | omega | (simp; done) | (simp; omega)) _ | refine Below.alloc ?_ (by first | omega | (simp; done) | (simp; omega)) _)) (hb.mono (by simp; try omega))); clear hr hb))
  exact bodyPost_ret (v := .tuple #[.agg #[.int .i64 0, .int .i64 0, .int .i64 0, .int .i64 0], .iface t v]) (by simp [results, Tryd.results26, go_sem, hc]) rfl ⟨_, rfl, ErrR.mono (B := w.heap.size + 3) (by repeat (first | exact Hr.out | refine ErrR.setCell ?_ (by simp) _)) (by omega), (by repeat (first | exact Below.refl _ _ | exact HB.out | refine Below.setCell ?_ (by first | omega | (simp; done) | (simp; omega)) _ | refine Below.alloc ?_ (by first | omega | (simp; done) | (simp; omega)) _))⟩
theorem set_may (c s g d n : Int) (w : World) (h : rightB c s g d = true) (hn : mayB n = false) :
    Calls Tryd.prog 26 #[.agg #[.int .i64 c, .int .i64 s, .int .i64 g, .int .i64 d], .int .i64 n] w fun e w' => ∃ v, e = .returned (.tuple #[.agg #[.int .i64 0, .int .i64 0, .int .i64 0, .int .i64 0], v]) ∧ ErrR w.heap.size w' v 1 ∧ Below w.heap.size w w' := by
  go_enter Tryd.func26, Tryd.ntmps26
  go_wp2_with (first | (go_at_call 32; refine (volt_right _ _ _ _ _).mono ?_; rintro e w1 ⟨rfl, rfl⟩) | (go_at_call 37; refine (volt_may _ _).mono ?_; rintro e w1 ⟨rfl, rfl⟩) | (go_at_call 22; refine (Tag_num _ _ _).mono ?_; rintro e w1 ⟨t, v, rfl, hr, hb⟩; obtain ⟨hc, hf⟩ := bcell hb; have hz : w.heap.size + 3 ≤ w1.heap.size := (by have := hb.size; simp at this; omega); have Hr := Lib.hid (hr.mono (B' := w.heap.size + 3) (by simp)); have HB := Lib.hid (Below.trans (a := w) (B := w.heap.size) (by repeat (first | exact Below.refl _ _ | refine Below.setCell ?_ (by first | omega | (simp; done) | (simp; omega)) _ | refine Below.alloc ?_ (by first | omega | (simp; done) | (simp; omega)) _)) (hb.mono (by simp; try omega))); clear hr hb))
  exact bodyPost_ret (v := .tuple #[.agg #[.int .i64 0, .int .i64 0, .int .i64 0, .int .i64 0], .iface t v]) (by simp [results, Tryd.results26, go_sem, hc]) rfl ⟨_, rfl, ErrR.mono (B := w.heap.size + 3) (by repeat (first | exact Hr.out | refine ErrR.setCell ?_ (by simp) _)) (by omega), (by repeat (first | exact Below.refl _ _ | exact HB.out | refine Below.setCell ?_ (by first | omega | (simp; done) | (simp; omega)) _ | refine Below.alloc ?_ (by first | omega | (simp; done) | (simp; omega)) _))⟩
theorem set_ok (c s g d n : Int) (w : World) (h : rightB c s g d = true) (hm : mayB n = true) :
    Calls Tryd.prog 26 #[.agg #[.int .i64 c, .int .i64 s, .int .i64 g, .int .i64 d], .int .i64 n] w fun e w' => ∃ v, e = .returned (.tuple #[.agg #[.int .i64 (finR n s g (d + (n - c))).c, .int .i64 (finR n s g (d + (n - c))).s, .int .i64 (finR n s g (d + (n - c))).g, .int .i64 (finR n s g (d + (n - c))).d], v]) ∧ ErrR w.heap.size w' v (finR n s g (d + (n - c))).code ∧ Below w.heap.size w w' := by
  obtain ⟨⟨p0, p1⟩, ⟨p2, p3⟩, ⟨p4, p5⟩, p6, p7⟩ := (rightB_iff c s g d).1 h
  obtain ⟨q0, q1⟩ := (mayB_iff n).1 hm
  have HT := Lib.hid (volt_then n s g (d + (n - c)))
  generalize finR n s g (d + (n - c)) = r at HT ⊢
  go_enter Tryd.func26, Tryd.ntmps26
  go_wp2_with (first | (go_at_call 32; refine (volt_right _ _ _ _ _).mono ?_; rintro e w1 ⟨rfl, rfl⟩) | (go_at_call 37; refine (volt_may _ _).mono ?_; rintro e w1 ⟨rfl, rfl⟩))
  refine (HT.out _).mono ?_
  rintro e w1 ⟨v, rfl, hr, hb⟩
  obtain ⟨hc, hf⟩ := bcell hb; have hz : w.heap.size + 2 ≤ w1.heap.size := (by have := hb.size; simp at this; omega); have Hr := Lib.hid (hr.mono (B' := w.heap.size + 2) (by simp)); have HB := Lib.hid (Below.trans (a := w) (B := w.heap.size) (by repeat (first | exact Below.refl _ _ | refine Below.setCell ?_ (by first | omega | (simp; done) | (simp; omega)) _ | refine Below.alloc ?_ (by first | omega | (simp; done) | (simp; omega)) _)) (hb.mono (by simp; try omega))); clear hr hb
  go_wp2
  exact bodyPost_ret (v := .tuple #[.agg #[.int .i64 r.c, .int .i64 r.s, .int .i64 r.g, .int .i64 r.d], v]) (by simp [results, Tryd.results26, go_sem, hc]) rfl ⟨_, rfl, ErrR.mono (B := w.heap.size + 2) (by repeat (first | exact Hr.out | refine ErrR.setCell ?_ (by simp) _)) (by omega), (by repeat (first | exact Below.refl _ _ | exact HB.out | refine Below.setCell ?_ (by first | omega | (simp; done) | (simp; omega)) _ | refine Below.alloc ?_ (by first | omega | (simp; done) | (simp; omega)) _))⟩
theorem volt_spend (c s g d n : Int) (w : World) :
    Calls Tryd.prog 24 #[.agg #[.int .i64 c, .int .i64 s, .int .i64 g, .int .i64 d], .int .i64 n] w fun e w' => ∃ v, e = .returned (.tuple #[.agg #[.int .i64 (spendR c s g d n).c, .int .i64 (spendR c s g d n).s, .int .i64 (spendR c s g d n).g, .int .i64 (spendR c s g d n).d], v]) ∧ ErrR w.heap.size w' v (spendR c s g d n).code ∧ Below w.heap.size w w' := by
  by_cases h : rightB c s g d = true
  · by_cases h0 : 0 ≤ n
    · by_cases hn : c < n
      · rw [show spendR c s g d n = ⟨11, 0, 0, 0, 0⟩ from by simp [spendR, h, h0, hn]]; exact spend_low c s g d n w h h0 hn
      · rw [show spendR c s g d n = finR (c - n) (s + n) g d from by simp [spendR, h, h0, hn]]; exact spend_ok c s g d n w h h0 (by omega)
    · rw [show spendR c s g d n = ⟨1, 0, 0, 0, 0⟩ from by simp [spendR, h0]]; exact spend_neg c s g d n w h (by omega)
  · rw [show spendR c s g d n = ⟨1, 0, 0, 0, 0⟩ from by simp [spendR, h]]; exact spend_arg c s g d n w (by simpa using h)
theorem volt_gain (c s g d n : Int) (w : World) :
    Calls Tryd.prog 25 #[.agg #[.int .i64 c, .int .i64 s, .int .i64 g, .int .i64 d], .int .i64 n] w fun e w' => ∃ v, e = .returned (.tuple #[.agg #[.int .i64 (gainR c s g d n).c, .int .i64 (gainR c s g d n).s, .int .i64 (gainR c s g d n).g, .int .i64 (gainR c s g d n).d], v]) ∧ ErrR w.heap.size w' v (gainR c s g d n).code ∧ Below w.heap.size w w' := by
  by_cases h : rightB c s g d = true
  · by_cases h0 : 0 ≤ n
    · by_cases hn : n ≤ 200 - c
      · rw [show gainR c s g d n = finR (c + n) s (g + n) d from by rw [gainR, if_pos ⟨h, h0⟩, show min n (200 - c) = n by omega]]; exact gain_some c s g d n w h h0 hn
      · rw [show gainR c s g d n = finR (c + (200 - c)) s (g + (200 - c)) d from by rw [gainR, if_pos ⟨h, h0⟩, show min n (200 - c) = 200 - c by omega]]; exact gain_full c s g d n w h h0 (by omega)
    · rw [show gainR c s g d n = ⟨1, 0, 0, 0, 0⟩ from by simp [gainR, h0]]; exact gain_neg c s g d n w h (by omega)
  · rw [show gainR c s g d n = ⟨1, 0, 0, 0, 0⟩ from by simp [gainR, h]]; exact gain_arg c s g d n w (by simpa using h)
theorem volt_set (c s g d n : Int) (w : World) :
    Calls Tryd.prog 26 #[.agg #[.int .i64 c, .int .i64 s, .int .i64 g, .int .i64 d], .int .i64 n] w fun e w' => ∃ v, e = .returned (.tuple #[.agg #[.int .i64 (setR c s g d n).c, .int .i64 (setR c s g d n).s, .int .i64 (setR c s g d n).g, .int .i64 (setR c s g d n).d], v]) ∧ ErrR w.heap.size w' v (setR c s g d n).code ∧ Below w.heap.size w w' := by
  by_cases h : rightB c s g d = true
  · by_cases h0 : mayB n = true
    · rw [show setR c s g d n = finR n s g (d + (n - c)) from by simp [setR, h, h0]]; exact set_ok c s g d n w h h0
    · rw [show setR c s g d n = ⟨1, 0, 0, 0, 0⟩ from by simp [setR, h0]]; exact set_may c s g d n w h (by simpa using h0)
  · rw [show setR c s g d n = ⟨1, 0, 0, 0, 0⟩ from by simp [setR, h]]; exact set_arg c s g d n w (by simpa using h)

/-- 'First': the beginning's charge -/
theorem volt_first (c s g d : Int) (w : World) :
    Calls Tryd.prog 27 #[.agg #[.int .i64 c, .int .i64 s, .int .i64 g, .int .i64 d]] w fun e w' => e = .returned (.int .i64 (wrap64 (wrap64 (wrap64 (c - g) - d) + s))) ∧ Below w.heap.size w w' := by
  go_enter Tryd.func27, Tryd.ntmps27
  go_wp2
  go_ret
  exact ⟨rfl, (Below.refl _ _).alloc (Nat.le_refl _) _⟩
end Go.Proofs.YtlapklghioinfaaDoor
