/- VoltPlays: the reference by its contracts, and the law's walk. -/
import Derived.Test.YtlapklghioinfaaDoorVoltB
namespace Go.Proofs.YtlapklghioinfaaDoor
open Go.RowKit Go.Extern.Stop Go.Stop Go.Extern
set_option linter.unusedVariables false
set_option linter.unusedSimpArgs false

/-- the reference's 'Right' -/
theorem ref_right (c s g d : Int) (w : World) :
    Calls Tryd.prog 33 #[.agg #[.int .i64 c, .int .i64 s, .int .i64 g, .int .i64 d]] w fun e w' => e = .returned (.bool (rightB c s g d)) ∧ w' = w.alloc (.cells #[.int .i64 c, .int .i64 s, .int .i64 g, .int .i64 d] 52) := by
  by_cases h1 : 0 ≤ c
  · have h1' : decide (0 ≤ c) = true := by simpa using h1
    by_cases h2 : c ≤ 200
    · have h2' : decide (c ≤ 200) = true := by simpa using h2
      by_cases h3 : 0 ≤ s
      · have h3' : decide (0 ≤ s) = true := by simpa using h3
        by_cases h4 : s ≤ 1099511627776
        · have h4' : decide (s ≤ 1099511627776) = true := by simpa using h4
          by_cases h5 : 0 ≤ g
          · have h5' : decide (0 ≤ g) = true := by simpa using h5
            by_cases h6 : g ≤ 1099511627776
            · have h6' : decide (g ≤ 1099511627776) = true := by simpa using h6
              by_cases h7 : -1099511627776 ≤ d
              · have h7' : decide (-1099511627776 ≤ d) = true := by simpa using h7
                by_cases h8 : d ≤ 1099511627776
                · have h8' : decide (d ≤ 1099511627776) = true := by simpa using h8
                  have hr : rightB c s g d = true := (rightB_iff c s g d).2 (by omega)
                  rw [hr]
                  clear hr
                  go_enter Tryd.func33, Tryd.ntmps33
                  go_wp2
                  go_ret
                  exact ⟨by simp [*], rfl⟩
                · have h8' : decide (d ≤ 1099511627776) = false := by simpa using h8
                  have hr : rightB c s g d = false := Bool.eq_false_iff.2 (fun h => by have := (rightB_iff c s g d).1 h; omega)
                  rw [hr]
                  clear hr
                  go_enter Tryd.func33, Tryd.ntmps33
                  go_wp2
                  go_ret
                  exact ⟨by simp [*], rfl⟩
              · have h7' : decide (-1099511627776 ≤ d) = false := by simpa using h7
                have hr : rightB c s g d = false := Bool.eq_false_iff.2 (fun h => by have := (rightB_iff c s g d).1 h; omega)
                rw [hr]
                clear hr
                go_enter Tryd.func33, Tryd.ntmps33
                go_wp2
                go_ret
                exact ⟨by simp [*], rfl⟩
            · have h6' : decide (g ≤ 1099511627776) = false := by simpa using h6
              have hr : rightB c s g d = false := Bool.eq_false_iff.2 (fun h => by have := (rightB_iff c s g d).1 h; omega)
              rw [hr]
              clear hr
              go_enter Tryd.func33, Tryd.ntmps33
              go_wp2
              go_ret
              exact ⟨by simp [*], rfl⟩
          · have h5' : decide (0 ≤ g) = false := by simpa using h5
            have hr : rightB c s g d = false := Bool.eq_false_iff.2 (fun h => by have := (rightB_iff c s g d).1 h; omega)
            rw [hr]
            clear hr
            go_enter Tryd.func33, Tryd.ntmps33
            go_wp2
            go_ret
            exact ⟨by simp [*], rfl⟩
        · have h4' : decide (s ≤ 1099511627776) = false := by simpa using h4
          have hr : rightB c s g d = false := Bool.eq_false_iff.2 (fun h => by have := (rightB_iff c s g d).1 h; omega)
          rw [hr]
          clear hr
          go_enter Tryd.func33, Tryd.ntmps33
          go_wp2
          go_ret
          exact ⟨by simp [*], rfl⟩
      · have h3' : decide (0 ≤ s) = false := by simpa using h3
        have hr : rightB c s g d = false := Bool.eq_false_iff.2 (fun h => by have := (rightB_iff c s g d).1 h; omega)
        rw [hr]
        clear hr
        go_enter Tryd.func33, Tryd.ntmps33
        go_wp2
        go_ret
        exact ⟨by simp [*], rfl⟩
    · have h2' : decide (c ≤ 200) = false := by simpa using h2
      have hr : rightB c s g d = false := Bool.eq_false_iff.2 (fun h => by have := (rightB_iff c s g d).1 h; omega)
      rw [hr]
      clear hr
      go_enter Tryd.func33, Tryd.ntmps33
      go_wp2
      go_ret
      exact ⟨by simp [*], rfl⟩
  · have h1' : decide (0 ≤ c) = false := by simpa using h1
    have hr : rightB c s g d = false := Bool.eq_false_iff.2 (fun h => by have := (rightB_iff c s g d).1 h; omega)
    rw [hr]
    clear hr
    go_enter Tryd.func33, Tryd.ntmps33
    go_wp2
    go_ret
    exact ⟨by simp [*], rfl⟩
theorem rdo0_arg (c s g d n : Int) (w : World) (h : rightB c s g d = false) :
    Calls Tryd.prog 31 #[.agg #[.int .i64 c, .int .i64 s, .int .i64 g, .int .i64 d], .int .i64 0, .int .i64 n] w fun e w' => e = .returned (.tuple #[.agg #[.int .i64 0, .int .i64 0, .int .i64 0, .int .i64 0], .int .i64 1]) ∧ Below w.heap.size w w' := by
  go_enter Tryd.func31, Tryd.ntmps31
  go_wp2_with (go_at_call 33; (with_reducible refine (ref_right _ _ _ _ _).mono ?_); rintro e w1 ⟨rfl, rfl⟩)
  exact bodyPost_ret (v := .tuple #[.agg #[.int .i64 0, .int .i64 0, .int .i64 0, .int .i64 0], .int .i64 1]) (by simp [results, Tryd.results31, go_sem]) rfl ⟨rfl, (by repeat (first | exact Below.refl _ _ | refine Below.setCell ?_ (by first | omega | (simp; done) | (simp; omega)) _ | refine Below.alloc ?_ (by first | omega | (simp; done) | (simp; omega)) _))⟩
theorem rdo0_neg (c s g d n : Int) (w : World) (h : rightB c s g d = true) (hn : n < 0) :
    Calls Tryd.prog 31 #[.agg #[.int .i64 c, .int .i64 s, .int .i64 g, .int .i64 d], .int .i64 0, .int .i64 n] w fun e w' => e = .returned (.tuple #[.agg #[.int .i64 0, .int .i64 0, .int .i64 0, .int .i64 0], .int .i64 1]) ∧ Below w.heap.size w w' := by
  have hn' : ¬ 0 ≤ n := by omega
  go_enter Tryd.func31, Tryd.ntmps31
  go_wp2_with (go_at_call 33; (with_reducible refine (ref_right _ _ _ _ _).mono ?_); rintro e w1 ⟨rfl, rfl⟩)
  exact bodyPost_ret (v := .tuple #[.agg #[.int .i64 0, .int .i64 0, .int .i64 0, .int .i64 0], .int .i64 1]) (by simp [results, Tryd.results31, go_sem]) rfl ⟨rfl, (by repeat (first | exact Below.refl _ _ | refine Below.setCell ?_ (by first | omega | (simp; done) | (simp; omega)) _ | refine Below.alloc ?_ (by first | omega | (simp; done) | (simp; omega)) _))⟩
theorem rdo1_arg (c s g d n : Int) (w : World) (h : rightB c s g d = false) :
    Calls Tryd.prog 31 #[.agg #[.int .i64 c, .int .i64 s, .int .i64 g, .int .i64 d], .int .i64 1, .int .i64 n] w fun e w' => e = .returned (.tuple #[.agg #[.int .i64 0, .int .i64 0, .int .i64 0, .int .i64 0], .int .i64 1]) ∧ Below w.heap.size w w' := by
  go_enter Tryd.func31, Tryd.ntmps31
  go_wp2_with (go_at_call 33; (with_reducible refine (ref_right _ _ _ _ _).mono ?_); rintro e w1 ⟨rfl, rfl⟩)
  exact bodyPost_ret (v := .tuple #[.agg #[.int .i64 0, .int .i64 0, .int .i64 0, .int .i64 0], .int .i64 1]) (by simp [results, Tryd.results31, go_sem]) rfl ⟨rfl, (by repeat (first | exact Below.refl _ _ | refine Below.setCell ?_ (by first | omega | (simp; done) | (simp; omega)) _ | refine Below.alloc ?_ (by first | omega | (simp; done) | (simp; omega)) _))⟩
theorem rdo1_neg (c s g d n : Int) (w : World) (h : rightB c s g d = true) (hn : n < 0) :
    Calls Tryd.prog 31 #[.agg #[.int .i64 c, .int .i64 s, .int .i64 g, .int .i64 d], .int .i64 1, .int .i64 n] w fun e w' => e = .returned (.tuple #[.agg #[.int .i64 0, .int .i64 0, .int .i64 0, .int .i64 0], .int .i64 1]) ∧ Below w.heap.size w w' := by
  have hn' : ¬ 0 ≤ n := by omega
  go_enter Tryd.func31, Tryd.ntmps31
  go_wp2_with (go_at_call 33; (with_reducible refine (ref_right _ _ _ _ _).mono ?_); rintro e w1 ⟨rfl, rfl⟩)
  exact bodyPost_ret (v := .tuple #[.agg #[.int .i64 0, .int .i64 0, .int .i64 0, .int .i64 0], .int .i64 1]) (by simp [results, Tryd.results31, go_sem]) rfl ⟨rfl, (by repeat (first | exact Below.refl _ _ | refine Below.setCell ?_ (by first | omega | (simp; done) | (simp; omega)) _ | refine Below.alloc ?_ (by first | omega | (simp; done) | (simp; omega)) _))⟩
theorem rdo2_arg (c s g d n : Int) (w : World) (h : rightB c s g d = false) :
    Calls Tryd.prog 31 #[.agg #[.int .i64 c, .int .i64 s, .int .i64 g, .int .i64 d], .int .i64 2, .int .i64 n] w fun e w' => e = .returned (.tuple #[.agg #[.int .i64 0, .int .i64 0, .int .i64 0, .int .i64 0], .int .i64 1]) ∧ Below w.heap.size w w' := by
  go_enter Tryd.func31, Tryd.ntmps31
  go_wp2_with (go_at_call 33; (with_reducible refine (ref_right _ _ _ _ _).mono ?_); rintro e w1 ⟨rfl, rfl⟩)
  exact bodyPost_ret (v := .tuple #[.agg #[.int .i64 0, .int .i64 0, .int .i64 0, .int .i64 0], .int .i64 1]) (by simp [results, Tryd.results31, go_sem]) rfl ⟨rfl, (by repeat (first | exact Below.refl _ _ | refine Below.setCell ?_ (by first | omega | (simp; done) | (simp; omega)) _ | refine Below.alloc ?_ (by first | omega | (simp; done) | (simp; omega)) _))⟩
theorem rdo2_neg (c s g d n : Int) (w : World) (h : rightB c s g d = true) (hn : n < 0) :
    Calls Tryd.prog 31 #[.agg #[.int .i64 c, .int .i64 s, .int .i64 g, .int .i64 d], .int .i64 2, .int .i64 n] w fun e w' => e = .returned (.tuple #[.agg #[.int .i64 0, .int .i64 0, .int .i64 0, .int .i64 0], .int .i64 1]) ∧ Below w.heap.size w w' := by
  have hn' : ¬ 0 ≤ n := by omega
  go_enter Tryd.func31, Tryd.ntmps31
  go_wp2_with (go_at_call 33; (with_reducible refine (ref_right _ _ _ _ _).mono ?_); rintro e w1 ⟨rfl, rfl⟩)
  exact bodyPost_ret (v := .tuple #[.agg #[.int .i64 0, .int .i64 0, .int .i64 0, .int .i64 0], .int .i64 1]) (by simp [results, Tryd.results31, go_sem]) rfl ⟨rfl, (by repeat (first | exact Below.refl _ _ | refine Below.setCell ?_ (by first | omega | (simp; done) | (simp; omega)) _ | refine Below.alloc ?_ (by first | omega | (simp; done) | (simp; omega)) _))⟩
theorem rdo0_low (c s g d n : Int) (w : World) (h : rightB c s g d = true) (h0 : 0 ≤ n) (hn : c < n) :
    Calls Tryd.prog 31 #[.agg #[.int .i64 c, .int .i64 s, .int .i64 g, .int .i64 d], .int .i64 0, .int .i64 n] w fun e w' => e = .returned (.tuple #[.agg #[.int .i64 0, .int .i64 0, .int .i64 0, .int .i64 0], .int .i64 11]) ∧ Below w.heap.size w w' := by
  go_enter Tryd.func31, Tryd.ntmps31
  go_wp2_with (go_at_call 33; (with_reducible refine (ref_right _ _ _ _ _).mono ?_); rintro e w1 ⟨rfl, rfl⟩)
  exact bodyPost_ret (v := .tuple #[.agg #[.int .i64 0, .int .i64 0, .int .i64 0, .int .i64 0], .int .i64 11]) (by simp [results, Tryd.results31, go_sem]) rfl ⟨rfl, (by repeat (first | exact Below.refl _ _ | refine Below.setCell ?_ (by first | omega | (simp; done) | (simp; omega)) _ | refine Below.alloc ?_ (by first | omega | (simp; done) | (simp; omega)) _))⟩
theorem rdo0_ok (c s g d n : Int) (w : World) (h : rightB c s g d = true) (h0 : 0 ≤ n) (hn : n ≤ c) (hr : rightB (c - n) (s + n) g d = true) :
    Calls Tryd.prog 31 #[.agg #[.int .i64 c, .int .i64 s, .int .i64 g, .int .i64 d], .int .i64 0, .int .i64 n] w fun e w' => e = .returned (.tuple #[.agg #[.int .i64 (c - n), .int .i64 (s + n), .int .i64 g, .int .i64 d], .int .i64 0]) ∧ Below w.heap.size w w' := by
  obtain ⟨⟨p0, p1⟩, ⟨p2, p3⟩, ⟨p4, p5⟩, p6, p7⟩ := (rightB_iff c s g d).1 h
  go_enter Tryd.func31, Tryd.ntmps31
  go_wp2_with (go_at_call 33; (with_reducible refine (ref_right _ _ _ _ _).mono ?_); rintro e w1 ⟨rfl, rfl⟩)
  exact bodyPost_ret (v := .tuple #[.agg #[.int .i64 (c - n), .int .i64 (s + n), .int .i64 g, .int .i64 d], .int .i64 0]) (by simp [results, Tryd.results31, go_sem]) rfl ⟨rfl, (by repeat (first | exact Below.refl _ _ | refine Below.setCell ?_ (by first | omega | (simp; done) | (simp; omega)) _ | refine Below.alloc ?_ (by first | omega | (simp; done) | (simp; omega)) _))⟩
theorem rdo0_no (c s g d n : Int) (w : World) (h : rightB c s g d = true) (h0 : 0 ≤ n) (hn : n ≤ c) (hr : rightB (c - n) (s + n) g d = false) :
    Calls Tryd.prog 31 #[.agg #[.int .i64 c, .int .i64 s, .int .i64 g, .int .i64 d], .int .i64 0, .int .i64 n] w fun e w' => e = .returned (.tuple #[.agg #[.int .i64 0, .int .i64 0, .int .i64 0, .int .i64 0], .int .i64 8]) ∧ Below w.heap.size w w' := by
  obtain ⟨⟨p0, p1⟩, ⟨p2, p3⟩, ⟨p4, p5⟩, p6, p7⟩ := (rightB_iff c s g d).1 h
  go_enter Tryd.func31, Tryd.ntmps31
  go_wp2_with (go_at_call 33; (with_reducible refine (ref_right _ _ _ _ _).mono ?_); rintro e w1 ⟨rfl, rfl⟩)
  exact bodyPost_ret (v := .tuple #[.agg #[.int .i64 0, .int .i64 0, .int .i64 0, .int .i64 0], .int .i64 8]) (by simp [results, Tryd.results31, go_sem]) rfl ⟨rfl, (by repeat (first | exact Below.refl _ _ | refine Below.setCell ?_ (by first | omega | (simp; done) | (simp; omega)) _ | refine Below.alloc ?_ (by first | omega | (simp; done) | (simp; omega)) _))⟩
theorem rdo1a_ok (c s g d n : Int) (w : World) (h : rightB c s g d = true) (h0 : 0 ≤ n) (hn : n < 200 - c) (hr : rightB (c + n) s (g + (c + n) - c) d = true) :
    Calls Tryd.prog 31 #[.agg #[.int .i64 c, .int .i64 s, .int .i64 g, .int .i64 d], .int .i64 1, .int .i64 n] w fun e w' => e = .returned (.tuple #[.agg #[.int .i64 (c + n), .int .i64 s, .int .i64 (g + (c + n) - c), .int .i64 d], .int .i64 0]) ∧ Below w.heap.size w w' := by
  obtain ⟨⟨p0, p1⟩, ⟨p2, p3⟩, ⟨p4, p5⟩, p6, p7⟩ := (rightB_iff c s g d).1 h
  go_enter Tryd.func31, Tryd.ntmps31
  go_wp2_with (go_at_call 33; (with_reducible refine (ref_right _ _ _ _ _).mono ?_); rintro e w1 ⟨rfl, rfl⟩)
  exact bodyPost_ret (v := .tuple #[.agg #[.int .i64 (c + n), .int .i64 s, .int .i64 (g + (c + n) - c), .int .i64 d], .int .i64 0]) (by simp [results, Tryd.results31, go_sem]) rfl ⟨rfl, (by repeat (first | exact Below.refl _ _ | refine Below.setCell ?_ (by first | omega | (simp; done) | (simp; omega)) _ | refine Below.alloc ?_ (by first | omega | (simp; done) | (simp; omega)) _))⟩
theorem rdo1a_no (c s g d n : Int) (w : World) (h : rightB c s g d = true) (h0 : 0 ≤ n) (hn : n < 200 - c) (hr : rightB (c + n) s (g + (c + n) - c) d = false) :
    Calls Tryd.prog 31 #[.agg #[.int .i64 c, .int .i64 s, .int .i64 g, .int .i64 d], .int .i64 1, .int .i64 n] w fun e w' => e = .returned (.tuple #[.agg #[.int .i64 0, .int .i64 0, .int .i64 0, .int .i64 0], .int .i64 8]) ∧ Below w.heap.size w w' := by
  obtain ⟨⟨p0, p1⟩, ⟨p2, p3⟩, ⟨p4, p5⟩, p6, p7⟩ := (rightB_iff c s g d).1 h
  go_enter Tryd.func31, Tryd.ntmps31
  go_wp2_with (go_at_call 33; (with_reducible refine (ref_right _ _ _ _ _).mono ?_); rintro e w1 ⟨rfl, rfl⟩)
  exact bodyPost_ret (v := .tuple #[.agg #[.int .i64 0, .int .i64 0, .int .i64 0, .int .i64 0], .int .i64 8]) (by simp [results, Tryd.results31, go_sem]) rfl ⟨rfl, (by repeat (first | exact Below.refl _ _ | refine Below.setCell ?_ (by first | omega | (simp; done) | (simp; omega)) _ | refine Below.alloc ?_ (by first | omega | (simp; done) | (simp; omega)) _))⟩
theorem rdo1b_ok (c s g d n : Int) (w : World) (h : rightB c s g d = true) (h0 : 0 ≤ n) (hn : 200 - c ≤ n) (hr : rightB 200 s (g + 200 - c) d = true) :
    Calls Tryd.prog 31 #[.agg #[.int .i64 c, .int .i64 s, .int .i64 g, .int .i64 d], .int .i64 1, .int .i64 n] w fun e w' => e = .returned (.tuple #[.agg #[.int .i64 200, .int .i64 s, .int .i64 (g + 200 - c), .int .i64 d], .int .i64 0]) ∧ Below w.heap.size w w' := by
  obtain ⟨⟨p0, p1⟩, ⟨p2, p3⟩, ⟨p4, p5⟩, p6, p7⟩ := (rightB_iff c s g d).1 h
  go_enter Tryd.func31, Tryd.ntmps31
  go_wp2_with (go_at_call 33; (with_reducible refine (ref_right _ _ _ _ _).mono ?_); rintro e w1 ⟨rfl, rfl⟩)
  exact bodyPost_ret (v := .tuple #[.agg #[.int .i64 200, .int .i64 s, .int .i64 (g + 200 - c), .int .i64 d], .int .i64 0]) (by simp [results, Tryd.results31, go_sem]) rfl ⟨rfl, (by repeat (first | exact Below.refl _ _ | refine Below.setCell ?_ (by first | omega | (simp; done) | (simp; omega)) _ | refine Below.alloc ?_ (by first | omega | (simp; done) | (simp; omega)) _))⟩
theorem rdo1b_no (c s g d n : Int) (w : World) (h : rightB c s g d = true) (h0 : 0 ≤ n) (hn : 200 - c ≤ n) (hr : rightB 200 s (g + 200 - c) d = false) :
    Calls Tryd.prog 31 #[.agg #[.int .i64 c, .int .i64 s, .int .i64 g, .int .i64 d], .int .i64 1, .int .i64 n] w fun e w' => e = .returned (.tuple #[.agg #[.int .i64 0, .int .i64 0, .int .i64 0, .int .i64 0], .int .i64 8]) ∧ Below w.heap.size w w' := by
  obtain ⟨⟨p0, p1⟩, ⟨p2, p3⟩, ⟨p4, p5⟩, p6, p7⟩ := (rightB_iff c s g d).1 h
  go_enter Tryd.func31, Tryd.ntmps31
  go_wp2_with (go_at_call 33; (with_reducible refine (ref_right _ _ _ _ _).mono ?_); rintro e w1 ⟨rfl, rfl⟩)
  exact bodyPost_ret (v := .tuple #[.agg #[.int .i64 0, .int .i64 0, .int .i64 0, .int .i64 0], .int .i64 8]) (by simp [results, Tryd.results31, go_sem]) rfl ⟨rfl, (by repeat (first | exact Below.refl _ _ | refine Below.setCell ?_ (by first | omega | (simp; done) | (simp; omega)) _ | refine Below.alloc ?_ (by first | omega | (simp; done) | (simp; omega)) _))⟩
theorem rdo2_big (c s g d n : Int) (w : World) (h : rightB c s g d = true) (h0 : 0 ≤ n) (hn : 200 < n) :
    Calls Tryd.prog 31 #[.agg #[.int .i64 c, .int .i64 s, .int .i64 g, .int .i64 d], .int .i64 2, .int .i64 n] w fun e w' => e = .returned (.tuple #[.agg #[.int .i64 0, .int .i64 0, .int .i64 0, .int .i64 0], .int .i64 1]) ∧ Below w.heap.size w w' := by
  go_enter Tryd.func31, Tryd.ntmps31
  go_wp2_with (go_at_call 33; (with_reducible refine (ref_right _ _ _ _ _).mono ?_); rintro e w1 ⟨rfl, rfl⟩)
  exact bodyPost_ret (v := .tuple #[.agg #[.int .i64 0, .int .i64 0, .int .i64 0, .int .i64 0], .int .i64 1]) (by simp [results, Tryd.results31, go_sem]) rfl ⟨rfl, (by repeat (first | exact Below.refl _ _ | refine Below.setCell ?_ (by first | omega | (simp; done) | (simp; omega)) _ | refine Below.alloc ?_ (by first | omega | (simp; done) | (simp; omega)) _))⟩
theorem rdo2_ok (c s g d n : Int) (w : World) (h : rightB c s g d = true) (h0 : 0 ≤ n) (hn : n ≤ 200) (hr : rightB n s g (d + n - c) = true) :
    Calls Tryd.prog 31 #[.agg #[.int .i64 c, .int .i64 s, .int .i64 g, .int .i64 d], .int .i64 2, .int .i64 n] w fun e w' => e = .returned (.tuple #[.agg #[.int .i64 n, .int .i64 s, .int .i64 g, .int .i64 (d + n - c)], .int .i64 0]) ∧ Below w.heap.size w w' := by
  obtain ⟨⟨p0, p1⟩, ⟨p2, p3⟩, ⟨p4, p5⟩, p6, p7⟩ := (rightB_iff c s g d).1 h
  go_enter Tryd.func31, Tryd.ntmps31
  go_wp2_with (go_at_call 33; (with_reducible refine (ref_right _ _ _ _ _).mono ?_); rintro e w1 ⟨rfl, rfl⟩)
  exact bodyPost_ret (v := .tuple #[.agg #[.int .i64 n, .int .i64 s, .int .i64 g, .int .i64 (d + n - c)], .int .i64 0]) (by simp [results, Tryd.results31, go_sem]) rfl ⟨rfl, (by repeat (first | exact Below.refl _ _ | refine Below.setCell ?_ (by first | omega | (simp; done) | (simp; omega)) _ | refine Below.alloc ?_ (by first | omega | (simp; done) | (simp; omega)) _))⟩
theorem rdo2_no (c s g d n : Int) (w : World) (h : rightB c s g d = true) (h0 : 0 ≤ n) (hn : n ≤ 200) (hr : rightB n s g (d + n - c) = false) :
    Calls Tryd.prog 31 #[.agg #[.int .i64 c, .int .i64 s, .int .i64 g, .int .i64 d], .int .i64 2, .int .i64 n] w fun e w' => e = .returned (.tuple #[.agg #[.int .i64 0, .int .i64 0, .int .i64 0, .int .i64 0], .int .i64 8]) ∧ Below w.heap.size w w' := by
  obtain ⟨⟨p0, p1⟩, ⟨p2, p3⟩, ⟨p4, p5⟩, p6, p7⟩ := (rightB_iff c s g d).1 h
  go_enter Tryd.func31, Tryd.ntmps31
  go_wp2_with (go_at_call 33; (with_reducible refine (ref_right _ _ _ _ _).mono ?_); rintro e w1 ⟨rfl, rfl⟩)
  exact bodyPost_ret (v := .tuple #[.agg #[.int .i64 0, .int .i64 0, .int .i64 0, .int .i64 0], .int .i64 8]) (by simp [results, Tryd.results31, go_sem]) rfl ⟨rfl, (by repeat (first | exact Below.refl _ _ | refine Below.setCell ?_ (by first | omega | (simp; done) | (simp; omega)) _ | refine Below.alloc ?_ (by first | omega | (simp; done) | (simp; omega)) _))⟩
theorem ref_do0 {c s g d n kc c' s' g' d' : Int} (h : spendR c s g d n = ⟨kc, c', s', g', d'⟩) (w : World) :
    Calls Tryd.prog 31 #[.agg #[.int .i64 c, .int .i64 s, .int .i64 g, .int .i64 d], .int .i64 0, .int .i64 n] w fun e w' => e = .returned (.tuple #[.agg #[.int .i64 c', .int .i64 s', .int .i64 g', .int .i64 d'], .int .i64 kc]) ∧ Below w.heap.size w w' := by
  by_cases hr : rightB c s g d = true
  · by_cases h0 : 0 ≤ n
    · by_cases hn : c < n
      · rw [show spendR c s g d n = ⟨11, 0, 0, 0, 0⟩ from by simp [spendR, hr, h0, hn]] at h
        injection h with e1 e2 e3 e4 e5; subst e1 e2 e3 e4 e5; exact rdo0_low c s g d n w hr h0 hn
      · rw [show spendR c s g d n = finR (c - n) (s + n) g d from by simp [spendR, hr, h0, hn]] at h
        by_cases hf : rightB (c - n) (s + n) g d = true
        · rw [show finR (c - n) (s + n) g d = ⟨0, c - n, s + n, g, d⟩ from if_pos hf] at h
          injection h with e1 e2 e3 e4 e5; subst e1 e2 e3 e4 e5; exact rdo0_ok c s g d n w hr h0 (by omega) hf
        · rw [show finR (c - n) (s + n) g d = ⟨8, 0, 0, 0, 0⟩ from if_neg hf] at h
          injection h with e1 e2 e3 e4 e5; subst e1 e2 e3 e4 e5; exact rdo0_no c s g d n w hr h0 (by omega) (by simpa using hf)
    · rw [show spendR c s g d n = ⟨1, 0, 0, 0, 0⟩ from if_neg (fun hh => h0 hh.2)] at h
      injection h with e1 e2 e3 e4 e5; subst e1 e2 e3 e4 e5; exact rdo0_neg c s g d n w hr (by omega)
  · rw [show spendR c s g d n = ⟨1, 0, 0, 0, 0⟩ from if_neg (fun hh => hr hh.1)] at h
    injection h with e1 e2 e3 e4 e5; subst e1 e2 e3 e4 e5; exact rdo0_arg c s g d n w (by simpa using hr)
theorem ref_do1 {c s g d n kc c' s' g' d' : Int} (h : gainR c s g d n = ⟨kc, c', s', g', d'⟩) (w : World) :
    Calls Tryd.prog 31 #[.agg #[.int .i64 c, .int .i64 s, .int .i64 g, .int .i64 d], .int .i64 1, .int .i64 n] w fun e w' => e = .returned (.tuple #[.agg #[.int .i64 c', .int .i64 s', .int .i64 g', .int .i64 d'], .int .i64 kc]) ∧ Below w.heap.size w w' := by
  by_cases hr : rightB c s g d = true
  · by_cases h0 : 0 ≤ n
    · rw [gainR, if_pos ⟨hr, h0⟩] at h
      by_cases hn : n < 200 - c
      · rw [show c + min n (200 - c) = c + n by omega, show g + min n (200 - c) = g + (c + n) - c by omega] at h
        by_cases hf : rightB (c + n) s (g + (c + n) - c) d = true
        · rw [show finR (c + n) s (g + (c + n) - c) d = ⟨0, c + n, s, g + (c + n) - c, d⟩ from if_pos hf] at h
          injection h with e1 e2 e3 e4 e5; subst e1 e2 e3 e4 e5; exact rdo1a_ok c s g d n w hr h0 hn hf
        · rw [show finR (c + n) s (g + (c + n) - c) d = ⟨8, 0, 0, 0, 0⟩ from if_neg hf] at h
          injection h with e1 e2 e3 e4 e5; subst e1 e2 e3 e4 e5; exact rdo1a_no c s g d n w hr h0 hn (by simpa using hf)
      · rw [show c + min n (200 - c) = 200 by omega, show g + min n (200 - c) = g + 200 - c by omega] at h
        by_cases hf : rightB 200 s (g + 200 - c) d = true
        · rw [show finR 200 s (g + 200 - c) d = ⟨0, 200, s, g + 200 - c, d⟩ from if_pos hf] at h
          injection h with e1 e2 e3 e4 e5; subst e1 e2 e3 e4 e5; exact rdo1b_ok c s g d n w hr h0 (by omega) hf
        · rw [show finR 200 s (g + 200 - c) d = ⟨8, 0, 0, 0, 0⟩ from if_neg hf] at h
          injection h with e1 e2 e3 e4 e5; subst e1 e2 e3 e4 e5; exact rdo1b_no c s g d n w hr h0 (by omega) (by simpa using hf)
    · rw [show gainR c s g d n = ⟨1, 0, 0, 0, 0⟩ from if_neg (fun hh => h0 hh.2)] at h
      injection h with e1 e2 e3 e4 e5; subst e1 e2 e3 e4 e5; exact rdo1_neg c s g d n w hr (by omega)
  · rw [show gainR c s g d n = ⟨1, 0, 0, 0, 0⟩ from if_neg (fun hh => hr hh.1)] at h
    injection h with e1 e2 e3 e4 e5; subst e1 e2 e3 e4 e5; exact rdo1_arg c s g d n w (by simpa using hr)
theorem ref_do2 {c s g d n kc c' s' g' d' : Int} (h : setR c s g d n = ⟨kc, c', s', g', d'⟩) (w : World) :
    Calls Tryd.prog 31 #[.agg #[.int .i64 c, .int .i64 s, .int .i64 g, .int .i64 d], .int .i64 2, .int .i64 n] w fun e w' => e = .returned (.tuple #[.agg #[.int .i64 c', .int .i64 s', .int .i64 g', .int .i64 d'], .int .i64 kc]) ∧ Below w.heap.size w w' := by
  by_cases hr : rightB c s g d = true
  · by_cases h0 : 0 ≤ n
    · by_cases hn : n ≤ 200
      · rw [setR, if_pos ⟨hr, (mayB_iff n).2 ⟨h0, hn⟩⟩, show d + (n - c) = d + n - c by omega] at h
        by_cases hf : rightB n s g (d + n - c) = true
        · rw [show finR n s g (d + n - c) = ⟨0, n, s, g, d + n - c⟩ from if_pos hf] at h
          injection h with e1 e2 e3 e4 e5; subst e1 e2 e3 e4 e5; exact rdo2_ok c s g d n w hr h0 hn hf
        · rw [show finR n s g (d + n - c) = ⟨8, 0, 0, 0, 0⟩ from if_neg hf] at h
          injection h with e1 e2 e3 e4 e5; subst e1 e2 e3 e4 e5; exact rdo2_no c s g d n w hr h0 hn (by simpa using hf)
      · rw [show setR c s g d n = ⟨1, 0, 0, 0, 0⟩ from if_neg (fun hh => by have := (mayB_iff n).1 hh.2; omega)] at h
        injection h with e1 e2 e3 e4 e5; subst e1 e2 e3 e4 e5; exact rdo2_big c s g d n w hr h0 (by omega)
    · rw [show setR c s g d n = ⟨1, 0, 0, 0, 0⟩ from if_neg (fun hh => by have := (mayB_iff n).1 hh.2; omega)] at h
      injection h with e1 e2 e3 e4 e5; subst e1 e2 e3 e4 e5; exact rdo2_neg c s g d n w hr (by omega)
  · rw [show setR c s g d n = ⟨1, 0, 0, 0, 0⟩ from if_neg (fun hh => hr hh.1)] at h
    injection h with e1 e2 e3 e4 e5; subst e1 e2 e3 e4 e5; exact rdo2_arg c s g d n w (by simpa using hr)
theorem law_do0 {c s g d n kc c' s' g' d' : Int} (h : spendR c s g d n = ⟨kc, c', s', g', d'⟩) (w : World) :
    Calls Tryd.prog 29 #[.agg #[.int .i64 c, .int .i64 s, .int .i64 g, .int .i64 d], .int .i64 0, .int .i64 n] w fun e w' => ∃ v, e = .returned (.tuple #[.agg #[.int .i64 c', .int .i64 s', .int .i64 g', .int .i64 d'], v]) ∧ ErrR w.heap.size w' v kc ∧ Below w.heap.size w w' := by
  have H := Lib.hid h
  clear h
  go_enter Tryd.func29, Tryd.ntmps29
  go_wp2_with fail
  refine (volt_spend_eq H.out _).mono ?_
  rintro e w1 ⟨v, rfl, hr, hb⟩
  obtain ⟨hc, hf⟩ := bcell hb; have hz := hb.size; simp at hz
  obtain ⟨B, hr, hB⟩ := err_at hr; simp at hB
  have Hr := Lib.hid hr
  have HB := Lib.hid (Below.trans (a := w) (B := w.heap.size) (by repeat (first | exact Below.refl _ _ | refine Below.alloc ?_ (by first | omega | (simp; done) | (simp; omega)) _)) (hb.mono (by first | omega | (simp; done) | (simp; omega))))
  clear hr hb
  have hl : w.heap.size < w1.heap.size := by omega
  have hl1 : w.heap.size + 1 < w1.heap.size := by omega
  go_wp2
  exact bodyPost_ret (v := .tuple #[.agg #[.int .i64 c', .int .i64 s', .int .i64 g', .int .i64 d'], v]) (by simp [results, Tryd.results29, go_sem, hc]) rfl ⟨_, rfl, ErrR.mono (B := B) (by repeat (first | exact Hr.out | refine ErrR.setCell ?_ (by first | omega | (simp; done) | (simp; omega)) _)) (by omega), (by repeat (first | exact HB.out | refine Below.setCell ?_ (by first | omega | (simp; done) | (simp; omega)) _ | refine Below.alloc ?_ (by first | omega | (simp; done) | (simp; omega)) _))⟩
theorem law_do1 {c s g d n kc c' s' g' d' : Int} (h : gainR c s g d n = ⟨kc, c', s', g', d'⟩) (w : World) :
    Calls Tryd.prog 29 #[.agg #[.int .i64 c, .int .i64 s, .int .i64 g, .int .i64 d], .int .i64 1, .int .i64 n] w fun e w' => ∃ v, e = .returned (.tuple #[.agg #[.int .i64 c', .int .i64 s', .int .i64 g', .int .i64 d'], v]) ∧ ErrR w.heap.size w' v kc ∧ Below w.heap.size w w' := by
  have H := Lib.hid h
  clear h
  go_enter Tryd.func29, Tryd.ntmps29
  go_wp2_with fail
  refine (volt_gain_eq H.out _).mono ?_
  rintro e w1 ⟨v, rfl, hr, hb⟩
  obtain ⟨hc, hf⟩ := bcell hb; have hz := hb.size; simp at hz
  obtain ⟨B, hr, hB⟩ := err_at hr; simp at hB
  have Hr := Lib.hid hr
  have HB := Lib.hid (Below.trans (a := w) (B := w.heap.size) (by repeat (first | exact Below.refl _ _ | refine Below.alloc ?_ (by first | omega | (simp; done) | (simp; omega)) _)) (hb.mono (by first | omega | (simp; done) | (simp; omega))))
  clear hr hb
  have hl : w.heap.size < w1.heap.size := by omega
  have hl1 : w.heap.size + 1 < w1.heap.size := by omega
  go_wp2
  exact bodyPost_ret (v := .tuple #[.agg #[.int .i64 c', .int .i64 s', .int .i64 g', .int .i64 d'], v]) (by simp [results, Tryd.results29, go_sem, hc]) rfl ⟨_, rfl, ErrR.mono (B := B) (by repeat (first | exact Hr.out | refine ErrR.setCell ?_ (by first | omega | (simp; done) | (simp; omega)) _)) (by omega), (by repeat (first | exact HB.out | refine Below.setCell ?_ (by first | omega | (simp; done) | (simp; omega)) _ | refine Below.alloc ?_ (by first | omega | (simp; done) | (simp; omega)) _))⟩
theorem law_do2 {c s g d n kc c' s' g' d' : Int} (h : setR c s g d n = ⟨kc, c', s', g', d'⟩) (w : World) :
    Calls Tryd.prog 29 #[.agg #[.int .i64 c, .int .i64 s, .int .i64 g, .int .i64 d], .int .i64 2, .int .i64 n] w fun e w' => ∃ v, e = .returned (.tuple #[.agg #[.int .i64 c', .int .i64 s', .int .i64 g', .int .i64 d'], v]) ∧ ErrR w.heap.size w' v kc ∧ Below w.heap.size w w' := by
  have H := Lib.hid h
  clear h
  go_enter Tryd.func29, Tryd.ntmps29
  go_wp2_with fail
  refine (volt_set_eq H.out _).mono ?_
  rintro e w1 ⟨v, rfl, hr, hb⟩
  obtain ⟨hc, hf⟩ := bcell hb; have hz := hb.size; simp at hz
  obtain ⟨B, hr, hB⟩ := err_at hr; simp at hB
  have Hr := Lib.hid hr
  have HB := Lib.hid (Below.trans (a := w) (B := w.heap.size) (by repeat (first | exact Below.refl _ _ | refine Below.alloc ?_ (by first | omega | (simp; done) | (simp; omega)) _)) (hb.mono (by first | omega | (simp; done) | (simp; omega))))
  clear hr hb
  have hl : w.heap.size < w1.heap.size := by omega
  have hl1 : w.heap.size + 1 < w1.heap.size := by omega
  go_wp2
  exact bodyPost_ret (v := .tuple #[.agg #[.int .i64 c', .int .i64 s', .int .i64 g', .int .i64 d'], v]) (by simp [results, Tryd.results29, go_sem, hc]) rfl ⟨_, rfl, ErrR.mono (B := B) (by repeat (first | exact Hr.out | refine ErrR.setCell ?_ (by first | omega | (simp; done) | (simp; omega)) _)) (by omega), (by repeat (first | exact HB.out | refine Below.setCell ?_ (by first | omega | (simp; done) | (simp; omega)) _ | refine Below.alloc ?_ (by first | omega | (simp; done) | (simp; omega)) _))⟩
theorem law_of (c s g d : Int) (w : World) :
    Calls Tryd.prog 30 #[.agg #[.int .i64 c, .int .i64 s, .int .i64 g, .int .i64 d]] w fun e w' => e = .returned (.agg #[.int .i64 c, .int .i64 s, .int .i64 g, .int .i64 d]) ∧ Below w.heap.size w w' := by
  go_enter Tryd.func30, Tryd.ntmps30
  go_wp2
  exact bodyPost_ret (v := .agg #[.int .i64 c, .int .i64 s, .int .i64 g, .int .i64 d]) (by simp [results, Tryd.results30, go_sem]) rfl ⟨rfl, (by repeat (first | exact Below.refl _ _ | refine Below.setCell ?_ (by first | omega | (simp; done) | (simp; omega)) _ | refine Below.alloc ?_ (by first | omega | (simp; done) | (simp; omega)) _))⟩
theorem volt_right_b (c s g d : Int) (w : World) :
    Calls Tryd.prog 32 #[.agg #[.int .i64 c, .int .i64 s, .int .i64 g, .int .i64 d]] w fun e w' => e = .returned (.bool (rightB c s g d)) ∧ Below w.heap.size w w' :=
  (volt_right c s g d w).mono fun _ _ ⟨he, hw⟩ => ⟨he, hw ▸ (Below.refl _ _).alloc (Nat.le_refl _) _⟩
theorem ref_right_b (c s g d : Int) (w : World) :
    Calls Tryd.prog 33 #[.agg #[.int .i64 c, .int .i64 s, .int .i64 g, .int .i64 d]] w fun e w' => e = .returned (.bool (rightB c s g d)) ∧ Below w.heap.size w w' :=
  (ref_right c s g d w).mono fun _ _ ⟨he, hw⟩ => ⟨he, hw ▸ (Below.refl _ _).alloc (Nat.le_refl _) _⟩
set_option maxHeartbeats 2000000 in
theorem plays0 (c s g d what n kc c' s' g' d' : Int) (p0 : 0 ≤ what) (p1 : what ≤ 255) (hk : what % 3 = 0) (h : spendR c s g d n = ⟨kc, c', s', g', d'⟩) (w : World) (tied : Tied w) :
    Calls Tryd.prog 11 #[.agg #[.int .i64 c, .int .i64 s, .int .i64 g, .int .i64 d], .int .u8 what, .int .i64 n] w fun e w' => e = .returned (.bool true) ∧ Below w.heap.size w w' := by
  have H := Lib.hid h
  clear h
  have HB0 := Lib.hid (Below.refl w.heap.size w)
  have T := Lib.hid tied
  clear tied
  go_enter Tryd.func11, Tryd.ntmps11
  go_wp2_with fail
  refine (volt_awake _ (by exact (T.out.under T.out.lt (by repeat (first | exact HB0.out | exact Below.refl _ _ | refine Below.alloc ?_ (by first | omega | (simp; done) | (simp; omega)) _ | refine Below.setCell ?_ (by first | omega | (simp; done) | (simp; omega)) _))))).mono ?_
  rintro e w1 ⟨rfl, hb⟩
  have HB1 := Lib.hid (Below.trans (B := w.heap.size) (a := w) (by repeat (first | exact HB0.out | exact Below.refl _ _ | refine Below.alloc ?_ (by first | omega | (simp; done) | (simp; omega)) _ | refine Below.setCell ?_ (by first | omega | (simp; done) | (simp; omega)) _)) (hb.mono (by first | omega | (simp; done) | (simp; omega))))
  have hz1 := hb.size
  try simp at hz1
  obtain ⟨hc1, hf1⟩ := bcell hb
  clear hb
  try have hl_wheapsize_w1 : w.heap.size < w1.heap.size := by omega
  try have hm_wheapsize_w1 : w.heap.size ≤ w1.heap.size := by omega
  try have hl_wheapsize1_w1 : w.heap.size + 1 < w1.heap.size := by omega
  try have hm_wheapsize1_w1 : w.heap.size + 1 ≤ w1.heap.size := by omega
  go_wp2_with fail
  refine (law_of _ _ _ _ _).mono ?_
  rintro e w2 ⟨rfl, hb⟩
  have HB2 := Lib.hid (Below.trans (B := w.heap.size) (a := w) (by repeat (first | exact HB1.out | exact Below.refl _ _ | refine Below.alloc ?_ (by first | omega | (simp; done) | (simp; omega)) _ | refine Below.setCell ?_ (by first | omega | (simp; done) | (simp; omega)) _)) (hb.mono (by first | omega | (simp; done) | (simp; omega))))
  have hz2 := hb.size
  try simp at hz2
  obtain ⟨hc2, hf2⟩ := bcell hb
  clear hb
  try have hl_wheapsize_w2 : w.heap.size < w2.heap.size := by omega
  try have hm_wheapsize_w2 : w.heap.size ≤ w2.heap.size := by omega
  try have hl_wheapsize1_w2 : w.heap.size + 1 < w2.heap.size := by omega
  try have hm_wheapsize1_w2 : w.heap.size + 1 ≤ w2.heap.size := by omega
  try have hl_w1heapsize_w2 : w1.heap.size < w2.heap.size := by omega
  try have hm_w1heapsize_w2 : w1.heap.size ≤ w2.heap.size := by omega
  try have hl_w1heapsize1_w2 : w1.heap.size + 1 < w2.heap.size := by omega
  try have hm_w1heapsize1_w2 : w1.heap.size + 1 ≤ w2.heap.size := by omega
  go_wp2_with fail
  refine (law_do0 H.out _).mono ?_
  rintro e w3 ⟨v1, rfl, hr, hb⟩
  have HB3 := Lib.hid (Below.trans (B := w.heap.size) (a := w) (by repeat (first | exact HB2.out | exact Below.refl _ _ | refine Below.alloc ?_ (by first | omega | (simp; done) | (simp; omega)) _ | refine Below.setCell ?_ (by first | omega | (simp; done) | (simp; omega)) _)) (hb.mono (by first | omega | (simp; done) | (simp; omega))))
  have hz3 := hb.size
  try simp at hz3
  obtain ⟨hc3, hf3⟩ := bcell hb
  obtain ⟨BE1, hr, hBE1⟩ := err_at hr
  try simp at hBE1
  have E1_3 := Lib.hid hr
  clear hr
  clear hb
  try have hl_wheapsize_w3 : w.heap.size < w3.heap.size := by omega
  try have hm_wheapsize_w3 : w.heap.size ≤ w3.heap.size := by omega
  try have hl_wheapsize1_w3 : w.heap.size + 1 < w3.heap.size := by omega
  try have hm_wheapsize1_w3 : w.heap.size + 1 ≤ w3.heap.size := by omega
  try have hl_w1heapsize_w3 : w1.heap.size < w3.heap.size := by omega
  try have hm_w1heapsize_w3 : w1.heap.size ≤ w3.heap.size := by omega
  try have hl_w1heapsize1_w3 : w1.heap.size + 1 < w3.heap.size := by omega
  try have hm_w1heapsize1_w3 : w1.heap.size + 1 ≤ w3.heap.size := by omega
  try have hl_w2heapsize_w3 : w2.heap.size < w3.heap.size := by omega
  try have hm_w2heapsize_w3 : w2.heap.size ≤ w3.heap.size := by omega
  try have hl_w2heapsize1_w3 : w2.heap.size + 1 < w3.heap.size := by omega
  try have hm_w2heapsize1_w3 : w2.heap.size + 1 ≤ w3.heap.size := by omega
  go_wp2_with fail
  refine (ref_do0 H.out _).mono ?_
  rintro e w4 ⟨rfl, hb⟩
  have HB4 := Lib.hid (Below.trans (B := w.heap.size) (a := w) (by repeat (first | exact HB3.out | exact Below.refl _ _ | refine Below.alloc ?_ (by first | omega | (simp; done) | (simp; omega)) _ | refine Below.setCell ?_ (by first | omega | (simp; done) | (simp; omega)) _)) (hb.mono (by first | omega | (simp; done) | (simp; omega))))
  have hz4 := hb.size
  try simp at hz4
  have E1_4 := Lib.hid (ErrR.under (B := BE1) (v := v1) (n := kc) (by repeat (first | exact E1_3.out | refine ErrR.alloc ?_ _ | refine ErrR.setCell ?_ (by first | omega | (simp; done) | (simp; omega)) _)) hb)
  clear E1_3
  obtain ⟨hc4, hf4⟩ := bcell hb
  clear hb
  try have hl_wheapsize_w4 : w.heap.size < w4.heap.size := by omega
  try have hm_wheapsize_w4 : w.heap.size ≤ w4.heap.size := by omega
  try have hl_wheapsize1_w4 : w.heap.size + 1 < w4.heap.size := by omega
  try have hm_wheapsize1_w4 : w.heap.size + 1 ≤ w4.heap.size := by omega
  try have hl_w1heapsize_w4 : w1.heap.size < w4.heap.size := by omega
  try have hm_w1heapsize_w4 : w1.heap.size ≤ w4.heap.size := by omega
  try have hl_w1heapsize1_w4 : w1.heap.size + 1 < w4.heap.size := by omega
  try have hm_w1heapsize1_w4 : w1.heap.size + 1 ≤ w4.heap.size := by omega
  try have hl_w2heapsize_w4 : w2.heap.size < w4.heap.size := by omega
  try have hm_w2heapsize_w4 : w2.heap.size ≤ w4.heap.size := by omega
  try have hl_w2heapsize1_w4 : w2.heap.size + 1 < w4.heap.size := by omega
  try have hm_w2heapsize1_w4 : w2.heap.size + 1 ≤ w4.heap.size := by omega
  try have hl_w3heapsize_w4 : w3.heap.size < w4.heap.size := by omega
  try have hm_w3heapsize_w4 : w3.heap.size ≤ w4.heap.size := by omega
  try have hl_w3heapsize1_w4 : w3.heap.size + 1 < w4.heap.size := by omega
  try have hm_w3heapsize1_w4 : w3.heap.size + 1 ≤ w4.heap.size := by omega
  go_wp2_with fail
  obtain ⟨Wr1, hWr1⟩ : ∃ Wr1, Wr1 = w4.alloc (Obj.cells #[Value.int IntKind.i64 (c'), Value.int IntKind.i64 (s'), Value.int IntKind.i64 (g'), Value.int IntKind.i64 (d')] 52) := ⟨_, rfl⟩
  have dr1_0 : Wr1.cell? ⟨w.heap.size, 0, none⟩ = some (.int .i64 (c)) := by rw [hWr1]; simp [go_sem, *]
  have dr1_1 : Wr1.cell? ⟨w.heap.size, 1, none⟩ = some (.int .i64 (s)) := by rw [hWr1]; simp [go_sem, *]
  have dr1_2 : Wr1.cell? ⟨w.heap.size, 2, none⟩ = some (.int .i64 (g)) := by rw [hWr1]; simp [go_sem, *]
  have dr1_3 : Wr1.cell? ⟨w.heap.size, 3, none⟩ = some (.int .i64 (d)) := by rw [hWr1]; simp [go_sem, *]
  have dr1_4 : Wr1.cell? ⟨w3.heap.size, 0, none⟩ = some (.int .i64 (c')) := by rw [hWr1]; simp [go_sem, *]
  have dr1_5 : Wr1.cell? ⟨w3.heap.size, 1, none⟩ = some (.int .i64 (s')) := by rw [hWr1]; simp [go_sem, *]
  have dr1_6 : Wr1.cell? ⟨w3.heap.size, 2, none⟩ = some (.int .i64 (g')) := by rw [hWr1]; simp [go_sem, *]
  have dr1_7 : Wr1.cell? ⟨w3.heap.size, 3, none⟩ = some (.int .i64 (d')) := by rw [hWr1]; simp [go_sem, *]
  have dr1_8 : Wr1.cell? ⟨w4.heap.size, 0, none⟩ = some (.int .i64 (c')) := by rw [hWr1]; simp [go_sem, *]
  have dr1_9 : Wr1.cell? ⟨w4.heap.size, 1, none⟩ = some (.int .i64 (s')) := by rw [hWr1]; simp [go_sem, *]
  have dr1_10 : Wr1.cell? ⟨w4.heap.size, 2, none⟩ = some (.int .i64 (g')) := by rw [hWr1]; simp [go_sem, *]
  have dr1_11 : Wr1.cell? ⟨w4.heap.size, 3, none⟩ = some (.int .i64 (d')) := by rw [hWr1]; simp [go_sem, *]
  have hTr1 := Lib.hid (show Tied Wr1 by rw [hWr1]; exact (T.out.under T.out.lt (by repeat (first | exact HB4.out | exact Below.refl _ _ | refine Below.alloc ?_ (by first | omega | (simp; done) | (simp; omega)) _ | refine Below.setCell ?_ (by first | omega | (simp; done) | (simp; omega)) _))))
  have E1r1 := Lib.hid (show ErrR BE1 Wr1 v1 kc by rw [hWr1]; exact (by repeat (first | exact E1_4.out | refine ErrR.alloc ?_ _ | refine ErrR.setCell ?_ (by first | omega | (simp; done) | (simp; omega)) _)))
  have HBr1 := Lib.hid (show Below w.heap.size w Wr1 by rw [hWr1]; exact (by repeat (first | exact HB4.out | exact Below.refl _ _ | refine Below.alloc ?_ (by first | omega | (simp; done) | (simp; omega)) _ | refine Below.setCell ?_ (by first | omega | (simp; done) | (simp; omega)) _)))
  have hs_w3heapsize_r1 : w3.heap.size < Wr1.heap.size := by rw [hWr1]; simp; try omega
  have hs_w4heapsize_r1 : w4.heap.size < Wr1.heap.size := by rw [hWr1]; simp; try omega
  have hs_wheapsize_r1 : w.heap.size < Wr1.heap.size := by rw [hWr1]; simp; try omega
  rw [← hWr1]
  clear hWr1 hc1 hc2 hc3 hc4 hf1 hf2 hf3 hf4
  have HSr1 := Lib.hid (show ∀ w', KF Wr1 w' → w'.cell? ⟨w.heap.size, 0, none⟩ = some (.int .i64 (c)) ∧ w'.cell? ⟨w.heap.size, 1, none⟩ = some (.int .i64 (s)) ∧ w'.cell? ⟨w.heap.size, 2, none⟩ = some (.int .i64 (g)) ∧ w'.cell? ⟨w.heap.size, 3, none⟩ = some (.int .i64 (d)) ∧ w'.cell? ⟨w3.heap.size, 0, none⟩ = some (.int .i64 (c')) ∧ w'.cell? ⟨w3.heap.size, 1, none⟩ = some (.int .i64 (s')) ∧ w'.cell? ⟨w3.heap.size, 2, none⟩ = some (.int .i64 (g')) ∧ w'.cell? ⟨w3.heap.size, 3, none⟩ = some (.int .i64 (d')) ∧ w'.cell? ⟨w4.heap.size, 0, none⟩ = some (.int .i64 (c')) ∧ w'.cell? ⟨w4.heap.size, 1, none⟩ = some (.int .i64 (s')) ∧ w'.cell? ⟨w4.heap.size, 2, none⟩ = some (.int .i64 (g')) ∧ w'.cell? ⟨w4.heap.size, 3, none⟩ = some (.int .i64 (d')) ∧ KF Wr1 w' from fun w' h => ⟨h.cell dr1_0, h.cell dr1_1, h.cell dr1_2, h.cell dr1_3, h.cell dr1_4, h.cell dr1_5, h.cell dr1_6, h.cell dr1_7, h.cell dr1_8, h.cell dr1_9, h.cell dr1_10, h.cell dr1_11, h⟩)
  have HPr1 := Lib.hid (show ∀ w', (w'.cell? ⟨w.heap.size, 0, none⟩ = some (.int .i64 (c)) ∧ w'.cell? ⟨w.heap.size, 1, none⟩ = some (.int .i64 (s)) ∧ w'.cell? ⟨w.heap.size, 2, none⟩ = some (.int .i64 (g)) ∧ w'.cell? ⟨w.heap.size, 3, none⟩ = some (.int .i64 (d)) ∧ w'.cell? ⟨w3.heap.size, 0, none⟩ = some (.int .i64 (c')) ∧ w'.cell? ⟨w3.heap.size, 1, none⟩ = some (.int .i64 (s')) ∧ w'.cell? ⟨w3.heap.size, 2, none⟩ = some (.int .i64 (g')) ∧ w'.cell? ⟨w3.heap.size, 3, none⟩ = some (.int .i64 (d')) ∧ w'.cell? ⟨w4.heap.size, 0, none⟩ = some (.int .i64 (c')) ∧ w'.cell? ⟨w4.heap.size, 1, none⟩ = some (.int .i64 (s')) ∧ w'.cell? ⟨w4.heap.size, 2, none⟩ = some (.int .i64 (g')) ∧ w'.cell? ⟨w4.heap.size, 3, none⟩ = some (.int .i64 (d')) ∧ KF Wr1 w') → KF Wr1 w' from fun w' h => h.2.2.2.2.2.2.2.2.2.2.2.2)
  have Dr1_0 := Lib.hid dr1_0
  have Dr1_1 := Lib.hid dr1_1
  have Dr1_2 := Lib.hid dr1_2
  have Dr1_3 := Lib.hid dr1_3
  have Dr1_4 := Lib.hid dr1_4
  have Dr1_5 := Lib.hid dr1_5
  have Dr1_6 := Lib.hid dr1_6
  have Dr1_7 := Lib.hid dr1_7
  have Dr1_8 := Lib.hid dr1_8
  have Dr1_9 := Lib.hid dr1_9
  have Dr1_10 := Lib.hid dr1_10
  have Dr1_11 := Lib.hid dr1_11
  clear dr1_0 dr1_1 dr1_2 dr1_3 dr1_4 dr1_5 dr1_6 dr1_7 dr1_8 dr1_9 dr1_10 dr1_11
  go_region_held3 (fun w' => w'.cell? ⟨w.heap.size, 0, none⟩ = some (.int .i64 (c)) ∧ w'.cell? ⟨w.heap.size, 1, none⟩ = some (.int .i64 (s)) ∧ w'.cell? ⟨w.heap.size, 2, none⟩ = some (.int .i64 (g)) ∧ w'.cell? ⟨w.heap.size, 3, none⟩ = some (.int .i64 (d)) ∧ w'.cell? ⟨w3.heap.size, 0, none⟩ = some (.int .i64 (c')) ∧ w'.cell? ⟨w3.heap.size, 1, none⟩ = some (.int .i64 (s')) ∧ w'.cell? ⟨w3.heap.size, 2, none⟩ = some (.int .i64 (g')) ∧ w'.cell? ⟨w3.heap.size, 3, none⟩ = some (.int .i64 (d')) ∧ w'.cell? ⟨w4.heap.size, 0, none⟩ = some (.int .i64 (c')) ∧ w'.cell? ⟨w4.heap.size, 1, none⟩ = some (.int .i64 (s')) ∧ w'.cell? ⟨w4.heap.size, 2, none⟩ = some (.int .i64 (g')) ∧ w'.cell? ⟨w4.heap.size, 3, none⟩ = some (.int .i64 (d')) ∧ KF Wr1 w') ((refine HSr1.out _ ?_; first | assumption | exact Below.drew (Below.refl _ _))) (first | (go_at_call 30; (with_reducible refine (law_of _ _ _ _ _).mono ?_); rintro e wnr1 ⟨rfl, hb⟩; have hKr1 := KF.step (HPr1.out _ (by assumption)) hb; clear hb) | (go_at_call 32; (with_reducible refine (volt_right_b _ _ _ _ _).mono ?_); rintro e wnr1 ⟨rfl, hb⟩; have hKr1 := KF.step (HPr1.out _ (by assumption)) hb; clear hb) | (go_at_call 33; (with_reducible refine (ref_right_b _ _ _ _ _).mono ?_); rintro e wnr1 ⟨rfl, hb⟩; have hKr1 := KF.step (HPr1.out _ (by assumption)) hb; clear hb) | (go_at_call 21; (with_reducible refine (Num_any (B := BE1) _ v1 kc (KF.err (HPr1.out _ (by assumption)) E1r1.out) (KF.tied (HPr1.out _ (by assumption)) hTr1.out)).mono ?_); rintro e wnr1 ⟨rfl, hb⟩; have hKr1 := KF.step (HPr1.out _ (by assumption)) hb; clear hb))
  have HBr1n := Lib.hid (Below.trans (B := w.heap.size) HBr1.out (hKr1.mono HBr1.out.size))
  have hzr1 : Wr1.heap.size ≤ wnr1.heap.size := hKr1.size
  go_wp2_with fail
  go_ret
  exact ⟨rfl, (by repeat (first | exact HBr1n.out | exact Below.refl _ _ | refine Below.alloc ?_ (by first | omega | (simp; done) | (simp; omega)) _ | refine Below.setCell ?_ (by first | omega | (simp; done) | (simp; omega)) _))⟩
set_option maxHeartbeats 2000000 in
theorem plays1 (c s g d what n kc c' s' g' d' : Int) (p0 : 0 ≤ what) (p1 : what ≤ 255) (hk : what % 3 = 1) (h : gainR c s g d n = ⟨kc, c', s', g', d'⟩) (w : World) (tied : Tied w) :
    Calls Tryd.prog 11 #[.agg #[.int .i64 c, .int .i64 s, .int .i64 g, .int .i64 d], .int .u8 what, .int .i64 n] w fun e w' => e = .returned (.bool true) ∧ Below w.heap.size w w' := by
  have H := Lib.hid h
  clear h
  have HB0 := Lib.hid (Below.refl w.heap.size w)
  have T := Lib.hid tied
  clear tied
  go_enter Tryd.func11, Tryd.ntmps11
  go_wp2_with fail
  refine (volt_awake _ (by exact (T.out.under T.out.lt (by repeat (first | exact HB0.out | exact Below.refl _ _ | refine Below.alloc ?_ (by first | omega | (simp; done) | (simp; omega)) _ | refine Below.setCell ?_ (by first | omega | (simp; done) | (simp; omega)) _))))).mono ?_
  rintro e w1 ⟨rfl, hb⟩
  have HB1 := Lib.hid (Below.trans (B := w.heap.size) (a := w) (by repeat (first | exact HB0.out | exact Below.refl _ _ | refine Below.alloc ?_ (by first | omega | (simp; done) | (simp; omega)) _ | refine Below.setCell ?_ (by first | omega | (simp; done) | (simp; omega)) _)) (hb.mono (by first | omega | (simp; done) | (simp; omega))))
  have hz1 := hb.size
  try simp at hz1
  obtain ⟨hc1, hf1⟩ := bcell hb
  clear hb
  try have hl_wheapsize_w1 : w.heap.size < w1.heap.size := by omega
  try have hm_wheapsize_w1 : w.heap.size ≤ w1.heap.size := by omega
  try have hl_wheapsize1_w1 : w.heap.size + 1 < w1.heap.size := by omega
  try have hm_wheapsize1_w1 : w.heap.size + 1 ≤ w1.heap.size := by omega
  go_wp2_with fail
  refine (law_of _ _ _ _ _).mono ?_
  rintro e w2 ⟨rfl, hb⟩
  have HB2 := Lib.hid (Below.trans (B := w.heap.size) (a := w) (by repeat (first | exact HB1.out | exact Below.refl _ _ | refine Below.alloc ?_ (by first | omega | (simp; done) | (simp; omega)) _ | refine Below.setCell ?_ (by first | omega | (simp; done) | (simp; omega)) _)) (hb.mono (by first | omega | (simp; done) | (simp; omega))))
  have hz2 := hb.size
  try simp at hz2
  obtain ⟨hc2, hf2⟩ := bcell hb
  clear hb
  try have hl_wheapsize_w2 : w.heap.size < w2.heap.size := by omega
  try have hm_wheapsize_w2 : w.heap.size ≤ w2.heap.size := by omega
  try have hl_wheapsize1_w2 : w.heap.size + 1 < w2.heap.size := by omega
  try have hm_wheapsize1_w2 : w.heap.size + 1 ≤ w2.heap.size := by omega
  try have hl_w1heapsize_w2 : w1.heap.size < w2.heap.size := by omega
  try have hm_w1heapsize_w2 : w1.heap.size ≤ w2.heap.size := by omega
  try have hl_w1heapsize1_w2 : w1.heap.size + 1 < w2.heap.size := by omega
  try have hm_w1heapsize1_w2 : w1.heap.size + 1 ≤ w2.heap.size := by omega
  go_wp2_with fail
  refine (law_do1 H.out _).mono ?_
  rintro e w3 ⟨v1, rfl, hr, hb⟩
  have HB3 := Lib.hid (Below.trans (B := w.heap.size) (a := w) (by repeat (first | exact HB2.out | exact Below.refl _ _ | refine Below.alloc ?_ (by first | omega | (simp; done) | (simp; omega)) _ | refine Below.setCell ?_ (by first | omega | (simp; done) | (simp; omega)) _)) (hb.mono (by first | omega | (simp; done) | (simp; omega))))
  have hz3 := hb.size
  try simp at hz3
  obtain ⟨hc3, hf3⟩ := bcell hb
  obtain ⟨BE1, hr, hBE1⟩ := err_at hr
  try simp at hBE1
  have E1_3 := Lib.hid hr
  clear hr
  clear hb
  try have hl_wheapsize_w3 : w.heap.size < w3.heap.size := by omega
  try have hm_wheapsize_w3 : w.heap.size ≤ w3.heap.size := by omega
  try have hl_wheapsize1_w3 : w.heap.size + 1 < w3.heap.size := by omega
  try have hm_wheapsize1_w3 : w.heap.size + 1 ≤ w3.heap.size := by omega
  try have hl_w1heapsize_w3 : w1.heap.size < w3.heap.size := by omega
  try have hm_w1heapsize_w3 : w1.heap.size ≤ w3.heap.size := by omega
  try have hl_w1heapsize1_w3 : w1.heap.size + 1 < w3.heap.size := by omega
  try have hm_w1heapsize1_w3 : w1.heap.size + 1 ≤ w3.heap.size := by omega
  try have hl_w2heapsize_w3 : w2.heap.size < w3.heap.size := by omega
  try have hm_w2heapsize_w3 : w2.heap.size ≤ w3.heap.size := by omega
  try have hl_w2heapsize1_w3 : w2.heap.size + 1 < w3.heap.size := by omega
  try have hm_w2heapsize1_w3 : w2.heap.size + 1 ≤ w3.heap.size := by omega
  go_wp2_with fail
  refine (ref_do1 H.out _).mono ?_
  rintro e w4 ⟨rfl, hb⟩
  have HB4 := Lib.hid (Below.trans (B := w.heap.size) (a := w) (by repeat (first | exact HB3.out | exact Below.refl _ _ | refine Below.alloc ?_ (by first | omega | (simp; done) | (simp; omega)) _ | refine Below.setCell ?_ (by first | omega | (simp; done) | (simp; omega)) _)) (hb.mono (by first | omega | (simp; done) | (simp; omega))))
  have hz4 := hb.size
  try simp at hz4
  have E1_4 := Lib.hid (ErrR.under (B := BE1) (v := v1) (n := kc) (by repeat (first | exact E1_3.out | refine ErrR.alloc ?_ _ | refine ErrR.setCell ?_ (by first | omega | (simp; done) | (simp; omega)) _)) hb)
  clear E1_3
  obtain ⟨hc4, hf4⟩ := bcell hb
  clear hb
  try have hl_wheapsize_w4 : w.heap.size < w4.heap.size := by omega
  try have hm_wheapsize_w4 : w.heap.size ≤ w4.heap.size := by omega
  try have hl_wheapsize1_w4 : w.heap.size + 1 < w4.heap.size := by omega
  try have hm_wheapsize1_w4 : w.heap.size + 1 ≤ w4.heap.size := by omega
  try have hl_w1heapsize_w4 : w1.heap.size < w4.heap.size := by omega
  try have hm_w1heapsize_w4 : w1.heap.size ≤ w4.heap.size := by omega
  try have hl_w1heapsize1_w4 : w1.heap.size + 1 < w4.heap.size := by omega
  try have hm_w1heapsize1_w4 : w1.heap.size + 1 ≤ w4.heap.size := by omega
  try have hl_w2heapsize_w4 : w2.heap.size < w4.heap.size := by omega
  try have hm_w2heapsize_w4 : w2.heap.size ≤ w4.heap.size := by omega
  try have hl_w2heapsize1_w4 : w2.heap.size + 1 < w4.heap.size := by omega
  try have hm_w2heapsize1_w4 : w2.heap.size + 1 ≤ w4.heap.size := by omega
  try have hl_w3heapsize_w4 : w3.heap.size < w4.heap.size := by omega
  try have hm_w3heapsize_w4 : w3.heap.size ≤ w4.heap.size := by omega
  try have hl_w3heapsize1_w4 : w3.heap.size + 1 < w4.heap.size := by omega
  try have hm_w3heapsize1_w4 : w3.heap.size + 1 ≤ w4.heap.size := by omega
  go_wp2_with fail
  obtain ⟨Wr1, hWr1⟩ : ∃ Wr1, Wr1 = w4.alloc (Obj.cells #[Value.int IntKind.i64 (c'), Value.int IntKind.i64 (s'), Value.int IntKind.i64 (g'), Value.int IntKind.i64 (d')] 52) := ⟨_, rfl⟩
  have dr1_0 : Wr1.cell? ⟨w.heap.size, 0, none⟩ = some (.int .i64 (c)) := by rw [hWr1]; simp [go_sem, *]
  have dr1_1 : Wr1.cell? ⟨w.heap.size, 1, none⟩ = some (.int .i64 (s)) := by rw [hWr1]; simp [go_sem, *]
  have dr1_2 : Wr1.cell? ⟨w.heap.size, 2, none⟩ = some (.int .i64 (g)) := by rw [hWr1]; simp [go_sem, *]
  have dr1_3 : Wr1.cell? ⟨w.heap.size, 3, none⟩ = some (.int .i64 (d)) := by rw [hWr1]; simp [go_sem, *]
  have dr1_4 : Wr1.cell? ⟨w3.heap.size, 0, none⟩ = some (.int .i64 (c')) := by rw [hWr1]; simp [go_sem, *]
  have dr1_5 : Wr1.cell? ⟨w3.heap.size, 1, none⟩ = some (.int .i64 (s')) := by rw [hWr1]; simp [go_sem, *]
  have dr1_6 : Wr1.cell? ⟨w3.heap.size, 2, none⟩ = some (.int .i64 (g')) := by rw [hWr1]; simp [go_sem, *]
  have dr1_7 : Wr1.cell? ⟨w3.heap.size, 3, none⟩ = some (.int .i64 (d')) := by rw [hWr1]; simp [go_sem, *]
  have dr1_8 : Wr1.cell? ⟨w4.heap.size, 0, none⟩ = some (.int .i64 (c')) := by rw [hWr1]; simp [go_sem, *]
  have dr1_9 : Wr1.cell? ⟨w4.heap.size, 1, none⟩ = some (.int .i64 (s')) := by rw [hWr1]; simp [go_sem, *]
  have dr1_10 : Wr1.cell? ⟨w4.heap.size, 2, none⟩ = some (.int .i64 (g')) := by rw [hWr1]; simp [go_sem, *]
  have dr1_11 : Wr1.cell? ⟨w4.heap.size, 3, none⟩ = some (.int .i64 (d')) := by rw [hWr1]; simp [go_sem, *]
  have hTr1 := Lib.hid (show Tied Wr1 by rw [hWr1]; exact (T.out.under T.out.lt (by repeat (first | exact HB4.out | exact Below.refl _ _ | refine Below.alloc ?_ (by first | omega | (simp; done) | (simp; omega)) _ | refine Below.setCell ?_ (by first | omega | (simp; done) | (simp; omega)) _))))
  have E1r1 := Lib.hid (show ErrR BE1 Wr1 v1 kc by rw [hWr1]; exact (by repeat (first | exact E1_4.out | refine ErrR.alloc ?_ _ | refine ErrR.setCell ?_ (by first | omega | (simp; done) | (simp; omega)) _)))
  have HBr1 := Lib.hid (show Below w.heap.size w Wr1 by rw [hWr1]; exact (by repeat (first | exact HB4.out | exact Below.refl _ _ | refine Below.alloc ?_ (by first | omega | (simp; done) | (simp; omega)) _ | refine Below.setCell ?_ (by first | omega | (simp; done) | (simp; omega)) _)))
  have hs_w3heapsize_r1 : w3.heap.size < Wr1.heap.size := by rw [hWr1]; simp; try omega
  have hs_w4heapsize_r1 : w4.heap.size < Wr1.heap.size := by rw [hWr1]; simp; try omega
  have hs_wheapsize_r1 : w.heap.size < Wr1.heap.size := by rw [hWr1]; simp; try omega
  rw [← hWr1]
  clear hWr1 hc1 hc2 hc3 hc4 hf1 hf2 hf3 hf4
  have HSr1 := Lib.hid (show ∀ w', KF Wr1 w' → w'.cell? ⟨w.heap.size, 0, none⟩ = some (.int .i64 (c)) ∧ w'.cell? ⟨w.heap.size, 1, none⟩ = some (.int .i64 (s)) ∧ w'.cell? ⟨w.heap.size, 2, none⟩ = some (.int .i64 (g)) ∧ w'.cell? ⟨w.heap.size, 3, none⟩ = some (.int .i64 (d)) ∧ w'.cell? ⟨w3.heap.size, 0, none⟩ = some (.int .i64 (c')) ∧ w'.cell? ⟨w3.heap.size, 1, none⟩ = some (.int .i64 (s')) ∧ w'.cell? ⟨w3.heap.size, 2, none⟩ = some (.int .i64 (g')) ∧ w'.cell? ⟨w3.heap.size, 3, none⟩ = some (.int .i64 (d')) ∧ w'.cell? ⟨w4.heap.size, 0, none⟩ = some (.int .i64 (c')) ∧ w'.cell? ⟨w4.heap.size, 1, none⟩ = some (.int .i64 (s')) ∧ w'.cell? ⟨w4.heap.size, 2, none⟩ = some (.int .i64 (g')) ∧ w'.cell? ⟨w4.heap.size, 3, none⟩ = some (.int .i64 (d')) ∧ KF Wr1 w' from fun w' h => ⟨h.cell dr1_0, h.cell dr1_1, h.cell dr1_2, h.cell dr1_3, h.cell dr1_4, h.cell dr1_5, h.cell dr1_6, h.cell dr1_7, h.cell dr1_8, h.cell dr1_9, h.cell dr1_10, h.cell dr1_11, h⟩)
  have HPr1 := Lib.hid (show ∀ w', (w'.cell? ⟨w.heap.size, 0, none⟩ = some (.int .i64 (c)) ∧ w'.cell? ⟨w.heap.size, 1, none⟩ = some (.int .i64 (s)) ∧ w'.cell? ⟨w.heap.size, 2, none⟩ = some (.int .i64 (g)) ∧ w'.cell? ⟨w.heap.size, 3, none⟩ = some (.int .i64 (d)) ∧ w'.cell? ⟨w3.heap.size, 0, none⟩ = some (.int .i64 (c')) ∧ w'.cell? ⟨w3.heap.size, 1, none⟩ = some (.int .i64 (s')) ∧ w'.cell? ⟨w3.heap.size, 2, none⟩ = some (.int .i64 (g')) ∧ w'.cell? ⟨w3.heap.size, 3, none⟩ = some (.int .i64 (d')) ∧ w'.cell? ⟨w4.heap.size, 0, none⟩ = some (.int .i64 (c')) ∧ w'.cell? ⟨w4.heap.size, 1, none⟩ = some (.int .i64 (s')) ∧ w'.cell? ⟨w4.heap.size, 2, none⟩ = some (.int .i64 (g')) ∧ w'.cell? ⟨w4.heap.size, 3, none⟩ = some (.int .i64 (d')) ∧ KF Wr1 w') → KF Wr1 w' from fun w' h => h.2.2.2.2.2.2.2.2.2.2.2.2)
  have Dr1_0 := Lib.hid dr1_0
  have Dr1_1 := Lib.hid dr1_1
  have Dr1_2 := Lib.hid dr1_2
  have Dr1_3 := Lib.hid dr1_3
  have Dr1_4 := Lib.hid dr1_4
  have Dr1_5 := Lib.hid dr1_5
  have Dr1_6 := Lib.hid dr1_6
  have Dr1_7 := Lib.hid dr1_7
  have Dr1_8 := Lib.hid dr1_8
  have Dr1_9 := Lib.hid dr1_9
  have Dr1_10 := Lib.hid dr1_10
  have Dr1_11 := Lib.hid dr1_11
  clear dr1_0 dr1_1 dr1_2 dr1_3 dr1_4 dr1_5 dr1_6 dr1_7 dr1_8 dr1_9 dr1_10 dr1_11
  go_region_held3 (fun w' => w'.cell? ⟨w.heap.size, 0, none⟩ = some (.int .i64 (c)) ∧ w'.cell? ⟨w.heap.size, 1, none⟩ = some (.int .i64 (s)) ∧ w'.cell? ⟨w.heap.size, 2, none⟩ = some (.int .i64 (g)) ∧ w'.cell? ⟨w.heap.size, 3, none⟩ = some (.int .i64 (d)) ∧ w'.cell? ⟨w3.heap.size, 0, none⟩ = some (.int .i64 (c')) ∧ w'.cell? ⟨w3.heap.size, 1, none⟩ = some (.int .i64 (s')) ∧ w'.cell? ⟨w3.heap.size, 2, none⟩ = some (.int .i64 (g')) ∧ w'.cell? ⟨w3.heap.size, 3, none⟩ = some (.int .i64 (d')) ∧ w'.cell? ⟨w4.heap.size, 0, none⟩ = some (.int .i64 (c')) ∧ w'.cell? ⟨w4.heap.size, 1, none⟩ = some (.int .i64 (s')) ∧ w'.cell? ⟨w4.heap.size, 2, none⟩ = some (.int .i64 (g')) ∧ w'.cell? ⟨w4.heap.size, 3, none⟩ = some (.int .i64 (d')) ∧ KF Wr1 w') ((refine HSr1.out _ ?_; first | assumption | exact Below.drew (Below.refl _ _))) (first | (go_at_call 30; (with_reducible refine (law_of _ _ _ _ _).mono ?_); rintro e wnr1 ⟨rfl, hb⟩; have hKr1 := KF.step (HPr1.out _ (by assumption)) hb; clear hb) | (go_at_call 32; (with_reducible refine (volt_right_b _ _ _ _ _).mono ?_); rintro e wnr1 ⟨rfl, hb⟩; have hKr1 := KF.step (HPr1.out _ (by assumption)) hb; clear hb) | (go_at_call 33; (with_reducible refine (ref_right_b _ _ _ _ _).mono ?_); rintro e wnr1 ⟨rfl, hb⟩; have hKr1 := KF.step (HPr1.out _ (by assumption)) hb; clear hb) | (go_at_call 21; (with_reducible refine (Num_any (B := BE1) _ v1 kc (KF.err (HPr1.out _ (by assumption)) E1r1.out) (KF.tied (HPr1.out _ (by assumption)) hTr1.out)).mono ?_); rintro e wnr1 ⟨rfl, hb⟩; have hKr1 := KF.step (HPr1.out _ (by assumption)) hb; clear hb))
  have HBr1n := Lib.hid (Below.trans (B := w.heap.size) HBr1.out (hKr1.mono HBr1.out.size))
  have hzr1 : Wr1.heap.size ≤ wnr1.heap.size := hKr1.size
  go_wp2_with fail
  go_ret
  exact ⟨rfl, (by repeat (first | exact HBr1n.out | exact Below.refl _ _ | refine Below.alloc ?_ (by first | omega | (simp; done) | (simp; omega)) _ | refine Below.setCell ?_ (by first | omega | (simp; done) | (simp; omega)) _))⟩
set_option maxHeartbeats 2000000 in
theorem plays2 (c s g d what n kc c' s' g' d' : Int) (p0 : 0 ≤ what) (p1 : what ≤ 255) (hk : what % 3 = 2) (h : setR c s g d n = ⟨kc, c', s', g', d'⟩) (w : World) (tied : Tied w) :
    Calls Tryd.prog 11 #[.agg #[.int .i64 c, .int .i64 s, .int .i64 g, .int .i64 d], .int .u8 what, .int .i64 n] w fun e w' => e = .returned (.bool true) ∧ Below w.heap.size w w' := by
  have H := Lib.hid h
  clear h
  have HB0 := Lib.hid (Below.refl w.heap.size w)
  have T := Lib.hid tied
  clear tied
  go_enter Tryd.func11, Tryd.ntmps11
  go_wp2_with fail
  refine (volt_awake _ (by exact (T.out.under T.out.lt (by repeat (first | exact HB0.out | exact Below.refl _ _ | refine Below.alloc ?_ (by first | omega | (simp; done) | (simp; omega)) _ | refine Below.setCell ?_ (by first | omega | (simp; done) | (simp; omega)) _))))).mono ?_
  rintro e w1 ⟨rfl, hb⟩
  have HB1 := Lib.hid (Below.trans (B := w.heap.size) (a := w) (by repeat (first | exact HB0.out | exact Below.refl _ _ | refine Below.alloc ?_ (by first | omega | (simp; done) | (simp; omega)) _ | refine Below.setCell ?_ (by first | omega | (simp; done) | (simp; omega)) _)) (hb.mono (by first | omega | (simp; done) | (simp; omega))))
  have hz1 := hb.size
  try simp at hz1
  obtain ⟨hc1, hf1⟩ := bcell hb
  clear hb
  try have hl_wheapsize_w1 : w.heap.size < w1.heap.size := by omega
  try have hm_wheapsize_w1 : w.heap.size ≤ w1.heap.size := by omega
  try have hl_wheapsize1_w1 : w.heap.size + 1 < w1.heap.size := by omega
  try have hm_wheapsize1_w1 : w.heap.size + 1 ≤ w1.heap.size := by omega
  go_wp2_with fail
  refine (law_of _ _ _ _ _).mono ?_
  rintro e w2 ⟨rfl, hb⟩
  have HB2 := Lib.hid (Below.trans (B := w.heap.size) (a := w) (by repeat (first | exact HB1.out | exact Below.refl _ _ | refine Below.alloc ?_ (by first | omega | (simp; done) | (simp; omega)) _ | refine Below.setCell ?_ (by first | omega | (simp; done) | (simp; omega)) _)) (hb.mono (by first | omega | (simp; done) | (simp; omega))))
  have hz2 := hb.size
  try simp at hz2
  obtain ⟨hc2, hf2⟩ := bcell hb
  clear hb
  try have hl_wheapsize_w2 : w.heap.size < w2.heap.size := by omega
  try have hm_wheapsize_w2 : w.heap.size ≤ w2.heap.size := by omega
  try have hl_wheapsize1_w2 : w.heap.size + 1 < w2.heap.size := by omega
  try have hm_wheapsize1_w2 : w.heap.size + 1 ≤ w2.heap.size := by omega
  try have hl_w1heapsize_w2 : w1.heap.size < w2.heap.size := by omega
  try have hm_w1heapsize_w2 : w1.heap.size ≤ w2.heap.size := by omega
  try have hl_w1heapsize1_w2 : w1.heap.size + 1 < w2.heap.size := by omega
  try have hm_w1heapsize1_w2 : w1.heap.size + 1 ≤ w2.heap.size := by omega
  go_wp2_with fail
  refine (law_do2 H.out _).mono ?_
  rintro e w3 ⟨v1, rfl, hr, hb⟩
  have HB3 := Lib.hid (Below.trans (B := w.heap.size) (a := w) (by repeat (first | exact HB2.out | exact Below.refl _ _ | refine Below.alloc ?_ (by first | omega | (simp; done) | (simp; omega)) _ | refine Below.setCell ?_ (by first | omega | (simp; done) | (simp; omega)) _)) (hb.mono (by first | omega | (simp; done) | (simp; omega))))
  have hz3 := hb.size
  try simp at hz3
  obtain ⟨hc3, hf3⟩ := bcell hb
  obtain ⟨BE1, hr, hBE1⟩ := err_at hr
  try simp at hBE1
  have E1_3 := Lib.hid hr
  clear hr
  clear hb
  try have hl_wheapsize_w3 : w.heap.size < w3.heap.size := by omega
  try have hm_wheapsize_w3 : w.heap.size ≤ w3.heap.size := by omega
  try have hl_wheapsize1_w3 : w.heap.size + 1 < w3.heap.size := by omega
  try have hm_wheapsize1_w3 : w.heap.size + 1 ≤ w3.heap.size := by omega
  try have hl_w1heapsize_w3 : w1.heap.size < w3.heap.size := by omega
  try have hm_w1heapsize_w3 : w1.heap.size ≤ w3.heap.size := by omega
  try have hl_w1heapsize1_w3 : w1.heap.size + 1 < w3.heap.size := by omega
  try have hm_w1heapsize1_w3 : w1.heap.size + 1 ≤ w3.heap.size := by omega
  try have hl_w2heapsize_w3 : w2.heap.size < w3.heap.size := by omega
  try have hm_w2heapsize_w3 : w2.heap.size ≤ w3.heap.size := by omega
  try have hl_w2heapsize1_w3 : w2.heap.size + 1 < w3.heap.size := by omega
  try have hm_w2heapsize1_w3 : w2.heap.size + 1 ≤ w3.heap.size := by omega
  go_wp2_with fail
  refine (ref_do2 H.out _).mono ?_
  rintro e w4 ⟨rfl, hb⟩
  have HB4 := Lib.hid (Below.trans (B := w.heap.size) (a := w) (by repeat (first | exact HB3.out | exact Below.refl _ _ | refine Below.alloc ?_ (by first | omega | (simp; done) | (simp; omega)) _ | refine Below.setCell ?_ (by first | omega | (simp; done) | (simp; omega)) _)) (hb.mono (by first | omega | (simp; done) | (simp; omega))))
  have hz4 := hb.size
  try simp at hz4
  have E1_4 := Lib.hid (ErrR.under (B := BE1) (v := v1) (n := kc) (by repeat (first | exact E1_3.out | refine ErrR.alloc ?_ _ | refine ErrR.setCell ?_ (by first | omega | (simp; done) | (simp; omega)) _)) hb)
  clear E1_3
  obtain ⟨hc4, hf4⟩ := bcell hb
  clear hb
  try have hl_wheapsize_w4 : w.heap.size < w4.heap.size := by omega
  try have hm_wheapsize_w4 : w.heap.size ≤ w4.heap.size := by omega
  try have hl_wheapsize1_w4 : w.heap.size + 1 < w4.heap.size := by omega
  try have hm_wheapsize1_w4 : w.heap.size + 1 ≤ w4.heap.size := by omega
  try have hl_w1heapsize_w4 : w1.heap.size < w4.heap.size := by omega
  try have hm_w1heapsize_w4 : w1.heap.size ≤ w4.heap.size := by omega
  try have hl_w1heapsize1_w4 : w1.heap.size + 1 < w4.heap.size := by omega
  try have hm_w1heapsize1_w4 : w1.heap.size + 1 ≤ w4.heap.size := by omega
  try have hl_w2heapsize_w4 : w2.heap.size < w4.heap.size := by omega
  try have hm_w2heapsize_w4 : w2.heap.size ≤ w4.heap.size := by omega
  try have hl_w2heapsize1_w4 : w2.heap.size + 1 < w4.heap.size := by omega
  try have hm_w2heapsize1_w4 : w2.heap.size + 1 ≤ w4.heap.size := by omega
  try have hl_w3heapsize_w4 : w3.heap.size < w4.heap.size := by omega
  try have hm_w3heapsize_w4 : w3.heap.size ≤ w4.heap.size := by omega
  try have hl_w3heapsize1_w4 : w3.heap.size + 1 < w4.heap.size := by omega
  try have hm_w3heapsize1_w4 : w3.heap.size + 1 ≤ w4.heap.size := by omega
  go_wp2_with fail
  obtain ⟨Wr1, hWr1⟩ : ∃ Wr1, Wr1 = w4.alloc (Obj.cells #[Value.int IntKind.i64 (c'), Value.int IntKind.i64 (s'), Value.int IntKind.i64 (g'), Value.int IntKind.i64 (d')] 52) := ⟨_, rfl⟩
  have dr1_0 : Wr1.cell? ⟨w.heap.size, 0, none⟩ = some (.int .i64 (c)) := by rw [hWr1]; simp [go_sem, *]
  have dr1_1 : Wr1.cell? ⟨w.heap.size, 1, none⟩ = some (.int .i64 (s)) := by rw [hWr1]; simp [go_sem, *]
  have dr1_2 : Wr1.cell? ⟨w.heap.size, 2, none⟩ = some (.int .i64 (g)) := by rw [hWr1]; simp [go_sem, *]
  have dr1_3 : Wr1.cell? ⟨w.heap.size, 3, none⟩ = some (.int .i64 (d)) := by rw [hWr1]; simp [go_sem, *]
  have dr1_4 : Wr1.cell? ⟨w3.heap.size, 0, none⟩ = some (.int .i64 (c')) := by rw [hWr1]; simp [go_sem, *]
  have dr1_5 : Wr1.cell? ⟨w3.heap.size, 1, none⟩ = some (.int .i64 (s')) := by rw [hWr1]; simp [go_sem, *]
  have dr1_6 : Wr1.cell? ⟨w3.heap.size, 2, none⟩ = some (.int .i64 (g')) := by rw [hWr1]; simp [go_sem, *]
  have dr1_7 : Wr1.cell? ⟨w3.heap.size, 3, none⟩ = some (.int .i64 (d')) := by rw [hWr1]; simp [go_sem, *]
  have dr1_8 : Wr1.cell? ⟨w4.heap.size, 0, none⟩ = some (.int .i64 (c')) := by rw [hWr1]; simp [go_sem, *]
  have dr1_9 : Wr1.cell? ⟨w4.heap.size, 1, none⟩ = some (.int .i64 (s')) := by rw [hWr1]; simp [go_sem, *]
  have dr1_10 : Wr1.cell? ⟨w4.heap.size, 2, none⟩ = some (.int .i64 (g')) := by rw [hWr1]; simp [go_sem, *]
  have dr1_11 : Wr1.cell? ⟨w4.heap.size, 3, none⟩ = some (.int .i64 (d')) := by rw [hWr1]; simp [go_sem, *]
  have hTr1 := Lib.hid (show Tied Wr1 by rw [hWr1]; exact (T.out.under T.out.lt (by repeat (first | exact HB4.out | exact Below.refl _ _ | refine Below.alloc ?_ (by first | omega | (simp; done) | (simp; omega)) _ | refine Below.setCell ?_ (by first | omega | (simp; done) | (simp; omega)) _))))
  have E1r1 := Lib.hid (show ErrR BE1 Wr1 v1 kc by rw [hWr1]; exact (by repeat (first | exact E1_4.out | refine ErrR.alloc ?_ _ | refine ErrR.setCell ?_ (by first | omega | (simp; done) | (simp; omega)) _)))
  have HBr1 := Lib.hid (show Below w.heap.size w Wr1 by rw [hWr1]; exact (by repeat (first | exact HB4.out | exact Below.refl _ _ | refine Below.alloc ?_ (by first | omega | (simp; done) | (simp; omega)) _ | refine Below.setCell ?_ (by first | omega | (simp; done) | (simp; omega)) _)))
  have hs_w3heapsize_r1 : w3.heap.size < Wr1.heap.size := by rw [hWr1]; simp; try omega
  have hs_w4heapsize_r1 : w4.heap.size < Wr1.heap.size := by rw [hWr1]; simp; try omega
  have hs_wheapsize_r1 : w.heap.size < Wr1.heap.size := by rw [hWr1]; simp; try omega
  rw [← hWr1]
  clear hWr1 hc1 hc2 hc3 hc4 hf1 hf2 hf3 hf4
  have HSr1 := Lib.hid (show ∀ w', KF Wr1 w' → w'.cell? ⟨w.heap.size, 0, none⟩ = some (.int .i64 (c)) ∧ w'.cell? ⟨w.heap.size, 1, none⟩ = some (.int .i64 (s)) ∧ w'.cell? ⟨w.heap.size, 2, none⟩ = some (.int .i64 (g)) ∧ w'.cell? ⟨w.heap.size, 3, none⟩ = some (.int .i64 (d)) ∧ w'.cell? ⟨w3.heap.size, 0, none⟩ = some (.int .i64 (c')) ∧ w'.cell? ⟨w3.heap.size, 1, none⟩ = some (.int .i64 (s')) ∧ w'.cell? ⟨w3.heap.size, 2, none⟩ = some (.int .i64 (g')) ∧ w'.cell? ⟨w3.heap.size, 3, none⟩ = some (.int .i64 (d')) ∧ w'.cell? ⟨w4.heap.size, 0, none⟩ = some (.int .i64 (c')) ∧ w'.cell? ⟨w4.heap.size, 1, none⟩ = some (.int .i64 (s')) ∧ w'.cell? ⟨w4.heap.size, 2, none⟩ = some (.int .i64 (g')) ∧ w'.cell? ⟨w4.heap.size, 3, none⟩ = some (.int .i64 (d')) ∧ KF Wr1 w' from fun w' h => ⟨h.cell dr1_0, h.cell dr1_1, h.cell dr1_2, h.cell dr1_3, h.cell dr1_4, h.cell dr1_5, h.cell dr1_6, h.cell dr1_7, h.cell dr1_8, h.cell dr1_9, h.cell dr1_10, h.cell dr1_11, h⟩)
  have HPr1 := Lib.hid (show ∀ w', (w'.cell? ⟨w.heap.size, 0, none⟩ = some (.int .i64 (c)) ∧ w'.cell? ⟨w.heap.size, 1, none⟩ = some (.int .i64 (s)) ∧ w'.cell? ⟨w.heap.size, 2, none⟩ = some (.int .i64 (g)) ∧ w'.cell? ⟨w.heap.size, 3, none⟩ = some (.int .i64 (d)) ∧ w'.cell? ⟨w3.heap.size, 0, none⟩ = some (.int .i64 (c')) ∧ w'.cell? ⟨w3.heap.size, 1, none⟩ = some (.int .i64 (s')) ∧ w'.cell? ⟨w3.heap.size, 2, none⟩ = some (.int .i64 (g')) ∧ w'.cell? ⟨w3.heap.size, 3, none⟩ = some (.int .i64 (d')) ∧ w'.cell? ⟨w4.heap.size, 0, none⟩ = some (.int .i64 (c')) ∧ w'.cell? ⟨w4.heap.size, 1, none⟩ = some (.int .i64 (s')) ∧ w'.cell? ⟨w4.heap.size, 2, none⟩ = some (.int .i64 (g')) ∧ w'.cell? ⟨w4.heap.size, 3, none⟩ = some (.int .i64 (d')) ∧ KF Wr1 w') → KF Wr1 w' from fun w' h => h.2.2.2.2.2.2.2.2.2.2.2.2)
  have Dr1_0 := Lib.hid dr1_0
  have Dr1_1 := Lib.hid dr1_1
  have Dr1_2 := Lib.hid dr1_2
  have Dr1_3 := Lib.hid dr1_3
  have Dr1_4 := Lib.hid dr1_4
  have Dr1_5 := Lib.hid dr1_5
  have Dr1_6 := Lib.hid dr1_6
  have Dr1_7 := Lib.hid dr1_7
  have Dr1_8 := Lib.hid dr1_8
  have Dr1_9 := Lib.hid dr1_9
  have Dr1_10 := Lib.hid dr1_10
  have Dr1_11 := Lib.hid dr1_11
  clear dr1_0 dr1_1 dr1_2 dr1_3 dr1_4 dr1_5 dr1_6 dr1_7 dr1_8 dr1_9 dr1_10 dr1_11
  go_region_held3 (fun w' => w'.cell? ⟨w.heap.size, 0, none⟩ = some (.int .i64 (c)) ∧ w'.cell? ⟨w.heap.size, 1, none⟩ = some (.int .i64 (s)) ∧ w'.cell? ⟨w.heap.size, 2, none⟩ = some (.int .i64 (g)) ∧ w'.cell? ⟨w.heap.size, 3, none⟩ = some (.int .i64 (d)) ∧ w'.cell? ⟨w3.heap.size, 0, none⟩ = some (.int .i64 (c')) ∧ w'.cell? ⟨w3.heap.size, 1, none⟩ = some (.int .i64 (s')) ∧ w'.cell? ⟨w3.heap.size, 2, none⟩ = some (.int .i64 (g')) ∧ w'.cell? ⟨w3.heap.size, 3, none⟩ = some (.int .i64 (d')) ∧ w'.cell? ⟨w4.heap.size, 0, none⟩ = some (.int .i64 (c')) ∧ w'.cell? ⟨w4.heap.size, 1, none⟩ = some (.int .i64 (s')) ∧ w'.cell? ⟨w4.heap.size, 2, none⟩ = some (.int .i64 (g')) ∧ w'.cell? ⟨w4.heap.size, 3, none⟩ = some (.int .i64 (d')) ∧ KF Wr1 w') ((refine HSr1.out _ ?_; first | assumption | exact Below.drew (Below.refl _ _))) (first | (go_at_call 30; (with_reducible refine (law_of _ _ _ _ _).mono ?_); rintro e wnr1 ⟨rfl, hb⟩; have hKr1 := KF.step (HPr1.out _ (by assumption)) hb; clear hb) | (go_at_call 32; (with_reducible refine (volt_right_b _ _ _ _ _).mono ?_); rintro e wnr1 ⟨rfl, hb⟩; have hKr1 := KF.step (HPr1.out _ (by assumption)) hb; clear hb) | (go_at_call 33; (with_reducible refine (ref_right_b _ _ _ _ _).mono ?_); rintro e wnr1 ⟨rfl, hb⟩; have hKr1 := KF.step (HPr1.out _ (by assumption)) hb; clear hb) | (go_at_call 21; (with_reducible refine (Num_any (B := BE1) _ v1 kc (KF.err (HPr1.out _ (by assumption)) E1r1.out) (KF.tied (HPr1.out _ (by assumption)) hTr1.out)).mono ?_); rintro e wnr1 ⟨rfl, hb⟩; have hKr1 := KF.step (HPr1.out _ (by assumption)) hb; clear hb))
  have HBr1n := Lib.hid (Below.trans (B := w.heap.size) HBr1.out (hKr1.mono HBr1.out.size))
  have hzr1 : Wr1.heap.size ≤ wnr1.heap.size := hKr1.size
  go_wp2_with fail
  go_ret
  exact ⟨rfl, (by repeat (first | exact HBr1n.out | exact Below.refl _ _ | refine Below.alloc ?_ (by first | omega | (simp; done) | (simp; omega)) _ | refine Below.setCell ?_ (by first | omega | (simp; done) | (simp; omega)) _))⟩
theorem plays_walk (c s g d what n : Int) (w : World) (w1 : (Lit.int .i64 c).wf = true) (w2 : (Lit.int .i64 s).wf = true) (w3 : (Lit.int .i64 g).wf = true) (w4 : (Lit.int .i64 d).wf = true) (wf1 : (Lit.int .u8 what).wf = true) (wf2 : (Lit.int .i64 n).wf = true) (tied : Tied w) :
    Calls Tryd.prog 11 #[.agg #[.int .i64 c, .int .i64 s, .int .i64 g, .int .i64 d], .int .u8 what, .int .i64 n] w fun e w' => e = .returned (.bool true) ∧ Below w.heap.size w w' := by
  have h1 := wf_u8 wf1
  rcases (show what % 3 = 0 ∨ what % 3 = 1 ∨ what % 3 = 2 by omega) with h | h | h
  · exact plays0 c s g d what n _ _ _ _ _ h1.1 h1.2 h rfl w tied
  · exact plays1 c s g d what n _ _ _ _ _ h1.1 h1.2 h rfl w tied
  · exact plays2 c s g d what n _ _ _ _ _ h1.1 h1.2 h rfl w tied
end Go.Proofs.YtlapklghioinfaaDoor
