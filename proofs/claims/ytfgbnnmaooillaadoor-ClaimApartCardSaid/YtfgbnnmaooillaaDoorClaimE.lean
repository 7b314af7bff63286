/- Robots that enter one by one, and one that moves and comes back: plain laws. -/
import Derived.Test.YtfgbnnmaooillaaDoorClaimP
namespace Go.Proofs.YtfgbnnmaooillaaDoor
open Go.RowKit Go.Proofs.YtfgbnnmaooillaaDoorW.PrintWords Go.Proofs.YtfgbnnmaooillaaDoorW.PrintLast Go.Proofs.YtfgbnnmaooillaaDoorW.PrintMore Go.Proofs.YtfgbnnmaooillaaDoor.PClaimTakes
set_option linter.unusedVariables false
set_option linter.unusedSimpArgs false

/-- where the first k robots are that entered their cells one by one -/
def enterTo (zs : List Int) : Nat → List Int
  | 0 => []
  | k + 1 => if enterC (enterTo zs k) k (rd zs k % 64) = 0 then withL (enterTo zs k) k (rd zs k % 64) else enterTo zs k
/-- all are on the map's cells or off it, no two in one -/
structure Sound (l : List Int) : Prop where
  range : ∀ i, placeL l i = -1 ∨ (0 ≤ placeL l i ∧ placeL l i ≤ 63)
  apart : ∀ i j, i ≠ j → placeL l i ≠ -1 → placeL l i ≠ placeL l j
theorem placeL_nil (i : Nat) : placeL [] i = -1 := rfl
theorem Sound.nil : Sound [] := ⟨fun i => .inl rfl, fun i j _ h => absurd rfl h⟩
theorem free_place {l : List Int} {c : Int} (h : freeB l c = true) (hc : c ≠ -1) (i : Nat) : placeL l i ≠ c := by
  unfold freeB at h
  rw [decide_eq_true_eq] at h
  intro e
  rcases h with h | h
  · exact hc h
  · rcases Nat.lt_or_ge i l.length with q | q
    · rw [placeL_lt l i q] at e
      exact h (by rw [← e]; exact rd_mem q)
    · rw [placeL_ge l i q] at e; exact hc e.symm
theorem free_of {l : List Int} {c : Int} (h : ∀ i, placeL l i ≠ c) : freeB l c = true := by
  unfold freeB
  rw [decide_eq_true_eq]
  right
  intro hm
  obtain ⟨i, hi, e⟩ := List.getElem_of_mem hm
  exact h i (by rw [placeL_lt l i hi, rd_nat l i hi, e])
theorem Sound.with {l : List Int} (h : Sound l) (r : Nat) (c : Int) (c0 : 0 ≤ c) (c1 : c ≤ 63) (hf : ∀ i, i ≠ r → placeL l i ≠ c) : Sound (withL l r c) := by
  refine ⟨fun i => ?_, fun i j hij hi => ?_⟩
  · rw [placeL_with]
    by_cases q : i = r
    · rw [if_pos q]; exact .inr ⟨c0, c1⟩
    · rw [if_neg q]; exact h.range i
  · rw [placeL_with] at hi ⊢
    rw [placeL_with]
    by_cases q : i = r
    · rw [if_pos q, if_neg (by omega)]
      exact fun e => hf j (by omega) e.symm
    · rw [if_neg q] at hi ⊢
      by_cases p : j = r
      · rw [if_pos p]; exact hf i q
      · rw [if_neg p]; exact h.apart i j hij hi
theorem enterC_zero {l : List Int} {r c : Int} (h : enterC l r c = 0) : mayB r c = true ∧ onB l r.toNat = false ∧ freeB l c = true := by
  unfold enterC at h
  by_cases h1 : mayB r c = false
  · rw [if_pos h1] at h; cases h
  · rw [if_neg h1] at h
    by_cases h2 : onB l r.toNat = true
    · rw [if_pos h2] at h; cases h
    · rw [if_neg h2] at h
      by_cases h3 : freeB l c = false
      · rw [if_pos h3] at h; cases h
      · exact ⟨by simpa using h1, by simpa using h2, by simpa using h3⟩
theorem moveC_zero {l : List Int} {r c : Int} (h : moveC l r c = 0) : mayB r c = true ∧ onB l r.toNat = true ∧ (placeL l r.toNat = c ∨ freeB l c = true) := by
  unfold moveC at h
  by_cases h1 : mayB r c = false
  · rw [if_pos h1] at h; cases h
  · rw [if_neg h1] at h
    by_cases h2 : onB l r.toNat = false
    · rw [if_pos h2] at h; cases h
    · rw [if_neg h2] at h
      by_cases h3 : placeL l r.toNat ≠ c ∧ freeB l c = false
      · rw [if_pos h3] at h; cases h
      · refine ⟨by simpa using h1, by simpa using h2, ?_⟩
        by_cases h4 : placeL l r.toNat = c
        · exact .inl h4
        · exact .inr (by cases hf : freeB l c with | true => rfl | false => exact absurd ⟨h4, hf⟩ h3)
theorem mayB_c {r c : Int} (h : mayB r c = true) : 0 ≤ r ∧ r ≤ 9 ∧ 0 ≤ c ∧ c ≤ 63 := by simpa [mayB] using h
theorem enterTo_sound (zs : List Int) : ∀ k, Sound (enterTo zs k) ∧ (enterTo zs k).length ≤ k
  | 0 => ⟨Sound.nil, Nat.le_refl _⟩
  | k + 1 => by
    obtain ⟨h1, h2⟩ := enterTo_sound zs k
    rw [enterTo]
    by_cases h : enterC (enterTo zs k) k (rd zs k % 64) = 0
    · rw [if_pos h]
      obtain ⟨hm, _, hf⟩ := enterC_zero h
      obtain ⟨_, _, c0, c1⟩ := mayB_c hm
      exact ⟨h1.with k _ c0 c1 fun i _ => free_place hf (by omega) i, by rw [withL_length]; omega⟩
    · rw [if_neg h]; exact ⟨h1, by omega⟩
theorem ext_place {l m : List Int} (hl : l.length = m.length) (h : ∀ i, i < l.length → placeL l i = placeL m i) : l = m := by
  apply List.ext_getElem hl
  intro i h1 h2
  have := h i h1
  rw [placeL_lt l i h1, placeL_lt m i h2, rd_nat l i h1, rd_nat m i h2] at this
  exact this
theorem on_lt {l : List Int} {k : Nat} (h : onB l k = true) : k < l.length := by
  rcases Nat.lt_or_ge k l.length with q | q
  · exact q
  · unfold onB at h; rw [placeL_ge l k q] at h; simp at h
/-- there, and back -/
theorem move_back {l : List Int} (hs : Sound l) {k : Nat} {c : Int} (h : moveC l k c = 0) :
    k < l.length ∧ moveL l k c = withL l k c ∧ moveC (withL l k c) k (placeL l k) = 0 ∧ moveL (withL l k c) k (placeL l k) = l ∧ (placeL l k = c ∨ freeB (withL l k c) (placeL l k) = true) := by
  obtain ⟨hm, ho, hf⟩ := moveC_zero h
  rw [Int.toNat_natCast] at ho hf
  have hkl := on_lt ho
  obtain ⟨r0, r1, c0, c1⟩ := mayB_c hm
  have hon : placeL l k ≠ -1 := by unfold onB at ho; simpa using ho
  obtain ⟨p0, p1⟩ := (hs.range k).resolve_left hon
  have hfr : placeL l k = c ∨ freeB (withL l k c) (placeL l k) = true := by
    by_cases e : placeL l k = c
    · exact .inl e
    · refine .inr (free_of fun i => ?_)
      rw [placeL_with]
      by_cases q : i = k
      · rw [if_pos q]; exact fun z => e z.symm
      · rw [if_neg q]; exact fun z => hs.apart k i (fun z => q z.symm) hon z.symm
  have hpw : placeL (withL l k c) k = c := by rw [placeL_with, if_pos rfl]
  have hc2 : moveC (withL l k c) k (placeL l k) = 0 := by
    have hm2 : mayB (k : Int) (placeL l k) = true := by simp [mayB]; omega
    have ho2 : onB (withL l k c) k = true := by unfold onB; rw [hpw]; simp; omega
    unfold moveC
    rw [if_neg (by rw [hm2]; simp), Int.toNat_natCast, if_neg (by rw [ho2]; simp), hpw, if_neg]
    rintro ⟨h1, h2⟩
    rcases hfr with z | z
    · exact h1 z.symm
    · rw [z] at h2; cases h2
  refine ⟨hkl, by unfold moveL; rw [if_pos h, Int.toNat_natCast], hc2, ?_, hfr⟩
  unfold moveL
  rw [if_pos hc2, Int.toNat_natCast]
  refine ext_place (by rw [withL_length, withL_length]; omega) fun i _ => ?_
  rw [placeL_with, placeL_with]
  by_cases q : i = k
  · rw [if_pos q, q]
  · rw [if_neg q, if_neg q]
end Go.Proofs.YtfgbnnmaooillaaDoor
