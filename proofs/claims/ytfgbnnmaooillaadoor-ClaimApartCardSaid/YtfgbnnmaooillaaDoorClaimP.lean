/- Who is where: the plain laws of layer 18's functions. -/
import Derived.Test.YtfgbnnmaooillaaDoorPClaimTakesx
namespace Go.Proofs.YtfgbnnmaooillaaDoor
open Go.RowKit Go.Proofs.YtfgbnnmaooillaaDoorW.PrintWords Go.Proofs.YtfgbnnmaooillaaDoorW.PrintLast Go.Proofs.YtfgbnnmaooillaaDoorW.PrintMore Go.Proofs.YtfgbnnmaooillaaDoor.PClaimTakes
set_option linter.unusedVariables false
set_option linter.unusedSimpArgs false

theorem rd_nat (l : List Int) (i : Nat) (h : i < l.length) : rd l (i : Int) = l[i] := by
  simp [rd, List.getD_eq_getElem?_getD, List.getElem?_eq_getElem h]
theorem rd_mem {l : List Int} {i : Nat} (h : i < l.length) : rd l (i : Int) ∈ l := by rw [rd_nat l i h]; exact List.getElem_mem h
theorem wrap_nat {n : Nat} (h : n ≤ 1000000) : wrap64 ((n : Int) + 1) = ((n + 1 : Nat) : Int) := by unfold wrap64; omega
theorem index_loop (l : List Int) (c : Int) (hl : l.length ≤ 1000000) : ∀ (d i k : Nat), i + d = l.length → d < k → ∃ r, slices_Index_int_int.l0 k l c l.length i = some r ∧ (r ≥ 0 ↔ c ∈ l.drop i)
  | 0, i, k, hi, hk => by
    obtain ⟨k, rfl⟩ : ∃ j, k = j + 1 := ⟨k - 1, by omega⟩
    refine ⟨-1, ?_, ?_⟩
    · rw [slices_Index_int_int.l0, if_neg (by omega)]
    · rw [List.drop_of_length_le (by omega)]; simp
  | d + 1, i, k, hi, hk => by
    obtain ⟨k, rfl⟩ : ∃ j, k = j + 1 := ⟨k - 1, by omega⟩
    have hlt : i < l.length := by omega
    have hd : l.drop i = l[i] :: l.drop (i + 1) := List.drop_eq_getElem_cons hlt
    have n1 : (i : Int) < (l.length : Int) := by omega
    have n2 : (0 : Int) ≤ (i : Int) := by omega
    rw [slices_Index_int_int.l0, if_pos n1, if_pos n2, if_pos n1, rd_nat l i hlt]
    by_cases h : c = l[i]
    · exact ⟨i, by rw [if_pos h], by rw [hd]; exact ⟨fun _ => by rw [h]; exact List.mem_cons_self, fun _ => n2⟩⟩
    · obtain ⟨r, h1, h2⟩ := index_loop l c hl d (i + 1) k (by omega) (by omega)
      refine ⟨r, by rw [if_neg h, wrap_nat (by omega)]; exact h1, ?_⟩
      rw [h2, hd, List.mem_cons]
      exact ⟨.inr, fun q => q.resolve_left h⟩
def freeB (l : List Int) (c : Int) : Bool := decide (c = -1 ∨ c ∉ l)
theorem free_f (l : List Int) (c : Int) (hl : l.length ≤ 1000000) (k : Nat) (hk : l.length < k) : claim_Free.f k l c = some (freeB l c) := by
  unfold claim_Free.f slices_Contains_int_int.f slices_Index_int_int.f
  by_cases h : c = -1
  · rw [if_pos h]; congr 1; symm; simp [freeB, h]
  · rw [if_neg h]
    obtain ⟨r, h1, h2⟩ := index_loop l c hl l.length 0 k (by omega) hk
    have h1' : slices_Index_int_int.l0 k l c l.length 0 = some r := h1
    rw [h1']
    simp only [Option.bind_some, List.drop_zero] at h2 ⊢
    congr 1
    rw [Bool.eq_iff_iff]; simp [freeB, h]
    rw [← h2]; omega
def mayB (r c : Int) : Bool := decide (0 ≤ r ∧ r ≤ 9 ∧ 0 ≤ c ∧ c ≤ 63)
theorem may_f (r c : Int) : claim_may.f r c = some (mayB r c) := by
  unfold claim_may.f
  by_cases h1 : r ≥ 0
  · rw [if_pos h1]
    by_cases h2 : r < 10
    · rw [if_pos h2]
      by_cases h3 : c ≥ 0
      · rw [if_pos h3]; congr 1; rw [Bool.eq_iff_iff]; simp [mayB]; omega
      · rw [if_neg h3]; congr 1; symm; simp [mayB]; omega
    · rw [if_neg h2]; congr 1; symm; simp [mayB]; omega
  · rw [if_neg h1]; congr 1; symm; simp [mayB]; omega
/-- a robot's place; -1 -/
def placeL (l : List Int) (r : Nat) : Int := l.getD r (-1)
theorem placeL_lt (l : List Int) (r : Nat) (h : r < l.length) : placeL l r = rd l r := by
  rw [rd_nat l r h]; simp [placeL, List.getD_eq_getElem?_getD, List.getElem?_eq_getElem h]
theorem placeL_ge (l : List Int) (r : Nat) (h : l.length ≤ r) : placeL l r = -1 := by
  simp [placeL, List.getD_eq_getElem?_getD, List.getElem?_eq_none h]
def onB (l : List Int) (r : Nat) : Bool := placeL l r != -1
theorem on_f (l : List Int) (r : Nat) : claim_on.f l r = some (onB l r) := by
  unfold claim_on.f onB
  by_cases h : r < l.length
  · rw [if_pos (by omega), if_pos (by omega), placeL_lt l r h]
  · rw [if_neg (by omega), placeL_ge l r (by omega)]; rfl
/-- places with a robot's -/
def withL (l : List Int) (r : Nat) (c : Int) : List Int := (l ++ List.replicate (r + 1 - l.length) (-1)).set r c
theorem withL_length (l : List Int) (r : Nat) (c : Int) : (withL l r c).length = max l.length (r + 1) := by
  simp [withL]; omega
theorem placeL_with (l : List Int) (r : Nat) (c : Int) (j : Nat) : placeL (withL l r c) j = if j = r then c else placeL l j := by
  unfold placeL withL
  by_cases hj : j = r
  · subst hj
    rw [if_pos rfl, List.getD_eq_getElem?_getD, List.getElem?_set_self (by simp; omega)]; rfl
  · rw [if_neg hj, List.getD_eq_getElem?_getD, List.getElem?_set_ne (Ne.symm hj), List.getD_eq_getElem?_getD]
    by_cases h : j < l.length
    · rw [List.getElem?_append_left h]
    · rw [List.getElem?_append_right (by omega), List.getElem?_eq_none (show l.length ≤ j by omega)]
      by_cases q : j - l.length < r + 1 - l.length
      · rw [List.getElem?_replicate, if_pos q]; rfl
      · rw [List.getElem?_replicate, if_neg q]
/-- why a robot can't enter, or move; 0 -/
def enterC (l : List Int) (r c : Int) : Int := if mayB r c = false then 1 else if onB l r.toNat = true then 5 else if freeB l c = false then 10 else 0
def enterL (l : List Int) (r c : Int) : List Int := if enterC l r c = 0 then withL l r.toNat c else []
def moveC (l : List Int) (r c : Int) : Int := if mayB r c = false then 1 else if onB l r.toNat = false then 4 else if placeL l r.toNat ≠ c ∧ freeB l c = false then 10 else 0
def moveL (l : List Int) (r c : Int) : List Int := if moveC l r c = 0 then withL l r.toNat c else []

end Go.Proofs.YtfgbnnmaooillaaDoor
