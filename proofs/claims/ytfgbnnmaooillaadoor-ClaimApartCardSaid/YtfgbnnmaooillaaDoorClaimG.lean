/- How many cells are taken: plain laws. -/
import Derived.Test.YtfgbnnmaooillaaDoorClaimE
import Derived.Test.YtfgbnnmaooillaaDoorPTakenx
namespace Go.Proofs.YtfgbnnmaooillaaDoor
open Go.RowKit Go.Proofs.YtfgbnnmaooillaaDoorW.PrintWords Go.Proofs.YtfgbnnmaooillaaDoorW.PrintLast Go.Proofs.YtfgbnnmaooillaaDoorW.PrintMore Go.Proofs.YtfgbnnmaooillaaDoor.PClaimTakes Go.Proofs.YtfgbnnmaooillaaDoor.PTaken
set_option linter.unusedVariables false
set_option linter.unusedSimpArgs false

def mapR (n : Nat) (f : Nat → Bool) : List Bool := (List.range n).map f
theorem mapR_length (n : Nat) (f : Nat → Bool) : (mapR n f).length = n := by simp [mapR]
theorem mapR_set (n : Nat) (f : Nat → Bool) (x : Nat) : (mapR n f).set x true = mapR n (fun j => f j || decide (j = x)) := by
  apply List.ext_getElem
  · simp [mapR]
  · intro j h1 h2
    rw [List.getElem_set]
    by_cases h : x = j
    · rw [if_pos h]; simp [mapR, h]
    · rw [if_neg h]; simp [mapR, Ne.symm h]
theorem mapR_ext {n : Nat} {f g : Nat → Bool} (h : ∀ j, j < n → f j = g j) : mapR n f = mapR n g := by
  unfold mapR; apply List.map_congr_left; intro j hj; exact h j (List.mem_range.1 hj)
theorem taken_loop (l : List Int) (n : Nat) (hl : l.length ≤ 1000000) : ∀ (d i k : Nat) (f : Nat → Bool), i + d = l.length → d < k →
    claim_Taken.l0 k (mapR n f) l l.length i = some (mapR n fun j => f j || decide ((j : Int) ∈ l.drop i))
  | 0, i, k, f, hi, hk => by
    obtain ⟨k, rfl⟩ : ∃ j, k = j + 1 := ⟨k - 1, by omega⟩
    rw [claim_Taken.l0, if_neg (by omega), List.drop_of_length_le (by omega)]
    congr 1; apply mapR_ext; intro j _; simp
  | d + 1, i, k, f, hi, hk => by
    obtain ⟨k, rfl⟩ : ∃ j, k = j + 1 := ⟨k - 1, by omega⟩
    have hlt : i < l.length := by omega
    have hd : l.drop i = l[i] :: l.drop (i + 1) := List.drop_eq_getElem_cons hlt
    have n1 : (i : Int) < (l.length : Int) := by omega
    have n2 : (0 : Int) ≤ (i : Int) := by omega
    have skip : (∀ j : Nat, j < n → (j : Int) ≠ l[i]) → (some (mapR n fun j => f j || decide ((j : Int) ∈ l.drop (i + 1))) : Option (List Bool)) = some (mapR n fun j => f j || decide ((j : Int) ∈ l.drop i)) := by
      intro hne
      congr 1; apply mapR_ext; intro j hj
      rw [hd]
      have : ((j : Int) ∈ l[i] :: l.drop (i + 1)) ↔ (j : Int) ∈ l.drop (i + 1) := by
        rw [List.mem_cons]; exact ⟨fun q => q.resolve_left (hne j hj), .inr⟩
      rw [decide_eq_decide.2 this]
    rw [claim_Taken.l0, if_pos n1, if_pos n2, if_pos n1, rd_nat l i hlt, mapR_length, wrap_nat (by omega)]
    by_cases h1 : l[i] ≥ 0
    · rw [if_pos h1]
      by_cases h2 : l[i] < (n : Int)
      · rw [if_pos h2, if_pos h1, mapR_set, taken_loop l n hl d (i + 1) k _ (by omega) (by omega)]
        congr 1; apply mapR_ext; intro j hj
        rw [hd, Bool.or_assoc]
        congr 1
        rw [Bool.eq_iff_iff]
        simp only [Bool.or_eq_true, decide_eq_true_eq, List.mem_cons]
        constructor
        · rintro (q | q)
          · left; omega
          · exact .inr q
        · rintro (q | q)
          · left; omega
          · exact .inr q
      · rw [if_neg h2, taken_loop l n hl d (i + 1) k f (by omega) (by omega)]
        exact skip fun j hj e => by omega
    · rw [if_neg h1, taken_loop l n hl d (i + 1) k f (by omega) (by omega)]
      exact skip fun j hj e => by omega
def takenL (l : List Int) : List Bool := mapR 64 fun j => decide ((j : Int) ∈ l)
theorem taken_f (l : List Int) (hl : l.length ≤ 1000000) (k : Nat) (hk : l.length < k) : claim_Taken.f k l 64 = some (takenL l) := by
  unfold claim_Taken.f
  have e : mx (mn 64 64) 0 = 64 := by unfold mx mn; simp
  rw [e, if_pos (by omega), if_pos (by decide)]
  have hr : List.replicate (64 : Int).toNat false = mapR 64 fun _ => false := rfl
  rw [hr]
  have := taken_loop l 64 hl l.length 0 k (fun _ => false) (by omega) hk
  rw [show ((0 : Nat) : Int) = 0 from rfl] at this
  rw [this]
  congr 1
/-- how many robots are on the map -/
def onL (l : List Int) : Nat := l.countP fun x => decide (x ≠ -1)
/-- how many of the first j cells are taken -/
def cntT (l : List Int) (j : Nat) : Nat := ((takenL l).take j).countP id
theorem count_one (x n : Nat) : (List.range n).countP (fun j => decide (j = x)) = if x < n then 1 else 0 := by
  induction n with
  | zero => simp
  | succ n ih =>
    rw [List.range_succ, List.countP_append, ih]
    by_cases h : x < n
    · rw [if_pos h, if_pos (by omega)]; simp; omega
    · rw [if_neg h]
      by_cases h2 : x = n
      · rw [if_pos (by omega)]; simp [h2]
      · rw [if_neg (by omega)]; simp; omega
theorem count_add (p : Nat → Bool) (x n : Nat) (hx : x < n) (hp : p x = false) : (List.range n).countP (fun j => decide (j = x) || p j) = (List.range n).countP p + 1 := by
  have h1 := count_one x n
  rw [if_pos hx] at h1
  rw [← h1]
  generalize List.range n = L
  induction L with
  | nil => rfl
  | cons a L ih =>
    simp only [List.countP_cons, ih]
    by_cases h : a = x
    · subst h; simp [hp]; omega
    · simp [h]; omega
theorem count_cells : ∀ l : List Int, (∀ x ∈ l, x = -1 ∨ (0 ≤ x ∧ x ≤ 63)) → l.Pairwise (fun a b => a ≠ -1 → a ≠ b) → (List.range 64).countP (fun j : Nat => decide ((j : Int) ∈ l)) = onL l
  | [], _, _ => by simp [onL]
  | x :: l, hr, hp => by
    rw [List.pairwise_cons] at hp
    have ih := count_cells l (fun y hy => hr y (List.mem_cons_of_mem _ hy)) hp.2
    unfold onL at ih ⊢
    rw [List.countP_cons, ← ih]
    by_cases hx : x = -1
    · rw [if_neg (by simp [hx]), Nat.add_zero]
      apply List.countP_congr
      intro j _
      simp only [decide_eq_true_eq, List.mem_cons]
      constructor
      · rintro (q | q)
        · omega
        · exact q
      · exact .inr
    · rw [if_pos (by simp [hx])]
      obtain ⟨h0, h1⟩ := (hr x List.mem_cons_self).resolve_left hx
      have := count_add (fun j : Nat => decide ((j : Int) ∈ l)) x.toNat 64 (by omega) (by
        rw [decide_eq_false_iff_not]; intro hm
        rw [Int.toNat_of_nonneg h0] at hm
        exact hp.1 x hm hx rfl)
      rw [← this]
      apply List.countP_congr
      intro j _
      simp only [decide_eq_true_eq, List.mem_cons, Bool.or_eq_true]
      constructor
      · rintro (q | q)
        · left; omega
        · exact .inr q
      · rintro (q | q)
        · left; omega
        · exact .inr q
theorem Sound.list {l : List Int} (h : Sound l) : (∀ x ∈ l, x = -1 ∨ (0 ≤ x ∧ x ≤ 63)) ∧ l.Pairwise (fun a b => a ≠ -1 → a ≠ b) := by
  constructor
  · intro x hx
    obtain ⟨i, hi, rfl⟩ := List.getElem_of_mem hx
    have := h.range i
    rw [placeL_lt l i hi, rd_nat l i hi] at this; exact this
  · rw [List.pairwise_iff_getElem]
    intro i j hi hj hij hn
    have := h.apart i j (by omega)
    rw [placeL_lt l i hi, rd_nat l i hi, placeL_lt l j hj, rd_nat l j hj] at this
    exact this hn
theorem taken_count {l : List Int} (h : Sound l) : cntT l 64 = onL l := by
  unfold cntT
  rw [List.take_of_length_le (by simp [takenL, mapR]), ← count_cells l h.list.1 h.list.2]
  simp [takenL, mapR, List.countP_map, Function.comp_def]
theorem onL_with {l : List Int} {k : Nat} {c : Int} (hk : l.length ≤ k) (hc : c ≠ -1) : onL (withL l k c) = onL l + 1 := by
  have e : withL l k c = l ++ (List.replicate (k - l.length) (-1) ++ [c]) := by
    unfold withL
    apply List.ext_getElem
    · simp; omega
    · intro j h1 h2
      rw [List.getElem_set]
      by_cases h : k = j
      · subst h
        rw [if_pos rfl, List.getElem_append_right hk, List.getElem_append_right (by simp)]
        simp
      · rw [if_neg h]
        by_cases q : j < l.length
        · rw [List.getElem_append_left q, List.getElem_append_left q]
        · rw [List.getElem_append_right (by omega), List.getElem_append_right (by omega)]
          simp at h1
          rw [List.getElem_append_left (by simp; omega)]
          simp
  unfold onL
  rw [e, List.countP_append, List.countP_append, List.countP_replicate]
  simp [hc]
end Go.Proofs.YtfgbnnmaooillaaDoor
