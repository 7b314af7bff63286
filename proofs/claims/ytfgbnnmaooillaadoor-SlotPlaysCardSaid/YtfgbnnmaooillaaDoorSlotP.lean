/- Bookings: plain laws, with no program in sight. How often ticks are booked at most is the greatest count of a tick. -/
import Derived.Test.YtfgbnnmaooillaaDoorProg
namespace Go.Proofs.YtfgbnnmaooillaaDoor

structure Bk where
  r : Int
  f : Int
  t : Int
def rightB (b : Bk) : Bool := decide (0 ≤ b.r ∧ b.r ≤ 9 ∧ 0 ≤ b.f ∧ b.f < b.t ∧ b.t ≤ 2147483647)
def holdsB (b : Bk) (x : Int) : Bool := rightB b && decide (b.f ≤ x ∧ x < b.t)
def countL (l : List Bk) (x : Int) : Nat := l.countP (fun b => holdsB b x)
def peakTo (l : List Bk) (a b : Int) : Nat → List Bk → Nat
  | m, [] => m
  | m, k :: ks => peakTo l a b (if a ≤ k.f ∧ k.f < b then max m (countL l k.f) else m) ks
def peakL (l : List Bk) (a b : Int) : Nat := if b ≤ a then 0 else peakTo l a b (countL l a) l

theorem countL_le (l : List Bk) (x : Int) : countL l x ≤ l.length := List.countP_le_length
theorem peakTo_ge (l : List Bk) (a b : Int) : ∀ (ks : List Bk) (m : Nat), m ≤ peakTo l a b m ks ∧ ∀ k ∈ ks, a ≤ k.f → k.f < b → countL l k.f ≤ peakTo l a b m ks
  | [], m => ⟨Nat.le_refl _, fun k h => by cases h⟩
  | k :: ks, m => by
    have ih := peakTo_ge l a b ks (if a ≤ k.f ∧ k.f < b then max m (countL l k.f) else m)
    rw [peakTo]
    refine ⟨Nat.le_trans ?_ ih.1, fun j hj h1 h2 => ?_⟩
    · split <;> omega
    · rcases List.mem_cons.1 hj with rfl | hj
      · refine Nat.le_trans ?_ ih.1
        rw [if_pos ⟨h1, h2⟩]; omega
      · exact ih.2 j hj h1 h2
theorem peakTo_at (l : List Bk) (a b : Int) : ∀ (ks : List Bk) (m : Nat), peakTo l a b m ks = m ∨ ∃ k ∈ ks, a ≤ k.f ∧ k.f < b ∧ peakTo l a b m ks = countL l k.f
  | [], m => .inl rfl
  | k :: ks, m => by
    rw [peakTo]
    rcases peakTo_at l a b ks (if a ≤ k.f ∧ k.f < b then max m (countL l k.f) else m) with h | ⟨j, hj, h1, h2, h3⟩
    · by_cases hk : a ≤ k.f ∧ k.f < b
      · rw [if_pos hk] at h ⊢
        rcases Nat.le_total m (countL l k.f) with q | q
        · exact .inr ⟨k, List.mem_cons_self, hk.1, hk.2, by rw [h]; omega⟩
        · exact .inl (by rw [h]; omega)
      · rw [if_neg hk] at h ⊢; exact .inl h
    · exact .inr ⟨j, List.mem_cons_of_mem _ hj, h1, h2, h3⟩
theorem last_start (x a : Int) (ha : a ≤ x) : ∀ l : List Bk, ∃ p, a ≤ p ∧ p ≤ x ∧ (p = a ∨ ∃ k ∈ l, k.f = p) ∧ ∀ k ∈ l, holdsB k x = true → k.f ≤ p
  | [] => ⟨a, Int.le_refl _, ha, .inl rfl, fun k h => by cases h⟩
  | k :: l => by
    obtain ⟨p, h1, h2, h3, h4⟩ := last_start x a ha l
    by_cases hk : holdsB k x = true ∧ p < k.f
    · refine ⟨k.f, by omega, ?_, .inr ⟨k, List.mem_cons_self, rfl⟩, fun j hj hh => ?_⟩
      · have := hk.1
        simp only [holdsB, Bool.and_eq_true, decide_eq_true_eq] at this
        exact this.2.1
      · rcases List.mem_cons.1 hj with rfl | hj
        · exact Int.le_refl _
        · have := h4 j hj hh; omega
    · refine ⟨p, h1, h2, ?_, fun j hj hh => ?_⟩
      · rcases h3 with h3 | ⟨j, hj, e⟩
        · exact .inl h3
        · exact .inr ⟨j, List.mem_cons_of_mem _ hj, e⟩
      · rcases List.mem_cons.1 hj with rfl | hj
        · by_cases q : p < j.f
          · exact absurd ⟨hh, q⟩ hk
          · omega
        · exact h4 j hj hh
theorem countL_mono (l : List Bk) (x p : Int) (hp : p ≤ x) (h : ∀ k ∈ l, holdsB k x = true → k.f ≤ p) : countL l x ≤ countL l p := by
  refine List.countP_mono_left fun k hk hh => ?_
  have := h k hk hh
  simp only [holdsB, Bool.and_eq_true, decide_eq_true_eq] at hh ⊢
  exact ⟨hh.1, this, by omega⟩
/-- no tick is booked more often than the peak -/
theorem peak_ub (l : List Bk) (a b x : Int) (ha : a ≤ x) (hb : x < b) : countL l x ≤ peakL l a b := by
  obtain ⟨p, h1, h2, h3, h4⟩ := last_start x a ha l
  refine Nat.le_trans (countL_mono l x p h2 h4) ?_
  unfold peakL
  rw [if_neg (by omega)]
  rcases h3 with rfl | ⟨k, hk, rfl⟩
  · exact (peakTo_ge l p b l _).1
  · exact (peakTo_ge l a b l _).2 k hk h1 (by omega)
/-- the peak is some tick's count -/
theorem peak_at (l : List Bk) (a b : Int) (h : a < b) : ∃ x, a ≤ x ∧ x < b ∧ peakL l a b = countL l x := by
  unfold peakL
  rw [if_neg (by omega)]
  rcases peakTo_at l a b l (countL l a) with h1 | ⟨k, _, h1, h2, h3⟩
  · exact ⟨a, Int.le_refl _, h, h1⟩
  · exact ⟨k.f, h1, h2, h3⟩
theorem peak_none (l : List Bk) (a b : Int) (h : b ≤ a) : peakL l a b = 0 := by unfold peakL; rw [if_pos h]
theorem peak_le (l : List Bk) (a b : Int) (n : Nat) (h : ∀ x, a ≤ x → x < b → countL l x ≤ n) : peakL l a b ≤ n := by
  by_cases hab : a < b
  · obtain ⟨x, h1, h2, h3⟩ := peak_at l a b hab
    rw [h3]; exact h x h1 h2
  · rw [peak_none l a b (by omega)]; omega
theorem peak_len (l : List Bk) (a b : Int) : peakL l a b ≤ l.length := peak_le l a b _ fun x _ _ => countL_le l x
theorem peak_more (l : List Bk) (a b m : Int) (hm : 0 ≤ m) : peakL l a b ≤ peakL l a (b + m) := peak_le l a b _ fun x h1 h2 => peak_ub l a (b + m) x h1 (by omega)
theorem countL_append (l m : List Bk) (x : Int) : countL (l ++ m) x = countL l x + countL m x := List.countP_append
theorem countL_without (l : List Bk) (i : Nat) (hi : i < l.length) (x : Int) : countL l x = countL (l.take i ++ l.drop (i + 1)) x + if holdsB l[i] x = true then 1 else 0 := by
  conv => lhs; rw [← List.take_append_drop i l, List.drop_eq_getElem_cons hi]
  rw [countL_append, countL_append, countL, countL, countL, List.countP_cons]
  omega
theorem peak_without (l : List Bk) (i : Nat) (hi : i < l.length) (a b : Int) : peakL (l.take i ++ l.drop (i + 1)) a b ≤ peakL l a b ∧ peakL l a b ≤ peakL (l.take i ++ l.drop (i + 1)) a b + 1 := by
  constructor
  · refine peak_le _ a b _ fun x h1 h2 => Nat.le_trans ?_ (peak_ub l a b x h1 h2)
    have := countL_without l i hi x
    omega
  · refine peak_le _ a b _ fun x h1 h2 => ?_
    have h3 := peak_ub (l.take i ++ l.drop (i + 1)) a b x h1 h2
    have := countL_without l i hi x
    split at this <;> omega
end Go.Proofs.YtfgbnnmaooillaaDoor
