/- SlotPlays: the plain laws: the reference's counts and peaks are the program's. -/
import Derived.Test.YtfgbnnmaooillaaDoorTouchPPSlotPlays
namespace Go.Proofs.YtfgbnnmaooillaaDoor
open Go.ChangeShapes Go.WideShapes Go.RowKit Go.Lib Go.Proofs.YtfgbnnmaooillaaDoorW.PrintWords Go.Proofs.YtfgbnnmaooillaaDoorW.PrintLast Go.Proofs.YtfgbnnmaooillaaDoorW.PrintMore Go.Proofs.YtfgbnnmaooillaaDoor.PSlotPlays
set_option linter.unusedVariables false
set_option linter.unusedSimpArgs false

def rSel (r : Int) (s : RB) : Bool := decide (r < 0 ∨ s.f0 = r)
/-- the bookings that the reference looks at, as the program has them -/
def rL (r : Int) (l : List RB) : List SB := (l.filter (rSel r)).map ofR
theorem rL_all (l : List RB) : rL (-1) l = l.map ofR := by
  unfold rL
  rw [List.filter_eq_self.2 (fun s _ => by simp [rSel])]
theorem rL_own (r : Int) (hr : 0 ≤ r) (l : List RB) : rL r l = ownL r (l.map ofR) := by
  unfold rL ownL
  rw [List.filter_map]
  congr 1
  apply List.filter_congr
  intro s _
  have h : (ofR s).f0 = s.f0 := rfl
  simp only [rSel, Function.comp, h]
  rw [Bool.eq_iff_iff]
  simp
  omega
theorem rL_cons (r : Int) (s : RB) (l : List RB) : rL r (s :: l) = if r < 0 ∨ s.f0 = r then ofR s :: rL r l else rL r l := by
  unfold rL
  rw [List.filter_cons]
  by_cases h : r < 0 ∨ s.f0 = r <;> simp [rSel, h]
theorem holds_of (s : RB) (x : Int) : holdsB (toBk (ofR s)) x = (rightB ⟨s.f0, s.f1, s.f2⟩ && decide (s.f1 ≤ x ∧ x < s.f2)) := rfl
theorem rcount_loop (l : List RB) (x r : Int) (hl : l.length ≤ 1000) : ∀ (d i acc k : Nat), i + d = l.length → acc ≤ i → d < k →
    dynamoref20_Count.l0 k l x r (acc : Int) i = some ((acc + countL (bks (rL r (l.drop i))) x : Nat) : Int)
  | 0, i, acc, k, hi, ha, hk => by
    obtain ⟨k, rfl⟩ : ∃ j, k = j + 1 := ⟨k - 1, by omega⟩
    unfold dynamoref20_Count.l0
    rw [if_neg (by omega), List.drop_of_length_le (by omega)]
    simp [rL, bks, countL]
  | d + 1, i, acc, k, hi, ha, hk => by
    obtain ⟨k, rfl⟩ : ∃ j, k = j + 1 := ⟨k - 1, by omega⟩
    have hlt : i < l.length := by omega
    have hd : l.drop i = l[i] :: l.drop (i + 1) := List.drop_eq_getElem_cons hlt
    have e1 := wrap_nat (show i ≤ 1000000 by omega)
    have e2 := wrap_nat (show acc ≤ 1000000 by omega)
    have ih1 := rcount_loop l x r hl d (i + 1) (acc + 1) k (by clear e1 e2; omega) (by clear e1 e2; omega) (by clear e1 e2; omega)
    have ih0 := rcount_loop l x r hl d (i + 1) acc k (by clear e1 e2; omega) (by clear e1 e2; omega) (by clear e1 e2; omega)
    unfold dynamoref20_Count.l0
    rw [if_pos (by clear e1 e2; omega), if_pos (by clear e1 e2; omega), rdR_nat l i hlt, rRight_f, e1, e2]
    clear e1 e2
    simp only [Option.bind_some]
    rw [ih1, ih0, hd, rL_cons]
    have hh := holds_of l[i] x
    generalize rightB ⟨l[i].f0, l[i].f1, l[i].f2⟩ = rt at hh ⊢
    cases rt with
    | false =>
      rw [Bool.false_and] at hh
      rw [if_neg (by simp)]
      by_cases hs : r < 0 ∨ l[i].f0 = r
      · rw [if_pos hs, count_cons, if_neg (by rw [hh]; simp)]; rfl
      · rw [if_neg hs]
    | true =>
      rw [Bool.true_and] at hh
      rw [if_pos rfl]
      by_cases h1 : x ≥ l[i].f1
      · rw [if_pos h1]
        by_cases h2 : x < l[i].f2
        · rw [if_pos h2]
          have ht : holdsB (toBk (ofR l[i])) x = true := by rw [hh]; simp; omega
          by_cases hs : r < 0
          · rw [if_pos hs, if_pos (.inl hs), count_cons, if_pos ht]; congr 2; omega
          · rw [if_neg hs]
            by_cases hs2 : l[i].f0 = r
            · rw [if_pos hs2, if_pos (.inr hs2), count_cons, if_pos ht]; congr 2; omega
            · rw [if_neg hs2, if_neg (fun q => q.elim hs hs2)]
        · rw [if_neg h2]
          have ht : ¬ holdsB (toBk (ofR l[i])) x = true := by rw [hh]; simp; omega
          by_cases hs : r < 0 ∨ l[i].f0 = r
          · rw [if_pos hs, count_cons, if_neg ht]; rfl
          · rw [if_neg hs]
      · rw [if_neg h1]
        have ht : ¬ holdsB (toBk (ofR l[i])) x = true := by rw [hh]; simp; omega
        by_cases hs : r < 0 ∨ l[i].f0 = r
        · rw [if_pos hs, count_cons, if_neg ht]; rfl
        · rw [if_neg hs]
theorem rcount_f (l : List RB) (x r : Int) (hl : l.length ≤ 1000) (k : Nat) (hk : l.length < k) : dynamoref20_Count.f k l x r = some ((countL (bks (rL r l)) x : Nat) : Int) := by
  unfold dynamoref20_Count.f
  have := rcount_loop l x r hl l.length 0 0 k (by omega) (by omega) hk
  simpa using this
def topL (f : Int → Nat) (a : Int) : Nat → Nat
  | 0 => 0
  | n + 1 => max (f a) (topL f (a + 1) n)
theorem top_le (f : Int → Nat) (m : Nat) : ∀ (n : Nat) (a : Int), (∀ x, a ≤ x → x < a + n → f x ≤ m) → topL f a n ≤ m
  | 0, _, _ => Nat.zero_le _
  | n + 1, a, h => by
    rw [topL]
    have h1 := h a (Int.le_refl _) (by omega)
    have h2 := top_le f m n (a + 1) (fun x h1 h2 => h x (by omega) (by omega))
    omega
theorem top_ge (f : Int → Nat) : ∀ (n : Nat) (a x : Int), a ≤ x → x < a + n → f x ≤ topL f a n
  | 0, a, x, h1, h2 => by omega
  | n + 1, a, x, h1, h2 => by
    rw [topL]
    by_cases h : x = a
    · subst h; omega
    · have := top_ge f n (a + 1) x (by omega) (by omega)
      omega
theorem top_peak (l : List Bk) (a b : Int) (n : Nat) (h : (n : Int) = b - a ∨ (n = 0 ∧ b ≤ a)) : topL (countL l) a n = peakL l a b := by
  by_cases hab : a < b
  · have h1 := top_le (countL l) (peakL l a b) n a (fun x h1 h2 => peak_ub l a b x h1 (by omega))
    obtain ⟨x, h3, h4, h5⟩ := peak_at l a b hab
    have h6 := top_ge (countL l) n a x h3 (by omega)
    omega
  · rw [peak_none l a b (by omega)]
    have : n = 0 := by omega
    subst this; rfl
theorem rpeak_loop (l : List RB) (a b r : Int) (hl : l.length ≤ 1000) (ha : -1000000000000 ≤ a) (hb : b ≤ 1000000000000) (hab : b - a ≤ 1000) : ∀ (n m k : Nat) (t : Int), a ≤ t → t + n = b → m ≤ 1000 → l.length + n < k →
    dynamoref20_Peak.l0 k l a b r (m : Int) t = some ((max m (topL (countL (bks (rL r l))) t n) : Nat) : Int)
  | 0, m, k, t, ht, hn, hm, hk => by
    obtain ⟨k, rfl⟩ : ∃ j, k = j + 1 := ⟨k - 1, by omega⟩
    unfold dynamoref20_Peak.l0
    rw [if_neg (by omega), topL]
    congr 2
    omega
  | n + 1, m, k, t, ht, hn, hm, hk => by
    obtain ⟨k, rfl⟩ : ∃ j, k = j + 1 := ⟨k - 1, by omega⟩
    have hc := countL_le (bks (rL r l)) t
    have hlen : (bks (rL r l)).length ≤ 1000 := by
      rw [bks_length]
      unfold rL
      rw [List.length_map]
      exact Nat.le_trans (List.length_filter_le _ _) hl
    have w1 : wrap64 (t - a) = t - a := by unfold wrap64; omega
    have w2 : wrap64 (t + 1) = t + 1 := by unfold wrap64; omega
    have ih := rpeak_loop l a b r hl ha hb hab n (max m (countL (bks (rL r l)) t)) k (t + 1) (by clear w1 w2; omega) (by clear w1 w2; omega) (by clear w1 w2; omega) (by clear w1 w2; omega)
    unfold dynamoref20_Peak.l0
    rw [w1, w2, if_pos (by clear w1 w2; omega), if_pos (by clear w1 w2; omega), rcount_f l t r hl k (by clear w1 w2; omega)]
    clear w1 w2
    simp only [Option.bind_some]
    rw [mx_nat, ih, topL]
    congr 2
    omega
theorem rpeak_none (l : List RB) (a b r : Int) (k : Nat) (hk : 0 < k) (h : b ≤ a) : dynamoref20_Peak.f k l a b r = some 0 := by
  obtain ⟨k, rfl⟩ : ∃ j, k = j + 1 := ⟨k - 1, by omega⟩
  unfold dynamoref20_Peak.f dynamoref20_Peak.l0
  rw [if_neg (by omega)]
/-- the reference's peak is the program's -/
theorem rpeak_f (l : List RB) (a b r : Int) (hl : l.length ≤ 1000) (ha : -1000000000000 ≤ a) (hb : b ≤ 1000000000000) (hab : b - a ≤ 1000) : dynamoref20_Peak.f 3000 l a b r = some ((peakL (bks (rL r l)) a b : Nat) : Int) := by
  by_cases h : a < b
  · unfold dynamoref20_Peak.f
    have := rpeak_loop l a b r hl ha hb hab (b - a).toNat 0 3000 a (Int.le_refl _) (by omega) (by omega) (by omega)
    rw [top_peak _ a b _ (.inl (by omega))] at this
    simpa using this
  · rw [rpeak_none l a b r 3000 (by omega) (by omega), peak_none _ a b (by omega)]; rfl
end Go.Proofs.YtfgbnnmaooillaaDoor
