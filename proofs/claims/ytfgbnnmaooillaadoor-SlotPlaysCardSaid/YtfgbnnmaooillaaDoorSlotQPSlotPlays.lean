/- The printed functions of package slot, told in the plain laws' words. -/
import Derived.Test.YtfgbnnmaooillaaDoorPSlotPlaysx
import Derived.Test.YtfgbnnmaooillaaDoorSlotP
namespace Go.Proofs.YtfgbnnmaooillaaDoor
open Go.RowKit Go.Proofs.YtfgbnnmaooillaaDoorW.PrintWords Go.Proofs.YtfgbnnmaooillaaDoorW.PrintLast Go.Proofs.YtfgbnnmaooillaaDoorW.PrintMore Go.Proofs.YtfgbnnmaooillaaDoor.PSlotPlays
set_option linter.unusedVariables false
set_option linter.unusedSimpArgs false

abbrev SB := S42
abbrev RB := S41
def toBk (s : SB) : Bk := ⟨s.f0, s.f1, s.f2⟩
def ofR (s : RB) : SB := ⟨s.f0, s.f1, s.f2⟩
def bks (l : List SB) : List Bk := l.map toBk
theorem bks_length (l : List SB) : (bks l).length = l.length := List.length_map _
theorem sRight_f (a b c : Int) : slot_Right.f a b c = some (rightB ⟨a, b, c⟩) := by
  unfold slot_Right.f
  by_cases h1 : a ≥ 0
  · rw [if_pos h1]
    by_cases h2 : a < 10
    · rw [if_pos h2]
      by_cases h3 : b ≥ 0
      · rw [if_pos h3]
        by_cases h4 : b < c
        · rw [if_pos h4]; congr 1; rw [Bool.eq_iff_iff]; simp [rightB]; omega
        · rw [if_neg h4]; congr 1; symm; simp [rightB]; omega
      · rw [if_neg h3]; congr 1; symm; simp [rightB]; omega
    · rw [if_neg h2]; congr 1; symm; simp [rightB]; omega
  · rw [if_neg h1]; congr 1; symm; simp [rightB]; omega
theorem sholds_f (a b c x : Int) : slot_Booking_holds.f a b c x = some (holdsB ⟨a, b, c⟩ x) := by
  unfold slot_Booking_holds.f
  rw [sRight_f]
  simp only [Option.bind_some]
  cases h : rightB ⟨a, b, c⟩ with
  | false => rw [if_neg (by simp)]; congr 1; simp [holdsB, h]
  | true =>
    rw [if_pos rfl]
    by_cases h1 : x ≥ b
    · rw [if_pos h1]; congr 1; rw [Bool.eq_iff_iff]; simp [holdsB, h]; omega
    · rw [if_neg h1]; congr 1; symm; simp [holdsB, h]; omega
theorem rdS_nat (l : List SB) (i : Nat) (h : i < l.length) : rd_T42 l (i : Int) = l[i] := by
  simp [rd_T42, List.getD_eq_getElem?_getD, List.getElem?_eq_getElem h]
theorem wrap_nat {n : Nat} (h : n ≤ 1000000) : wrap64 ((n : Int) + 1) = ((n + 1 : Nat) : Int) := by unfold wrap64; omega
theorem scount_loop (l : List SB) (x : Int) (hl : l.length ≤ 1000) : ∀ (d i acc k : Nat), i + d = l.length → acc ≤ i → d < k →
    slot_count.l0 k x (acc : Int) l l.length i = some ((acc + countL (bks (l.drop i)) x : Nat) : Int)
  | 0, i, acc, k, hi, ha, hk => by
    obtain ⟨k, rfl⟩ : ∃ j, k = j + 1 := ⟨k - 1, by omega⟩
    unfold slot_count.l0
    rw [if_neg (by omega), List.drop_of_length_le (by omega)]
    simp [bks, countL]
  | d + 1, i, acc, k, hi, ha, hk => by
    obtain ⟨k, rfl⟩ : ∃ j, k = j + 1 := ⟨k - 1, by omega⟩
    have hlt : i < l.length := by omega
    have hd : l.drop i = l[i] :: l.drop (i + 1) := List.drop_eq_getElem_cons hlt
    have e1 := wrap_nat (show i ≤ 1000000 by omega)
    have e2 := wrap_nat (show acc ≤ 1000000 by omega)
    unfold slot_count.l0
    rw [if_pos (by clear e1 e2; omega), if_pos (by clear e1 e2; omega), if_pos (by clear e1 e2; omega), rdS_nat l i hlt, sholds_f]
    simp only [Option.bind_some]
    have hc : countL (bks (l.drop i)) x = countL (bks (l.drop (i + 1))) x + if holdsB (toBk l[i]) x = true then 1 else 0 := by
      rw [hd]; simp only [bks, List.map_cons, countL, List.countP_cons]
    cases hh : holdsB ⟨l[i].f0, l[i].f1, l[i].f2⟩ x with
    | true =>
      rw [if_pos rfl, e1, e2, scount_loop l x hl d (i + 1) (acc + 1) k (by clear e1 e2; omega) (by clear e1 e2; omega) (by clear e1 e2; omega), hc, if_pos (show holdsB (toBk l[i]) x = true from hh)]
      congr 2; clear e1 e2; omega
    | false =>
      rw [if_neg (by simp), e1, scount_loop l x hl d (i + 1) acc k (by clear e1 e2; omega) (by clear e1 e2; omega) (by clear e1 e2; omega), hc, if_neg (show ¬ holdsB (toBk l[i]) x = true by rw [show holdsB (toBk l[i]) x = false from hh]; simp)]
      rfl
theorem scount_f (l : List SB) (x : Int) (hl : l.length ≤ 1000) (k : Nat) (hk : l.length < k) : slot_count.f k l x = some ((countL (bks l) x : Nat) : Int) := by
  unfold slot_count.f
  have := scount_loop l x hl l.length 0 0 k (by omega) (by omega) hk
  simpa using this
theorem mx_nat (a b : Nat) : mx (a : Int) (b : Int) = ((max a b : Nat) : Int) := by unfold mx; split <;> omega
theorem speak_loop (l : List SB) (a b : Int) (hl : l.length ≤ 1000) : ∀ (d i m k : Nat), i + d = l.length → l.length + d + 1 < k →
    slot_Peak.l0 k l a b (m : Int) l l.length i = some ((peakTo (bks l) a b m (bks (l.drop i)) : Nat) : Int)
  | 0, i, m, k, hi, hk => by
    obtain ⟨k, rfl⟩ : ∃ j, k = j + 1 := ⟨k - 1, by omega⟩
    unfold slot_Peak.l0
    rw [if_neg (by omega), List.drop_of_length_le (by omega)]
    simp [bks, peakTo]
  | d + 1, i, m, k, hi, hk => by
    obtain ⟨k, rfl⟩ : ∃ j, k = j + 1 := ⟨k - 1, by omega⟩
    have hlt : i < l.length := by omega
    have hd : l.drop i = l[i] :: l.drop (i + 1) := List.drop_eq_getElem_cons hlt
    have e1 := wrap_nat (show i ≤ 1000000 by omega)
    unfold slot_Peak.l0
    rw [if_pos (by clear e1; omega), if_pos (by clear e1; omega), if_pos (by clear e1; omega), rdS_nat l i hlt, e1, hd]
    have hp : ∀ m' : Nat, peakTo (bks l) a b m' (bks (l[i] :: l.drop (i + 1))) = peakTo (bks l) a b (if a ≤ l[i].f1 ∧ l[i].f1 < b then max m' (countL (bks l) l[i].f1) else m') (bks (l.drop (i + 1))) := fun m' => rfl
    by_cases h1 : l[i].f1 ≥ a
    · rw [if_pos h1]
      by_cases h2 : l[i].f1 < b
      · rw [if_pos h2, scount_f l _ hl k (by clear e1; omega)]
        simp only [Option.bind_some]
        rw [mx_nat, speak_loop l a b hl d (i + 1) _ k (by clear e1; omega) (by clear e1; omega), hp, if_pos ⟨h1, h2⟩]
      · rw [if_neg h2, speak_loop l a b hl d (i + 1) _ k (by clear e1; omega) (by clear e1; omega), hp, if_neg (fun h => h2 h.2)]
    · rw [if_neg h1, speak_loop l a b hl d (i + 1) _ k (by clear e1; omega) (by clear e1; omega), hp, if_neg (fun h => h1 h.1)]
theorem speak_f (l : List SB) (a b : Int) (hl : l.length ≤ 1000) (k : Nat) (hk : 2 * l.length + 2 < k) : slot_Peak.f k l a b = some ((peakL (bks l) a b : Nat) : Int) := by
  unfold slot_Peak.f peakL
  by_cases h : a ≥ b
  · rw [if_pos h, if_pos h]; rfl
  · rw [if_neg h, if_neg (show ¬ b ≤ a from h), scount_f l a hl k (by omega)]
    simp only [Option.bind_some]
    have := speak_loop l a b hl l.length 0 (countL (bks l) a) k (by omega) (by omega)
    simpa using this
theorem sawake_f (k : Nat) (hk : 6 < k) : dynamolaw20_awake.f k = some true := by
  unfold dynamolaw20_awake.f
  rw [speak_f _ 0 10 (by simp) k (by simp; omega)]
  simp only [Option.bind_some]
  congr 1
theorem rdR_nat (l : List RB) (i : Nat) (h : i < l.length) : rd_T41 l (i : Int) = l[i] := by
  simp [rd_T41, List.getD_eq_getElem?_getD, List.getElem?_eq_getElem h]
theorem sof_loop (l : List RB) (hl : l.length ≤ 1000) : ∀ (d i k : Nat) (acc : List SB), i + d = l.length → acc.length ≤ i → d < k →
    dynamolaw20_of.l0 k l acc i = some (acc ++ (l.drop i).map ofR)
  | 0, i, k, acc, hi, ha, hk => by
    obtain ⟨k, rfl⟩ : ∃ j, k = j + 1 := ⟨k - 1, by omega⟩
    unfold dynamolaw20_of.l0
    rw [if_neg (by omega), List.drop_of_length_le (by omega)]
    simp
  | d + 1, i, k, acc, hi, ha, hk => by
    obtain ⟨k, rfl⟩ : ∃ j, k = j + 1 := ⟨k - 1, by omega⟩
    have hlt : i < l.length := by omega
    have hd : l.drop i = l[i] :: l.drop (i + 1) := List.drop_eq_getElem_cons hlt
    have e1 := wrap_nat (show i ≤ 1000000 by omega)
    unfold dynamolaw20_of.l0
    rw [if_pos (by clear e1; omega), if_pos (by clear e1; omega), if_pos (by clear e1; omega), rdR_nat l i hlt, e1, sof_loop l hl d (i + 1) k _ (by clear e1; omega) (by rw [List.length_append]; simp; omega) (by clear e1; omega), hd, List.map_cons, List.append_assoc]
    rfl
theorem sof_f (l : List RB) (hl : l.length ≤ 1000) (k : Nat) (hk : l.length < k) : dynamolaw20_of.f k l = some (l.map ofR) := by
  unfold dynamolaw20_of.f
  have := sof_loop l hl l.length 0 k [] (by omega) (by simp) hk
  simpa using this
end Go.Proofs.YtfgbnnmaooillaaDoor
