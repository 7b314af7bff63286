/- SlotRooms: the plain laws. -/
import Derived.Test.YtfgbnnmaooillaaDoorTouchPPSlotPlays
namespace Go.Proofs.YtfgbnnmaooillaaDoor
open Go.ChangeShapes Go.WideShapes Go.RowKit Go.Lib Go.Proofs.YtfgbnnmaooillaaDoorW.PrintWords Go.Proofs.YtfgbnnmaooillaaDoorW.PrintLast Go.Proofs.YtfgbnnmaooillaaDoorW.PrintMore Go.Proofs.YtfgbnnmaooillaaDoor.PSlotPlays
set_option linter.unusedVariables false
set_option linter.unusedSimpArgs false

/-- no tick more often than there is room; of each robot no tick twice -/
def Fits (k : Nat) (H : List SB) : Prop := (∀ x, countL (bks H) x ≤ k) ∧ ∀ r x, countL (bks (ownL r H)) x ≤ 1
theorem fits_nil (k : Nat) : Fits k [] := ⟨fun _ => Nat.zero_le _, fun _ _ => Nat.zero_le _⟩
theorem count_snoc (H : List SB) (s : SB) (x : Int) : countL (bks (H ++ [s])) x = countL (bks H) x + if holdsB (toBk s) x = true then 1 else 0 := by
  unfold bks
  rw [List.map_append, countL_append]
  exact congrArg _ (count_one s x)
theorem own_snoc (r : Int) (H : List SB) (s : SB) : ownL r (H ++ [s]) = ownL r H ++ if s.f0 = r then [s] else [] := by
  unfold ownL
  rw [List.filter_append]
  by_cases h : s.f0 = r <;> simp [h]
theorem fits_add (k : Nat) (H : List SB) (b : SB) (h : Fits k H) (hc : addC H k b = 0) : Fits k (H ++ [b]) := by
  have hr : rightB (toBk b) = true := by
    cases hrb : rightB (toBk b) with
    | true => rfl
    | false => unfold addC at hc; rw [if_pos (.inl hrb)] at hc; cases hc
  unfold addC at hc
  split at hc
  · cases hc
  · split at hc
    · cases hc
    · rename_i hp
      split at hc
      · cases hc
      · rename_i hq
        refine ⟨fun x => ?_, fun r x => ?_⟩
        · rw [count_snoc]
          split
          · rename_i hh
            rw [holds_iff] at hh
            have := peak_ub (bks H) b.f1 b.f2 x hh.2.1 hh.2.2
            omega
          · exact h.1 x
        · rw [own_snoc]
          by_cases hb : b.f0 = r
          · rw [if_pos hb, count_snoc]
            split
            · rename_i hh
              rw [holds_iff] at hh
              have := peak_ub (bks (ownL b.f0 H)) b.f1 b.f2 x hh.2.1 hh.2.2
              rw [hb] at this hp
              omega
            · exact h.2 r x
          · rw [if_neg hb, List.append_nil]; exact h.2 r x
def sumOwn (H : List SB) (x : Int) : Nat → Nat
  | 0 => 0
  | m + 1 => sumOwn H x m + countL (bks (ownL (m : Int) H)) x
theorem sum_nil (x : Int) : ∀ m, sumOwn [] x m = 0
  | 0 => rfl
  | m + 1 => by rw [sumOwn, sum_nil x m]; rfl
theorem sum_cons (s : SB) (H : List SB) (x : Int) : ∀ m : Nat, sumOwn (s :: H) x m = sumOwn H x m + if holdsB (toBk s) x = true ∧ s.f0 < (m : Int) then 1 else 0
  | 0 => by
    rw [sumOwn, sumOwn, if_neg]
    rintro ⟨h1, h2⟩
    rw [holds_iff] at h1
    omega
  | m + 1 => by
    rw [sumOwn, sumOwn, sum_cons s H x m]
    have ho : ownL (m : Int) (s :: H) = if s.f0 = (m : Int) then s :: ownL (m : Int) H else ownL (m : Int) H := by
      unfold ownL
      rw [List.filter_cons]
      by_cases h : s.f0 = (m : Int) <;> simp [h]
    rw [ho]
    by_cases h : s.f0 = (m : Int)
    · rw [if_pos h, count_cons]
      by_cases hh : holdsB (toBk s) x = true
      · rw [if_neg (by omega), if_pos hh, if_pos ⟨hh, by omega⟩]; omega
      · rw [if_neg (fun q => hh q.1), if_neg hh, if_neg (fun q => hh q.1)]; omega
    · rw [if_neg h]
      by_cases hh : holdsB (toBk s) x = true ∧ s.f0 < (m : Int)
      · rw [if_pos hh, if_pos ⟨hh.1, by omega⟩]; omega
      · rw [if_neg hh, if_neg (fun q => hh ⟨q.1, by omega⟩)]; omega
theorem sum_count (x : Int) : ∀ H : List SB, sumOwn H x 10 = countL (bks H) x
  | [] => sum_nil x 10
  | s :: H => by
    rw [sum_cons, count_cons, sum_count x H]
    by_cases hh : holdsB (toBk s) x = true
    · have := (holds_iff s x).1 hh
      rw [if_pos hh, if_pos ⟨hh, by omega⟩]
    · rw [if_neg hh, if_neg (fun q => hh q.1)]
theorem of_count (r x : Int) (H : List SB) : ofB r x H = true ↔ 0 < countL (bks (ownL r H)) x := by
  induction H with
  | nil => simp [ofB, ownL, bks, countL]
  | cons s H ih =>
    have h1 : ofB r x (s :: H) = (ofP r x s.f0 s.f1 s.f2 || ofB r x H) := rfl
    have h2 : ofP r x s.f0 s.f1 s.f2 = (s.f0 == r && holdsB (toBk s) x) := rfl
    have ho : ownL r (s :: H) = if s.f0 = r then s :: ownL r H else ownL r H := by
      unfold ownL
      rw [List.filter_cons]
      by_cases h : s.f0 = r <;> simp [h]
    rw [h1, h2, ho, Bool.or_eq_true, ih, Bool.and_eq_true, beq_iff_eq]
    by_cases h : s.f0 = r
    · rw [if_pos h, count_cons]
      by_cases hh : holdsB (toBk s) x = true
      · rw [if_pos hh]; constructor
        · intro _; omega
        · intro _; exact .inl ⟨h, hh⟩
      · rw [if_neg hh]; constructor
        · rintro (q | q)
          · exact absurd q.2 hh
          · omega
        · intro q; exact .inr (by omega)
    · rw [if_neg h]; constructor
      · rintro (q | q)
        · exact absurd q.1 h
        · exact q
      · exact .inr
theorem of_step (k : Nat) (H : List SB) (h : Fits k H) (x : Int) (m : Nat) : sumOwn H x (m + 1) = sumOwn H x m + if ofB (m : Int) x H = true then 1 else 0 := by
  rw [sumOwn]
  have h1 := h.2 m x
  have h2 := of_count m x H
  split
  · rename_i hh; have := h2.1 hh; omega
  · rename_i hh; have : ¬ 0 < countL (bks (ownL (m : Int) H)) x := fun q => hh (h2.2 q)
    omega
theorem sum_le (k : Nat) (H : List SB) (h : Fits k H) (x : Int) : ∀ m, sumOwn H x m ≤ m
  | 0 => Nat.le_refl _
  | m + 1 => by rw [sumOwn]; have := sum_le k H h x m; have := h.2 m x; omega
theorem peak_tick (H : List Bk) (x : Int) : peakL H x (x + 1) = countL H x := by
  have h1 := peak_ub H x (x + 1) x (Int.le_refl _) (by omega)
  have h2 := peak_le H x (x + 1) (countL H x) (fun y h1 h2 => by obtain rfl : y = x := (by omega); exact Nat.le_refl _)
  omega
theorem peak_fits (k : Nat) (H : List SB) (h : Fits k H) (a b : Int) : peakL (bks H) a b ≤ k := peak_le _ a b k fun x _ _ => h.1 x
theorem peak_own (k : Nat) (H : List SB) (h : Fits k H) (r a b : Int) : peakL (bks (ownL r H)) a b ≤ 1 := peak_le _ a b 1 fun x _ _ => h.2 r x
theorem own_len (r : Int) (H : List SB) : (ownL r H).length ≤ H.length := List.length_filter_le _ _
theorem own_take (r : Int) (H : List SB) (i : Nat) (h : i < H.length) : ownL r (H.take (i + 1)) = ownL r (H.take i) ++ if H[i].f0 = r then [H[i]] else [] := by
  rw [List.take_succ_eq_append_getElem h, own_snoc]
end Go.Proofs.YtfgbnnmaooillaaDoor
