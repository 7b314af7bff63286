/- SlotTouch: the plain laws. -/
import Derived.Test.YtfgbnnmaooillaaDoorSlotAddPSlotPlays
namespace Go.Proofs.YtfgbnnmaooillaaDoor
open Go.ChangeShapes Go.WideShapes Go.RowKit Go.Lib Go.Proofs.YtfgbnnmaooillaaDoorW.PrintWords Go.Proofs.YtfgbnnmaooillaaDoorW.PrintLast Go.Proofs.YtfgbnnmaooillaaDoorW.PrintMore Go.Proofs.YtfgbnnmaooillaaDoor.PSlotPlays
set_option linter.unusedVariables false
set_option linter.unusedSimpArgs false

theorem right_iff (s : SB) : rightB (toBk s) = true ↔ 0 ≤ s.f0 ∧ s.f0 ≤ 9 ∧ 0 ≤ s.f1 ∧ s.f1 < s.f2 ∧ s.f2 ≤ 2147483647 := decide_eq_true_iff
theorem holds_iff (s : SB) (x : Int) : holdsB (toBk s) x = true ↔ (0 ≤ s.f0 ∧ s.f0 ≤ 9 ∧ 0 ≤ s.f1 ∧ s.f1 < s.f2 ∧ s.f2 ≤ 2147483647) ∧ s.f1 ≤ x ∧ x < s.f2 := by
  have h : holdsB (toBk s) x = (rightB (toBk s) && decide (s.f1 ≤ x ∧ x < s.f2)) := rfl
  rw [h, Bool.and_eq_true, right_iff, decide_eq_true_iff]
theorem count_nil (x : Int) : countL (bks []) x = 0 := rfl
theorem count_cons (s : SB) (L : List SB) (x : Int) : countL (bks (s :: L)) x = countL (bks L) x + if holdsB (toBk s) x = true then 1 else 0 := by
  unfold countL bks
  rw [List.map_cons, List.countP_cons]
theorem peak_zero {l : List Bk} {a b : Int} (h : ∀ x, a ≤ x → x < b → countL l x = 0) : peakL l a b = 0 := by
  have := peak_le l a b 0 (fun x h1 h2 => by rw [h x h1 h2]; exact Nat.le_refl _)
  omega
theorem peak_one {l : List Bk} {a b x : Int} (h : ∀ x, a ≤ x → x < b → countL l x ≤ 1) (h1 : a ≤ x) (h2 : x < b) (hx : countL l x = 1) : peakL l a b = 1 := by
  have h3 := peak_le l a b 1 h
  have h4 := peak_ub l a b x h1 h2
  omega
theorem touch1 (X : SB) (h : rightB (toBk X) = true) : addC [] 1 X = 0 := by
  unfold addC
  rw [if_neg (by rw [h]; simp), peak_zero (l := bks (ownL X.f0 [])) (fun x _ _ => rfl), peak_zero (l := bks []) (fun x _ _ => rfl)]
  simp
theorem own_same (X : SB) (r : Int) (h : X.f0 = r) : ownL r [X] = [X] := by simp [ownL, h]
theorem own_other (X : SB) (r : Int) (h : X.f0 ≠ r) : ownL r [X] = [] := by simp [ownL, h]
theorem count_one (s : SB) (x : Int) : countL (bks [s]) x = if holdsB (toBk s) x = true then 1 else 0 := by rw [count_cons, count_nil, Nat.zero_add]
theorem count_le1 (s : SB) (x : Int) : countL (bks [s]) x ≤ 1 := by rw [count_one]; split <;> omega
theorem touch2 (X Y : SB) (hX : rightB (toBk X) = true) (hY : rightB (toBk Y) = true) (hr : X.f0 = Y.f0) (h : X.f2 = Y.f1) : addC [X] 1 Y = 0 := by
  have hz : ∀ x, Y.f1 ≤ x → x < Y.f2 → countL (bks [X]) x = 0 := fun x h1 _ => by
    rw [count_one, if_neg]; rw [holds_iff]; omega
  unfold addC
  rw [if_neg (by rw [hY]; simp), own_same X _ hr, peak_zero hz]
  simp
theorem touch3 (X Z : SB) (hX : rightB (toBk X) = true) (hZ : rightB (toBk Z) = true) (hr : X.f0 ≠ Z.f0) (h : Z.f1 = X.f2 - 1) : addC [X] 1 Z = 10 := by
  have hx := (right_iff X).1 hX
  have hz := (right_iff Z).1 hZ
  have hp : peakL (bks [X]) Z.f1 Z.f2 = 1 := peak_one (x := Z.f1) (fun x _ _ => count_le1 X x) (Int.le_refl _) (by omega) (by rw [count_one, if_pos]; rw [holds_iff]; omega)
  unfold addC
  rw [if_neg (by rw [hZ]; simp), own_other X _ hr, peak_zero (l := bks []) (fun x _ _ => rfl), hp]
  simp
theorem touch4 (X I : SB) (hX : rightB (toBk X) = true) (hI : rightB (toBk I) = true) (hr : X.f0 = I.f0) (h : I.f1 = X.f2 - 1) : addC [X] 2 I = 5 := by
  have hx := (right_iff X).1 hX
  have hz := (right_iff I).1 hI
  have hp : peakL (bks [X]) I.f1 I.f2 = 1 := peak_one (x := I.f1) (fun x _ _ => count_le1 X x) (Int.le_refl _) (by omega) (by rw [count_one, if_pos]; rw [holds_iff]; omega)
  unfold addC
  rw [if_neg (by rw [hI]; simp), own_same X _ hr, hp]
  simp
theorem touch5 (X Y : SB) (hX : rightB (toBk X) = true) (h : X.f2 = Y.f1) (h2 : X.f1 < 2000) : peakL (bks [X, Y]) 0 2000 = 1 := by
  have hx := (right_iff X).1 hX
  refine peak_one (x := X.f1) (fun x _ _ => ?_) (by omega) h2 ?_
  · rw [count_cons, count_one]
    split
    · rename_i h3; rw [holds_iff] at h3
      rw [if_neg]; · omega
      · rw [holds_iff]; omega
    · split <;> omega
  · rw [count_cons, count_one, if_neg (by rw [holds_iff]; omega), if_pos (by rw [holds_iff]; omega)]
end Go.Proofs.YtfgbnnmaooillaaDoor
