/- The reference's numbers in bytes, told in the same closed words. -/
import Derived.Test.YthleapofcoidoaaDoorPackQ
namespace Go.Proofs.YthleapofcoidoaaDoor
open Go.RowKit Go.Proofs.YthleapofcoidoaaDoorW.PrintWords Go.Proofs.YthleapofcoidoaaDoorW.PrintLast Go.Proofs.YthleapofcoidoaaDoorW.PrintMore Go.Proofs.YthleapofcoidoaaDoor.PPackPlays
set_option linter.unusedVariables false
set_option linter.unusedSimpArgs false

theorem strOf_append (a b : List Int) : strOfNums (a ++ b) = strOfNums a ++ strOfNums b := by
  apply ByteArray.ext
  simp [strOfNums]
theorem strOf_nil : strOfNums [] = ⟨#[]⟩ := rfl
theorem strOf_snoc_empty (a : List Int) : strOfNums a ++ (⟨#[]⟩ : ByteArray) = strOfNums a := by rw [← strOf_nil, ← strOf_append, List.append_nil]
theorem wrap_div {x : Int} (h0 : 0 ≤ x) (h1 : x ≤ 9223372036854775807) : wrap64 (Int.tdiv x 256) = x / 256 := by
  rw [Int.tdiv_eq_ediv_of_nonneg h0]; unfold wrap64; omega
theorem wrap_up {i : Int} (h0 : 0 ≤ i) (h1 : i ≤ 100) : wrap64 (i + 1) = i + 1 := by unfold wrap64; omega
theorem rfits_step (k : Nat) (w x i : Int) (h0 : 0 ≤ x) (h1 : x ≤ 9223372036854775807) (hi0 : 0 ≤ i) (hi : i < w) (hi1 : i ≤ 100) : dynamoref03_Fits.l0 (k + 1) w x i = dynamoref03_Fits.l0 k w (x / 256) (i + 1) := by
  rw [dynamoref03_Fits.l0, if_pos hi, wrap_div h0 h1, wrap_up hi0 hi1]
theorem rfits_end (k : Nat) (w x i : Int) (hi : ¬ i < w) : dynamoref03_Fits.l0 (k + 1) w x i = some (x == 0) := by
  rw [dynamoref03_Fits.l0, if_neg hi]
theorem rfits_f (w n : Int) (hn : n ≤ 9223372036854775807) : dynamoref03_Fits.f 7 w n = some (fitsB w n) := by
  unfold dynamoref03_Fits.f
  by_cases h1 : w < 1
  · rw [if_pos h1, dynamoref03_Fits.j0, if_pos rfl]
    congr 1; symm; simp [fitsB]; omega
  · rw [if_neg h1]
    by_cases h4 : w > 4
    · rw [if_pos h4, dynamoref03_Fits.j0, if_pos rfl]
      congr 1; symm; simp [fitsB]; omega
    · rw [if_neg h4, dynamoref03_Fits.j0]
      by_cases h0 : n < 0
      · rw [if_pos (by simpa using h0)]
        congr 1; symm; simp [fitsB]; omega
      · rw [if_neg (by simpa using h0)]
        have g0 : 0 ≤ n := by omega
        have g1 : 0 ≤ n / 256 ∧ n / 256 ≤ 9223372036854775807 := by omega
        have g2 : 0 ≤ n / 256 / 256 ∧ n / 256 / 256 ≤ 9223372036854775807 := by omega
        have g3 : 0 ≤ n / 256 / 256 / 256 ∧ n / 256 / 256 / 256 ≤ 9223372036854775807 := by omega
        rcases four (show 1 ≤ w by omega) (show w ≤ 4 by omega) with rfl | rfl | rfl | rfl
        · rw [rfits_step _ _ _ _ g0 hn (by omega) (by omega) (by omega), rfits_end _ _ _ _ (by omega)]
          congr 1; rw [Bool.eq_iff_iff]; simp [fitsB]; omega
        · rw [rfits_step _ _ _ _ g0 hn (by omega) (by omega) (by omega), rfits_step _ _ _ _ g1.1 g1.2 (by omega) (by omega) (by omega), rfits_end _ _ _ _ (by omega)]
          congr 1; rw [Bool.eq_iff_iff]; simp [fitsB]; omega
        · rw [rfits_step _ _ _ _ g0 hn (by omega) (by omega) (by omega), rfits_step _ _ _ _ g1.1 g1.2 (by omega) (by omega) (by omega), rfits_step _ _ _ _ g2.1 g2.2 (by omega) (by omega) (by omega), rfits_end _ _ _ _ (by omega)]
          congr 1; rw [Bool.eq_iff_iff]; simp [fitsB]; omega
        · rw [rfits_step _ _ _ _ g0 hn (by omega) (by omega) (by omega), rfits_step _ _ _ _ g1.1 g1.2 (by omega) (by omega) (by omega), rfits_step _ _ _ _ g2.1 g2.2 (by omega) (by omega) (by omega), rfits_step _ _ _ _ g3.1 g3.2 (by omega) (by omega) (by omega), rfits_end _ _ _ _ (by omega)]
          congr 1; rw [Bool.eq_iff_iff]; simp [fitsB]; omega
theorem rput_step (k : Nat) (w x i : Int) (s : ByteArray) (h0 : 0 ≤ x) (h1 : x ≤ 9223372036854775807) (hi0 : 0 ≤ i) (hi : i < w) (hi1 : i ≤ 100) (hs : s.size ≤ 100) : dynamoref03_Put.l0 (k + 1) w x s i = dynamoref03_Put.l0 k w (x / 256) (strOfNums [x % 256] ++ s) (i + 1) := by
  have e : Int.tmod x 256 % 256 = x % 256 := by rw [Int.tmod_eq_emod_of_nonneg h0]; omega
  rw [dynamoref03_Put.l0, if_pos hi, e]
  simp only [Option.bind_some]
  rw [if_pos (by rw [strOf_size]; simp; omega), wrap_div h0 h1, wrap_up hi0 hi1]
theorem rput_end (k : Nat) (w x i : Int) (s : ByteArray) (hi : ¬ i < w) : dynamoref03_Put.l0 (k + 1) w x s i = some s := by
  rw [dynamoref03_Put.l0, if_neg hi]
theorem rput_f (w n : Int) (hn : n ≤ 9223372036854775807) (hf : fitsB w n = true) : dynamoref03_Put.f 7 w n = some (putB w n) := by
  unfold dynamoref03_Put.f putB
  rw [if_pos hf]
  simp only [fitsB, decide_eq_true_eq] at hf
  obtain ⟨h1, h4, g0, _⟩ := hf
  have g1 : 0 ≤ n / 256 ∧ n / 256 ≤ 9223372036854775807 := by omega
  have g2 : 0 ≤ n / 256 / 256 ∧ n / 256 / 256 ≤ 9223372036854775807 := by omega
  have g3 : 0 ≤ n / 256 / 256 / 256 ∧ n / 256 / 256 / 256 ≤ 9223372036854775807 := by omega
  have z0 : (⟨#[]⟩ : ByteArray).size ≤ 100 := by show 0 ≤ 100; omega
  rcases four h1 h4 with rfl | rfl | rfl | rfl
  · rw [rput_step _ _ _ _ _ g0 hn (by omega) (by omega) (by omega) z0, rput_end _ _ _ _ _ (by omega), strOf_snoc_empty]
    rfl
  · rw [rput_step _ _ _ _ _ g0 hn (by omega) (by omega) (by omega) z0, strOf_snoc_empty, rput_step _ _ _ _ _ g1.1 g1.2 (by omega) (by omega) (by omega) (by rw [strOf_size]; simp), ← strOf_append, rput_end _ _ _ _ _ (by omega)]
    rfl
  · rw [rput_step _ _ _ _ _ g0 hn (by omega) (by omega) (by omega) z0, strOf_snoc_empty, rput_step _ _ _ _ _ g1.1 g1.2 (by omega) (by omega) (by omega) (by rw [strOf_size]; simp), ← strOf_append, rput_step _ _ _ _ _ g2.1 g2.2 (by omega) (by omega) (by omega) (by rw [strOf_size]; simp), ← strOf_append, rput_end _ _ _ _ _ (by omega)]
    simp [putL, Int.ediv_ediv]
  · rw [rput_step _ _ _ _ _ g0 hn (by omega) (by omega) (by omega) z0, strOf_snoc_empty, rput_step _ _ _ _ _ g1.1 g1.2 (by omega) (by omega) (by omega) (by rw [strOf_size]; simp), ← strOf_append, rput_step _ _ _ _ _ g2.1 g2.2 (by omega) (by omega) (by omega) (by rw [strOf_size]; simp), ← strOf_append, rput_step _ _ _ _ _ g3.1 g3.2 (by omega) (by omega) (by omega) (by rw [strOf_size]; simp), ← strOf_append, rput_end _ _ _ _ _ (by omega)]
    simp [putL, Int.ediv_ediv]
theorem rsize_loop (ws : List Int) (hl : ws.length ≤ 40) : ∀ (d i : Nat) (acc : Int), i + d = ws.length → (i : Int) ≤ acc → acc ≤ 4 * i →
    dynamoref03_Size.l0 (d + 1) ws acc i = some (if (ws.drop i).all mayB = true then acc + (ws.drop i).sum else -1)
  | 0, i, acc, hi, _, _ => by
    rw [dynamoref03_Size.l0, if_neg (by omega), List.drop_of_length_le (by omega)]
    simp
  | d + 1, i, acc, hi, h0, h1 => by
    have hlt : i < ws.length := by omega
    have e2 : wrap64 ((i : Int) + 1) = ((i + 1 : Nat) : Int) := by unfold wrap64; omega
    have hdrop : ws.drop i = ws[i] :: ws.drop (i + 1) := List.drop_eq_getElem_cons hlt
    rw [dynamoref03_Size.l0, if_pos (by clear e2; omega), if_pos (by clear e2; omega), rd_nat ws i hlt, hdrop, List.all_cons, List.sum_cons]
    by_cases b1 : ws[i] < 1
    · rw [if_pos b1, if_neg (by simp [mayB]; omega)]
    · rw [if_neg b1]
      by_cases b4 : ws[i] > 4
      · rw [if_pos b4, if_neg (by simp [mayB]; omega)]
      · rw [if_neg b4, if_neg (by clear e2; omega)]
        have hm : mayB ws[i] = true := mayB_iff.2 (by omega)
        have e1 : wrap64 (acc + ws[i]) = acc + ws[i] := by clear e2; unfold wrap64; omega
        rw [e1, e2, rsize_loop ws hl d (i + 1) (acc + ws[i]) (by clear e1 e2; omega) (by clear e1 e2; omega) (by clear e1 e2; omega), hm]
        simp only [Bool.true_and, Int.add_assoc]
theorem rsize_f (ws : List Int) : dynamoref03_Size.f (ws.length + 1) ws = some (sizeR ws) := by
  unfold dynamoref03_Size.f
  by_cases hl : ws.length ≤ 40
  · have h := rsize_loop ws hl ws.length 0 0 (by omega) (by omega) (by omega)
    simp only [List.drop_zero, Int.zero_add] at h
    rw [show ((0 : Nat) : Int) = 0 from rfl] at h
    rw [h]; unfold sizeR
    by_cases ha : ws.all mayB = true
    · rw [if_pos ha, if_pos ⟨hl, ha⟩]
    · rw [if_neg ha, if_neg (fun h => ha h.2)]
  · rw [dynamoref03_Size.l0, if_pos (by omega), if_pos (by omega)]
    have e : sizeR ws = -1 := by unfold sizeR; rw [if_neg (fun h => hl h.1)]
    rw [e]
    by_cases b1 : rd ws 0 < 1
    · rw [if_pos b1]
    · rw [if_neg b1]
      by_cases b4 : rd ws 0 > 4
      · rw [if_pos b4]
      · rw [if_neg b4, if_pos (by omega)]
end Go.Proofs.YthleapofcoidoaaDoor
