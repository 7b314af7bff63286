/- The reference's numbers in bytes, told in the same closed words. -/
import Derived.Test.YtlcnhagcomljnaaDoorRecQPRecUnlike
import Derived.Test.YtlcnhagcomljnaaDoorPLayRobotx1
namespace Go.Proofs.YtlcnhagcomljnaaDoor.RP
open Go.RowKit Go.Proofs.YtlcnhagcomljnaaDoorW.PrintWords Go.Proofs.YtlcnhagcomljnaaDoorW.PrintLast Go.Proofs.YtlcnhagcomljnaaDoorW.PrintMore Go.Proofs.YtlcnhagcomljnaaDoor.PLayRobot
set_option linter.unusedVariables false
set_option linter.unusedSimpArgs false

theorem strOf_append (a b : List Int) : strOfNums (a ++ b) = strOfNums a ++ strOfNums b := by
  apply ByteArray.ext
  simp [strOfNums]
theorem strOf_nil : strOfNums [] = ⟨#[]⟩ := rfl
theorem strOf_snoc_empty (a : List Int) : strOfNums a ++ (⟨#[]⟩ : ByteArray) = strOfNums a := by rw [← strOf_nil, ← strOf_append, List.append_nil]
theorem wrap_div {x : Int} (h0 : 0 ≤ x) (h1 : x ≤ 9223372036854775807) : wrap64 (Int.tdiv x 256) = x / 256 := by
  rw [Int.tdiv_eq_ediv_of_nonneg h0]; unfold wrap64; omega
theorem wrap_up {i : Int} (h0 : 0 ≤ i) (h1 : i ≤ 100) : wrap64 (i + 1) = i + 1 := by unfold wrap64; omega
theorem rput_step (k : Nat) (w x i : Int) (s : ByteArray) (h0 : 0 ≤ x) (h1 : x ≤ 9223372036854775807) (hi0 : 0 ≤ i) (hi : i < w) (hi1 : i ≤ 100) (hs : s.size ≤ 100) : dynamoref03_Put.l0 (k + 1) w x s i = dynamoref03_Put.l0 k w (x / 256) (strOfNums [x % 256] ++ s) (i + 1) := by
  have e : Int.tmod x 256 % 256 = x % 256 := by rw [Int.tmod_eq_emod_of_nonneg h0]; omega
  rw [dynamoref03_Put.l0, if_pos hi, e]
  simp only [Option.bind_some]
  rw [if_pos (by rw [strOf_size]; simp; omega), wrap_div h0 h1, wrap_up hi0 hi1]
theorem rput_end (k : Nat) (w x i : Int) (s : ByteArray) (hi : ¬ i < w) : dynamoref03_Put.l0 (k + 1) w x s i = some s := by
  rw [dynamoref03_Put.l0, if_neg hi]
theorem rput_f (w n : Int) (hn : n ≤ 9223372036854775807) (hf : fitsB w n = true) : dynamoref03_Put.f 7 w n = some (putB w n) := by
  unfold dynamoref03_Put.f putB
  rw [if_pos hf]
  simp only [fitsB, decide_eq_true_eq] at hf
  obtain ⟨h1, h4, g0, _⟩ := hf
  have g1 : 0 ≤ n / 256 ∧ n / 256 ≤ 9223372036854775807 := by omega
  have g2 : 0 ≤ n / 256 / 256 ∧ n / 256 / 256 ≤ 9223372036854775807 := by omega
  have g3 : 0 ≤ n / 256 / 256 / 256 ∧ n / 256 / 256 / 256 ≤ 9223372036854775807 := by omega
  have z0 : (⟨#[]⟩ : ByteArray).size ≤ 100 := by show 0 ≤ 100; omega
  rcases four h1 h4 with rfl | rfl | rfl | rfl
  · rw [rput_step _ _ _ _ _ g0 hn (by omega) (by omega) (by omega) z0, rput_end _ _ _ _ _ (by omega), strOf_snoc_empty]
    rfl
  · rw [rput_step _ _ _ _ _ g0 hn (by omega) (by omega) (by omega) z0, strOf_snoc_empty, rput_step _ _ _ _ _ g1.1 g1.2 (by omega) (by omega) (by omega) (by rw [strOf_size]; simp), ← strOf_append, rput_end _ _ _ _ _ (by omega)]
    rfl
  · rw [rput_step _ _ _ _ _ g0 hn (by omega) (by omega) (by omega) z0, strOf_snoc_empty, rput_step _ _ _ _ _ g1.1 g1.2 (by omega) (by omega) (by omega) (by rw [strOf_size]; simp), ← strOf_append, rput_step _ _ _ _ _ g2.1 g2.2 (by omega) (by omega) (by omega) (by rw [strOf_size]; simp), ← strOf_append, rput_end _ _ _ _ _ (by omega)]
    simp [putL, Int.ediv_ediv]
  · rw [rput_step _ _ _ _ _ g0 hn (by omega) (by omega) (by omega) z0, strOf_snoc_empty, rput_step _ _ _ _ _ g1.1 g1.2 (by omega) (by omega) (by omega) (by rw [strOf_size]; simp), ← strOf_append, rput_step _ _ _ _ _ g2.1 g2.2 (by omega) (by omega) (by omega) (by rw [strOf_size]; simp), ← strOf_append, rput_step _ _ _ _ _ g3.1 g3.2 (by omega) (by omega) (by omega) (by rw [strOf_size]; simp), ← strOf_append, rput_end _ _ _ _ _ (by omega)]
    simp [putL, Int.ediv_ediv]
/-- one byte -/
theorem put_one (n : Int) (h : fitsB 1 n = true) : putB 1 n = strOfNums [n % 256] := by
  unfold putB; rw [if_pos h]; rfl
theorem fields_s (ws ns : List Int) (k : Nat) : strL (fieldsTo ws ns (k + 1)) = strL (fieldsTo ws ns k) ++ putB (rd ws k) (rd ns k) := by
  rw [← strL_put (putB (rd ws k) (rd ns k)), ← strL_append]; rfl
theorem cat_nil (s : ByteArray) : strL (fieldsTo ([] : List Int) [] 0) ++ s = s := by
  apply ByteArray.ext; simp [strL, fieldsTo]
theorem strL_nil_cat (ws ns : List Int) (s : ByteArray) : strL (fieldsTo ws ns 0) ++ s = s := by
  apply ByteArray.ext; simp [strL, fieldsTo]
theorem rob_bytes (x : Rob) (h : x.right = true) : x.lay = strOfNums [x.c % 256, x.h % 256, x.p % 256, (x.t + 1) % 256] ++ putB 3 x.m ++ putB 3 x.g ++ putB 2 (x.a + 32768) := by
  have hz := (rob_code x (Rob.right_in h)).2 h
  have hr := h
  simp only [Rob.right, Rob.in, decide_eq_true_eq] at hr
  have f1 : ∀ n, 0 ≤ n → n ≤ 255 → fitsB 1 n = true := fun n h0 h1 => by simp only [fitsB, decide_eq_true_eq, pw1]; omega
  unfold Rob.lay; rw [if_pos h]
  have e : fieldsB rwid x.nums = strL (fieldsTo rwid x.nums 7) := by unfold fieldsB; rw [if_pos hz]; rfl
  rw [e, fields_s, fields_s, fields_s, fields_s, fields_s, fields_s, fields_s, strL_nil_cat]
  show putB 1 x.c ++ putB 1 x.h ++ putB 1 x.p ++ putB 1 (x.t + 1) ++ putB 3 x.m ++ putB 3 x.g ++ putB 2 (x.a + 32768) = _
  rw [put_one _ (f1 _ (by omega) (by omega)), put_one _ (f1 _ (by omega) (by omega)), put_one _ (f1 _ (by omega) (by omega)), put_one _ (f1 _ (by omega) (by omega)), ← strOf_append, ← strOf_append, ← strOf_append]
  rfl
end Go.Proofs.YtlcnhagcomljnaaDoor.RP
