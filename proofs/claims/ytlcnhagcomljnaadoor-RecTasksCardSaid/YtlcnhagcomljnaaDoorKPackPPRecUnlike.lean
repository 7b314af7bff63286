/- Numbers in bytes: the plain laws of layer 3's functions (the printed ones told in closed words). -/
import Derived.Test.YtlcnhagcomljnaaDoorPRecUnlikex
namespace Go.Proofs.YtlcnhagcomljnaaDoor
open Go.RowKit Go.Proofs.YtlcnhagcomljnaaDoorW.PrintWords Go.Proofs.YtlcnhagcomljnaaDoorW.PrintLast Go.Proofs.YtlcnhagcomljnaaDoorW.PrintMore Go.Proofs.YtlcnhagcomljnaaDoor.PRecUnlike
set_option linter.unusedVariables false
set_option linter.unusedSimpArgs false

/-- is there such a width? -/
def mayB (w : Int) : Bool := decide (1 ≤ w ∧ w ≤ 4)
/-- does a number fit a width? -/
def fitsB (w n : Int) : Bool := decide (1 ≤ w ∧ w ≤ 4 ∧ 0 ≤ n ∧ n < 256 ^ w.toNat)
/-- a number's digits of 256, the greatest first -/
def putL (w n : Int) : List Int :=
  if w = 1 then [n % 256] else if w = 2 then [n / 256 % 256, n % 256] else if w = 3 then [n / 65536 % 256, n / 256 % 256, n % 256] else if w = 4 then [n / 16777216 % 256, n / 65536 % 256, n / 256 % 256, n % 256] else []
/-- a number's bytes; none where it doesn't fit -/
def putB (w n : Int) : ByteArray := if fitsB w n then strOfNums (putL w n) else ⟨#[]⟩
/-- the number of the first k bytes -/
def getK (s : ByteArray) : Nat → Int
  | 0 => 0
  | k + 1 => 256 * getK s k + bt s k

theorem may_f (w : Int) : pack_may.f w = some (mayB w) := by
  unfold pack_may.f mayB
  by_cases h : w ≥ 1
  · rw [if_pos h]; simp [show (1 ≤ w) from h]
  · rw [if_neg h]; simp; omega
theorem four {w : Int} (h1 : 1 ≤ w) (h2 : w ≤ 4) : w = 1 ∨ w = 2 ∨ w = 3 ∨ w = 4 := by omega
theorem pos_div {n m : Int} (h : 0 < m) : n / m = 0 ↔ 0 ≤ n ∧ n < m := by
  constructor
  · intro e
    have h1 := Int.mul_ediv_add_emod n m
    have h2 := Int.emod_nonneg n (show m ≠ 0 by omega)
    have h3 := Int.emod_lt_of_pos n h
    rw [e] at h1; omega
  · intro ⟨a, b⟩; exact Int.ediv_eq_zero_of_lt a b
theorem fits_f (w n : Int) : pack_fits.f w n = some (fitsB w n) := by
  unfold pack_fits.f
  rw [may_f]
  simp only [Option.bind_some]
  by_cases hm : 1 ≤ w ∧ w ≤ 4
  · obtain ⟨h1, h2⟩ := hm
    rw [if_pos (by simp [mayB]; omega)]
    by_cases hn : n ≥ 0
    · rw [if_pos hn]
      have hw : wrap64 (8 * w) = 8 * w := by unfold wrap64; omega
      rw [hw, if_pos (by omega)]
      congr 1
      have hb : (shr .i64 n (8 * w) == 0) = decide (n < 256 ^ w.toNat) := by
        unfold shr
        rcases four h1 h2 with rfl | rfl | rfl | rfl <;>
          (rw [Bool.eq_iff_iff]; simp [IntKind.bits]; omega)
      rw [hb]
      simp [fitsB, h1, h2, show (0 ≤ n) from hn]
    · rw [if_neg hn]
      congr 1
      simp [fitsB]; intro _ _ h; omega
  · rw [if_neg (by simp [mayB]; omega)]
    congr 1
    simp [fitsB]; omega
theorem put_f (w n : Int) : pack_Put.f 5 w n = some (putB w n) := by
  unfold pack_Put.f putB
  rw [fits_f]
  simp only [Option.bind_some]
  by_cases h : fitsB w n = true
  · rw [if_pos h, if_pos h]
    have h' := h
    simp only [fitsB, decide_eq_true_eq] at h'
    obtain ⟨h1, h2, h3, h4⟩ := h'
    rcases four h1 h2 with rfl | rfl | rfl | rfl <;> simp [pack_Put.l0, wrap64, shr, putL, IntKind.bits]
  · rw [if_neg h, if_neg h]
theorem strOf_size (l : List Int) : (strOfNums l).size = l.length := by
  simp [strOfNums, ByteArray.size]
theorem putB_size {w n : Int} (h : fitsB w n = true) : ((putB w n).size : Int) = w := by
  unfold putB
  rw [if_pos h, strOf_size]
  simp only [fitsB, decide_eq_true_eq] at h
  obtain ⟨h1, h2, h3, h4⟩ := h
  rcases four h1 h2 with rfl | rfl | rfl | rfl <;> simp [putL]
theorem putB_le (w n : Int) : (putB w n).size ≤ 4 := by
  by_cases h : fitsB w n = true
  · have := putB_size h
    simp only [fitsB, decide_eq_true_eq] at h
    omega
  · unfold putB; rw [if_neg h]; show 0 ≤ 4; omega
theorem getK_range (s : ByteArray) : ∀ k, 0 ≤ getK s k ∧ getK s k < 256 ^ k
  | 0 => by simp [getK]
  | k + 1 => by
    have h := getK_range s k
    have hb := bt_range s k
    simp only [getK, Int.pow_succ]
    omega
theorem bt_strOf (l : List Int) (more : ByteArray) (i : Nat) (hi : i < l.length) (h0 : ∀ x ∈ l, 0 ≤ x ∧ x ≤ 255) : bt (strOfNums l ++ more) i = l[i] := by
  have hs : i < (strOfNums l).size := by rw [strOf_size]; exact hi
  have hr := h0 l[i] (List.getElem_mem hi)
  have h2 : i < (strOfNums l ++ more).size := by rw [ByteArray.size_append]; omega
  unfold bt
  rw [dif_pos (by simpa using h2)]
  have e : (strOfNums l ++ more)[((i : Nat) : Int).toNat]'(by simpa using h2) = (strOfNums l)[i] := by
    simp [ByteArray.getElem_append_left hs]
  rw [e]
  simp [strOfNums, ByteArray.getElem_eq_getElem_data]
  omega
theorem putL_range (w n : Int) : ∀ x ∈ putL w n, 0 ≤ x ∧ x ≤ 255 := by
  intro x hx
  unfold putL at hx
  split at hx
  · simp at hx; omega
  split at hx
  · simp at hx; omega
  split at hx
  · simp at hx; omega
  split at hx
  · simp at hx; omega
  · simp at hx
/-- what is laid is got, whatever stands behind -/
theorem getK_put {w n : Int} (h : fitsB w n = true) (more : ByteArray) : getK (putB w n ++ more) w.toNat = n := by
  unfold putB
  rw [if_pos h]
  simp only [fitsB, decide_eq_true_eq] at h
  obtain ⟨h1, h2, h3, h4⟩ := h
  have hb := bt_strOf (putL w n) more
  have hr := putL_range w n
  rcases four h1 h2 with rfl | rfl | rfl | rfl
  · have b0 := hb 0 (by simp [putL]) hr
    simp [putL] at b0 h4
    simp [getK, putL, b0]; omega
  · have b0 := hb 0 (by simp [putL]) hr
    have b1 := hb 1 (by simp [putL]) hr
    simp [putL] at b0 b1 h4
    simp [getK, putL, b0, b1]; omega
  · have b0 := hb 0 (by simp [putL]) hr
    have b1 := hb 1 (by simp [putL]) hr
    have b2 := hb 2 (by simp [putL]) hr
    simp [putL] at b0 b1 b2 h4
    simp [getK, putL, b0, b1, b2]; omega
  · have b0 := hb 0 (by simp [putL]) hr
    have b1 := hb 1 (by simp [putL]) hr
    have b2 := hb 2 (by simp [putL]) hr
    have b3 := hb 3 (by simp [putL]) hr
    simp [putL] at b0 b1 b2 b3 h4
    simp [getK, putL, b0, b1, b2, b3]; omega
theorem wraps_i64 (n : Int) (h₀ : 0 ≤ n) (h₁ : n < 2 ^ 62) : IntKind.i64.wrap n = n := by rw [IntKind.wrap_i64]; omega
theorem or_step {n c : Int} (h0 : 0 ≤ n) (h1 : n < 16777216) (c0 : 0 ≤ c) (c1 : c ≤ 255) : bits .or .i64 (wrap64 (n * 256)) (wrap64 c) = 256 * n + c := by
  have e1 : wrap64 (n * 256) = n * 256 := by unfold wrap64; omega
  have e2 : wrap64 c = c := by clear e1; unfold wrap64; omega
  rw [e1, e2, bits_join .i64 62 (by decide) wraps_i64 8 (n * 256) c (by clear e1 e2; omega) (by clear e1 e2; omega) (by clear e1 e2; omega) c0 (by clear e1 e2; omega) (by clear e1 e2; omega)]
  clear e1 e2; omega
theorem getK_lt {s : ByteArray} {k : Nat} (h : k ≤ 3) : 0 ≤ getK s k ∧ getK s k < 16777216 := by
  have hr := getK_range s k
  rcases (show k = 0 ∨ k = 1 ∨ k = 2 ∨ k = 3 by omega) with rfl | rfl | rfl | rfl <;> simp at hr ⊢ <;> omega
theorem or_get (s : ByteArray) (k : Nat) (h : k ≤ 3) (hk : k < s.size) : bits .or .i64 (wrap64 (getK s k * 256)) (wrap64 ((s[k]'hk).toNat : Int)) = getK s (k + 1) := by
  have hb : ((s[k]'hk).toNat : Int) = bt s k := by simp [bt, hk]
  have hr := getK_lt (s := s) h
  have h2 := bt_range s k
  rw [hb, or_step hr.1 hr.2 h2.1 h2.2]
  rfl
end Go.Proofs.YtlcnhagcomljnaaDoor
