/- Numbers in bytes, and their order: plain laws. -/
import Derived.Test.YthleapofcoidoaaPawakex1
namespace Go.Proofs.Ythleapofcoidoaa
open Go.RowKit Go.Proofs.YthleapofcoidoaaW.PrintWords Go.Proofs.YthleapofcoidoaaW.PrintLast Go.Proofs.YthleapofcoidoaaW.PrintMore Go.Proofs.Ythleapofcoidoaa.Pawake
set_option linter.unusedVariables false
set_option linter.unusedSimpArgs false

/-- is there such a width? -/
def mayB (w : Int) : Bool := decide (1 ≤ w ∧ w ≤ 4)
/-- does a number fit a width? -/
def fitsB (w n : Int) : Bool := decide (1 ≤ w ∧ w ≤ 4 ∧ 0 ≤ n ∧ n < 256 ^ w.toNat)
/-- a number's digits of 256, the greatest first -/
def putL (w n : Int) : List Int :=
  if w = 1 then [n % 256] else if w = 2 then [n / 256 % 256, n % 256] else if w = 3 then [n / 65536 % 256, n / 256 % 256, n % 256] else if w = 4 then [n / 16777216 % 256, n / 65536 % 256, n / 256 % 256, n % 256] else []
/-- a number's bytes; none where it doesn't fit -/
def putB (w n : Int) : ByteArray := if fitsB w n then strOfNums (putL w n) else ⟨#[]⟩
theorem may_f (w : Int) : pack_may.f w = some (mayB w) := by
  unfold pack_may.f mayB
  by_cases h : w ≥ 1
  · rw [if_pos h]; simp [show (1 ≤ w) from h]
  · rw [if_neg h]; simp; omega
theorem four {w : Int} (h1 : 1 ≤ w) (h2 : w ≤ 4) : w = 1 ∨ w = 2 ∨ w = 3 ∨ w = 4 := by omega
theorem pos_div {n m : Int} (h : 0 < m) : n / m = 0 ↔ 0 ≤ n ∧ n < m := by
  constructor
  · intro e
    have h1 := Int.mul_ediv_add_emod n m
    have h2 := Int.emod_nonneg n (show m ≠ 0 by omega)
    have h3 := Int.emod_lt_of_pos n h
    rw [e] at h1; omega
  · intro ⟨a, b⟩; exact Int.ediv_eq_zero_of_lt a b
theorem fits_f (w n : Int) : pack_fits.f w n = some (fitsB w n) := by
  unfold pack_fits.f
  rw [may_f]
  simp only [Option.bind_some]
  by_cases hm : 1 ≤ w ∧ w ≤ 4
  · obtain ⟨h1, h2⟩ := hm
    rw [if_pos (by simp [mayB]; omega)]
    by_cases hn : n ≥ 0
    · rw [if_pos hn]
      have hw : wrap64 (8 * w) = 8 * w := by unfold wrap64; omega
      rw [hw, if_pos (by omega)]
      congr 1
      have hb : (shr .i64 n (8 * w) == 0) = decide (n < 256 ^ w.toNat) := by
        unfold shr
        rcases four h1 h2 with rfl | rfl | rfl | rfl <;>
          (rw [Bool.eq_iff_iff]; simp [IntKind.bits]; omega)
      rw [hb]
      simp [fitsB, h1, h2, show (0 ≤ n) from hn]
    · rw [if_neg hn]
      congr 1
      simp [fitsB]; intro _ _ h; omega
  · rw [if_neg (by simp [mayB]; omega)]
    congr 1
    simp [fitsB]; omega
theorem put_f (w n : Int) : pack_Put.f 5 w n = some (putB w n) := by
  unfold pack_Put.f putB
  rw [fits_f]
  simp only [Option.bind_some]
  by_cases h : fitsB w n = true
  · rw [if_pos h, if_pos h]
    have h' := h
    simp only [fitsB, decide_eq_true_eq] at h'
    obtain ⟨h1, h2, h3, h4⟩ := h'
    rcases four h1 h2 with rfl | rfl | rfl | rfl <;> simp [pack_Put.l0, wrap64, shr, putL, IntKind.bits]
  · rw [if_neg h, if_neg h]
theorem strOf_size (l : List Int) : (strOfNums l).size = l.length := by
  simp [strOfNums, ByteArray.size]
theorem putB_size {w n : Int} (h : fitsB w n = true) : ((putB w n).size : Int) = w := by
  unfold putB
  rw [if_pos h, strOf_size]
  simp only [fitsB, decide_eq_true_eq] at h
  obtain ⟨h1, h2, h3, h4⟩ := h
  rcases four h1 h2 with rfl | rfl | rfl | rfl <;> simp [putL]
theorem putB_le (w n : Int) : (putB w n).size ≤ 4 := by
  by_cases h : fitsB w n = true
  · have := putB_size h
    simp only [fitsB, decide_eq_true_eq] at h
    omega
  · unfold putB; rw [if_neg h]; show 0 ≤ 4; omega
theorem putB_len {w n : Int} (h : fitsB w n = true) (k : Nat) (hk : w = k) : (putB w n).size = k := by have := putB_size h; omega
theorem putB_list {w n : Int} (h : fitsB w n = true) : (putB w n).toList = (putL w n).map fun x => UInt8.ofNat x.toNat := by
  unfold putB; rw [if_pos h]; simp [strOfNums, ByteArray.toList_eq]
theorem u8_lt {a b : Int} (a0 : 0 ≤ a) (a1 : a ≤ 255) (b0 : 0 ≤ b) (b1 : b ≤ 255) : (UInt8.ofNat a.toNat < UInt8.ofNat b.toNat) ↔ a < b := by
  rw [UInt8.lt_iff_toNat_lt]; simp; omega
theorem u8_eq {a b : Int} (a0 : 0 ≤ a) (a1 : a ≤ 255) (b0 : 0 ≤ b) (b1 : b ≤ 255) : (UInt8.ofNat a.toNat = UInt8.ofNat b.toNat) ↔ a = b := by
  constructor
  · intro h
    have := congrArg UInt8.toNat h
    simp at this; omega
  · intro h; rw [h]
theorem less_cons {a b : Int} (x y : List UInt8) (a0 : 0 ≤ a) (a1 : a ≤ 255) (b0 : 0 ≤ b) (b1 : b ≤ 255) :
    Op.bytesLess (UInt8.ofNat a.toNat :: x) (UInt8.ofNat b.toNat :: y) = (decide (a < b) || (decide (a = b) && Op.bytesLess x y)) := by
  rw [Op.bytesLess, Bool.eq_iff_iff]
  simp [u8_lt a0 a1 b0 b1, u8_eq a0 a1 b0 b1]
theorem less_nil : Op.bytesLess [] [] = false := rfl
theorem put_less {w x y : Int} (hx : fitsB w x = true) (hy : fitsB w y = true) : Op.bytesLess (putB w x).toList (putB w y).toList = decide (x < y) := by
  rw [putB_list hx, putB_list hy]
  simp only [fitsB, decide_eq_true_eq] at hx hy
  obtain ⟨h1, h4, x0, x1⟩ := hx
  obtain ⟨_, _, y0, y1⟩ := hy
  rcases four h1 h4 with rfl | rfl | rfl | rfl
  · simp at x1 y1
    simp only [putL, if_true, List.map_cons, List.map_nil]
    rw [less_cons _ _ (by omega) (by omega) (by omega) (by omega), less_nil, Bool.eq_iff_iff]
    simp; omega
  · simp at x1 y1
    rw [show putL 2 x = [x / 256 % 256, x % 256] from rfl, show putL 2 y = [y / 256 % 256, y % 256] from rfl]
    simp only [List.map_cons, List.map_nil]
    rw [less_cons _ _ (by omega) (by omega) (by omega) (by omega), less_cons _ _ (by omega) (by omega) (by omega) (by omega), less_nil, Bool.eq_iff_iff]
    simp; omega
  · simp at x1 y1
    rw [show putL 3 x = [x / 65536 % 256, x / 256 % 256, x % 256] from rfl, show putL 3 y = [y / 65536 % 256, y / 256 % 256, y % 256] from rfl]
    simp only [List.map_cons, List.map_nil]
    rw [less_cons _ _ (by omega) (by omega) (by omega) (by omega), less_cons _ _ (by omega) (by omega) (by omega) (by omega), less_cons _ _ (by omega) (by omega) (by omega) (by omega), less_nil, Bool.eq_iff_iff]
    simp; omega
  · simp at x1 y1
    rw [show putL 4 x = [x / 16777216 % 256, x / 65536 % 256, x / 256 % 256, x % 256] from rfl, show putL 4 y = [y / 16777216 % 256, y / 65536 % 256, y / 256 % 256, y % 256] from rfl]
    simp only [List.map_cons, List.map_nil]
    rw [less_cons _ _ (by omega) (by omega) (by omega) (by omega), less_cons _ _ (by omega) (by omega) (by omega) (by omega), less_cons _ _ (by omega) (by omega) (by omega) (by omega), less_cons _ _ (by omega) (by omega) (by omega) (by omega), less_nil, Bool.eq_iff_iff]
    have e1 : x / 65536 = x / 256 / 256 := by omega
    have e2 : x / 16777216 = x / 256 / 256 / 256 := by omega
    have e3 : y / 65536 = y / 256 / 256 := by omega
    have e4 : y / 16777216 = y / 256 / 256 / 256 := by omega
    rw [e1, e2, e3, e4]
    clear e1 e2 e3 e4
    simp; omega
theorem Put_any (w n : Int) (W : World) : Calls Try.prog 5 #[.int .i64 w, .int .i64 n] W fun e w' => e = .returned (.string (putB w n)) ∧ Below W.heap.size W w' :=
  pack_Put.calls 5 w n _ W (put_f w n)
theorem pack_awake (W : World) : Calls Try.prog 4 #[] W fun e w' => e = .returned (.bool true) ∧ Below W.heap.size W w' :=
  dynamolaw03_awake.calls 5 true W (by unfold dynamolaw03_awake.f; rw [put_f]; simp [putB, fitsB, putL, strOfNums, ByteArray.toList_eq])
theorem bstep {W w1 w2 : World} (h : Below W.heap.size W w1) (k : Below w1.heap.size w1 w2) : Below W.heap.size W w2 := h.trans (k.mono h.size)
end Go.Proofs.Ythleapofcoidoaa
