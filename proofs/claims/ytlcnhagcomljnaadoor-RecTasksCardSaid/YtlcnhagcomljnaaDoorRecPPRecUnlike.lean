/- rec: the plain laws. -/
import Derived.Test.YtlcnhagcomljnaaDoorKPackUPRecUnlike
namespace Go.Proofs.YtlcnhagcomljnaaDoor
open Go.RowKit Go.Proofs.YtlcnhagcomljnaaDoorW.PrintWords Go.Proofs.YtlcnhagcomljnaaDoorW.PrintLast Go.Proofs.YtlcnhagcomljnaaDoorW.PrintMore Go.Proofs.YtlcnhagcomljnaaDoor.PRecUnlike
set_option linter.unusedVariables false
set_option linter.unusedSimpArgs false

def rwid : List Int := [1, 1, 1, 1, 3, 3, 2]
def twid : List Int := [1, 1, 1, 4, 4, 1]
theorem rwid_size : sizeR rwid = 12 := by decide
theorem twid_size : sizeR twid = 12 := by decide
structure Rob where
  c : Int
  h : Int
  p : Int
  t : Int
  m : Int
  g : Int
  a : Int
deriving DecidableEq
structure Tas where
  f : Int
  t : Int
  s : Int
deriving DecidableEq
theorem pw1 : (256 : Int) ^ (1 : Int).toNat = 256 := by decide
theorem pw2 : (256 : Int) ^ (2 : Int).toNat = 65536 := by decide
theorem pw3 : (256 : Int) ^ (3 : Int).toNat = 16777216 := by decide
theorem pw4 : (256 : Int) ^ (4 : Int).toNat = 4294967296 := by decide
/-- the numbers fit their widths -/
theorem fitTo_cons (w n : Int) (ws ns : List Int) (k : Nat) : fitTo (w :: ws) (n :: ns) (k + 1) ↔ fitsB w n = true ∧ fitTo ws ns k := by
  constructor
  · intro h
    refine ⟨by simpa [rd] using h 0 (by omega), fun j hj => ?_⟩
    have := h (j + 1) (by omega)
    simpa [rd, show ((j : Int) + 1).toNat = j + 1 by omega] using this
  · rintro ⟨h0, h1⟩ j hj
    rcases j with _ | j
    · simpa [rd] using h0
    · have := h1 j (by omega)
      simpa [rd, show ((j : Int) + 1).toNat = j + 1 by omega] using this
theorem fitTo_zero (ws ns : List Int) : fitTo ws ns 0 ↔ True := ⟨fun _ => trivial, fun _ j hj => by omega⟩
def Rob.nums (r : Rob) : List Int := [r.c, r.h, r.p, r.t + 1, r.m, r.g, r.a + 32768]
def Rob.in (r : Rob) : Bool := decide (0 ≤ r.c ∧ r.c ≤ 63 ∧ 0 ≤ r.h ∧ r.h ≤ 200 ∧ 0 ≤ r.p ∧ r.p ≤ 4 ∧ -1 ≤ r.t ∧ r.t ≤ 19 ∧ -32768 ≤ r.a ∧ r.a ≤ 32767)
def Rob.right (r : Rob) : Bool := decide (r.in = true ∧ 0 ≤ r.m ∧ r.m < 16777216 ∧ 0 ≤ r.g ∧ r.g < 16777216)
def Rob.lay (r : Rob) : ByteArray := if r.right = true then fieldsB rwid r.nums else ⟨#[]⟩
def Tas.nums (t : Tas) : List Int := [t.f, t.t, t.s, 0, 0, 0]
def Tas.right (t : Tas) : Bool := decide (0 ≤ t.f ∧ t.f ≤ 63 ∧ 0 ≤ t.t ∧ t.t ≤ 63 ∧ 0 ≤ t.s ∧ t.s ≤ 3)
def Tas.lay (t : Tas) : ByteArray := if t.right = true then fieldsB twid t.nums else ⟨#[]⟩
theorem rob_code (r : Rob) (hi : r.in = true) : fieldsC rwid r.nums = 0 ↔ r.right = true := by
  have e : fieldsC rwid r.nums = if fitTo rwid r.nums 7 then 0 else 8 := by
    unfold fieldsC; rw [rwid_size, if_neg (by simp [rwid, Rob.nums])]; rfl
  rw [e]
  have q : fitTo rwid r.nums 7 ↔ r.right = true := by
    simp only [Rob.in, decide_eq_true_eq] at hi
    simp only [rwid, Rob.nums, fitTo_cons, fitTo_zero, fitsB, Rob.right, Rob.in, decide_eq_true_eq, pw1, pw2, pw3, pw4, and_true]
    omega
  by_cases h : fitTo rwid r.nums 7
  · rw [if_pos h]; exact ⟨fun _ => q.1 h, fun _ => rfl⟩
  · rw [if_neg h]; exact ⟨fun x => absurd x (by decide), fun x => absurd (q.2 x) h⟩
theorem tas_code (t : Tas) (hi : t.right = true) : fieldsC twid t.nums = 0 := by
  have e : fieldsC twid t.nums = if fitTo twid t.nums 6 then 0 else 8 := by
    unfold fieldsC; rw [twid_size, if_neg (by simp [twid, Tas.nums])]; rfl
  rw [e, if_pos]
  simp only [Tas.right, decide_eq_true_eq] at hi
  simp only [twid, Tas.nums, fitTo_cons, fitTo_zero, fitsB, decide_eq_true_eq, pw1, pw2, pw3, pw4, and_true]
  omega
/-- the numbers of widths; 0s -/
def numbersR (ws : List Int) (s : ByteArray) : List Int := if parseC ws s = 0 then parseTo ws s ws.length else List.replicate ws.length 0
def robOf (l : List Int) : Rob := ⟨rd l 0, rd l 1, rd l 2, rd l 3 - 1, rd l 4, rd l 5, rd l 6 - 32768⟩
def tasOf (l : List Int) : Tas := ⟨rd l 0, rd l 1, rd l 2⟩
theorem numbers_lay (ws ns : List Int) (h : fieldsC ws ns = 0) : numbersR ws (fieldsB ws ns) = ns := by
  obtain ⟨h0, h1, h2⟩ := fieldsC_zero h
  have hz := fieldsB_size h
  have hc : parseC ws (fieldsB ws ns) = 0 := by unfold parseC; rw [if_neg (by omega), if_neg (by omega)]
  unfold numbersR
  rw [if_pos hc, h1]
  have e : fieldsB ws ns = strL (fieldsTo ws ns ns.length) := by unfold fieldsB; rw [if_pos h]; rfl
  rw [e, parse_to ws ns ns.length rfl h2 ns.length (Nat.le_refl _), List.take_length]
theorem rob_back (r : Rob) (h : r.right = true) : robOf (numbersR rwid r.lay) = r := by
  have hi : r.in = true := by simp only [Rob.right, decide_eq_true_eq] at h; exact h.1
  have hc := (rob_code r hi).2 h
  unfold Rob.lay; rw [if_pos h, numbers_lay _ _ hc]
  cases r
  simp [robOf, Rob.nums, rd]
theorem tas_back (t : Tas) (h : t.right = true) : tasOf (numbersR twid t.lay) = t := by
  unfold Tas.lay; rw [if_pos h, numbers_lay _ _ (tas_code t h)]
  cases t
  simp [tasOf, Tas.nums, rd]
theorem rob_size (r : Rob) (h : r.right = true) : r.lay.size = 12 := by
  have hi : r.in = true := by simp only [Rob.right, decide_eq_true_eq] at h; exact h.1
  have hz := fieldsB_size ((rob_code r hi).2 h)
  unfold Rob.lay; rw [if_pos h]; rw [rwid_size] at hz; omega
theorem tas_size (t : Tas) (h : t.right = true) : t.lay.size = 12 := by
  have hz := fieldsB_size (tas_code t h)
  unfold Tas.lay; rw [if_pos h]; rw [twid_size] at hz; omega
/-- unlike robots, unlike values -/
theorem rob_unlike (r q : Rob) (h : r.right = true) (g : q.right = true) : r.lay = q.lay ↔ r = q :=
  ⟨fun e => by rw [← rob_back r h, ← rob_back q g, e], fun e => by rw [e]⟩
end Go.Proofs.YtlcnhagcomljnaaDoor
