/- rec: the plain laws of all's state, and what is read. -/
import Derived.Test.YtlcnhagcomljnaaDoorRecPPRecUnlike
namespace Go.Proofs.YtlcnhagcomljnaaDoor
open Go.RowKit Go.Proofs.YtlcnhagcomljnaaDoorW.PrintWords Go.Proofs.YtlcnhagcomljnaaDoorW.PrintLast Go.Proofs.YtlcnhagcomljnaaDoorW.PrintMore Go.Proofs.YtlcnhagcomljnaaDoor.PRecUnlike
set_option linter.unusedVariables false
set_option linter.unusedSimpArgs false

structure Al where
  k : Int
  o : List UInt8
deriving DecidableEq
def Al.right (a : Al) : Bool := decide (0 ≤ a.k ∧ a.k ≤ 2147483647)
def Al.lay (a : Al) : ByteArray := if a.right = true then putB 4 a.k ++ strL a.o else ⟨#[]⟩
def alOf (s : ByteArray) : Al := ⟨getK s 4, (s.extract 4 s.size).data.toList⟩
theorem al_fits {a : Al} (h : a.right = true) : fitsB 4 a.k = true := by
  simp only [Al.right, decide_eq_true_eq] at h
  simp only [fitsB, decide_eq_true_eq, pw4]
  omega
theorem al_put {a : Al} (h : a.right = true) : (putB 4 a.k).size = 4 := by
  have := putB_size (al_fits h); omega
theorem al_size (a : Al) (h : a.right = true) (ho : a.o.length = 8) : a.lay.size = 12 := by
  unfold Al.lay; rw [if_pos h, ByteArray.size_append, al_put h]
  show 4 + a.o.toArray.size = 12
  simp [ho]
theorem al_back (a : Al) (h : a.right = true) : alOf a.lay = a := by
  unfold Al.lay; rw [if_pos h]
  unfold alOf
  have e1 : getK (putB 4 a.k ++ strL a.o) 4 = a.k := getK_put (al_fits h) _
  have e2 : (putB 4 a.k ++ strL a.o).extract 4 (putB 4 a.k ++ strL a.o).size = strL a.o := extract_behind _ _ 4 (al_put h).symm
  rw [e1, e2]
  cases a; simp [strL]
/-- what is read: what is laid so; none -/
def robRead (s : ByteArray) : Bool := decide ((robOf (numbersR rwid s)).right = true ∧ (robOf (numbersR rwid s)).lay = s)
def tasRead (s : ByteArray) : Bool := decide ((tasOf (numbersR twid s)).right = true ∧ (tasOf (numbersR twid s)).lay = s)
def alRead (s : ByteArray) : Bool := decide (s.size = 12 ∧ (alOf s).right = true ∧ (alOf s).lay = s)
theorem robRead_lay {r : Rob} (h : r.right = true) : robRead r.lay = true := by
  unfold robRead; rw [rob_back r h]; simp [h]
theorem tasRead_lay {t : Tas} (h : t.right = true) : tasRead t.lay = true := by
  unfold tasRead; rw [tas_back t h]; simp [h]
theorem alRead_lay {a : Al} (h : a.right = true) (ho : a.o.length = 8) : alRead a.lay = true := by
  unfold alRead; rw [al_back a h, al_size a h ho]; simp [h]
theorem robRead_size {s : ByteArray} (h : s.size ≠ 12) : robRead s = false := by
  unfold robRead; rw [decide_eq_false_iff_not]; rintro ⟨h1, h2⟩; exact h (by rw [← h2]; exact rob_size _ h1)
theorem tasRead_size {s : ByteArray} (h : s.size ≠ 12) : tasRead s = false := by
  unfold tasRead; rw [decide_eq_false_iff_not]; rintro ⟨h1, h2⟩; exact h (by rw [← h2]; exact tas_size _ h1)
theorem alRead_size {s : ByteArray} (h : s.size ≠ 12) : alRead s = false := by
  unfold alRead; rw [decide_eq_false_iff_not]; rintro ⟨h1, h2⟩; exact h h1
theorem robRead_empty : robRead ⟨#[]⟩ = false := robRead_size (by decide)
theorem tasRead_empty : tasRead ⟨#[]⟩ = false := tasRead_size (by decide)
theorem alRead_empty : alRead ⟨#[]⟩ = false := alRead_size (by decide)
theorem Rob.right_in {r : Rob} (h : r.right = true) : r.in = true := by simp only [Rob.right, decide_eq_true_eq] at h; exact h.1
end Go.Proofs.YtlcnhagcomljnaaDoor
