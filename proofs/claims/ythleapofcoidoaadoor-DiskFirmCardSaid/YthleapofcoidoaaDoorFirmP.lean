/- dynamolaw04.DiskFirm: plain laws. -/
import Derived.Test.YthleapofcoidoaaDoorLastW
namespace Go.Proofs.YthleapofcoidoaaDoor
open Go.RowKit Go.Extern.Stop Go.Stop Go.Extern
set_option linter.unusedVariables false
set_option linter.unusedSimpArgs false

theorem getD_set_far (l : List Pg) (i j : Nat) (p : Pg) (h : i ≠ j) : (l.set i p).getD j zp = l.getD j zp := by
  rw [List.getD_eq_getElem?_getD, List.getElem?_set_ne h, List.getD_eq_getElem?_getD]
/-- what no loose write is for is as it was behind a crash -/
theorem crash_keep (mask : Int) (firm : List Pg) (L : Ls) (cut i : Nat) (h : ∀ x ∈ L, 0 ≤ x.1 ∧ x.1 ≠ (i : Int)) : ∀ k, k ≤ L.length → (crashTo mask firm L cut k).1.getD i zp = firm.getD i zp
  | 0, _ => rfl
  | k + 1, hk => by
    have ih := crash_keep mask firm L cut i h k (by omega)
    obtain ⟨h0, h1⟩ := h _ (List.getElem_mem (show k < L.length by omega))
    rw [crashTo_step _ _ _ _ _ hk]
    split
    · rw [getD_set_far _ _ _ _ (by omega), ih]
    · rw [getD_set_far _ _ _ _ (by omega), ih]
theorem crashP_keep (mask torn : Int) (firm : List Pg) (L : Ls) (i : Nat) (h : ∀ x ∈ L, 0 ≤ x.1 ∧ x.1 ≠ (i : Int)) : (crashP mask torn firm L).getD i zp = firm.getD i zp :=
  crash_keep mask firm L _ i h _ (Nat.le_refl _)
/-- a later act is for sector i -/
def laterB (l : List ActP) (k i : Nat) : Bool := (l.take k).any fun a => bits BinOp.and IntKind.i64 a.at_ 7 == (i : Int)
theorem laterB_step (l : List ActP) (k i : Nat) (h : k < l.length) : laterB l (k + 1) i = (laterB l k i || (bits BinOp.and IntKind.i64 l[k].at_ 7 == (i : Int))) := by
  unfold laterB; rw [List.take_succ_eq_append_getElem h, List.any_append]; simp
theorem later_none {l : List ActP} {k i : Nat} (h : laterB l k i = false) : ∀ x ∈ lsTo l k, 0 ≤ x.1 ∧ x.1 ≠ (i : Int) := fun x hx => by
  obtain ⟨a, ha, rfl⟩ := List.mem_map.1 hx
  refine ⟨(and7 a.at_).1, fun e => ?_⟩
  have := List.any_eq_false.1 h a ha
  simp only [beq_iff_eq] at this
  exact this e
end Go.Proofs.YthleapofcoidoaaDoor
