/- Slots: what the laws' walks share. -/
import Derived.Test.YtfgbnnmaooillaaFnEPSlotShifts
import Derived.Test.YtfgbnnmaooillaaSlotAPSlotShifts
namespace Go.Proofs.Ytfgbnnmaooillaa
open Go.ChangeShapes Go.WideShapes Go.RowKit Go.Lib Go.Proofs.YtfgbnnmaooillaaW.PrintWords Go.Proofs.YtfgbnnmaooillaaW.PrintLast Go.Proofs.YtfgbnnmaooillaaW.PrintMore Go.Proofs.Ytfgbnnmaooillaa.PSlotShifts
set_option linter.unusedVariables false
set_option linter.unusedSimpArgs false

theorem rRight_f (a b c : Int) : dynamoref20_Right.f a b c = some (rightB ⟨a, b, c⟩) := by
  unfold dynamoref20_Right.f
  by_cases h1 : a ≥ 0
  · rw [if_pos h1]
    by_cases h2 : a ≤ 9
    · rw [if_pos h2]
      by_cases h3 : b ≥ 0
      · rw [if_pos h3]
        by_cases h4 : b < c
        · rw [if_pos h4]; congr 1; rw [Bool.eq_iff_iff]; simp [rightB]; omega
        · rw [if_neg h4]; congr 1; symm; simp [rightB]; omega
      · rw [if_neg h3]; congr 1; symm; simp [rightB]; omega
    · rw [if_neg h2]; congr 1; symm; simp [rightB]; omega
  · rw [if_neg h1]; congr 1; symm; simp [rightB]; omega
def toBkR (s : RB) : Bk := ⟨s.f0, s.f1, s.f2⟩
theorem of_call (A : Option Addr) (cp : Nat) (l : List RB) (W : World) (h : RBs W A l cp) (hl : l.length ≤ 1000) :
    Calls Try.prog 7 #[.slice A l.length cp] W fun e w' => ∃ v0_ : Value, e = .returned v0_ ∧ Kd.R kSB 31 w' W.heap.size (fun _ => True) v0_ (l.map ofR) ∧ Below W.heap.size W w' :=
  dynamolaw20_of.calls 1001 A cp l _ W h.1 h.2.1 (sof_f l hl 1001 (by omega))
theorem awake_call (W : World) : Calls Try.prog 6 #[] W fun e w' => e = .returned (.bool true) ∧ Below W.heap.size W w' := dynamolaw20_awake.calls 7 true W (sawake_f 7 (by omega))
theorem RBs.below {W w' : World} {A : Option Addr} {l : List RB} {cp : Nat} (h : RBs W A l cp) (hb : Below W.heap.size W w') : RBs w' A l cp := ⟨Kd.C_below h.1 hb, h.2.1, h.2.2⟩
theorem bstep0 {W w1 w2 : World} (h : Below W.heap.size W w1) (k : Below w1.heap.size w1 w2) : Below W.heap.size W w2 := h.trans (k.mono h.size)

theorem R_cells {w : World} {base : Nat} {ok : Nat → Prop} {v : Value} {l : List SB} (h : Kd.R kSB 31 w base ok v l) (j : Nat) (hj : j < l.length) :
    ∃ g cap, v = .slice (some ⟨g, 0, none⟩) l.length cap ∧ w.cell? ⟨g, j * 3, none⟩ = some (.int .i64 l[j].f0) ∧ w.cell? ⟨g, j * 3 + 1, none⟩ = some (.int .i64 l[j].f1) ∧ w.cell? ⟨g, j * 3 + 2, none⟩ = some (.int .i64 l[j].f2) := by
  rcases R_own3 h with ⟨_, rfl⟩ | ⟨g, cap, rfl, hc, _, hlt, hB⟩
  · cases hj
  · obtain ⟨a, b, c⟩ := mOf_at l j hj
    obtain ⟨x0, x1, x2⟩ := load3 hB j hj
    simp only [Nat.zero_add] at x0 x1 x2
    rw [a] at x0; rw [b] at x1; rw [c] at x2
    exact ⟨g, cap, rfl, x0, x1, x2⟩
end Go.Proofs.Ytfgbnnmaooillaa
