/- Nodes: the reference's Right, Few, Same, told in the same closed words. -/
import Derived.Test.YtbiijkpffllimaaDoorNodePPNodeUnlike
namespace Go.Proofs.YtbiijkpffllimaaDoor
open Go.RowKit Go.Proofs.YtbiijkpffllimaaDoorW.PrintWords Go.Proofs.YtbiijkpffllimaaDoorW.PrintLast Go.Proofs.YtbiijkpffllimaaDoorW.PrintMore Go.Proofs.YtbiijkpffllimaaDoor.PNodeUnlike
set_option linter.unusedVariables false
set_option linter.unusedSimpArgs false

section
variable (ks : List Int) (vs : List ByteArray) (kd : List Int)
theorem r0_loop (hl : ks.length ≤ 1000) (t : Bool) (hT : Evn (fun k => if (kd.length : Int) = 0 then dynamoref09_Right.l1 k 0 ks vs kd else dynamoref09_Right.l2 k 0 ks vs kd) t) :
    ∀ (d i : Nat), i + d = ks.length → Evn (fun k => dynamoref09_Right.l0 k i ks vs kd) (allN (okK ks) i d && (decide (ks.length ≤ 7) && t))
  | 0, i, h => by
    rw [allN, Bool.true_and]
    by_cases h7 : (ks.length : Int) > 7
    · rw [decide_eq_false (show ¬ ks.length ≤ 7 by omega), Bool.false_and]
      refine Evn.last fun k => ?_
      show dynamoref09_Right.l0 (k + 1) i ks vs kd = _
      rw [dynamoref09_Right.l0, if_neg (by omega), if_pos h7]
    · rw [decide_eq_true (show ks.length ≤ 7 by omega), Bool.true_and]
      refine Evn.step (fun k => ?_) hT
      show dynamoref09_Right.l0 (k + 1) i ks vs kd = _
      rw [dynamoref09_Right.l0, if_neg (by omega), if_neg h7]
  | d + 1, i, h => by
    have e1 := up1 (i := i) (by omega)
    have ih := r0_loop hl t hT d (i + 1) (by clear e1; omega)
    have c1 : (i : Int) < (ks.length : Int) := by clear e1; omega
    have c2 : (0 : Int) ≤ (i : Int) := by clear e1; omega
    have hz : ∀ {b : Bool}, okK ks i = false → (allN (okK ks) i (d + 1) && b) = false := fun h => by rw [allN, h]; rfl
    by_cases h1 : rd ks (i : Int) < 0
    · rw [hz (okK_false (by clear e1; omega))]
      refine Evn.last fun k => ?_
      show dynamoref09_Right.l0 (k + 1) i ks vs kd = _
      rw [dynamoref09_Right.l0, if_pos c1, if_pos c2, if_pos h1]
    by_cases h2 : rd ks (i : Int) > 4294967295
    · rw [hz (okK_false (by clear e1; omega))]
      refine Evn.last fun k => ?_
      show dynamoref09_Right.l0 (k + 1) i ks vs kd = _
      rw [dynamoref09_Right.l0, if_pos c1, if_pos c2, if_neg h1, if_pos h2]
    by_cases h3 : 0 < i
    · have c3 : (i : Int) > 0 := by clear e1; omega
      have e2 := dn1 (i := i) (by clear e1; omega) h3
      have c4 : (0 : Int) ≤ ((i - 1 : Nat) : Int) := by clear e1 e2; omega
      have c5 : ((i - 1 : Nat) : Int) < (ks.length : Int) := by clear e1 e2; omega
      by_cases h4 : rd ks (i : Int) ≤ rd ks ((i - 1 : Nat) : Int)
      · rw [hz (okK_false (fun hh => by have := hh.2.2 h3; clear e1 e2; omega))]
        refine Evn.last fun k => ?_
        show dynamoref09_Right.l0 (k + 1) i ks vs kd = _
        rw [dynamoref09_Right.l0, if_pos c1, if_pos c2, if_neg h1, if_neg h2, if_pos c3, e2, if_pos c4, if_pos c5, if_pos h4]
      · rw [allN, okK_true (by clear e1 e2; exact ⟨by omega, by omega, fun _ => by omega⟩), Bool.true_and]
        refine Evn.step (fun k => ?_) ih
        show dynamoref09_Right.l0 (k + 1) i ks vs kd = _
        rw [dynamoref09_Right.l0, if_pos c1, if_pos c2, if_neg h1, if_neg h2, if_pos c3, e2, if_pos c4, if_pos c5, if_neg h4, e1]
    · have c3 : ¬ (i : Int) > 0 := by clear e1; omega
      rw [allN, okK_true (by clear e1; exact ⟨by omega, by omega, fun h => absurd h h3⟩), Bool.true_and]
      refine Evn.step (fun k => ?_) ih
      show dynamoref09_Right.l0 (k + 1) i ks vs kd = _
      rw [dynamoref09_Right.l0, if_pos c1, if_pos c2, if_neg h1, if_neg h2, if_neg c3, e1]
theorem r1_loop (hl : vs.length ≤ 1000) : ∀ (d i : Nat), i + d = vs.length → Evn (fun k => dynamoref09_Right.l1 k i ks vs kd) (allN (val12 vs) i d && decide (vs.length = ks.length))
  | 0, i, h => by
    rw [allN, Bool.true_and]
    refine Evn.last fun k => ?_
    show dynamoref09_Right.l1 (k + 1) i ks vs kd = _
    rw [dynamoref09_Right.l1, if_neg (by omega)]
    congr 1; rw [Bool.eq_iff_iff]; simp only [decide_eq_true_eq, beq_iff_eq]; omega
  | d + 1, i, h => by
    have e1 := up1 (i := i) (by omega)
    have ih := r1_loop hl d (i + 1) (by clear e1; omega)
    have c1 : (i : Int) < (vs.length : Int) := by clear e1; omega
    have c2 : (0 : Int) ≤ (i : Int) := by clear e1; omega
    by_cases h1 : ((rdOf ByteArray.empty vs (i : Int)).size : Int) = 12
    · rw [allN, show val12 vs i = true from decide_eq_true h1, Bool.true_and]
      refine Evn.step (fun k => ?_) ih
      show dynamoref09_Right.l1 (k + 1) i ks vs kd = _
      rw [dynamoref09_Right.l1, if_pos c1, if_pos c2, if_pos h1, e1]
    · rw [allN, show val12 vs i = false from decide_eq_false h1, Bool.false_and, Bool.false_and]
      refine Evn.last fun k => ?_
      show dynamoref09_Right.l1 (k + 1) i ks vs kd = _
      rw [dynamoref09_Right.l1, if_pos c1, if_pos c2, if_neg h1]
theorem r3_loop (hl : kd.length ≤ 1000) (i : Nat) (hi : i < kd.length) (t : Bool) (hT : Evn (fun k => dynamoref09_Right.l2 k ((i + 1 : Nat) : Int) ks vs kd) t) :
    ∀ (d j : Nat), j + d = i → Evn (fun k => dynamoref09_Right.l3 k i j ks vs kd) (allN (freshK kd i) j d && t)
  | 0, j, h => by
    have e1 := up1 (i := i) (by omega)
    rw [allN, Bool.true_and]
    refine Evn.step (fun k => ?_) hT
    show dynamoref09_Right.l3 (k + 1) i j ks vs kd = _
    rw [dynamoref09_Right.l3, if_neg (by clear e1; omega), e1]
  | d + 1, j, h => by
    have e1 := up1 (i := j) (by omega)
    have ih := r3_loop hl i hi t hT d (j + 1) (by clear e1; omega)
    have c1 : (j : Int) < (i : Int) := by clear e1; omega
    have c2 : (0 : Int) ≤ (j : Int) := by clear e1; omega
    have c3 : (j : Int) < (kd.length : Int) := by clear e1; omega
    have c4 : (0 : Int) ≤ (i : Int) := by clear e1; omega
    have c5 : (i : Int) < (kd.length : Int) := by clear e1; omega
    by_cases h1 : rd kd (j : Int) = rd kd (i : Int)
    · rw [allN, show freshK kd i j = false from decide_eq_false (fun h => h h1), Bool.false_and, Bool.false_and]
      refine Evn.last fun k => ?_
      show dynamoref09_Right.l3 (k + 1) i j ks vs kd = _
      rw [dynamoref09_Right.l3, if_pos c1, if_pos c2, if_pos c3, if_pos c4, if_pos c5, if_pos h1]
    · rw [allN, show freshK kd i j = true from decide_eq_true h1, Bool.true_and]
      refine Evn.step (fun k => ?_) ih
      show dynamoref09_Right.l3 (k + 1) i j ks vs kd = _
      rw [dynamoref09_Right.l3, if_pos c1, if_pos c2, if_pos c3, if_pos c4, if_pos c5, if_neg h1, e1]
theorem r2_loop (hl : kd.length ≤ 1000) (hl0 : ks.length ≤ 1000) : ∀ (d i : Nat), i + d = kd.length → Evn (fun k => dynamoref09_Right.l2 k i ks vs kd) (allN (kidK kd) i d && decide (vs.length = 0 ∧ 1 ≤ ks.length ∧ kd.length = ks.length + 1))
  | 0, i, h => by
    rw [allN, Bool.true_and]
    refine Evn.last fun k => ?_
    show dynamoref09_Right.l2 (k + 1) i ks vs kd = _
    have e1 := up1 (i := ks.length) (by omega)
    rw [dynamoref09_Right.l2, if_neg (by clear e1; omega), e1]
    clear e1
    by_cases h1 : (vs.length : Int) = 0
    · rw [if_pos h1]
      by_cases h2 : (ks.length : Int) ≥ 1
      · rw [if_pos h2]
        congr 1; rw [Bool.eq_iff_iff]; simp only [decide_eq_true_eq, beq_iff_eq]; omega
      · rw [if_neg h2]
        congr 1; symm; exact decide_eq_false (by omega)
    · rw [if_neg h1]
      congr 1; symm; exact decide_eq_false (by omega)
  | d + 1, i, h => by
    have ih := r2_loop hl hl0 d (i + 1) (by omega)
    have c1 : (i : Int) < (kd.length : Int) := by omega
    have c2 : (0 : Int) ≤ (i : Int) := by omega
    have h3 := r3_loop ks vs kd hl i (by omega) _ ih i 0 (by omega)
    by_cases h1 : rd kd (i : Int) < 2
    · rw [allN, show kidK kd i = false by unfold kidK; rw [decide_eq_false (by omega), Bool.false_and], Bool.false_and, Bool.false_and]
      refine Evn.step (h := fun k => dynamoref09_Right.j3 k i true ks vs kd) (fun k => ?_) (Evn.last fun k => ?_)
      · show dynamoref09_Right.l2 (k + 1) i ks vs kd = _
        rw [dynamoref09_Right.l2, if_pos c1, if_pos c2, if_pos h1]
      · show dynamoref09_Right.j3 (k + 1) i true ks vs kd = _
        rw [dynamoref09_Right.j3, if_pos rfl]
    · by_cases h2 : rd kd (i : Int) > 239
      · rw [allN, show kidK kd i = false by unfold kidK; rw [decide_eq_false (by omega), Bool.false_and], Bool.false_and, Bool.false_and]
        refine Evn.step (h := fun k => dynamoref09_Right.j3 k i true ks vs kd) (fun k => ?_) (Evn.last fun k => ?_)
        · show dynamoref09_Right.l2 (k + 1) i ks vs kd = _
          rw [dynamoref09_Right.l2, if_pos c1, if_pos c2, if_neg h1, decide_eq_true h2]
        · show dynamoref09_Right.j3 (k + 1) i true ks vs kd = _
          rw [dynamoref09_Right.j3, if_pos rfl]
      · rw [allN, show kidK kd i = allN (freshK kd i) 0 i by unfold kidK; rw [decide_eq_true (by omega), Bool.true_and], Bool.and_assoc]
        refine Evn.step (h := fun k => dynamoref09_Right.j3 k i false ks vs kd) (fun k => ?_) (Evn.step (fun k => ?_) h3)
        · show dynamoref09_Right.l2 (k + 1) i ks vs kd = _
          rw [dynamoref09_Right.l2, if_pos c1, if_pos c2, if_neg h1, decide_eq_false h2]
        · show dynamoref09_Right.j3 (k + 1) i false ks vs kd = _
          rw [dynamoref09_Right.j3, if_neg Bool.false_ne_true]
          rfl
theorem rright_f (h0 : ks.length ≤ 1000) (h1 : vs.length ≤ 1000) (h2 : kd.length ≤ 1000) : ∃ k, dynamoref09_Right.f k ks vs kd = some (nodeB ks vs kd) := by
  unfold nodeB risB
  rw [Bool.and_assoc]
  refine (r0_loop ks vs kd h0 _ ?_ ks.length 0 (by omega)).ex
  by_cases h : kd.length = 0
  · rw [if_pos h]
    refine Evn.bind (g := fun _ => some ()) (f := fun k _ => if (kd.length : Int) = 0 then dynamoref09_Right.l1 k 0 ks vs kd else dynamoref09_Right.l2 k 0 ks vs kd) (Evn.of fun _ => rfl) ?_
    simp only [if_pos (show (kd.length : Int) = 0 by omega)]
    exact r1_loop ks vs kd h1 vs.length 0 (by omega)
  · rw [if_neg h]
    refine Evn.bind (g := fun _ => some ()) (f := fun k _ => if (kd.length : Int) = 0 then dynamoref09_Right.l1 k 0 ks vs kd else dynamoref09_Right.l2 k 0 ks vs kd) (Evn.of fun _ => rfl) ?_
    simp only [if_neg (show ¬ (kd.length : Int) = 0 by omega)]
    exact r2_loop ks vs kd h2 h0 kd.length 0 (by omega)
end
end Go.Proofs.YtbiijkpffllimaaDoor
