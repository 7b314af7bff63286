/- Nodes: the plain laws of layer 9's printed functions, told in closed words. Nodes: the reference's Right, Few, Same, told in the same closed words. Nodes: Few and Same of the statements, told in closed words. Nodes in memory; node.kids by its contract. -/
import Derived.Test.YtbiijkpffllimaaDoorKPackPPNodeUnlike
import Derived.Test.YtbiijkpffllimaaDoorErrC
import Derived.Maps.Own
import Derived.MapViews
import Derived.Maps.Views
import Derived.OwnWalk
import Derived.IntWalk
import Derived.Outline
namespace Go.Proofs.YtbiijkpffllimaaDoor
open Go.RowKit Go.Proofs.YtbiijkpffllimaaDoorW.PrintWords Go.Proofs.YtbiijkpffllimaaDoorW.PrintLast Go.Proofs.YtbiijkpffllimaaDoorW.PrintMore Go.Proofs.YtbiijkpffllimaaDoor.PNodeUnlike
set_option linter.unusedVariables false
set_option linter.unusedSimpArgs false

/-- with rounds enough, the answer is r -/
def Evn {α : Type} (g : Nat → Option α) (r : α) : Prop := ∃ N, ∀ k, N ≤ k → g k = some r
theorem Evn.of {α : Type} {g : Nat → Option α} {r : α} (h : ∀ k, g k = some r) : Evn g r := ⟨0, fun k _ => h k⟩
theorem Evn.step {α : Type} {g h : Nat → Option α} {r : α} (hs : ∀ k, g (k + 1) = h k) (e : Evn h r) : Evn g r := by
  obtain ⟨N, hN⟩ := e
  refine ⟨N + 1, fun k hk => ?_⟩
  obtain ⟨m, rfl⟩ : ∃ m, k = m + 1 := ⟨k - 1, by omega⟩
  rw [hs]; exact hN m (by omega)
theorem Evn.last {α : Type} {g : Nat → Option α} {r : α} (hs : ∀ k, g (k + 1) = some r) : Evn g r := Evn.step (h := fun _ => some r) hs (Evn.of fun _ => rfl)
theorem Evn.ex {α : Type} {g : Nat → Option α} {r : α} (e : Evn g r) : ∃ k, g k = some r := e.elim fun N h => ⟨N, h N (Nat.le_refl _)⟩
theorem Evn.bind {α β : Type} {g : Nat → Option α} {x : α} {f : Nat → α → Option β} {r : β} (e : Evn g x) (e2 : Evn (fun k => f k x) r) : Evn (fun k => (g k).bind (f k)) r := by
  obtain ⟨N, hN⟩ := e
  obtain ⟨M, hM⟩ := e2
  refine ⟨N + M, fun k hk => ?_⟩
  show (g k).bind (f k) = some r
  rw [hN k (by omega), Option.bind_some]; exact hM k (by omega)
/-- of d numbers from i on -/
def allN (p : Nat → Bool) (i : Nat) : Nat → Bool
  | 0 => true
  | d + 1 => p i && allN p (i + 1) d
theorem allN_iff {p : Nat → Bool} : ∀ {d i : Nat}, allN p i d = true ↔ ∀ j, i ≤ j → j < i + d → p j = true
  | 0, i => by simp only [allN, true_iff]; intro j h1 h2; omega
  | d + 1, i => by
    rw [allN, Bool.and_eq_true, allN_iff]
    constructor
    · intro ⟨h1, h2⟩ j h3 h4
      rcases Nat.lt_or_ge i j with h | h
      · exact h2 j h (by omega)
      · obtain rfl : j = i := by omega
        exact h1
    · intro h
      exact ⟨h i (Nat.le_refl _) (by omega), fun j h3 h4 => h j (by omega) (by omega)⟩
theorem allN_all {p : Nat → Bool} {n : Nat} : allN p 0 n = true ↔ ∀ j, j < n → p j = true := by
  rw [allN_iff]
  exact ⟨fun h j hj => h j (Nat.zero_le _) (by omega), fun h j _ hj => h j (by omega)⟩
/-- does the key at i rise? -/
def okK (ks : List Int) (i : Nat) : Bool := decide (0 ≤ rd ks (i : Int) ∧ rd ks (i : Int) ≤ 4294967295 ∧ (0 < i → rd ks ((i - 1 : Nat) : Int) < rd ks (i : Int)))
def risB (ks : List Int) : Bool := allN (okK ks) 0 ks.length && decide (ks.length ≤ 7)
def val12 (vs : List ByteArray) (i : Nat) : Bool := decide (((rdOf ByteArray.empty vs (i : Int)).size : Int) = 12)
def valsB (vs : List ByteArray) : Bool := allN (val12 vs) 0 vs.length
def freshK (kd : List Int) (i m : Nat) : Bool := decide (rd kd (m : Int) ≠ rd kd (i : Int))
def kidK (kd : List Int) (i : Nat) : Bool := decide (2 ≤ rd kd (i : Int) ∧ rd kd (i : Int) ≤ 239) && allN (freshK kd i) 0 i
def kidsB (kd : List Int) : Bool := allN (kidK kd) 0 kd.length
/-- is a node right? -/
def nodeB (ks : List Int) (vs : List ByteArray) (kd : List Int) : Bool :=
  risB ks && (if kd.length = 0 then valsB vs && decide (vs.length = ks.length) else kidsB kd && decide (vs.length = 0 ∧ 1 ≤ ks.length ∧ kd.length = ks.length + 1))
theorem up1 {i : Nat} (h : i ≤ 100000) : wrap64 ((i : Int) + 1) = ((i + 1 : Nat) : Int) := by unfold wrap64; omega
theorem dn1 {i : Nat} (h : i ≤ 100000) (h0 : 0 < i) : wrap64 ((i : Int) - 1) = ((i - 1 : Nat) : Int) := by unfold wrap64; omega
theorem okK_false {ks : List Int} {i : Nat} (h : ¬ (0 ≤ rd ks (i : Int) ∧ rd ks (i : Int) ≤ 4294967295 ∧ (0 < i → rd ks ((i - 1 : Nat) : Int) < rd ks (i : Int)))) : okK ks i = false := by unfold okK; exact decide_eq_false h
theorem okK_true {ks : List Int} {i : Nat} (h : 0 ≤ rd ks (i : Int) ∧ rd ks (i : Int) ≤ 4294967295 ∧ (0 < i → rd ks ((i - 1 : Nat) : Int) < rd ks (i : Int))) : okK ks i = true := by unfold okK; exact decide_eq_true h
theorem ris_loop (ks : List Int) (hl : ks.length ≤ 1000) : ∀ (d i : Nat), i + d = ks.length → Evn (fun k => node_rising.l0 k ks ks ks.length i) (allN (okK ks) i d && decide (ks.length ≤ 7))
  | 0, i, h => by
    refine Evn.last fun k => ?_
    show node_rising.l0 (k + 1) ks ks ks.length i = _
    rw [node_rising.l0, if_neg (by omega), allN, Bool.true_and]
    congr 1; rw [Bool.eq_iff_iff]; simp only [decide_eq_true_eq]; omega
  | d + 1, i, h => by
    have e1 := up1 (i := i) (by omega)
    have ih := ris_loop ks hl d (i + 1) (by clear e1; omega)
    have c1 : (i : Int) < (ks.length : Int) := by clear e1; omega
    have c2 : (0 : Int) ≤ (i : Int) := by clear e1; omega
    have hz : ∀ {b : Bool}, okK ks i = false → (allN (okK ks) i (d + 1) && b) = false := fun h => by rw [allN, h]; rfl
    by_cases h1 : rd ks (i : Int) < 0
    · rw [hz (okK_false (by clear e1; omega))]
      refine Evn.last fun k => ?_
      show node_rising.l0 (k + 1) ks ks ks.length i = _
      rw [node_rising.l0, if_pos c1, if_pos c2, if_pos c1, if_pos h1]
    by_cases h2 : rd ks (i : Int) > 4294967295
    · rw [hz (okK_false (by clear e1; omega))]
      refine Evn.last fun k => ?_
      show node_rising.l0 (k + 1) ks ks ks.length i = _
      rw [node_rising.l0, if_pos c1, if_pos c2, if_pos c1, if_neg h1, if_pos h2]
    by_cases h3 : 0 < i
    · have c3 : (i : Int) > 0 := by clear e1; omega
      have e2 := dn1 (i := i) (by clear e1; omega) h3
      have c4 : (0 : Int) ≤ ((i - 1 : Nat) : Int) := by clear e1 e2; omega
      have c5 : ((i - 1 : Nat) : Int) < (ks.length : Int) := by clear e1 e2; omega
      by_cases h4 : rd ks (i : Int) ≤ rd ks ((i - 1 : Nat) : Int)
      · rw [hz (okK_false (fun hh => by have := hh.2.2 h3; clear e1 e2; omega))]
        refine Evn.last fun k => ?_
        show node_rising.l0 (k + 1) ks ks ks.length i = _
        rw [node_rising.l0, if_pos c1, if_pos c2, if_pos c1, if_neg h1, if_neg h2, if_pos c3, e2, if_pos c4, if_pos c5, if_pos h4]
      · rw [allN, okK_true (by clear e1 e2; exact ⟨by omega, by omega, fun _ => by omega⟩), Bool.true_and]
        refine Evn.step (fun k => ?_) ih
        show node_rising.l0 (k + 1) ks ks ks.length i = _
        rw [node_rising.l0, if_pos c1, if_pos c2, if_pos c1, if_neg h1, if_neg h2, if_pos c3, e2, if_pos c4, if_pos c5, if_neg h4, e1]
    · have c3 : ¬ (i : Int) > 0 := by clear e1; omega
      rw [allN, okK_true (by clear e1; exact ⟨by omega, by omega, fun h => absurd h h3⟩), Bool.true_and]
      refine Evn.step (fun k => ?_) ih
      show node_rising.l0 (k + 1) ks ks ks.length i = _
      rw [node_rising.l0, if_pos c1, if_pos c2, if_pos c1, if_neg h1, if_neg h2, if_neg c3, e1]
theorem ris_f (ks : List Int) (hl : ks.length ≤ 1000) : ∃ k, node_rising.f k ks = some (risB ks) := (ris_loop ks hl ks.length 0 (by omega)).ex
end Go.Proofs.YtbiijkpffllimaaDoor
namespace Go.Proofs.YtbiijkpffllimaaDoor
open Go.RowKit Go.Proofs.YtbiijkpffllimaaDoorW.PrintWords Go.Proofs.YtbiijkpffllimaaDoorW.PrintLast Go.Proofs.YtbiijkpffllimaaDoorW.PrintMore Go.Proofs.YtbiijkpffllimaaDoor.PNodeUnlike
set_option linter.unusedVariables false
set_option linter.unusedSimpArgs false

section
variable (ks : List Int) (vs : List ByteArray) (kd : List Int)
theorem r0_loop (hl : ks.length ≤ 1000) (t : Bool) (hT : Evn (fun k => if (kd.length : Int) = 0 then dynamoref09_Right.l1 k 0 ks vs kd else dynamoref09_Right.l2 k 0 ks vs kd) t) :
    ∀ (d i : Nat), i + d = ks.length → Evn (fun k => dynamoref09_Right.l0 k i ks vs kd) (allN (okK ks) i d && (decide (ks.length ≤ 7) && t))
  | 0, i, h => by
    rw [allN, Bool.true_and]
    by_cases h7 : (ks.length : Int) > 7
    · rw [decide_eq_false (show ¬ ks.length ≤ 7 by omega), Bool.false_and]
      refine Evn.last fun k => ?_
      show dynamoref09_Right.l0 (k + 1) i ks vs kd = _
      rw [dynamoref09_Right.l0, if_neg (by omega), if_pos h7]
    · rw [decide_eq_true (show ks.length ≤ 7 by omega), Bool.true_and]
      refine Evn.step (fun k => ?_) hT
      show dynamoref09_Right.l0 (k + 1) i ks vs kd = _
      rw [dynamoref09_Right.l0, if_neg (by omega), if_neg h7]
  | d + 1, i, h => by
    have e1 := up1 (i := i) (by omega)
    have ih := r0_loop hl t hT d (i + 1) (by clear e1; omega)
    have c1 : (i : Int) < (ks.length : Int) := by clear e1; omega
    have c2 : (0 : Int) ≤ (i : Int) := by clear e1; omega
    have hz : ∀ {b : Bool}, okK ks i = false → (allN (okK ks) i (d + 1) && b) = false := fun h => by rw [allN, h]; rfl
    by_cases h1 : rd ks (i : Int) < 0
    · rw [hz (okK_false (by clear e1; omega))]
      refine Evn.last fun k => ?_
      show dynamoref09_Right.l0 (k + 1) i ks vs kd = _
      rw [dynamoref09_Right.l0, if_pos c1, if_pos c2, if_pos h1]
    by_cases h2 : rd ks (i : Int) > 4294967295
    · rw [hz (okK_false (by clear e1; omega))]
      refine Evn.last fun k => ?_
      show dynamoref09_Right.l0 (k + 1) i ks vs kd = _
      rw [dynamoref09_Right.l0, if_pos c1, if_pos c2, if_neg h1, if_pos h2]
    by_cases h3 : 0 < i
    · have c3 : (i : Int) > 0 := by clear e1; omega
      have e2 := dn1 (i := i) (by clear e1; omega) h3
      have c4 : (0 : Int) ≤ ((i - 1 : Nat) : Int) := by clear e1 e2; omega
      have c5 : ((i - 1 : Nat) : Int) < (ks.length : Int) := by clear e1 e2; omega
      by_cases h4 : rd ks (i : Int) ≤ rd ks ((i - 1 : Nat) : Int)
      · rw [hz (okK_false (fun hh => by have := hh.2.2 h3; clear e1 e2; omega))]
        refine Evn.last fun k => ?_
        show dynamoref09_Right.l0 (k + 1) i ks vs kd = _
        rw [dynamoref09_Right.l0, if_pos c1, if_pos c2, if_neg h1, if_neg h2, if_pos c3, e2, if_pos c4, if_pos c5, if_pos h4]
      · rw [allN, okK_true (by clear e1 e2; exact ⟨by omega, by omega, fun _ => by omega⟩), Bool.true_and]
        refine Evn.step (fun k => ?_) ih
        show dynamoref09_Right.l0 (k + 1) i ks vs kd = _
        rw [dynamoref09_Right.l0, if_pos c1, if_pos c2, if_neg h1, if_neg h2, if_pos c3, e2, if_pos c4, if_pos c5, if_neg h4, e1]
    · have c3 : ¬ (i : Int) > 0 := by clear e1; omega
      rw [allN, okK_true (by clear e1; exact ⟨by omega, by omega, fun h => absurd h h3⟩), Bool.true_and]
      refine Evn.step (fun k => ?_) ih
      show dynamoref09_Right.l0 (k + 1) i ks vs kd = _
      rw [dynamoref09_Right.l0, if_pos c1, if_pos c2, if_neg h1, if_neg h2, if_neg c3, e1]
theorem r1_loop (hl : vs.length ≤ 1000) : ∀ (d i : Nat), i + d = vs.length → Evn (fun k => dynamoref09_Right.l1 k i ks vs kd) (allN (val12 vs) i d && decide (vs.length = ks.length))
  | 0, i, h => by
    rw [allN, Bool.true_and]
    refine Evn.last fun k => ?_
    show dynamoref09_Right.l1 (k + 1) i ks vs kd = _
    rw [dynamoref09_Right.l1, if_neg (by omega)]
    congr 1; rw [Bool.eq_iff_iff]; simp only [decide_eq_true_eq, beq_iff_eq]; omega
  | d + 1, i, h => by
    have e1 := up1 (i := i) (by omega)
    have ih := r1_loop hl d (i + 1) (by clear e1; omega)
    have c1 : (i : Int) < (vs.length : Int) := by clear e1; omega
    have c2 : (0 : Int) ≤ (i : Int) := by clear e1; omega
    by_cases h1 : ((rdOf ByteArray.empty vs (i : Int)).size : Int) = 12
    · rw [allN, show val12 vs i = true from decide_eq_true h1, Bool.true_and]
      refine Evn.step (fun k => ?_) ih
      show dynamoref09_Right.l1 (k + 1) i ks vs kd = _
      rw [dynamoref09_Right.l1, if_pos c1, if_pos c2, if_pos h1, e1]
    · rw [allN, show val12 vs i = false from decide_eq_false h1, Bool.false_and, Bool.false_and]
      refine Evn.last fun k => ?_
      show dynamoref09_Right.l1 (k + 1) i ks vs kd = _
      rw [dynamoref09_Right.l1, if_pos c1, if_pos c2, if_neg h1]
theorem r3_loop (hl : kd.length ≤ 1000) (i : Nat) (hi : i < kd.length) (t : Bool) (hT : Evn (fun k => dynamoref09_Right.l2 k ((i + 1 : Nat) : Int) ks vs kd) t) :
    ∀ (d j : Nat), j + d = i → Evn (fun k => dynamoref09_Right.l3 k i j ks vs kd) (allN (freshK kd i) j d && t)
  | 0, j, h => by
    have e1 := up1 (i := i) (by omega)
    rw [allN, Bool.true_and]
    refine Evn.step (fun k => ?_) hT
    show dynamoref09_Right.l3 (k + 1) i j ks vs kd = _
    rw [dynamoref09_Right.l3, if_neg (by clear e1; omega), e1]
  | d + 1, j, h => by
    have e1 := up1 (i := j) (by omega)
    have ih := r3_loop hl i hi t hT d (j + 1) (by clear e1; omega)
    have c1 : (j : Int) < (i : Int) := by clear e1; omega
    have c2 : (0 : Int) ≤ (j : Int) := by clear e1; omega
    have c3 : (j : Int) < (kd.length : Int) := by clear e1; omega
    have c4 : (0 : Int) ≤ (i : Int) := by clear e1; omega
    have c5 : (i : Int) < (kd.length : Int) := by clear e1; omega
    by_cases h1 : rd kd (j : Int) = rd kd (i : Int)
    · rw [allN, show freshK kd i j = false from decide_eq_false (fun h => h h1), Bool.false_and, Bool.false_and]
      refine Evn.last fun k => ?_
      show dynamoref09_Right.l3 (k + 1) i j ks vs kd = _
      rw [dynamoref09_Right.l3, if_pos c1, if_pos c2, if_pos c3, if_pos c4, if_pos c5, if_pos h1]
    · rw [allN, show freshK kd i j = true from decide_eq_true h1, Bool.true_and]
      refine Evn.step (fun k => ?_) ih
      show dynamoref09_Right.l3 (k + 1) i j ks vs kd = _
      rw [dynamoref09_Right.l3, if_pos c1, if_pos c2, if_pos c3, if_pos c4, if_pos c5, if_neg h1, e1]
theorem r2_loop (hl : kd.length ≤ 1000) (hl0 : ks.length ≤ 1000) : ∀ (d i : Nat), i + d = kd.length → Evn (fun k => dynamoref09_Right.l2 k i ks vs kd) (allN (kidK kd) i d && decide (vs.length = 0 ∧ 1 ≤ ks.length ∧ kd.length = ks.length + 1))
  | 0, i, h => by
    rw [allN, Bool.true_and]
    refine Evn.last fun k => ?_
    show dynamoref09_Right.l2 (k + 1) i ks vs kd = _
    have e1 := up1 (i := ks.length) (by omega)
    rw [dynamoref09_Right.l2, if_neg (by clear e1; omega), e1]
    clear e1
    by_cases h1 : (vs.length : Int) = 0
    · rw [if_pos h1]
      by_cases h2 : (ks.length : Int) ≥ 1
      · rw [if_pos h2]
        congr 1; rw [Bool.eq_iff_iff]; simp only [decide_eq_true_eq, beq_iff_eq]; omega
      · rw [if_neg h2]
        congr 1; symm; exact decide_eq_false (by omega)
    · rw [if_neg h1]
      congr 1; symm; exact decide_eq_false (by omega)
  | d + 1, i, h => by
    have ih := r2_loop hl hl0 d (i + 1) (by omega)
    have c1 : (i : Int) < (kd.length : Int) := by omega
    have c2 : (0 : Int) ≤ (i : Int) := by omega
    have h3 := r3_loop ks vs kd hl i (by omega) _ ih i 0 (by omega)
    by_cases h1 : rd kd (i : Int) < 2
    · rw [allN, show kidK kd i = false by unfold kidK; rw [decide_eq_false (by omega), Bool.false_and], Bool.false_and, Bool.false_and]
      refine Evn.step (h := fun k => dynamoref09_Right.j3 k i true ks vs kd) (fun k => ?_) (Evn.last fun k => ?_)
      · show dynamoref09_Right.l2 (k + 1) i ks vs kd = _
        rw [dynamoref09_Right.l2, if_pos c1, if_pos c2, if_pos h1]
      · show dynamoref09_Right.j3 (k + 1) i true ks vs kd = _
        rw [dynamoref09_Right.j3, if_pos rfl]
    · by_cases h2 : rd kd (i : Int) > 239
      · rw [allN, show kidK kd i = false by unfold kidK; rw [decide_eq_false (by omega), Bool.false_and], Bool.false_and, Bool.false_and]
        refine Evn.step (h := fun k => dynamoref09_Right.j3 k i true ks vs kd) (fun k => ?_) (Evn.last fun k => ?_)
        · show dynamoref09_Right.l2 (k + 1) i ks vs kd = _
          rw [dynamoref09_Right.l2, if_pos c1, if_pos c2, if_neg h1, decide_eq_true h2]
        · show dynamoref09_Right.j3 (k + 1) i true ks vs kd = _
          rw [dynamoref09_Right.j3, if_pos rfl]
      · rw [allN, show kidK kd i = allN (freshK kd i) 0 i by unfold kidK; rw [decide_eq_true (by omega), Bool.true_and], Bool.and_assoc]
        refine Evn.step (h := fun k => dynamoref09_Right.j3 k i false ks vs kd) (fun k => ?_) (Evn.step (fun k => ?_) h3)
        · show dynamoref09_Right.l2 (k + 1) i ks vs kd = _
          rw [dynamoref09_Right.l2, if_pos c1, if_pos c2, if_neg h1, decide_eq_false h2]
        · show dynamoref09_Right.j3 (k + 1) i false ks vs kd = _
          rw [dynamoref09_Right.j3, if_neg Bool.false_ne_true]
          rfl
theorem rright_f (h0 : ks.length ≤ 1000) (h1 : vs.length ≤ 1000) (h2 : kd.length ≤ 1000) : ∃ k, dynamoref09_Right.f k ks vs kd = some (nodeB ks vs kd) := by
  unfold nodeB risB
  rw [Bool.and_assoc]
  refine (r0_loop ks vs kd h0 _ ?_ ks.length 0 (by omega)).ex
  by_cases h : kd.length = 0
  · rw [if_pos h]
    refine Evn.bind (g := fun _ => some ()) (f := fun k _ => if (kd.length : Int) = 0 then dynamoref09_Right.l1 k 0 ks vs kd else dynamoref09_Right.l2 k 0 ks vs kd) (Evn.of fun _ => rfl) ?_
    simp only [if_pos (show (kd.length : Int) = 0 by omega)]
    exact r1_loop ks vs kd h1 vs.length 0 (by omega)
  · rw [if_neg h]
    refine Evn.bind (g := fun _ => some ()) (f := fun k _ => if (kd.length : Int) = 0 then dynamoref09_Right.l1 k 0 ks vs kd else dynamoref09_Right.l2 k 0 ks vs kd) (Evn.of fun _ => rfl) ?_
    simp only [if_neg (show ¬ (kd.length : Int) = 0 by omega)]
    exact r2_loop ks vs kd h2 h0 kd.length 0 (by omega)
end
end Go.Proofs.YtbiijkpffllimaaDoor
namespace Go.Proofs.YtbiijkpffllimaaDoor
open Go.RowKit Go.Proofs.YtbiijkpffllimaaDoorW.PrintWords Go.Proofs.YtbiijkpffllimaaDoorW.PrintLast Go.Proofs.YtbiijkpffllimaaDoorW.PrintMore Go.Proofs.YtbiijkpffllimaaDoor.PNodeUnlike
set_option linter.unusedVariables false
set_option linter.unusedSimpArgs false

def val50 (vs : List ByteArray) (i : Nat) : Bool := decide (((rdOf ByteArray.empty vs (i : Int)).size : Int) ≤ 50)
def fewB (ks : List Int) (vs : List ByteArray) (kd : List Int) : Bool := decide (ks.length ≤ 20 ∧ vs.length ≤ 20 ∧ kd.length ≤ 20) && allN (val50 vs) 0 vs.length
def oneIf (b : Bool) : Int := if b then 1 else 0
section
variable (ks : List Int) (vs : List ByteArray) (kd : List Int)
theorem few_loop (hl : vs.length ≤ 1000) : ∀ (d i : Nat), i + d = vs.length → Evn (fun k => dynamolaw09_Few.l0 k i ks vs kd) (oneIf (allN (val50 vs) i d))
  | 0, i, h => by
    rw [allN]
    refine Evn.last fun k => ?_
    show dynamolaw09_Few.l0 (k + 1) i ks vs kd = _
    rw [dynamolaw09_Few.l0, if_neg (by omega)]
    rfl
  | d + 1, i, h => by
    have e1 := up1 (i := i) (by omega)
    have ih := few_loop hl d (i + 1) (by clear e1; omega)
    have c1 : (i : Int) < (vs.length : Int) := by clear e1; omega
    have c2 : (0 : Int) ≤ (i : Int) := by clear e1; omega
    by_cases h1 : ((rdOf ByteArray.empty vs (i : Int)).size : Int) > 50
    · rw [allN, show val50 vs i = false from decide_eq_false (by clear e1; omega), Bool.false_and]
      refine Evn.last fun k => ?_
      show dynamolaw09_Few.l0 (k + 1) i ks vs kd = _
      rw [dynamolaw09_Few.l0, if_pos c1, if_pos c2, if_pos h1]
      rfl
    · rw [allN, show val50 vs i = true from decide_eq_true (by clear e1; omega), Bool.true_and]
      refine Evn.step (fun k => ?_) ih
      show dynamolaw09_Few.l0 (k + 1) i ks vs kd = _
      rw [dynamolaw09_Few.l0, if_pos c1, if_pos c2, if_neg h1, e1]
theorem few_j (b : Bool) (r : Int) (h : b = false → Evn (fun k => dynamolaw09_Few.l0 k 0 ks vs kd) r) (hb : b = true → r = 0) : Evn (fun k => dynamolaw09_Few.j0 k b ks vs kd) r := by
  cases b with
  | true =>
    rw [hb rfl]
    refine Evn.last fun k => ?_
    show dynamolaw09_Few.j0 (k + 1) true ks vs kd = _
    rw [dynamolaw09_Few.j0, if_pos rfl]
  | false =>
    refine Evn.step (fun k => ?_) (h rfl)
    show dynamolaw09_Few.j0 (k + 1) false ks vs kd = _
    rw [dynamolaw09_Few.j0, if_neg Bool.false_ne_true]
theorem few_f : ∃ k, dynamolaw09_Few.f k ks vs kd = some (oneIf (fewB ks vs kd)) := by
  by_cases h0 : ks.length ≤ 20
  · by_cases h1 : vs.length ≤ 20
    · obtain ⟨k, hk⟩ := (few_j ks vs kd (decide ((kd.length : Int) > 20)) (oneIf (fewB ks vs kd)) (fun h => by
        have hd := of_decide_eq_false h
        unfold fewB
        rw [decide_eq_true (show ks.length ≤ 20 ∧ vs.length ≤ 20 ∧ kd.length ≤ 20 by omega), Bool.true_and]
        exact few_loop ks vs kd (by omega) vs.length 0 (by omega)) (fun h => by
        have hd := of_decide_eq_true h
        unfold fewB
        rw [decide_eq_false (by omega), Bool.false_and]; rfl)).ex
      exact ⟨k, by unfold dynamolaw09_Few.f; rw [if_neg (by omega), if_neg (by omega)]; exact hk⟩
    · obtain ⟨k, hk⟩ := (few_j ks vs kd true (oneIf (fewB ks vs kd)) (fun h => by cases h) (fun _ => by unfold fewB; rw [decide_eq_false (by omega), Bool.false_and]; rfl)).ex
      exact ⟨k, by unfold dynamolaw09_Few.f; rw [if_neg (by omega), if_pos (by omega)]; exact hk⟩
  · obtain ⟨k, hk⟩ := (few_j ks vs kd true (oneIf (fewB ks vs kd)) (fun h => by cases h) (fun _ => by unfold fewB; rw [decide_eq_false (by omega), Bool.false_and]; rfl)).ex
    exact ⟨k, by unfold dynamolaw09_Few.f; rw [if_pos (by omega)]; exact hk⟩
end
theorem fewB_iff {ks : List Int} {vs : List ByteArray} {kd : List Int} : fewB ks vs kd = true ↔ ks.length ≤ 20 ∧ vs.length ≤ 20 ∧ kd.length ≤ 20 ∧ ∀ j, j < vs.length → val50 vs j = true := by
  unfold fewB
  rw [Bool.and_eq_true, decide_eq_true_eq, allN_all]
  exact ⟨fun ⟨⟨a, b, c⟩, d⟩ => ⟨a, b, c, d⟩, fun ⟨a, b, c, d⟩ => ⟨⟨a, b, c⟩, d⟩⟩
theorem rd_at (l : List Int) (i : Nat) (h : i < l.length) : rd l (i : Int) = l[i] := by
  simp [rd, List.getD_eq_getElem?_getD, List.getElem?_eq_getElem h]
theorem rdOf_at (l : List ByteArray) (i : Nat) (h : i < l.length) : rdOf ByteArray.empty l (i : Int) = l[i] := by
  simp [rdOf, List.getD_eq_getElem?_getD, List.getElem?_eq_getElem h]
def eqK (x y : List Int) (i : Nat) : Bool := decide (rd x (i : Int) = rd y (i : Int))
theorem eqK_all {x y : List Int} (h : x.length = y.length) : allN (eqK x y) 0 x.length = decide (x = y) := by
  rw [Bool.eq_iff_iff, allN_all, decide_eq_true_eq]
  constructor
  · intro hh
    refine List.ext_getElem h fun i h1 h2 => ?_
    have := of_decide_eq_true (hh i h1)
    rwa [rd_at x i h1, rd_at y i h2] at this
  · intro e j _; rw [e]; exact decide_eq_true rfl
theorem ints_loop (x y : List Int) (hl : x.length ≤ 1000) (hxy : x.length = y.length) : ∀ (d i : Nat), i + d = x.length → Evn (fun k => dynamolaw09_ints.l0 k x y i) (oneIf (allN (eqK x y) i d))
  | 0, i, h => by
    rw [allN]
    refine Evn.last fun k => ?_
    show dynamolaw09_ints.l0 (k + 1) x y i = _
    rw [dynamolaw09_ints.l0, if_neg (by omega)]
    rfl
  | d + 1, i, h => by
    have e1 := up1 (i := i) (by omega)
    have ih := ints_loop x y hl hxy d (i + 1) (by clear e1; omega)
    have c1 : (i : Int) < (x.length : Int) := by clear e1; omega
    have c2 : (0 : Int) ≤ (i : Int) := by clear e1; omega
    have c3 : (i : Int) < (y.length : Int) := by clear e1; omega
    by_cases h1 : rd x (i : Int) = rd y (i : Int)
    · rw [allN, show eqK x y i = true from decide_eq_true h1, Bool.true_and]
      refine Evn.step (fun k => ?_) ih
      show dynamolaw09_ints.l0 (k + 1) x y i = _
      rw [dynamolaw09_ints.l0, if_pos c1, if_pos c2, if_pos c3, if_pos h1, e1]
    · rw [allN, show eqK x y i = false from decide_eq_false h1, Bool.false_and]
      refine Evn.last fun k => ?_
      show dynamolaw09_ints.l0 (k + 1) x y i = _
      rw [dynamolaw09_ints.l0, if_pos c1, if_pos c2, if_pos c3, if_neg h1]
      rfl
theorem ints_f (x y : List Int) (hl : x.length ≤ 1000) : Evn (fun k => dynamolaw09_ints.f k x y) (oneIf (decide (x = y))) := by
  by_cases h : x.length = y.length
  · have := ints_loop x y hl h x.length 0 (by omega)
    rw [eqK_all h] at this
    obtain ⟨N, hN⟩ := this
    exact ⟨N, fun k hk => by show dynamolaw09_ints.f k x y = _; unfold dynamolaw09_ints.f; rw [if_pos (by omega)]; exact hN k hk⟩
  · rw [decide_eq_false (fun e => h (by rw [e]))]
    exact ⟨0, fun k _ => by show dynamolaw09_ints.f k x y = _; unfold dynamolaw09_ints.f; rw [if_neg (by omega)]; rfl⟩
def eqV (x y : List ByteArray) (i : Nat) : Bool := decide ((rdOf ByteArray.empty x (i : Int)).toList = (rdOf ByteArray.empty y (i : Int)).toList)
theorem bytes_ext {a b : ByteArray} (h : a.toList = b.toList) : a = b := by
  rw [ByteArray.toList_eq, ByteArray.toList_eq] at h
  exact ByteArray.ext (Array.toList_inj.1 h)
theorem eqV_all {x y : List ByteArray} (h : x.length = y.length) : allN (eqV x y) 0 x.length = decide (x = y) := by
  rw [Bool.eq_iff_iff, allN_all, decide_eq_true_eq]
  constructor
  · intro hh
    refine List.ext_getElem h fun i h1 h2 => ?_
    have := bytes_ext (of_decide_eq_true (hh i h1))
    rwa [rdOf_at x i h1, rdOf_at y i h2] at this
  · intro e j _; rw [e]; exact decide_eq_true rfl
section
variable (ks : List Int) (vs : List ByteArray) (kd : List Int) (ks' : List Int) (vs' : List ByteArray) (kd' : List Int)
def sameB (ks : List Int) (vs : List ByteArray) (kd : List Int) (ks' : List Int) (vs' : List ByteArray) (kd' : List Int) : Bool := decide (vs = vs') && (decide (ks = ks') && decide (kd = kd'))
theorem oneIf_mul (a b : Bool) : wrap64 (oneIf a * oneIf b) = oneIf (a && b) := by cases a <;> cases b <;> simp [wrap64, oneIf]
theorem same_loop (h0 : ks.length ≤ 1000) (h2 : kd.length ≤ 1000) (hl : vs.length ≤ 1000) (hxy : vs.length = vs'.length) : ∀ (d i : Nat), i + d = vs.length → Evn (fun k => dynamolaw09_Same.l0 k i ks vs kd ks' vs' kd') (oneIf (allN (eqV vs vs') i d && (decide (ks = ks') && decide (kd = kd'))))
  | 0, i, h => by
    rw [allN, Bool.true_and]
    refine Evn.step (h := fun k => (dynamolaw09_ints.f k ks ks').bind fun t135 => (dynamolaw09_ints.f k kd kd').bind fun t136 => some (wrap64 (t135 * t136))) (fun k => ?_) ?_
    · show dynamolaw09_Same.l0 (k + 1) i ks vs kd ks' vs' kd' = _
      rw [dynamolaw09_Same.l0, if_neg (by omega)]
    · refine Evn.bind (f := fun k t135 => (dynamolaw09_ints.f k kd kd').bind fun t136 => some (wrap64 (t135 * t136))) (ints_f ks ks' h0) ?_
      refine Evn.bind (f := fun k t136 => some (wrap64 (oneIf (decide (ks = ks')) * t136))) (ints_f kd kd' h2) ?_
      rw [oneIf_mul]
      exact Evn.of fun _ => rfl
  | d + 1, i, h => by
    have e1 := up1 (i := i) (by omega)
    have ih := same_loop h0 h2 hl hxy d (i + 1) (by clear e1; omega)
    have c1 : (i : Int) < (vs.length : Int) := by clear e1; omega
    have c2 : (0 : Int) ≤ (i : Int) := by clear e1; omega
    have c3 : (i : Int) < (vs'.length : Int) := by clear e1; omega
    by_cases h1 : (rdOf ByteArray.empty vs (i : Int)).toList = (rdOf ByteArray.empty vs' (i : Int)).toList
    · rw [allN, show eqV vs vs' i = true from decide_eq_true h1, Bool.true_and]
      refine Evn.step (fun k => ?_) ih
      show dynamolaw09_Same.l0 (k + 1) i ks vs kd ks' vs' kd' = _
      rw [dynamolaw09_Same.l0, if_pos c1, if_pos c2, if_pos c3, if_pos h1, e1]
    · rw [allN, show eqV vs vs' i = false from decide_eq_false h1, Bool.false_and, Bool.false_and]
      refine Evn.last fun k => ?_
      show dynamolaw09_Same.l0 (k + 1) i ks vs kd ks' vs' kd' = _
      rw [dynamolaw09_Same.l0, if_pos c1, if_pos c2, if_pos c3, if_neg h1]
      rfl
theorem same_f (h0 : ks.length ≤ 1000) (h1 : vs.length ≤ 1000) (h2 : kd.length ≤ 1000) : ∃ k, dynamolaw09_Same.f k ks vs kd ks' vs' kd' = some (oneIf (sameB ks vs kd ks' vs' kd')) := by
  by_cases h : vs.length = vs'.length
  · obtain ⟨k, hk⟩ := (same_loop ks vs kd ks' vs' kd' h0 h2 h1 h vs.length 0 (by omega)).ex
    rw [eqV_all h] at hk
    exact ⟨k, by unfold dynamolaw09_Same.f; rw [if_pos (by omega)]; exact hk⟩
  · refine ⟨0, ?_⟩
    unfold dynamolaw09_Same.f sameB
    rw [if_neg (by omega), decide_eq_false (fun e => h (by rw [e])), Bool.false_and]; rfl
end
theorem sameB_iff {ks : List Int} {vs : List ByteArray} {kd ks' : List Int} {vs' : List ByteArray} {kd' : List Int} : sameB ks vs kd ks' vs' kd' = true ↔ ks = ks' ∧ vs = vs' ∧ kd = kd' := by
  unfold sameB
  simp only [Bool.and_eq_true, decide_eq_true_eq]
  exact ⟨fun ⟨a, b, c⟩ => ⟨b, a, c⟩, fun ⟨a, b, c⟩ => ⟨b, a, c⟩⟩
end Go.Proofs.YtbiijkpffllimaaDoor
namespace Go.Proofs.YtbiijkpffllimaaDoor
open Go.RowKit Go.Extern.Stop Go.Stop Go.Extern Go.Maps Go.Proofs.YtbiijkpffllimaaDoorW.PrintWords Go.Proofs.YtbiijkpffllimaaDoorW.PrintLast Go.Proofs.YtbiijkpffllimaaDoorW.PrintMore Go.Proofs.YtbiijkpffllimaaDoor.PNodeUnlike
set_option linter.unusedVariables false
set_option linter.unusedSimpArgs false

/-- a slice of ints that reads as l -/
def Ints (w : World) (A : Option Addr) (l : List Int) (c : Nat) : Prop := (Kd.int .i64).C w A l.length l ∧ l.length ≤ c
/-- a slice of strings that reads as l -/
def Strs (w : World) (A : Option Addr) (l : List ByteArray) (c : Nat) : Prop := Kd.string.C w A l.length l ∧ l.length ≤ c
theorem Ints.below {w w' : World} {A : Option Addr} {l : List Int} {c : Nat} (h : Ints w A l c) (hb : Below w.heap.size w w') : Ints w' A l c := ⟨Kd.C_below h.1 hb, h.2⟩
theorem Strs.below {w w' : World} {A : Option Addr} {l : List ByteArray} {c : Nat} (h : Strs w A l c) (hb : Below w.heap.size w w') : Strs w' A l c := ⟨Kd.C_below h.1 hb, h.2⟩
theorem Ints.at {w : World} {A : Option Addr} {l : List Int} {c : Nat} (h : Ints w A l c) (hl : 0 < l.length) : ∃ b o, A = some ⟨b, o, none⟩ ∧ ∀ j, j < l.length → w.cell? ⟨b, o + j, none⟩ = some (.int .i64 (rd l j)) := by
  obtain ⟨ad, rfl, h0⟩ := Kd.at_int h.1 0 (by omega) (by omega)
  obtain ⟨b, o, spot⟩ := ad
  have hspot : spot = none := by simpa [Addr.add] using World.cell?_spot h0
  subst hspot
  refine ⟨b, o, rfl, fun j hj => ?_⟩
  obtain ⟨ad, e, hj⟩ := Kd.at_int h.1 (j : Int) (by omega) (by omega)
  obtain rfl := Option.some.inj e
  rw [Go.WideShapes.add_plain, Int.toNat_natCast] at hj
  exact hj
theorem Strs.at {w : World} {A : Option Addr} {l : List ByteArray} {c : Nat} (h : Strs w A l c) (hl : 0 < l.length) : ∃ b o, A = some ⟨b, o, none⟩ ∧ ∀ j, j < l.length → w.cell? ⟨b, o + j, none⟩ = some (.string (rdOf ByteArray.empty l j)) := by
  obtain ⟨ad, rfl, h0⟩ := Kd.at_string h.1 0 (by omega) (by omega)
  obtain ⟨b, o, spot⟩ := ad
  have hspot : spot = none := by simpa [Addr.add] using World.cell?_spot h0
  subst hspot
  refine ⟨b, o, rfl, fun j hj => ?_⟩
  obtain ⟨ad, e, hj⟩ := Kd.at_string h.1 (j : Int) (by omega) (by omega)
  obtain rfl := Option.some.inj e
  rw [Go.WideShapes.add_plain, Int.toNat_natCast] at hj
  exact hj
/-! ### node.kids -/
theorem lookup_bool {H : Type} {P : Program} {w : World} {k e t : TypeId} {b n : Nat} {D : DataW H} (h : w.ownsMap P k (plainElem P e) b n D) (K : Keyed P k) (ht : P.underlying t = some (.map k e)) (he : P.underlying e = some .bool) (hz : (zeroValue e).run P w = .ok (.bool false) w)
    {key : Value} {kl : Lit} (hkey : keyOf P k key = some kl) : ∃ c, (Instr.lookup t (.map (some b)) key false).run P w = .ok (.bool c) w ∧ D.atKey kl (.lit (.bool false)) = .lit (.bool c) := by
  obtain ⟨v, ps, hrun, hv⟩ := h.lookup K ht hz (plainElem_bool he false) hkey
  unfold plainElem at hv
  rw [he] at hv
  cases v <;> simp at hv
  exact ⟨_, hrun, hv.1.symm⟩
theorem key_int : Keyed Tryd.prog 3 := int_keyed Tryd.underlying3
theorem zero_bool (w : World) : (zeroValue 4).run Tryd.prog w = .ok (.bool false) w := by kernel_rfl
/-- the map of what was met in the first k -/
def Met (kd : List Int) (k : Nat) (D : DataW Unit) : Prop := Maps.IsMap D ∧ ∀ x : Int, D.atKey (.int .i64 x) (.lit (.bool false)) = .lit (.bool (decide (x ∈ kd.take k)))
theorem met_zero (kd : List Int) : Met kd 0 (.map []) := ⟨⟨_, rfl⟩, fun x => by simp; rfl⟩
theorem met_step {kd : List Int} {k : Nat} {D : DataW Unit} (h : Met kd k D) (hk : k < kd.length) : Met kd (k + 1) (D.put (.int .i64 (rd kd (k : Int))) (.lit (.bool true))) := by
  refine ⟨?_, fun x => ?_⟩
  · obtain ⟨es, rfl⟩ := h.1
    rw [DataW.put_eq]; exact ⟨_, rfl⟩
  rw [List.take_succ_eq_append_getElem hk, ← rd_at kd k hk]
  by_cases e : x = rd kd (k : Int)
  · subst e
    rw [atKey_put_same h.1 (by trivial)]
    simp
  · rw [atKey_put_other (by intro h; injection h with _ h; exact e h), h.2]
    simp [e]
theorem fresh_iff {kd : List Int} {i : Nat} (hi : i < kd.length) : allN (freshK kd i) 0 i = !decide (rd kd (i : Int) ∈ kd.take i) := by
  rw [Bool.eq_iff_iff, allN_all, Bool.not_eq_true', decide_eq_false_iff_not]
  constructor
  · intro h hm
    obtain ⟨j, hj, e⟩ := List.mem_iff_getElem.1 hm
    rw [List.length_take] at hj
    have := of_decide_eq_true (h j (by omega))
    rw [rd_at kd j (by omega)] at this
    rw [List.getElem_take] at e
    exact this e
  · intro h j hj
    refine decide_eq_true fun e => h ?_
    rw [← e, rd_at kd j (by omega)]
    exact List.mem_iff_getElem.2 ⟨j, by rw [List.length_take]; omega, List.getElem_take⟩
theorem kids_step {kd : List Int} {k : Nat} (hk : k < kd.length) (h : allN (kidK kd) 0 k = true) : kidsB kd = (kidK kd k && allN (kidK kd) (k + 1) (kd.length - (k + 1))) := by
  unfold kidsB
  rw [Bool.eq_iff_iff, Bool.and_eq_true, allN_iff, allN_iff]
  rw [allN_iff] at h
  constructor
  · intro hh; exact ⟨hh k (by omega) (by omega), fun j h1 h2 => hh j (by omega) (by omega)⟩
  · intro ⟨h1, h2⟩ j h3 h4
    rcases Nat.lt_trichotomy j k with hj | rfl | hj
    · exact h j (by omega) (by omega)
    · exact h1
    · exact h2 j (by omega) (by omega)
theorem kids_bad {kd : List Int} {k : Nat} (hk : k < kd.length) (h : kidK kd k = false) : kidsB kd = false := by
  cases e : kidsB kd with
  | false => rfl
  | true =>
    have := allN_all.1 e k hk
    rw [h] at this; cases this
theorem allN_snoc {p : Nat → Bool} {k : Nat} (h : allN p 0 k = true) (hk : p k = true) : allN p 0 (k + 1) = true := by
  rw [allN_all] at h ⊢
  intro j hj
  rcases Nat.lt_or_ge j k with h1 | h1
  · exact h j h1
  · obtain rfl : j = k := by omega
    exact hk
theorem kids_none (A : Option Addr) (c : Nat) (w : World) : Calls Tryd.prog 47 #[.slice A 0 c] w fun e w' => e = .returned (.bool true) ∧ Below w.heap.size w w' := by
  have hmm := @run_makeMap Tryd.prog
  go_enter Tryd.func47, Tryd.ntmps47
  go_wp2
  refine wp_loop_rounds 1 ?_
  rw [rounds_succ]
  go_wp2
  go_ret
  exact ⟨rfl, (Below.refl _ _).alloc (Nat.le_refl _) _⟩
set_option maxHeartbeats 1000000 in
theorem kids_some (b o : Nat) (kd : List Int) (c : Nat) (w : World) (hl : kd.length ≤ 1000) (hc : ∀ j, j < kd.length → w.cell? ⟨b, o + j, none⟩ = some (.int .i64 (rd kd j))) :
    Calls Tryd.prog 47 #[.slice (some ⟨b, o, none⟩) kd.length c] w fun e w' => e = .returned (.bool (kidsB kd)) ∧ Below w.heap.size w w' := by
  have hmm := @run_makeMap Tryd.prog
  have HC := Lib.hid hc
  clear hc
  go_enter Tryd.func47, Tryd.ntmps47
  go_wp2
  go_loopw [9] (fun i wr => ∃ k : Nat, k ≤ kd.length ∧ i = .int .i64 k ∧ Hid (allN (kidK kd) 0 k = true) ∧ (∃ D, Hid (wr.ownsMap Tryd.prog 3 (plainElem Tryd.prog 4) w.heap.size k D) ∧ Hid (Met kd k D)) ∧ Hid (Below w.heap.size w wr)) (fun i _ => kd.length - (intOf i).toNat)
  case atStart => exact ⟨0, Nat.zero_le _, rfl, Lib.hid rfl, ⟨_, Lib.hid (World.ownsMap_made _ _ _ _), Lib.hid (met_zero kd)⟩, Lib.hid ((Below.refl _ _).alloc (Nat.le_refl _) _)⟩
  case round =>
    obtain ⟨k, hk, rfl, HA, ⟨D, HO, HM⟩, HB⟩ := hrel
    by_cases hlt : k < kd.length
    · have hltz : (k : Int) < (kd.length : Int) := by omega
      have x1 : wr.cell? ⟨b, o + k, none⟩ = some (.int .i64 (rd kd k)) := (HB.out.cell (cell_lt (HC.out k hlt))).trans (HC.out k hlt)
      have HF := Lib.hid (fresh_iff hlt)
      have HME := Lib.hid (HM.out.2 (rd kd k))
      have HST := Lib.hid (met_step HM.out hlt)
      have HKK : Hid (kidK kd k = (decide (2 ≤ rd kd (k : Int) ∧ rd kd (k : Int) ≤ 239) && allN (freshK kd k) 0 k)) := Lib.hid rfl
      have HBad := Lib.hid (kids_bad (kd := kd) hlt)
      have HSn := Lib.hid (allN_snoc HA.out)
      obtain ⟨x, hx⟩ : ∃ q, q = rd kd (k : Int) := ⟨_, rfl⟩
      rw [← hx] at x1 HME HST HKK HF
      clear hx
      by_cases h2 : x < 2
      · have hb2 : decide (x < 2) = true := by simpa using h2
        have hv := Lib.hid (HBad.out (by rw [HKK.out, decide_eq_false (by omega), Bool.false_and]))
        go_wp2
        go_ret
        rw [hv.out]
        exact ⟨rfl, HB.out⟩
      · have hb2 : decide (x < 2) = false := by simpa using h2
        by_cases h3 : x < 240
        · have hb3 : decide (240 ≤ x) = false := by simp; omega
          have hwf : (Lit.int .i64 x).wf = true := by simp [Lit.wf, IntKind.min, IntKind.max, IntKind.signed, IntKind.bits]; omega
          have hkey : keyOf Tryd.prog 3 (.int .i64 x) = some (.int .i64 x) := keyOf_int_mk Tryd.underlying3 hwf
          obtain ⟨v, hrun, hat⟩ := lookup_bool HO.out key_int Tryd.underlying117 Tryd.underlying4 (zero_bool _) hkey
          rw [HME.out] at hat
          have hv : v = decide (x ∈ kd.take k) := by simp only [DataW.lit.injEq, Lit.bool.injEq] at hat; exact hat.symm
          cases v with
          | true =>
            have hv2 := Lib.hid (HBad.out (by rw [HKK.out, HF.out, ← hv]; simp))
            clear hat hv hkey hwf
            go_wp2
            go_ret
            rw [hv2.out]
            exact ⟨rfl, HB.out⟩
          | false =>
            have hv2 := Lib.hid (HSn.out (by rw [HKK.out, HF.out, ← hv, decide_eq_true (by omega)]; rfl))
            have HKey := Lib.hid hkey
            clear hat hv hkey hwf
            go_wp2_with (at_mapUpdate; refine wpList_mapUpdate_own _ rfl _ _ _ 117 rfl 3 4 key_int Tryd.underlying117 _ w.heap.size k _ rfl HO.out (by unfold maxLen; omega) _ _ _ rfl rfl HKey.out _ [] (plainElem_bool Tryd.underlying4 true) ?_; intro w1 hown1 hgrow1; have HO1 := Lib.hid hown1; have HB1 := Lib.hid (HB.out.grown hgrow1 HB.out.size (fun j hj => by cases hj; exact Nat.le_refl _)); clear hown1 hgrow1)
            go_roundw
            case rel => exact ⟨k + 1, by omega, by go_num, hv2, ⟨_, HO1, HST⟩, HB1⟩
            case measure => simp [intOf]; omega
        · have hb3 : decide (240 ≤ x) = true := by simp; omega
          have hv := Lib.hid (HBad.out (by rw [HKK.out, decide_eq_false (by omega), Bool.false_and]))
          go_wp2
          go_ret
          rw [hv.out]
          exact ⟨rfl, HB.out⟩
    · have hltb : ¬ (k : Int) < (kd.length : Int) := by omega
      have hkl : k = kd.length := by omega
      have HA' : Hid (kidsB kd = true) := Lib.hid (by unfold kidsB; rw [← hkl]; exact HA.out)
      clear hkl
      go_wp2
      go_ret
      rw [HA'.out]
      exact ⟨rfl, HB.out⟩
theorem kids_any (A : Option Addr) (kd : List Int) (c : Nat) (w : World) (h : Ints w A kd c) (hl : kd.length ≤ 1000) :
    Calls Tryd.prog 47 #[.slice A kd.length c] w fun e w' => e = .returned (.bool (kidsB kd)) ∧ Below w.heap.size w w' := by
  by_cases h0 : kd.length = 0
  · obtain rfl := List.eq_nil_of_length_eq_zero h0
    exact kids_none A c w
  · obtain ⟨b, o, rfl, hc⟩ := h.at (by omega)
    exact kids_some b o kd c w hl hc
end Go.Proofs.YtbiijkpffllimaaDoor
