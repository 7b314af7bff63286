/- Nodes: Few and Same of the statements, told in closed words. -/
import Derived.Test.YtbiijkpffllimaaDoorNodeQPNodeUnlike
namespace Go.Proofs.YtbiijkpffllimaaDoor
open Go.RowKit Go.Proofs.YtbiijkpffllimaaDoorW.PrintWords Go.Proofs.YtbiijkpffllimaaDoorW.PrintLast Go.Proofs.YtbiijkpffllimaaDoorW.PrintMore Go.Proofs.YtbiijkpffllimaaDoor.PNodeUnlike
set_option linter.unusedVariables false
set_option linter.unusedSimpArgs false

def val50 (vs : List ByteArray) (i : Nat) : Bool := decide (((rdOf ByteArray.empty vs (i : Int)).size : Int) ≤ 50)
def fewB (ks : List Int) (vs : List ByteArray) (kd : List Int) : Bool := decide (ks.length ≤ 20 ∧ vs.length ≤ 20 ∧ kd.length ≤ 20) && allN (val50 vs) 0 vs.length
def oneIf (b : Bool) : Int := if b then 1 else 0
section
variable (ks : List Int) (vs : List ByteArray) (kd : List Int)
theorem few_loop (hl : vs.length ≤ 1000) : ∀ (d i : Nat), i + d = vs.length → Evn (fun k => dynamolaw09_Few.l0 k i ks vs kd) (oneIf (allN (val50 vs) i d))
  | 0, i, h => by
    rw [allN]
    refine Evn.last fun k => ?_
    show dynamolaw09_Few.l0 (k + 1) i ks vs kd = _
    rw [dynamolaw09_Few.l0, if_neg (by omega)]
    rfl
  | d + 1, i, h => by
    have e1 := up1 (i := i) (by omega)
    have ih := few_loop hl d (i + 1) (by clear e1; omega)
    have c1 : (i : Int) < (vs.length : Int) := by clear e1; omega
    have c2 : (0 : Int) ≤ (i : Int) := by clear e1; omega
    by_cases h1 : ((rdOf ByteArray.empty vs (i : Int)).size : Int) > 50
    · rw [allN, show val50 vs i = false from decide_eq_false (by clear e1; omega), Bool.false_and]
      refine Evn.last fun k => ?_
      show dynamolaw09_Few.l0 (k + 1) i ks vs kd = _
      rw [dynamolaw09_Few.l0, if_pos c1, if_pos c2, if_pos h1]
      rfl
    · rw [allN, show val50 vs i = true from decide_eq_true (by clear e1; omega), Bool.true_and]
      refine Evn.step (fun k => ?_) ih
      show dynamolaw09_Few.l0 (k + 1) i ks vs kd = _
      rw [dynamolaw09_Few.l0, if_pos c1, if_pos c2, if_neg h1, e1]
theorem few_j (b : Bool) (r : Int) (h : b = false → Evn (fun k => dynamolaw09_Few.l0 k 0 ks vs kd) r) (hb : b = true → r = 0) : Evn (fun k => dynamolaw09_Few.j0 k b ks vs kd) r := by
  cases b with
  | true =>
    rw [hb rfl]
    refine Evn.last fun k => ?_
    show dynamolaw09_Few.j0 (k + 1) true ks vs kd = _
    rw [dynamolaw09_Few.j0, if_pos rfl]
  | false =>
    refine Evn.step (fun k => ?_) (h rfl)
    show dynamolaw09_Few.j0 (k + 1) false ks vs kd = _
    rw [dynamolaw09_Few.j0, if_neg Bool.false_ne_true]
theorem few_f : ∃ k, dynamolaw09_Few.f k ks vs kd = some (oneIf (fewB ks vs kd)) := by
  by_cases h0 : ks.length ≤ 20
  · by_cases h1 : vs.length ≤ 20
    · obtain ⟨k, hk⟩ := (few_j ks vs kd (decide ((kd.length : Int) > 20)) (oneIf (fewB ks vs kd)) (fun h => by
        have hd := of_decide_eq_false h
        unfold fewB
        rw [decide_eq_true (show ks.length ≤ 20 ∧ vs.length ≤ 20 ∧ kd.length ≤ 20 by omega), Bool.true_and]
        exact few_loop ks vs kd (by omega) vs.length 0 (by omega)) (fun h => by
        have hd := of_decide_eq_true h
        unfold fewB
        rw [decide_eq_false (by omega), Bool.false_and]; rfl)).ex
      exact ⟨k, by unfold dynamolaw09_Few.f; rw [if_neg (by omega), if_neg (by omega)]; exact hk⟩
    · obtain ⟨k, hk⟩ := (few_j ks vs kd true (oneIf (fewB ks vs kd)) (fun h => by cases h) (fun _ => by unfold fewB; rw [decide_eq_false (by omega), Bool.false_and]; rfl)).ex
      exact ⟨k, by unfold dynamolaw09_Few.f; rw [if_neg (by omega), if_pos (by omega)]; exact hk⟩
  · obtain ⟨k, hk⟩ := (few_j ks vs kd true (oneIf (fewB ks vs kd)) (fun h => by cases h) (fun _ => by unfold fewB; rw [decide_eq_false (by omega), Bool.false_and]; rfl)).ex
    exact ⟨k, by unfold dynamolaw09_Few.f; rw [if_pos (by omega)]; exact hk⟩
end
theorem fewB_iff {ks : List Int} {vs : List ByteArray} {kd : List Int} : fewB ks vs kd = true ↔ ks.length ≤ 20 ∧ vs.length ≤ 20 ∧ kd.length ≤ 20 ∧ ∀ j, j < vs.length → val50 vs j = true := by
  unfold fewB
  rw [Bool.and_eq_true, decide_eq_true_eq, allN_all]
  exact ⟨fun ⟨⟨a, b, c⟩, d⟩ => ⟨a, b, c, d⟩, fun ⟨a, b, c, d⟩ => ⟨⟨a, b, c⟩, d⟩⟩
theorem rd_at (l : List Int) (i : Nat) (h : i < l.length) : rd l (i : Int) = l[i] := by
  simp [rd, List.getD_eq_getElem?_getD, List.getElem?_eq_getElem h]
theorem rdOf_at (l : List ByteArray) (i : Nat) (h : i < l.length) : rdOf ByteArray.empty l (i : Int) = l[i] := by
  simp [rdOf, List.getD_eq_getElem?_getD, List.getElem?_eq_getElem h]
def eqK (x y : List Int) (i : Nat) : Bool := decide (rd x (i : Int) = rd y (i : Int))
theorem eqK_all {x y : List Int} (h : x.length = y.length) : allN (eqK x y) 0 x.length = decide (x = y) := by
  rw [Bool.eq_iff_iff, allN_all, decide_eq_true_eq]
  constructor
  · intro hh
    refine List.ext_getElem h fun i h1 h2 => ?_
    have := of_decide_eq_true (hh i h1)
    rwa [rd_at x i h1, rd_at y i h2] at this
  · intro e j _; rw [e]; exact decide_eq_true rfl
theorem ints_loop (x y : List Int) (hl : x.length ≤ 1000) (hxy : x.length = y.length) : ∀ (d i : Nat), i + d = x.length → Evn (fun k => dynamolaw09_ints.l0 k x y i) (oneIf (allN (eqK x y) i d))
  | 0, i, h => by
    rw [allN]
    refine Evn.last fun k => ?_
    show dynamolaw09_ints.l0 (k + 1) x y i = _
    rw [dynamolaw09_ints.l0, if_neg (by omega)]
    rfl
  | d + 1, i, h => by
    have e1 := up1 (i := i) (by omega)
    have ih := ints_loop x y hl hxy d (i + 1) (by clear e1; omega)
    have c1 : (i : Int) < (x.length : Int) := by clear e1; omega
    have c2 : (0 : Int) ≤ (i : Int) := by clear e1; omega
    have c3 : (i : Int) < (y.length : Int) := by clear e1; omega
    by_cases h1 : rd x (i : Int) = rd y (i : Int)
    · rw [allN, show eqK x y i = true from decide_eq_true h1, Bool.true_and]
      refine Evn.step (fun k => ?_) ih
      show dynamolaw09_ints.l0 (k + 1) x y i = _
      rw [dynamolaw09_ints.l0, if_pos c1, if_pos c2, if_pos c3, if_pos h1, e1]
    · rw [allN, show eqK x y i = false from decide_eq_false h1, Bool.false_and]
      refine Evn.last fun k => ?_
      show dynamolaw09_ints.l0 (k + 1) x y i = _
      rw [dynamolaw09_ints.l0, if_pos c1, if_pos c2, if_pos c3, if_neg h1]
      rfl
theorem ints_f (x y : List Int) (hl : x.length ≤ 1000) : Evn (fun k => dynamolaw09_ints.f k x y) (oneIf (decide (x = y))) := by
  by_cases h : x.length = y.length
  · have := ints_loop x y hl h x.length 0 (by omega)
    rw [eqK_all h] at this
    obtain ⟨N, hN⟩ := this
    exact ⟨N, fun k hk => by show dynamolaw09_ints.f k x y = _; unfold dynamolaw09_ints.f; rw [if_pos (by omega)]; exact hN k hk⟩
  · rw [decide_eq_false (fun e => h (by rw [e]))]
    exact ⟨0, fun k _ => by show dynamolaw09_ints.f k x y = _; unfold dynamolaw09_ints.f; rw [if_neg (by omega)]; rfl⟩
def eqV (x y : List ByteArray) (i : Nat) : Bool := decide ((rdOf ByteArray.empty x (i : Int)).toList = (rdOf ByteArray.empty y (i : Int)).toList)
theorem bytes_ext {a b : ByteArray} (h : a.toList = b.toList) : a = b := by
  rw [ByteArray.toList_eq, ByteArray.toList_eq] at h
  exact ByteArray.ext (Array.toList_inj.1 h)
theorem eqV_all {x y : List ByteArray} (h : x.length = y.length) : allN (eqV x y) 0 x.length = decide (x = y) := by
  rw [Bool.eq_iff_iff, allN_all, decide_eq_true_eq]
  constructor
  · intro hh
    refine List.ext_getElem h fun i h1 h2 => ?_
    have := bytes_ext (of_decide_eq_true (hh i h1))
    rwa [rdOf_at x i h1, rdOf_at y i h2] at this
  · intro e j _; rw [e]; exact decide_eq_true rfl
section
variable (ks : List Int) (vs : List ByteArray) (kd : List Int) (ks' : List Int) (vs' : List ByteArray) (kd' : List Int)
def sameB (ks : List Int) (vs : List ByteArray) (kd : List Int) (ks' : List Int) (vs' : List ByteArray) (kd' : List Int) : Bool := decide (vs = vs') && (decide (ks = ks') && decide (kd = kd'))
theorem oneIf_mul (a b : Bool) : wrap64 (oneIf a * oneIf b) = oneIf (a && b) := by cases a <;> cases b <;> simp [wrap64, oneIf]
theorem same_loop (h0 : ks.length ≤ 1000) (h2 : kd.length ≤ 1000) (hl : vs.length ≤ 1000) (hxy : vs.length = vs'.length) : ∀ (d i : Nat), i + d = vs.length → Evn (fun k => dynamolaw09_Same.l0 k i ks vs kd ks' vs' kd') (oneIf (allN (eqV vs vs') i d && (decide (ks = ks') && decide (kd = kd'))))
  | 0, i, h => by
    rw [allN, Bool.true_and]
    refine Evn.step (h := fun k => (dynamolaw09_ints.f k ks ks').bind fun t135 => (dynamolaw09_ints.f k kd kd').bind fun t136 => some (wrap64 (t135 * t136))) (fun k => ?_) ?_
    · show dynamolaw09_Same.l0 (k + 1) i ks vs kd ks' vs' kd' = _
      rw [dynamolaw09_Same.l0, if_neg (by omega)]
    · refine Evn.bind (f := fun k t135 => (dynamolaw09_ints.f k kd kd').bind fun t136 => some (wrap64 (t135 * t136))) (ints_f ks ks' h0) ?_
      refine Evn.bind (f := fun k t136 => some (wrap64 (oneIf (decide (ks = ks')) * t136))) (ints_f kd kd' h2) ?_
      rw [oneIf_mul]
      exact Evn.of fun _ => rfl
  | d + 1, i, h => by
    have e1 := up1 (i := i) (by omega)
    have ih := same_loop h0 h2 hl hxy d (i + 1) (by clear e1; omega)
    have c1 : (i : Int) < (vs.length : Int) := by clear e1; omega
    have c2 : (0 : Int) ≤ (i : Int) := by clear e1; omega
    have c3 : (i : Int) < (vs'.length : Int) := by clear e1; omega
    by_cases h1 : (rdOf ByteArray.empty vs (i : Int)).toList = (rdOf ByteArray.empty vs' (i : Int)).toList
    · rw [allN, show eqV vs vs' i = true from decide_eq_true h1, Bool.true_and]
      refine Evn.step (fun k => ?_) ih
      show dynamolaw09_Same.l0 (k + 1) i ks vs kd ks' vs' kd' = _
      rw [dynamolaw09_Same.l0, if_pos c1, if_pos c2, if_pos c3, if_pos h1, e1]
    · rw [allN, show eqV vs vs' i = false from decide_eq_false h1, Bool.false_and, Bool.false_and]
      refine Evn.last fun k => ?_
      show dynamolaw09_Same.l0 (k + 1) i ks vs kd ks' vs' kd' = _
      rw [dynamolaw09_Same.l0, if_pos c1, if_pos c2, if_pos c3, if_neg h1]
      rfl
theorem same_f (h0 : ks.length ≤ 1000) (h1 : vs.length ≤ 1000) (h2 : kd.length ≤ 1000) : ∃ k, dynamolaw09_Same.f k ks vs kd ks' vs' kd' = some (oneIf (sameB ks vs kd ks' vs' kd')) := by
  by_cases h : vs.length = vs'.length
  · obtain ⟨k, hk⟩ := (same_loop ks vs kd ks' vs' kd' h0 h2 h1 h vs.length 0 (by omega)).ex
    rw [eqV_all h] at hk
    exact ⟨k, by unfold dynamolaw09_Same.f; rw [if_pos (by omega)]; exact hk⟩
  · refine ⟨0, ?_⟩
    unfold dynamolaw09_Same.f sameB
    rw [if_neg (by omega), decide_eq_false (fun e => h (by rw [e])), Bool.false_and]; rfl
end
theorem sameB_iff {ks : List Int} {vs : List ByteArray} {kd ks' : List Int} {vs' : List ByteArray} {kd' : List Int} : sameB ks vs kd ks' vs' kd' = true ↔ ks = ks' ∧ vs = vs' ∧ kd = kd' := by
  unfold sameB
  simp only [Bool.and_eq_true, decide_eq_true_eq]
  exact ⟨fun ⟨a, b, c⟩ => ⟨b, a, c⟩, fun ⟨a, b, c⟩ => ⟨b, a, c⟩⟩
end Go.Proofs.YtbiijkpffllimaaDoor
