/- Nodes: the plain laws of layer 9's printed functions, told in closed words. -/
import Derived.Test.YtbiijkpffllimaaDoorKPackPPNodeUnlike
namespace Go.Proofs.YtbiijkpffllimaaDoor
open Go.RowKit Go.Proofs.YtbiijkpffllimaaDoorW.PrintWords Go.Proofs.YtbiijkpffllimaaDoorW.PrintLast Go.Proofs.YtbiijkpffllimaaDoorW.PrintMore Go.Proofs.YtbiijkpffllimaaDoor.PNodeUnlike
set_option linter.unusedVariables false
set_option linter.unusedSimpArgs false

/-- with rounds enough, the answer is r -/
def Evn {α : Type} (g : Nat → Option α) (r : α) : Prop := ∃ N, ∀ k, N ≤ k → g k = some r
theorem Evn.of {α : Type} {g : Nat → Option α} {r : α} (h : ∀ k, g k = some r) : Evn g r := ⟨0, fun k _ => h k⟩
theorem Evn.step {α : Type} {g h : Nat → Option α} {r : α} (hs : ∀ k, g (k + 1) = h k) (e : Evn h r) : Evn g r := by
  obtain ⟨N, hN⟩ := e
  refine ⟨N + 1, fun k hk => ?_⟩
  obtain ⟨m, rfl⟩ : ∃ m, k = m + 1 := ⟨k - 1, by omega⟩
  rw [hs]; exact hN m (by omega)
theorem Evn.last {α : Type} {g : Nat → Option α} {r : α} (hs : ∀ k, g (k + 1) = some r) : Evn g r := Evn.step (h := fun _ => some r) hs (Evn.of fun _ => rfl)
theorem Evn.ex {α : Type} {g : Nat → Option α} {r : α} (e : Evn g r) : ∃ k, g k = some r := e.elim fun N h => ⟨N, h N (Nat.le_refl _)⟩
theorem Evn.bind {α β : Type} {g : Nat → Option α} {x : α} {f : Nat → α → Option β} {r : β} (e : Evn g x) (e2 : Evn (fun k => f k x) r) : Evn (fun k => (g k).bind (f k)) r := by
  obtain ⟨N, hN⟩ := e
  obtain ⟨M, hM⟩ := e2
  refine ⟨N + M, fun k hk => ?_⟩
  show (g k).bind (f k) = some r
  rw [hN k (by omega), Option.bind_some]; exact hM k (by omega)
/-- of d numbers from i on -/
def allN (p : Nat → Bool) (i : Nat) : Nat → Bool
  | 0 => true
  | d + 1 => p i && allN p (i + 1) d
theorem allN_iff {p : Nat → Bool} : ∀ {d i : Nat}, allN p i d = true ↔ ∀ j, i ≤ j → j < i + d → p j = true
  | 0, i => by simp only [allN, true_iff]; intro j h1 h2; omega
  | d + 1, i => by
    rw [allN, Bool.and_eq_true, allN_iff]
    constructor
    · intro ⟨h1, h2⟩ j h3 h4
      rcases Nat.lt_or_ge i j with h | h
      · exact h2 j h (by omega)
      · obtain rfl : j = i := by omega
        exact h1
    · intro h
      exact ⟨h i (Nat.le_refl _) (by omega), fun j h3 h4 => h j (by omega) (by omega)⟩
theorem allN_all {p : Nat → Bool} {n : Nat} : allN p 0 n = true ↔ ∀ j, j < n → p j = true := by
  rw [allN_iff]
  exact ⟨fun h j hj => h j (Nat.zero_le _) (by omega), fun h j _ hj => h j (by omega)⟩
/-- does the key at i rise? -/
def okK (ks : List Int) (i : Nat) : Bool := decide (0 ≤ rd ks (i : Int) ∧ rd ks (i : Int) ≤ 4294967295 ∧ (0 < i → rd ks ((i - 1 : Nat) : Int) < rd ks (i : Int)))
def risB (ks : List Int) : Bool := allN (okK ks) 0 ks.length && decide (ks.length ≤ 7)
def val12 (vs : List ByteArray) (i : Nat) : Bool := decide (((rdOf ByteArray.empty vs (i : Int)).size : Int) = 12)
def valsB (vs : List ByteArray) : Bool := allN (val12 vs) 0 vs.length
def freshK (kd : List Int) (i m : Nat) : Bool := decide (rd kd (m : Int) ≠ rd kd (i : Int))
def kidK (kd : List Int) (i : Nat) : Bool := decide (2 ≤ rd kd (i : Int) ∧ rd kd (i : Int) ≤ 239) && allN (freshK kd i) 0 i
def kidsB (kd : List Int) : Bool := allN (kidK kd) 0 kd.length
/-- is a node right? -/
def nodeB (ks : List Int) (vs : List ByteArray) (kd : List Int) : Bool :=
  risB ks && (if kd.length = 0 then valsB vs && decide (vs.length = ks.length) else kidsB kd && decide (vs.length = 0 ∧ 1 ≤ ks.length ∧ kd.length = ks.length + 1))
theorem up1 {i : Nat} (h : i ≤ 100000) : wrap64 ((i : Int) + 1) = ((i + 1 : Nat) : Int) := by unfold wrap64; omega
theorem dn1 {i : Nat} (h : i ≤ 100000) (h0 : 0 < i) : wrap64 ((i : Int) - 1) = ((i - 1 : Nat) : Int) := by unfold wrap64; omega
theorem okK_false {ks : List Int} {i : Nat} (h : ¬ (0 ≤ rd ks (i : Int) ∧ rd ks (i : Int) ≤ 4294967295 ∧ (0 < i → rd ks ((i - 1 : Nat) : Int) < rd ks (i : Int)))) : okK ks i = false := by unfold okK; exact decide_eq_false h
theorem okK_true {ks : List Int} {i : Nat} (h : 0 ≤ rd ks (i : Int) ∧ rd ks (i : Int) ≤ 4294967295 ∧ (0 < i → rd ks ((i - 1 : Nat) : Int) < rd ks (i : Int))) : okK ks i = true := by unfold okK; exact decide_eq_true h
theorem ris_loop (ks : List Int) (hl : ks.length ≤ 1000) : ∀ (d i : Nat), i + d = ks.length → Evn (fun k => node_rising.l0 k ks ks ks.length i) (allN (okK ks) i d && decide (ks.length ≤ 7))
  | 0, i, h => by
    refine Evn.last fun k => ?_
    show node_rising.l0 (k + 1) ks ks ks.length i = _
    rw [node_rising.l0, if_neg (by omega), allN, Bool.true_and]
    congr 1; rw [Bool.eq_iff_iff]; simp only [decide_eq_true_eq]; omega
  | d + 1, i, h => by
    have e1 := up1 (i := i) (by omega)
    have ih := ris_loop ks hl d (i + 1) (by clear e1; omega)
    have c1 : (i : Int) < (ks.length : Int) := by clear e1; omega
    have c2 : (0 : Int) ≤ (i : Int) := by clear e1; omega
    have hz : ∀ {b : Bool}, okK ks i = false → (allN (okK ks) i (d + 1) && b) = false := fun h => by rw [allN, h]; rfl
    by_cases h1 : rd ks (i : Int) < 0
    · rw [hz (okK_false (by clear e1; omega))]
      refine Evn.last fun k => ?_
      show node_rising.l0 (k + 1) ks ks ks.length i = _
      rw [node_rising.l0, if_pos c1, if_pos c2, if_pos c1, if_pos h1]
    by_cases h2 : rd ks (i : Int) > 4294967295
    · rw [hz (okK_false (by clear e1; omega))]
      refine Evn.last fun k => ?_
      show node_rising.l0 (k + 1) ks ks ks.length i = _
      rw [node_rising.l0, if_pos c1, if_pos c2, if_pos c1, if_neg h1, if_pos h2]
    by_cases h3 : 0 < i
    · have c3 : (i : Int) > 0 := by clear e1; omega
      have e2 := dn1 (i := i) (by clear e1; omega) h3
      have c4 : (0 : Int) ≤ ((i - 1 : Nat) : Int) := by clear e1 e2; omega
      have c5 : ((i - 1 : Nat) : Int) < (ks.length : Int) := by clear e1 e2; omega
      by_cases h4 : rd ks (i : Int) ≤ rd ks ((i - 1 : Nat) : Int)
      · rw [hz (okK_false (fun hh => by have := hh.2.2 h3; clear e1 e2; omega))]
        refine Evn.last fun k => ?_
        show node_rising.l0 (k + 1) ks ks ks.length i = _
        rw [node_rising.l0, if_pos c1, if_pos c2, if_pos c1, if_neg h1, if_neg h2, if_pos c3, e2, if_pos c4, if_pos c5, if_pos h4]
      · rw [allN, okK_true (by clear e1 e2; exact ⟨by omega, by omega, fun _ => by omega⟩), Bool.true_and]
        refine Evn.step (fun k => ?_) ih
        show node_rising.l0 (k + 1) ks ks ks.length i = _
        rw [node_rising.l0, if_pos c1, if_pos c2, if_pos c1, if_neg h1, if_neg h2, if_pos c3, e2, if_pos c4, if_pos c5, if_neg h4, e1]
    · have c3 : ¬ (i : Int) > 0 := by clear e1; omega
      rw [allN, okK_true (by clear e1; exact ⟨by omega, by omega, fun h => absurd h h3⟩), Bool.true_and]
      refine Evn.step (fun k => ?_) ih
      show node_rising.l0 (k + 1) ks ks ks.length i = _
      rw [node_rising.l0, if_pos c1, if_pos c2, if_pos c1, if_neg h1, if_neg h2, if_neg c3, e1]
theorem ris_f (ks : List Int) (hl : ks.length ≤ 1000) : ∃ k, node_rising.f k ks = some (risB ks) := (ris_loop ks hl ks.length 0 (by omega)).ex
end Go.Proofs.YtbiijkpffllimaaDoor
