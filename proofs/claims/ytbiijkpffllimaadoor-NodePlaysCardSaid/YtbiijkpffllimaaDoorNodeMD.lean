/- Nodes: the reference's Right under the print of its Read, told in the same closed words. Nodes: the reference's Read is what the program reads (plain). The reference's numbers in bytes, told in the same closed words. The reference's Lay by its contract, of a right node. NodePlays: the walk. -/
import Derived.Test.YtbiijkpffllimaaDoorNodeMC
import Derived.Test.YtbiijkpffllimaaDoorPReadx
import Derived.Test.YtbiijkpffllimaaDoorPPutx
import Derived.Laws.BytesArg
namespace Go.Proofs.YtbiijkpffllimaaDoor.RD
open Go.RowKit Go.Proofs.YtbiijkpffllimaaDoorW.PrintWords Go.Proofs.YtbiijkpffllimaaDoorW.PrintLast Go.Proofs.YtbiijkpffllimaaDoorW.PrintMore Go.Proofs.YtbiijkpffllimaaDoor.PRead
set_option linter.unusedVariables false
set_option linter.unusedSimpArgs false

section
variable (ks : List Int) (vs : List ByteArray) (kd : List Int)
theorem r0_loop (hl : ks.length ≤ 1000) (t : Bool) (hT : Evn (fun k => if (kd.length : Int) = 0 then dynamoref09_Right.l1 k 0 ks vs kd else dynamoref09_Right.l2 k 0 ks vs kd) t) :
    ∀ (d i : Nat), i + d = ks.length → Evn (fun k => dynamoref09_Right.l0 k i ks vs kd) (allN (okK ks) i d && (decide (ks.length ≤ 7) && t))
  | 0, i, h => by
    rw [allN, Bool.true_and]
    by_cases h7 : (ks.length : Int) > 7
    · rw [decide_eq_false (show ¬ ks.length ≤ 7 by omega), Bool.false_and]
      refine Evn.last fun k => ?_
      show dynamoref09_Right.l0 (k + 1) i ks vs kd = _
      rw [dynamoref09_Right.l0, if_neg (by omega), if_pos h7]
    · rw [decide_eq_true (show ks.length ≤ 7 by omega), Bool.true_and]
      refine Evn.step (fun k => ?_) hT
      show dynamoref09_Right.l0 (k + 1) i ks vs kd = _
      rw [dynamoref09_Right.l0, if_neg (by omega), if_neg h7]
  | d + 1, i, h => by
    have e1 := up1 (i := i) (by omega)
    have ih := r0_loop hl t hT d (i + 1) (by clear e1; omega)
    have c1 : (i : Int) < (ks.length : Int) := by clear e1; omega
    have c2 : (0 : Int) ≤ (i : Int) := by clear e1; omega
    have hz : ∀ {b : Bool}, okK ks i = false → (allN (okK ks) i (d + 1) && b) = false := fun h => by rw [allN, h]; rfl
    by_cases h1 : rd ks (i : Int) < 0
    · rw [hz (okK_false (by clear e1; omega))]
      refine Evn.last fun k => ?_
      show dynamoref09_Right.l0 (k + 1) i ks vs kd = _
      rw [dynamoref09_Right.l0, if_pos c1, if_pos c2, if_pos h1]
    by_cases h2 : rd ks (i : Int) > 4294967295
    · rw [hz (okK_false (by clear e1; omega))]
      refine Evn.last fun k => ?_
      show dynamoref09_Right.l0 (k + 1) i ks vs kd = _
      rw [dynamoref09_Right.l0, if_pos c1, if_pos c2, if_neg h1, if_pos h2]
    by_cases h3 : 0 < i
    · have c3 : (i : Int) > 0 := by clear e1; omega
      have e2 := dn1 (i := i) (by clear e1; omega) h3
      have c4 : (0 : Int) ≤ ((i - 1 : Nat) : Int) := by clear e1 e2; omega
      have c5 : ((i - 1 : Nat) : Int) < (ks.length : Int) := by clear e1 e2; omega
      by_cases h4 : rd ks (i : Int) ≤ rd ks ((i - 1 : Nat) : Int)
      · rw [hz (okK_false (fun hh => by have := hh.2.2 h3; clear e1 e2; omega))]
        refine Evn.last fun k => ?_
        show dynamoref09_Right.l0 (k + 1) i ks vs kd = _
        rw [dynamoref09_Right.l0, if_pos c1, if_pos c2, if_neg h1, if_neg h2, if_pos c3, e2, if_pos c4, if_pos c5, if_pos h4]
      · rw [allN, okK_true (by clear e1 e2; exact ⟨by omega, by omega, fun _ => by omega⟩), Bool.true_and]
        refine Evn.step (fun k => ?_) ih
        show dynamoref09_Right.l0 (k + 1) i ks vs kd = _
        rw [dynamoref09_Right.l0, if_pos c1, if_pos c2, if_neg h1, if_neg h2, if_pos c3, e2, if_pos c4, if_pos c5, if_neg h4, e1]
    · have c3 : ¬ (i : Int) > 0 := by clear e1; omega
      rw [allN, okK_true (by clear e1; exact ⟨by omega, by omega, fun h => absurd h h3⟩), Bool.true_and]
      refine Evn.step (fun k => ?_) ih
      show dynamoref09_Right.l0 (k + 1) i ks vs kd = _
      rw [dynamoref09_Right.l0, if_pos c1, if_pos c2, if_neg h1, if_neg h2, if_neg c3, e1]
theorem r1_loop (hl : vs.length ≤ 1000) : ∀ (d i : Nat), i + d = vs.length → Evn (fun k => dynamoref09_Right.l1 k i ks vs kd) (allN (val12 vs) i d && decide (vs.length = ks.length))
  | 0, i, h => by
    rw [allN, Bool.true_and]
    refine Evn.last fun k => ?_
    show dynamoref09_Right.l1 (k + 1) i ks vs kd = _
    rw [dynamoref09_Right.l1, if_neg (by omega)]
    congr 1; rw [Bool.eq_iff_iff]; simp only [decide_eq_true_eq, beq_iff_eq]; omega
  | d + 1, i, h => by
    have e1 := up1 (i := i) (by omega)
    have ih := r1_loop hl d (i + 1) (by clear e1; omega)
    have c1 : (i : Int) < (vs.length : Int) := by clear e1; omega
    have c2 : (0 : Int) ≤ (i : Int) := by clear e1; omega
    by_cases h1 : ((rdOf ByteArray.empty vs (i : Int)).size : Int) = 12
    · rw [allN, show val12 vs i = true from decide_eq_true h1, Bool.true_and]
      refine Evn.step (fun k => ?_) ih
      show dynamoref09_Right.l1 (k + 1) i ks vs kd = _
      rw [dynamoref09_Right.l1, if_pos c1, if_pos c2, if_pos h1, e1]
    · rw [allN, show val12 vs i = false from decide_eq_false h1, Bool.false_and, Bool.false_and]
      refine Evn.last fun k => ?_
      show dynamoref09_Right.l1 (k + 1) i ks vs kd = _
      rw [dynamoref09_Right.l1, if_pos c1, if_pos c2, if_neg h1]
theorem r3_loop (hl : kd.length ≤ 1000) (i : Nat) (hi : i < kd.length) (t : Bool) (hT : Evn (fun k => dynamoref09_Right.l2 k ((i + 1 : Nat) : Int) ks vs kd) t) :
    ∀ (d j : Nat), j + d = i → Evn (fun k => dynamoref09_Right.l3 k i j ks vs kd) (allN (freshK kd i) j d && t)
  | 0, j, h => by
    have e1 := up1 (i := i) (by omega)
    rw [allN, Bool.true_and]
    refine Evn.step (fun k => ?_) hT
    show dynamoref09_Right.l3 (k + 1) i j ks vs kd = _
    rw [dynamoref09_Right.l3, if_neg (by clear e1; omega), e1]
  | d + 1, j, h => by
    have e1 := up1 (i := j) (by omega)
    have ih := r3_loop hl i hi t hT d (j + 1) (by clear e1; omega)
    have c1 : (j : Int) < (i : Int) := by clear e1; omega
    have c2 : (0 : Int) ≤ (j : Int) := by clear e1; omega
    have c3 : (j : Int) < (kd.length : Int) := by clear e1; omega
    have c4 : (0 : Int) ≤ (i : Int) := by clear e1; omega
    have c5 : (i : Int) < (kd.length : Int) := by clear e1; omega
    by_cases h1 : rd kd (j : Int) = rd kd (i : Int)
    · rw [allN, show freshK kd i j = false from decide_eq_false (fun h => h h1), Bool.false_and, Bool.false_and]
      refine Evn.last fun k => ?_
      show dynamoref09_Right.l3 (k + 1) i j ks vs kd = _
      rw [dynamoref09_Right.l3, if_pos c1, if_pos c2, if_pos c3, if_pos c4, if_pos c5, if_pos h1]
    · rw [allN, show freshK kd i j = true from decide_eq_true h1, Bool.true_and]
      refine Evn.step (fun k => ?_) ih
      show dynamoref09_Right.l3 (k + 1) i j ks vs kd = _
      rw [dynamoref09_Right.l3, if_pos c1, if_pos c2, if_pos c3, if_pos c4, if_pos c5, if_neg h1, e1]
theorem r2_loop (hl : kd.length ≤ 1000) (hl0 : ks.length ≤ 1000) : ∀ (d i : Nat), i + d = kd.length → Evn (fun k => dynamoref09_Right.l2 k i ks vs kd) (allN (kidK kd) i d && decide (vs.length = 0 ∧ 1 ≤ ks.length ∧ kd.length = ks.length + 1))
  | 0, i, h => by
    rw [allN, Bool.true_and]
    refine Evn.last fun k => ?_
    show dynamoref09_Right.l2 (k + 1) i ks vs kd = _
    have e1 := up1 (i := ks.length) (by omega)
    rw [dynamoref09_Right.l2, if_neg (by clear e1; omega), e1]
    clear e1
    by_cases h1 : (vs.length : Int) = 0
    · rw [if_pos h1]
      by_cases h2 : (ks.length : Int) ≥ 1
      · rw [if_pos h2]
        congr 1; rw [Bool.eq_iff_iff]; simp only [decide_eq_true_eq, beq_iff_eq]; omega
      · rw [if_neg h2]
        congr 1; symm; exact decide_eq_false (by omega)
    · rw [if_neg h1]
      congr 1; symm; exact decide_eq_false (by omega)
  | d + 1, i, h => by
    have ih := r2_loop hl hl0 d (i + 1) (by omega)
    have c1 : (i : Int) < (kd.length : Int) := by omega
    have c2 : (0 : Int) ≤ (i : Int) := by omega
    have h3 := r3_loop ks vs kd hl i (by omega) _ ih i 0 (by omega)
    by_cases h1 : rd kd (i : Int) < 2
    · rw [allN, show kidK kd i = false by unfold kidK; rw [decide_eq_false (by omega), Bool.false_and], Bool.false_and, Bool.false_and]
      refine Evn.step (h := fun k => dynamoref09_Right.j3 k i true ks vs kd) (fun k => ?_) (Evn.last fun k => ?_)
      · show dynamoref09_Right.l2 (k + 1) i ks vs kd = _
        rw [dynamoref09_Right.l2, if_pos c1, if_pos c2, if_pos h1]
      · show dynamoref09_Right.j3 (k + 1) i true ks vs kd = _
        rw [dynamoref09_Right.j3, if_pos rfl]
    · by_cases h2 : rd kd (i : Int) > 239
      · rw [allN, show kidK kd i = false by unfold kidK; rw [decide_eq_false (by omega), Bool.false_and], Bool.false_and, Bool.false_and]
        refine Evn.step (h := fun k => dynamoref09_Right.j3 k i true ks vs kd) (fun k => ?_) (Evn.last fun k => ?_)
        · show dynamoref09_Right.l2 (k + 1) i ks vs kd = _
          rw [dynamoref09_Right.l2, if_pos c1, if_pos c2, if_neg h1, decide_eq_true h2]
        · show dynamoref09_Right.j3 (k + 1) i true ks vs kd = _
          rw [dynamoref09_Right.j3, if_pos rfl]
      · rw [allN, show kidK kd i = allN (freshK kd i) 0 i by unfold kidK; rw [decide_eq_true (by omega), Bool.true_and], Bool.and_assoc]
        refine Evn.step (h := fun k => dynamoref09_Right.j3 k i false ks vs kd) (fun k => ?_) (Evn.step (fun k => ?_) h3)
        · show dynamoref09_Right.l2 (k + 1) i ks vs kd = _
          rw [dynamoref09_Right.l2, if_pos c1, if_pos c2, if_neg h1, decide_eq_false h2]
        · show dynamoref09_Right.j3 (k + 1) i false ks vs kd = _
          rw [dynamoref09_Right.j3, if_neg Bool.false_ne_true]
          rfl
theorem rright_ev (h0 : ks.length ≤ 1000) (h1 : vs.length ≤ 1000) (h2 : kd.length ≤ 1000) : Evn (fun k => dynamoref09_Right.f k ks vs kd) (nodeB ks vs kd) := by
  unfold nodeB risB
  rw [Bool.and_assoc]
  refine r0_loop ks vs kd h0 _ ?_ ks.length 0 (by omega)
  by_cases h : kd.length = 0
  · rw [if_pos h]
    refine Evn.bind (g := fun _ => some ()) (f := fun k _ => if (kd.length : Int) = 0 then dynamoref09_Right.l1 k 0 ks vs kd else dynamoref09_Right.l2 k 0 ks vs kd) (Evn.of fun _ => rfl) ?_
    simp only [if_pos (show (kd.length : Int) = 0 by omega)]
    exact r1_loop ks vs kd h1 vs.length 0 (by omega)
  · rw [if_neg h]
    refine Evn.bind (g := fun _ => some ()) (f := fun k _ => if (kd.length : Int) = 0 then dynamoref09_Right.l1 k 0 ks vs kd else dynamoref09_Right.l2 k 0 ks vs kd) (Evn.of fun _ => rfl) ?_
    simp only [if_neg (show ¬ (kd.length : Int) = 0 by omega)]
    exact r2_loop ks vs kd h2 h0 kd.length 0 (by omega)
end
theorem get_f (s : ByteArray) : ∀ (d k : Nat) (w : Int), w = (k + d : Nat) → w ≤ 4 → w ≤ s.size → ∀ m, d < m → dynamoref03_Get.l0 m s w (getK s k) k = some (getK s w.toNat)
  | 0, k, w, hw, _, _, m, hm => by
    obtain ⟨m, rfl⟩ : ∃ j, m = j + 1 := ⟨m - 1, by omega⟩
    simp only [dynamoref03_Get.l0]
    rw [if_neg (by omega)]
    simp [hw]
  | d + 1, k, w, hw, h4, hs, m, hm => by
    obtain ⟨m, rfl⟩ : ∃ j, m = j + 1 := ⟨m - 1, by omega⟩
    have hr := getK_range s k
    have hb := bt_range s k
    have hp : (256 : Int) ^ k ≤ 16777216 := by
      rcases (show k = 0 ∨ k = 1 ∨ k = 2 ∨ k = 3 by omega) with rfl | rfl | rfl | rfl <;> decide
    have hg : getK s k < 16777216 := by omega
    obtain ⟨hg0, _⟩ := hr
    clear hp
    have ih := get_f s d (k + 1) w (by rw [hw]; omega) h4 hs m (by omega)
    have c1 : (k : Int) < w := by omega
    have c2 : (0 : Int) ≤ k := by omega
    have c3 : (k : Int) < (s.size : Int) := by omega
    have e2 : wrap64 ((k : Int) + 1) = ((k + 1 : Nat) : Int) := by clear ih; unfold wrap64; omega
    have e0 : wrap64 (bt s k) = bt s k := by clear ih e2; unfold wrap64; omega
    have e1 : wrap64 (wrap64 (256 * getK s k) + bt s k) = getK s (k + 1) := by clear ih e2 e0; simp only [getK]; unfold wrap64; omega
    simp only [dynamoref03_Get.l0]
    rw [if_pos c1, if_pos c2, if_pos c3, e0, e1, e2]
    exact ih
end Go.Proofs.YtbiijkpffllimaaDoor.RD
namespace Go.Proofs.YtbiijkpffllimaaDoor.RD
open Go.RowKit Go.Proofs.YtbiijkpffllimaaDoorW.PrintWords Go.Proofs.YtbiijkpffllimaaDoorW.PrintLast Go.Proofs.YtbiijkpffllimaaDoorW.PrintMore Go.Proofs.YtbiijkpffllimaaDoor.PRead
set_option linter.unusedVariables false
set_option linter.unusedSimpArgs false

abbrev NodeT := List Int × List ByteArray × List Int × Bool
/-- a node, if it is right -/
def rightOr (ks : List Int) (vs : List ByteArray) (kd : List Int) : NodeT := if nodeB ks vs kd = true then (ks, vs, kd, true) else ([], [], [], false)
/-- what is read -/
def readR (d : ByteArray) : NodeT := if (partsR d).ok = true then rightOr (partsR d).ks (partsR d).vs (partsR d).kd else ([], [], [], false)
theorem wr {x : Int} (h0 : 0 ≤ x) (h1 : x ≤ 1000000) : wrap64 x = x := by unfold wrap64; omega
theorem right_end (ks : List Int) (vs : List ByteArray) (kd : List Int) (h0 : ks.length ≤ 1000) (h1 : vs.length ≤ 1000) (h2 : kd.length ≤ 1000) :
    Evn (fun k => (dynamoref09_Right.f k ks vs kd).bind fun t165 => if t165 = true then some (ks, vs, kd, true) else some (([] : List Int), ([] : List ByteArray), ([] : List Int), false)) (rightOr ks vs kd) := by
  obtain ⟨N, hN⟩ : Evn (fun k => dynamoref09_Right.f k ks vs kd) (nodeB ks vs kd) := rright_ev ks vs kd h0 h1 h2
  refine ⟨N, fun k hk => ?_⟩
  show (dynamoref09_Right.f k ks vs kd).bind _ = _
  have hNk : dynamoref09_Right.f k ks vs kd = some (nodeB ks vs kd) := hN k hk
  rw [hNk, Option.bind_some]
  unfold rightOr
  split <;> rfl
theorem get_ev (s : ByteArray) (h : 4 ≤ s.size) : Evn (fun k => dynamoref03_Get.f k s 4) (getK s 4) := by
  refine ⟨5, fun k hk => ?_⟩
  show dynamoref03_Get.f k s 4 = _
  unfold dynamoref03_Get.f
  have := get_f s 4 0 4 rfl (by omega) (by omega) k (by omega)
  simpa [getK] using this
theorem l1_leaf (d : ByteArray) (i : Int) (ks : List Int) (vs : List ByteArray) (hd : 0 < d.size) (hk : bt d 0 = 0) (h0 : ks.length ≤ 1000) (h1 : vs.length ≤ 1000) :
    Evn (fun k => dynamoref09_Read.l1 k d i ks vs []) (rightOr ks vs []) := by
  refine Evn.step (fun k => ?_) (right_end ks vs [] h0 h1 (by simp))
  show dynamoref09_Read.l1 (k + 1) d i ks vs [] = _
  rw [dynamoref09_Read.l1]
  split
  · rw [if_pos (by omega), if_neg (by omega)]
  · rfl
theorem l1_inner (d : ByteArray) (p c : Nat) (ks : List Int) (vs : List ByteArray) (hd : d.size = p + c) (hz : d.size ≤ 1000) (hp : 0 < p) (hk : bt d 0 = 1) (h0 : ks.length ≤ 1000) (h1 : vs.length ≤ 1000) :
    ∀ (m j : Nat), j + m = c → Evn (fun k => dynamoref09_Read.l1 k d ((p + j : Nat) : Int) ks vs (numsAt d 1 p j)) (rightOr ks vs (numsAt d 1 p c))
  | 0, j, h => by
    obtain rfl : j = c := by omega
    have hl : (numsAt d 1 p j).length = j := by
      have : ∀ k, (numsAt d 1 p k).length = k := fun k => by
        induction k with
        | zero => rfl
        | succ k ih => rw [numsAt, List.length_append, ih]; rfl
      exact this j
    refine Evn.step (fun k => ?_) (right_end ks vs (numsAt d 1 p j) h0 h1 (by omega))
    show dynamoref09_Read.l1 (k + 1) d ((p + j : Nat) : Int) ks vs (numsAt d 1 p j) = _
    rw [dynamoref09_Read.l1, if_neg (by omega)]
  | m + 1, j, h => by
    have ih := l1_inner d p c ks vs hd hz hp hk h0 h1 m (j + 1) (by omega)
    have hl : (numsAt d 1 p j).length = j := by
      have : ∀ k, (numsAt d 1 p k).length = k := fun k => by
        induction k with
        | zero => rfl
        | succ k ih => rw [numsAt, List.length_append, ih]; rfl
      exact this j
    refine Evn.step (fun k => ?_) ih
    show dynamoref09_Read.l1 (k + 1) d ((p + j : Nat) : Int) ks vs (numsAt d 1 p j) = _
    have hb := bt_range d ((p + j : Nat) : Int)
    have e1 : wrap64 (((p + j : Nat) : Int) + 1) = ((p + (j + 1) : Nat) : Int) := by unfold wrap64; omega
    have e2 : wrap64 (bt d ((p + j : Nat) : Int)) = bt d ((p + j : Nat) : Int) := by clear e1; unfold wrap64; omega
    have e3 : numsAt d 1 p (j + 1) = numsAt d 1 p j ++ [bt d ((p + j : Nat) : Int)] := by
      rw [numsAt, Nat.one_mul, getK_one d (p + j) (by clear e1 e2; omega)]
    rw [dynamoref09_Read.l1, if_pos (by clear e1 e2; omega), if_pos (by clear e1 e2; omega), if_pos hk, if_pos (by clear e1 e2; omega), if_pos (by clear e1 e2; omega), e1, e2, ← e3]
theorem nums_len (d : ByteArray) (w p : Nat) : ∀ k, (numsAt d w p k).length = k
  | 0 => rfl
  | k + 1 => by rw [numsAt, List.length_append, nums_len d w p k]; rfl
theorem vals_len (d : ByteArray) (w p : Nat) : ∀ k, (valsAt d w p k).length = k
  | 0 => rfl
  | k + 1 => by rw [valsAt, List.length_append, vals_len d w p k]; rfl
theorem l0_leaf (d : ByteArray) (c : Nat) (hs : d.size = 2 + 16 * c) (h7 : c ≤ 7) (hk : bt d 0 = 0) (r : NodeT)
    (hE : Evn (fun k => dynamoref09_Read.l1 k d ((2 + 4 * c : Nat) : Int) (numsAt d 4 2 c) (valsAt d 12 (2 + 4 * c) c) []) r) :
    ∀ (m i : Nat), i + m = c → Evn (fun k => dynamoref09_Read.l0 k d c i (numsAt d 4 2 i) (valsAt d 12 (2 + 4 * c) i)) r
  | 0, i, h => by
    obtain rfl : i = c := by omega
    refine Evn.step (fun k => ?_) hE
    show dynamoref09_Read.l0 (k + 1) d i i _ _ = _
    have e1 : wrap64 (4 * (i : Int)) = 4 * i := wr (by omega) (by omega)
    have e2 : wrap64 (2 + 4 * (i : Int)) = ((2 + 4 * i : Nat) : Int) := by unfold wrap64; omega
    rw [dynamoref09_Read.l0, if_neg (by clear e1 e2; omega), e1, e2]
  | m + 1, i, h => by
    have ih := l0_leaf d c hs h7 hk r hE m (i + 1) (by omega)
    have a1 : wrap64 (4 * (i : Int)) = 4 * i := wr (by omega) (by omega)
    have a2 : wrap64 (2 + 4 * (i : Int)) = ((2 + 4 * i : Nat) : Int) := by unfold wrap64; omega
    have b1 : wrap64 (4 * (c : Int)) = 4 * c := wr (by omega) (by omega)
    have b2 : wrap64 (2 + 4 * (c : Int)) = ((2 + 4 * c : Nat) : Int) := by unfold wrap64; omega
    have b3 : wrap64 (12 * (i : Int)) = ((12 * i : Nat) : Int) := by unfold wrap64; omega
    have b4 : wrap64 (((2 + 4 * c : Nat) : Int) + ((12 * i : Nat) : Int)) = ((2 + 4 * c + 12 * i : Nat) : Int) := by unfold wrap64; omega
    have b5 : wrap64 (((2 + 4 * c + 12 * i : Nat) : Int) + 12) = ((2 + 4 * c + 12 * i + 12 : Nat) : Int) := by unfold wrap64; omega
    have b6 : wrap64 ((i : Int) + 1) = ((i + 1 : Nat) : Int) := by unfold wrap64; omega
    have hl1 := nums_len d 4 2 i
    have hl2 := vals_len d 12 (2 + 4 * c) i
    have hg := get_ev (d.extract (2 + 4 * i) d.size) (by rw [ByteArray.size_extract]; clear a1 a2 b1 b2 b3 b4 b5 b6; omega)
    have n1 : numsAt d 4 2 (i + 1) = numsAt d 4 2 i ++ [getK (d.extract (2 + 4 * i) d.size) 4] := rfl
    have n2 : valsAt d 12 (2 + 4 * c) (i + 1) = valsAt d 12 (2 + 4 * c) i ++ [d.extract (2 + 4 * c + 12 * i) (2 + 4 * c + 12 * i + 12)] := rfl
    obtain ⟨N, hN⟩ := hg
    obtain ⟨M, hM⟩ := ih
    refine ⟨N + M + 1, fun k hk2 => ?_⟩
    obtain ⟨q, rfl⟩ : ∃ q, k = q + 1 := ⟨k - 1, by omega⟩
    have hNq : dynamoref03_Get.f q (d.extract (2 + 4 * i) d.size) 4 = some _ := hN q (by omega)
    have hMq : dynamoref09_Read.l0 q d c ((i + 1 : Nat) : Int) (numsAt d 4 2 (i + 1)) (valsAt d 12 (2 + 4 * c) (i + 1)) = some r := hM q (by omega)
    show dynamoref09_Read.l0 (q + 1) d c i _ _ = _
    rw [dynamoref09_Read.l0, a1, a2, b1, b2, b3, b4, b5, b6]
    clear a1 a2 b1 b2 b3 b4 b5 b6
    rw [if_pos (by omega), if_pos (by omega), if_pos (by omega), Int.toNat_natCast, hNq, Option.bind_some, if_pos (by omega), Option.bind_some, if_pos (by omega), if_pos hk, if_pos (by omega), if_pos (by omega), if_pos (by omega), if_pos (by omega), Int.toNat_natCast, Int.toNat_natCast, ← n1, ← n2]
    exact hMq
theorem l0_inner (d : ByteArray) (c : Nat) (hs : d.size = 2 + 4 * c + c + 1) (h7 : c ≤ 7) (hk : bt d 0 = 1) (r : NodeT)
    (hE : Evn (fun k => dynamoref09_Read.l1 k d ((2 + 4 * c : Nat) : Int) (numsAt d 4 2 c) [] []) r) :
    ∀ (m i : Nat), i + m = c → Evn (fun k => dynamoref09_Read.l0 k d c i (numsAt d 4 2 i) []) r
  | 0, i, h => by
    obtain rfl : i = c := by omega
    refine Evn.step (fun k => ?_) hE
    show dynamoref09_Read.l0 (k + 1) d i i _ _ = _
    have e1 : wrap64 (4 * (i : Int)) = 4 * i := wr (by omega) (by omega)
    have e2 : wrap64 (2 + 4 * (i : Int)) = ((2 + 4 * i : Nat) : Int) := by unfold wrap64; omega
    rw [dynamoref09_Read.l0, if_neg (by clear e1 e2; omega), e1, e2]
  | m + 1, i, h => by
    have ih := l0_inner d c hs h7 hk r hE m (i + 1) (by omega)
    have a1 : wrap64 (4 * (i : Int)) = 4 * i := wr (by omega) (by omega)
    have a2 : wrap64 (2 + 4 * (i : Int)) = ((2 + 4 * i : Nat) : Int) := by unfold wrap64; omega
    have b6 : wrap64 ((i : Int) + 1) = ((i + 1 : Nat) : Int) := by unfold wrap64; omega
    have hl1 := nums_len d 4 2 i
    have hg := get_ev (d.extract (2 + 4 * i) d.size) (by rw [ByteArray.size_extract]; clear a1 a2 b6; omega)
    have n1 : numsAt d 4 2 (i + 1) = numsAt d 4 2 i ++ [getK (d.extract (2 + 4 * i) d.size) 4] := rfl
    obtain ⟨N, hN⟩ := hg
    obtain ⟨M, hM⟩ := ih
    refine ⟨N + M + 1, fun k hk2 => ?_⟩
    obtain ⟨q, rfl⟩ : ∃ q, k = q + 1 := ⟨k - 1, by omega⟩
    have hNq : dynamoref03_Get.f q (d.extract (2 + 4 * i) d.size) 4 = some _ := hN q (by omega)
    have hMq : dynamoref09_Read.l0 q d c ((i + 1 : Nat) : Int) (numsAt d 4 2 (i + 1)) [] = some r := hM q (by omega)
    show dynamoref09_Read.l0 (q + 1) d c i _ _ = _
    rw [dynamoref09_Read.l0, a1, a2, b6]
    clear a1 a2 b6
    rw [if_pos (by omega), if_pos (by omega), if_pos (by omega), Int.toNat_natCast, hNq, Option.bind_some, if_pos (by omega), Option.bind_some, if_pos (by omega), if_neg (by omega), ← n1]
    exact hMq
theorem rread_ev (d : ByteArray) (hz : d.size ≤ 1000) : ∃ k, dynamoref09_Read.f k d = some (readR d) := by
  have h0r := bt_range d 0
  have h1r := bt_range d 1
  by_cases h2 : d.size < 2
  · refine ⟨1, ?_⟩
    unfold dynamoref09_Read.f readR
    rw [if_pos (by omega), dynamoref09_Read.j0, if_pos rfl, parts_small d h2, if_neg Bool.false_ne_true]
  · have h2' : 2 ≤ d.size := by omega
    by_cases hb0 : bt d 0 > 1
    · refine ⟨1, ?_⟩
      unfold dynamoref09_Read.f readR
      rw [if_neg (by omega), if_pos (by omega), if_pos hb0, dynamoref09_Read.j0, if_pos rfl, parts_big d h2' (.inl hb0), if_neg Bool.false_ne_true]
    · by_cases hb1 : bt d 1 > 7
      · refine ⟨1, ?_⟩
        unfold dynamoref09_Read.f readR
        rw [if_neg (by omega), if_pos (by omega), if_neg hb0, if_pos (by omega), decide_eq_true hb1, dynamoref09_Read.j0, if_pos rfl, parts_big d h2' (.inr hb1), if_neg Bool.false_ne_true]
      · obtain ⟨c, hc⟩ : ∃ c : Nat, bt d 1 = (c : Int) := ⟨(bt d 1).toNat, by omega⟩
        have h7 : c ≤ 7 := by omega
        have w1 : wrap64 ((c : Int)) = c := wr (by omega) (by omega)
        have start : ∀ (k : Nat), dynamoref09_Read.f (k + 1) d = dynamoref09_Read.j0 (k + 1) d false := fun k => by
          unfold dynamoref09_Read.f
          rw [if_neg (by clear w1; omega), if_pos (by clear w1; omega), if_neg hb0, if_pos (by clear w1; omega), decide_eq_false hb1]
        rcases (show bt d 0 = 0 ∨ bt d 0 = 1 by clear w1; omega) with hk | hk
        · have w2 : wrap64 (16 * (c : Int)) = 16 * c := wr (by clear w1; omega) (by clear w1; omega)
          have w3 : wrap64 (2 + 16 * (c : Int)) = ((2 + 16 * c : Nat) : Int) := by clear w1 w2; unfold wrap64; omega
          have hj0 : ∀ k, dynamoref09_Read.j0 (k + 1) d false = dynamoref09_Read.j1 k d c ((2 + 16 * c : Nat) : Int) := fun k => by
            rw [dynamoref09_Read.j0, if_neg Bool.false_ne_true, if_pos (by clear w1 w2 w3; omega), if_pos (by clear w1 w2 w3; omega), if_neg (by clear w1 w2 w3; omega), hc, w1, w2, w3]
          clear w1 w2 w3
          by_cases hs : d.size = 2 + 16 * c
          · have hl1 := nums_len d 4 2 c
            have hl2 := vals_len d 12 (2 + 4 * c) c
            have hE := l1_leaf d ((2 + 4 * c : Nat) : Int) (numsAt d 4 2 c) (valsAt d 12 (2 + 4 * c) c) (by omega) hk (by omega) (by omega)
            obtain ⟨N, hN⟩ := l0_leaf d c hs h7 hk _ hE c 0 (by omega)
            refine ⟨N + 2, ?_⟩
            rw [start, hj0, dynamoref09_Read.j1, if_pos (by omega)]
            unfold readR
            rw [parts_leaf d h2' c hc h7 hk hs, if_pos rfl]
            exact hN N (Nat.le_refl _)
          · refine ⟨2, ?_⟩
            rw [start, hj0, dynamoref09_Read.j1, if_neg (by omega)]
            unfold readR
            rw [parts_size0 d h2' c hc hk hs, if_neg Bool.false_ne_true]
        · have w2 : wrap64 (4 * (c : Int)) = 4 * c := wr (by clear w1; omega) (by clear w1; omega)
          have w3 : wrap64 (2 + 4 * (c : Int)) = 2 + 4 * c := wr (by clear w1 w2; omega) (by clear w1 w2; omega)
          have w4 : wrap64 (2 + 4 * (c : Int) + c) = 2 + 4 * c + c := wr (by clear w1 w2 w3; omega) (by clear w1 w2 w3; omega)
          have w5 : wrap64 (2 + 4 * (c : Int) + c + 1) = ((2 + 4 * c + c + 1 : Nat) : Int) := by clear w1 w2 w3 w4; unfold wrap64; omega
          have hj0 : ∀ k, dynamoref09_Read.j0 (k + 1) d false = dynamoref09_Read.j1 k d c ((2 + 4 * c + c + 1 : Nat) : Int) := fun k => by
            rw [dynamoref09_Read.j0, if_neg Bool.false_ne_true, if_pos (by clear w1 w2 w3 w4 w5; omega), if_pos (by clear w1 w2 w3 w4 w5; omega), if_pos hk, hc, w1, w2, w3, w4, w5]
          clear w1 w2 w3 w4 w5
          by_cases hs : d.size = 2 + 4 * c + c + 1
          · have hl1 := nums_len d 4 2 c
            have hE := l1_inner d (2 + 4 * c) (c + 1) (numsAt d 4 2 c) [] (by omega) hz (by omega) hk (by omega) (by simp) (c + 1) 0 (by omega)
            obtain ⟨N, hN⟩ := l0_inner d c hs h7 hk _ hE c 0 (by omega)
            refine ⟨N + 2, ?_⟩
            rw [start, hj0, dynamoref09_Read.j1, if_pos (by omega)]
            unfold readR
            rw [parts_inner d h2' c hc h7 hk hs, if_pos rfl]
            exact hN N (Nat.le_refl _)
          · refine ⟨2, ?_⟩
            rw [start, hj0, dynamoref09_Read.j1, if_neg (by omega)]
            unfold readR
            rw [parts_size1 d h2' c hc hk hs, if_neg Bool.false_ne_true]
end Go.Proofs.YtbiijkpffllimaaDoor.RD
namespace Go.Proofs.YtbiijkpffllimaaDoor.RP
open Go.RowKit Go.Proofs.YtbiijkpffllimaaDoorW.PrintWords Go.Proofs.YtbiijkpffllimaaDoorW.PrintLast Go.Proofs.YtbiijkpffllimaaDoorW.PrintMore Go.Proofs.YtbiijkpffllimaaDoor.PPut
set_option linter.unusedVariables false
set_option linter.unusedSimpArgs false

theorem strOf_append (a b : List Int) : strOfNums (a ++ b) = strOfNums a ++ strOfNums b := by
  apply ByteArray.ext
  simp [strOfNums]
theorem strOf_nil : strOfNums [] = ⟨#[]⟩ := rfl
theorem strOf_snoc_empty (a : List Int) : strOfNums a ++ (⟨#[]⟩ : ByteArray) = strOfNums a := by rw [← strOf_nil, ← strOf_append, List.append_nil]
theorem wrap_div {x : Int} (h0 : 0 ≤ x) (h1 : x ≤ 9223372036854775807) : wrap64 (Int.tdiv x 256) = x / 256 := by
  rw [Int.tdiv_eq_ediv_of_nonneg h0]; unfold wrap64; omega
theorem wrap_up {i : Int} (h0 : 0 ≤ i) (h1 : i ≤ 100) : wrap64 (i + 1) = i + 1 := by unfold wrap64; omega
theorem rput_step (k : Nat) (w x i : Int) (s : ByteArray) (h0 : 0 ≤ x) (h1 : x ≤ 9223372036854775807) (hi0 : 0 ≤ i) (hi : i < w) (hi1 : i ≤ 100) (hs : s.size ≤ 100) : dynamoref03_Put.l0 (k + 1) w x s i = dynamoref03_Put.l0 k w (x / 256) (strOfNums [x % 256] ++ s) (i + 1) := by
  have e : Int.tmod x 256 % 256 = x % 256 := by rw [Int.tmod_eq_emod_of_nonneg h0]; omega
  rw [dynamoref03_Put.l0, if_pos hi, e]
  simp only [Option.bind_some]
  rw [if_pos (by rw [strOf_size]; simp; omega), wrap_div h0 h1, wrap_up hi0 hi1]
theorem rput_end (k : Nat) (w x i : Int) (s : ByteArray) (hi : ¬ i < w) : dynamoref03_Put.l0 (k + 1) w x s i = some s := by
  rw [dynamoref03_Put.l0, if_neg hi]
theorem rput_f (w n : Int) (hn : n ≤ 9223372036854775807) (hf : fitsB w n = true) : dynamoref03_Put.f 7 w n = some (putB w n) := by
  unfold dynamoref03_Put.f putB
  rw [if_pos hf]
  simp only [fitsB, decide_eq_true_eq] at hf
  obtain ⟨h1, h4, g0, _⟩ := hf
  have g1 : 0 ≤ n / 256 ∧ n / 256 ≤ 9223372036854775807 := by omega
  have g2 : 0 ≤ n / 256 / 256 ∧ n / 256 / 256 ≤ 9223372036854775807 := by omega
  have g3 : 0 ≤ n / 256 / 256 / 256 ∧ n / 256 / 256 / 256 ≤ 9223372036854775807 := by omega
  have z0 : (⟨#[]⟩ : ByteArray).size ≤ 100 := by show 0 ≤ 100; omega
  rcases four h1 h4 with rfl | rfl | rfl | rfl
  · rw [rput_step _ _ _ _ _ g0 hn (by omega) (by omega) (by omega) z0, rput_end _ _ _ _ _ (by omega), strOf_snoc_empty]
    rfl
  · rw [rput_step _ _ _ _ _ g0 hn (by omega) (by omega) (by omega) z0, strOf_snoc_empty, rput_step _ _ _ _ _ g1.1 g1.2 (by omega) (by omega) (by omega) (by rw [strOf_size]; simp), ← strOf_append, rput_end _ _ _ _ _ (by omega)]
    rfl
  · rw [rput_step _ _ _ _ _ g0 hn (by omega) (by omega) (by omega) z0, strOf_snoc_empty, rput_step _ _ _ _ _ g1.1 g1.2 (by omega) (by omega) (by omega) (by rw [strOf_size]; simp), ← strOf_append, rput_step _ _ _ _ _ g2.1 g2.2 (by omega) (by omega) (by omega) (by rw [strOf_size]; simp), ← strOf_append, rput_end _ _ _ _ _ (by omega)]
    simp [putL, Int.ediv_ediv]
  · rw [rput_step _ _ _ _ _ g0 hn (by omega) (by omega) (by omega) z0, strOf_snoc_empty, rput_step _ _ _ _ _ g1.1 g1.2 (by omega) (by omega) (by omega) (by rw [strOf_size]; simp), ← strOf_append, rput_step _ _ _ _ _ g2.1 g2.2 (by omega) (by omega) (by omega) (by rw [strOf_size]; simp), ← strOf_append, rput_step _ _ _ _ _ g3.1 g3.2 (by omega) (by omega) (by omega) (by rw [strOf_size]; simp), ← strOf_append, rput_end _ _ _ _ _ (by omega)]
    simp [putL, Int.ediv_ediv]
end Go.Proofs.YtbiijkpffllimaaDoor.RP
namespace Go.Proofs.YtbiijkpffllimaaDoor
open Go.RowKit Go.Extern.Stop Go.Stop Go.Extern Go.Proofs.YtbiijkpffllimaaDoorW.PrintWords Go.Proofs.YtbiijkpffllimaaDoorW.PrintLast Go.Proofs.YtbiijkpffllimaaDoorW.PrintMore
set_option linter.unusedVariables false
set_option linter.unusedSimpArgs false

theorem rput_any (w : Nat) (n : Int) (W : World) (hn : n ≤ 9223372036854775807) (hf : fitsB (w : Int) n = true) : Calls Tryd.prog 25 #[.int .i64 (w : Int), .int .i64 n] W fun e w' => e = .returned (.string (putB w n)) ∧ Below W.heap.size W w' :=
  PPut.dynamoref03_Put.calls 7 w n _ W (RP.rput_f w n hn hf)
theorem rput_4 (n : Int) (W : World) (hn : n ≤ 9223372036854775807) (hf : fitsB ((4 : Nat) : Int) n = true) : Calls Tryd.prog 25 #[.int .i64 4, .int .i64 n] W fun e w' => e = .returned (.string (putB 4 n)) ∧ Below W.heap.size W w' := rput_any 4 n W hn hf
theorem put_one (n : Int) (h : fitsB ((1 : Nat) : Int) n = true) : putB 1 n = strOfNums [n] := by
  unfold putB
  have h' := h
  unfold fitsB at h'
  have := of_decide_eq_true h'
  have e : ((1 : Nat) : Int) = 1 := rfl
  rw [e] at h this
  rw [if_pos h]
  have h4 := this.2.2.2
  simp at h4
  unfold putL
  rw [if_pos rfl, show n % 256 = n by omega]
theorem head_two (ks kd : List Int) (h1 : fitsB ((1 : Nat) : Int) (kindI kd) = true) (h2 : fitsB ((1 : Nat) : Int) (ks.length : Int) = true) : headS ks kd = strOfNums [kindI kd, (ks.length : Int)] := by
  unfold headS
  rw [put_one _ h1, put_one _ h2, ← RP.strOf_append]; rfl
set_option maxHeartbeats 2000000 in
set_option maxRecDepth 100000 in
theorem rlay_ok (A0 : Option Addr) (ks : List Int) (c0 : Nat) (A1 : Option Addr) (vs : List ByteArray) (c1 : Nat) (A2 : Option Addr) (kd : List Int) (c2 : Nat) (w : World) (ha : NodeIn w A0 ks c0 A1 vs c1 A2 kd c2) (hn : nodeB ks vs kd = true) :
    Calls Tryd.prog 31 #[.agg #[.slice A0 ks.length c0, .slice A1 vs.length c1, .slice A2 kd.length c2]] w fun e w' => e = .returned (.string (layS ks vs kd)) ∧ Below w.heap.size w w' := by
  have HF := Lib.hid (node_facts hn)
  have HG := Lib.hid (node_g hn)
  have HN := Lib.hid ha
  have HB0 : Hid (Below w.heap.size w (w.alloc (.cells #[.slice A0 ks.length c0, .slice A1 vs.length c1, .slice A2 kd.length c2] 25))) := Lib.hid ((Below.refl _ _).alloc (Nat.le_refl _) _)
  have HHd := Lib.hid (head_two ks kd HG.out.h1 HG.out.h2)
  have HKi : Hid (kindI kd = if kd.length = 0 then 0 else 1) := Lib.hid rfl
  have HLy : Hid (layS ks vs kd = kidsS kd (valsS vs (keysS ks (headS ks kd) ks.length) vs.length) kd.length) := Lib.hid rfl
  have hh8 := headS_le ks kd
  have hk7 := HF.out.k7
  have hv7 := HF.out.v7
  have hd8 := HF.out.d8
  clear ha hn
  by_cases hkd : kd.length = 0
  · have hki : kindI kd = 0 := by rw [HKi.out]; exact if_pos hkd
    rw [hki] at HHd
    have hg0 : ¬ (0 : Int) < (kd.length : Int) := by omega
    have hg1 : decide (0 < kd.length) = false := decide_eq_false (by omega)
    have hcv := run_convert_bytes_arg (P := Tryd.prog) (w := (w.alloc (.cells #[.slice A0 ks.length c0, .slice A1 vs.length c1, .slice A2 kd.length c2] 25)).alloc (.cells #[.int .u8 0, .int .u8 (ks.length : Int)] 5)) 51 5 Tryd.underlying51 Tryd.underlying5 (w.heap.size + 1) 0 2 2 [0, (ks.length : Int)] rfl (fun i hi => by rw [World.cell?_alloc_at _ _ _ _ (by simp)]; match i, hi with | 0, _ => rfl | 1, _ => rfl) 9 Tryd.underlying9
    rw [← HHd.out] at hcv
    obtain ⟨s0, hs0⟩ : ∃ q, q = headS ks kd := ⟨_, rfl⟩
    rw [← hs0] at HLy hh8 hcv
    have HKD := Lib.hid hkd
    clear hs0 hki hkd HKi HHd
    go_enter Tryd.func31, Tryd.ntmps31
    go_wp2_with fail
    have HBs : Hid (Below (w.alloc (.cells #[.slice A0 ks.length c0, .slice A1 vs.length c1, .slice A2 kd.length c2] 25)).heap.size (w.alloc (.cells #[.slice A0 ks.length c0, .slice A1 vs.length c1, .slice A2 kd.length c2] 25)) ((w.alloc (.cells #[.slice A0 ks.length c0, .slice A1 vs.length c1, .slice A2 kd.length c2] 25)).alloc (.cells #[.int .u8 0, .int .u8 (ks.length : Int)] 5))) := Lib.hid ((Below.refl _ _).alloc (Nat.le_refl _) _)
    clear hcv
    obtain ⟨x0, x1, x2⟩ := box_cells HBs.out
    go_wp2_with fail
    go_loopw [4, 5] (fun s i wr => ∃ k : Nat, k ≤ ks.length ∧ i = .int .i64 k ∧ s = .string (keysS ks s0 k) ∧ Hid (Below (w.alloc (.cells #[.slice A0 ks.length c0, .slice A1 vs.length c1, .slice A2 kd.length c2] 25)).heap.size (w.alloc (.cells #[.slice A0 ks.length c0, .slice A1 vs.length c1, .slice A2 kd.length c2] 25)) wr)) (fun _ i _ => ks.length - (intOf i).toNat)
    case atStart => exact ⟨0, Nat.zero_le _, rfl, rfl, HBs⟩
    case round =>
      obtain ⟨k, hk, rfl, rfl, HBr⟩ := hrel
      obtain ⟨x0, x1, x2⟩ := box_cells HBr.out
      by_cases hlt : k < ks.length
      · have hltz : (k : Int) < (ks.length : Int) := by omega
        obtain ⟨b, o, rfl, hc⟩ := (HN.out.below (HB0.out.trans (HBr.out.mono (by simp)))).k.at (by omega)
        have cc := hc k hlt
        have hs := keysS_le ks s0 k
        have HSt : Hid (keysS ks s0 (k + 1) = keysS ks s0 k ++ putB 4 (rd ks (k : Int))) := Lib.hid rfl
        have HFt := Lib.hid (HG.out.k _ (List.getElem_mem hlt))
        rw [← rd_at ks k hlt] at HFt
        have hpz := putB_le 4 (rd ks (k : Int))
        obtain ⟨x, hx⟩ : ∃ q, q = rd ks (k : Int) := ⟨_, rfl⟩
        rw [← hx] at cc HSt HFt hpz
        obtain ⟨t, ht⟩ : ∃ q, q = keysS ks s0 k := ⟨_, rfl⟩
        rw [← ht] at HSt hs ⊢
        have hxb : 0 ≤ x ∧ x < 4294967296 := by have := of_decide_eq_true HFt.out; have h4 := this.2.2.2; rw [Int.toNat_natCast] at h4; exact ⟨this.2.2.1, by simpa using h4⟩
        have HPx : Hid (∀ W : World, Calls Tryd.prog 25 #[.int .i64 4, .int .i64 x] W fun e w' => e = .returned (.string (putB 4 x)) ∧ Below W.heap.size W w') := Lib.hid (fun W => rput_4 x W (by omega) HFt.out)
        obtain ⟨p, hp⟩ : ∃ q, q = putB 4 x := ⟨_, rfl⟩
        rw [← hp] at HPx hpz HSt
        clear hp
        have hadd := add_run (a := t) (b := p) (by omega)
        clear hx ht hc
        go_wp2_with fail
        refine (HPx.out _).mono ?_
        rintro e wn ⟨rfl, hb⟩
        have HBr2 := Lib.hid (HBr.out.trans (hb.mono HBr.out.size))
        clear hb
        go_wp2_with fail
        go_roundw
        case rel => exact ⟨k + 1, by omega, by go_num, by rw [HSt.out], HBr2⟩
        case measure => simp [intOf]; omega
      · have hltb : ¬ (k : Int) < (ks.length : Int) := by omega
        obtain rfl : k = ks.length := by omega
        have hz_s1 := keysS_le ks s0 ks.length
        obtain ⟨s1, hs1⟩ : ∃ q, q = keysS ks s0 ks.length := ⟨_, rfl⟩
        rw [← hs1] at HLy hz_s1 ⊢
        have HBo_s1 := HBr
        clear hs1 hlt hk HBr
        obtain ⟨x0, x1, x2⟩ := box_cells HBo_s1.out
        go_wp2_with fail
        go_loopw [4, 6] (fun s i wr => ∃ k : Nat, k ≤ vs.length ∧ i = .int .i64 k ∧ s = .string (valsS vs s1 k) ∧ Hid (Below (w.alloc (.cells #[.slice A0 ks.length c0, .slice A1 vs.length c1, .slice A2 kd.length c2] 25)).heap.size (w.alloc (.cells #[.slice A0 ks.length c0, .slice A1 vs.length c1, .slice A2 kd.length c2] 25)) wr)) (fun _ i _ => vs.length - (intOf i).toNat)
        case atStart => exact ⟨0, Nat.zero_le _, rfl, rfl, HBo_s1⟩
        case round =>
          obtain ⟨k, hk, rfl, rfl, HBr⟩ := hrel
          obtain ⟨x0, x1, x2⟩ := box_cells HBr.out
          by_cases hlt : k < vs.length
          · have hltz : (k : Int) < (vs.length : Int) := by omega
            obtain ⟨b, o, rfl, hc⟩ := (HN.out.below (HB0.out.trans (HBr.out.mono (by simp)))).v.at (by omega)
            have cc := hc k hlt
            have hs := valsS_le vs s1 HF.out.v k (by omega)
            have hvz := of_decide_eq_true (allN_all.1 HF.out.v k hlt)
            have HSt : Hid (valsS vs s1 (k + 1) = valsS vs s1 k ++ rdOf ByteArray.empty vs (k : Int)) := Lib.hid rfl
            obtain ⟨x, hx⟩ : ∃ q, q = rdOf ByteArray.empty vs (k : Int) := ⟨_, rfl⟩
            rw [← hx] at cc HSt hvz
            obtain ⟨t, ht⟩ : ∃ q, q = valsS vs s1 k := ⟨_, rfl⟩
            rw [← ht] at HSt hs ⊢
            have hadd := add_run (a := t) (b := x) (by omega)
            clear hx ht hc
            go_wp2_with fail
            have HBr2 := HBr
            go_roundw
            case rel => exact ⟨k + 1, by omega, by go_num, by rw [HSt.out], HBr2⟩
            case measure => simp [intOf]; omega
          · have hltb : ¬ (k : Int) < (vs.length : Int) := by omega
            obtain rfl : k = vs.length := by omega
            have hz_s2 := valsS_le vs s1 HF.out.v vs.length (Nat.le_refl _)
            obtain ⟨s2, hs2⟩ : ∃ q, q = valsS vs s1 vs.length := ⟨_, rfl⟩
            rw [← hs2] at HLy hz_s2 ⊢
            have HBo_s2 := HBr
            clear hs2 hlt hk HBr
            obtain ⟨x0, x1, x2⟩ := box_cells HBo_s2.out
            go_wp2_with fail
            go_loopw [4, 7] (fun s i wr => ∃ k : Nat, k ≤ kd.length ∧ i = .int .i64 k ∧ s = .string (kidsS kd s2 k) ∧ Hid (Below (w.alloc (.cells #[.slice A0 ks.length c0, .slice A1 vs.length c1, .slice A2 kd.length c2] 25)).heap.size (w.alloc (.cells #[.slice A0 ks.length c0, .slice A1 vs.length c1, .slice A2 kd.length c2] 25)) wr)) (fun _ i _ => kd.length - (intOf i).toNat)
            case atStart => exact ⟨0, Nat.zero_le _, rfl, rfl, HBo_s2⟩
            case round =>
              obtain ⟨k, hk, rfl, rfl, HBr⟩ := hrel
              obtain ⟨x0, x1, x2⟩ := box_cells HBr.out
              by_cases hlt : k < kd.length
              · exact absurd hlt (by have := HKD.out; omega)
              · have hltb : ¬ (k : Int) < (kd.length : Int) := by omega
                obtain rfl : k = kd.length := by omega
                have hz_s3 := kidsS_le kd s2 kd.length
                obtain ⟨s3, hs3⟩ : ∃ q, q = kidsS kd s2 kd.length := ⟨_, rfl⟩
                rw [← hs3] at HLy hz_s3 ⊢
                have HBo_s3 := HBr
                clear hs3 hlt hk HBr
                go_wp2_with fail
                go_ret
                exact ⟨by rw [HLy.out]; rfl, HB0.out.trans (HBo_s3.out.mono (by simp))⟩
  · have hki : kindI kd = 1 := by rw [HKi.out]; exact if_neg hkd
    rw [hki] at HHd
    have hg0 : (0 : Int) < (kd.length : Int) := by omega
    have hg1 : decide (0 < kd.length) = true := decide_eq_true (by omega)
    have hcv := run_convert_bytes_arg (P := Tryd.prog) (w := (w.alloc (.cells #[.slice A0 ks.length c0, .slice A1 vs.length c1, .slice A2 kd.length c2] 25)).alloc (.cells #[.int .u8 1, .int .u8 (ks.length : Int)] 5)) 51 5 Tryd.underlying51 Tryd.underlying5 (w.heap.size + 1) 0 2 2 [1, (ks.length : Int)] rfl (fun i hi => by rw [World.cell?_alloc_at _ _ _ _ (by simp)]; match i, hi with | 0, _ => rfl | 1, _ => rfl) 9 Tryd.underlying9
    rw [← HHd.out] at hcv
    obtain ⟨s0, hs0⟩ : ∃ q, q = headS ks kd := ⟨_, rfl⟩
    rw [← hs0] at HLy hh8 hcv
    have HKD := Lib.hid hkd
    clear hs0 hki hkd HKi HHd
    go_enter Tryd.func31, Tryd.ntmps31
    go_wp2_with fail
    have HBs : Hid (Below (w.alloc (.cells #[.slice A0 ks.length c0, .slice A1 vs.length c1, .slice A2 kd.length c2] 25)).heap.size (w.alloc (.cells #[.slice A0 ks.length c0, .slice A1 vs.length c1, .slice A2 kd.length c2] 25)) ((w.alloc (.cells #[.slice A0 ks.length c0, .slice A1 vs.length c1, .slice A2 kd.length c2] 25)).alloc (.cells #[.int .u8 1, .int .u8 (ks.length : Int)] 5))) := Lib.hid ((Below.refl _ _).alloc (Nat.le_refl _) _)
    clear hcv
    obtain ⟨x0, x1, x2⟩ := box_cells HBs.out
    go_wp2_with fail
    go_loopw [4, 5] (fun s i wr => ∃ k : Nat, k ≤ ks.length ∧ i = .int .i64 k ∧ s = .string (keysS ks s0 k) ∧ Hid (Below (w.alloc (.cells #[.slice A0 ks.length c0, .slice A1 vs.length c1, .slice A2 kd.length c2] 25)).heap.size (w.alloc (.cells #[.slice A0 ks.length c0, .slice A1 vs.length c1, .slice A2 kd.length c2] 25)) wr)) (fun _ i _ => ks.length - (intOf i).toNat)
    case atStart => exact ⟨0, Nat.zero_le _, rfl, rfl, HBs⟩
    case round =>
      obtain ⟨k, hk, rfl, rfl, HBr⟩ := hrel
      obtain ⟨x0, x1, x2⟩ := box_cells HBr.out
      by_cases hlt : k < ks.length
      · have hltz : (k : Int) < (ks.length : Int) := by omega
        obtain ⟨b, o, rfl, hc⟩ := (HN.out.below (HB0.out.trans (HBr.out.mono (by simp)))).k.at (by omega)
        have cc := hc k hlt
        have hs := keysS_le ks s0 k
        have HSt : Hid (keysS ks s0 (k + 1) = keysS ks s0 k ++ putB 4 (rd ks (k : Int))) := Lib.hid rfl
        have HFt := Lib.hid (HG.out.k _ (List.getElem_mem hlt))
        rw [← rd_at ks k hlt] at HFt
        have hpz := putB_le 4 (rd ks (k : Int))
        obtain ⟨x, hx⟩ : ∃ q, q = rd ks (k : Int) := ⟨_, rfl⟩
        rw [← hx] at cc HSt HFt hpz
        obtain ⟨t, ht⟩ : ∃ q, q = keysS ks s0 k := ⟨_, rfl⟩
        rw [← ht] at HSt hs ⊢
        have hxb : 0 ≤ x ∧ x < 4294967296 := by have := of_decide_eq_true HFt.out; have h4 := this.2.2.2; rw [Int.toNat_natCast] at h4; exact ⟨this.2.2.1, by simpa using h4⟩
        have HPx : Hid (∀ W : World, Calls Tryd.prog 25 #[.int .i64 4, .int .i64 x] W fun e w' => e = .returned (.string (putB 4 x)) ∧ Below W.heap.size W w') := Lib.hid (fun W => rput_4 x W (by omega) HFt.out)
        obtain ⟨p, hp⟩ : ∃ q, q = putB 4 x := ⟨_, rfl⟩
        rw [← hp] at HPx hpz HSt
        clear hp
        have hadd := add_run (a := t) (b := p) (by omega)
        clear hx ht hc
        go_wp2_with fail
        refine (HPx.out _).mono ?_
        rintro e wn ⟨rfl, hb⟩
        have HBr2 := Lib.hid (HBr.out.trans (hb.mono HBr.out.size))
        clear hb
        go_wp2_with fail
        go_roundw
        case rel => exact ⟨k + 1, by omega, by go_num, by rw [HSt.out], HBr2⟩
        case measure => simp [intOf]; omega
      · have hltb : ¬ (k : Int) < (ks.length : Int) := by omega
        obtain rfl : k = ks.length := by omega
        have hz_s1 := keysS_le ks s0 ks.length
        obtain ⟨s1, hs1⟩ : ∃ q, q = keysS ks s0 ks.length := ⟨_, rfl⟩
        rw [← hs1] at HLy hz_s1 ⊢
        have HBo_s1 := HBr
        clear hs1 hlt hk HBr
        obtain ⟨x0, x1, x2⟩ := box_cells HBo_s1.out
        go_wp2_with fail
        go_loopw [4, 6] (fun s i wr => ∃ k : Nat, k ≤ vs.length ∧ i = .int .i64 k ∧ s = .string (valsS vs s1 k) ∧ Hid (Below (w.alloc (.cells #[.slice A0 ks.length c0, .slice A1 vs.length c1, .slice A2 kd.length c2] 25)).heap.size (w.alloc (.cells #[.slice A0 ks.length c0, .slice A1 vs.length c1, .slice A2 kd.length c2] 25)) wr)) (fun _ i _ => vs.length - (intOf i).toNat)
        case atStart => exact ⟨0, Nat.zero_le _, rfl, rfl, HBo_s1⟩
        case round =>
          obtain ⟨k, hk, rfl, rfl, HBr⟩ := hrel
          obtain ⟨x0, x1, x2⟩ := box_cells HBr.out
          by_cases hlt : k < vs.length
          · have hltz : (k : Int) < (vs.length : Int) := by omega
            obtain ⟨b, o, rfl, hc⟩ := (HN.out.below (HB0.out.trans (HBr.out.mono (by simp)))).v.at (by omega)
            have cc := hc k hlt
            have hs := valsS_le vs s1 HF.out.v k (by omega)
            have hvz := of_decide_eq_true (allN_all.1 HF.out.v k hlt)
            have HSt : Hid (valsS vs s1 (k + 1) = valsS vs s1 k ++ rdOf ByteArray.empty vs (k : Int)) := Lib.hid rfl
            obtain ⟨x, hx⟩ : ∃ q, q = rdOf ByteArray.empty vs (k : Int) := ⟨_, rfl⟩
            rw [← hx] at cc HSt hvz
            obtain ⟨t, ht⟩ : ∃ q, q = valsS vs s1 k := ⟨_, rfl⟩
            rw [← ht] at HSt hs ⊢
            have hadd := add_run (a := t) (b := x) (by omega)
            clear hx ht hc
            go_wp2_with fail
            have HBr2 := HBr
            go_roundw
            case rel => exact ⟨k + 1, by omega, by go_num, by rw [HSt.out], HBr2⟩
            case measure => simp [intOf]; omega
          · have hltb : ¬ (k : Int) < (vs.length : Int) := by omega
            obtain rfl : k = vs.length := by omega
            have hz_s2 := valsS_le vs s1 HF.out.v vs.length (Nat.le_refl _)
            obtain ⟨s2, hs2⟩ : ∃ q, q = valsS vs s1 vs.length := ⟨_, rfl⟩
            rw [← hs2] at HLy hz_s2 ⊢
            have HBo_s2 := HBr
            clear hs2 hlt hk HBr
            obtain ⟨x0, x1, x2⟩ := box_cells HBo_s2.out
            go_wp2_with fail
            go_loopw [4, 7] (fun s i wr => ∃ k : Nat, k ≤ kd.length ∧ i = .int .i64 k ∧ s = .string (kidsS kd s2 k) ∧ Hid (Below (w.alloc (.cells #[.slice A0 ks.length c0, .slice A1 vs.length c1, .slice A2 kd.length c2] 25)).heap.size (w.alloc (.cells #[.slice A0 ks.length c0, .slice A1 vs.length c1, .slice A2 kd.length c2] 25)) wr)) (fun _ i _ => kd.length - (intOf i).toNat)
            case atStart => exact ⟨0, Nat.zero_le _, rfl, rfl, HBo_s2⟩
            case round =>
              obtain ⟨k, hk, rfl, rfl, HBr⟩ := hrel
              obtain ⟨x0, x1, x2⟩ := box_cells HBr.out
              by_cases hlt : k < kd.length
              · have hltz : (k : Int) < (kd.length : Int) := by omega
                obtain ⟨b, o, rfl, hc⟩ := (HN.out.below (HB0.out.trans (HBr.out.mono (by simp)))).d.at (by omega)
                have cc := hc k hlt
                have hs := kidsS_le kd s2 k
                have HSt : Hid (kidsS kd s2 (k + 1) = kidsS kd s2 k ++ putB 1 (rd kd (k : Int))) := Lib.hid rfl
                have HFt := Lib.hid (HG.out.d _ (List.getElem_mem hlt))
                rw [← rd_at kd k hlt] at HFt
                have hpz := putB_le 1 (rd kd (k : Int))
                obtain ⟨x, hx⟩ : ∃ q, q = rd kd (k : Int) := ⟨_, rfl⟩
                rw [← hx] at cc HSt HFt hpz
                obtain ⟨t, ht⟩ : ∃ q, q = kidsS kd s2 k := ⟨_, rfl⟩
                rw [← ht] at HSt hs ⊢
                have hxb : 0 ≤ x ∧ x < 256 := by have := of_decide_eq_true HFt.out; have h4 := this.2.2.2; rw [Int.toNat_natCast] at h4; exact ⟨this.2.2.1, by simpa using h4⟩
                obtain ⟨hx0, hx1⟩ := hxb
                have hx2 : x ≤ 255 := by omega
                have hcv := run_convert_bytes_arg (P := Tryd.prog) (w := wr.alloc (.cells #[.int .u8 x] 5)) 51 5 Tryd.underlying51 Tryd.underlying5 wr.heap.size 0 1 1 [x] rfl (fun i hi => by rw [World.cell?_alloc_at _ _ _ _ rfl]; match i, hi with | 0, _ => rfl) 9 Tryd.underlying9
                rw [← put_one x HFt.out] at hcv
                obtain ⟨p, hp⟩ : ∃ q, q = putB 1 x := ⟨_, rfl⟩
                rw [← hp] at hcv hpz HSt
                clear hp
                have hadd := add_run (a := t) (b := p) (by omega)
                clear hx ht hc
                go_wp2_with fail
                have HBr2 := Lib.hid (HBr.out.alloc HBr.out.size (.cells #[.int .u8 x] 5))
                go_roundw
                case rel => exact ⟨k + 1, by omega, by go_num, by rw [HSt.out], HBr2⟩
                case measure => simp [intOf]; omega
              · have hltb : ¬ (k : Int) < (kd.length : Int) := by omega
                obtain rfl : k = kd.length := by omega
                have hz_s3 := kidsS_le kd s2 kd.length
                obtain ⟨s3, hs3⟩ : ∃ q, q = kidsS kd s2 kd.length := ⟨_, rfl⟩
                rw [← hs3] at HLy hz_s3 ⊢
                have HBo_s3 := HBr
                clear hs3 hlt hk HBr
                go_wp2_with fail
                go_ret
                exact ⟨by rw [HLy.out]; rfl, HB0.out.trans (HBo_s3.out.mono (by simp))⟩
end Go.Proofs.YtbiijkpffllimaaDoor
namespace Go.Proofs.YtbiijkpffllimaaDoor
open Go.RowKit Go.Extern.Stop Go.Stop Go.Extern Go.Proofs.YtbiijkpffllimaaDoorW.PrintWords Go.Proofs.YtbiijkpffllimaaDoorW.PrintLast Go.Proofs.YtbiijkpffllimaaDoorW.PrintMore
set_option linter.unusedVariables false
set_option linter.unusedSimpArgs false

def RRPost (ky : List Int) (vy : List ByteArray) (dy : List Int) (ok : Bool) (w : World) (e : Ending) (w' : World) : Prop := ∃ A0 c0 A1 c1 A2 c2, e = .returned (.tuple #[.agg #[.slice A0 ky.length c0, .slice A1 vy.length c1, .slice A2 dy.length c2], .bool ok]) ∧ (Ints w' A0 ky c0 ∧ Strs w' A1 vy c1 ∧ Ints w' A2 dy c2) ∧ Below w.heap.size w w'
theorem rread_any (d : ByteArray) (ky : List Int) (vy : List ByteArray) (dy : List Int) (ok : Bool) (w : World) (hz : d.size ≤ 1000) (h : RD.readR d = (ky, vy, dy, ok)) : Calls Tryd.prog 32 #[.string d] w (RRPost ky vy dy ok w) := by
  obtain ⟨k, hk⟩ := RD.rread_ev d hz
  rw [h] at hk
  refine (PRead.dynamoref09_Read.calls k d ky vy dy ok w hk).mono ?_
  rintro e w' ⟨v0, v1, v2, rfl, q0, q1, q2, hb⟩
  obtain ⟨A0, c0, rfl, l0, r0⟩ := Kd.R_reads q0
  obtain ⟨A1, c1, rfl, l1, r1⟩ := Kd.R_reads q1
  obtain ⟨A2, c2, rfl, l2, r2⟩ := Kd.R_reads q2
  exact ⟨A0, c0, A1, c1, A2, c2, rfl, ⟨⟨r0, l0⟩, ⟨r1, l1⟩, ⟨r2, l2⟩⟩, hb⟩
theorem read_either (d : ByteArray) (hz : d.size ≤ 1000) :
    (∃ ks vs kd, RD.readR d = (ks, vs, kd, true) ∧ ks.length ≤ 1000 ∧ vs.length ≤ 1000 ∧ kd.length ≤ 1000 ∧ ∀ W : World, Calls Tryd.prog 29 #[.string d] W (ReadOk ks vs kd W)) ∨
    (RD.readR d = ([], [], [], false) ∧ ∀ W : World, Calls Tryd.prog 29 #[.string d] W (ReadBad W)) := by
  have hl := parts_len d
  have hk7 := hl.k
  have hv7 := hl.v
  have hd8 := hl.d
  obtain ⟨ks, vs, kd, ok, hP⟩ : ∃ ks vs kd ok, partsR d = ⟨ks, vs, kd, ok⟩ := ⟨_, _, _, _, rfl⟩
  rw [hP] at hk7 hv7 hd8
  simp only at hk7 hv7 hd8
  cases ok with
  | false =>
    refine .inr ⟨?_, fun W => read_bad_a d ks vs kd false W (by omega) hP rfl⟩
    unfold RD.readR
    rw [hP, if_neg Bool.false_ne_true]
  | true =>
    cases hn : nodeB ks vs kd with
    | true =>
      refine .inl ⟨ks, vs, kd, ?_, by omega, by omega, by omega, fun W => read_ok d ks vs kd true W (by omega) hP rfl hn⟩
      unfold RD.readR RD.rightOr
      rw [hP, if_pos rfl]
      show (if nodeB ks vs kd = true then (ks, vs, kd, true) else ([], [], [], false)) = _
      rw [if_pos hn]
    | false =>
      refine .inr ⟨?_, fun W => read_bad_b d ks vs kd true W (by omega) hP rfl hn⟩
      unfold RD.readR RD.rightOr
      rw [hP, if_pos rfl]
      show (if nodeB ks vs kd = true then (ks, vs, kd, true) else ([], [], [], false)) = _
      rw [if_neg (by rw [hn]; exact Bool.false_ne_true)]
theorem same_zero (B0 : Option Addr) (d0 : Nat) (B1 : Option Addr) (d1 : Nat) (B2 : Option Addr) (d2 : Nat) (w : World) :
    Calls Tryd.prog 19 #[.agg #[.slice none 0 0, .slice none 0 0, .slice none 0 0], .agg #[.slice B0 0 d0, .slice B1 0 d1, .slice B2 0 d2]] w fun e w' => e = .returned (.int .i64 1) ∧ Below w.heap.size w w' :=
  same_any none [] 0 none [] 0 none [] 0 w B0 [] d0 B1 [] d1 B2 [] d2 ⟨ints_nil _ _ _, strs_nil _ _ _, ints_nil _ _ _, by simp⟩ ⟨ints_nil _ _ _, strs_nil _ _ _, ints_nil _ _ _, by simp⟩ (by simp) (by simp) (by simp)
set_option maxHeartbeats 2000000 in
set_option maxRecDepth 100000 in
theorem plays_a (A0 : Option Addr) (ks : List Int) (c0 : Nat) (A1 : Option Addr) (vs : List ByteArray) (c1 : Nat) (A2 : Option Addr) (kd : List Int) (c2 : Nat) (data : ByteArray) (w : World) (ha : NodeIn w A0 ks c0 A1 vs c1 A2 kd c2) (tied : Tied w) (fa : fewB ks vs kd = false) :
    Calls Tryd.prog 10 #[.agg #[.slice A0 ks.length c0, .slice A1 vs.length c1, .slice A2 kd.length c2], .string data] w fun e w' => e = .returned (.bool true) ∧ Below w.heap.size w w' := by
  have HN := Lib.hid fa
  clear fa
  have Ha := Lib.hid ha
  have HT := Lib.hid tied
  have HB0 : Hid (Below w.heap.size w (w.alloc (.cells #[.slice A0 ks.length c0, .slice A1 vs.length c1, .slice A2 kd.length c2] 25))) := Lib.hid ((Below.refl _ _).alloc (Nat.le_refl _) _)
  clear ha tied
  go_enter Tryd.func10, Tryd.ntmps10
  go_wp2_with fail
  refine (node_awake _).mono ?_
  rintro e w1 ⟨rfl, hb⟩
  have HB1 := Lib.hid (hb)
  obtain ⟨x0, x1, x2⟩ := box_cells HB1.out
  clear hb
  go_wp2_with fail
  refine (few_no A0 ks c0 A1 vs c1 A2 kd c2 _ (Ha.out.below (HB0.out.trans (HB1.out.mono (by simp)))) HN.out).mono ?_
  rintro e w2 ⟨rfl, hb⟩
  have HB2 := Lib.hid (HB1.out.trans (hb.mono HB1.out.size))
  obtain ⟨x0, x1, x2⟩ := box_cells HB2.out
  clear hb
  go_wp2_with fail
  refine (node_awake _).mono ?_
  rintro e w3 ⟨rfl, hb⟩
  have HB3 := Lib.hid (HB2.out.trans (hb.mono HB2.out.size))
  obtain ⟨x0, x1, x2⟩ := box_cells HB3.out
  clear hb
  go_wp2_with fail
  go_ret
  exact ⟨rfl, (HB0.out.trans (HB3.out.mono (by simp)))⟩
set_option maxHeartbeats 2000000 in
set_option maxRecDepth 100000 in
theorem plays_b (A0 : Option Addr) (ks : List Int) (c0 : Nat) (A1 : Option Addr) (vs : List ByteArray) (c1 : Nat) (A2 : Option Addr) (kd : List Int) (c2 : Nat) (data : ByteArray) (w : World) (ha : NodeIn w A0 ks c0 A1 vs c1 A2 kd c2) (tied : Tied w) (fa : fewB ks vs kd = true) (hd : ¬ data.size ≤ 300) :
    Calls Tryd.prog 10 #[.agg #[.slice A0 ks.length c0, .slice A1 vs.length c1, .slice A2 kd.length c2], .string data] w fun e w' => e = .returned (.bool true) ∧ Below w.heap.size w w' := by
  have HF := Lib.hid fa
  have hz : (300 : Int) < (data.size : Int) := by omega
  have hz1 : decide ((300 : Int) < (data.size : Int)) = true := decide_eq_true hz
  clear fa hd
  have Ha := Lib.hid ha
  have HT := Lib.hid tied
  have HB0 : Hid (Below w.heap.size w (w.alloc (.cells #[.slice A0 ks.length c0, .slice A1 vs.length c1, .slice A2 kd.length c2] 25))) := Lib.hid ((Below.refl _ _).alloc (Nat.le_refl _) _)
  clear ha tied
  go_enter Tryd.func10, Tryd.ntmps10
  go_wp2_with fail
  refine (node_awake _).mono ?_
  rintro e w1 ⟨rfl, hb⟩
  have HB1 := Lib.hid (hb)
  obtain ⟨x0, x1, x2⟩ := box_cells HB1.out
  clear hb
  go_wp2_with fail
  refine (few_yes A0 ks c0 A1 vs c1 A2 kd c2 _ (Ha.out.below (HB0.out.trans (HB1.out.mono (by simp)))) HF.out).mono ?_
  rintro e w2 ⟨rfl, hb⟩
  have HB2 := Lib.hid (HB1.out.trans (hb.mono HB1.out.size))
  obtain ⟨x0, x1, x2⟩ := box_cells HB2.out
  clear hb
  go_wp2_with fail
  refine (node_awake _).mono ?_
  rintro e w3 ⟨rfl, hb⟩
  have HB3 := Lib.hid (HB2.out.trans (hb.mono HB2.out.size))
  obtain ⟨x0, x1, x2⟩ := box_cells HB3.out
  clear hb
  go_wp2_with fail
  go_ret
  exact ⟨rfl, (HB0.out.trans (HB3.out.mono (by simp)))⟩
set_option maxHeartbeats 2000000 in
set_option maxRecDepth 100000 in
theorem plays_true_ok (A0 : Option Addr) (ks : List Int) (c0 : Nat) (A1 : Option Addr) (vs : List ByteArray) (c1 : Nat) (A2 : Option Addr) (kd : List Int) (c2 : Nat) (data : ByteArray) (w : World) (ha : NodeIn w A0 ks c0 A1 vs c1 A2 kd c2) (tied : Tied w) (xk : List Int) (xv : List ByteArray) (xd : List Int) (HRO : Hid (∀ W : World, Calls Tryd.prog 29 #[.string data] W (ReadOk xk xv xd W))) (HRR : Hid (∀ W : World, Calls Tryd.prog 32 #[.string data] W (RRPost xk xv xd true W))) (hl0 : xk.length ≤ 1000) (hl1 : xv.length ≤ 1000) (hl2 : xd.length ≤ 1000) (fa : fewB ks vs kd = true) (hd : data.size ≤ 300) (ra : nodeB ks vs kd = true) :
    Calls Tryd.prog 10 #[.agg #[.slice A0 ks.length c0, .slice A1 vs.length c1, .slice A2 kd.length c2], .string data] w fun e w' => e = .returned (.bool true) ∧ Below w.heap.size w w' := by
  have HF := Lib.hid fa
  have HR := Lib.hid ra
  have f1 := fewB_iff.1 fa
  have HL := Lib.hid (show ks.length ≤ 1000 ∧ vs.length ≤ 1000 ∧ kd.length ≤ 1000 by omega)
  have hz : ¬ (300 : Int) < (data.size : Int) := by omega
  have hz1 : decide ((300 : Int) < (data.size : Int)) = false := decide_eq_false hz
  clear fa hd ra f1
  obtain ⟨s, hs⟩ : ∃ q, q = layS ks vs kd := ⟨_, rfl⟩
  have HSe := Lib.hid hs
  clear hs
  have Ha := Lib.hid ha
  have HT := Lib.hid tied
  have HB0 : Hid (Below w.heap.size w (w.alloc (.cells #[.slice A0 ks.length c0, .slice A1 vs.length c1, .slice A2 kd.length c2] 25))) := Lib.hid ((Below.refl _ _).alloc (Nat.le_refl _) _)
  clear ha tied
  go_enter Tryd.func10, Tryd.ntmps10
  go_wp2_with fail
  refine (node_awake _).mono ?_
  rintro e w1 ⟨rfl, hb⟩
  have HB1 := Lib.hid (hb)
  obtain ⟨x0, x1, x2⟩ := box_cells HB1.out
  clear hb
  go_wp2_with fail
  refine (few_yes A0 ks c0 A1 vs c1 A2 kd c2 _ (Ha.out.below (HB0.out.trans (HB1.out.mono (by simp)))) HF.out).mono ?_
  rintro e w2 ⟨rfl, hb⟩
  have HB2 := Lib.hid (HB1.out.trans (hb.mono HB1.out.size))
  obtain ⟨x0, x1, x2⟩ := box_cells HB2.out
  clear hb
  go_wp2_with fail
  refine (of_call A0 ks c0 A1 vs c1 A2 kd c2 _).mono ?_
  rintro e w3 ⟨rfl, hb⟩
  have HB3 := Lib.hid (HB2.out.trans (hb.mono HB2.out.size))
  obtain ⟨x0, x1, x2⟩ := box_cells HB3.out
  clear hb
  go_wp2_with fail
  refine (layok_in A0 ks c0 A1 vs c1 A2 kd c2 _ (Ha.out.below (HB0.out.trans (HB3.out.mono (by simp)))) HF.out HR.out).mono ?_
  rintro e w4 ⟨rfl, hb⟩
  have HB4 := Lib.hid (HB3.out.trans (hb.mono HB3.out.size))
  obtain ⟨x0, x1, x2⟩ := box_cells HB4.out
  clear hb
  rw [← HSe.out]
  go_wp2_with fail
  refine (rright_is A0 ks c0 A1 vs c1 A2 kd c2 _ (Ha.out.below (HB0.out.trans (HB4.out.mono (by simp)))) HF.out true HR.out).mono ?_
  rintro e w5 ⟨rfl, hb⟩
  have HB5 := Lib.hid (HB4.out.trans (hb.mono HB4.out.size))
  obtain ⟨x0, x1, x2⟩ := box_cells HB5.out
  clear hb
  go_wp2_with fail
  refine (of_call A0 ks c0 A1 vs c1 A2 kd c2 _).mono ?_
  rintro e w6 ⟨rfl, hb⟩
  have HB6 := Lib.hid (HB5.out.trans (hb.mono HB5.out.size))
  obtain ⟨x0, x1, x2⟩ := box_cells HB6.out
  clear hb
  go_wp2_with fail
  refine (right_in A0 ks c0 A1 vs c1 A2 kd c2 _ (Ha.out.below (HB0.out.trans (HB6.out.mono (by simp)))) HF.out true HR.out).mono ?_
  rintro e w7 ⟨rfl, hb⟩
  have HB7 := Lib.hid (HB6.out.trans (hb.mono HB6.out.size))
  obtain ⟨x0, x1, x2⟩ := box_cells HB7.out
  clear hb
  go_wp2_with fail
  refine (Num_nil _).mono ?_
  rintro e _ ⟨rfl, rfl⟩
  go_wp2_with fail
  refine (rlay_ok A0 ks c0 A1 vs c1 A2 kd c2 _ (Ha.out.below (HB0.out.trans (HB7.out.mono (by simp)))) HR.out).mono ?_
  rintro e w8 ⟨rfl, hb⟩
  have HB8 := Lib.hid (HB7.out.trans (hb.mono HB7.out.size))
  obtain ⟨x0, x1, x2⟩ := box_cells HB8.out
  clear hb
  rw [← HSe.out]
  go_wp2_with fail
  refine (HRO.out _).mono ?_
  rintro e wa ⟨X0, e0, X1, e1, X2, e2, rfl, hx, hb⟩
  have HX := Lib.hid hx
  have HBa := Lib.hid (HB8.out.trans (hb.mono HB8.out.size))
  clear hb
  have HBy : Hid (Below wa.heap.size wa (wa.alloc (.cells #[.slice X0 xk.length e0, .slice X1 xv.length e1, .slice X2 xd.length e2] 33))) := Lib.hid ((Below.refl _ _).alloc (Nat.le_refl _) _)
  go_wp2_with fail
  refine (HRR.out _).mono ?_
  rintro e wb ⟨Y0, g0, Y1, g1, Y2, g2, rfl, hy, hb⟩
  have HY := Lib.hid hy
  have HBb := Lib.hid hb
  obtain ⟨y0, y1, y2⟩ := box_cells hb
  have hsb : wa.heap.size < wb.heap.size := by have := hb.size; simp at this; omega
  clear hy hb
  have HBz : Hid (Below wb.heap.size wb (wb.alloc (.cells #[.slice Y0 xk.length g0, .slice Y1 xv.length g1, .slice Y2 xd.length g2] 25))) := Lib.hid ((Below.refl _ _).alloc (Nat.le_refl _) _)
  have HXz := Lib.hid ((HX.out.below (HBy.out.trans (HBb.out.mono (by simp)))).below HBz.out)
  have HYz : Hid (NodeIn (wb.alloc (.cells #[.slice Y0 xk.length g0, .slice Y1 xv.length g1, .slice Y2 xd.length g2] 25)) Y0 xk g0 Y1 xv g1 Y2 xd g2) := Lib.hid ⟨HY.out.1.below HBz.out, HY.out.2.1.below HBz.out, HY.out.2.2.below HBz.out, HXz.out.wk⟩
  have HSm := Lib.hid (same_any X0 xk e0 X1 xv e1 X2 xd e2 _ Y0 xk g0 Y1 xv g1 Y2 xd g2 HXz.out HYz.out hl0 hl1 hl2)
  rw [show sameB xk xv xd xk xv xd = true from sameB_iff.2 ⟨rfl, rfl, rfl⟩, show oneIf true = 1 from rfl] at HSm
  go_wp2_with fail
  refine HSm.out.mono ?_
  rintro e wc ⟨rfl, hb⟩
  have HBc := Lib.hid hb
  clear hb
  go_wp2_with fail
  refine (Num_nil _).mono ?_
  rintro e _ ⟨rfl, rfl⟩
  go_wp2_with fail
  go_ret
  exact ⟨rfl, (HB0.out.trans (HBa.out.mono (by simp))).trans (((HBy.out.trans (HBb.out.mono (by simp))).trans ((HBz.out.trans (HBc.out.mono (by simp))).mono (by omega))).mono (by have := HB0.out.size; have := HBa.out.size; simp at *; omega))⟩
set_option maxHeartbeats 2000000 in
set_option maxRecDepth 100000 in
theorem plays_true_bad (A0 : Option Addr) (ks : List Int) (c0 : Nat) (A1 : Option Addr) (vs : List ByteArray) (c1 : Nat) (A2 : Option Addr) (kd : List Int) (c2 : Nat) (data : ByteArray) (w : World) (ha : NodeIn w A0 ks c0 A1 vs c1 A2 kd c2) (tied : Tied w) (HRO : Hid (∀ W : World, Calls Tryd.prog 29 #[.string data] W (ReadBad W))) (HRR : Hid (∀ W : World, Calls Tryd.prog 32 #[.string data] W (RRPost [] [] [] false W))) (fa : fewB ks vs kd = true) (hd : data.size ≤ 300) (ra : nodeB ks vs kd = true) :
    Calls Tryd.prog 10 #[.agg #[.slice A0 ks.length c0, .slice A1 vs.length c1, .slice A2 kd.length c2], .string data] w fun e w' => e = .returned (.bool true) ∧ Below w.heap.size w w' := by
  have HF := Lib.hid fa
  have HR := Lib.hid ra
  have f1 := fewB_iff.1 fa
  have HL := Lib.hid (show ks.length ≤ 1000 ∧ vs.length ≤ 1000 ∧ kd.length ≤ 1000 by omega)
  have hz : ¬ (300 : Int) < (data.size : Int) := by omega
  have hz1 : decide ((300 : Int) < (data.size : Int)) = false := decide_eq_false hz
  clear fa hd ra f1
  obtain ⟨s, hs⟩ : ∃ q, q = layS ks vs kd := ⟨_, rfl⟩
  have HSe := Lib.hid hs
  clear hs
  have Ha := Lib.hid ha
  have HT := Lib.hid tied
  have HB0 : Hid (Below w.heap.size w (w.alloc (.cells #[.slice A0 ks.length c0, .slice A1 vs.length c1, .slice A2 kd.length c2] 25))) := Lib.hid ((Below.refl _ _).alloc (Nat.le_refl _) _)
  clear ha tied
  go_enter Tryd.func10, Tryd.ntmps10
  go_wp2_with fail
  refine (node_awake _).mono ?_
  rintro e w1 ⟨rfl, hb⟩
  have HB1 := Lib.hid (hb)
  obtain ⟨x0, x1, x2⟩ := box_cells HB1.out
  clear hb
  go_wp2_with fail
  refine (few_yes A0 ks c0 A1 vs c1 A2 kd c2 _ (Ha.out.below (HB0.out.trans (HB1.out.mono (by simp)))) HF.out).mono ?_
  rintro e w2 ⟨rfl, hb⟩
  have HB2 := Lib.hid (HB1.out.trans (hb.mono HB1.out.size))
  obtain ⟨x0, x1, x2⟩ := box_cells HB2.out
  clear hb
  go_wp2_with fail
  refine (of_call A0 ks c0 A1 vs c1 A2 kd c2 _).mono ?_
  rintro e w3 ⟨rfl, hb⟩
  have HB3 := Lib.hid (HB2.out.trans (hb.mono HB2.out.size))
  obtain ⟨x0, x1, x2⟩ := box_cells HB3.out
  clear hb
  go_wp2_with fail
  refine (layok_in A0 ks c0 A1 vs c1 A2 kd c2 _ (Ha.out.below (HB0.out.trans (HB3.out.mono (by simp)))) HF.out HR.out).mono ?_
  rintro e w4 ⟨rfl, hb⟩
  have HB4 := Lib.hid (HB3.out.trans (hb.mono HB3.out.size))
  obtain ⟨x0, x1, x2⟩ := box_cells HB4.out
  clear hb
  rw [← HSe.out]
  go_wp2_with fail
  refine (rright_is A0 ks c0 A1 vs c1 A2 kd c2 _ (Ha.out.below (HB0.out.trans (HB4.out.mono (by simp)))) HF.out true HR.out).mono ?_
  rintro e w5 ⟨rfl, hb⟩
  have HB5 := Lib.hid (HB4.out.trans (hb.mono HB4.out.size))
  obtain ⟨x0, x1, x2⟩ := box_cells HB5.out
  clear hb
  go_wp2_with fail
  refine (of_call A0 ks c0 A1 vs c1 A2 kd c2 _).mono ?_
  rintro e w6 ⟨rfl, hb⟩
  have HB6 := Lib.hid (HB5.out.trans (hb.mono HB5.out.size))
  obtain ⟨x0, x1, x2⟩ := box_cells HB6.out
  clear hb
  go_wp2_with fail
  refine (right_in A0 ks c0 A1 vs c1 A2 kd c2 _ (Ha.out.below (HB0.out.trans (HB6.out.mono (by simp)))) HF.out true HR.out).mono ?_
  rintro e w7 ⟨rfl, hb⟩
  have HB7 := Lib.hid (HB6.out.trans (hb.mono HB6.out.size))
  obtain ⟨x0, x1, x2⟩ := box_cells HB7.out
  clear hb
  go_wp2_with fail
  refine (Num_nil _).mono ?_
  rintro e _ ⟨rfl, rfl⟩
  go_wp2_with fail
  refine (rlay_ok A0 ks c0 A1 vs c1 A2 kd c2 _ (Ha.out.below (HB0.out.trans (HB7.out.mono (by simp)))) HR.out).mono ?_
  rintro e w8 ⟨rfl, hb⟩
  have HB8 := Lib.hid (HB7.out.trans (hb.mono HB7.out.size))
  obtain ⟨x0, x1, x2⟩ := box_cells HB8.out
  clear hb
  rw [← HSe.out]
  go_wp2_with fail
  refine (HRO.out _).mono ?_
  rintro e wa ⟨v2, rfl, he, hb⟩
  have HE2 := Lib.hid he
  obtain ⟨t2, z2, rfl⟩ := he.iface (by decide)
  clear he
  have HBa := Lib.hid (HB8.out.trans (hb.mono HB8.out.size))
  clear hb
  have HBy : Hid (Below wa.heap.size wa (wa.alloc (.cells #[.slice none 0 0, .slice none 0 0, .slice none 0 0] 33))) := Lib.hid ((Below.refl _ _).alloc (Nat.le_refl _) _)
  go_wp2_with fail
  refine (HRR.out _).mono ?_
  rintro e wb ⟨Y0, g0, Y1, g1, Y2, g2, rfl, hy, hb⟩
  have HY := Lib.hid hy
  have HBb := Lib.hid hb
  obtain ⟨y0, y1, y2⟩ := box_cells hb
  have hsb : wa.heap.size < wb.heap.size := by have := hb.size; simp at this; omega
  clear hy hb
  have HBz : Hid (Below wb.heap.size wb (wb.alloc (.cells #[.slice Y0 0 g0, .slice Y1 0 g1, .slice Y2 0 g2] 25))) := Lib.hid ((Below.refl _ _).alloc (Nat.le_refl _) _)
  go_wp2_with fail
  refine (same_zero _ _ _ _ _ _ _).mono ?_
  rintro e wc ⟨rfl, hb⟩
  have HBc : Hid (Below wb.heap.size wb wc) := Lib.hid (HBz.out.trans (hb.mono (by simp)))
  have HEc := Lib.hid ((HE2.out.under (HBy.out.trans (HBb.out.mono (by simp)))).under HBc.out)
  have HTc := Lib.hid (HT.out.under HT.out.lt ((HB0.out.trans (HBa.out.mono (by simp))).trans (((HBy.out.trans (HBb.out.mono (by simp))).trans (HBc.out.mono (by omega))).mono (by have := HB0.out.size; have := HBa.out.size; simp at *; omega))))
  clear hb
  go_wp2_with fail
  refine (Num_c (B := w8.heap.size) _ _ 2 HEc.out HTc.out).mono ?_
  rintro e wd ⟨rfl, hb⟩
  have HBd := Lib.hid hb
  have HEd := Lib.hid (HEc.out.under hb)
  clear hb
  go_wp2_with fail
  refine (Num_c (B := w8.heap.size) _ _ 2 HEd.out (HTc.out.under HTc.out.lt HBd.out)).mono ?_
  rintro e we ⟨rfl, hb⟩
  have HBe := Lib.hid (HBd.out.trans (hb.mono HBd.out.size))
  clear hb
  go_wp2_with fail
  go_ret
  have h1 := (HBc.out.trans (HBe.out.mono HBc.out.size))
  exact ⟨rfl, (HB0.out.trans (HBa.out.mono (by simp))).trans (((HBy.out.trans (HBb.out.mono (by simp))).trans (h1.mono (by omega))).mono (by have := HB0.out.size; have := HBa.out.size; simp at *; omega))⟩
set_option maxHeartbeats 2000000 in
set_option maxRecDepth 100000 in
theorem plays_false_ok (A0 : Option Addr) (ks : List Int) (c0 : Nat) (A1 : Option Addr) (vs : List ByteArray) (c1 : Nat) (A2 : Option Addr) (kd : List Int) (c2 : Nat) (data : ByteArray) (w : World) (ha : NodeIn w A0 ks c0 A1 vs c1 A2 kd c2) (tied : Tied w) (xk : List Int) (xv : List ByteArray) (xd : List Int) (HRO : Hid (∀ W : World, Calls Tryd.prog 29 #[.string data] W (ReadOk xk xv xd W))) (HRR : Hid (∀ W : World, Calls Tryd.prog 32 #[.string data] W (RRPost xk xv xd true W))) (hl0 : xk.length ≤ 1000) (hl1 : xv.length ≤ 1000) (hl2 : xd.length ≤ 1000) (fa : fewB ks vs kd = true) (hd : data.size ≤ 300) (ra : nodeB ks vs kd = false) :
    Calls Tryd.prog 10 #[.agg #[.slice A0 ks.length c0, .slice A1 vs.length c1, .slice A2 kd.length c2], .string data] w fun e w' => e = .returned (.bool true) ∧ Below w.heap.size w w' := by
  have HF := Lib.hid fa
  have HR := Lib.hid ra
  have f1 := fewB_iff.1 fa
  have HL := Lib.hid (show ks.length ≤ 1000 ∧ vs.length ≤ 1000 ∧ kd.length ≤ 1000 by omega)
  have hz : ¬ (300 : Int) < (data.size : Int) := by omega
  have hz1 : decide ((300 : Int) < (data.size : Int)) = false := decide_eq_false hz
  clear fa hd ra f1
  have Ha := Lib.hid ha
  have HT := Lib.hid tied
  have HB0 : Hid (Below w.heap.size w (w.alloc (.cells #[.slice A0 ks.length c0, .slice A1 vs.length c1, .slice A2 kd.length c2] 25))) := Lib.hid ((Below.refl _ _).alloc (Nat.le_refl _) _)
  clear ha tied
  go_enter Tryd.func10, Tryd.ntmps10
  go_wp2_with fail
  refine (node_awake _).mono ?_
  rintro e w1 ⟨rfl, hb⟩
  have HB1 := Lib.hid (hb)
  obtain ⟨x0, x1, x2⟩ := box_cells HB1.out
  clear hb
  go_wp2_with fail
  refine (few_yes A0 ks c0 A1 vs c1 A2 kd c2 _ (Ha.out.below (HB0.out.trans (HB1.out.mono (by simp)))) HF.out).mono ?_
  rintro e w2 ⟨rfl, hb⟩
  have HB2 := Lib.hid (HB1.out.trans (hb.mono HB1.out.size))
  obtain ⟨x0, x1, x2⟩ := box_cells HB2.out
  clear hb
  go_wp2_with fail
  refine (of_call A0 ks c0 A1 vs c1 A2 kd c2 _).mono ?_
  rintro e w3 ⟨rfl, hb⟩
  have HB3 := Lib.hid (HB2.out.trans (hb.mono HB2.out.size))
  obtain ⟨x0, x1, x2⟩ := box_cells HB3.out
  clear hb
  go_wp2_with fail
  refine (lay_bad A0 ks c0 A1 vs c1 A2 kd c2 _ (Ha.out.below (HB0.out.trans (HB3.out.mono (by simp)))).k (Ha.out.below (HB0.out.trans (HB3.out.mono (by simp)))).v (Ha.out.below (HB0.out.trans (HB3.out.mono (by simp)))).d HL.out.1 HL.out.2.1 HL.out.2.2 HR.out).mono ?_
  rintro e w4 ⟨v, rfl, he, hb⟩
  have HB4 := Lib.hid (HB3.out.trans (hb.mono HB3.out.size))
  obtain ⟨x0, x1, x2⟩ := box_cells HB4.out
  clear hb
  have HE := Lib.hid he
  obtain ⟨tt, xx, rfl⟩ := he.iface (by decide)
  clear he
  go_wp2_with fail
  refine (rright_is A0 ks c0 A1 vs c1 A2 kd c2 _ (Ha.out.below (HB0.out.trans (HB4.out.mono (by simp)))) HF.out false HR.out).mono ?_
  rintro e w5 ⟨rfl, hb⟩
  have HB5 := Lib.hid (HB4.out.trans (hb.mono HB4.out.size))
  obtain ⟨x0, x1, x2⟩ := box_cells HB5.out
  have HE := Lib.hid (HE.out.under hb)
  clear hb
  go_wp2_with fail
  refine (of_call A0 ks c0 A1 vs c1 A2 kd c2 _).mono ?_
  rintro e w6 ⟨rfl, hb⟩
  have HB6 := Lib.hid (HB5.out.trans (hb.mono HB5.out.size))
  obtain ⟨x0, x1, x2⟩ := box_cells HB6.out
  have HE := Lib.hid (HE.out.under hb)
  clear hb
  go_wp2_with fail
  refine (right_in A0 ks c0 A1 vs c1 A2 kd c2 _ (Ha.out.below (HB0.out.trans (HB6.out.mono (by simp)))) HF.out false HR.out).mono ?_
  rintro e w7 ⟨rfl, hb⟩
  have HB7 := Lib.hid (HB6.out.trans (hb.mono HB6.out.size))
  obtain ⟨x0, x1, x2⟩ := box_cells HB7.out
  have HE := Lib.hid (HE.out.under hb)
  clear hb
  go_wp2_with fail
  refine (Num_c (B := w3.heap.size) _ _ 1 HE.out (HT.out.under HT.out.lt (HB0.out.trans (HB7.out.mono (by simp))))).mono ?_
  rintro e w8 ⟨rfl, hb⟩
  have HB8 := Lib.hid (HB7.out.trans (hb.mono HB7.out.size))
  obtain ⟨x0, x1, x2⟩ := box_cells HB8.out
  clear hb
  go_wp2_with fail
  refine (HRO.out _).mono ?_
  rintro e wa ⟨X0, e0, X1, e1, X2, e2, rfl, hx, hb⟩
  have HX := Lib.hid hx
  have HBa := Lib.hid (HB8.out.trans (hb.mono HB8.out.size))
  clear hb
  have HBy : Hid (Below wa.heap.size wa (wa.alloc (.cells #[.slice X0 xk.length e0, .slice X1 xv.length e1, .slice X2 xd.length e2] 33))) := Lib.hid ((Below.refl _ _).alloc (Nat.le_refl _) _)
  go_wp2_with fail
  refine (HRR.out _).mono ?_
  rintro e wb ⟨Y0, g0, Y1, g1, Y2, g2, rfl, hy, hb⟩
  have HY := Lib.hid hy
  have HBb := Lib.hid hb
  obtain ⟨y0, y1, y2⟩ := box_cells hb
  have hsb : wa.heap.size < wb.heap.size := by have := hb.size; simp at this; omega
  clear hy hb
  have HBz : Hid (Below wb.heap.size wb (wb.alloc (.cells #[.slice Y0 xk.length g0, .slice Y1 xv.length g1, .slice Y2 xd.length g2] 25))) := Lib.hid ((Below.refl _ _).alloc (Nat.le_refl _) _)
  have HXz := Lib.hid ((HX.out.below (HBy.out.trans (HBb.out.mono (by simp)))).below HBz.out)
  have HYz : Hid (NodeIn (wb.alloc (.cells #[.slice Y0 xk.length g0, .slice Y1 xv.length g1, .slice Y2 xd.length g2] 25)) Y0 xk g0 Y1 xv g1 Y2 xd g2) := Lib.hid ⟨HY.out.1.below HBz.out, HY.out.2.1.below HBz.out, HY.out.2.2.below HBz.out, HXz.out.wk⟩
  have HSm := Lib.hid (same_any X0 xk e0 X1 xv e1 X2 xd e2 _ Y0 xk g0 Y1 xv g1 Y2 xd g2 HXz.out HYz.out hl0 hl1 hl2)
  rw [show sameB xk xv xd xk xv xd = true from sameB_iff.2 ⟨rfl, rfl, rfl⟩, show oneIf true = 1 from rfl] at HSm
  go_wp2_with fail
  refine HSm.out.mono ?_
  rintro e wc ⟨rfl, hb⟩
  have HBc := Lib.hid hb
  clear hb
  go_wp2_with fail
  refine (Num_nil _).mono ?_
  rintro e _ ⟨rfl, rfl⟩
  go_wp2_with fail
  go_ret
  exact ⟨rfl, (HB0.out.trans (HBa.out.mono (by simp))).trans (((HBy.out.trans (HBb.out.mono (by simp))).trans ((HBz.out.trans (HBc.out.mono (by simp))).mono (by omega))).mono (by have := HB0.out.size; have := HBa.out.size; simp at *; omega))⟩
set_option maxHeartbeats 2000000 in
set_option maxRecDepth 100000 in
theorem plays_false_bad (A0 : Option Addr) (ks : List Int) (c0 : Nat) (A1 : Option Addr) (vs : List ByteArray) (c1 : Nat) (A2 : Option Addr) (kd : List Int) (c2 : Nat) (data : ByteArray) (w : World) (ha : NodeIn w A0 ks c0 A1 vs c1 A2 kd c2) (tied : Tied w) (HRO : Hid (∀ W : World, Calls Tryd.prog 29 #[.string data] W (ReadBad W))) (HRR : Hid (∀ W : World, Calls Tryd.prog 32 #[.string data] W (RRPost [] [] [] false W))) (fa : fewB ks vs kd = true) (hd : data.size ≤ 300) (ra : nodeB ks vs kd = false) :
    Calls Tryd.prog 10 #[.agg #[.slice A0 ks.length c0, .slice A1 vs.length c1, .slice A2 kd.length c2], .string data] w fun e w' => e = .returned (.bool true) ∧ Below w.heap.size w w' := by
  have HF := Lib.hid fa
  have HR := Lib.hid ra
  have f1 := fewB_iff.1 fa
  have HL := Lib.hid (show ks.length ≤ 1000 ∧ vs.length ≤ 1000 ∧ kd.length ≤ 1000 by omega)
  have hz : ¬ (300 : Int) < (data.size : Int) := by omega
  have hz1 : decide ((300 : Int) < (data.size : Int)) = false := decide_eq_false hz
  clear fa hd ra f1
  have Ha := Lib.hid ha
  have HT := Lib.hid tied
  have HB0 : Hid (Below w.heap.size w (w.alloc (.cells #[.slice A0 ks.length c0, .slice A1 vs.length c1, .slice A2 kd.length c2] 25))) := Lib.hid ((Below.refl _ _).alloc (Nat.le_refl _) _)
  clear ha tied
  go_enter Tryd.func10, Tryd.ntmps10
  go_wp2_with fail
  refine (node_awake _).mono ?_
  rintro e w1 ⟨rfl, hb⟩
  have HB1 := Lib.hid (hb)
  obtain ⟨x0, x1, x2⟩ := box_cells HB1.out
  clear hb
  go_wp2_with fail
  refine (few_yes A0 ks c0 A1 vs c1 A2 kd c2 _ (Ha.out.below (HB0.out.trans (HB1.out.mono (by simp)))) HF.out).mono ?_
  rintro e w2 ⟨rfl, hb⟩
  have HB2 := Lib.hid (HB1.out.trans (hb.mono HB1.out.size))
  obtain ⟨x0, x1, x2⟩ := box_cells HB2.out
  clear hb
  go_wp2_with fail
  refine (of_call A0 ks c0 A1 vs c1 A2 kd c2 _).mono ?_
  rintro e w3 ⟨rfl, hb⟩
  have HB3 := Lib.hid (HB2.out.trans (hb.mono HB2.out.size))
  obtain ⟨x0, x1, x2⟩ := box_cells HB3.out
  clear hb
  go_wp2_with fail
  refine (lay_bad A0 ks c0 A1 vs c1 A2 kd c2 _ (Ha.out.below (HB0.out.trans (HB3.out.mono (by simp)))).k (Ha.out.below (HB0.out.trans (HB3.out.mono (by simp)))).v (Ha.out.below (HB0.out.trans (HB3.out.mono (by simp)))).d HL.out.1 HL.out.2.1 HL.out.2.2 HR.out).mono ?_
  rintro e w4 ⟨v, rfl, he, hb⟩
  have HB4 := Lib.hid (HB3.out.trans (hb.mono HB3.out.size))
  obtain ⟨x0, x1, x2⟩ := box_cells HB4.out
  clear hb
  have HE := Lib.hid he
  obtain ⟨tt, xx, rfl⟩ := he.iface (by decide)
  clear he
  go_wp2_with fail
  refine (rright_is A0 ks c0 A1 vs c1 A2 kd c2 _ (Ha.out.below (HB0.out.trans (HB4.out.mono (by simp)))) HF.out false HR.out).mono ?_
  rintro e w5 ⟨rfl, hb⟩
  have HB5 := Lib.hid (HB4.out.trans (hb.mono HB4.out.size))
  obtain ⟨x0, x1, x2⟩ := box_cells HB5.out
  have HE := Lib.hid (HE.out.under hb)
  clear hb
  go_wp2_with fail
  refine (of_call A0 ks c0 A1 vs c1 A2 kd c2 _).mono ?_
  rintro e w6 ⟨rfl, hb⟩
  have HB6 := Lib.hid (HB5.out.trans (hb.mono HB5.out.size))
  obtain ⟨x0, x1, x2⟩ := box_cells HB6.out
  have HE := Lib.hid (HE.out.under hb)
  clear hb
  go_wp2_with fail
  refine (right_in A0 ks c0 A1 vs c1 A2 kd c2 _ (Ha.out.below (HB0.out.trans (HB6.out.mono (by simp)))) HF.out false HR.out).mono ?_
  rintro e w7 ⟨rfl, hb⟩
  have HB7 := Lib.hid (HB6.out.trans (hb.mono HB6.out.size))
  obtain ⟨x0, x1, x2⟩ := box_cells HB7.out
  have HE := Lib.hid (HE.out.under hb)
  clear hb
  go_wp2_with fail
  refine (Num_c (B := w3.heap.size) _ _ 1 HE.out (HT.out.under HT.out.lt (HB0.out.trans (HB7.out.mono (by simp))))).mono ?_
  rintro e w8 ⟨rfl, hb⟩
  have HB8 := Lib.hid (HB7.out.trans (hb.mono HB7.out.size))
  obtain ⟨x0, x1, x2⟩ := box_cells HB8.out
  clear hb
  go_wp2_with fail
  refine (HRO.out _).mono ?_
  rintro e wa ⟨v2, rfl, he, hb⟩
  have HE2 := Lib.hid he
  obtain ⟨t2, z2, rfl⟩ := he.iface (by decide)
  clear he
  have HBa := Lib.hid (HB8.out.trans (hb.mono HB8.out.size))
  clear hb
  have HBy : Hid (Below wa.heap.size wa (wa.alloc (.cells #[.slice none 0 0, .slice none 0 0, .slice none 0 0] 33))) := Lib.hid ((Below.refl _ _).alloc (Nat.le_refl _) _)
  go_wp2_with fail
  refine (HRR.out _).mono ?_
  rintro e wb ⟨Y0, g0, Y1, g1, Y2, g2, rfl, hy, hb⟩
  have HY := Lib.hid hy
  have HBb := Lib.hid hb
  obtain ⟨y0, y1, y2⟩ := box_cells hb
  have hsb : wa.heap.size < wb.heap.size := by have := hb.size; simp at this; omega
  clear hy hb
  have HBz : Hid (Below wb.heap.size wb (wb.alloc (.cells #[.slice Y0 0 g0, .slice Y1 0 g1, .slice Y2 0 g2] 25))) := Lib.hid ((Below.refl _ _).alloc (Nat.le_refl _) _)
  go_wp2_with fail
  refine (same_zero _ _ _ _ _ _ _).mono ?_
  rintro e wc ⟨rfl, hb⟩
  have HBc : Hid (Below wb.heap.size wb wc) := Lib.hid (HBz.out.trans (hb.mono (by simp)))
  have HEc := Lib.hid ((HE2.out.under (HBy.out.trans (HBb.out.mono (by simp)))).under HBc.out)
  have HTc := Lib.hid (HT.out.under HT.out.lt ((HB0.out.trans (HBa.out.mono (by simp))).trans (((HBy.out.trans (HBb.out.mono (by simp))).trans (HBc.out.mono (by omega))).mono (by have := HB0.out.size; have := HBa.out.size; simp at *; omega))))
  clear hb
  go_wp2_with fail
  refine (Num_c (B := w8.heap.size) _ _ 2 HEc.out HTc.out).mono ?_
  rintro e wd ⟨rfl, hb⟩
  have HBd := Lib.hid hb
  have HEd := Lib.hid (HEc.out.under hb)
  clear hb
  go_wp2_with fail
  refine (Num_c (B := w8.heap.size) _ _ 2 HEd.out (HTc.out.under HTc.out.lt HBd.out)).mono ?_
  rintro e we ⟨rfl, hb⟩
  have HBe := Lib.hid (HBd.out.trans (hb.mono HBd.out.size))
  clear hb
  go_wp2_with fail
  go_ret
  have h1 := (HBc.out.trans (HBe.out.mono HBc.out.size))
  exact ⟨rfl, (HB0.out.trans (HBa.out.mono (by simp))).trans (((HBy.out.trans (HBb.out.mono (by simp))).trans (h1.mono (by omega))).mono (by have := HB0.out.size; have := HBa.out.size; simp at *; omega))⟩
theorem nodeplays_walk (A0 : Option Addr) (ks : List Int) (c0 : Nat) (A1 : Option Addr) (vs : List ByteArray) (c1 : Nat) (A2 : Option Addr) (kd : List Int) (c2 : Nat) (data : ByteArray) (w : World) (ha : NodeIn w A0 ks c0 A1 vs c1 A2 kd c2) (wd : data.size ≤ 140737488351232) (tied : Tied w) :
    Calls Tryd.prog 10 #[.agg #[.slice A0 ks.length c0, .slice A1 vs.length c1, .slice A2 kd.length c2], .string data] w fun e w' => e = .returned (.bool true) ∧ Below w.heap.size w w' := by
  cases fa : fewB ks vs kd with
  | false => exact plays_a A0 ks c0 A1 vs c1 A2 kd c2 data w ha tied fa
  | true =>
    by_cases hd : data.size ≤ 300
    · rcases read_either data (by omega) with ⟨xk, xv, xd, hr, h0, h1, h2, hc⟩ | ⟨hr, hc⟩
      · have HRR := Lib.hid (fun W : World => rread_any data xk xv xd true W (by omega) hr)
        cases ra : nodeB ks vs kd with
        | true => exact plays_true_ok A0 ks c0 A1 vs c1 A2 kd c2 data w ha tied xk xv xd (Lib.hid hc) HRR h0 h1 h2 fa hd ra
        | false => exact plays_false_ok A0 ks c0 A1 vs c1 A2 kd c2 data w ha tied xk xv xd (Lib.hid hc) HRR h0 h1 h2 fa hd ra
      · have HRR := Lib.hid (fun W : World => rread_any data [] [] [] false W (by omega) hr)
        cases ra : nodeB ks vs kd with
        | true => exact plays_true_bad A0 ks c0 A1 vs c1 A2 kd c2 data w ha tied (Lib.hid hc) HRR fa hd ra
        | false => exact plays_false_bad A0 ks c0 A1 vs c1 A2 kd c2 data w ha tied (Lib.hid hc) HRR fa hd ra
    · exact plays_b A0 ks c0 A1 vs c1 A2 kd c2 data w ha tied fa hd
end Go.Proofs.YtbiijkpffllimaaDoor
