/- NodeParts: plain laws, and slices in parts. -/
import Derived.Test.YtbiijkpffllimaaDoorNodeUPNodeUnlike
namespace Go.Proofs.YtbiijkpffllimaaDoor
open Go.RowKit Go.Extern.Stop Go.Stop Go.Extern Go.Proofs.YtbiijkpffllimaaDoorW.PrintWords Go.Proofs.YtbiijkpffllimaaDoorW.PrintLast Go.Proofs.YtbiijkpffllimaaDoorW.PrintMore Go.Proofs.YtbiijkpffllimaaDoor.PNodeUnlike
set_option linter.unusedVariables false
set_option linter.unusedSimpArgs false

structure RisP (ks : List Int) : Prop where
  l : ks.length ≤ 7
  k : ∀ j, j < ks.length → okK ks j = true
theorem risB_iff {ks : List Int} : risB ks = true ↔ RisP ks := by
  unfold risB
  rw [Bool.and_eq_true, allN_all, decide_eq_true_eq]
  exact ⟨fun ⟨a, b⟩ => ⟨b, a⟩, fun ⟨a, b⟩ => ⟨b, a⟩⟩
theorem leaf_iff {ks : List Int} {vs : List ByteArray} : nodeB ks vs [] = true ↔ RisP ks ∧ (∀ j, j < vs.length → val12 vs j = true) ∧ vs.length = ks.length := by
  unfold nodeB
  rw [Bool.and_eq_true, risB_iff, if_pos (show ([] : List Int).length = 0 from rfl), Bool.and_eq_true, decide_eq_true_eq]
  unfold valsB
  rw [allN_all]
theorem inner_iff {ks : List Int} {vs : List ByteArray} {kd : List Int} (h : kd.length ≠ 0) : nodeB ks vs kd = true ↔ RisP ks ∧ (∀ j, j < kd.length → kidK kd j = true) ∧ vs.length = 0 ∧ 1 ≤ ks.length ∧ kd.length = ks.length + 1 := by
  unfold nodeB
  rw [Bool.and_eq_true, risB_iff, if_neg h, Bool.and_eq_true, decide_eq_true_eq]
  unfold kidsB
  rw [allN_all]
theorem rd_take {l : List Int} {m j : Nat} (hj : j < m) (hm : m ≤ l.length) : rd (l.take m) (j : Int) = rd l (j : Int) := by
  rw [rd_at _ j (by rw [List.length_take]; omega), rd_at l j (by omega), List.getElem_take]
theorem rd_drop {l : List Int} {m j : Nat} (hj : m + j < l.length) : rd (l.drop m) (j : Int) = rd l ((m + j : Nat) : Int) := by
  rw [rd_at _ j (by rw [List.length_drop]; omega), rd_at l (m + j) hj, List.getElem_drop]
theorem ris_take {ks : List Int} (h : RisP ks) {q : Nat} (hq : q ≤ ks.length) : RisP (ks.take q) := by
  have hl : (ks.take q).length = q := by rw [List.length_take]; omega
  refine ⟨by have := h.l; omega, fun j hj => ?_⟩
  have := of_decide_eq_true (h.k j (by omega))
  refine okK_true ?_
  rw [rd_take (by omega) hq]
  refine ⟨this.1, this.2.1, fun h0 => ?_⟩
  rw [rd_take (by omega) hq]
  exact this.2.2 h0
theorem ris_drop {ks : List Int} (h : RisP ks) {q : Nat} (hq : q ≤ ks.length) : RisP (ks.drop q) := by
  have hl : (ks.drop q).length = ks.length - q := List.length_drop
  refine ⟨by have := h.l; omega, fun j hj => ?_⟩
  have := of_decide_eq_true (h.k (q + j) (by omega))
  refine okK_true ?_
  rw [rd_drop (by omega)]
  refine ⟨this.1, this.2.1, fun h0 => ?_⟩
  rw [rd_drop (by omega), show q + (j - 1) = q + j - 1 by omega]
  exact this.2.2 (by omega)
theorem val_take {vs : List ByteArray} {m j : Nat} (hj : j < m) (hm : m ≤ vs.length) : val12 (vs.take m) j = val12 vs j := by
  unfold val12
  rw [rdOf_at _ j (by rw [List.length_take]; omega), rdOf_at vs j (by omega), List.getElem_take]
theorem val_drop {vs : List ByteArray} {m j : Nat} (hj : m + j < vs.length) : val12 (vs.drop m) j = val12 vs (m + j) := by
  unfold val12
  rw [rdOf_at _ j (by rw [List.length_drop]; omega), rdOf_at vs (m + j) hj, List.getElem_drop]
theorem leaf_take {ks : List Int} {vs : List ByteArray} (h : nodeB ks vs [] = true) {q : Nat} (hq : q ≤ ks.length) : nodeB (ks.take q) (vs.take q) [] = true := by
  obtain ⟨hr, hv, hl⟩ := leaf_iff.1 h
  refine leaf_iff.2 ⟨ris_take hr hq, fun j hj => ?_, by rw [List.length_take, List.length_take]; omega⟩
  rw [List.length_take] at hj
  rw [val_take (by omega) (by omega)]; exact hv j (by omega)
theorem leaf_drop {ks : List Int} {vs : List ByteArray} (h : nodeB ks vs [] = true) {q : Nat} (hq : q ≤ ks.length) : nodeB (ks.drop q) (vs.drop q) [] = true := by
  obtain ⟨hr, hv, hl⟩ := leaf_iff.1 h
  refine leaf_iff.2 ⟨ris_drop hr hq, fun j hj => ?_, by rw [List.length_drop, List.length_drop]; omega⟩
  rw [List.length_drop] at hj
  rw [val_drop (by omega)]; exact hv _ (by omega)
theorem kid_take {kd : List Int} {m j : Nat} (hj : j < m) (hm : m ≤ kd.length) : kidK (kd.take m) j = kidK kd j := by
  unfold kidK
  rw [rd_take hj hm]
  congr 1
  rw [Bool.eq_iff_iff, allN_all, allN_all]
  have e : ∀ i, i < j → freshK (kd.take m) j i = freshK kd j i := fun i hi => by unfold freshK; rw [rd_take hj hm, rd_take (by omega) hm]
  exact ⟨fun h i hi => by rw [← e i hi]; exact h i hi, fun h i hi => by rw [e i hi]; exact h i hi⟩
theorem inner_take {ks : List Int} {vs : List ByteArray} {kd : List Int} (h0 : kd.length ≠ 0) (h : nodeB ks vs kd = true) {q : Nat} (hq : q ≤ ks.length) : nodeB (ks.take q) [] (kd.take (q + 1)) = decide (0 < q) := by
  obtain ⟨hr, hk, hv, h1, hl⟩ := (inner_iff h0).1 h
  have hl1 : (ks.take q).length = q := by rw [List.length_take]; omega
  have hl2 : (kd.take (q + 1)).length = q + 1 := by rw [List.length_take]; omega
  rw [Bool.eq_iff_iff, inner_iff (by rw [hl2]; omega), decide_eq_true_eq, hl1, hl2]
  constructor
  · intro ⟨_, _, _, h, _⟩; omega
  · intro h
    refine ⟨ris_take hr hq, fun j hj => ?_, rfl, h, rfl⟩
    rw [kid_take hj (by omega)]; exact hk j (by omega)
theorem inner_vals {ks : List Int} {vs vs' : List ByteArray} {kd : List Int} (h0 : kd.length ≠ 0) (h : nodeB ks vs kd = true) (hv' : vs'.length = ks.length) : nodeB ks vs' kd = false := by
  obtain ⟨hr, hk, hv, h1, hl⟩ := (inner_iff h0).1 h
  cases e : nodeB ks vs' kd with
  | false => rfl
  | true =>
    have := ((inner_iff h0).1 e).2.2.1
    omega
theorem ints_take {w : World} {A : Option Addr} {l : List Int} {c q : Nat} (h : Ints w A l c) (hq : q ≤ l.length) : Ints w A (l.take q) c := ⟨Kd.C_take h.1 hq, by have := h.2; rw [List.length_take]; omega⟩
theorem strs_take {w : World} {A : Option Addr} {l : List ByteArray} {c q : Nat} (h : Strs w A l c) (hq : q ≤ l.length) : Strs w A (l.take q) c := ⟨Kd.C_take h.1 hq, by have := h.2; rw [List.length_take]; omega⟩
theorem ints_drop {w : World} {A : Option Addr} {l : List Int} {c q : Nat} (h : Ints w A l c) (hq : q ≤ l.length) : Ints w (if c = q then A else A.map (·.add (q * 1))) (l.drop q) (c - q) := ⟨Kd.C_drop h.1 hq h.2, by have := h.2; rw [List.length_drop]; omega⟩
theorem strs_drop {w : World} {A : Option Addr} {l : List ByteArray} {c q : Nat} (h : Strs w A l c) (hq : q ≤ l.length) : Strs w (if c = q then A else A.map (·.add (q * 1))) (l.drop q) (c - q) := ⟨Kd.C_drop h.1 hq h.2, by have := h.2; rw [List.length_drop]; omega⟩
theorem info_int : (Tryd.prog.info? 3).map (fun i => (i.zero, i.size, i.bytes)) = some (some (.int .i64 0), 1, 8) := by kernel_rfl
theorem info_str : (Tryd.prog.info? 9).map (fun i => (i.zero, i.size, i.bytes)) = some (some (.string ⟨#[]⟩), 1, 16) := by kernel_rfl
theorem strs_made (W : World) (n : Nat) (t : TypeId) (hn : n ≤ 1000) : Strs (W.alloc (.cells (madeCells #[.string ⟨#[]⟩] n) t)) (some ⟨W.heap.size, 0, none⟩) (List.replicate n ⟨#[]⟩) n := by
  refine strs_mk (by rw [List.length_replicate]; omega) (by rw [List.length_replicate]; exact Nat.le_refl _) fun j hj => ?_
  rw [List.length_replicate] at hj
  rw [World.cell?_alloc_at _ _ _ _ rfl, rdOf_at _ j (by rw [List.length_replicate]; exact hj), List.getElem_replicate]
  simp [madeCells, hj, Nat.mod_one]
/-- cut: to q, from q -/
theorem cuts_i (A : Option Addr) (n c q : Nat) (hq : q ≤ n) (hc : n ≤ c) : (∀ W : World, (Instr.slice 22 (.slice A n c) none (some (.int .i64 (q : Int))) none).run Tryd.prog W = .ok (.slice A q c) W) ∧
    ∀ W : World, (Instr.slice 22 (.slice A n c) (some (.int .i64 (q : Int))) none none).run Tryd.prog W = .ok (.slice (if c = q then A else A.map (·.add (q * 1))) (n - q) (c - q)) W := by
  obtain ⟨i0, hi, hz0, hz1, hz2⟩ := info_parts info_int
  exact ⟨cut_to 22 3 .i64 Tryd.underlying22 hi A n c (q : Int) (by omega) (by omega) hc, cut_from 22 3 .i64 Tryd.underlying22 hi 1 hz1 A n c (q : Int) (by omega) (by omega)⟩
theorem cuts_s (A : Option Addr) (n c q : Nat) (hq : q ≤ n) (hc : n ≤ c) : (∀ W : World, (Instr.slice 23 (.slice A n c) none (some (.int .i64 (q : Int))) none).run Tryd.prog W = .ok (.slice A q c) W) ∧
    ∀ W : World, (Instr.slice 23 (.slice A n c) (some (.int .i64 (q : Int))) none none).run Tryd.prog W = .ok (.slice (if c = q then A else A.map (·.add (q * 1))) (n - q) (c - q)) W := by
  obtain ⟨i0, hi, hz0, hz1, hz2⟩ := info_parts info_str
  exact ⟨cut_to 23 9 .i64 Tryd.underlying23 hi A n c (q : Int) (by omega) (by omega) hc, cut_from 23 9 .i64 Tryd.underlying23 hi 1 hz1 A n c (q : Int) (by omega) (by omega)⟩
end Go.Proofs.YtbiijkpffllimaaDoor
