/- Nodes as arguments; awake, Few, Of, Same by their contracts. -/
import Derived.Test.YtbiijkpffllimaaDoorNodeTPNodeUnlike
import Derived.ChangeSlices
import Derived.OpenShut
import Derived.SliceStrings
import Derived.Lib.SmallJoins
namespace Go.Proofs.YtbiijkpffllimaaDoor
open Go.ChangeShapes Go.WideShapes Go.RowKit Go.Extern.Stop Go.Stop Go.Extern Go.Proofs.YtbiijkpffllimaaDoorW.PrintWords Go.Proofs.YtbiijkpffllimaaDoorW.PrintLast Go.Proofs.YtbiijkpffllimaaDoorW.PrintMore Go.Proofs.YtbiijkpffllimaaDoor.PNodeUnlike
set_option linter.unusedVariables false
set_option linter.unusedSimpArgs false

theorem ints_mk {w : World} {b o : Nat} {l : List Int} {c : Nat} (hm : l.length ≤ 9223372036854775807) (hc : l.length ≤ c) (h : ∀ j, j < l.length → w.cell? ⟨b, o + j, none⟩ = some (.int .i64 (rd l (j : Int)))) : Ints w (some ⟨b, o, none⟩) l c := by
  refine ⟨⟨rfl, hm, fun hn => ⟨_, rfl, fun j p hj => ⟨[.int .i64 p], rfl, rfl, fun i u hu => ?_⟩⟩⟩, hc⟩
  obtain ⟨hl, hp⟩ := List.getElem?_eq_some_iff.1 hj
  have h2 := h j hl
  rw [rd_at l j hl, hp] at h2
  cases i with
  | zero =>
    have : Value.int .i64 p = u := by simpa using hu
    subst this
    have e1 : (Kd.int .i64).sz = 1 := rfl
    rw [e1, Go.WideShapes.add_plain]
    simpa using h2
  | succ i => simp at hu
theorem strs_mk {w : World} {b o : Nat} {l : List ByteArray} {c : Nat} (hm : l.length ≤ 9223372036854775807) (hc : l.length ≤ c) (h : ∀ j, j < l.length → w.cell? ⟨b, o + j, none⟩ = some (.string (rdOf ByteArray.empty l (j : Int)))) : Strs w (some ⟨b, o, none⟩) l c := by
  refine ⟨⟨rfl, hm, fun hn => ⟨_, rfl, fun j p hj => ⟨[.string p], rfl, rfl, fun i u hu => ?_⟩⟩⟩, hc⟩
  obtain ⟨hl, hp⟩ := List.getElem?_eq_some_iff.1 hj
  have h2 := h j hl
  rw [rdOf_at l j hl, hp] at h2
  cases i with
  | zero =>
    have : Value.string p = u := by simpa using hu
    subst this
    have e1 : Kd.string.sz = 1 := rfl
    rw [e1, Go.WideShapes.add_plain]
    simpa using h2
  | succ i => simp at hu
theorem ints_nil (w : World) (A : Option Addr) (c : Nat) : Ints w A [] c := ⟨⟨rfl, by simp, fun h => absurd h (by simp)⟩, Nat.zero_le _⟩
theorem strs_nil (w : World) (A : Option Addr) (c : Nat) : Strs w A [] c := ⟨⟨rfl, by simp, fun h => absurd h (by simp)⟩, Nat.zero_le _⟩
section
variable {H : Type} {enc : TypeId × Value → H} {P : Program} {W : World} {base : Nat} {sp : Nat → Bool} {held : Bool}
theorem slot_ints {t e : TypeId} {fuel : Nat} {v : Value} {x : DataW H × List MemPlace} (hu : P.underlying t = some (.slice e)) (he : P.underlying e = some (.int .i64)) (hc : P.cellsOf e = 1)
    (h : DataW.trod enc P W base sp held fuel t [v] = some x) : ∃ A l c, v = .slice A l.length c ∧ Ints W A l c ∧ ∀ n ∈ l, (Lit.int .i64 n).wf = true := by
  rcases open_ints hu he hc h with ⟨hcs, _⟩ | ⟨x, len, c, zs, hcs, _, hl, hm, hz, hx, hcell, hwz⟩
  · have : v = .slice none 0 0 := by simpa using hcs
    exact ⟨none, [], 0, this, ints_nil _ _ _, by simp⟩
  · have hv : v = .slice (some x) len c := by simpa using hcs
    have hl2 : len ≤ zs.length := by rw [hz]; split <;> omega
    have hlt : (zs.take len).length = len := by rw [List.length_take]; omega
    refine ⟨some x, zs.take len, c, by rw [hlt]; exact hv, ?_, fun n hn => hwz n (List.mem_of_mem_take hn)⟩
    by_cases h0 : len = 0
    · rw [h0, List.take_zero]; exact ints_nil _ _ _
    · obtain ⟨b, o, rfl, hcc⟩ := ints_at hcell (by omega)
      refine ints_mk (by rw [hlt]; unfold maxLen at hm; omega) (by omega) fun j hj => ?_
      rw [hlt] at hj
      rw [hcc j (by omega), rd_at _ j (by rw [hlt]; exact hj), List.getElem_take]
      simp [List.getD_eq_getElem?_getD, List.getElem?_eq_getElem (show j < zs.length by omega)]
theorem slot_strs {t e : TypeId} {fuel : Nat} {v : Value} {x : DataW H × List MemPlace} (hu : P.underlying t = some (.slice e)) (he : P.underlying e = some .string) (hc : P.cellsOf e = 1)
    (h : DataW.trod enc P W base sp held fuel t [v] = some x) : ∃ A l c, v = .slice A l.length c ∧ Strs W A l c := by
  rcases open_strings hu he hc h with ⟨hcs, _⟩ | ⟨x, len, c, zs, hcs, _, hl, hm, hz, hx, hcell, hwz⟩
  · have : v = .slice none 0 0 := by simpa using hcs
    exact ⟨none, [], 0, this, strs_nil _ _ _⟩
  · have hv : v = .slice (some x) len c := by simpa using hcs
    have hl2 : len ≤ zs.length := by rw [hz]; split <;> omega
    have hlt : (zs.take len).length = len := by rw [List.length_take]; omega
    refine ⟨some x, zs.take len, c, by rw [hlt]; exact hv, ?_⟩
    by_cases h0 : len = 0
    · rw [h0, List.take_zero]; exact strs_nil _ _ _
    · obtain ⟨b, o, spot⟩ := x
      have hspot : spot = none := by simpa [Addr.add] using World.cell?_spot (hcell 0 (by omega))
      subst hspot
      refine strs_mk (by rw [hlt]; unfold maxLen at hm; omega) (by omega) fun j hj => ?_
      rw [hlt] at hj
      have hcc := hcell j (by omega)
      rw [Go.WideShapes.add_plain] at hcc
      rw [hcc, rdOf_at _ j (by rw [hlt]; exact hj), List.getElem_take]
      simp [List.getD_eq_getElem?_getD, List.getElem?_eq_getElem (show j < zs.length by omega)]
end
/-- a node that came in -/
structure NodeIn (W : World) (A0 : Option Addr) (ks : List Int) (c0 : Nat) (A1 : Option Addr) (vs : List ByteArray) (c1 : Nat) (A2 : Option Addr) (kd : List Int) (c2 : Nat) : Prop where
  k : Ints W A0 ks c0
  v : Strs W A1 vs c1
  d : Ints W A2 kd c2
  wk : ∀ n ∈ ks, (Lit.int .i64 n).wf = true
theorem NodeIn.below {W W' : World} {A0 : Option Addr} {ks : List Int} {c0 : Nat} {A1 : Option Addr} {vs : List ByteArray} {c1 : Nat} {A2 : Option Addr} {kd : List Int} {c2 : Nat} (h : NodeIn W A0 ks c0 A1 vs c1 A2 kd c2) (hb : Below W.heap.size W W') : NodeIn W' A0 ks c0 A1 vs c1 A2 kd c2 :=
  ⟨h.k.below hb, h.v.below hb, h.d.below hb, h.wk⟩
set_option maxRecDepth 100000 in
theorem read_node {H : Type} {enc : TypeId × Value → H} {W : World} {base : Nat} {r : Reach} {b0 : Nat} {sp : Nat → Bool} {held : Bool} {v : Value} {d : DataW H} {ps : List MemPlace}
    (hv : Value.okWide Tryd.prog W r b0 25 v) (h : DataW.Trod enc Tryd.prog W base sp held 25 v d ps) :
    ∃ A0 ks c0 A1 vs c1 A2 kd c2, v = .agg #[.slice A0 ks.length c0, .slice A1 vs.length c1, .slice A2 kd.length c2] ∧ NodeIn W A0 ks c0 A1 vs c1 A2 kd c2 := by
  obtain ⟨v0, v1, v2, y0, y1, y2, n, rfl, _, _, h0, h1, h2⟩ := Go.Joins.open_agg3 Tryd.underlying25 (by kernel_rfl) (by kernel_rfl) hv h
  obtain ⟨A0, ks, c0, rfl, i0, w0⟩ := slot_ints Tryd.underlying22 Tryd.underlying3 (by kernel_rfl) h0
  obtain ⟨A1, vs, c1, rfl, i1⟩ := slot_strs Tryd.underlying23 Tryd.underlying9 (by kernel_rfl) h1
  obtain ⟨A2, kd, c2, rfl, i2, _⟩ := slot_ints Tryd.underlying22 Tryd.underlying3 (by kernel_rfl) h2
  exact ⟨A0, ks, c0, A1, vs, c1, A2, kd, c2, rfl, ⟨i0, i1, i2, w0⟩⟩
/-! ### awake, Few, Of, Same -/
section
variable (A0 : Option Addr) (ks : List Int) (c0 : Nat) (A1 : Option Addr) (vs : List ByteArray) (c1 : Nat) (A2 : Option Addr) (kd : List Int) (c2 : Nat) (w : World)
theorem few_any (h : NodeIn w A0 ks c0 A1 vs c1 A2 kd c2) : Calls Tryd.prog 14 #[.agg #[.slice A0 ks.length c0, .slice A1 vs.length c1, .slice A2 kd.length c2]] w fun e w' => e = .returned (.int .i64 (oneIf (fewB ks vs kd))) ∧ Below w.heap.size w w' := by
  obtain ⟨k, hk⟩ := few_f ks vs kd
  exact dynamolaw09_Few.calls k A0 c0 ks A1 c1 vs A2 c2 kd _ w h.k.1 h.k.2 h.v.1 h.v.2 h.d.1 h.d.2 hk
theorem rright_any (h : NodeIn w A0 ks c0 A1 vs c1 A2 kd c2) (h0 : ks.length ≤ 1000) (h1 : vs.length ≤ 1000) (h2 : kd.length ≤ 1000) : Calls Tryd.prog 15 #[.agg #[.slice A0 ks.length c0, .slice A1 vs.length c1, .slice A2 kd.length c2]] w fun e w' => e = .returned (.bool (nodeB ks vs kd)) ∧ Below w.heap.size w w' := by
  obtain ⟨k, hk⟩ := rright_f ks vs kd h0 h1 h2
  exact dynamoref09_Right.calls k A0 c0 ks A1 c1 vs A2 c2 kd _ w h.k.1 h.k.2 h.v.1 h.v.2 h.d.1 h.d.2 hk
theorem of_call : Calls Tryd.prog 17 #[.agg #[.slice A0 ks.length c0, .slice A1 vs.length c1, .slice A2 kd.length c2]] w fun e w' => e = .returned (.agg #[.slice A0 ks.length c0, .slice A1 vs.length c1, .slice A2 kd.length c2]) ∧ Below w.heap.size w w' := by
  go_enter Tryd.func17, Tryd.ntmps17
  go_wp2
  refine bodyPost_ret (v := .agg #[.slice A0 ks.length c0, .slice A1 vs.length c1, .slice A2 kd.length c2]) (by simp [results, Tryd.results17, go_sem]) rfl ⟨rfl, ?_⟩
  exact (((Below.refl _ _).alloc (Nat.le_refl _) _).alloc (by simp) _)
theorem same_any (B0 : Option Addr) (ks' : List Int) (d0 : Nat) (B1 : Option Addr) (vs' : List ByteArray) (d1 : Nat) (B2 : Option Addr) (kd' : List Int) (d2 : Nat)
    (h : NodeIn w A0 ks c0 A1 vs c1 A2 kd c2) (h' : NodeIn w B0 ks' d0 B1 vs' d1 B2 kd' d2) (h0 : ks.length ≤ 1000) (h1 : vs.length ≤ 1000) (h2 : kd.length ≤ 1000) :
    Calls Tryd.prog 19 #[.agg #[.slice A0 ks.length c0, .slice A1 vs.length c1, .slice A2 kd.length c2], .agg #[.slice B0 ks'.length d0, .slice B1 vs'.length d1, .slice B2 kd'.length d2]] w fun e w' => e = .returned (.int .i64 (oneIf (sameB ks vs kd ks' vs' kd'))) ∧ Below w.heap.size w w' := by
  obtain ⟨k, hk⟩ := same_f ks vs kd ks' vs' kd' h0 h1 h2
  exact dynamolaw09_Same.calls k A0 c0 ks A1 c1 vs A2 c2 kd B0 d0 ks' B1 d1 vs' B2 d2 kd' _ w h.k.1 h.k.2 h.v.1 h.v.2 h.d.1 h.d.2 h'.k.1 h'.k.2 h'.v.1 h'.v.2 h'.d.1 h'.d.2 hk
end
end Go.Proofs.YtbiijkpffllimaaDoor
