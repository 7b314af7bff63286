/- An argument that is a slice of structs of three whole numbers, opened to its cells. -/
import Derived.Test.YtfgbnnmaooillaaDoorProg
import Derived.ChangeSlices
import Derived.OpenShut
import Derived.Deep.Slices
import Derived.Deep.Strs
import Derived.ChangeSame
namespace Go.Proofs.YtfgbnnmaooillaaDoor
open Go.ChangeShapes Go.WideShapes Go.RowKit Go.Deep

abbrev I3 := Int × Int × Int
theorem read_three {H : Type} {enc : TypeId × Value → H} {P : Program} {W : World} {base : Nat} {spare : Nat → Bool} {held : Bool} {t e : TypeId} {f0 f1 f2 : Field} {a : Option Addr} {len cap : Nat} {d : DataW H} {ps : List MemPlace}
    (hu : P.underlying t = some (.slice e)) (he : P.underlying e = some (.struct #[f0, f1, f2])) (o0 : f0.offset = 0) (o1 : f1.offset = 1) (o2 : f2.offset = 2)
    (t0 : P.underlying f0.type = some (.int .i64)) (t1 : P.underlying f1.type = some (.int .i64)) (t2 : P.underlying f2.type = some (.int .i64))
    (c0 : P.cellsOf f0.type = 1) (c1 : P.cellsOf f1.type = 1) (c2 : P.cellsOf f2.type = 1) (hc : P.cellsOf e = 3)
    (h : DataW.Trod enc P W base spare held t (.slice a len cap) d ps) :
    ∃ zs : List I3, zs.length = len ∧ len ≤ cap ∧ len ≤ maxLen ∧ (∀ z ∈ zs, (Lit.int .i64 z.1).wf = true ∧ (Lit.int .i64 z.2.1).wf = true ∧ (Lit.int .i64 z.2.2).wf = true) ∧
      (0 < len → ∃ ad, a = some ad ∧ ∀ i z, zs[i]? = some z → W.cell? (ad.add (i * 3 + 0)) = some (.int .i64 z.1) ∧ W.cell? (ad.add (i * 3 + 1)) = some (.int .i64 z.2.1) ∧ W.cell? (ad.add (i * 3 + 2)) = some (.int .i64 z.2.2)) := by
  obtain ⟨fuel, hf⟩ := h
  rcases open_slice hu hf with ⟨hcs, _⟩ | ⟨x, l, c, m, n, D, Pl, hcs, _, hl, hm, hmm, _, hi⟩
  · simp [Value.cells] at hcs
    obtain ⟨rfl, rfl, rfl⟩ := hcs
    exact ⟨[], rfl, Nat.le_refl _, by simp [maxLen], by simp, fun h => by omega⟩
  · simp [Value.cells] at hcs
    obtain ⟨rfl, rfl, rfl⟩ := hcs
    have hlm : len ≤ m := by rw [hmm]; split <;> omega
    have hex : ∀ i : Nat, ∃ z : I3, i < len → ((Lit.int .i64 z.1).wf = true ∧ (Lit.int .i64 z.2.1).wf = true ∧ (Lit.int .i64 z.2.2).wf = true) ∧
        W.cell? (x.add (i * 3 + 0)) = some (.int .i64 z.1) ∧ W.cell? (x.add (i * 3 + 1)) = some (.int .i64 z.2.1) ∧ W.cell? (x.add (i * 3 + 2)) = some (.int .i64 z.2.2) := by
      intro i
      by_cases hil : i < len
      · obtain ⟨cs, hcell, htr⟩ := hi i (by omega)
        rw [hc] at hcell
        obtain ⟨_, hcl, hat⟩ := World.cells?_some hcell
        obtain ⟨y0, y1, y2, k, _, _, r0, r1, r2⟩ := trod_struct3 he htr
        rw [o0, c0] at r0
        rw [o1, c1] at r1
        rw [o2, c2] at r2
        match cs, hcl with
        | [u0, u1, u2], _ =>
          obtain ⟨n0, e0, _, w0⟩ := DataW.trod_int t0 r0
          obtain ⟨n1, e1, _, w1⟩ := DataW.trod_int t1 r1
          obtain ⟨n2, e2, _, w2⟩ := DataW.trod_int t2 r2
          simp at e0 e1 e2
          subst e0; subst e1; subst e2
          have hadd : ∀ j, (x.add (i * 3)).add j = x.add (i * 3 + j) := fun j => by
            unfold Addr.add
            by_cases h1 : i * 3 = 0 <;> by_cases h2 : j = 0 <;> simp [h1, h2, Nat.add_assoc]
          have q0 := hat 0 (by omega)
          have q1 := hat 1 (by omega)
          have q2 := hat 2 (by omega)
          rw [hadd] at q0 q1 q2
          exact ⟨(n0, n1, n2), fun _ => ⟨⟨w0, w1, w2⟩, q0, q1, q2⟩⟩
      · exact ⟨(0, 0, 0), fun h => absurd h hil⟩
    let g : Nat → I3 := fun i => Classical.choose (hex i)
    have hg : ∀ i, i < len → _ := fun i hil => Classical.choose_spec (hex i) hil
    refine ⟨(List.range len).map g, by simp, hl, by omega, fun z hz => ?_, fun _ => ⟨x, rfl, fun i z hz => ?_⟩⟩
    · obtain ⟨i, hir, rfl⟩ := List.mem_map.1 hz
      exact (hg i (List.mem_range.1 hir)).1
    · have hil : i < len := by
        have := (List.getElem?_eq_some_iff.1 hz).1
        simpa using this
      have : z = g i := by
        rw [List.getElem?_map, List.getElem?_range hil] at hz
        exact (Option.some.inj hz).symm
      subst this
      exact (hg i hil).2
end Go.Proofs.YtfgbnnmaooillaaDoor
