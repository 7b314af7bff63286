/- Arguments that are slices of whole numbers, read in the words of the print. -/
import Derived.Test.YtfgbnnmaooillaaDoorArgs
import Derived.Test.YtfgbnnmaooillaaDoorWWords
namespace Go.Proofs.YtfgbnnmaooillaaDoor
open Go.ChangeShapes Go.WideShapes Go.RowKit Go.Proofs.YtfgbnnmaooillaaDoorW.PrintWords

/-- a slice of whole numbers of kind k that reads as l -/
def IntsK (k : IntKind) (w : World) (A : Option Addr) (l : List Int) (c : Nat) : Prop := (Kd.int k).C w A l.length l ∧ l.length ≤ c
theorem kd_of_cells {k : IntKind} {w : World} {A : Option Addr} {l : List Int} (hm : l.length ≤ 9223372036854775807) (h : l.length = 0 ∨ ∃ b o, A = some ⟨b, o, none⟩ ∧ ∀ j, j < l.length → w.cell? ⟨b, o + j, none⟩ = some (.int k (l.getD j 0))) : (Kd.int k).C w A l.length l := by
  refine ⟨rfl, hm, fun hn => ?_⟩
  rcases h with h | ⟨b, o, rfl, hc⟩
  · omega
  · refine ⟨_, rfl, fun j p hj => ⟨[.int k p], rfl, rfl, fun i u hu => ?_⟩⟩
    obtain ⟨hl, hp⟩ := List.getElem?_eq_some_iff.1 hj
    have h2 := hc j hl
    rw [List.getD_eq_getElem?_getD, hj] at h2
    cases i with
    | zero =>
      have : Value.int k p = u := by simpa using hu
      subst this
      have e1 : (Kd.int k).sz = 1 := rfl
      rw [e1, Go.WideShapes.add_plain]
      simpa using h2
    | succ i => simp at hu
theorem read_kd {H : Type} {enc : TypeId × Value → H} {P : Program} {W : World} {base : Nat} {spare : Nat → Bool} {held : Bool} {t e : TypeId} {k : IntKind} {a : Option Addr} {len cap : Nat} {d : DataW H} {ps : List MemPlace}
    (hu : P.underlying t = some (.slice e)) (he : P.underlying e = some (.int k)) (hc : P.cellsOf e = 1)
    (h : DataW.Trod enc P W base spare held t (.slice a len cap) d ps) : ∃ zs : List Int, zs.length = len ∧ IntsK k W a zs cap ∧ ∀ n ∈ zs, (Lit.int k n).wf = true := by
  obtain ⟨zs, h1, h2, h3, h4⟩ := read_ints hu he hc h
  refine ⟨zs, h1, ⟨kd_of_cells (by rw [h1]; exact h3) (by rw [h1]; exact h4), ?_⟩, h2⟩
  obtain ⟨fuel, hf⟩ := h
  rcases open_ints hu he hc hf with ⟨hcs, _⟩ | ⟨x, l, c, zs', hcs, _, hl, hm, hz, hx, hcell, hwz⟩
  · simp [Value.cells] at hcs
    obtain ⟨rfl, rfl, rfl⟩ := hcs
    omega
  · simp [Value.cells] at hcs
    obtain ⟨rfl, rfl, rfl⟩ := hcs
    omega
end Go.Proofs.YtfgbnnmaooillaaDoor
