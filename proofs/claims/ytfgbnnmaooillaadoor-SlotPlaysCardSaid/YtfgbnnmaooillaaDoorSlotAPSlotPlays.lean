/- A slice of the reference's bookings, read in the print's words. -/
import Derived.Test.YtfgbnnmaooillaaDoorArgs3
import Derived.Test.YtfgbnnmaooillaaDoorSlotQPSlotPlays
namespace Go.Proofs.YtfgbnnmaooillaaDoor
open Go.ChangeShapes Go.WideShapes Go.RowKit Go.Proofs.YtfgbnnmaooillaaDoorW.PrintWords Go.Proofs.YtfgbnnmaooillaaDoorW.PrintLast Go.Proofs.YtfgbnnmaooillaaDoorW.PrintMore Go.Proofs.YtfgbnnmaooillaaDoor.PSlotPlays
set_option linter.unusedVariables false

def RBs (W : World) (a : Option Addr) (l : List RB) (cap : Nat) : Prop := Kd.C k41 W a l.length l ∧ l.length ≤ cap ∧ ∀ z ∈ l, ((Lit.int .i64 z.f0).wf = true ∧ (Lit.int .i64 z.f1).wf = true ∧ (Lit.int .i64 z.f2).wf = true)
theorem read_bookings {H : Type} {enc : TypeId × Value → H} {W : World} {base : Nat} {spare : Nat → Bool} {held : Bool} {a : Option Addr} {len cap : Nat} {d : DataW H} {ps : List MemPlace}
    (h : DataW.Trod enc Tryd.prog W base spare held 39 (.slice a len cap) d ps) : ∃ l : List RB, l.length = len ∧ RBs W a l cap := by
  obtain ⟨zs, hl, hc, hm, hw, hcell⟩ := read_three Tryd.underlying39 Tryd.underlying41 rfl rfl rfl Tryd.underlying3 Tryd.underlying3 Tryd.underlying3 (by kernel_rfl) (by kernel_rfl) (by kernel_rfl) (by kernel_rfl) h
  let f : I3 → RB := fun z => ⟨z.1, z.2.1, z.2.2⟩
  refine ⟨zs.map f, by simp [hl], ⟨rfl, by simp [hl]; exact hm, fun hn => ?_⟩, by simp [hl]; exact hc, fun z hz => ?_⟩
  · obtain ⟨ad, rfl, hcc⟩ := hcell (by simpa [hl] using hn)
    refine ⟨ad, rfl, fun j p hj => ?_⟩
    rw [List.getElem?_map] at hj
    obtain ⟨z, hz, rfl⟩ := Option.map_eq_some_iff.1 hj
    obtain ⟨q0, q1, q2⟩ := hcc j z hz
    refine ⟨_, rfl, k41_mk W (f z), fun i u hu => ?_⟩
    have e3 : (k41).sz = 3 := rfl
    rw [e3]
    match i, hu with
    | 0, hu => simp at hu; subst hu; exact q0
    | 1, hu => simp at hu; subst hu; exact q1
    | 2, hu => simp at hu; subst hu; exact q2
  · obtain ⟨x, hx, rfl⟩ := List.mem_map.1 hz
    exact hw x hx
end Go.Proofs.YtfgbnnmaooillaaDoor
