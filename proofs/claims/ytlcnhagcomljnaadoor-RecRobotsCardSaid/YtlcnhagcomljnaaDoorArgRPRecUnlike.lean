/- Robots and tasks that came in as arguments. -/
import Derived.Test.YtlcnhagcomljnaaDoorRecPPRecUnlike
import Derived.ChangeSame
import Derived.OpenShut
import Derived.WideShapes
namespace Go.Proofs.YtlcnhagcomljnaaDoor
open Go.RowKit Go.ChangeShapes Go.WideShapes
set_option linter.unusedVariables false
section
variable {H : Type} {enc : TypeId × Value → H} {P : Program} {W : World} {base : Nat} {sp : Nat → Bool} {held : Bool}
/-- a struct of whole numbers alone -/
theorem ints_struct {r : Reach} {b0 : Nat} {t : TypeId} {fs : Array Field} {v : Value} {d : DataW H} {ps : List MemPlace} (ht : P.underlying t = some (.struct fs)) (n : Nat) (hC : P.cellsOf t = n)
    (hall : ∀ i, i < n → ∃ f, fs[i]? = some f ∧ P.underlying f.type = some (.int .i64) ∧ f.offset = i ∧ P.cellsOf f.type = 1)
    (hv : Value.okWide P W r b0 t v) (h : DataW.Trod enc P W base sp held t v d ps) : ∃ l : List Int, l.length = n ∧ v = .agg (l.map (Value.int .i64)).toArray := by
  obtain ⟨cs, rfl, hs⟩ := okWide_struct ht hv
  obtain ⟨fuel, hf⟩ := h
  obtain ⟨xs, m, _, _, hl, hlen, hx⟩ := DataW.trod_struct ht hf
  have hsz : cs.size = n := hs.trans hC
  have key : ∀ i, i < n → ∃ a : Int, cs.toList[i]? = some (.int .i64 a) := fun i hi => by
    obtain ⟨f, hfi, hu, ho, hc⟩ := hall i hi
    have hh := hx i f hfi
    rw [ho, hc] at hh
    have hi2 : i < xs.length := by
      rw [hlen]; exact (Array.getElem?_eq_some_iff.1 hfi).1
    rw [List.getElem?_eq_getElem hi2] at hh
    obtain ⟨a, ha, _, _⟩ := DataW.trod_int hu hh
    have := congrArg List.head? ha
    rw [List.head?_take, if_neg (by omega), List.head?_drop] at this
    exact ⟨a, this⟩
  refine ⟨cs.toList.map fun v => match v with | .int _ a => a | _ => 0, by simpa using hsz, ?_⟩
  have hL : cs.toList = (cs.toList.map fun v => match v with | .int _ a => a | _ => 0).map (Value.int .i64) := by
    apply List.ext_getElem?
    intro i
    rw [List.getElem?_map, List.getElem?_map]
    by_cases hi : i < n
    · obtain ⟨a, ha⟩ := key i hi
      rw [ha]; rfl
    · rw [List.getElem?_eq_none (by rw [Array.length_toList]; omega)]; rfl
  rw [← hL]
end
theorem argl7 {l : List Int} (h : l.length = 7) : ∃ a b c d e f g, l = [a, b, c, d, e, f, g] := by
  match l, h with
  | [a, b, c, d, e, f, g], _ => exact ⟨a, b, c, d, e, f, g, rfl⟩
theorem argl3 {l : List Int} (h : l.length = 3) : ∃ a b c, l = [a, b, c] := by
  match l, h with
  | [a, b, c], _ => exact ⟨a, b, c, rfl⟩
section
variable {H : Type} {enc : TypeId × Value → H} {W : World} {base : Nat} {sp : Nat → Bool} {held : Bool}
set_option maxRecDepth 100000 in
theorem read_rob {r : Reach} {b0 : Nat} {v : Value} {d : DataW H} {ps : List MemPlace} (hv : Value.okWide Tryd.prog W r b0 23 v) (h : DataW.Trod enc Tryd.prog W base sp held 23 v d ps) :
    ∃ x : Rob, v = .agg #[.int .i64 x.c, .int .i64 x.h, .int .i64 x.p, .int .i64 x.t, .int .i64 x.m, .int .i64 x.g, .int .i64 x.a] := by
  obtain ⟨l, hl, rfl⟩ := ints_struct Tryd.underlying23 7 (by kernel_rfl) (fun i hi => by
    have hi2 : i = 0 ∨ i = 1 ∨ i = 2 ∨ i = 3 ∨ i = 4 ∨ i = 5 ∨ i = 6 := by omega
    rcases hi2 with rfl | rfl | rfl | rfl | rfl | rfl | rfl <;> exact ⟨_, rfl, Tryd.underlying3, rfl, by kernel_rfl⟩) hv h
  obtain ⟨a, b, c, d, e, f, g, rfl⟩ := argl7 hl
  exact ⟨⟨a, b, c, d, e, f, g⟩, rfl⟩
set_option maxRecDepth 100000 in
theorem read_tas {r : Reach} {b0 : Nat} {v : Value} {d : DataW H} {ps : List MemPlace} (hv : Value.okWide Tryd.prog W r b0 38 v) (h : DataW.Trod enc Tryd.prog W base sp held 38 v d ps) :
    ∃ x : Tas, v = .agg #[.int .i64 x.f, .int .i64 x.t, .int .i64 x.s] := by
  obtain ⟨l, hl, rfl⟩ := ints_struct Tryd.underlying38 3 (by kernel_rfl) (fun i hi => by
    have hi2 : i = 0 ∨ i = 1 ∨ i = 2 := by omega
    rcases hi2 with rfl | rfl | rfl <;> exact ⟨_, rfl, Tryd.underlying3, rfl, by kernel_rfl⟩) hv h
  obtain ⟨a, b, c, rfl⟩ := argl3 hl
  exact ⟨⟨a, b, c⟩, rfl⟩
end
end Go.Proofs.YtlcnhagcomljnaaDoor
