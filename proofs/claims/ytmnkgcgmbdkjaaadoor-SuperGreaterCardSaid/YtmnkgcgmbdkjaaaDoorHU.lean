/- A superblock that came in as an argument. -/
import Derived.Test.YtmnkgcgmbdkjaaaDoorHG
import Derived.ChangeSame
import Derived.OpenShut
import Derived.WideShapes
import Derived.Deep.MidRow
set_option linter.unusedVariables false
set_option linter.unusedSimpArgs false
namespace Go.Proofs.YtmnkgcgmbdkjaaaDoor
open Go.RowKit Go.ChangeShapes Go.WideShapes
set_option linter.unusedVariables false
section
variable {H : Type} {enc : TypeId × Value → H} {P : Program} {W : World} {base : Nat} {sp : Nat → Bool} {held : Bool}
theorem wf_byte {n : Int} (h : (Lit.int .u8 n).wf = true) : 0 ≤ n ∧ n ≤ 255 := by
  simpa [Lit.wf, IntKind.min, IntKind.max, IntKind.signed, IntKind.bits] using h
theorem mapM_oct {e : TypeId} (he : P.underlying e = some (.int .u8)) {m : Nat} {cs : List Value} {c : Nat} : ∀ (L : List Nat) (xs : List (DataW H × List MemPlace)),
    L.mapM (fun i => DataW.trod enc P W base sp held m e ((cs.drop (i * c)).take c)) = some xs → ∀ i ∈ L, ∃ a : Int, (cs.drop (i * c)).take c = [.int .u8 a] ∧ 0 ≤ a ∧ a ≤ 255
  | [], xs, h, _, hi => by cases hi
  | j :: L, xs, h, i, hi => by
    rw [List.mapM_cons] at h
    simp only [bind, Option.bind_eq_some_iff, pure, Option.some.injEq] at h
    obtain ⟨y, hy, ys, hys, rfl⟩ := h
    obtain ⟨a, ea, _, wa⟩ := DataW.trod_int he hy
    rcases List.mem_cons.1 hi with rfl | hi
    · exact ⟨a, ea, wf_byte wa⟩
    · exact mapM_oct he L ys hys i hi
/-- n bytes as cells -/
theorem oct_of {cs : List Value} (n : Nat) (hl : cs.length = n) (h : ∀ i, i < n → ∃ a : Int, (cs.drop i).take 1 = [.int .u8 a] ∧ 0 ≤ a ∧ a ≤ 255) : ∃ p : List UInt8, cs = p.map (fun b => Value.int .u8 (b.toNat : Int)) ∧ p.length = n := by
  refine ⟨cs.map fun v => match v with | .int _ a => UInt8.ofNat a.toNat | _ => 0, ?_, by rw [List.length_map]; exact hl⟩
  apply List.ext_getElem?
  intro i
  by_cases hi : i < n
  · obtain ⟨a, ha, a0, a1⟩ := h i hi
    have hc : cs[i]? = some (.int .u8 a) := by
      have := congrArg List.head? ha
      rw [List.head?_take, if_neg (by omega), List.head?_drop] at this
      exact this
    rw [List.getElem?_map, List.getElem?_map, hc]
    have e : ((UInt8.ofNat a.toNat).toNat : Int) = a := by rw [UInt8.toNat_ofNat']; omega
    show some (Value.int .u8 a) = some (Value.int .u8 ((UInt8.ofNat a.toNat).toNat : Int))
    rw [e]
  · rw [List.getElem?_eq_none (by omega), List.getElem?_eq_none (by rw [List.length_map, List.length_map]; omega)]
/-- an array of n bytes, read out of its cells -/
theorem trod_oct {n fuel : Nat} {t e : TypeId} {cs : List Value} {x : DataW H × List MemPlace} (ht : P.underlying t = some (.array n e)) (he : P.underlying e = some (.int .u8)) (hct : P.cellsOf t = n) (hce : P.cellsOf e = 1)
    (hl : cs.length = n) (hf : DataW.trod enc P W base sp held fuel t cs = some x) : ∃ p : List UInt8, cs = p.map (fun b => Value.int .u8 (b.toNat : Int)) ∧ p.length = n := by
  cases fuel with
  | zero => simp [DataW.trod] at hf
  | succ m =>
    rw [DataW.trod_step] at hf
    unfold DataW.trodStep at hf
    simp only [ht] at hf
    rw [if_pos (by rw [hct]; exact hl)] at hf
    simp only [Option.map_eq_some_iff] at hf
    obtain ⟨ys, hy, _⟩ := hf
    have hb := mapM_oct he _ ys hy
    rw [hce] at hb
    exact oct_of n hl (fun i hi => by
      obtain ⟨a, ha, h2⟩ := hb i (List.mem_range.2 hi)
      rw [Nat.mul_one] at ha
      exact ⟨a, ha, h2⟩)
end
theorem wf_gen {n : Int} (h : (Lit.int .u32 n).wf = true) : 0 ≤ n ∧ n ≤ 4294967295 := by
  simpa [Lit.wf, IntKind.min, IntKind.max, IntKind.signed, IntKind.bits] using h
section
variable {H : Type} {enc : TypeId × Value → H} {W : World} {base : Nat} {sp : Nat → Bool} {held : Bool}
set_option maxRecDepth 100000 in
theorem read_sup {r : Reach} {b0 : Nat} {v : Value} {d : DataW H} {ps : List MemPlace} (hv : Value.okWide Tryd.prog W r b0 68 v) (h : DataW.Trod enc Tryd.prog W base sp held 68 v d ps) :
    ∃ s : Sup, v = .agg (sv s).toArray ∧ s.u.length = 30 ∧ 0 ≤ s.g ∧ s.g ≤ 4294967295 := by
  obtain ⟨cs, rfl, hs⟩ := okWide_struct Tryd.underlying68 hv
  have h9 : cs.size = 32 := hs.trans (by kernel_rfl)
  obtain ⟨fuel, hf⟩ := h
  obtain ⟨xs, m, _, _, hl, hlen, hx⟩ := DataW.trod_struct Tryd.underlying68 hf
  have x0 := hx 0 _ rfl
  have x1 := hx 1 _ rfl
  have x2 := hx 2 _ rfl
  have hL : (Value.agg cs).cells.toList = cs.toList := rfl
  rw [hL] at x0 x1 x2
  have hxl : xs.length = 3 := hlen
  match xs, hxl with
  | [y0, y1, y2], _ =>
    obtain ⟨g, hg, _, wg⟩ := DataW.trod_int Tryd.underlying37 (show DataW.trod enc Tryd.prog W base sp held m 37 ((cs.toList.drop 0).take 1) = some y0 from x0)
    obtain ⟨k, hk, _, _⟩ := DataW.trod_int Tryd.underlying3 (show DataW.trod enc Tryd.prog W base sp held m 3 ((cs.toList.drop 1).take 1) = some y1 from x1)
    obtain ⟨p, hp, hpl⟩ := trod_oct Tryd.underlying66 Tryd.underlying5 (by kernel_rfl) (by kernel_rfl) (by simp [h9]) (show DataW.trod enc Tryd.prog W base sp held m 66 ((cs.toList.drop 2).take 30) = some y2 from x2)
    have hw := wf_gen wg
    refine ⟨⟨g, k, p⟩, ?_, hpl, hw.1, hw.2⟩
    congr 1
    apply Array.toList_inj.1
    have e1 : cs.toList = (cs.toList.drop 0).take 1 ++ ((cs.toList.drop 1).take 1 ++ (cs.toList.drop 2).take 30) := by
      have h2 : (cs.toList.drop 2).take 30 = cs.toList.drop 2 := List.take_of_length_le (by simp [h9])
      have h3 : (cs.toList.drop 1).take 1 ++ cs.toList.drop 2 = cs.toList.drop 1 := by
        have := List.take_append_drop 1 (cs.toList.drop 1)
        rwa [List.drop_drop] at this
      rw [h2, h3, List.drop_zero, List.take_append_drop]
    rw [e1, hg, hk, hp]
    rfl
end
end Go.Proofs.YtmnkgcgmbdkjaaaDoor
