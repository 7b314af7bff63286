/- The state of all that came in as an argument. -/
import Derived.Test.YtlcnhagcomljnaaDoorRecPPRecUnlike
import Derived.ChangeSame
import Derived.OpenShut
import Derived.WideShapes
import Derived.Deep.MidRow
namespace Go.Proofs.YtlcnhagcomljnaaDoor
open Go.RowKit Go.ChangeShapes Go.WideShapes
set_option linter.unusedVariables false
section
variable {H : Type} {enc : TypeId × Value → H} {P : Program} {W : World} {base : Nat} {sp : Nat → Bool} {held : Bool}
/-- a struct of whole numbers alone -/
theorem ints_struct {r : Reach} {b0 : Nat} {t : TypeId} {fs : Array Field} {v : Value} {d : DataW H} {ps : List MemPlace} (ht : P.underlying t = some (.struct fs)) (n : Nat) (hC : P.cellsOf t = n)
    (hall : ∀ i, i < n → ∃ f, fs[i]? = some f ∧ P.underlying f.type = some (.int .i64) ∧ f.offset = i ∧ P.cellsOf f.type = 1)
    (hv : Value.okWide P W r b0 t v) (h : DataW.Trod enc P W base sp held t v d ps) : ∃ l : List Int, l.length = n ∧ v = .agg (l.map (Value.int .i64)).toArray := by
  obtain ⟨cs, rfl, hs⟩ := okWide_struct ht hv
  obtain ⟨fuel, hf⟩ := h
  obtain ⟨xs, m, _, _, hl, hlen, hx⟩ := DataW.trod_struct ht hf
  have hsz : cs.size = n := hs.trans hC
  have key : ∀ i, i < n → ∃ a : Int, cs.toList[i]? = some (.int .i64 a) := fun i hi => by
    obtain ⟨f, hfi, hu, ho, hc⟩ := hall i hi
    have hh := hx i f hfi
    rw [ho, hc] at hh
    have hi2 : i < xs.length := by
      rw [hlen]; exact (Array.getElem?_eq_some_iff.1 hfi).1
    rw [List.getElem?_eq_getElem hi2] at hh
    obtain ⟨a, ha, _, _⟩ := DataW.trod_int hu hh
    have := congrArg List.head? ha
    rw [List.head?_take, if_neg (by omega), List.head?_drop] at this
    exact ⟨a, this⟩
  refine ⟨cs.toList.map fun v => match v with | .int _ a => a | _ => 0, by simpa using hsz, ?_⟩
  have hL : cs.toList = (cs.toList.map fun v => match v with | .int _ a => a | _ => 0).map (Value.int .i64) := by
    apply List.ext_getElem?
    intro i
    rw [List.getElem?_map, List.getElem?_map]
    by_cases hi : i < n
    · obtain ⟨a, ha⟩ := key i hi
      rw [ha]; rfl
    · rw [List.getElem?_eq_none (by rw [Array.length_toList]; omega)]; rfl
  rw [← hL]
end
theorem argl3 {l : List Int} (h : l.length = 3) : ∃ a b c, l = [a, b, c] := by
  match l, h with
  | [a, b, c], _ => exact ⟨a, b, c, rfl⟩
section
variable {H : Type} {enc : TypeId × Value → H} {W : World} {base : Nat} {sp : Nat → Bool} {held : Bool}
set_option maxRecDepth 100000 in
theorem read_tas {r : Reach} {b0 : Nat} {v : Value} {d : DataW H} {ps : List MemPlace} (hv : Value.okWide Tryd.prog W r b0 38 v) (h : DataW.Trod enc Tryd.prog W base sp held 38 v d ps) :
    ∃ x : Tas, v = .agg #[.int .i64 x.f, .int .i64 x.t, .int .i64 x.s] := by
  obtain ⟨l, hl, rfl⟩ := ints_struct Tryd.underlying38 3 (by kernel_rfl) (fun i hi => by
    have hi2 : i = 0 ∨ i = 1 ∨ i = 2 := by omega
    rcases hi2 with rfl | rfl | rfl <;> exact ⟨_, rfl, Tryd.underlying3, rfl, by kernel_rfl⟩) hv h
  obtain ⟨a, b, c, rfl⟩ := argl3 hl
  exact ⟨⟨a, b, c⟩, rfl⟩
end
section
variable {H : Type} {enc : TypeId × Value → H} {P : Program} {W : World} {base : Nat} {sp : Nat → Bool} {held : Bool}
theorem wf_byte {n : Int} (h : (Lit.int .u8 n).wf = true) : 0 ≤ n ∧ n ≤ 255 := by
  simpa [Lit.wf, IntKind.min, IntKind.max, IntKind.signed, IntKind.bits] using h
theorem mapM_oct {e : TypeId} (he : P.underlying e = some (.int .u8)) {m : Nat} {cs : List Value} {c : Nat} : ∀ (L : List Nat) (xs : List (DataW H × List MemPlace)),
    L.mapM (fun i => DataW.trod enc P W base sp held m e ((cs.drop (i * c)).take c)) = some xs → ∀ i ∈ L, ∃ a : Int, (cs.drop (i * c)).take c = [.int .u8 a] ∧ 0 ≤ a ∧ a ≤ 255
  | [], xs, h, _, hi => by cases hi
  | j :: L, xs, h, i, hi => by
    rw [List.mapM_cons] at h
    simp only [bind, Option.bind_eq_some_iff, pure, Option.some.injEq] at h
    obtain ⟨y, hy, ys, hys, rfl⟩ := h
    obtain ⟨a, ea, _, wa⟩ := DataW.trod_int he hy
    rcases List.mem_cons.1 hi with rfl | hi
    · exact ⟨a, ea, wf_byte wa⟩
    · exact mapM_oct he L ys hys i hi
/-- n bytes as cells -/
theorem oct_of {cs : List Value} (n : Nat) (hl : cs.length = n) (h : ∀ i, i < n → ∃ a : Int, (cs.drop i).take 1 = [.int .u8 a] ∧ 0 ≤ a ∧ a ≤ 255) : ∃ p : List UInt8, cs = p.map (fun b => Value.int .u8 (b.toNat : Int)) ∧ p.length = n := by
  refine ⟨cs.map fun v => match v with | .int _ a => UInt8.ofNat a.toNat | _ => 0, ?_, by rw [List.length_map]; exact hl⟩
  apply List.ext_getElem?
  intro i
  by_cases hi : i < n
  · obtain ⟨a, ha, a0, a1⟩ := h i hi
    have hc : cs[i]? = some (.int .u8 a) := by
      have := congrArg List.head? ha
      rw [List.head?_take, if_neg (by omega), List.head?_drop] at this
      exact this
    rw [List.getElem?_map, List.getElem?_map, hc]
    have e : ((UInt8.ofNat a.toNat).toNat : Int) = a := by rw [UInt8.toNat_ofNat']; omega
    show some (Value.int .u8 a) = some (Value.int .u8 ((UInt8.ofNat a.toNat).toNat : Int))
    rw [e]
  · rw [List.getElem?_eq_none (by omega), List.getElem?_eq_none (by rw [List.length_map, List.length_map]; omega)]
/-- an array of n bytes, read out of its cells -/
theorem trod_oct {n fuel : Nat} {t e : TypeId} {cs : List Value} {x : DataW H × List MemPlace} (ht : P.underlying t = some (.array n e)) (he : P.underlying e = some (.int .u8)) (hct : P.cellsOf t = n) (hce : P.cellsOf e = 1)
    (hl : cs.length = n) (hf : DataW.trod enc P W base sp held fuel t cs = some x) : ∃ p : List UInt8, cs = p.map (fun b => Value.int .u8 (b.toNat : Int)) ∧ p.length = n := by
  cases fuel with
  | zero => simp [DataW.trod] at hf
  | succ m =>
    rw [DataW.trod_step] at hf
    unfold DataW.trodStep at hf
    simp only [ht] at hf
    rw [if_pos (by rw [hct]; exact hl)] at hf
    simp only [Option.map_eq_some_iff] at hf
    obtain ⟨ys, hy, _⟩ := hf
    have hb := mapM_oct he _ ys hy
    rw [hce] at hb
    exact oct_of n hl (fun i hi => by
      obtain ⟨a, ha, h2⟩ := hb i (List.mem_range.2 hi)
      rw [Nat.mul_one] at ha
      exact ⟨a, ha, h2⟩)
end
theorem argl8 {l : List UInt8} (h : l.length = 8) : ∃ b0 b1 b2 b3 b4 b5 b6 b7, l = [b0, b1, b2, b3, b4, b5, b6, b7] := by
  match l, h with
  | [b0, b1, b2, b3, b4, b5, b6, b7], _ => exact ⟨b0, b1, b2, b3, b4, b5, b6, b7, rfl⟩
section
variable {H : Type} {enc : TypeId × Value → H} {W : World} {base : Nat} {sp : Nat → Bool} {held : Bool}
set_option maxRecDepth 100000 in
theorem read_all {r : Reach} {b0 : Nat} {v : Value} {d : DataW H} {ps : List MemPlace} (hv : Value.okWide Tryd.prog W r b0 41 v) (h : DataW.Trod enc Tryd.prog W base sp held 41 v d ps) :
    ∃ (k : Int) (c0 c1 c2 c3 c4 c5 c6 c7 : UInt8), v = .agg #[.int .i64 k, .int .u8 (c0.toNat : Int), .int .u8 (c1.toNat : Int), .int .u8 (c2.toNat : Int), .int .u8 (c3.toNat : Int), .int .u8 (c4.toNat : Int), .int .u8 (c5.toNat : Int), .int .u8 (c6.toNat : Int), .int .u8 (c7.toNat : Int)] := by
  obtain ⟨cs, rfl, hs⟩ := okWide_struct Tryd.underlying41 hv
  have h9 : cs.size = 9 := hs.trans (by kernel_rfl)
  obtain ⟨fuel, hf⟩ := h
  obtain ⟨xs, m, _, _, hl, hlen, hx⟩ := DataW.trod_struct Tryd.underlying41 hf
  have x0 := hx 0 _ rfl
  have x1 := hx 1 _ rfl
  have hL : (Value.agg cs).cells.toList = cs.toList := rfl
  rw [hL] at x0 x1
  have hxl : xs.length = 2 := hlen
  match xs, hxl with
  | [y0, y1], _ =>
    have e0 : (cs.toList.drop 0).take 1 = (cs.toList.drop 0).take 1 := rfl
    obtain ⟨k, hk, _, _⟩ := DataW.trod_int Tryd.underlying3 (show DataW.trod enc Tryd.prog W base sp held m 3 ((cs.toList.drop 0).take 1) = some y0 from x0)
    obtain ⟨p, hp, hpl⟩ := trod_oct Tryd.underlying39 Tryd.underlying5 (by kernel_rfl) (by kernel_rfl) (by simp [h9]) (show DataW.trod enc Tryd.prog W base sp held m 39 ((cs.toList.drop 1).take 8) = some y1 from x1)
    obtain ⟨c0, c1, c2, c3, c4, c5, c6, c7, rfl⟩ := argl8 hpl
    refine ⟨k, c0, c1, c2, c3, c4, c5, c6, c7, ?_⟩
    congr 1
    apply Array.toList_inj.1
    have e1 : cs.toList = (cs.toList.drop 0).take 1 ++ (cs.toList.drop 1).take 8 := by
      rw [List.drop_zero]
      have h2 : (cs.toList.drop 1).take 8 = cs.toList.drop 1 := List.take_of_length_le (by simp [h9])
      rw [h2, List.take_append_drop]
    rw [e1, hk, hp]
    rfl
end
end Go.Proofs.YtlcnhagcomljnaaDoor
