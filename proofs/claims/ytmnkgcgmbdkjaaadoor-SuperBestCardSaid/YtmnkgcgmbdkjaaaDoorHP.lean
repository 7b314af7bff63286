/- A page that came in as an argument. -/
import Derived.Test.YtmnkgcgmbdkjaaaDoorHB
import Derived.ChangeSame
set_option linter.unusedVariables false
set_option linter.unusedSimpArgs false
namespace Go.Proofs.YtmnkgcgmbdkjaaaDoor
open Go.RowKit Go.ChangeShapes
set_option linter.unusedVariables false
variable {H : Type} {enc : TypeId × Value → H} {P : Program} {W : World} {base : Nat} {sp : Nat → Bool} {held : Bool}

theorem wf_b8 {n : Int} (h : (Lit.int .u8 n).wf = true) : 0 ≤ n ∧ n ≤ 255 := by
  simpa [Lit.wf, IntKind.min, IntKind.max, IntKind.signed, IntKind.bits] using h
theorem wf_b32 {n : Int} (h : (Lit.int .u32 n).wf = true) : 0 ≤ n ∧ n ≤ 4294967295 := by
  simpa [Lit.wf, IntKind.min, IntKind.max, IntKind.signed, IntKind.bits] using h
theorem mapM_bytes {e : TypeId} (he : P.underlying e = some (.int .u8)) {m : Nat} {cs : List Value} {c : Nat} : ∀ (L : List Nat) (xs : List (DataW H × List MemPlace)),
    L.mapM (fun i => DataW.trod enc P W base sp held m e ((cs.drop (i * c)).take c)) = some xs → ∀ i ∈ L, ∃ a : Int, (cs.drop (i * c)).take c = [.int .u8 a] ∧ 0 ≤ a ∧ a ≤ 255
  | [], xs, h, _, hi => by cases hi
  | j :: L, xs, h, i, hi => by
    rw [List.mapM_cons] at h
    simp only [bind, Option.bind_eq_some_iff, pure, Option.some.injEq] at h
    obtain ⟨y, hy, ys, hys, rfl⟩ := h
    obtain ⟨a, ea, rfl, wa⟩ := DataW.trod_int he hy
    rcases List.mem_cons.1 hi with rfl | hi
    · exact ⟨a, ea, wf_b8 wa⟩
    · exact mapM_bytes he L ys hys i hi
/-- 128 bytes as cells are a page's -/
theorem pv_of_bytes {cs : List Value} (hl : cs.length = 128) (h : ∀ i, i < 128 → ∃ a : Int, (cs.drop i).take 1 = [.int .u8 a] ∧ 0 ≤ a ∧ a ≤ 255) : ∃ p : List UInt8, cs = pv p ∧ p.length = 128 := by
  refine ⟨cs.map fun v => match v with | .int _ a => UInt8.ofNat a.toNat | _ => 0, ?_, by rw [List.length_map]; exact hl⟩
  apply List.ext_getElem?
  intro i
  by_cases hi : i < 128
  · obtain ⟨a, ha, a0, a1⟩ := h i hi
    have hc : cs[i]? = some (.int .u8 a) := by
      have := congrArg List.head? ha
      rw [List.head?_take, if_neg (by omega), List.head?_drop] at this
      exact this
    rw [pv, List.getElem?_map, List.getElem?_map, hc]
    have e : ((UInt8.ofNat a.toNat).toNat : Int) = a := by rw [UInt8.toNat_ofNat']; omega
    show some (Value.int .u8 a) = some (Value.int .u8 ((UInt8.ofNat a.toNat).toNat : Int))
    rw [e]
  · rw [List.getElem?_eq_none (by omega), List.getElem?_eq_none (by rw [pv_length, List.length_map]; omega)]
theorem open_pg {r : Reach} {b0 : Nat} {t e : TypeId} {v : Value} {d : DataW H} {ps : List MemPlace} (ht : P.underlying t = some (.array 128 e)) (he : P.underlying e = some (.int .u8)) (hct : P.cellsOf t = 128) (hce : P.cellsOf e = 1)
    (hv : Value.okWide P W r b0 t v) (h : DataW.Trod enc P W base sp held t v d ps) : ∃ p : List UInt8, v = .agg (pv p).toArray ∧ p.length = 128 := by
  simp only [Value.okWide, ht] at hv
  obtain ⟨cs, rfl, hs, _⟩ := hv
  rw [hct] at hs
  obtain ⟨fuel, hf⟩ := h
  cases fuel with
  | zero => simp [DataW.trod] at hf
  | succ m =>
    rw [DataW.trod_step] at hf
    unfold DataW.trodStep at hf
    simp only [ht, Value.cells] at hf
    rw [if_pos (by rw [hct]; simpa using hs)] at hf
    simp only [Option.map_eq_some_iff] at hf
    obtain ⟨ys, hy, e1⟩ := hf
    have hb := mapM_bytes he _ ys hy
    rw [hce] at hb
    obtain ⟨p, hp, hl⟩ := pv_of_bytes (cs := cs.toList) (by simpa using hs) (fun i hi => by
      obtain ⟨a, ha, h2⟩ := hb i (List.mem_range.2 hi)
      rw [Nat.mul_one] at ha
      exact ⟨a, ha, h2⟩)
    exact ⟨p, by rw [← hp], hl⟩
end Go.Proofs.YtmnkgcgmbdkjaaaDoor
