/- Acts that came in as an argument: a slice of structs of five fields, one of them a page. -/
import Derived.Test.YthleapofcoidoaaDoorArgP
import Derived.ChangeSlices
import Derived.OpenShut
import Derived.Deep.Slices
import Derived.Deep.Strs
namespace Go.Proofs.YthleapofcoidoaaDoor
open Go.ChangeShapes Go.WideShapes Go.RowKit Go.Deep
set_option linter.unusedVariables false

theorem mapM_each {α β : Type} {f : α → Option β} : ∀ (L : List α) (ys : List β), L.mapM f = some ys → ∀ x ∈ L, ∃ y, f x = some y
  | [], _, _, _, hx => by cases hx
  | a :: L, ys, h, x, hx => by
    rw [List.mapM_cons] at h
    simp only [bind, Option.bind_eq_some_iff, pure, Option.some.injEq] at h
    obtain ⟨y, hy, zs, hzs, rfl⟩ := h
    rcases List.mem_cons.1 hx with rfl | hx
    · exact ⟨y, hy⟩
    · exact mapM_each L zs hzs x hx
section
variable {H : Type} {enc : TypeId × Value → H} {P : Program} {W : World} {base : Nat} {sp : Nat → Bool} {held : Bool}
theorem bytes_of_trod {t e : TypeId} {fuel : Nat} {cs : List Value} {x : DataW H × List MemPlace} (ht : P.underlying t = some (.array 128 e)) (he : P.underlying e = some (.int .u8)) (hct : P.cellsOf t = 128) (hce : P.cellsOf e = 1)
    (hs : cs.length = 128) (hf : DataW.trod enc P W base sp held fuel t cs = some x) : ∃ p : List UInt8, cs = pv p ∧ p.length = 128 := by
  cases fuel with
  | zero => simp [DataW.trod] at hf
  | succ m =>
    rw [DataW.trod_step] at hf
    unfold DataW.trodStep at hf
    simp only [ht] at hf
    rw [if_pos (by rw [hct]; exact hs)] at hf
    simp only [Option.map_eq_some_iff] at hf
    obtain ⟨ys, hy, e1⟩ := hf
    have hb := mapM_bytes he _ ys hy
    rw [hce] at hb
    exact pv_of_bytes hs (fun i hi => by
      obtain ⟨a, ha, h2⟩ := hb i (List.mem_range.2 hi)
      rw [Nat.mul_one] at ha
      exact ⟨a, ha, h2⟩)
theorem fields_of_trod {t : TypeId} {fs : Array Field} {fuel : Nat} {cs : List Value} {x : DataW H × List MemPlace} (ht : P.underlying t = some (.struct fs)) (hf : DataW.trod enc P W base sp held fuel t cs = some x) :
    ∃ m, ∀ f ∈ fs.toList, ∃ y, DataW.trod enc P W base sp held m f.type ((cs.drop f.offset).take (P.cellsOf f.type)) = some y := by
  cases fuel with
  | zero => simp [DataW.trod] at hf
  | succ m =>
    rw [DataW.trod_step] at hf
    unfold DataW.trodStep at hf
    simp only [ht] at hf
    split at hf
    · simp only [Option.map_eq_some_iff] at hf
      obtain ⟨ys, hy, e1⟩ := hf
      exact ⟨m, mapM_each _ ys hy⟩
    · cases hf
theorem at_of_take {cs : List Value} {n : Nat} {v : Value} (h : (cs.drop n).take 1 = [v]) : cs[n]? = some v := by
  have := congrArg List.head? h
  rw [List.head?_take, if_neg (by omega), List.head?_drop] at this
  exact this
end
structure ActP where
  kind : Int
  at_ : Int
  p : List UInt8
  mask : Int
  torn : Int
structure ActOk (z : ActP) : Prop where
  k : 0 ≤ z.kind ∧ z.kind ≤ 255
  a : -9223372036854775808 ≤ z.at_ ∧ z.at_ ≤ 9223372036854775807
  p : z.p.length = 128
  m : 0 ≤ z.mask ∧ z.mask ≤ 4294967295
  t : -9223372036854775808 ≤ z.torn ∧ z.torn ≤ 9223372036854775807
structure ActAt (W : World) (x : Addr) (z : ActP) : Prop where
  k : W.cell? x = some (.int .u8 z.kind)
  a : W.cell? ⟨x.block, x.off + 1, none⟩ = some (.int .i64 z.at_)
  p : W.rangeAt x.block (x.off + 2) (pv z.p)
  m : W.cell? ⟨x.block, x.off + 130, none⟩ = some (.int .u32 z.mask)
  t : W.cell? ⟨x.block, x.off + 131, none⟩ = some (.int .i64 z.torn)
def ActsAt (W : World) (A : Option Addr) (l : List ActP) : Prop :=
  (∀ a ∈ l, ActOk a) ∧ l.length ≤ maxLen ∧ (0 < l.length → ∃ ad, A = some ad ∧ ∀ i (hi : i < l.length), ActAt W (ad.add (i * 132)) l[i])
theorem wf_b64 {n : Int} (h : (Lit.int .i64 n).wf = true) : -9223372036854775808 ≤ n ∧ n ≤ 9223372036854775807 := by
  simpa [Lit.wf, IntKind.min, IntKind.max, IntKind.signed, IntKind.bits] using h
theorem act_of {H : Type} {enc : TypeId × Value → H} {W : World} {base : Nat} {sp : Nat → Bool} {held : Bool} {fuel : Nat} {cs : List Value} {y : DataW H × List MemPlace} {x : Addr} (hl : cs.length = 132)
    (hat : ∀ j v, cs[j]? = some v → W.cell? (x.add j) = some v) (h : DataW.trod enc Tryd.prog W base sp held fuel 40 cs = some y) : ∃ a, ActOk a ∧ ActAt W x a := by
  obtain ⟨m, hm⟩ := fields_of_trod Tryd.underlying40 h
  obtain ⟨y0, h0⟩ := hm _ (List.mem_cons_self)
  obtain ⟨y1, h1⟩ := hm _ (List.mem_cons_of_mem _ List.mem_cons_self)
  obtain ⟨y2, h2⟩ := hm _ (List.mem_cons_of_mem _ (List.mem_cons_of_mem _ List.mem_cons_self))
  obtain ⟨y3, h3⟩ := hm _ (List.mem_cons_of_mem _ (List.mem_cons_of_mem _ (List.mem_cons_of_mem _ List.mem_cons_self)))
  obtain ⟨y4, h4⟩ := hm _ (List.mem_cons_of_mem _ (List.mem_cons_of_mem _ (List.mem_cons_of_mem _ (List.mem_cons_of_mem _ List.mem_cons_self))))
  have c1 : Tryd.prog.cellsOf 5 = 1 := by kernel_rfl
  have c2 : Tryd.prog.cellsOf 3 = 1 := by kernel_rfl
  have c3 : Tryd.prog.cellsOf 36 = 128 := by kernel_rfl
  have c4 : Tryd.prog.cellsOf 22 = 1 := by kernel_rfl
  simp only at h0 h1 h2 h3 h4
  rw [c1] at h0
  rw [c2] at h1 h4
  rw [c3] at h2
  rw [c4] at h3
  obtain ⟨a0, e0, _, w0⟩ := DataW.trod_int Tryd.underlying5 h0
  obtain ⟨a1, e1, _, w1⟩ := DataW.trod_int Tryd.underlying3 h1
  obtain ⟨p, e2, hp⟩ := bytes_of_trod Tryd.underlying36 Tryd.underlying5 c3 c1 (by rw [List.length_take, List.length_drop, hl]; rfl) h2
  obtain ⟨a3, e3, _, w3⟩ := DataW.trod_int Tryd.underlying22 h3
  obtain ⟨a4, e4, _, w4⟩ := DataW.trod_int Tryd.underlying3 h4
  have far : ∀ j, j ≠ 0 → x.add j = ⟨x.block, x.off + j, none⟩ := fun j hj => by rw [Addr.add, if_neg hj]
  refine ⟨⟨a0, a1, p, a3, a4⟩, ⟨wf_b8 w0, wf_b64 w1, hp, wf_b32 w3, wf_b64 w4⟩, ?_, ?_, ?_, ?_, ?_⟩
  · exact hat 0 _ (at_of_take e0)
  · rw [← far 1 (by omega)]; exact hat 1 _ (at_of_take e1)
  · intro j v hv
    have hj : j < 128 := by have := (List.getElem?_eq_some_iff.1 hv).1; rwa [pv_length, hp] at this
    rw [← e2, List.getElem?_take, if_pos hj, List.getElem?_drop] at hv
    have := hat (2 + j) _ hv
    rw [far (2 + j) (by omega), ← Nat.add_assoc] at this
    exact this
  · rw [← far 130 (by omega)]; exact hat 130 _ (at_of_take e3)
  · rw [← far 131 (by omega)]; exact hat 131 _ (at_of_take e4)
theorem read_acts {H : Type} {enc : TypeId × Value → H} {W : World} {base : Nat} {sp : Nat → Bool} {held : Bool} {a : Option Addr} {len cap : Nat} {d : DataW H} {ps : List MemPlace}
    (h : DataW.Trod enc Tryd.prog W base sp held 31 (.slice a len cap) d ps) : ∃ zs : List ActP, zs.length = len ∧ ActsAt W a zs := by
  obtain ⟨fuel, hf⟩ := h
  have hc : Tryd.prog.cellsOf 40 = 132 := by kernel_rfl
  rcases open_slice Tryd.underlying31 hf with ⟨hcs, _⟩ | ⟨x, l, c, m, n, D, Pl, hcs, _, hl, hm, hmm, _, hi⟩
  · simp [Value.cells] at hcs
    obtain ⟨rfl, rfl, rfl⟩ := hcs
    exact ⟨[], rfl, by simp, by simp [maxLen], fun h => absurd h (by simp)⟩
  · simp [Value.cells] at hcs
    obtain ⟨rfl, rfl, rfl⟩ := hcs
    have hlm : len ≤ m := by rw [hmm]; split <;> omega
    have hex : ∀ i : Nat, ∃ z : ActP, i < len → ActOk z ∧ ActAt W (x.add (i * 132)) z := by
      intro i
      by_cases hil : i < len
      · obtain ⟨cs, hcell, htr⟩ := hi i (by omega)
        rw [hc] at hcell
        obtain ⟨_, hcl, hat⟩ := World.cells?_some hcell
        obtain ⟨z, hz⟩ := act_of hcl (fun j v hv => by
          have hj : j < 132 := by have := (List.getElem?_eq_some_iff.1 hv).1; rwa [hcl] at this
          rw [hat j hj]; exact hv) htr
        exact ⟨z, fun _ => hz⟩
      · exact ⟨⟨0, 0, [], 0, 0⟩, fun h => absurd h hil⟩
    let g : Nat → ActP := fun i => Classical.choose (hex i)
    have hg : ∀ i, i < len → _ := fun i hil => Classical.choose_spec (hex i) hil
    refine ⟨(List.range len).map g, by simp, fun z hz => ?_, by simp; omega, fun _ => ⟨x, rfl, fun i hi => ?_⟩⟩
    · obtain ⟨i, hir, rfl⟩ := List.mem_map.1 hz
      exact (hg i (List.mem_range.1 hir)).1
    · have hil : i < len := by simpa using hi
      rw [List.getElem_map, List.getElem_range]
      exact (hg i hil).2
end Go.Proofs.YthleapofcoidoaaDoor
