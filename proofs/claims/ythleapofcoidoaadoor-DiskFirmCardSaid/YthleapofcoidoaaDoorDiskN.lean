/- disk.New by its contract. -/
import Derived.Test.YthleapofcoidoaaDoorDisk
import Derived.OwnWalk
import Derived.Outline
import Derived.Deep.Cut
namespace Go.Proofs.YthleapofcoidoaaDoor
open Go.RowKit Go.Extern.Stop Go.Stop Go.Extern
set_option linter.unusedVariables false
set_option linter.unusedSimpArgs false

theorem info_pg3 : (Tryd.prog.info? 36).map (fun i => (i.zero, i.size, i.bytes)) = some (some (.agg (pv zp).toArray), 128, 128) := by kernel_rfl
theorem pv_zp : pv zp = List.replicate 128 (cell 0) := List.map_replicate
theorem flat_zp : ∀ n : Nat, flatP (List.replicate n zp) = List.replicate (n * 128) (cell 0)
  | 0 => rfl
  | n + 1 => by
    have ih := flat_zp n
    unfold flatP at ih ⊢
    rw [List.replicate_succ, List.flatMap_cons, ih, pv_zp, List.replicate_append_replicate]
    congr 1
    omega
theorem made_zp (n : Nat) : (madeCells (Value.agg (pv zp).toArray).cells (n * 128)).toList = flatP (List.replicate n zp) := by
  rw [flat_zp]
  apply List.ext_getElem
  · simp [madeCells]
  · intro j h1 h2
    have hz : ∀ k : Nat, k < 128 → ((pv zp).toArray)[k]! = cell 0 := fun k hk => by
      rw [pv_zp, getElem!_pos _ _ (by simpa [-List.reduceReplicate] using hk)]
      simp [-List.reduceReplicate]
    have hs : (pv zp).toArray.size = 128 := by rw [pv_zp]; simp [-List.reduceReplicate]
    simp only [madeCells, Value.cells, Array.getElem_toList, Array.getElem_map, Array.getElem_range, List.getElem_replicate]
    rw [hs]
    exact hz _ (Nat.mod_lt _ (by omega))
theorem range_of_own {w : World} {base g n cap size : Nat} {e : TypeId} {xs : List Value} (h : w.ownsRow base e size (.slice (some ⟨g, 0, none⟩) n cap) n xs) : w.rangeAt g 0 xs ∧ w.there g 0 (n * size) := by
  have hx := h.1
  refine ⟨fun j v hv => ?_, fun j hj => ?_⟩
  · rw [Nat.zero_add, h.cellAt j (by rw [← hx]; exact (List.getElem?_eq_some_iff.1 hv).1), hv]
  · rw [Nat.zero_add]
    exact ⟨by rw [h.cellAt j hj, List.getElem?_eq_getElem (by omega)]; rfl, h.frozenAt j⟩
theorem own_nil1 (W : World) (base : Nat) (e : TypeId) (size : Nat) : W.ownsRow base e size (.slice none 0 0) 0 [] := ⟨by simp, .inl ⟨rfl, rfl⟩⟩
def NewPost (n : Nat) (w : World) (e : Ending) (w' : World) : Prop :=
  ∃ D F, e = .returned (.tuple #[.pointer (some ⟨D, 0, none⟩), .nilIface]) ∧ DiskIn w' w.heap.size D F (.slice none 0 0) (List.replicate n zp) [] false ∧ Below w.heap.size w w'
theorem new_ok (n : Nat) (w : World) (h0 : 1 ≤ n) (h1 : n ≤ 240) : Calls Tryd.prog 17 #[.int .i64 n] w (NewPost n w) := by
  obtain ⟨i0, hi, hz0, hz1, hz2⟩ := info_parts info_pg3
  have HI := Lib.hid (And.intro hi (And.intro hz0 (And.intro hz1 hz2)))
  have hbb : Hid (i0.bytes * n ≤ 281474976710656) := Lib.hid (by rw [hz2]; omega)
  clear hi hz0 hz1 hz2
  go_enter Tryd.func17, Tryd.ntmps17
  go_wp2_with (refine wpList_make_full _ rfl _ _ 77 rfl w.heap.size 36 i0 (.agg (pv zp).toArray) 128 Tryd.underlying77 HI.out.1 HI.out.2.1 HI.out.2.2.1 .i64 .i64 _ _ n rfl rfl rfl rfl hbb.out (by unfold maxLen; omega) (Nat.le_refl _) ?_; intro w1 hown hg; have HO := Lib.hid hown; have HG := Lib.hid hg; have hs1 : w.heap.size < w1.heap.size := (hown.lt _ rfl).2; clear hown hg)
  go_ret2
  have hb1 : Below w.heap.size w w1 := (Below.refl _ _).grown HG.out (Nat.le_refl _) (fun k hk => by cases hk)
  obtain ⟨hr, ht⟩ := range_of_own HO.out
  rw [made_zp] at hr
  have hl : (List.replicate n zp).length = n := List.length_replicate
  refine ⟨w1.heap.size, w.heap.size, rfl, ?_, hb1.alloc hb1.size _⟩
  have ta : Touch (fun _ => False) w1 (w1.alloc (.cells #[.slice (some ⟨w.heap.size, 0, none⟩) n n, .slice none 0 0, .bool false] 80)) := Touch.of_below ((Below.refl _ _).alloc (Nat.le_refl _) _)
  exact { c0 := (by rw [hl]; simp), c1 := (by simp), c2 := (by simp), f1 := (by simp), f2 := (by simp),
          hF := ta.range hr (fun h => h), tF := (by rw [hl]; exact ta.there ht (fun h => h)), hl := own_nil1 _ _ _ _,
          bD := (by omega), bF := Nat.le_refl _, lF := (by simp; omega), ne := (by omega), nD := (by simp [Value.ownBlock]), nF := (by simp [Value.ownBlock]),
          pg := (fun p hp => (List.eq_of_mem_replicate hp).symm ▸ zp_length), pl := (fun x hx => by cases hx), n0 := (by rw [hl]; omega), n1 := (by rw [hl]; omega) }
theorem new_bad (n : Int) (w : World) (h : n < 1 ∨ 240 < n) : Calls Tryd.prog 17 #[.int .i64 n] w fun e w' => ∃ v, e = .returned (.tuple #[.pointer none, v]) ∧ ErrC w.heap.size w' v 1 ∧ Below w.heap.size w w' := by
  by_cases h1 : n < 1
  · have hd : decide (n < 1) = true := by simpa using h1
    go_enter Tryd.func17, Tryd.ntmps17
    go_wp2_with fail
    refine (Tag_err _ 1 _).mono ?_
    rintro e w1 ⟨v, rfl, he, hb⟩
    have HE := Lib.hid he
    have HB := Lib.hid hb
    clear he hb
    go_wp2_with fail
    go_ret2
    exact ⟨_, rfl, HE.out, HB.out⟩
  · have hd : decide (n < 1) = false := by simpa using h1
    have hd2 : decide (240 < n) = true := by simp; omega
    clear h
    go_enter Tryd.func17, Tryd.ntmps17
    go_wp2_with fail
    refine (Tag_err _ 1 _).mono ?_
    rintro e w1 ⟨v, rfl, he, hb⟩
    have HE := Lib.hid he
    have HB := Lib.hid hb
    clear he hb
    go_wp2_with fail
    go_ret2
    exact ⟨_, rfl, HE.out, HB.out⟩
end Go.Proofs.YthleapofcoidoaaDoor
