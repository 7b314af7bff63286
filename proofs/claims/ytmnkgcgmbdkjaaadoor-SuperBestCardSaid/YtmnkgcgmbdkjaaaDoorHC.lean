/- Writes that aren't firm: a number and a page, 129 cells. The disk in memory; disk.New, Size, Soft, may, Up by their contracts. disk.New by its contract. (*disk.Disk).Read by its contract. Regions that draw and end in a store: what comes first, in the text's order, pages whole; a slice of one write. (*disk.Disk).Write by its contract. (*disk.Disk).Flush by its contract. (*disk.Disk).Crash by its contract. -/
import Derived.Test.YtmnkgcgmbdkjaaaDoorHB
import Derived.Great.BuildSlice
import Derived.OwnWalk
import Derived.Outline
import Derived.Deep.Cut
import Derived.Deep.LoopGhost
import Derived.Deep.CutRange
import Derived.StillTailTactics
import Derived.Laws.AppendOwn
import Derived.Deep.RegionHeld3
import Derived.Deep.AppendLies
set_option linter.unusedVariables false
set_option linter.unusedSimpArgs false
namespace Go.Proofs.YtmnkgcgmbdkjaaaDoor
open Go.RowKit Go.Extern.Stop Go.Stop Go.Extern
set_option linter.unusedVariables false
set_option linter.unusedSimpArgs false

def lv (i : Int) (p : Pg) : List Value := .int .i64 i :: pv p
theorem lv_length (i : Int) (p : Pg) : (lv i p).length = p.length + 1 := by simp [lv, pv_length]
theorem lv_one (i : Int) (p : Pg) : ∀ v ∈ lv i p, v.oneCell' = true := fun v hv => by
  rcases List.mem_cons.1 hv with rfl | hv
  · rfl
  · exact pv_one p v hv
theorem info_ls : (Tryd.prog.info? 127).map (fun i => (i.zero, i.size, i.bytes)) = some (some (.agg (lv 0 zp).toArray), 129, 136) := by kernel_rfl
theorem info_ls2 : (Tryd.prog.info? 127).map (fun i => (i.zero, i.size)) = some (some (.agg (lv 0 zp).toArray), 129) := by kernel_rfl
theorem zero_ls : ∀ w, (zeroValue 127).run Tryd.prog w = .ok (.agg (lv 0 zp).toArray) w := (zero_of_info info_ls2).1
theorem size_ls : (Tryd.prog.info? 127).map (·.size) = some 129 := (zero_of_info info_ls2).2
theorem built_eq (parts : List (Nat × Value)) : Tryd.prog.built 127 parts = Instr.fill (#[(0, 1), (1, 128)][·]?) (lv 0 zp).toArray parts := by kernel_rfl
theorem fold_one (i : Int) (C : Array Value) : (Value.int .i64 i).cells.zipIdx.foldl (fun cs (x : Value × Nat) => cs.setIfInBounds (0 + x.2) x.1) C = C.setIfInBounds 0 (.int .i64 i) := by
  simp [Value.cells]
theorem built_ls (i : Int) (p : Pg) (hp : p.length = 128) : Tryd.prog.built 127 [(0, .int .i64 i), (1, .agg (pv p).toArray)] = some (lv i p).toArray := by
  rw [built_eq]
  obtain ⟨g1, g2⟩ := Go.Great.foldl_set 1 (pv p) 0 ((lv 0 zp).toArray.setIfInBounds 0 (.int .i64 i))
  have hz : (lv 0 zp).length = 129 := by rw [lv_length, zp_length]
  have hpl : (pv p).length = 128 := by rw [pv_length, hp]
  simp only [Instr.fill]
  have e0 : (#[(0, 1), (1, 128)] : Array (Nat × Nat))[0]? = some (0, 1) := rfl
  have e1 : (#[(0, 1), (1, 128)] : Array (Nat × Nat))[1]? = some (1, 128) := rfl
  simp only [e0, e1]
  rw [if_neg (by simp [Value.cells, hz])]
  rw [if_neg (by simp [Value.cells, hz, hpl])]
  congr 1
  have hc : (Value.agg (pv p).toArray).cells.zipIdx.foldl (fun cs (x : Value × Nat) => cs.setIfInBounds (1 + x.2) x.1) ((lv 0 zp).toArray.setIfInBounds 0 (.int .i64 i)) = ((pv p).zipIdx 0).foldl (fun cs (x : Value × Nat) => cs.setIfInBounds (1 + x.2) x.1) ((lv 0 zp).toArray.setIfInBounds 0 (.int .i64 i)) := by
    show ((pv p).toArray.zipIdx).foldl _ _ = _
    rw [← Array.foldl_toList, Array.toList_zipIdx]
  apply Array.ext_getElem?
  intro k
  have h0 : (Value.int .i64 i).cells.zipIdx.foldl (fun cs (x : Value × Nat) => cs.setIfInBounds (0 + x.2) x.1) (lv 0 zp).toArray = (lv 0 zp).toArray.setIfInBounds 0 (.int .i64 i) := fold_one i _
  rw [h0, hc, g2 k]
  have hs : ((lv 0 zp).toArray.setIfInBounds 0 (.int .i64 i)).size = 129 := by simp [hz]
  rw [hs, hpl]
  have hl : (lv i p).length = 129 := by rw [lv_length, hp]
  match k with
  | 0 =>
    rw [if_neg (by omega)]
    simp [lv, hz]
  | k + 1 =>
    by_cases hk : k < 128
    · rw [if_pos ⟨by omega, by omega, by omega⟩]
      simp [lv]
    · rw [if_neg (by omega), Array.getElem?_eq_none (by omega), Array.getElem?_eq_none (by simp [hl]; omega)]
end Go.Proofs.YtmnkgcgmbdkjaaaDoor
namespace Go.Proofs.YtmnkgcgmbdkjaaaDoor
open Go.RowKit Go.Extern.Stop Go.Stop Go.Extern
set_option linter.unusedVariables false
set_option linter.unusedSimpArgs false

abbrev Ls := List (Int × Pg)
def flatP (l : List Pg) : List Value := l.flatMap pv
def flatL (l : Ls) : List Value := l.flatMap fun x => lv x.1 x.2
/-- a disk that lies in the blocks D (its struct), F (its sectors) and the loose writes' own -/
structure DiskIn (w : World) (base D F : Nat) (v : Value) (firm : List Pg) (loose : Ls) (down : Bool) : Prop where
  c0 : w.cell? ⟨D, 0, none⟩ = some (.slice (some ⟨F, 0, none⟩) firm.length firm.length)
  c1 : w.cell? ⟨D, 1, none⟩ = some v
  c2 : w.cell? ⟨D, 2, none⟩ = some (.bool down)
  f1 : w.frozen? ⟨D, 1, none⟩ = false
  f2 : w.frozen? ⟨D, 2, none⟩ = false
  hF : w.rangeAt F 0 (flatP firm)
  tF : w.there F 0 (firm.length * 128)
  hl : w.ownsRow base 127 129 v loose.length (flatL loose)
  bD : base ≤ D
  bF : base ≤ F
  lF : F < w.heap.size
  ne : D ≠ F
  nD : v.ownBlock ≠ some D
  nF : v.ownBlock ≠ some F
  pg : ∀ p ∈ firm, p.length = 128
  pl : ∀ x ∈ loose, x.2.length = 128 ∧ 0 ≤ x.1 ∧ x.1 < firm.length
  n0 : 0 < firm.length
  n1 : firm.length ≤ 240
/-- the disk's blocks -/
def Its (D F : Nat) (v : Value) : Nat → Prop := fun k => k = D ∨ k = F ∨ v.ownBlock = some k
theorem DiskIn.lD {w : World} {base D F : Nat} {v : Value} {firm : List Pg} {loose : Ls} {down : Bool} (h : DiskIn w base D F v firm loose down) : D < w.heap.size := cell_lt (p := ⟨D, 0, none⟩) h.c0
theorem own_mv {w w' : World} {base : Nat} {e : TypeId} {size n : Nat} {v : Value} {xs : List Value} (h : w.ownsRow base e size v n xs) (hm : ∀ k, v.ownBlock = some k → w'.heap[k]? = w.heap[k]?) : w'.ownsRow base e size v n xs := by
  obtain ⟨h1, h2⟩ := h
  refine ⟨h1, ?_⟩
  rcases h2 with h2 | ⟨g, cap, cur, rfl, hg, hh, r⟩
  · exact .inl h2
  · exact .inr ⟨g, cap, cur, rfl, hg, (hm g rfl).trans hh, r⟩
/-- what leaves the disk's blocks alone leaves the disk -/
theorem DiskIn.keep {S : Nat → Prop} {w w' : World} {base D F : Nat} {v : Value} {firm : List Pg} {loose : Ls} {down : Bool} (h : DiskIn w base D F v firm loose down) (ht : Touch S w w') (hn : ∀ k, Its D F v k → ¬ S k) : DiskIn w' base D F v firm loose down where
  c0 := ht.cell h.c0 (hn _ (.inl rfl))
  c1 := ht.cell h.c1 (hn _ (.inl rfl))
  c2 := ht.cell h.c2 (hn _ (.inl rfl))
  f1 := by rw [World.frozen?_of_block (ht.block D h.lD (hn _ (.inl rfl)))]; exact h.f1
  f2 := by rw [World.frozen?_of_block (ht.block D h.lD (hn _ (.inl rfl)))]; exact h.f2
  hF := ht.range h.hF (hn _ (.inr (.inl rfl)))
  tF := ht.there h.tF (hn _ (.inr (.inl rfl)))
  hl := own_mv h.hl (fun k hk => ht.block k (h.hl.lt k hk).2 (hn _ (.inr (.inr hk))))
  bD := h.bD
  bF := h.bF
  lF := Nat.lt_of_lt_of_le h.lF ht.size
  ne := h.ne
  nD := h.nD
  nF := h.nF
  pg := h.pg
  pl := h.pl
  n0 := h.n0
  n1 := h.n1
theorem DiskIn.under {w w' : World} {base D F : Nat} {v : Value} {firm : List Pg} {loose : Ls} {down : Bool} (h : DiskIn w base D F v firm loose down) (hb : Below w.heap.size w w') : DiskIn w' base D F v firm loose down :=
  h.keep (Touch.of_below (S := fun _ => False) hb) (fun _ _ q => q)
def mayC (down : Bool) (n : Nat) (i : Int) : Int := if down = true then 7 else if 0 ≤ i ∧ i < n then 0 else 1

theorem may_nil (i : Int) (w : World) : Calls Tryd.prog 74 #[.pointer none, .int .i64 i] w fun e w' => ∃ v, e = .returned v ∧ ErrC w.heap.size w' v 1 ∧ Below w.heap.size w w' := by
  go_enter Tryd.func74, Tryd.ntmps74
  go_wp2_with fail
  refine (Tag_err _ 1 _).mono ?_
  rintro e w1 ⟨v, rfl, he, hb⟩
  have HE := Lib.hid he
  have HB := Lib.hid hb
  clear he hb
  go_wp2_with fail
  go_ret
  exact ⟨_, rfl, HE.out, HB.out⟩
theorem may_any {w : World} {base D F : Nat} {v : Value} {firm : List Pg} {loose : Ls} {down : Bool} (i : Int) (h : DiskIn w base D F v firm loose down) :
    Calls Tryd.prog 74 #[.pointer (some ⟨D, 0, none⟩), .int .i64 i] w fun e w' => ∃ v, e = .returned v ∧ ErrC w.heap.size w' v (mayC down firm.length i) ∧ Below w.heap.size w w' := by
  have c0 := h.c0
  have c2 := h.c2
  have hn1 := h.n1
  generalize hn : firm.length = n at c0 hn1 ⊢
  clear hn h
  cases down with
  | true =>
    go_enter Tryd.func74, Tryd.ntmps74
    go_wp2_with fail
    refine (Tag_err _ 7 _).mono ?_
    rintro e w1 ⟨v, rfl, he, hb⟩
    have HE := Lib.hid he
    have HB := Lib.hid hb
    clear he hb
    go_wp2_with fail
    go_ret
    exact ⟨_, rfl, HE.out, HB.out⟩
  | false =>
    by_cases h0 : i < 0
    · have hd : decide (i < 0) = true := by simpa using h0
      have hc : Hid (mayC false n i = 1) := by show _ = _; unfold mayC; rw [if_neg (by simp), if_neg (by omega)]
      go_enter Tryd.func74, Tryd.ntmps74
      go_wp2_with fail
      refine (Tag_err _ 1 _).mono ?_
      rintro e w1 ⟨v, rfl, he, hb⟩
      have HE := Lib.hid he
      have HB := Lib.hid hb
      clear he hb
      go_wp2_with fail
      go_ret
      exact ⟨_, rfl, by rw [hc.out]; exact HE.out, HB.out⟩
    · have hd : decide (i < 0) = false := by simpa using h0
      by_cases h1 : (n : Int) ≤ i
      · have hd1 : decide ((n : Int) ≤ i) = true := by simpa using h1
        have hc : Hid (mayC false n i = 1) := by show _ = _; unfold mayC; rw [if_neg (by simp), if_neg (by omega)]
        go_enter Tryd.func74, Tryd.ntmps74
        go_wp2_with fail
        refine (Tag_err _ 1 _).mono ?_
        rintro e w1 ⟨v, rfl, he, hb⟩
        have HE := Lib.hid he
        have HB := Lib.hid hb
        clear he hb
        go_wp2_with fail
        go_ret
        exact ⟨_, rfl, by rw [hc.out]; exact HE.out, HB.out⟩
      · have hd1 : decide ((n : Int) ≤ i) = false := by simpa using h1
        have hc : Hid (mayC false n i = 0) := by show _ = _; unfold mayC; rw [if_neg (by simp), if_pos (by omega)]
        go_enter Tryd.func74, Tryd.ntmps74
        go_wp2_with fail
        go_ret
        exact ⟨_, rfl, by rw [hc.out]; exact ErrC.nil _ _, Below.refl _ _⟩
theorem size_nil (w : World) : Calls Tryd.prog 22 #[.pointer none] w fun e w' => e = .returned (.int .i64 0) ∧ w' = w := by
  go_enter Tryd.func22, Tryd.ntmps22
  go_wp2
  go_ret
  exact ⟨rfl, rfl⟩
theorem size_any {w : World} {base D F : Nat} {v : Value} {firm : List Pg} {loose : Ls} {down : Bool} (h : DiskIn w base D F v firm loose down) :
    Calls Tryd.prog 22 #[.pointer (some ⟨D, 0, none⟩)] w fun e w' => e = .returned (.int .i64 firm.length) ∧ w' = w := by
  have c0 := h.c0
  clear h
  go_enter Tryd.func22, Tryd.ntmps22
  go_wp2
  go_ret
  exact ⟨rfl, rfl⟩
theorem own_slice {w : World} {base : Nat} {e : TypeId} {size n : Nat} {v : Value} {xs : List Value} (h : w.ownsRow base e size v n xs) : ∃ A c, v = .slice A n c := by
  rcases h.2 with ⟨rfl, rfl⟩ | ⟨g, cap, cur, rfl, _⟩
  · exact ⟨_, _, rfl⟩
  · exact ⟨_, _, rfl⟩
theorem soft_nil (w : World) : Calls Tryd.prog 31 #[.pointer none] w fun e w' => e = .returned (.int .i64 0) ∧ w' = w := by
  go_enter Tryd.func31, Tryd.ntmps31
  go_wp2
  go_ret
  exact ⟨rfl, rfl⟩
theorem soft_any {w : World} {base D F : Nat} {v : Value} {firm : List Pg} {loose : Ls} {down : Bool} (h : DiskIn w base D F v firm loose down) :
    Calls Tryd.prog 31 #[.pointer (some ⟨D, 0, none⟩)] w fun e w' => e = .returned (.int .i64 loose.length) ∧ w' = w := by
  obtain ⟨A, c, rfl⟩ := own_slice h.hl
  have c1 := h.c1
  clear h
  go_enter Tryd.func31, Tryd.ntmps31
  go_wp2
  go_ret
  exact ⟨rfl, rfl⟩
theorem up_nil (w : World) : Calls Tryd.prog 27 #[.pointer none] w fun e w' => e = .returned (.tuple #[]) ∧ w' = w := by
  go_enter Tryd.func27, Tryd.ntmps27
  go_wp2
  go_end0
  exact ⟨rfl, rfl⟩
theorem touch_set {S : Nat → Prop} (w : World) (b o : Nat) (u : Value) (hb : S b) : Touch S w (w.setCell ⟨b, o, none⟩ u) := Touch.setCells (Touch.refl S w) b (.inl hb) [u] o w (Touch.refl S w)
theorem up_any {w : World} {base D F : Nat} {v : Value} {firm : List Pg} {loose : Ls} {down : Bool} (h : DiskIn w base D F v firm loose down) :
    Calls Tryd.prog 27 #[.pointer (some ⟨D, 0, none⟩)] w fun e w' => e = .returned (.tuple #[]) ∧ DiskIn w' base D F v firm loose false ∧ Touch (Its D F v) w w' := by
  have c2 := h.c2
  have f2 := h.f2
  have H := Lib.hid h
  clear h
  go_enter Tryd.func27, Tryd.ntmps27
  go_wp2
  go_end0
  have ht := touch_set (S := fun k => k = D) w D 2 (.bool false) rfl
  have hD := H.out.lD
  refine ⟨rfl, ?_, ht.mono (fun k hk => .inl hk)⟩
  have hh := H.out
  exact { c0 := by rw [World.cell?_setCell_other _ _ _ _ (by simp)]; exact hh.c0,
          c1 := by rw [World.cell?_setCell_other _ _ _ _ (by simp)]; exact hh.c1,
          c2 := World.cell?_setCell_same _ _ _ hh.c2,
          f1 := by rw [World.frozen?_setCell]; exact hh.f1, f2 := by rw [World.frozen?_setCell]; exact hh.f2,
          hF := ht.range hh.hF (fun e => hh.ne e.symm), tF := ht.there hh.tF (fun e => hh.ne e.symm),
          hl := own_mv hh.hl (fun k hk => ht.block k (hh.hl.lt k hk).2 (fun e => hh.nD (e ▸ hk))),
          bD := hh.bD, bF := hh.bF, lF := Nat.lt_of_lt_of_le hh.lF ht.size, ne := hh.ne, nD := hh.nD, nF := hh.nF, pg := hh.pg, pl := hh.pl, n0 := hh.n0, n1 := hh.n1 }
end Go.Proofs.YtmnkgcgmbdkjaaaDoor
namespace Go.Proofs.YtmnkgcgmbdkjaaaDoor
open Go.RowKit Go.Extern.Stop Go.Stop Go.Extern
set_option linter.unusedVariables false
set_option linter.unusedSimpArgs false

theorem info_pg3 : (Tryd.prog.info? 36).map (fun i => (i.zero, i.size, i.bytes)) = some (some (.agg (pv zp).toArray), 128, 128) := by kernel_rfl
theorem pv_zp : pv zp = List.replicate 128 (cell 0) := List.map_replicate
theorem flat_zp : ∀ n : Nat, flatP (List.replicate n zp) = List.replicate (n * 128) (cell 0)
  | 0 => rfl
  | n + 1 => by
    have ih := flat_zp n
    unfold flatP at ih ⊢
    rw [List.replicate_succ, List.flatMap_cons, ih, pv_zp, List.replicate_append_replicate]
    congr 1
    omega
theorem made_zp (n : Nat) : (madeCells (Value.agg (pv zp).toArray).cells (n * 128)).toList = flatP (List.replicate n zp) := by
  rw [flat_zp]
  apply List.ext_getElem
  · simp [madeCells]
  · intro j h1 h2
    have hz : ∀ k : Nat, k < 128 → ((pv zp).toArray)[k]! = cell 0 := fun k hk => by
      rw [pv_zp, getElem!_pos _ _ (by simpa [-List.reduceReplicate] using hk)]
      simp [-List.reduceReplicate]
    have hs : (pv zp).toArray.size = 128 := by rw [pv_zp]; simp [-List.reduceReplicate]
    simp only [madeCells, Value.cells, Array.getElem_toList, Array.getElem_map, Array.getElem_range, List.getElem_replicate]
    rw [hs]
    exact hz _ (Nat.mod_lt _ (by omega))
theorem range_of_own {w : World} {base g n cap size : Nat} {e : TypeId} {xs : List Value} (h : w.ownsRow base e size (.slice (some ⟨g, 0, none⟩) n cap) n xs) : w.rangeAt g 0 xs ∧ w.there g 0 (n * size) := by
  have hx := h.1
  refine ⟨fun j v hv => ?_, fun j hj => ?_⟩
  · rw [Nat.zero_add, h.cellAt j (by rw [← hx]; exact (List.getElem?_eq_some_iff.1 hv).1), hv]
  · rw [Nat.zero_add]
    exact ⟨by rw [h.cellAt j hj, List.getElem?_eq_getElem (by omega)]; rfl, h.frozenAt j⟩
theorem own_nil1 (W : World) (base : Nat) (e : TypeId) (size : Nat) : W.ownsRow base e size (.slice none 0 0) 0 [] := ⟨by simp, .inl ⟨rfl, rfl⟩⟩
def NewPost (n : Nat) (w : World) (e : Ending) (w' : World) : Prop :=
  ∃ D F, e = .returned (.tuple #[.pointer (some ⟨D, 0, none⟩), .nilIface]) ∧ DiskIn w' w.heap.size D F (.slice none 0 0) (List.replicate n zp) [] false ∧ Below w.heap.size w w'
theorem new_ok (n : Nat) (w : World) (h0 : 1 ≤ n) (h1 : n ≤ 240) : Calls Tryd.prog 20 #[.int .i64 n] w (NewPost n w) := by
  obtain ⟨i0, hi, hz0, hz1, hz2⟩ := info_parts info_pg3
  have HI := Lib.hid (And.intro hi (And.intro hz0 (And.intro hz1 hz2)))
  have hbb : Hid (i0.bytes * n ≤ 281474976710656) := Lib.hid (by rw [hz2]; omega)
  clear hi hz0 hz1 hz2
  go_enter Tryd.func20, Tryd.ntmps20
  go_wp2_with (refine wpList_make_full _ rfl _ _ 120 rfl w.heap.size 36 i0 (.agg (pv zp).toArray) 128 Tryd.underlying120 HI.out.1 HI.out.2.1 HI.out.2.2.1 .i64 .i64 _ _ n rfl rfl rfl rfl hbb.out (by unfold maxLen; omega) (Nat.le_refl _) ?_; intro w1 hown hg; have HO := Lib.hid hown; have HG := Lib.hid hg; have hs1 : w.heap.size < w1.heap.size := (hown.lt _ rfl).2; clear hown hg)
  go_ret2
  have hb1 : Below w.heap.size w w1 := (Below.refl _ _).grown HG.out (Nat.le_refl _) (fun k hk => by cases hk)
  obtain ⟨hr, ht⟩ := range_of_own HO.out
  rw [made_zp] at hr
  have hl : (List.replicate n zp).length = n := List.length_replicate
  refine ⟨w1.heap.size, w.heap.size, rfl, ?_, hb1.alloc hb1.size _⟩
  have ta : Touch (fun _ => False) w1 (w1.alloc (.cells #[.slice (some ⟨w.heap.size, 0, none⟩) n n, .slice none 0 0, .bool false] 123)) := Touch.of_below ((Below.refl _ _).alloc (Nat.le_refl _) _)
  exact { c0 := (by rw [hl]; simp), c1 := (by simp), c2 := (by simp), f1 := (by simp), f2 := (by simp),
          hF := ta.range hr (fun h => h), tF := (by rw [hl]; exact ta.there ht (fun h => h)), hl := own_nil1 _ _ _ _,
          bD := (by omega), bF := Nat.le_refl _, lF := (by simp; omega), ne := (by omega), nD := (by simp [Value.ownBlock]), nF := (by simp [Value.ownBlock]),
          pg := (fun p hp => (List.eq_of_mem_replicate hp).symm ▸ zp_length), pl := (fun x hx => by cases hx), n0 := (by rw [hl]; omega), n1 := (by rw [hl]; omega) }
theorem new_bad (n : Int) (w : World) (h : n < 1 ∨ 240 < n) : Calls Tryd.prog 20 #[.int .i64 n] w fun e w' => ∃ v, e = .returned (.tuple #[.pointer none, v]) ∧ ErrC w.heap.size w' v 1 ∧ Below w.heap.size w w' := by
  by_cases h1 : n < 1
  · have hd : decide (n < 1) = true := by simpa using h1
    go_enter Tryd.func20, Tryd.ntmps20
    go_wp2_with fail
    refine (Tag_err _ 1 _).mono ?_
    rintro e w1 ⟨v, rfl, he, hb⟩
    have HE := Lib.hid he
    have HB := Lib.hid hb
    clear he hb
    go_wp2_with fail
    go_ret2
    exact ⟨_, rfl, HE.out, HB.out⟩
  · have hd : decide (n < 1) = false := by simpa using h1
    have hd2 : decide (240 < n) = true := by simp; omega
    clear h
    go_enter Tryd.func20, Tryd.ntmps20
    go_wp2_with fail
    refine (Tag_err _ 1 _).mono ?_
    rintro e w1 ⟨v, rfl, he, hb⟩
    have HE := Lib.hid he
    have HB := Lib.hid hb
    clear he hb
    go_wp2_with fail
    go_ret2
    exact ⟨_, rfl, HE.out, HB.out⟩
end Go.Proofs.YtmnkgcgmbdkjaaaDoor
namespace Go.Proofs.YtmnkgcgmbdkjaaaDoor
open Go.RowKit Go.Extern.Stop Go.Stop Go.Extern
set_option linter.unusedVariables false
set_option linter.unusedSimpArgs false

/-- parts of as many cells each, side by side -/
theorem flat_at {α : Type} (f : α → List Value) (s : Nat) : ∀ (l : List α) (i j : Nat) (hi : i < l.length), (∀ x ∈ l, (f x).length = s) → j < s → (l.flatMap f)[i * s + j]? = (f l[i])[j]?
  | [], i, j, hi, _, _ => absurd hi (Nat.not_lt_zero _)
  | x :: l, 0, j, hi, h, hj => by
    rw [List.flatMap_cons, Nat.zero_mul, Nat.zero_add, List.getElem?_append_left (by rw [h x List.mem_cons_self]; exact hj)]; rfl
  | x :: l, i + 1, j, hi, h, hj => by
    have hx := h x List.mem_cons_self
    rw [List.flatMap_cons, List.getElem?_append_right (by rw [hx, Nat.succ_mul]; omega), hx, show (i + 1) * s + j - s = i * s + j by rw [Nat.succ_mul]; omega]
    exact flat_at f s l i j (by simpa using hi) (fun y hy => h y (List.mem_cons_of_mem _ hy)) hj
theorem range_part {w : World} {F : Nat} {firm : List Pg} (h : w.rangeAt F 0 (flatP firm)) (hp : ∀ p ∈ firm, p.length = 128) (i : Nat) (hi : i < firm.length) : w.rangeAt F (i * 128) (pv firm[i]) := fun j v hv => by
  have hj : j < 128 := by have := (List.getElem?_eq_some_iff.1 hv).1; rwa [pv_length, hp _ (List.getElem_mem hi)] at this
  have := h (i * 128 + j) v (by rw [flatP, flat_at pv 128 firm i j hi (fun p h => by rw [pv_length, hp p h]) hj]; exact hv)
  rwa [Nat.zero_add] at this
theorem own_part {w : World} {base n g cap : Nat} {e : TypeId} {loose : Ls} (h : w.ownsRow base e 129 (.slice (some ⟨g, 0, none⟩) n cap) n (flatL loose)) (hn : n = loose.length) (hp : ∀ x ∈ loose, x.2.length = 128) (i : Nat) (hi : i < loose.length) : w.rangeAt g (i * 129) (lv loose[i].1 loose[i].2) := fun j v hv => by
  have hj : j < 129 := by have := (List.getElem?_eq_some_iff.1 hv).1; rwa [lv_length, hp _ (List.getElem_mem hi)] at this
  rw [h.cellAt (i * 129 + j) (by omega), flatL, flat_at (fun x : Int × Pg => lv x.1 x.2) 129 loose i j hi (fun x hx => by rw [lv_length, hp x hx]) hj, hv]
variable {ops : Array Oper} {rest : List Oper} {op : Oper} {a : Act} {w : World} {Q : Exit → Act → World → Prop}
/-- a write out of wherever it lies -/
theorem ld_ls (hgd : op.guard = none) (x : Operand) (ho : op.op = .load 127 x) (b o : Nat) (hx : a.eval x = .pointer (some ⟨b, o, none⟩)) (i : Int) (p : Pg) (hp : p.length = 128) (hc : w.rangeAt b o (lv i p))
    (h : wpList Tryd.prog ops Q rest (a.put op.dst (.agg (lv i p).toArray)) w) : wpList Tryd.prog ops Q (op :: rest) a w :=
  wpList_load_mid hgd 127 x ho b o hx (lv i p) _ hc Tryd.underlying127 rfl (by rw [size_ls, lv_length, hp]) h
/-- a write into the variable that was made last -/
theorem st_nls (hgd : op.guard = none) (x y : Operand) (ho : op.op = .store 127 x y) (w0 : World) (c : Array Value) (t : TypeId) (hw : w = w0.alloc (.cells c t)) (hx : a.eval x = .pointer (some ⟨w0.heap.size, 0, none⟩)) (i : Int) (p : Pg) (hp : p.length = 128) (hy : a.eval y = .agg (lv i p).toArray) (hc : c.size = 129)
    (h : wpList Tryd.prog ops Q rest (a.put op.dst undef) (w0.alloc (.cells (lv i p).toArray t))) : wpList Tryd.prog ops Q (op :: rest) a w := by
  subst hw
  refine wpList_plain hgd fun K hK => ?_
  unfold Oper.wp execOp
  simp only [ho, hx, hy, Instr.storeAt, Instr.sureAddr, Sem.run_bind, Sem.run_pure, Result.andThen_ok]
  rw [run_storeVar_row _ w0.heap.size t 127 c (lv i p).toArray (heap_alloc_last w0 _) (by rw [size_ls]; simp [lv_length, hp]) (by simp [lv_length, hp, hc]) (all_oneCell_toArray (lv_one i p)), World.setRow_alloc_new]
  exact hK _ _ h
/-- a new variable for a write -/
theorem al_ls (hgd : op.guard = none) (ho : op.op = .alloc 127) (h : wpList Tryd.prog ops Q rest (a.put op.dst (.pointer (some ⟨w.heap.size, 0, none⟩))) (w.alloc (.cells (lv 0 zp).toArray 127))) : wpList Tryd.prog ops Q (op :: rest) a w := by
  refine wpList_plain hgd fun K hK => ?_
  unfold Oper.wp execOp
  simp only [ho, Instr.alloc, Sem.run_bind, zero_ls, Result.andThen_ok]
  exact hK _ _ h
theorem lv_range_new (w : World) (i : Int) (p : Pg) (t : TypeId) : (w.alloc (.cells (lv i p).toArray t)).cell? ⟨w.heap.size, 0, none⟩ = some (.int .i64 i) ∧ (w.alloc (.cells (lv i p).toArray t)).rangeAt w.heap.size 1 (pv p) := by
  refine ⟨by rw [cell_of_row _ _ 0 _ t (0, 0) (heap_alloc_last w _)]; rfl, fun j v hv => ?_⟩
  rw [cell_of_row _ _ (1 + j) _ t (0, 0) (heap_alloc_last w _), List.getElem?_toArray, lv, Nat.add_comm, List.getElem?_cons_succ]; exact hv
theorem err_touch {S : Nat → Prop} {B : Nat} {w w' : World} {v : Value} {n : Int} (h : ErrC B w v n) (ht : Touch S w w') (hs : ∀ k, B ≤ k → ¬ S k) : ErrC B w' v n := by
  rcases h with h | ⟨hn, l, h⟩
  · exact .inl h
  · exact .inr ⟨hn, l, h.keep fun p u hp hc => ht.cell hc (hs _ hp)⟩
theorem zsz : (pv zp).toArray.size = 128 := by rw [List.size_toArray, pv_length, zp_length]
theorem lzsz : (lv 0 zp).toArray.size = 129 := by rw [List.size_toArray, lv_length, zp_length]
/-- a page variable and a slot handed back -/
theorem results_pg {P : Program} {fn : Func} {p q : Tmp} {ty : TypeId} (h : fn.results = #[.cell p ty, .tmp q]) (tmps : Array Value) (w : World) (x : Addr) (cs : Array Value) (v : Value)
    (hp : tmps.getD p undef = .pointer (some x)) (hq : tmps.getD q undef = v) (hl : (loadVar ty x).run P w = .ok (.agg cs) w) : (results fn tmps).run P w = .ok (.tuple #[.agg cs, v]) w := by
  have hp' : tmps[p]?.getD undef = .pointer (some x) := by simpa using hp
  have hq' : tmps[q]?.getD undef = v := by simpa using hq
  simp [results, h, hp', hq', asAddr, hl]
/-! ### what is read -/
def readStep (i : Int) (acc : Pg) (x : Int × Pg) : Pg := if x.1 = i then x.2 else acc
def readP (firm : List Pg) (loose : Ls) (i : Int) : Pg := loose.foldl (readStep i) (firm.getD i.toNat zp)
theorem readP_len {firm : List Pg} {loose : Ls} {i : Int} (hf : ∀ p ∈ firm, p.length = 128) (hl : ∀ x ∈ loose, x.2.length = 128) : (readP firm loose i).length = 128 := by
  unfold readP
  have h0 : (firm.getD i.toNat zp).length = 128 := by
    rw [List.getD_eq_getElem?_getD]
    cases h : firm[i.toNat]? with
    | none => exact zp_length
    | some p => exact hf p (List.mem_of_getElem? h)
  generalize firm.getD i.toNat zp = acc at h0
  induction loose generalizing acc with
  | nil => exact h0
  | cons x l ih =>
    refine ih (fun y hy => hl y (List.mem_cons_of_mem _ hy)) _ ?_
    unfold readStep
    split
    · exact hl x List.mem_cons_self
    · exact h0
def readTo (p0 : Pg) (loose : Ls) (i : Nat) (k : Nat) : Pg := (loose.take k).foldl (readStep (i : Int)) p0
theorem readTo_step (p0 : Pg) (loose : Ls) (i k : Nat) (h : k < loose.length) : readTo p0 loose i (k + 1) = if loose[k].1 = (i : Int) then loose[k].2 else readTo p0 loose i k := by
  unfold readTo
  rw [List.take_succ_eq_append_getElem h, List.foldl_append]
  rfl
/-- what holds at a round's head of a variable of the call's own -/
structure RInv (w2 : World) (X : Nat) (p : Pg) (w : World) : Prop where
  r : w.rangeAt X 0 (pv p)
  th : w.there X 0 128
  t : Touch (fun b => b = X) w2 w
theorem RInv.under {w2 w w' : World} {X : Nat} {p : Pg} (h : RInv w2 X p w) (hb : Below w.heap.size w w') : RInv w2 X p w' :=
  have ht : Touch (fun _ => False) w w' := Touch.of_below hb
  ⟨ht.range h.r (fun h => h), ht.there h.th (fun h => h), h.t.trans (Touch.of_below hb)⟩
theorem RInv.set {w2 w : World} {X : Nat} {p q : Pg} (h : RInv w2 X p w) (hq : q.length = 128) : RInv w2 X q (w.setCells X 0 (pv q)) :=
  ⟨World.rangeAt_setCells_same _ _ _ _ (by rw [pv_length, hq]; exact h.th), World.there_setCells h.th _ _ _, Touch.setCells h.t X (.inl rfl) (pv q) 0 w h.t⟩
def ReadPost (firm : List Pg) (loose : Ls) (down : Bool) (i : Int) (w : World) (e : Ending) (w' : World) : Prop :=
  ∃ v, e = .returned (.tuple #[.agg (pv (if mayC down firm.length i = 0 then readP firm loose i else zp)).toArray, v]) ∧ ErrC w.heap.size w' v (mayC down firm.length i) ∧ Below w.heap.size w w'
theorem read_nil (i : Int) (w : World) : Calls Tryd.prog 29 #[.pointer none, .int .i64 i] w fun e w' => ∃ v, e = .returned (.tuple #[.agg (pv zp).toArray, v]) ∧ ErrC w.heap.size w' v 1 ∧ Below w.heap.size w w' := by
  have hb : ∀ w, (Instr.build 36 #[]).run Tryd.prog w = .ok (.agg (pv zp).toArray) w := fun w => by kernel_rfl
  go_enter Tryd.func29, Tryd.ntmps29
  go_wp2_with ((with_reducible refine at_al 36 ?_); refine al_pg rfl rfl ?_)
  refine (may_nil i _).mono ?_
  rintro e w1 ⟨v, rfl, he, hb1⟩
  obtain ⟨tt, xx, rfl⟩ := he.iface (by decide)
  have HE := Lib.hid he
  have HB := Lib.hid hb1
  have HTh : Hid (w1.there w.heap.size 0 128) := Lib.hid ((Touch.of_below (S := fun _ => False) hb1).there (there_new w _ _ 128 (by simp [pv_length, zp_length])) (fun h => h))
  have HR : Hid ((w1.setCells w.heap.size 0 (pv zp)).rangeAt w.heap.size 0 (pv zp)) := Lib.hid (World.rangeAt_setCells_same _ _ _ _ (by rw [pv_length, zp_length]; exact HTh.out))
  clear he hb1
  go_wp2_with ((with_reducible refine at_st 36 (.tmp 4) (.tmp 15) ?_); refine st_pg rfl _ _ rfl w.heap.size (0) rfl zp ?_ rfl ?_ ?_; exact zp_length; exact HTh.out)
  have hld := run_loadVar_mid (P := Tryd.prog) (w1.setCells w.heap.size 0 (pv zp)) w.heap.size 0 36 (pv zp) _ HR.out Tryd.underlying36 rfl (size_of zp_length)
  refine bodyPost_ret (v := .tuple #[.agg (pv zp).toArray, .iface tt xx]) (results_pg Tryd.results29 _ _ _ _ _ rfl rfl hld) rfl ⟨_, rfl, ?_, ?_⟩
  · have ht := Touch.setCells (Touch.refl (fun k => k = w.heap.size) w1) w.heap.size (.inl rfl) (pv zp) 0 w1 (Touch.refl _ _)
    have h2 := err_touch HE.out ht (fun k hk e => by simp at hk; omega)
    exact h2.mono (by simp)
  · have h1 : Touch (fun _ => False) w w1 := Touch.of_below (((Below.refl _ _).alloc (Nat.le_refl _) _).trans (HB.out.mono (by simp)))
    exact (Touch.setCells h1 w.heap.size (.inr (Nat.le_refl _)) (pv zp) 0 w1 h1).below (Nat.le_refl _) (fun k h => h.elim)
set_option maxHeartbeats 1000000 in
theorem read_any {w : World} {base D F : Nat} {v : Value} {firm : List Pg} {loose : Ls} {down : Bool} (i : Int) (h : DiskIn w base D F v firm loose down) (hls : loose.length ≤ 1000000) :
    Calls Tryd.prog 29 #[.pointer (some ⟨D, 0, none⟩), .int .i64 i] w (ReadPost firm loose down i w) := by
  have hb : ∀ w, (Instr.build 36 #[]).run Tryd.prog w = .ok (.agg (pv zp).toArray) w := fun w => by kernel_rfl
  have H := Lib.hid h
  clear h
  have hba := (Below.refl w.heap.size w).alloc (Nat.le_refl _) (.cells (pv zp).toArray 36)
  have HM := Lib.hid (may_any i (H.out.under hba))
  have HBA := Lib.hid hba
  clear hba
  obtain ⟨code, hcode⟩ : ∃ c, c = mayC down firm.length i := ⟨_, rfl⟩
  rw [← hcode] at HM
  have HCode := Lib.hid hcode
  go_enter Tryd.func29, Tryd.ntmps29
  go_wp2_with ((with_reducible refine at_al 36 ?_); refine al_pg rfl rfl ?_)
  refine HM.out.mono ?_
  rintro e w1 ⟨ev, rfl, he, hb1⟩
  have HB := Lib.hid (HBA.out.trans (hb1.mono (by simp)))
  have HTh : Hid (w1.there w.heap.size 0 128) := Lib.hid ((Touch.of_below (S := fun _ => False) hb1).there (there_new w _ _ 128 (by simp [pv_length, zp_length])) (fun h => h))
  by_cases hc : code = 0
  · subst hc
    obtain rfl := he.zero
    have hi : 0 ≤ i ∧ i < firm.length := by
      unfold mayC at hcode
      split at hcode
      · cases hcode
      · split at hcode
        · assumption
        · cases hcode
    have H1 := Lib.hid (H.out.under HB.out)
    clear he hcode
    have c0 := H1.out.c0
    have c1 := H1.out.c1
    obtain ⟨i0, rfl⟩ : ∃ k : Nat, i = (k : Int) := ⟨i.toNat, by omega⟩
    have hi0 : i0 < firm.length := by omega
    have HR1 := Lib.hid (range_part H1.out.hF H1.out.pg i0 hi0)
    have hp1 : Hid (firm[i0].length = 128) := Lib.hid (H1.out.pg _ (List.getElem_mem hi0))
    have hs1 : w.heap.size < w1.heap.size := by have := hb1.size; simp at this; omega
    have hn240 := H1.out.n1
    have hDn := H1.out.lD
    have hDr : D ≠ w.heap.size := by have := H.out.lD; omega
    clear hb1
    obtain ⟨nf, hnf⟩ : ∃ n, n = firm.length := ⟨_, rfl⟩
    rw [← hnf] at c0 hi hn240
    have HNF := Lib.hid hnf
    obtain ⟨p0, hp0⟩ : ∃ p, p = firm[i0] := ⟨_, rfl⟩
    rw [← hp0] at HR1 hp1
    have HP0 := Lib.hid hp0
    clear hnf hp0
    have hi1 : (i0 : Int) < (nf : Int) := hi.2
    go_upto_region 5 with (first | ((with_reducible refine at_ld 36 (.tmp 22) ?_); refine ld_pg rfl _ rfl F (i0 * 128) rfl p0 ?_ ?_ ?_; exact hp1.out; exact HR1.out) | ((with_reducible refine at_al 36 ?_); refine al_pg rfl rfl ?_) | ((with_reducible refine at_st 36 (.tmp 7) (.tmp 23) ?_); refine st_new rfl _ _ rfl _ _ _ rfl rfl p0 ?_ rfl ?_ ?_; exact hp1.out; exact zsz))
    obtain ⟨A, c, rfl⟩ := own_slice H1.out.hl
    obtain ⟨w2, hw2⟩ : ∃ w2, w2 = w1.alloc (.cells (pv p0).toArray 36) := ⟨_, rfl⟩
    rw [← hw2]
    have hb2 : Below w1.heap.size w1 w2 := by rw [hw2]; exact (Below.refl _ _).alloc (Nat.le_refl _) _
    have H2 := Lib.hid (H1.out.under hb2)
    have c1 := H2.out.c1
    have HX := Lib.hid (show w2.rangeAt w1.heap.size 0 (pv p0) ∧ w2.there w1.heap.size 0 128 by
      rw [hw2]; exact ⟨range_new _ _ _, there_new _ _ _ 128 (by rw [List.size_toArray, pv_length, hp1.out]; exact Nat.le_refl _)⟩)
    have HTh2 : Hid (w2.there w.heap.size 0 128) := Lib.hid ((Touch.of_below (S := fun _ => False) hb2).there HTh.out (fun h => h))
    have HB2 := Lib.hid (HB.out.trans (hb2.mono HB.out.size))
    have hs2 : w1.heap.size < w2.heap.size := by rw [hw2]; simp
    have HNX := Lib.hid (show ∀ k, Its D F (.slice A loose.length c) k → k ≠ w1.heap.size from fun k hk => by
      rcases hk with rfl | rfl | hk
      · have := H1.out.lD; omega
      · have := H1.out.lF; omega
      · have := (H1.out.hl.lt k hk).2; omega)
    clear hw2 hb2
    go_wp2_with fail
    obtain ⟨X, hX⟩ : ∃ X, X = w1.heap.size := ⟨_, rfl⟩
    rw [← hX] at HX HNX hs2 ⊢
    have hXR : X ≠ w.heap.size := by omega
    have hXw : w.heap.size < X := by omega
    clear hX
    go_loopg [29] loose.length (fun gg s29 wr => ∃ k : Nat, k ≤ loose.length ∧ loose.length - k ≤ gg ∧ s29 = .int .i64 k ∧ Hid (RInv w2 X (readTo p0 loose i0 k) wr))
    case atStart => exact ⟨0, Nat.zero_le _, by omega, rfl, Lib.hid ⟨HX.out.1, HX.out.2, Touch.refl _ _⟩⟩
    case round =>
      obtain ⟨k, hk, hg, rfl, HI⟩ := hrel
      by_cases hlt : k < loose.length
      · have hltz : (k : Int) < (loose.length : Int) := by omega
        obtain ⟨g, rfl⟩ : ∃ g, A = some ⟨g, 0, none⟩ := by
          rcases H2.out.hl.2 with ⟨_, hn⟩ | ⟨g, cap, cur, hv, _⟩
          · omega
          · simp only [Value.slice.injEq] at hv; exact ⟨g, hv.1⟩
        have hgX : g ≠ X := HNX.out g (.inr (.inr rfl))
        have hpk := H2.out.pl _ (List.getElem_mem hlt)
        have HRk := Lib.hid (HI.out.t.range (own_part H2.out.hl rfl (fun x hx => (H2.out.pl x hx).1) k hlt) hgX)
        have HSt := Lib.hid (readTo_step p0 loose i0 k hlt)
        obtain ⟨xi, hxi⟩ : ∃ q, q = loose[k].1 := ⟨_, rfl⟩
        obtain ⟨xp, hxp⟩ : ∃ q, q = loose[k].2 := ⟨_, rfl⟩
        rw [← hxi, ← hxp] at HRk HSt
        rw [← hxp] at hpk
        have HXP := Lib.hid hpk.1
        clear hxi hxp hpk
        go_upto_region 8 with (first | ((with_reducible refine at_ld 127 (.tmp 31) ?_); refine ld_ls rfl _ rfl g (k * 129) rfl xi xp ?_ ?_ ?_; exact HXP.out; exact HRk.out) | ((with_reducible refine at_al 127 ?_); refine al_ls rfl rfl ?_) | ((with_reducible refine at_st 127 (.tmp 9) (.tmp 32) ?_); refine st_nls rfl _ _ rfl _ _ _ rfl rfl xi xp ?_ rfl ?_ ?_; exact HXP.out; exact lzsz))
        obtain ⟨w4, hw4⟩ : ∃ w4, w4 = wr.alloc (.cells (lv xi xp).toArray 127) := ⟨_, rfl⟩
        obtain ⟨y0, yr⟩ := lv_range_new wr xi xp 127
        rw [← hw4] at y0 yr ⊢
        have HY := Lib.hid yr
        have hb4 : Below wr.heap.size wr w4 := by rw [hw4]; exact (Below.refl _ _).alloc (Nat.le_refl _) _
        have HI4 := Lib.hid (HI.out.under hb4)
        clear hw4 yr hb4
        by_cases hxi : xi = (i0 : Int)
        · have hxb : (xi == (i0 : Int)) = true := by simpa using hxi
          rw [if_pos hxi] at HSt
          clear hxi
          go_wp2_with (first | ((with_reducible refine at_ld 36 (.tmp 37) ?_); refine ld_pg rfl _ rfl wr.heap.size (1) rfl xp ?_ ?_ ?_; exact HXP.out; exact HY.out) | ((with_reducible refine at_st 36 (.tmp 7) (.tmp 38) ?_); refine st_pg rfl _ _ rfl X (0) rfl xp ?_ rfl ?_ ?_; exact HXP.out; exact HI4.out.th))
          go_roundg (loose.length - (k + 1))
          case measure => omega
          case rel => exact ⟨k + 1, by omega, by omega, by go_num, by rw [HSt.out]; exact Lib.hid (HI4.out.set HXP.out)⟩
        · have hxb : (xi == (i0 : Int)) = false := by simpa using hxi
          rw [if_neg hxi] at HSt
          clear hxi
          go_wp2_with fail
          go_roundg (loose.length - (k + 1))
          case measure => omega
          case rel => exact ⟨k + 1, by omega, by omega, by go_num, by rw [HSt.out]; exact HI4⟩
      · have hkl : k = loose.length := by omega
        have hre : readTo p0 loose i0 k = readP firm loose (i0 : Int) := by
          rw [hkl]; unfold readTo readP
          rw [List.take_length, HP0.out]
          congr 1
          rw [List.getD_eq_getElem?_getD, Int.toNat_natCast, List.getElem?_eq_getElem hi0]; rfl
        rw [hre] at HI
        have hltb : ¬ (k : Int) < (loose.length : Int) := by omega
        have HL := Lib.hid (readP_len (i := (i0 : Int)) H1.out.pg (fun x hx => (H1.out.pl x hx).1))
        obtain ⟨pr, hpr⟩ : ∃ q, q = readP firm loose (i0 : Int) := ⟨_, rfl⟩
        rw [← hpr] at HI HL
        have HPR := Lib.hid hpr
        clear hkl hre hpr
        have HThr : Hid (wr.there w.heap.size 0 128) := Lib.hid (HI.out.t.there HTh2.out (fun e => hXR e.symm))
        have HRr : Hid ((wr.setCells w.heap.size 0 (pv pr)).rangeAt w.heap.size 0 (pv pr)) := Lib.hid (World.rangeAt_setCells_same _ _ _ _ (by rw [pv_length, HL.out]; exact HThr.out))
        go_wp2_with (first | ((with_reducible refine at_ld 36 (.tmp 7) ?_); refine ld_pg rfl _ rfl X (0) rfl pr ?_ ?_ ?_; exact HL.out; exact HI.out.r) | ((with_reducible refine at_st 36 (.tmp 4) (.tmp 40) ?_); refine st_pg rfl _ _ rfl w.heap.size (0) rfl pr ?_ rfl ?_ ?_; exact HL.out; exact HThr.out))
        have hld := run_loadVar_mid (P := Tryd.prog) (wr.setCells w.heap.size 0 (pv pr)) w.heap.size 0 36 (pv pr) _ HRr.out Tryd.underlying36 rfl (size_of HL.out)
        have h1 : Touch (fun _ => False) w wr := ((Touch.of_below (S := fun b => b = X) HB2.out).trans HI.out.t).old (fun k hk e => by omega)
        refine bodyPost_ret (v := .tuple #[.agg (pv pr).toArray, .nilIface]) (results_pg Tryd.results29 _ _ _ _ _ rfl rfl hld) rfl ⟨_, by rw [← HCode.out, if_pos rfl, ← HPR.out], ?_, ?_⟩
        · rw [← HCode.out]; exact ErrC.nil _ _
        · exact (Touch.setCells h1 w.heap.size (.inr (Nat.le_refl _)) (pv pr) 0 wr h1).below (Nat.le_refl _) (fun k h => h.elim)
  · obtain ⟨tt, xx, rfl⟩ := he.iface hc
    have HE := Lib.hid he
    have HR : Hid ((w1.setCells w.heap.size 0 (pv zp)).rangeAt w.heap.size 0 (pv zp)) := Lib.hid (World.rangeAt_setCells_same _ _ _ _ (by rw [pv_length, zp_length]; exact HTh.out))
    clear he hb1 hcode
    go_wp2_with ((with_reducible refine at_st 36 (.tmp 4) (.tmp 15) ?_); refine st_pg rfl _ _ rfl w.heap.size (0) rfl zp ?_ rfl ?_ ?_; exact zp_length; exact HTh.out)
    have hld := run_loadVar_mid (P := Tryd.prog) (w1.setCells w.heap.size 0 (pv zp)) w.heap.size 0 36 (pv zp) _ HR.out Tryd.underlying36 rfl (size_of zp_length)
    refine bodyPost_ret (v := .tuple #[.agg (pv zp).toArray, .iface tt xx]) (results_pg Tryd.results29 _ _ _ _ _ rfl rfl hld) rfl ⟨_, by rw [← HCode.out, if_neg hc], ?_, ?_⟩
    · have ht := Touch.setCells (Touch.refl (fun k => k = w.heap.size) w1) w.heap.size (.inl rfl) (pv zp) 0 w1 (Touch.refl _ _)
      have h2 := err_touch HE.out ht (fun k hk e => by simp at hk; omega)
      rw [← HCode.out]
      exact h2.mono (by simp)
    · have h1 : Touch (fun _ => False) w w1 := Touch.of_below HB.out
      exact (Touch.setCells h1 w.heap.size (.inr (Nat.le_refl _)) (pv zp) 0 w1 h1).below (Nat.le_refl _) (fun k h => h.elim)
end Go.Proofs.YtmnkgcgmbdkjaaaDoor
namespace Go.Proofs.YtmnkgcgmbdkjaaaDoor
open Go.RowKit Go.Extern.Stop Go.Stop Go.Extern
set_option linter.unusedVariables false
set_option linter.unusedSimpArgs false

section
variable {ops : Array Oper} {rest : List Oper} {op : Oper} {a : Act} {w : World}
theorem still_val {P : Program} {Q : Act → Prop} (hg : op.guard = none) (v : Value) (hrun : (execOp a.eval op).run P w = .ok (.value v) w) (h : wpStill P ops w Q rest (a.put op.dst v)) : wpStill P ops w Q (op :: rest) a := by
  refine wpStill_step fun K hK => ?_
  rw [if_pos (by simp [Region.wanted, hg])]
  unfold Oper.still
  rw [hrun, Oper.stillUpon_value]
  exact hK _ h
theorem still_pg {Q : Act → Prop} (hg : op.guard = none) (x : Operand) (ho : op.op = .load 36 x) (b o : Nat) (hx : a.eval x = .pointer (some ⟨b, o, none⟩)) (p : Pg) (hp : p.length = 128) (hc : w.rangeAt b o (pv p))
    (h : wpStill Tryd.prog ops w Q rest (a.put op.dst (.agg (pv p).toArray))) : wpStill Tryd.prog ops w Q (op :: rest) a := by
  refine still_val hg (.agg (pv p).toArray) ?_ h
  unfold execOp
  simp only [ho, hx, Instr.loadAt, Instr.sureAddr, Sem.run_bind, Sem.run_pure, Result.andThen_ok, run_loadVar_mid w b o 36 (pv p) _ hc Tryd.underlying36 rfl (size_of hp)]
theorem still_ls {Q : Act → Prop} (hg : op.guard = none) (x y : Operand) (ho : op.op = .build 127 #[(0, x), (1, y)]) (i : Int) (hx : a.eval x = .int .i64 i) (p : Pg) (hp : p.length = 128) (hy : a.eval y = .agg (pv p).toArray)
    (h : wpStill Tryd.prog ops w Q rest (a.put op.dst (.agg (lv i p).toArray))) : wpStill Tryd.prog ops w Q (op :: rest) a := by
  refine still_val hg (.agg (lv i p).toArray) ?_ h
  have hb := run_build (P := Tryd.prog) w 127 #[(0, .int .i64 i), (1, .agg (pv p).toArray)] _ (built_ls i p hp)
  unfold execOp
  simp only [ho, Sem.run_bind, List.map_toArray, List.map_cons, List.map_nil, hx, hy, hb, Result.andThen_ok, Sem.run_pure]
/-- a slice of one write -/
theorem bs_ls {Q : Exit → Act → World → Prop} (hg : op.guard = none) (x : Operand) (ho : op.op = .buildSlice 121 1 #[(0, x)]) (i : Int) (p : Pg) (hp : p.length = 128) (hx : a.eval x = .agg (lv i p).toArray)
    (h : wpList Tryd.prog ops Q rest (a.put op.dst (.slice (some ⟨w.heap.size, 0, none⟩) 1 1)) (w.alloc (.cells (lv i p).toArray 127))) : wpList Tryd.prog ops Q (op :: rest) a w := by
  obtain ⟨ie, hie, hz, hs, _⟩ := info_parts info_ls
  have hf := Go.Great.fill_whole (s := 129) (by omega) [.agg (lv i p).toArray] ((Array.range (1 * ie.size)).map ((Value.agg (lv 0 zp).toArray).cells[· % (Value.agg (lv 0 zp).toArray).cells.size]!)) (fun v hv => by rw [List.mem_singleton.1 hv]; simp [Value.cells, lv_length, hp]) (by simp [hs])
  refine wpList_buildSlice hg 121 127 1 #[(0, x)] ho (lv i p).toArray ie _ Tryd.underlying121 hie hz (by rw [hs]; omega) (by rw [hs]; omega) ?_ h
  rw [hs] at hf ⊢
  have e : (#[(0, x)] : Array (Nat × Operand)).map (fun y => (y.1, a.eval y.2)) = #[(0, .agg (lv i p).toArray)] := by simp [hx]
  show Instr.fill _ _ ((#[(0, x)] : Array (Nat × Operand)).map (fun y => (y.1, a.eval y.2))).toList = _
  rw [e]
  simpa [Value.cells] using hf
/-- a slice of one write, at the operation -/
theorem wp_bs {K : Act → World → Prop} {Q : Exit → Act → World → Prop} (x : Operand) (ho : op.op = .buildSlice 121 1 #[(0, x)]) (i : Int) (p : Pg) (hp : p.length = 128) (hx : a.eval x = .agg (lv i p).toArray)
    (h : K (a.put op.dst (.slice (some ⟨w.heap.size, 0, none⟩) 1 1)) (w.alloc (.cells (lv i p).toArray 127))) : op.wp Tryd.prog a w K Q := by
  obtain ⟨ie, hie, hz, hs, _⟩ := info_parts info_ls
  have hf := Go.Great.fill_whole (s := 129) (by omega) [.agg (lv i p).toArray] ((Array.range (1 * ie.size)).map ((Value.agg (lv 0 zp).toArray).cells[· % (Value.agg (lv 0 zp).toArray).cells.size]!)) (fun v hv => by rw [List.mem_singleton.1 hv]; simp [Value.cells, lv_length, hp]) (by simp [hs])
  refine wp_buildSlice 121 127 1 #[(0, x)] ho (lv i p).toArray ie _ Tryd.underlying121 hie hz (by rw [hs]; omega) (by rw [hs]; omega) ?_ h
  rw [hs] at hf ⊢
  have e : (#[(0, x)] : Array (Nat × Operand)).map (fun y => (y.1, a.eval y.2)) = #[(0, .agg (lv i p).toArray)] := by simp [hx]
  show Instr.fill _ _ ((#[(0, x)] : Array (Nat × Operand)).map (fun y => (y.1, a.eval y.2))).toList = _
  rw [e]
  simpa [Value.cells] using hf
theorem run_ls_build (x y : Operand) (ho : op.op = .build 127 #[(0, x), (1, y)]) (i : Int) (hx : a.eval x = .int .i64 i) (p : Pg) (hp : p.length = 128) (hy : a.eval y = .agg (pv p).toArray) (w : World) :
    (execOp a.eval op).run Tryd.prog w = .ok (.value (.agg (lv i p).toArray)) w := by
  have hb := run_build (P := Tryd.prog) w 127 #[(0, .int .i64 i), (1, .agg (pv p).toArray)] _ (built_ls i p hp)
  unfold execOp
  simp only [ho, Sem.run_bind, List.map_toArray, List.map_cons, List.map_nil, hx, hy, hb, Result.andThen_ok, Sem.run_pure]
theorem at_bs {P : Program} (ty : TypeId) {Q : Exit → Act → World → Prop} {n : Nat} {ps : Array (Nat × Operand)} {d : Option Tmp} {t : TypeId} {s : String} {f : Array Edge} {g : Option (Nat × Bool)} (h : wpList P ops Q (⟨d, .buildSlice ty n ps, t, s, f, g⟩ :: rest) a w) : wpList P ops Q (⟨d, .buildSlice ty n ps, t, s, f, g⟩ :: rest) a w := h
end
end Go.Proofs.YtmnkgcgmbdkjaaaDoor
namespace Go.Proofs.YtmnkgcgmbdkjaaaDoor
open Go.RowKit Go.Extern.Stop Go.Stop Go.Extern
set_option linter.unusedVariables false
set_option linter.unusedSimpArgs false

theorem lv_news (w : World) (i : Int) (p : Pg) (t : TypeId) : ∀ j u, (lv i p)[j]? = some u → (w.alloc (.cells (lv i p).toArray t)).cell? ((⟨w.heap.size, 0, none⟩ : Addr).add j) = some u := fun j u hj => by
  rw [Go.WideShapes.add_plain, Nat.zero_add, cell_of_row _ _ j _ t (0, 0) (heap_alloc_last w _)]; simpa using hj
theorem D_after {wd w3 : World} {base D F : Nat} {v : Value} {firm : List Pg} {loose : Ls} {down : Bool} {o : Obj} (h : DiskIn wd base D F v firm loose down) (hg : (wd.alloc o).grownBy w3 v.ownBlock) :
    w3.cell? ⟨D, 1, none⟩ = some v ∧ w3.frozen? ⟨D, 1, none⟩ = false := by
  have hD := h.lD
  have hb := hg.block D (by simp; omega) (fun e => h.nD e.symm)
  have ha : (wd.alloc o).heap[D]? = wd.heap[D]? := Below.heap_alloc wd o D hD
  exact ⟨(World.cell?_of_block (w := wd) (hb.trans ha)).trans h.c1, (World.frozen?_of_block (w := wd) (hb.trans ha)).trans h.f1⟩
theorem touch_grown {w w' : World} {row : Option Nat} (hg : w.grownBy w' row) : Touch (fun k => row = some k) w w' :=
  have hb : Below 0 w w' := (Below.refl 0 w).grown hg (Nat.zero_le _) (fun _ _ => Nat.zero_le _)
  ⟨hb.os, hb.tape, hb.output, hb.size, fun k hk hn => hg.block k hk (fun e => hn e.symm)⟩
theorem flatL_snoc (loose : Ls) (i : Int) (p : Pg) : flatL (loose ++ [(i, p)]) = flatL loose ++ lv i p := by simp [flatL]
theorem Disk_write {wd w3 : World} {base D F : Nat} {v v' : Value} {firm : List Pg} {loose : Ls} {down : Bool} {o : Obj} {i : Int} {p : Pg} (h : DiskIn wd base D F v firm loose down) (hp : p.length = 128) (hi : 0 ≤ i ∧ i < firm.length)
    (ho : w3.ownsRow base 127 129 v' (loose.length + 1) (flatL loose ++ lv i p)) (hg : (wd.alloc o).grownBy w3 v.ownBlock) (hat : v'.ownBlock = v.ownBlock ∨ v'.ownBlock = some (wd.alloc o).heap.size) :
    DiskIn (w3.setCell ⟨D, 1, none⟩ v') base D F v' firm (loose ++ [(i, p)]) down := by
  have t1 : Touch (fun k => v.ownBlock = some k) wd w3 := (Touch.of_below ((Below.refl _ _).alloc (Nat.le_refl _) o)).trans (touch_grown hg)
  have t2 : Touch (fun k => k = D) w3 (w3.setCell ⟨D, 1, none⟩ v') := touch_set w3 D 1 v' rfl
  have hD := h.lD
  have hF := h.lF
  have nD : v'.ownBlock ≠ some D := by
    rcases hat with e | e
    · rw [e]; exact h.nD
    · rw [e]; simp; omega
  have nF : v'.ownBlock ≠ some F := by
    rcases hat with e | e
    · rw [e]; exact h.nF
    · rw [e]; simp; omega
  exact { c0 := (by rw [World.cell?_setCell_other _ _ _ _ (by simp)]; exact t1.cell h.c0 h.nD),
          c1 := World.cell?_setCell_same _ _ _ (t1.cell h.c1 h.nD),
          c2 := (by rw [World.cell?_setCell_other _ _ _ _ (by simp)]; exact t1.cell h.c2 h.nD),
          f1 := (by rw [World.frozen?_setCell, World.frozen?_of_block (t1.block D hD h.nD)]; exact h.f1),
          f2 := (by rw [World.frozen?_setCell, World.frozen?_of_block (t1.block D hD h.nD)]; exact h.f2),
          hF := t2.range (t1.range h.hF h.nF) (fun e => h.ne e.symm), tF := t2.there (t1.there h.tF h.nF) (fun e => h.ne e.symm),
          hl := (by
            rw [List.length_append, flatL_snoc]
            exact own_mv ho (fun k hk => t2.block k (ho.lt k hk).2 (fun e => nD (e ▸ hk)))),
          bD := h.bD, bF := h.bF, lF := Nat.lt_of_lt_of_le h.lF (Nat.le_trans t1.size t2.size), ne := h.ne, nD := nD, nF := nF, pg := h.pg,
          pl := (fun x hx => by
            rcases List.mem_append.1 hx with hx | hx
            · exact h.pl x hx
            · rw [List.mem_singleton.1 hx]; exact ⟨hp, hi⟩),
          n0 := h.n0, n1 := h.n1 }
/-- the disk behind a write -/
def WritePost (base D F : Nat) (v : Value) (firm : List Pg) (loose : Ls) (down : Bool) (i : Int) (p : Pg) (w : World) (e : Ending) (w' : World) : Prop :=
  ∃ ev, e = .returned ev ∧ ErrC w.heap.size w' ev (mayC down firm.length i) ∧
    ((mayC down firm.length i ≠ 0 ∧ DiskIn w' base D F v firm loose down ∧ Below w.heap.size w w') ∨
     (mayC down firm.length i = 0 ∧ ∃ v', DiskIn w' base D F v' firm (loose ++ [(i, p)]) down ∧ (v'.ownBlock = v.ownBlock ∨ ∃ k, v'.ownBlock = some k ∧ w.heap.size ≤ k) ∧ Touch (Its D F v) w w'))
theorem write_nil (i : Int) (p : Pg) (w : World) : Calls Tryd.prog 28 #[.pointer none, .int .i64 i, .agg (pv p).toArray] w fun e w' => ∃ v, e = .returned v ∧ ErrC w.heap.size w' v 1 ∧ Below w.heap.size w w' := by
  go_enter Tryd.func28, Tryd.ntmps28
  go_wp2_with fail
  refine (may_nil i _).mono ?_
  rintro e w1 ⟨v, rfl, he, hb1⟩
  obtain ⟨tt, xx, rfl⟩ := he.iface (by decide)
  have HE := Lib.hid he
  have HB := Lib.hid hb1
  clear he hb1
  go_wp2_with fail
  go_ret
  exact ⟨_, rfl, HE.out.mono (by simp), ((Below.refl _ _).alloc (Nat.le_refl _) _).trans (HB.out.mono (by simp))⟩
set_option maxHeartbeats 1000000 in
set_option maxRecDepth 100000 in
theorem write_any {w : World} {base D F : Nat} {v : Value} {firm : List Pg} {loose : Ls} {down : Bool} (i : Int) (p : Pg) (h : DiskIn w base D F v firm loose down) (hls : loose.length ≤ 1000000) (hp : p.length = 128) :
    Calls Tryd.prog 28 #[.pointer (some ⟨D, 0, none⟩), .int .i64 i, .agg (pv p).toArray] w (WritePost base D F v firm loose down i p w) := by
  have H := Lib.hid h
  have HPL := Lib.hid hp
  clear h hp
  have hba := (Below.refl w.heap.size w).alloc (Nat.le_refl _) (.cells (pv p).toArray 36)
  have HM := Lib.hid (may_any i (H.out.under hba))
  have HBA := Lib.hid hba
  clear hba
  obtain ⟨code, hcode⟩ : ∃ c, c = mayC down firm.length i := ⟨_, rfl⟩
  rw [← hcode] at HM
  have HCode := Lib.hid hcode
  go_enter Tryd.func28, Tryd.ntmps28
  go_wp2_with fail
  refine HM.out.mono ?_
  rintro e w1 ⟨ev, rfl, he, hb1⟩
  have HB := Lib.hid (HBA.out.trans (hb1.mono (by simp)))
  have HRp : Hid (w1.rangeAt w.heap.size 0 (pv p)) := Lib.hid ((Touch.of_below (S := fun _ => False) hb1).range (range_new w p _) (fun h => h))
  by_cases hc : code = 0
  · subst hc
    obtain rfl := he.zero
    clear he
    have H1 := Lib.hid (H.out.under HB.out)
    have hi : 0 ≤ i ∧ i < firm.length := by
      unfold mayC at hcode
      split at hcode
      · cases hcode
      · split at hcode
        · assumption
        · cases hcode
    have hs1 : w.heap.size < w1.heap.size := by have := hb1.size; simp at this; omega
    clear hcode hb1
    go_upto_region 4 with fail
    have hSd : w1.drew.rangeAt w.heap.size 0 (pv p) := HRp.out
    obtain ⟨i0, hi0, hz0, hz1, hz2⟩ := info_parts info_ls
    have HI := Lib.hid (And.intro hi0 (And.intro hz0 (And.intro hz1 hz2)))
    clear hi0 hz0 hz1 hz2
    have hbase : base ≤ w1.heap.size := by have := H1.out.lF; have := H1.out.bF; omega
    have hDl := H1.out.lD
    have hPl : w.heap.size < w1.heap.size := hs1
    have HP := Lib.hid (show v.ownBlock ≠ some w.heap.size from fun e => by have := (H.out.hl.lt _ e).2; omega)
    refine wp_region_held_drew (S := fun w' => w'.rangeAt w.heap.size 0 (pv p)) (by kernel_rfl) hSd (fun hHeld => ?_)
    obtain ⟨wd, hwd⟩ : ∃ wd, wd = w1.drew := ⟨_, rfl⟩
    have hbd : Below w1.heap.size w1 wd := by rw [hwd]; exact Below.drew (Below.refl _ _)
    have hsd := Lib.hid (show wd.heap.size = w1.heap.size by rw [hwd]; rfl)
    have H2 := Lib.hid (H1.out.under hbd)
    have HB2 := Lib.hid (HB.out.trans (hbd.mono HB.out.size))
    have c1 := H2.out.c1
    have f1 := H2.out.f1
    rw [← hwd] at hHeld ⊢
    clear hwd hbd hSd
    refine wpAnyH_take (i := 0) (oi := { dst := some 14, op := Go.Op.move (Go.Operand.tmp 0), type := 24, pos := "disk.go:81", after := #[], guard := none }) (v := ?_) rfl (by kernel_rfl) (by kernel_rfl) (by kernel_rfl) (fun _ _ _ h => h) (Or.inl ⟨by rfl, ?_⟩) (by assumption) ?_
    rotate_left
    · intro w hSw; (try dsimp only at hSw); go_simp; (try with_reducible rfl)
    try simp only [Act.put, List.setIfInBounds_toArray, List.set_cons_zero, List.set_cons_succ]
    refine wpAnyH_take (i := 1) (oi := { dst := some 15, op := Go.Op.move (Go.Operand.tmp 0), type := 24, pos := "disk.go:81", after := #[], guard := none }) (v := ?_) rfl (by kernel_rfl) (by kernel_rfl) (by kernel_rfl) (fun _ _ _ h => h) (Or.inl ⟨by rfl, ?_⟩) (by assumption) ?_
    rotate_left
    · intro w hSw; (try dsimp only at hSw); go_simp; (try with_reducible rfl)
    try simp only [Act.put, List.setIfInBounds_toArray, List.set_cons_zero, List.set_cons_succ]
    refine wpAnyH_take (i := 2) (oi := { dst := some 16, op := Go.Op.nilCheck (Go.Operand.tmp 15), type := 0, pos := "disk.go:81", after := #[{ on := 1, ground := Go.Ground.data }], guard := none }) (v := ?_) rfl (by kernel_rfl) (by kernel_rfl) (by kernel_rfl) (fun _ _ _ h => h) (Or.inl ⟨by rfl, ?_⟩) (by assumption) ?_
    rotate_left
    · intro w hSw; (try dsimp only at hSw); go_simp; (try with_reducible rfl)
    try simp only [Act.put, List.setIfInBounds_toArray, List.set_cons_zero, List.set_cons_succ]
    refine wpAnyH_take (i := 3) (oi := { dst := some 17, op := Go.Op.fieldAddr 123 (Go.Operand.tmp 16) 1, type := 0, pos := "disk.go:81", after := #[{ on := 2, ground := Go.Ground.data }], guard := none }) (v := ?_) rfl (by kernel_rfl) (by kernel_rfl) (by kernel_rfl) (fun _ _ _ h => h) (Or.inl ⟨by rfl, ?_⟩) (by assumption) ?_
    rotate_left
    · intro w hSw; (try dsimp only at hSw); go_simp; (try with_reducible rfl)
    try simp only [Act.put, List.setIfInBounds_toArray, List.set_cons_zero, List.set_cons_succ]
    refine wpAnyH_take (i := 5) (oi := { dst := some 19, op := Go.Op.move (Go.Operand.tmp 1), type := 3, pos := "disk.go:81", after := #[], guard := none }) (v := ?_) rfl (by kernel_rfl) (by kernel_rfl) (by kernel_rfl) (fun _ _ _ h => h) (Or.inl ⟨by rfl, ?_⟩) (by assumption) ?_
    rotate_left
    · intro w hSw; (try dsimp only at hSw); go_simp; (try with_reducible rfl)
    try simp only [Act.put, List.setIfInBounds_toArray, List.set_cons_zero, List.set_cons_succ]
    refine wpAnyH_take (i := 6) (oi := { dst := some 20, op := Go.Op.load 36 (Go.Operand.tmp 5), type := 36, pos := "disk.go:81", after := #[], guard := none }) (v := .agg (pv p).toArray) rfl (by kernel_rfl) (by kernel_rfl) (by kernel_rfl) (fun _ _ _ h => h) (yieldsIf_load_mid (by rfl) _ _ rfl w.heap.size 0 rfl (pv p) _ (fun w h => h) Tryd.underlying36 rfl (size_of HPL.out)) (by assumption) ?_
    simp only [Act.put, List.setIfInBounds_toArray, List.set_cons_zero, List.set_cons_succ]
    refine wpAnyH_take (i := 7) (oi := { dst := some 21, op := Go.Op.build 127 #[(0, Go.Operand.tmp 19), (1, Go.Operand.tmp 20)], type := 127, pos := "disk.go:81", after := #[{ on := 5, ground := Go.Ground.data }, { on := 6, ground := Go.Ground.data }], guard := none }) (v := .agg (lv i p).toArray) rfl (by kernel_rfl) (by kernel_rfl) (by kernel_rfl) (fun _ _ _ h => h) (Or.inl ⟨by rfl, fun w _ => run_ls_build (.tmp 19) (.tmp 20) rfl i rfl p HPL.out rfl w⟩) (by assumption) ?_
    simp only [Act.put, List.setIfInBounds_toArray, List.set_cons_zero, List.set_cons_succ]
    refine wpAnyH_ready (rs := [4, 8]) (by kernel_rfl) (by simp) ?_
    refine AllReadyH.cons (o := { dst := some 18, op := Go.Op.load 121 (Go.Operand.tmp 17), type := 121, pos := "disk.go:81", after := #[{ on := 3, ground := Go.Ground.data }], guard := none }) rfl (fun K hK => ?_) ?_
    · skip
      go_simp
      refine hK.out _ _ (by assumption) (fun hHeld => ?_)
      clear hK K
      try simp only [Act.put, List.setIfInBounds_toArray, List.set_cons_zero, List.set_cons_succ]
      refine wpAnyH_ready (rs := [8]) (by kernel_rfl) (by simp) ?_
      refine AllReadyH.cons (o := { dst := some 22, op := Go.Op.buildSlice 121 1 #[(0, Go.Operand.tmp 21)], type := 121, pos := "disk.go:81", after := #[{ on := 7, ground := Go.Ground.data }], guard := none }) rfl (fun K hK => ?_) AllReadyH.nil
      rw [if_pos (by rfl)]
      refine wp_bs (.tmp 21) rfl i p ?_ rfl ?_
      · exact HPL.out
      refine hK.out _ _ (World.rangeAt_alloc (by assumption) _) (fun hHeld => ?_)
      clear hK K
      try simp only [Act.put, List.setIfInBounds_toArray, List.set_cons_zero, List.set_cons_succ]
      refine wpAnyH_ready (rs := [9]) (by kernel_rfl) (by simp) ?_
      refine AllReadyH.cons (o := { dst := some 23, op := Go.Op.call { callee := Go.Callee.builtin Go.Builtin.append, args := #[Go.Operand.tmp 18, Go.Operand.tmp 22], argTypes := #[121, 121] }, type := 121, pos := "disk.go:81", after := #[{ on := 4, ground := Go.Ground.data }, { on := 8, ground := Go.Ground.data }], guard := none }) rfl (fun K hK => ?_) AllReadyH.nil
      refine step_append_lies _ (by rfl) _ _ _ (by rfl) base 127 i0 (.agg (lv 0 zp).toArray) 129 136 Tryd.underlying121 HI.out.1 HI.out.2.1 HI.out.2.2.1 HI.out.2.2.2 lzsz (by have hs9 := hsd.out; (try simp only [World.alloc_size]); omega) v loose.length (flatL loose) (by rfl) (H2.out.hl.alloc _) ⟨wd.heap.size, 0, none⟩ 1 1 (lv i p) (by rfl) (by rw [lv_length, HPL.out]) (lv_news _ _ _ _) (lv_one i p) (by have hs9 := hsd.out; (try simp only [World.alloc_size]); omega) (by unfold maxLen; omega) (by omega) (by have hs9 := hsd.out; simp; omega) _ rfl ?_
      intro gg cap w3 hown' hg hat hlt
      have O3 := Lib.hid hown'
      have G3 := Lib.hid hg
      have AT3 : Hid ((Value.slice (some ⟨gg, 0, none⟩) (loose.length + 1) cap).ownBlock = v.ownBlock ∨ (Value.slice (some ⟨gg, 0, none⟩) (loose.length + 1) cap).ownBlock = some (wd.alloc (.cells (lv i p).toArray 127)).heap.size) := Lib.hid (by rcases hat with h | h; exact .inl h.symm; exact .inr (congrArg some h))
      obtain ⟨q1, q2⟩ := D_after H2.out hg
      have hS3 : w3.rangeAt w.heap.size 0 (pv p) := (touch_grown hg).range (by assumption) HP.out
      clear hown' hg hat hlt
      refine hK.out _ _ hS3 (fun hHeld9 => ?_)
      clear hK K
      simp only [Act.put, List.setIfInBounds_toArray, List.set_cons_zero, List.set_cons_succ]
      refine wpAnyH_take (i := 10) (oi := { dst := some 24, op := Go.Op.nilCheck (Go.Operand.tmp 14), type := 0, pos := "disk.go:81", after := #[{ on := 0, ground := Go.Ground.data }, { on := 0, ground := Go.Ground.phase }, { on := 1, ground := Go.Ground.phase }, { on := 2, ground := Go.Ground.phase }, { on := 3, ground := Go.Ground.phase }, { on := 4, ground := Go.Ground.phase }, { on := 5, ground := Go.Ground.phase }, { on := 6, ground := Go.Ground.phase }, { on := 7, ground := Go.Ground.phase }, { on := 8, ground := Go.Ground.phase }, { on := 9, ground := Go.Ground.phase }], guard := none }) (v := ?_) rfl (by kernel_rfl) (by kernel_rfl) (by kernel_rfl) (fun _ _ _ h => h) (Or.inl ⟨by rfl, ?_⟩) (by assumption) ?_
      rotate_left
      · intro w hSw; (try dsimp only at hSw); go_simp; (try with_reducible rfl)
      try simp only [Act.put, List.setIfInBounds_toArray, List.set_cons_zero, List.set_cons_succ]
      refine wpAnyH_take (i := 11) (oi := { dst := some 25, op := Go.Op.fieldAddr 123 (Go.Operand.tmp 24) 1, type := 0, pos := "disk.go:81", after := #[{ on := 10, ground := Go.Ground.data }, { on := 0, ground := Go.Ground.phase }, { on := 1, ground := Go.Ground.phase }, { on := 2, ground := Go.Ground.phase }, { on := 3, ground := Go.Ground.phase }, { on := 4, ground := Go.Ground.phase }, { on := 5, ground := Go.Ground.phase }, { on := 6, ground := Go.Ground.phase }, { on := 7, ground := Go.Ground.phase }, { on := 8, ground := Go.Ground.phase }, { on := 9, ground := Go.Ground.phase }], guard := none }) (v := ?_) rfl (by kernel_rfl) (by kernel_rfl) (by kernel_rfl) (fun _ _ _ h => h) (Or.inl ⟨by rfl, ?_⟩) (by assumption) ?_
      rotate_left
      · intro w hSw; (try dsimp only at hSw); go_simp; (try with_reducible rfl)
      try simp only [Act.put, List.setIfInBounds_toArray, List.set_cons_zero, List.set_cons_succ]
      refine wpAnyH_ready (rs := [12]) (by kernel_rfl) (by simp) ?_
      refine AllReadyH.cons (o := { dst := none, op := Go.Op.store 121 (Go.Operand.tmp 25) (Go.Operand.tmp 23), type := 0, pos := "disk.go:81", after := #[{ on := 11, ground := Go.Ground.data }, { on := 9, ground := Go.Ground.data }, { on := 9, ground := Go.Ground.chain }, { on := 0, ground := Go.Ground.phase }, { on := 1, ground := Go.Ground.phase }, { on := 2, ground := Go.Ground.phase }, { on := 3, ground := Go.Ground.phase }, { on := 4, ground := Go.Ground.phase }, { on := 5, ground := Go.Ground.phase }, { on := 6, ground := Go.Ground.phase }, { on := 7, ground := Go.Ground.phase }, { on := 8, ground := Go.Ground.phase }, { on := 9, ground := Go.Ground.phase }], guard := none }) rfl (fun K hK => ?_) AllReadyH.nil
      go_simp
      refine hK.out _ _ ((touch_set (S := fun k => k = D) w3 D 1 _ rfl).range hS3 (fun e => by have := H.out.lD; omega)) (fun hHeld12 => ?_)
      clear hK K
      try simp only [Act.put, List.setIfInBounds_toArray, List.set_cons_zero, List.set_cons_succ]
      refine wpAnyH_done (by kernel_rfl) ?_ _
      go_wp2_with fail
      go_ret
      refine ⟨_, rfl, by rw [← HCode.out]; exact ErrC.nil _ _, .inr ⟨HCode.out.symm, _, Disk_write H2.out HPL.out hi O3.out G3.out AT3.out, ?_, ?_⟩⟩
      · rcases AT3.out with e | e
        · exact .inl e
        · exact .inr ⟨_, e, by have := HB2.out.size; simp; omega⟩
      · have h1 : Touch (Its D F v) w (wd.alloc (.cells (lv i p).toArray 127)) := Touch.of_below (HB2.out.trans (((Below.refl _ _).alloc (Nat.le_refl _) _).mono HB2.out.size))
        have h2 : Touch (Its D F v) w w3 := h1.trans ((touch_grown G3.out).mono (fun k hk => .inr (.inr hk)))
        exact Touch.setCells h2 D (.inl (.inl rfl)) [_] 1 w3 h2
    refine AllReadyH.cons (o := { dst := some 22, op := Go.Op.buildSlice 121 1 #[(0, Go.Operand.tmp 21)], type := 121, pos := "disk.go:81", after := #[{ on := 7, ground := Go.Ground.data }], guard := none }) rfl (fun K hK => ?_) AllReadyH.nil
    rw [if_pos (by rfl)]
    refine wp_bs (.tmp 21) rfl i p ?_ rfl ?_
    · exact HPL.out
    refine hK.out _ _ (World.rangeAt_alloc (by assumption) _) (fun hHeld => ?_)
    clear hK K
    try simp only [Act.put, List.setIfInBounds_toArray, List.set_cons_zero, List.set_cons_succ]
    have c1' : (wd.alloc (.cells (lv i p).toArray 127)).cell? ⟨D, 1, none⟩ = some v := (World.cell?_alloc_some wd _ _ (by rw [c1]; rfl)).trans c1
    refine wpAnyH_ready (rs := [4]) (by kernel_rfl) (by simp) ?_
    refine AllReadyH.cons (o := { dst := some 18, op := Go.Op.load 121 (Go.Operand.tmp 17), type := 121, pos := "disk.go:81", after := #[{ on := 3, ground := Go.Ground.data }], guard := none }) rfl (fun K hK => ?_) AllReadyH.nil
    go_simp
    refine hK.out _ _ (by assumption) (fun hHeld => ?_)
    clear hK K
    try simp only [Act.put, List.setIfInBounds_toArray, List.set_cons_zero, List.set_cons_succ]
    refine wpAnyH_ready (rs := [9]) (by kernel_rfl) (by simp) ?_
    refine AllReadyH.cons (o := { dst := some 23, op := Go.Op.call { callee := Go.Callee.builtin Go.Builtin.append, args := #[Go.Operand.tmp 18, Go.Operand.tmp 22], argTypes := #[121, 121] }, type := 121, pos := "disk.go:81", after := #[{ on := 4, ground := Go.Ground.data }, { on := 8, ground := Go.Ground.data }], guard := none }) rfl (fun K hK => ?_) AllReadyH.nil
    refine step_append_lies _ (by rfl) _ _ _ (by rfl) base 127 i0 (.agg (lv 0 zp).toArray) 129 136 Tryd.underlying121 HI.out.1 HI.out.2.1 HI.out.2.2.1 HI.out.2.2.2 lzsz (by have hs9 := hsd.out; (try simp only [World.alloc_size]); omega) v loose.length (flatL loose) (by rfl) (H2.out.hl.alloc _) ⟨wd.heap.size, 0, none⟩ 1 1 (lv i p) (by rfl) (by rw [lv_length, HPL.out]) (lv_news _ _ _ _) (lv_one i p) (by have hs9 := hsd.out; (try simp only [World.alloc_size]); omega) (by unfold maxLen; omega) (by omega) (by have hs9 := hsd.out; simp; omega) _ rfl ?_
    intro gg cap w3 hown' hg hat hlt
    have O3 := Lib.hid hown'
    have G3 := Lib.hid hg
    have AT3 : Hid ((Value.slice (some ⟨gg, 0, none⟩) (loose.length + 1) cap).ownBlock = v.ownBlock ∨ (Value.slice (some ⟨gg, 0, none⟩) (loose.length + 1) cap).ownBlock = some (wd.alloc (.cells (lv i p).toArray 127)).heap.size) := Lib.hid (by rcases hat with h | h; exact .inl h.symm; exact .inr (congrArg some h))
    obtain ⟨q1, q2⟩ := D_after H2.out hg
    have hS3 : w3.rangeAt w.heap.size 0 (pv p) := (touch_grown hg).range (by assumption) HP.out
    clear hown' hg hat hlt
    refine hK.out _ _ hS3 (fun hHeld9 => ?_)
    clear hK K
    simp only [Act.put, List.setIfInBounds_toArray, List.set_cons_zero, List.set_cons_succ]
    refine wpAnyH_take (i := 10) (oi := { dst := some 24, op := Go.Op.nilCheck (Go.Operand.tmp 14), type := 0, pos := "disk.go:81", after := #[{ on := 0, ground := Go.Ground.data }, { on := 0, ground := Go.Ground.phase }, { on := 1, ground := Go.Ground.phase }, { on := 2, ground := Go.Ground.phase }, { on := 3, ground := Go.Ground.phase }, { on := 4, ground := Go.Ground.phase }, { on := 5, ground := Go.Ground.phase }, { on := 6, ground := Go.Ground.phase }, { on := 7, ground := Go.Ground.phase }, { on := 8, ground := Go.Ground.phase }, { on := 9, ground := Go.Ground.phase }], guard := none }) (v := ?_) rfl (by kernel_rfl) (by kernel_rfl) (by kernel_rfl) (fun _ _ _ h => h) (Or.inl ⟨by rfl, ?_⟩) (by assumption) ?_
    rotate_left
    · intro w hSw; (try dsimp only at hSw); go_simp; (try with_reducible rfl)
    try simp only [Act.put, List.setIfInBounds_toArray, List.set_cons_zero, List.set_cons_succ]
    refine wpAnyH_take (i := 11) (oi := { dst := some 25, op := Go.Op.fieldAddr 123 (Go.Operand.tmp 24) 1, type := 0, pos := "disk.go:81", after := #[{ on := 10, ground := Go.Ground.data }, { on := 0, ground := Go.Ground.phase }, { on := 1, ground := Go.Ground.phase }, { on := 2, ground := Go.Ground.phase }, { on := 3, ground := Go.Ground.phase }, { on := 4, ground := Go.Ground.phase }, { on := 5, ground := Go.Ground.phase }, { on := 6, ground := Go.Ground.phase }, { on := 7, ground := Go.Ground.phase }, { on := 8, ground := Go.Ground.phase }, { on := 9, ground := Go.Ground.phase }], guard := none }) (v := ?_) rfl (by kernel_rfl) (by kernel_rfl) (by kernel_rfl) (fun _ _ _ h => h) (Or.inl ⟨by rfl, ?_⟩) (by assumption) ?_
    rotate_left
    · intro w hSw; (try dsimp only at hSw); go_simp; (try with_reducible rfl)
    try simp only [Act.put, List.setIfInBounds_toArray, List.set_cons_zero, List.set_cons_succ]
    refine wpAnyH_ready (rs := [12]) (by kernel_rfl) (by simp) ?_
    refine AllReadyH.cons (o := { dst := none, op := Go.Op.store 121 (Go.Operand.tmp 25) (Go.Operand.tmp 23), type := 0, pos := "disk.go:81", after := #[{ on := 11, ground := Go.Ground.data }, { on := 9, ground := Go.Ground.data }, { on := 9, ground := Go.Ground.chain }, { on := 0, ground := Go.Ground.phase }, { on := 1, ground := Go.Ground.phase }, { on := 2, ground := Go.Ground.phase }, { on := 3, ground := Go.Ground.phase }, { on := 4, ground := Go.Ground.phase }, { on := 5, ground := Go.Ground.phase }, { on := 6, ground := Go.Ground.phase }, { on := 7, ground := Go.Ground.phase }, { on := 8, ground := Go.Ground.phase }, { on := 9, ground := Go.Ground.phase }], guard := none }) rfl (fun K hK => ?_) AllReadyH.nil
    go_simp
    refine hK.out _ _ ((touch_set (S := fun k => k = D) w3 D 1 _ rfl).range hS3 (fun e => by have := H.out.lD; omega)) (fun hHeld12 => ?_)
    clear hK K
    try simp only [Act.put, List.setIfInBounds_toArray, List.set_cons_zero, List.set_cons_succ]
    refine wpAnyH_done (by kernel_rfl) ?_ _
    go_wp2_with fail
    go_ret
    refine ⟨_, rfl, by rw [← HCode.out]; exact ErrC.nil _ _, .inr ⟨HCode.out.symm, _, Disk_write H2.out HPL.out hi O3.out G3.out AT3.out, ?_, ?_⟩⟩
    · rcases AT3.out with e | e
      · exact .inl e
      · exact .inr ⟨_, e, by have := HB2.out.size; simp; omega⟩
    · have h1 : Touch (Its D F v) w (wd.alloc (.cells (lv i p).toArray 127)) := Touch.of_below (HB2.out.trans (((Below.refl _ _).alloc (Nat.le_refl _) _).mono HB2.out.size))
      have h2 : Touch (Its D F v) w w3 := h1.trans ((touch_grown G3.out).mono (fun k hk => .inr (.inr hk)))
      exact Touch.setCells h2 D (.inl (.inl rfl)) [_] 1 w3 h2
  · obtain ⟨tt, xx, rfl⟩ := he.iface hc
    have HE := Lib.hid he
    clear he hb1 hcode
    go_wp2_with fail
    go_ret
    exact ⟨_, rfl, by rw [← HCode.out]; exact HE.out.mono (by simp), .inl ⟨by rw [← HCode.out]; exact hc, H.out.under HB.out, HB.out⟩⟩
end Go.Proofs.YtmnkgcgmbdkjaaaDoor
namespace Go.Proofs.YtmnkgcgmbdkjaaaDoor
open Go.RowKit Go.Extern.Stop Go.Stop Go.Extern
set_option linter.unusedVariables false
set_option linter.unusedSimpArgs false

theorem there_sub {w : World} {b o n i m : Nat} (h : w.there b o n) (hi : i + m ≤ n) : w.there b (o + i) m := fun j hj => by
  have := h (i + j) (by omega)
  rwa [← Nat.add_assoc] at this
theorem flatP_length : ∀ (l : List Pg), (∀ p ∈ l, p.length = 128) → (flatP l).length = l.length * 128
  | [], _ => rfl
  | p :: l, h => by
    have ih := flatP_length l (fun q hq => h q (List.mem_cons_of_mem _ hq))
    have hp := h p List.mem_cons_self
    unfold flatP at ih ⊢
    rw [List.flatMap_cons, List.length_append, pv_length, hp, ih, List.length_cons, Nat.succ_mul, Nat.add_comm]
/-- the sectors behind a store of one -/
theorem range_set {w : World} {F : Nat} {firm : List Pg} (h : w.rangeAt F 0 (flatP firm)) (ht : w.there F 0 (firm.length * 128)) (hp : ∀ p ∈ firm, p.length = 128) (i : Nat) (hi : i < firm.length) (p : Pg) (hpl : p.length = 128) :
    (w.setCells F (i * 128) (pv p)).rangeAt F 0 (flatP (firm.set i p)) := fun j v hv => by
  have hps : ∀ q ∈ firm.set i p, q.length = 128 := fun q hq => by
    rcases List.mem_or_eq_of_mem_set hq with h | h
    · exact hp q h
    · exact h ▸ hpl
  have hj : j < firm.length * 128 := by
    have := (List.getElem?_eq_some_iff.1 hv).1
    rwa [flatP_length _ hps, List.length_set] at this
  obtain ⟨k, r, hr, rfl⟩ : ∃ k r, r < 128 ∧ j = k * 128 + r := ⟨j / 128, j % 128, Nat.mod_lt _ (by omega), by omega⟩
  have hk : k < firm.length := by omega
  rw [flatP, flat_at pv 128 _ k r (by rw [List.length_set]; exact hk) (fun q hq => by rw [pv_length, hps q hq]) hr] at hv
  rw [Nat.zero_add]
  by_cases hki : k = i
  · subst hki
    rw [List.getElem_set_self] at hv
    have := World.rangeAt_setCells_same w F (k * 128) (pv p) (by
      have := there_sub (i := k * 128) (m := 128) ht (by omega)
      rw [pv_length, hpl]
      rwa [Nat.zero_add] at this)
    exact this r v hv
  · rw [List.getElem_set_ne (fun e => hki e.symm)] at hv
    rw [World.cell?_setCells_out F (pv p) (i * 128) w _ (fun _ _ => by
      rw [pv_length, hpl]
      show k * 128 + r < i * 128 ∨ i * 128 + 128 ≤ k * 128 + r
      omega)]
    have := h (k * 128 + r) v (by rw [flatP, flat_at pv 128 _ k r hk (fun q hq => by rw [pv_length, hp q hq]) hr]; exact hv)
    rwa [Nat.zero_add] at this
/-- a sector is stored -/
theorem DiskIn.put {w : World} {base D F : Nat} {v : Value} {firm : List Pg} {loose : Ls} {down : Bool} (h : DiskIn w base D F v firm loose down) (i : Nat) (hi : i < firm.length) (p : Pg) (hp : p.length = 128) :
    DiskIn (w.setCells F (i * 128) (pv p)) base D F v (firm.set i p) loose down := by
  have t : Touch (fun k => k = F) w (w.setCells F (i * 128) (pv p)) := Touch.setCells (S := fun k => k = F) (Touch.refl _ w) F (.inl rfl) (pv p) _ w (Touch.refl _ _)
  exact { c0 := (by rw [List.length_set]; exact t.cell h.c0 h.ne),
          c1 := t.cell h.c1 h.ne, c2 := t.cell h.c2 h.ne,
          f1 := (by rw [World.frozen?_setCells]; exact h.f1), f2 := (by rw [World.frozen?_setCells]; exact h.f2),
          hF := range_set h.hF h.tF h.pg i hi p hp,
          tF := (by rw [List.length_set]; exact World.there_setCells h.tF _ _ _),
          hl := own_mv h.hl (fun k hk => t.block k (h.hl.lt k hk).2 (fun e => h.nF (by rw [hk, e]))),
          bD := h.bD, bF := h.bF, lF := Nat.lt_of_lt_of_le h.lF t.size, ne := h.ne, nD := h.nD, nF := h.nF,
          pg := (fun q hq => by
            rcases List.mem_or_eq_of_mem_set hq with h' | h'
            · exact h.pg q h'
            · exact h' ▸ hp),
          pl := (fun x hx => by rw [List.length_set]; exact h.pl x hx),
          n0 := (by rw [List.length_set]; exact h.n0), n1 := (by rw [List.length_set]; exact h.n1) }
/-- the loose writes are gone -/
theorem DiskIn.bare {w : World} {base D F : Nat} {v : Value} {firm : List Pg} {loose : Ls} {down : Bool} (h : DiskIn w base D F v firm loose down) :
    DiskIn (w.setCell ⟨D, 1, none⟩ (.slice none 0 0)) base D F (.slice none 0 0) firm [] down := by
  have t2 : Touch (fun k => k = D) w (w.setCell ⟨D, 1, none⟩ (.slice none 0 0)) := touch_set w D 1 _ rfl
  exact { c0 := (by rw [World.cell?_setCell_other _ _ _ _ (by simp)]; exact h.c0),
          c1 := World.cell?_setCell_same _ _ _ h.c1,
          c2 := (by rw [World.cell?_setCell_other _ _ _ _ (by simp)]; exact h.c2),
          f1 := (by rw [World.frozen?_setCell]; exact h.f1), f2 := (by rw [World.frozen?_setCell]; exact h.f2),
          hF := t2.range h.hF (fun e => h.ne e.symm), tF := t2.there h.tF (fun e => h.ne e.symm),
          hl := own_nil1 _ _ _ _,
          bD := h.bD, bF := h.bF, lF := Nat.lt_of_lt_of_le h.lF t2.size, ne := h.ne, nD := (by simp [Value.ownBlock]), nF := (by simp [Value.ownBlock]),
          pg := h.pg, pl := (fun x hx => by cases hx), n0 := h.n0, n1 := h.n1 }
def flushStep (firm : List Pg) (x : Int × Pg) : List Pg := firm.set x.1.toNat x.2
def flushP (firm : List Pg) (loose : Ls) : List Pg := loose.foldl flushStep firm
def flushTo (firm : List Pg) (loose : Ls) (k : Nat) : List Pg := (loose.take k).foldl flushStep firm
theorem flushTo_step (firm : List Pg) (loose : Ls) (k : Nat) (h : k < loose.length) : flushTo firm loose (k + 1) = (flushTo firm loose k).set loose[k].1.toNat loose[k].2 := by
  unfold flushTo
  rw [List.take_succ_eq_append_getElem h, List.foldl_append]
  rfl
theorem flushP_length (loose : Ls) : ∀ (firm : List Pg), (flushP firm loose).length = firm.length := by
  induction loose with
  | nil => intro firm; rfl
  | cons x l ih =>
    intro firm
    show (flushP (flushStep firm x) l).length = _
    rw [ih, flushStep, List.length_set]
theorem flushTo_length (firm : List Pg) (loose : Ls) (k : Nat) : (flushTo firm loose k).length = firm.length := flushP_length _ _
structure FInv (base D F : Nat) (v : Value) (w2 : World) (firm : List Pg) (loose : Ls) (down : Bool) (w : World) : Prop where
  d : DiskIn w base D F v firm loose down
  t : Touch (fun b => b = F) w2 w
theorem FInv.under {base D F : Nat} {v : Value} {w2 : World} {firm : List Pg} {loose : Ls} {down : Bool} {w w' : World} (h : FInv base D F v w2 firm loose down w) (hb : Below w.heap.size w w') : FInv base D F v w2 firm loose down w' :=
  ⟨h.d.under hb, h.t.trans (Touch.of_below hb)⟩
theorem FInv.put {base D F : Nat} {v : Value} {w2 : World} {firm : List Pg} {loose : Ls} {down : Bool} {w : World} (h : FInv base D F v w2 firm loose down w) (i : Nat) (hi : i < firm.length) (p : Pg) (hp : p.length = 128) : FInv base D F v w2 (firm.set i p) loose down (w.setCells F (i * 128) (pv p)) :=
  ⟨h.d.put i hi p hp, Touch.setCells h.t F (.inl rfl) (pv p) _ w h.t⟩
/-- the disk behind a flush -/
def FlushPost (base D F : Nat) (v : Value) (firm : List Pg) (loose : Ls) (down : Bool) (w : World) (e : Ending) (w' : World) : Prop :=
  ∃ ev, e = .returned ev ∧ ErrC w.heap.size w' ev (mayC down firm.length 0) ∧
    ((down = true ∧ DiskIn w' base D F v firm loose down ∧ Below w.heap.size w w') ∨
     (down = false ∧ DiskIn w' base D F (.slice none 0 0) (flushP firm loose) [] down ∧ Touch (Its D F v) w w'))
theorem flush_nil (w : World) : Calls Tryd.prog 23 #[.pointer none] w fun e w' => ∃ v, e = .returned v ∧ ErrC w.heap.size w' v 1 ∧ Below w.heap.size w w' := by
  go_enter Tryd.func23, Tryd.ntmps23
  go_wp2_with fail
  refine (may_nil 0 _).mono ?_
  rintro e w1 ⟨v, rfl, he, hb1⟩
  obtain ⟨tt, xx, rfl⟩ := he.iface (by decide)
  have HE := Lib.hid he
  have HB := Lib.hid hb1
  clear he hb1
  go_wp2_with fail
  go_ret
  exact ⟨_, rfl, HE.out, HB.out⟩
set_option maxHeartbeats 1000000 in
set_option maxRecDepth 100000 in
theorem flush_any {w : World} {base D F : Nat} {v : Value} {firm : List Pg} {loose : Ls} {down : Bool} (h : DiskIn w base D F v firm loose down) (hls : loose.length ≤ 1000000) :
    Calls Tryd.prog 23 #[.pointer (some ⟨D, 0, none⟩)] w (FlushPost base D F v firm loose down w) := by
  have H := Lib.hid h
  clear h
  have HM := Lib.hid (may_any 0 H.out)
  obtain ⟨code, hcode⟩ : ∃ c, c = mayC down firm.length 0 := ⟨_, rfl⟩
  rw [← hcode] at HM
  have HCode := Lib.hid hcode
  go_enter Tryd.func23, Tryd.ntmps23
  go_wp2_with fail
  refine HM.out.mono ?_
  rintro e w2 ⟨ev, rfl, he, hb1⟩
  have HB2 := Lib.hid hb1
  have HDn : Hid (code = 0 ↔ down = false) := Lib.hid (by
    have := H.out.n0
    rw [hcode]; unfold mayC
    cases down with
    | true => simp
    | false => rw [if_neg (by simp), if_pos ⟨Int.le_refl 0, by omega⟩]; simp)
  by_cases hc : code = 0
  · subst hc
    obtain rfl := he.zero
    have H2 := Lib.hid (H.out.under HB2.out)
    clear he hcode hb1
    have c1 := H2.out.c1
    obtain ⟨A, c, rfl⟩ := own_slice H2.out.hl
    have hn240 := H2.out.n1
    go_wp2_with fail
    go_loopg [16] loose.length (fun gg s29 wr => ∃ k : Nat, k ≤ loose.length ∧ loose.length - k ≤ gg ∧ s29 = .int .i64 k ∧ Hid (FInv base D F (.slice A loose.length c) w2 (flushTo firm loose k) loose down wr))
    case atStart => exact ⟨0, Nat.zero_le _, by omega, rfl, Lib.hid ⟨H2.out, Touch.refl _ _⟩⟩
    case round =>
      obtain ⟨k, hk, hg, rfl, HI⟩ := hrel
      by_cases hlt : k < loose.length
      · have hltz : (k : Int) < (loose.length : Int) := by omega
        obtain ⟨g, rfl⟩ : ∃ g, A = some ⟨g, 0, none⟩ := by
          rcases H2.out.hl.2 with ⟨_, hn⟩ | ⟨g, cap, cur, hv, _⟩
          · omega
          · simp only [Value.slice.injEq] at hv; exact ⟨g, hv.1⟩
        have hpk := H2.out.pl _ (List.getElem_mem hlt)
        have HRk := Lib.hid (own_part HI.out.d.hl rfl (fun x hx => (H2.out.pl x hx).1) k hlt)
        have HSt := Lib.hid (flushTo_step firm loose k hlt)
        obtain ⟨xi, hxi⟩ : ∃ q, q = loose[k].1 := ⟨_, rfl⟩
        obtain ⟨xp, hxp⟩ : ∃ q, q = loose[k].2 := ⟨_, rfl⟩
        rw [← hxi, ← hxp] at HRk HSt hpk
        have HXP := Lib.hid hpk.1
        obtain ⟨xn, rfl⟩ : ∃ n : Nat, xi = (n : Int) := ⟨xi.toNat, by omega⟩
        have hxn : xn < firm.length := by omega
        clear hxi hxp hpk
        go_upto_region 7 with (first | ((with_reducible refine at_ld 127 (.tmp 18) ?_); refine ld_ls rfl _ rfl g (k * 129) rfl xn xp ?_ ?_ ?_; exact HXP.out; exact HRk.out) | ((with_reducible refine at_al 127 ?_); refine al_ls rfl rfl ?_) | ((with_reducible refine at_st 127 (.tmp 5) (.tmp 19) ?_); refine st_nls rfl _ _ rfl _ _ _ rfl rfl xn xp ?_ rfl ?_ ?_; exact HXP.out; exact lzsz))
        obtain ⟨w4, hw4⟩ : ∃ w4, w4 = wr.alloc (.cells (lv xn xp).toArray 127) := ⟨_, rfl⟩
        obtain ⟨y0, yr⟩ := lv_range_new wr xn xp 127
        rw [← hw4] at y0 yr ⊢
        have HY := Lib.hid yr
        have hb4 : Below wr.heap.size wr w4 := by rw [hw4]; exact (Below.refl _ _).alloc (Nat.le_refl _) _
        have HI4 := Lib.hid (HI.out.under hb4)
        have c0 := HI4.out.d.c0
        have hfl := flushTo_length firm loose k
        have hbd : Below w4.heap.size w4 w4.drew := Below.drew (Below.refl _ _)
        have HI5 := Lib.hid (HI4.out.under hbd)
        have HTk := Lib.hid (there_sub (i := xn * 128) (m := 128) HI5.out.d.tF (by omega))
        rw [Nat.zero_add] at HTk
        have HPut := Lib.hid (HI5.out.put xn (by omega) xp HXP.out)
        rw [Int.toNat_natCast] at HSt
        rw [← HSt.out] at HPut
        clear hw4 yr hb4 hbd
        rw [hfl] at c0
        have hil : (xn : Int) < (firm.length : Int) := by omega
        refine wp_region_still_tail 9 (by kernel_rfl) (by kernel_rfl) ?_
        simp only [List.take_succ_cons, List.take_zero, List.drop_succ_cons, List.drop_zero]
        iterate 7 still_step
        refine still_pg rfl _ rfl wr.heap.size 1 rfl xp HXP.out ?_ ?_
        · exact (World.rangeAt_drew _ _ _ _).2 HY.out
        still_step
        refine wpStill_nil ?_
        go_wp2_with ((with_reducible refine at_st 36 (.tmp 28) (.tmp 27) ?_); refine st_pg rfl _ _ rfl F (xn * 128) rfl xp ?_ rfl ?_ ?_; exact HXP.out; exact HTk.out)
        go_roundg (loose.length - (k + 1))
        case measure => omega
        case rel => exact ⟨k + 1, by omega, by omega, by go_num, HPut⟩
      · have hkl : k = loose.length := by omega
        have hre : flushTo firm loose k = flushP firm loose := by rw [hkl]; unfold flushTo flushP; rw [List.take_length]
        rw [hre] at HI
        have hltb : ¬ (k : Int) < (loose.length : Int) := by omega
        have c1 := HI.out.d.c1
        have f1 := HI.out.d.f1
        clear hkl hre
        go_wp2_with fail
        go_ret
        refine ⟨_, rfl, by rw [← HCode.out]; exact ErrC.nil _ _, .inr ⟨by simpa using HDn.out, HI.out.d.bare, ?_⟩⟩
        have h1 : Touch (Its D F (.slice A loose.length c)) w wr := (Touch.of_below HB2.out).trans (HI.out.t.mono (fun k hk => .inr (.inl hk)))
        exact Touch.setCells h1 D (.inl (.inl rfl)) [_] 1 wr h1
  · obtain ⟨tt, xx, rfl⟩ := he.iface hc
    have HE := Lib.hid he
    clear he hb1 hcode
    go_wp2_with fail
    go_ret
    exact ⟨_, rfl, by rw [← HCode.out]; exact HE.out, .inl ⟨by cases hd : down with
      | true => rfl
      | false => exact absurd (HDn.out.2 hd) hc, H.out.under HB2.out, HB2.out⟩⟩
end Go.Proofs.YtmnkgcgmbdkjaaaDoor
namespace Go.Proofs.YtmnkgcgmbdkjaaaDoor
open Go.RowKit Go.Extern.Stop Go.Stop Go.Extern
set_option linter.unusedVariables false
set_option linter.unusedSimpArgs false

/-- the first n bytes of p, then what q held -/
def mix (n : Nat) (p q : Pg) : Pg := p.take n ++ q.drop n
theorem mix_length {n : Nat} {p q : Pg} (hn : n ≤ 128) (hp : p.length = 128) (hq : q.length = 128) : (mix n p q).length = 128 := by
  unfold mix; rw [List.length_append, List.length_take, List.length_drop, hp, hq]; omega
theorem range_mix {w : World} {F : Nat} {firm : List Pg} (h : w.rangeAt F 0 (flatP firm)) (ht : w.there F 0 (firm.length * 128)) (hp : ∀ p ∈ firm, p.length = 128) (i : Nat) (hi : i < firm.length) (p : Pg) (hpl : p.length = 128) (n : Nat) (hn : n ≤ 128) :
    (w.setCells F (i * 128) ((pv p).take n)).rangeAt F 0 (flatP (firm.set i (mix n p firm[i]))) := fun j v hv => by
  have hm := mix_length (n := n) (p := p) (q := firm[i]) hn hpl (hp _ (List.getElem_mem hi))
  have hps : ∀ q ∈ firm.set i (mix n p firm[i]), q.length = 128 := fun q hq => by
    rcases List.mem_or_eq_of_mem_set hq with h | h
    · exact hp q h
    · exact h ▸ hm
  have hl : ((pv p).take n).length = n := by rw [List.length_take, pv_length, hpl]; omega
  have hj : j < firm.length * 128 := by
    have := (List.getElem?_eq_some_iff.1 hv).1
    rwa [flatP_length _ hps, List.length_set] at this
  obtain ⟨k, r, hr, rfl⟩ : ∃ k r, r < 128 ∧ j = k * 128 + r := ⟨j / 128, j % 128, Nat.mod_lt _ (by omega), by omega⟩
  have hk : k < firm.length := by omega
  rw [flatP, flat_at pv 128 _ k r (by rw [List.length_set]; exact hk) (fun q hq => by rw [pv_length, hps q hq]) hr] at hv
  rw [Nat.zero_add]
  have old : ∀ (hne : k ≠ i ∨ n ≤ r), (pv firm[k])[r]? = some v → (w.setCells F (i * 128) ((pv p).take n)).cell? ⟨F, k * 128 + r, none⟩ = some v := fun hne hv => by
    rw [World.cell?_setCells_out F _ (i * 128) w _ (fun _ _ => by
      rw [hl]
      show k * 128 + r < i * 128 ∨ i * 128 + n ≤ k * 128 + r
      rcases hne with h | h
      · omega
      · rcases Nat.lt_trichotomy k i with q | q | q <;> omega)]
    have := h (k * 128 + r) v (by rw [flatP, flat_at pv 128 _ k r hk (fun q hq => by rw [pv_length, hp q hq]) hr]; exact hv)
    rwa [Nat.zero_add] at this
  by_cases hki : k = i
  · subst hki
    rw [List.getElem_set_self] at hv
    have e : pv (mix n p firm[k]) = (pv p).take n ++ (pv firm[k]).drop n := by unfold mix pv; rw [List.map_append, List.map_take, List.map_drop]
    rw [e] at hv
    by_cases hrn : r < n
    · rw [List.getElem?_append_left (by rw [hl]; exact hrn)] at hv
      have := World.rangeAt_setCells_same w F (k * 128) ((pv p).take n) (by
        have := there_sub (i := k * 128) (m := n) ht (by omega)
        rw [hl]
        rwa [Nat.zero_add] at this)
      exact this r v hv
    · rw [List.getElem?_append_right (by rw [hl]; omega), hl, List.getElem?_drop, show n + (r - n) = r by omega] at hv
      exact old (.inr (by omega)) hv
  · rw [List.getElem_set_ne (fun e => hki e.symm)] at hv
    exact old (.inl hki) hv
/-- a sector is stored in part -/
theorem DiskIn.part {w : World} {base D F : Nat} {v : Value} {firm : List Pg} {loose : Ls} {down : Bool} (h : DiskIn w base D F v firm loose down) (i : Nat) (hi : i < firm.length) (p : Pg) (hp : p.length = 128) (n : Nat) (hn : n ≤ 128) :
    DiskIn (w.setCells F (i * 128) ((pv p).take n)) base D F v (firm.set i (mix n p firm[i])) loose down := by
  have t : Touch (fun k => k = F) w (w.setCells F (i * 128) ((pv p).take n)) := Touch.setCells (S := fun k => k = F) (Touch.refl _ w) F (.inl rfl) ((pv p).take n) _ w (Touch.refl _ _)
  exact { c0 := (by rw [List.length_set]; exact t.cell h.c0 h.ne),
          c1 := t.cell h.c1 h.ne, c2 := t.cell h.c2 h.ne,
          f1 := (by rw [World.frozen?_setCells]; exact h.f1), f2 := (by rw [World.frozen?_setCells]; exact h.f2),
          hF := range_mix h.hF h.tF h.pg i hi p hp n hn,
          tF := (by rw [List.length_set]; exact World.there_setCells h.tF _ _ _),
          hl := own_mv h.hl (fun k hk => t.block k (h.hl.lt k hk).2 (fun e => h.nF (by rw [hk, e]))),
          bD := h.bD, bF := h.bF, lF := Nat.lt_of_lt_of_le h.lF t.size, ne := h.ne, nD := h.nD, nF := h.nF,
          pg := (fun q hq => by
            rcases List.mem_or_eq_of_mem_set hq with h' | h'
            · exact h.pg q h'
            · exact h' ▸ mix_length hn hp (h.pg _ (List.getElem_mem hi))),
          pl := (fun x hx => by rw [List.length_set]; exact h.pl x hx),
          n0 := (by rw [List.length_set]; exact h.n0), n1 := (by rw [List.length_set]; exact h.n1) }
theorem FInv.part {base D F : Nat} {v : Value} {w2 : World} {firm : List Pg} {loose : Ls} {down : Bool} {w : World} (h : FInv base D F v w2 firm loose down w) (i : Nat) (hi : i < firm.length) (p : Pg) (hp : p.length = 128) (n : Nat) (hn : n ≤ 128) : FInv base D F v w2 (firm.set i (mix n p firm[i])) loose down (w.setCells F (i * 128) ((pv p).take n)) :=
  ⟨h.d.part i hi p hp n hn, Touch.setCells h.t F (.inl rfl) ((pv p).take n) _ w h.t⟩
/-- the power is gone -/
theorem DiskIn.dark {w : World} {base D F : Nat} {v : Value} {firm : List Pg} {loose : Ls} {down : Bool} (h : DiskIn w base D F v firm loose down) (b : Bool) : DiskIn (w.setCell ⟨D, 2, none⟩ (.bool b)) base D F v firm loose b := by
  have t2 : Touch (fun k => k = D) w (w.setCell ⟨D, 2, none⟩ (.bool b)) := touch_set w D 2 _ rfl
  exact { c0 := (by rw [World.cell?_setCell_other _ _ _ _ (by simp)]; exact h.c0),
          c1 := (by rw [World.cell?_setCell_other _ _ _ _ (by simp)]; exact h.c1),
          c2 := World.cell?_setCell_same _ _ _ h.c2,
          f1 := (by rw [World.frozen?_setCell]; exact h.f1), f2 := (by rw [World.frozen?_setCell]; exact h.f2),
          hF := t2.range h.hF (fun e => h.ne e.symm), tF := t2.there h.tF (fun e => h.ne e.symm),
          hl := own_mv h.hl (fun k hk => t2.block k (h.hl.lt k hk).2 (fun e => h.nD (by rw [hk, e]))),
          bD := h.bD, bF := h.bF, lF := Nat.lt_of_lt_of_le h.lF t2.size, ne := h.ne, nD := h.nD, nF := h.nF,
          pg := h.pg, pl := h.pl, n0 := h.n0, n1 := h.n1 }
def bitB (mask : Int) (n : Nat) : Bool := bits BinOp.and IntKind.u32 (mask / 2 ^ (n % 32)) 1 == 1
def cutP (torn : Int) : Nat := (max torn 0 % 128).toNat
def crashTo (mask : Int) (firm : List Pg) (loose : Ls) (cut : Nat) : Nat → List Pg × Nat
  | 0 => (firm, cut)
  | k + 1 =>
    let s := crashTo mask firm loose cut k
    match loose[k]? with
    | none => s
    | some x => if bitB mask k = true then (s.1.set x.1.toNat x.2, s.2) else (s.1.set x.1.toNat (mix s.2 x.2 (s.1.getD x.1.toNat zp)), 0)
def crashP (mask torn : Int) (firm : List Pg) (loose : Ls) : List Pg := (crashTo mask firm loose (cutP torn) loose.length).1
theorem crashTo_length (mask : Int) (firm : List Pg) (loose : Ls) (cut k : Nat) : (crashTo mask firm loose cut k).1.length = firm.length := by
  induction k with
  | zero => rfl
  | succ k ih =>
    unfold crashTo
    split
    · exact ih
    · split
      · simp only [List.length_set]; exact ih
      · simp only [List.length_set]; exact ih
theorem crashTo_cut (mask : Int) (firm : List Pg) (loose : Ls) (cut k : Nat) (h : cut < 128) : (crashTo mask firm loose cut k).2 < 128 := by
  induction k with
  | zero => exact h
  | succ k ih =>
    unfold crashTo
    split
    · exact ih
    · split
      · exact ih
      · exact Nat.succ_pos _
theorem crashTo_step (mask : Int) (firm : List Pg) (loose : Ls) (cut k : Nat) (h : k < loose.length) : crashTo mask firm loose cut (k + 1) =
    if bitB mask k = true then ((crashTo mask firm loose cut k).1.set loose[k].1.toNat loose[k].2, (crashTo mask firm loose cut k).2)
    else ((crashTo mask firm loose cut k).1.set loose[k].1.toNat (mix (crashTo mask firm loose cut k).2 loose[k].2 ((crashTo mask firm loose cut k).1.getD loose[k].1.toNat zp)), 0) := by
  rw [crashTo]; simp only [List.getElem?_eq_getElem h]
theorem FInv.part' {base D F : Nat} {v : Value} {w2 : World} {firm : List Pg} {loose : Ls} {down : Bool} {w : World} (h : FInv base D F v w2 firm loose down w) (i : Nat) (hi : i < firm.length) (p : Pg) (hp : p.length = 128) (n : Nat) (hn : n ≤ 128) : FInv base D F v w2 (firm.set i (mix n p (firm.getD i zp))) loose down (w.setCells F (i * 128) ((pv p).take n)) := by
  have e : firm.getD i zp = firm[i] := by rw [List.getD_eq_getElem?_getD, List.getElem?_eq_getElem hi]; rfl
  rw [e]; exact h.part i hi p hp n hn
theorem cutP_lt (torn : Int) : cutP torn < 128 := by unfold cutP; omega
section
variable {ops : Array Oper} {rest : List Oper} {op : Oper} {a : Act} {w : World}
theorem cp_pg {Q : Exit → Act → World → Prop} (hg : op.guard = none) (x y : Operand) (ho : op.op = .call { callee := .builtin .copy, args := #[x, y], argTypes := #[56, 56] }) (b o n c : Nat) (ad : Addr) (c' : Nat) (hx : a.eval x = .slice (some ⟨b, o, none⟩) n c) (hy : a.eval y = .slice (some ad) 128 c')
    (p : Pg) (hp : p.length = 128) (hn : n ≤ 128) (hr : ∀ j v, (pv p)[j]? = some v → w.cell? (ad.add j) = some v) (ht : w.there b o 128)
    (h : wpList Tryd.prog ops Q rest (a.put op.dst (goInt n)) (w.setCells b o ((pv p).take n))) : wpList Tryd.prog ops Q (op :: rest) a w := by
  have hl : ((pv p).take n).length = n := by rw [List.length_take, pv_length, hp]; omega
  have hc := run_copy_cells (P := Tryd.prog) w 56 56 op.type 5 b o n c ad 128 c' ((pv p).take n) Tryd.underlying56 (by kernel_rfl) (by rw [hl]; exact (Nat.min_eq_right hn).symm) (fun j v hv => hr j v (by
    rw [List.getElem?_take] at hv
    split at hv
    · exact hv
    · cases hv)) (fun j hj => (ht j (by omega)).1) (fun j hj => (ht j (by omega)).2) (fun v hv => pv_one p v (List.mem_of_mem_take hv))
  rw [hl] at hc
  refine wpList_plain hg fun K hK => ?_
  unfold Oper.wp execOp
  simp only [ho, resolve, invoke, builtin, Sem.run_bind, Sem.run_pure, Result.andThen_ok, List.map_toArray, List.map_cons, List.map_nil, hx, hy, hc]
  exact hK _ _ h
end
theorem crash_nil (mask torn : Int) (w : World) : Calls Tryd.prog 25 #[.pointer none, .int .u32 mask, .int .i64 torn] w fun e w' => e = .returned (.tuple #[]) ∧ Below w.heap.size w w' := by
  go_enter Tryd.func25, Tryd.ntmps25
  go_wp2_with fail
  refine bodyPost_ret (v := .tuple #[]) (results_none Tryd.results25 _ _ _) rfl ?_
  exact ⟨rfl, Below.refl _ _⟩
def CrashPost (base D F : Nat) (v : Value) (firm : List Pg) (loose : Ls) (mask torn : Int) (w : World) (e : Ending) (w' : World) : Prop :=
  e = .returned (.tuple #[]) ∧ DiskIn w' base D F (.slice none 0 0) (crashP mask torn firm loose) [] true ∧ Touch (Its D F v) w w'
set_option maxHeartbeats 1000000 in
set_option maxRecDepth 100000 in
theorem crash_any {w : World} {base D F : Nat} {v : Value} {firm : List Pg} {loose : Ls} {down : Bool} (mask torn : Int) (h : DiskIn w base D F v firm loose down) (hls : loose.length ≤ 1000000) (hm0 : 0 ≤ mask) (hm1 : mask < 4294967296) (ht1 : torn < 9223372036854775808) :
    Calls Tryd.prog 25 #[.pointer (some ⟨D, 0, none⟩), .int .u32 mask, .int .i64 torn] w (CrashPost base D F v firm loose mask torn w) := by
  have H2 := Lib.hid h
  clear h
  have c1 := H2.out.c1
  obtain ⟨A, c, rfl⟩ := own_slice H2.out.hl
  have hn240 := H2.out.n1
  go_enter Tryd.func25, Tryd.ntmps25
  go_wp2_with fail
  all_goals
    have HC0 : Hid (cutP torn < 128) := Lib.hid (cutP_lt torn)
    go_loopg [19, 6] loose.length (fun gg s19 s6 wr => ∃ k : Nat, k ≤ loose.length ∧ loose.length - k ≤ gg ∧ s19 = .int .i64 k ∧ s6 = .int .i64 ((crashTo mask firm loose (cutP torn) k).2 : Nat) ∧ Hid (FInv base D F (.slice A loose.length c) w (crashTo mask firm loose (cutP torn) k).1 loose down wr))
    case atStart => exact ⟨0, Nat.zero_le _, by omega, rfl, by congr 1; show _ = ((cutP torn : Nat) : Int); unfold cutP; omega, Lib.hid ⟨H2.out, Touch.refl _ _⟩⟩
    case round =>
      obtain ⟨k, hk, hg, rfl, rfl, HI⟩ := hrel
      by_cases hlt : k < loose.length
      · have hltz : (k : Int) < (loose.length : Int) := by omega
        obtain ⟨g, rfl⟩ : ∃ g, A = some ⟨g, 0, none⟩ := by
          rcases H2.out.hl.2 with ⟨_, hn⟩ | ⟨g, cap, cur, hv, _⟩
          · omega
          · simp only [Value.slice.injEq] at hv; exact ⟨g, hv.1⟩
        have hpk := H2.out.pl _ (List.getElem_mem hlt)
        have HRk := Lib.hid (own_part HI.out.d.hl rfl (fun x hx => (H2.out.pl x hx).1) k hlt)
        have hfl := crashTo_length mask firm loose (cutP torn) k
        have HSt := Lib.hid (crashTo_step mask firm loose (cutP torn) k hlt)
        have HCk := Lib.hid (crashTo_cut mask firm loose (cutP torn) k HC0.out)
        obtain ⟨fk, hfk⟩ : ∃ q, q = (crashTo mask firm loose (cutP torn) k).1 := ⟨_, rfl⟩
        obtain ⟨ck, hck⟩ : ∃ q, q = (crashTo mask firm loose (cutP torn) k).2 := ⟨_, rfl⟩
        obtain ⟨xi, hxi⟩ : ∃ q, q = loose[k].1 := ⟨_, rfl⟩
        obtain ⟨xp, hxp⟩ : ∃ q, q = loose[k].2 := ⟨_, rfl⟩
        simp only [← hxi, ← hxp, ← hfk, ← hck] at HRk hpk HSt HCk HI hfl ⊢
        have HXP := Lib.hid hpk.1
        obtain ⟨xn, rfl⟩ : ∃ n : Nat, xi = (n : Int) := ⟨xi.toNat, by omega⟩
        have hxn : xn < firm.length := by omega
        clear hxi hxp hpk hfk hck
        go_upto_region 5 with (first | ((with_reducible refine at_ld 127 (.tmp 22) ?_); refine ld_ls rfl _ rfl g (k * 129) rfl xn xp ?_ ?_ ?_; exact HXP.out; exact HRk.out) | ((with_reducible refine at_al 127 ?_); refine al_ls rfl rfl ?_) | ((with_reducible refine at_st 127 (.tmp 8) (.tmp 23) ?_); refine st_nls rfl _ _ rfl _ _ _ rfl rfl xn xp ?_ rfl ?_ ?_; exact HXP.out; exact lzsz))
        obtain ⟨w4, hw4⟩ : ∃ w4, w4 = wr.alloc (.cells (lv xn xp).toArray 127) := ⟨_, rfl⟩
        obtain ⟨y0, yr⟩ := lv_range_new wr xn xp 127
        rw [← hw4] at y0 yr ⊢
        have HY := Lib.hid yr
        have hb4 : Below wr.heap.size wr w4 := by rw [hw4]; exact (Below.refl _ _).alloc (Nat.le_refl _) _
        have HI4 := Lib.hid (HI.out.under hb4)
        clear hw4 yr hb4
        have c0 := HI4.out.d.c0
        rw [hfl] at c0
        have hbd : Below w4.heap.size w4 w4.drew := Below.drew (Below.refl _ _)
        have HI5 := Lib.hid (HI4.out.under hbd)
        have HTk := Lib.hid (there_sub (i := xn * 128) (m := 128) HI5.out.d.tF (by omega))
        rw [Nat.zero_add] at HTk
        rw [Int.toNat_natCast] at HSt
        clear hbd
        have hil : (xn : Int) < (firm.length : Int) := by omega
        by_cases hbit : bitB mask k = true
        · have HPut := Lib.hid (HI5.out.put xn (by omega) xp HXP.out)
          rw [if_pos hbit] at HSt
          have hbt : (bits BinOp.and IntKind.u32 (mask / 2 ^ (k % 32)) 1 == 1) = true := hbit
          clear hbit
          go_upto_region 6 with fail
          refine wp_region_still_tail 9 (by kernel_rfl) (by kernel_rfl) ?_
          simp only [List.take_succ_cons, List.take_zero, List.drop_succ_cons, List.drop_zero]
          iterate 7 still_step
          refine still_pg rfl _ rfl wr.heap.size 1 rfl xp HXP.out ?_ ?_
          · exact (World.rangeAt_drew _ _ _ _).2 HY.out
          still_step
          refine wpStill_nil ?_
          go_wp2_with ((with_reducible refine at_st 36 (.tmp 38) (.tmp 37) ?_); refine st_pg rfl _ _ rfl F (xn * 128) rfl xp ?_ rfl ?_ ?_; exact HXP.out; exact HTk.out)
          go_roundg (loose.length - (k + 1))
          case measure => omega
          case rel => exact ⟨k + 1, by omega, by omega, by go_num, by rw [HSt.out], by rw [HSt.out]; exact HPut⟩
        · have HPut := Lib.hid (HI5.out.part' xn (by omega) xp HXP.out ck (by have := HCk.out; omega))
          rw [if_neg hbit] at HSt
          have hbt : (bits BinOp.and IntKind.u32 (mask / 2 ^ (k % 32)) 1 == 1) = false := Bool.eq_false_iff.2 hbit
          have hck : (ck : Int) ≤ 128 := by have := HCk.out; omega
          have hck1 : ck ≤ 128 := by have := HCk.out; omega
          have HYd : Hid (∀ j v, (pv xp)[j]? = some v → w4.drew.cell? (Addr.add ⟨wr.heap.size, 1, none⟩ j) = some v) := Lib.hid (fun j v hv => by have := (World.rangeAt_drew _ _ _ _).2 HY.out j v hv; (by_cases h0 : j = 0); (subst h0; exact this); (rw [Addr.add, if_neg h0]; exact this))
          clear hbit
          go_upto_region 7 with fail
          refine wp_region_still_tail 11 (by kernel_rfl) (by kernel_rfl) ?_
          simp only [List.take_succ_cons, List.take_zero, List.drop_succ_cons, List.drop_zero]
          iterate 11 still_step
          refine wpStill_nil ?_
          go_wp2_with (refine cp_pg rfl _ _ rfl F (xn * 128) ck _ _ _ rfl rfl xp ?_ ?_ ?_ ?_ ?_; exact HXP.out; exact hck1; exact HYd.out; exact HTk.out)
          go_roundg (loose.length - (k + 1))
          case measure => omega
          case rel => exact ⟨k + 1, by omega, by omega, by go_num, by rw [HSt.out]; rfl, by rw [HSt.out]; exact HPut⟩
      · have hkl : k = loose.length := by omega
        rw [hkl] at HI
        have hltb : ¬ (k : Int) < (loose.length : Int) := by omega
        have c1 := HI.out.d.c1
        have f1 := HI.out.d.f1
        have c2 := HI.out.d.c2
        have f2 := HI.out.d.f2
        clear hkl
        go_wp2_with fail
        go_end0
        refine ⟨rfl, HI.out.d.bare.dark true, ?_⟩
        have h1 : Touch (Its D F (.slice (A) loose.length c)) w wr := HI.out.t.mono (fun k hk => .inr (.inl hk))
        have h2 := Touch.setCells h1 D (.inl (.inl rfl)) [.slice none 0 0] 1 wr h1
        exact Touch.setCells h2 D (.inl (.inl rfl)) [.bool true] 2 _ h2
end Go.Proofs.YtmnkgcgmbdkjaaaDoor
