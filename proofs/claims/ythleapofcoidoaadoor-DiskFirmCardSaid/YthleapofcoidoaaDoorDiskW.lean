/- (*disk.Disk).Write by its contract. -/
import Derived.Test.YthleapofcoidoaaDoorStill
import Derived.Deep.RegionHeld3
import Derived.Deep.AppendLies
import Derived.Outline
import Derived.Laws.AppendOwn
namespace Go.Proofs.YthleapofcoidoaaDoor
open Go.RowKit Go.Extern.Stop Go.Stop Go.Extern
set_option linter.unusedVariables false
set_option linter.unusedSimpArgs false

theorem lv_news (w : World) (i : Int) (p : Pg) (t : TypeId) : ∀ j u, (lv i p)[j]? = some u → (w.alloc (.cells (lv i p).toArray t)).cell? ((⟨w.heap.size, 0, none⟩ : Addr).add j) = some u := fun j u hj => by
  rw [Go.WideShapes.add_plain, Nat.zero_add, cell_of_row _ _ j _ t (0, 0) (heap_alloc_last w _)]; simpa using hj
theorem D_after {wd w3 : World} {base D F : Nat} {v : Value} {firm : List Pg} {loose : Ls} {down : Bool} {o : Obj} (h : DiskIn wd base D F v firm loose down) (hg : (wd.alloc o).grownBy w3 v.ownBlock) :
    w3.cell? ⟨D, 1, none⟩ = some v ∧ w3.frozen? ⟨D, 1, none⟩ = false := by
  have hD := h.lD
  have hb := hg.block D (by simp; omega) (fun e => h.nD e.symm)
  have ha : (wd.alloc o).heap[D]? = wd.heap[D]? := Below.heap_alloc wd o D hD
  exact ⟨(World.cell?_of_block (w := wd) (hb.trans ha)).trans h.c1, (World.frozen?_of_block (w := wd) (hb.trans ha)).trans h.f1⟩
theorem touch_grown {w w' : World} {row : Option Nat} (hg : w.grownBy w' row) : Touch (fun k => row = some k) w w' :=
  have hb : Below 0 w w' := (Below.refl 0 w).grown hg (Nat.zero_le _) (fun _ _ => Nat.zero_le _)
  ⟨hb.os, hb.tape, hb.output, hb.size, fun k hk hn => hg.block k hk (fun e => hn e.symm)⟩
theorem flatL_snoc (loose : Ls) (i : Int) (p : Pg) : flatL (loose ++ [(i, p)]) = flatL loose ++ lv i p := by simp [flatL]
theorem Disk_write {wd w3 : World} {base D F : Nat} {v v' : Value} {firm : List Pg} {loose : Ls} {down : Bool} {o : Obj} {i : Int} {p : Pg} (h : DiskIn wd base D F v firm loose down) (hp : p.length = 128) (hi : 0 ≤ i ∧ i < firm.length)
    (ho : w3.ownsRow base 83 129 v' (loose.length + 1) (flatL loose ++ lv i p)) (hg : (wd.alloc o).grownBy w3 v.ownBlock) (hat : v'.ownBlock = v.ownBlock ∨ v'.ownBlock = some (wd.alloc o).heap.size) :
    DiskIn (w3.setCell ⟨D, 1, none⟩ v') base D F v' firm (loose ++ [(i, p)]) down := by
  have t1 : Touch (fun k => v.ownBlock = some k) wd w3 := (Touch.of_below ((Below.refl _ _).alloc (Nat.le_refl _) o)).trans (touch_grown hg)
  have t2 : Touch (fun k => k = D) w3 (w3.setCell ⟨D, 1, none⟩ v') := touch_set w3 D 1 v' rfl
  have hD := h.lD
  have hF := h.lF
  have nD : v'.ownBlock ≠ some D := by
    rcases hat with e | e
    · rw [e]; exact h.nD
    · rw [e]; simp; omega
  have nF : v'.ownBlock ≠ some F := by
    rcases hat with e | e
    · rw [e]; exact h.nF
    · rw [e]; simp; omega
  exact { c0 := (by rw [World.cell?_setCell_other _ _ _ _ (by simp)]; exact t1.cell h.c0 h.nD),
          c1 := World.cell?_setCell_same _ _ _ (t1.cell h.c1 h.nD),
          c2 := (by rw [World.cell?_setCell_other _ _ _ _ (by simp)]; exact t1.cell h.c2 h.nD),
          f1 := (by rw [World.frozen?_setCell, World.frozen?_of_block (t1.block D hD h.nD)]; exact h.f1),
          f2 := (by rw [World.frozen?_setCell, World.frozen?_of_block (t1.block D hD h.nD)]; exact h.f2),
          hF := t2.range (t1.range h.hF h.nF) (fun e => h.ne e.symm), tF := t2.there (t1.there h.tF h.nF) (fun e => h.ne e.symm),
          hl := (by
            rw [List.length_append, flatL_snoc]
            exact own_mv ho (fun k hk => t2.block k (ho.lt k hk).2 (fun e => nD (e ▸ hk)))),
          bD := h.bD, bF := h.bF, lF := Nat.lt_of_lt_of_le h.lF (Nat.le_trans t1.size t2.size), ne := h.ne, nD := nD, nF := nF, pg := h.pg,
          pl := (fun x hx => by
            rcases List.mem_append.1 hx with hx | hx
            · exact h.pl x hx
            · rw [List.mem_singleton.1 hx]; exact ⟨hp, hi⟩),
          n0 := h.n0, n1 := h.n1 }
/-- the disk behind a write -/
def WritePost (base D F : Nat) (v : Value) (firm : List Pg) (loose : Ls) (down : Bool) (i : Int) (p : Pg) (w : World) (e : Ending) (w' : World) : Prop :=
  ∃ ev, e = .returned ev ∧ ErrC w.heap.size w' ev (mayC down firm.length i) ∧
    ((mayC down firm.length i ≠ 0 ∧ DiskIn w' base D F v firm loose down ∧ Below w.heap.size w w') ∨
     (mayC down firm.length i = 0 ∧ ∃ v', DiskIn w' base D F v' firm (loose ++ [(i, p)]) down ∧ (v'.ownBlock = v.ownBlock ∨ ∃ k, v'.ownBlock = some k ∧ w.heap.size ≤ k) ∧ Touch (Its D F v) w w'))
theorem write_nil (i : Int) (p : Pg) (w : World) : Calls Tryd.prog 18 #[.pointer none, .int .i64 i, .agg (pv p).toArray] w fun e w' => ∃ v, e = .returned v ∧ ErrC w.heap.size w' v 1 ∧ Below w.heap.size w w' := by
  go_enter Tryd.func18, Tryd.ntmps18
  go_wp2_with fail
  refine (may_nil i _).mono ?_
  rintro e w1 ⟨v, rfl, he, hb1⟩
  obtain ⟨tt, xx, rfl⟩ := he.iface (by decide)
  have HE := Lib.hid he
  have HB := Lib.hid hb1
  clear he hb1
  go_wp2_with fail
  go_ret
  exact ⟨_, rfl, HE.out.mono (by simp), ((Below.refl _ _).alloc (Nat.le_refl _) _).trans (HB.out.mono (by simp))⟩
set_option maxHeartbeats 1000000 in
set_option maxRecDepth 100000 in
theorem write_any {w : World} {base D F : Nat} {v : Value} {firm : List Pg} {loose : Ls} {down : Bool} (i : Int) (p : Pg) (h : DiskIn w base D F v firm loose down) (hls : loose.length ≤ 1000000) (hp : p.length = 128) :
    Calls Tryd.prog 18 #[.pointer (some ⟨D, 0, none⟩), .int .i64 i, .agg (pv p).toArray] w (WritePost base D F v firm loose down i p w) := by
  have H := Lib.hid h
  have HPL := Lib.hid hp
  clear h hp
  have hba := (Below.refl w.heap.size w).alloc (Nat.le_refl _) (.cells (pv p).toArray 36)
  have HM := Lib.hid (may_any i (H.out.under hba))
  have HBA := Lib.hid hba
  clear hba
  obtain ⟨code, hcode⟩ : ∃ c, c = mayC down firm.length i := ⟨_, rfl⟩
  rw [← hcode] at HM
  have HCode := Lib.hid hcode
  go_enter Tryd.func18, Tryd.ntmps18
  go_wp2_with fail
  refine HM.out.mono ?_
  rintro e w1 ⟨ev, rfl, he, hb1⟩
  have HB := Lib.hid (HBA.out.trans (hb1.mono (by simp)))
  have HRp : Hid (w1.rangeAt w.heap.size 0 (pv p)) := Lib.hid ((Touch.of_below (S := fun _ => False) hb1).range (range_new w p _) (fun h => h))
  by_cases hc : code = 0
  · subst hc
    obtain rfl := he.zero
    clear he
    have H1 := Lib.hid (H.out.under HB.out)
    have hi : 0 ≤ i ∧ i < firm.length := by
      unfold mayC at hcode
      split at hcode
      · cases hcode
      · split at hcode
        · assumption
        · cases hcode
    have hs1 : w.heap.size < w1.heap.size := by have := hb1.size; simp at this; omega
    clear hcode hb1
    go_upto_region 4 with fail
    have hSd : w1.drew.rangeAt w.heap.size 0 (pv p) := HRp.out
    obtain ⟨i0, hi0, hz0, hz1, hz2⟩ := info_parts info_ls
    have HI := Lib.hid (And.intro hi0 (And.intro hz0 (And.intro hz1 hz2)))
    clear hi0 hz0 hz1 hz2
    have hbase : base ≤ w1.heap.size := by have := H1.out.lF; have := H1.out.bF; omega
    have hDl := H1.out.lD
    have hPl : w.heap.size < w1.heap.size := hs1
    have HP := Lib.hid (show v.ownBlock ≠ some w.heap.size from fun e => by have := (H.out.hl.lt _ e).2; omega)
    refine wp_region_held_drew (S := fun w' => w'.rangeAt w.heap.size 0 (pv p)) (by kernel_rfl) hSd (fun hHeld => ?_)
    obtain ⟨wd, hwd⟩ : ∃ wd, wd = w1.drew := ⟨_, rfl⟩
    have hbd : Below w1.heap.size w1 wd := by rw [hwd]; exact Below.drew (Below.refl _ _)
    have hsd := Lib.hid (show wd.heap.size = w1.heap.size by rw [hwd]; rfl)
    have H2 := Lib.hid (H1.out.under hbd)
    have HB2 := Lib.hid (HB.out.trans (hbd.mono HB.out.size))
    have c1 := H2.out.c1
    have f1 := H2.out.f1
    rw [← hwd] at hHeld ⊢
    clear hwd hbd hSd
    refine wpAnyH_take (i := 0) (oi := { dst := some 14, op := Go.Op.move (Go.Operand.tmp 0), type := 32, pos := "disk.go:81", after := #[], guard := none }) (v := ?_) rfl (by kernel_rfl) (by kernel_rfl) (by kernel_rfl) (fun _ _ _ h => h) (Or.inl ⟨by rfl, ?_⟩) (by assumption) ?_
    rotate_left
    · intro w hSw; (try dsimp only at hSw); go_simp; (try with_reducible rfl)
    try simp only [Act.put, List.setIfInBounds_toArray, List.set_cons_zero, List.set_cons_succ]
    refine wpAnyH_take (i := 1) (oi := { dst := some 15, op := Go.Op.move (Go.Operand.tmp 0), type := 32, pos := "disk.go:81", after := #[], guard := none }) (v := ?_) rfl (by kernel_rfl) (by kernel_rfl) (by kernel_rfl) (fun _ _ _ h => h) (Or.inl ⟨by rfl, ?_⟩) (by assumption) ?_
    rotate_left
    · intro w hSw; (try dsimp only at hSw); go_simp; (try with_reducible rfl)
    try simp only [Act.put, List.setIfInBounds_toArray, List.set_cons_zero, List.set_cons_succ]
    refine wpAnyH_take (i := 2) (oi := { dst := some 16, op := Go.Op.nilCheck (Go.Operand.tmp 15), type := 0, pos := "disk.go:81", after := #[{ on := 1, ground := Go.Ground.data }], guard := none }) (v := ?_) rfl (by kernel_rfl) (by kernel_rfl) (by kernel_rfl) (fun _ _ _ h => h) (Or.inl ⟨by rfl, ?_⟩) (by assumption) ?_
    rotate_left
    · intro w hSw; (try dsimp only at hSw); go_simp; (try with_reducible rfl)
    try simp only [Act.put, List.setIfInBounds_toArray, List.set_cons_zero, List.set_cons_succ]
    refine wpAnyH_take (i := 3) (oi := { dst := some 17, op := Go.Op.fieldAddr 80 (Go.Operand.tmp 16) 1, type := 0, pos := "disk.go:81", after := #[{ on := 2, ground := Go.Ground.data }], guard := none }) (v := ?_) rfl (by kernel_rfl) (by kernel_rfl) (by kernel_rfl) (fun _ _ _ h => h) (Or.inl ⟨by rfl, ?_⟩) (by assumption) ?_
    rotate_left
    · intro w hSw; (try dsimp only at hSw); go_simp; (try with_reducible rfl)
    try simp only [Act.put, List.setIfInBounds_toArray, List.set_cons_zero, List.set_cons_succ]
    refine wpAnyH_take (i := 5) (oi := { dst := some 19, op := Go.Op.move (Go.Operand.tmp 1), type := 3, pos := "disk.go:81", after := #[], guard := none }) (v := ?_) rfl (by kernel_rfl) (by kernel_rfl) (by kernel_rfl) (fun _ _ _ h => h) (Or.inl ⟨by rfl, ?_⟩) (by assumption) ?_
    rotate_left
    · intro w hSw; (try dsimp only at hSw); go_simp; (try with_reducible rfl)
    try simp only [Act.put, List.setIfInBounds_toArray, List.set_cons_zero, List.set_cons_succ]
    refine wpAnyH_take (i := 6) (oi := { dst := some 20, op := Go.Op.load 36 (Go.Operand.tmp 5), type := 36, pos := "disk.go:81", after := #[], guard := none }) (v := .agg (pv p).toArray) rfl (by kernel_rfl) (by kernel_rfl) (by kernel_rfl) (fun _ _ _ h => h) (yieldsIf_load_mid (by rfl) _ _ rfl w.heap.size 0 rfl (pv p) _ (fun w h => h) Tryd.underlying36 rfl (size_of HPL.out)) (by assumption) ?_
    simp only [Act.put, List.setIfInBounds_toArray, List.set_cons_zero, List.set_cons_succ]
    refine wpAnyH_take (i := 7) (oi := { dst := some 21, op := Go.Op.build 83 #[(0, Go.Operand.tmp 19), (1, Go.Operand.tmp 20)], type := 83, pos := "disk.go:81", after := #[{ on := 5, ground := Go.Ground.data }, { on := 6, ground := Go.Ground.data }], guard := none }) (v := .agg (lv i p).toArray) rfl (by kernel_rfl) (by kernel_rfl) (by kernel_rfl) (fun _ _ _ h => h) (Or.inl ⟨by rfl, fun w _ => run_ls_build (.tmp 19) (.tmp 20) rfl i rfl p HPL.out rfl w⟩) (by assumption) ?_
    simp only [Act.put, List.setIfInBounds_toArray, List.set_cons_zero, List.set_cons_succ]
    refine wpAnyH_ready (rs := [4, 8]) (by kernel_rfl) (by simp) ?_
    refine AllReadyH.cons (o := { dst := some 18, op := Go.Op.load 78 (Go.Operand.tmp 17), type := 78, pos := "disk.go:81", after := #[{ on := 3, ground := Go.Ground.data }], guard := none }) rfl (fun K hK => ?_) ?_
    · skip
      go_simp
      refine hK.out _ _ (by assumption) (fun hHeld => ?_)
      clear hK K
      try simp only [Act.put, List.setIfInBounds_toArray, List.set_cons_zero, List.set_cons_succ]
      refine wpAnyH_ready (rs := [8]) (by kernel_rfl) (by simp) ?_
      refine AllReadyH.cons (o := { dst := some 22, op := Go.Op.buildSlice 78 1 #[(0, Go.Operand.tmp 21)], type := 78, pos := "disk.go:81", after := #[{ on := 7, ground := Go.Ground.data }], guard := none }) rfl (fun K hK => ?_) AllReadyH.nil
      rw [if_pos (by rfl)]
      refine wp_bs (.tmp 21) rfl i p ?_ rfl ?_
      · exact HPL.out
      refine hK.out _ _ (World.rangeAt_alloc (by assumption) _) (fun hHeld => ?_)
      clear hK K
      try simp only [Act.put, List.setIfInBounds_toArray, List.set_cons_zero, List.set_cons_succ]
      refine wpAnyH_ready (rs := [9]) (by kernel_rfl) (by simp) ?_
      refine AllReadyH.cons (o := { dst := some 23, op := Go.Op.call { callee := Go.Callee.builtin Go.Builtin.append, args := #[Go.Operand.tmp 18, Go.Operand.tmp 22], argTypes := #[78, 78] }, type := 78, pos := "disk.go:81", after := #[{ on := 4, ground := Go.Ground.data }, { on := 8, ground := Go.Ground.data }], guard := none }) rfl (fun K hK => ?_) AllReadyH.nil
      refine step_append_lies _ (by rfl) _ _ _ (by rfl) base 83 i0 (.agg (lv 0 zp).toArray) 129 136 Tryd.underlying78 HI.out.1 HI.out.2.1 HI.out.2.2.1 HI.out.2.2.2 lzsz (by have hs9 := hsd.out; (try simp only [World.alloc_size]); omega) v loose.length (flatL loose) (by rfl) (H2.out.hl.alloc _) ⟨wd.heap.size, 0, none⟩ 1 1 (lv i p) (by rfl) (by rw [lv_length, HPL.out]) (lv_news _ _ _ _) (lv_one i p) (by have hs9 := hsd.out; (try simp only [World.alloc_size]); omega) (by unfold maxLen; omega) (by omega) (by have hs9 := hsd.out; simp; omega) _ rfl ?_
      intro gg cap w3 hown' hg hat hlt
      have O3 := Lib.hid hown'
      have G3 := Lib.hid hg
      have AT3 : Hid ((Value.slice (some ⟨gg, 0, none⟩) (loose.length + 1) cap).ownBlock = v.ownBlock ∨ (Value.slice (some ⟨gg, 0, none⟩) (loose.length + 1) cap).ownBlock = some (wd.alloc (.cells (lv i p).toArray 83)).heap.size) := Lib.hid (by rcases hat with h | h; exact .inl h.symm; exact .inr (congrArg some h))
      obtain ⟨q1, q2⟩ := D_after H2.out hg
      have hS3 : w3.rangeAt w.heap.size 0 (pv p) := (touch_grown hg).range (by assumption) HP.out
      clear hown' hg hat hlt
      refine hK.out _ _ hS3 (fun hHeld9 => ?_)
      clear hK K
      simp only [Act.put, List.setIfInBounds_toArray, List.set_cons_zero, List.set_cons_succ]
      refine wpAnyH_take (i := 10) (oi := { dst := some 24, op := Go.Op.nilCheck (Go.Operand.tmp 14), type := 0, pos := "disk.go:81", after := #[{ on := 0, ground := Go.Ground.data }, { on := 0, ground := Go.Ground.phase }, { on := 1, ground := Go.Ground.phase }, { on := 2, ground := Go.Ground.phase }, { on := 3, ground := Go.Ground.phase }, { on := 4, ground := Go.Ground.phase }, { on := 5, ground := Go.Ground.phase }, { on := 6, ground := Go.Ground.phase }, { on := 7, ground := Go.Ground.phase }, { on := 8, ground := Go.Ground.phase }, { on := 9, ground := Go.Ground.phase }], guard := none }) (v := ?_) rfl (by kernel_rfl) (by kernel_rfl) (by kernel_rfl) (fun _ _ _ h => h) (Or.inl ⟨by rfl, ?_⟩) (by assumption) ?_
      rotate_left
      · intro w hSw; (try dsimp only at hSw); go_simp; (try with_reducible rfl)
      try simp only [Act.put, List.setIfInBounds_toArray, List.set_cons_zero, List.set_cons_succ]
      refine wpAnyH_take (i := 11) (oi := { dst := some 25, op := Go.Op.fieldAddr 80 (Go.Operand.tmp 24) 1, type := 0, pos := "disk.go:81", after := #[{ on := 10, ground := Go.Ground.data }, { on := 0, ground := Go.Ground.phase }, { on := 1, ground := Go.Ground.phase }, { on := 2, ground := Go.Ground.phase }, { on := 3, ground := Go.Ground.phase }, { on := 4, ground := Go.Ground.phase }, { on := 5, ground := Go.Ground.phase }, { on := 6, ground := Go.Ground.phase }, { on := 7, ground := Go.Ground.phase }, { on := 8, ground := Go.Ground.phase }, { on := 9, ground := Go.Ground.phase }], guard := none }) (v := ?_) rfl (by kernel_rfl) (by kernel_rfl) (by kernel_rfl) (fun _ _ _ h => h) (Or.inl ⟨by rfl, ?_⟩) (by assumption) ?_
      rotate_left
      · intro w hSw; (try dsimp only at hSw); go_simp; (try with_reducible rfl)
      try simp only [Act.put, List.setIfInBounds_toArray, List.set_cons_zero, List.set_cons_succ]
      refine wpAnyH_ready (rs := [12]) (by kernel_rfl) (by simp) ?_
      refine AllReadyH.cons (o := { dst := none, op := Go.Op.store 78 (Go.Operand.tmp 25) (Go.Operand.tmp 23), type := 0, pos := "disk.go:81", after := #[{ on := 11, ground := Go.Ground.data }, { on := 9, ground := Go.Ground.data }, { on := 9, ground := Go.Ground.chain }, { on := 0, ground := Go.Ground.phase }, { on := 1, ground := Go.Ground.phase }, { on := 2, ground := Go.Ground.phase }, { on := 3, ground := Go.Ground.phase }, { on := 4, ground := Go.Ground.phase }, { on := 5, ground := Go.Ground.phase }, { on := 6, ground := Go.Ground.phase }, { on := 7, ground := Go.Ground.phase }, { on := 8, ground := Go.Ground.phase }, { on := 9, ground := Go.Ground.phase }], guard := none }) rfl (fun K hK => ?_) AllReadyH.nil
      go_simp
      refine hK.out _ _ ((touch_set (S := fun k => k = D) w3 D 1 _ rfl).range hS3 (fun e => by have := H.out.lD; omega)) (fun hHeld12 => ?_)
      clear hK K
      try simp only [Act.put, List.setIfInBounds_toArray, List.set_cons_zero, List.set_cons_succ]
      refine wpAnyH_done (by kernel_rfl) ?_ _
      go_wp2_with fail
      go_ret
      refine ⟨_, rfl, by rw [← HCode.out]; exact ErrC.nil _ _, .inr ⟨HCode.out.symm, _, Disk_write H2.out HPL.out hi O3.out G3.out AT3.out, ?_, ?_⟩⟩
      · rcases AT3.out with e | e
        · exact .inl e
        · exact .inr ⟨_, e, by have := HB2.out.size; simp; omega⟩
      · have h1 : Touch (Its D F v) w (wd.alloc (.cells (lv i p).toArray 83)) := Touch.of_below (HB2.out.trans (((Below.refl _ _).alloc (Nat.le_refl _) _).mono HB2.out.size))
        have h2 : Touch (Its D F v) w w3 := h1.trans ((touch_grown G3.out).mono (fun k hk => .inr (.inr hk)))
        exact Touch.setCells h2 D (.inl (.inl rfl)) [_] 1 w3 h2
    refine AllReadyH.cons (o := { dst := some 22, op := Go.Op.buildSlice 78 1 #[(0, Go.Operand.tmp 21)], type := 78, pos := "disk.go:81", after := #[{ on := 7, ground := Go.Ground.data }], guard := none }) rfl (fun K hK => ?_) AllReadyH.nil
    rw [if_pos (by rfl)]
    refine wp_bs (.tmp 21) rfl i p ?_ rfl ?_
    · exact HPL.out
    refine hK.out _ _ (World.rangeAt_alloc (by assumption) _) (fun hHeld => ?_)
    clear hK K
    try simp only [Act.put, List.setIfInBounds_toArray, List.set_cons_zero, List.set_cons_succ]
    have c1' : (wd.alloc (.cells (lv i p).toArray 83)).cell? ⟨D, 1, none⟩ = some v := (World.cell?_alloc_some wd _ _ (by rw [c1]; rfl)).trans c1
    refine wpAnyH_ready (rs := [4]) (by kernel_rfl) (by simp) ?_
    refine AllReadyH.cons (o := { dst := some 18, op := Go.Op.load 78 (Go.Operand.tmp 17), type := 78, pos := "disk.go:81", after := #[{ on := 3, ground := Go.Ground.data }], guard := none }) rfl (fun K hK => ?_) AllReadyH.nil
    go_simp
    refine hK.out _ _ (by assumption) (fun hHeld => ?_)
    clear hK K
    try simp only [Act.put, List.setIfInBounds_toArray, List.set_cons_zero, List.set_cons_succ]
    refine wpAnyH_ready (rs := [9]) (by kernel_rfl) (by simp) ?_
    refine AllReadyH.cons (o := { dst := some 23, op := Go.Op.call { callee := Go.Callee.builtin Go.Builtin.append, args := #[Go.Operand.tmp 18, Go.Operand.tmp 22], argTypes := #[78, 78] }, type := 78, pos := "disk.go:81", after := #[{ on := 4, ground := Go.Ground.data }, { on := 8, ground := Go.Ground.data }], guard := none }) rfl (fun K hK => ?_) AllReadyH.nil
    refine step_append_lies _ (by rfl) _ _ _ (by rfl) base 83 i0 (.agg (lv 0 zp).toArray) 129 136 Tryd.underlying78 HI.out.1 HI.out.2.1 HI.out.2.2.1 HI.out.2.2.2 lzsz (by have hs9 := hsd.out; (try simp only [World.alloc_size]); omega) v loose.length (flatL loose) (by rfl) (H2.out.hl.alloc _) ⟨wd.heap.size, 0, none⟩ 1 1 (lv i p) (by rfl) (by rw [lv_length, HPL.out]) (lv_news _ _ _ _) (lv_one i p) (by have hs9 := hsd.out; (try simp only [World.alloc_size]); omega) (by unfold maxLen; omega) (by omega) (by have hs9 := hsd.out; simp; omega) _ rfl ?_
    intro gg cap w3 hown' hg hat hlt
    have O3 := Lib.hid hown'
    have G3 := Lib.hid hg
    have AT3 : Hid ((Value.slice (some ⟨gg, 0, none⟩) (loose.length + 1) cap).ownBlock = v.ownBlock ∨ (Value.slice (some ⟨gg, 0, none⟩) (loose.length + 1) cap).ownBlock = some (wd.alloc (.cells (lv i p).toArray 83)).heap.size) := Lib.hid (by rcases hat with h | h; exact .inl h.symm; exact .inr (congrArg some h))
    obtain ⟨q1, q2⟩ := D_after H2.out hg
    have hS3 : w3.rangeAt w.heap.size 0 (pv p) := (touch_grown hg).range (by assumption) HP.out
    clear hown' hg hat hlt
    refine hK.out _ _ hS3 (fun hHeld9 => ?_)
    clear hK K
    simp only [Act.put, List.setIfInBounds_toArray, List.set_cons_zero, List.set_cons_succ]
    refine wpAnyH_take (i := 10) (oi := { dst := some 24, op := Go.Op.nilCheck (Go.Operand.tmp 14), type := 0, pos := "disk.go:81", after := #[{ on := 0, ground := Go.Ground.data }, { on := 0, ground := Go.Ground.phase }, { on := 1, ground := Go.Ground.phase }, { on := 2, ground := Go.Ground.phase }, { on := 3, ground := Go.Ground.phase }, { on := 4, ground := Go.Ground.phase }, { on := 5, ground := Go.Ground.phase }, { on := 6, ground := Go.Ground.phase }, { on := 7, ground := Go.Ground.phase }, { on := 8, ground := Go.Ground.phase }, { on := 9, ground := Go.Ground.phase }], guard := none }) (v := ?_) rfl (by kernel_rfl) (by kernel_rfl) (by kernel_rfl) (fun _ _ _ h => h) (Or.inl ⟨by rfl, ?_⟩) (by assumption) ?_
    rotate_left
    · intro w hSw; (try dsimp only at hSw); go_simp; (try with_reducible rfl)
    try simp only [Act.put, List.setIfInBounds_toArray, List.set_cons_zero, List.set_cons_succ]
    refine wpAnyH_take (i := 11) (oi := { dst := some 25, op := Go.Op.fieldAddr 80 (Go.Operand.tmp 24) 1, type := 0, pos := "disk.go:81", after := #[{ on := 10, ground := Go.Ground.data }, { on := 0, ground := Go.Ground.phase }, { on := 1, ground := Go.Ground.phase }, { on := 2, ground := Go.Ground.phase }, { on := 3, ground := Go.Ground.phase }, { on := 4, ground := Go.Ground.phase }, { on := 5, ground := Go.Ground.phase }, { on := 6, ground := Go.Ground.phase }, { on := 7, ground := Go.Ground.phase }, { on := 8, ground := Go.Ground.phase }, { on := 9, ground := Go.Ground.phase }], guard := none }) (v := ?_) rfl (by kernel_rfl) (by kernel_rfl) (by kernel_rfl) (fun _ _ _ h => h) (Or.inl ⟨by rfl, ?_⟩) (by assumption) ?_
    rotate_left
    · intro w hSw; (try dsimp only at hSw); go_simp; (try with_reducible rfl)
    try simp only [Act.put, List.setIfInBounds_toArray, List.set_cons_zero, List.set_cons_succ]
    refine wpAnyH_ready (rs := [12]) (by kernel_rfl) (by simp) ?_
    refine AllReadyH.cons (o := { dst := none, op := Go.Op.store 78 (Go.Operand.tmp 25) (Go.Operand.tmp 23), type := 0, pos := "disk.go:81", after := #[{ on := 11, ground := Go.Ground.data }, { on := 9, ground := Go.Ground.data }, { on := 9, ground := Go.Ground.chain }, { on := 0, ground := Go.Ground.phase }, { on := 1, ground := Go.Ground.phase }, { on := 2, ground := Go.Ground.phase }, { on := 3, ground := Go.Ground.phase }, { on := 4, ground := Go.Ground.phase }, { on := 5, ground := Go.Ground.phase }, { on := 6, ground := Go.Ground.phase }, { on := 7, ground := Go.Ground.phase }, { on := 8, ground := Go.Ground.phase }, { on := 9, ground := Go.Ground.phase }], guard := none }) rfl (fun K hK => ?_) AllReadyH.nil
    go_simp
    refine hK.out _ _ ((touch_set (S := fun k => k = D) w3 D 1 _ rfl).range hS3 (fun e => by have := H.out.lD; omega)) (fun hHeld12 => ?_)
    clear hK K
    try simp only [Act.put, List.setIfInBounds_toArray, List.set_cons_zero, List.set_cons_succ]
    refine wpAnyH_done (by kernel_rfl) ?_ _
    go_wp2_with fail
    go_ret
    refine ⟨_, rfl, by rw [← HCode.out]; exact ErrC.nil _ _, .inr ⟨HCode.out.symm, _, Disk_write H2.out HPL.out hi O3.out G3.out AT3.out, ?_, ?_⟩⟩
    · rcases AT3.out with e | e
      · exact .inl e
      · exact .inr ⟨_, e, by have := HB2.out.size; simp; omega⟩
    · have h1 : Touch (Its D F v) w (wd.alloc (.cells (lv i p).toArray 83)) := Touch.of_below (HB2.out.trans (((Below.refl _ _).alloc (Nat.le_refl _) _).mono HB2.out.size))
      have h2 : Touch (Its D F v) w w3 := h1.trans ((touch_grown G3.out).mono (fun k hk => .inr (.inr hk)))
      exact Touch.setCells h2 D (.inl (.inl rfl)) [_] 1 w3 h2
  · obtain ⟨tt, xx, rfl⟩ := he.iface hc
    have HE := Lib.hid he
    clear he hb1 hcode
    go_wp2_with fail
    go_ret
    exact ⟨_, rfl, by rw [← HCode.out]; exact HE.out.mono (by simp), .inl ⟨by rw [← HCode.out]; exact hc, H.out.under HB.out, HB.out⟩⟩
end Go.Proofs.YthleapofcoidoaaDoor
