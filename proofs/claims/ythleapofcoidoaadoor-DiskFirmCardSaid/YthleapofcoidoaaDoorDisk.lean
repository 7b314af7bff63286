/- The disk in memory; disk.New, Size, Soft, may, Up by their contracts. -/
import Derived.Test.YthleapofcoidoaaDoorLoose
namespace Go.Proofs.YthleapofcoidoaaDoor
open Go.RowKit Go.Extern.Stop Go.Stop Go.Extern
set_option linter.unusedVariables false
set_option linter.unusedSimpArgs false

abbrev Ls := List (Int × Pg)
def flatP (l : List Pg) : List Value := l.flatMap pv
def flatL (l : Ls) : List Value := l.flatMap fun x => lv x.1 x.2
/-- a disk that lies in the blocks D (its struct), F (its sectors) and the loose writes' own -/
structure DiskIn (w : World) (base D F : Nat) (v : Value) (firm : List Pg) (loose : Ls) (down : Bool) : Prop where
  c0 : w.cell? ⟨D, 0, none⟩ = some (.slice (some ⟨F, 0, none⟩) firm.length firm.length)
  c1 : w.cell? ⟨D, 1, none⟩ = some v
  c2 : w.cell? ⟨D, 2, none⟩ = some (.bool down)
  f1 : w.frozen? ⟨D, 1, none⟩ = false
  f2 : w.frozen? ⟨D, 2, none⟩ = false
  hF : w.rangeAt F 0 (flatP firm)
  tF : w.there F 0 (firm.length * 128)
  hl : w.ownsRow base 83 129 v loose.length (flatL loose)
  bD : base ≤ D
  bF : base ≤ F
  lF : F < w.heap.size
  ne : D ≠ F
  nD : v.ownBlock ≠ some D
  nF : v.ownBlock ≠ some F
  pg : ∀ p ∈ firm, p.length = 128
  pl : ∀ x ∈ loose, x.2.length = 128 ∧ 0 ≤ x.1 ∧ x.1 < firm.length
  n0 : 0 < firm.length
  n1 : firm.length ≤ 240
/-- the disk's blocks -/
def Its (D F : Nat) (v : Value) : Nat → Prop := fun k => k = D ∨ k = F ∨ v.ownBlock = some k
theorem DiskIn.lD {w : World} {base D F : Nat} {v : Value} {firm : List Pg} {loose : Ls} {down : Bool} (h : DiskIn w base D F v firm loose down) : D < w.heap.size := cell_lt (p := ⟨D, 0, none⟩) h.c0
theorem own_mv {w w' : World} {base : Nat} {e : TypeId} {size n : Nat} {v : Value} {xs : List Value} (h : w.ownsRow base e size v n xs) (hm : ∀ k, v.ownBlock = some k → w'.heap[k]? = w.heap[k]?) : w'.ownsRow base e size v n xs := by
  obtain ⟨h1, h2⟩ := h
  refine ⟨h1, ?_⟩
  rcases h2 with h2 | ⟨g, cap, cur, rfl, hg, hh, r⟩
  · exact .inl h2
  · exact .inr ⟨g, cap, cur, rfl, hg, (hm g rfl).trans hh, r⟩
/-- what leaves the disk's blocks alone leaves the disk -/
theorem DiskIn.keep {S : Nat → Prop} {w w' : World} {base D F : Nat} {v : Value} {firm : List Pg} {loose : Ls} {down : Bool} (h : DiskIn w base D F v firm loose down) (ht : Touch S w w') (hn : ∀ k, Its D F v k → ¬ S k) : DiskIn w' base D F v firm loose down where
  c0 := ht.cell h.c0 (hn _ (.inl rfl))
  c1 := ht.cell h.c1 (hn _ (.inl rfl))
  c2 := ht.cell h.c2 (hn _ (.inl rfl))
  f1 := by rw [World.frozen?_of_block (ht.block D h.lD (hn _ (.inl rfl)))]; exact h.f1
  f2 := by rw [World.frozen?_of_block (ht.block D h.lD (hn _ (.inl rfl)))]; exact h.f2
  hF := ht.range h.hF (hn _ (.inr (.inl rfl)))
  tF := ht.there h.tF (hn _ (.inr (.inl rfl)))
  hl := own_mv h.hl (fun k hk => ht.block k (h.hl.lt k hk).2 (hn _ (.inr (.inr hk))))
  bD := h.bD
  bF := h.bF
  lF := Nat.lt_of_lt_of_le h.lF ht.size
  ne := h.ne
  nD := h.nD
  nF := h.nF
  pg := h.pg
  pl := h.pl
  n0 := h.n0
  n1 := h.n1
theorem DiskIn.under {w w' : World} {base D F : Nat} {v : Value} {firm : List Pg} {loose : Ls} {down : Bool} (h : DiskIn w base D F v firm loose down) (hb : Below w.heap.size w w') : DiskIn w' base D F v firm loose down :=
  h.keep (Touch.of_below (S := fun _ => False) hb) (fun _ _ q => q)
def mayC (down : Bool) (n : Nat) (i : Int) : Int := if down = true then 7 else if 0 ≤ i ∧ i < n then 0 else 1

theorem may_nil (i : Int) (w : World) : Calls Tryd.prog 39 #[.pointer none, .int .i64 i] w fun e w' => ∃ v, e = .returned v ∧ ErrC w.heap.size w' v 1 ∧ Below w.heap.size w w' := by
  go_enter Tryd.func39, Tryd.ntmps39
  go_wp2_with fail
  refine (Tag_err _ 1 _).mono ?_
  rintro e w1 ⟨v, rfl, he, hb⟩
  have HE := Lib.hid he
  have HB := Lib.hid hb
  clear he hb
  go_wp2_with fail
  go_ret
  exact ⟨_, rfl, HE.out, HB.out⟩
theorem may_any {w : World} {base D F : Nat} {v : Value} {firm : List Pg} {loose : Ls} {down : Bool} (i : Int) (h : DiskIn w base D F v firm loose down) :
    Calls Tryd.prog 39 #[.pointer (some ⟨D, 0, none⟩), .int .i64 i] w fun e w' => ∃ v, e = .returned v ∧ ErrC w.heap.size w' v (mayC down firm.length i) ∧ Below w.heap.size w w' := by
  have c0 := h.c0
  have c2 := h.c2
  have hn1 := h.n1
  generalize hn : firm.length = n at c0 hn1 ⊢
  clear hn h
  cases down with
  | true =>
    go_enter Tryd.func39, Tryd.ntmps39
    go_wp2_with fail
    refine (Tag_err _ 7 _).mono ?_
    rintro e w1 ⟨v, rfl, he, hb⟩
    have HE := Lib.hid he
    have HB := Lib.hid hb
    clear he hb
    go_wp2_with fail
    go_ret
    exact ⟨_, rfl, HE.out, HB.out⟩
  | false =>
    by_cases h0 : i < 0
    · have hd : decide (i < 0) = true := by simpa using h0
      have hc : Hid (mayC false n i = 1) := by show _ = _; unfold mayC; rw [if_neg (by simp), if_neg (by omega)]
      go_enter Tryd.func39, Tryd.ntmps39
      go_wp2_with fail
      refine (Tag_err _ 1 _).mono ?_
      rintro e w1 ⟨v, rfl, he, hb⟩
      have HE := Lib.hid he
      have HB := Lib.hid hb
      clear he hb
      go_wp2_with fail
      go_ret
      exact ⟨_, rfl, by rw [hc.out]; exact HE.out, HB.out⟩
    · have hd : decide (i < 0) = false := by simpa using h0
      by_cases h1 : (n : Int) ≤ i
      · have hd1 : decide ((n : Int) ≤ i) = true := by simpa using h1
        have hc : Hid (mayC false n i = 1) := by show _ = _; unfold mayC; rw [if_neg (by simp), if_neg (by omega)]
        go_enter Tryd.func39, Tryd.ntmps39
        go_wp2_with fail
        refine (Tag_err _ 1 _).mono ?_
        rintro e w1 ⟨v, rfl, he, hb⟩
        have HE := Lib.hid he
        have HB := Lib.hid hb
        clear he hb
        go_wp2_with fail
        go_ret
        exact ⟨_, rfl, by rw [hc.out]; exact HE.out, HB.out⟩
      · have hd1 : decide ((n : Int) ≤ i) = false := by simpa using h1
        have hc : Hid (mayC false n i = 0) := by show _ = _; unfold mayC; rw [if_neg (by simp), if_pos (by omega)]
        go_enter Tryd.func39, Tryd.ntmps39
        go_wp2_with fail
        go_ret
        exact ⟨_, rfl, by rw [hc.out]; exact ErrC.nil _ _, Below.refl _ _⟩
theorem size_nil (w : World) : Calls Tryd.prog 26 #[.pointer none] w fun e w' => e = .returned (.int .i64 0) ∧ w' = w := by
  go_enter Tryd.func26, Tryd.ntmps26
  go_wp2
  go_ret
  exact ⟨rfl, rfl⟩
theorem size_any {w : World} {base D F : Nat} {v : Value} {firm : List Pg} {loose : Ls} {down : Bool} (h : DiskIn w base D F v firm loose down) :
    Calls Tryd.prog 26 #[.pointer (some ⟨D, 0, none⟩)] w fun e w' => e = .returned (.int .i64 firm.length) ∧ w' = w := by
  have c0 := h.c0
  clear h
  go_enter Tryd.func26, Tryd.ntmps26
  go_wp2
  go_ret
  exact ⟨rfl, rfl⟩
theorem own_slice {w : World} {base : Nat} {e : TypeId} {size n : Nat} {v : Value} {xs : List Value} (h : w.ownsRow base e size v n xs) : ∃ A c, v = .slice A n c := by
  rcases h.2 with ⟨rfl, rfl⟩ | ⟨g, cap, cur, rfl, _⟩
  · exact ⟨_, _, rfl⟩
  · exact ⟨_, _, rfl⟩
theorem soft_nil (w : World) : Calls Tryd.prog 25 #[.pointer none] w fun e w' => e = .returned (.int .i64 0) ∧ w' = w := by
  go_enter Tryd.func25, Tryd.ntmps25
  go_wp2
  go_ret
  exact ⟨rfl, rfl⟩
theorem soft_any {w : World} {base D F : Nat} {v : Value} {firm : List Pg} {loose : Ls} {down : Bool} (h : DiskIn w base D F v firm loose down) :
    Calls Tryd.prog 25 #[.pointer (some ⟨D, 0, none⟩)] w fun e w' => e = .returned (.int .i64 loose.length) ∧ w' = w := by
  obtain ⟨A, c, rfl⟩ := own_slice h.hl
  have c1 := h.c1
  clear h
  go_enter Tryd.func25, Tryd.ntmps25
  go_wp2
  go_ret
  exact ⟨rfl, rfl⟩
theorem up_nil (w : World) : Calls Tryd.prog 21 #[.pointer none] w fun e w' => e = .returned (.tuple #[]) ∧ w' = w := by
  go_enter Tryd.func21, Tryd.ntmps21
  go_wp2
  go_end0
  exact ⟨rfl, rfl⟩
theorem touch_set {S : Nat → Prop} (w : World) (b o : Nat) (u : Value) (hb : S b) : Touch S w (w.setCell ⟨b, o, none⟩ u) := Touch.setCells (Touch.refl S w) b (.inl hb) [u] o w (Touch.refl S w)
theorem up_any {w : World} {base D F : Nat} {v : Value} {firm : List Pg} {loose : Ls} {down : Bool} (h : DiskIn w base D F v firm loose down) :
    Calls Tryd.prog 21 #[.pointer (some ⟨D, 0, none⟩)] w fun e w' => e = .returned (.tuple #[]) ∧ DiskIn w' base D F v firm loose false ∧ Touch (Its D F v) w w' := by
  have c2 := h.c2
  have f2 := h.f2
  have H := Lib.hid h
  clear h
  go_enter Tryd.func21, Tryd.ntmps21
  go_wp2
  go_end0
  have ht := touch_set (S := fun k => k = D) w D 2 (.bool false) rfl
  have hD := H.out.lD
  refine ⟨rfl, ?_, ht.mono (fun k hk => .inl hk)⟩
  have hh := H.out
  exact { c0 := by rw [World.cell?_setCell_other _ _ _ _ (by simp)]; exact hh.c0,
          c1 := by rw [World.cell?_setCell_other _ _ _ _ (by simp)]; exact hh.c1,
          c2 := World.cell?_setCell_same _ _ _ hh.c2,
          f1 := by rw [World.frozen?_setCell]; exact hh.f1, f2 := by rw [World.frozen?_setCell]; exact hh.f2,
          hF := ht.range hh.hF (fun e => hh.ne e.symm), tF := ht.there hh.tF (fun e => hh.ne e.symm),
          hl := own_mv hh.hl (fun k hk => ht.block k (hh.hl.lt k hk).2 (fun e => hh.nD (e ▸ hk))),
          bD := hh.bD, bF := hh.bF, lF := Nat.lt_of_lt_of_le hh.lF ht.size, ne := hh.ne, nD := hh.nD, nF := hh.nF, pg := hh.pg, pl := hh.pl, n0 := hh.n0, n1 := hh.n1 }
end Go.Proofs.YthleapofcoidoaaDoor
