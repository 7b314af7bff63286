/- (*disk.Disk).Flush by its contract. -/
import Derived.Test.YthleapofcoidoaaDoorDiskW
namespace Go.Proofs.YthleapofcoidoaaDoor
open Go.RowKit Go.Extern.Stop Go.Stop Go.Extern
set_option linter.unusedVariables false
set_option linter.unusedSimpArgs false

theorem there_sub {w : World} {b o n i m : Nat} (h : w.there b o n) (hi : i + m ≤ n) : w.there b (o + i) m := fun j hj => by
  have := h (i + j) (by omega)
  rwa [← Nat.add_assoc] at this
theorem flatP_length : ∀ (l : List Pg), (∀ p ∈ l, p.length = 128) → (flatP l).length = l.length * 128
  | [], _ => rfl
  | p :: l, h => by
    have ih := flatP_length l (fun q hq => h q (List.mem_cons_of_mem _ hq))
    have hp := h p List.mem_cons_self
    unfold flatP at ih ⊢
    rw [List.flatMap_cons, List.length_append, pv_length, hp, ih, List.length_cons, Nat.succ_mul, Nat.add_comm]
/-- the sectors behind a store of one -/
theorem range_set {w : World} {F : Nat} {firm : List Pg} (h : w.rangeAt F 0 (flatP firm)) (ht : w.there F 0 (firm.length * 128)) (hp : ∀ p ∈ firm, p.length = 128) (i : Nat) (hi : i < firm.length) (p : Pg) (hpl : p.length = 128) :
    (w.setCells F (i * 128) (pv p)).rangeAt F 0 (flatP (firm.set i p)) := fun j v hv => by
  have hps : ∀ q ∈ firm.set i p, q.length = 128 := fun q hq => by
    rcases List.mem_or_eq_of_mem_set hq with h | h
    · exact hp q h
    · exact h ▸ hpl
  have hj : j < firm.length * 128 := by
    have := (List.getElem?_eq_some_iff.1 hv).1
    rwa [flatP_length _ hps, List.length_set] at this
  obtain ⟨k, r, hr, rfl⟩ : ∃ k r, r < 128 ∧ j = k * 128 + r := ⟨j / 128, j % 128, Nat.mod_lt _ (by omega), by omega⟩
  have hk : k < firm.length := by omega
  rw [flatP, flat_at pv 128 _ k r (by rw [List.length_set]; exact hk) (fun q hq => by rw [pv_length, hps q hq]) hr] at hv
  rw [Nat.zero_add]
  by_cases hki : k = i
  · subst hki
    rw [List.getElem_set_self] at hv
    have := World.rangeAt_setCells_same w F (k * 128) (pv p) (by
      have := there_sub (i := k * 128) (m := 128) ht (by omega)
      rw [pv_length, hpl]
      rwa [Nat.zero_add] at this)
    exact this r v hv
  · rw [List.getElem_set_ne (fun e => hki e.symm)] at hv
    rw [World.cell?_setCells_out F (pv p) (i * 128) w _ (fun _ _ => by
      rw [pv_length, hpl]
      show k * 128 + r < i * 128 ∨ i * 128 + 128 ≤ k * 128 + r
      omega)]
    have := h (k * 128 + r) v (by rw [flatP, flat_at pv 128 _ k r hk (fun q hq => by rw [pv_length, hp q hq]) hr]; exact hv)
    rwa [Nat.zero_add] at this
/-- a sector is stored -/
theorem DiskIn.put {w : World} {base D F : Nat} {v : Value} {firm : List Pg} {loose : Ls} {down : Bool} (h : DiskIn w base D F v firm loose down) (i : Nat) (hi : i < firm.length) (p : Pg) (hp : p.length = 128) :
    DiskIn (w.setCells F (i * 128) (pv p)) base D F v (firm.set i p) loose down := by
  have t : Touch (fun k => k = F) w (w.setCells F (i * 128) (pv p)) := Touch.setCells (S := fun k => k = F) (Touch.refl _ w) F (.inl rfl) (pv p) _ w (Touch.refl _ _)
  exact { c0 := (by rw [List.length_set]; exact t.cell h.c0 h.ne),
          c1 := t.cell h.c1 h.ne, c2 := t.cell h.c2 h.ne,
          f1 := (by rw [World.frozen?_setCells]; exact h.f1), f2 := (by rw [World.frozen?_setCells]; exact h.f2),
          hF := range_set h.hF h.tF h.pg i hi p hp,
          tF := (by rw [List.length_set]; exact World.there_setCells h.tF _ _ _),
          hl := own_mv h.hl (fun k hk => t.block k (h.hl.lt k hk).2 (fun e => h.nF (by rw [hk, e]))),
          bD := h.bD, bF := h.bF, lF := Nat.lt_of_lt_of_le h.lF t.size, ne := h.ne, nD := h.nD, nF := h.nF,
          pg := (fun q hq => by
            rcases List.mem_or_eq_of_mem_set hq with h' | h'
            · exact h.pg q h'
            · exact h' ▸ hp),
          pl := (fun x hx => by rw [List.length_set]; exact h.pl x hx),
          n0 := (by rw [List.length_set]; exact h.n0), n1 := (by rw [List.length_set]; exact h.n1) }
/-- the loose writes are gone -/
theorem DiskIn.bare {w : World} {base D F : Nat} {v : Value} {firm : List Pg} {loose : Ls} {down : Bool} (h : DiskIn w base D F v firm loose down) :
    DiskIn (w.setCell ⟨D, 1, none⟩ (.slice none 0 0)) base D F (.slice none 0 0) firm [] down := by
  have t2 : Touch (fun k => k = D) w (w.setCell ⟨D, 1, none⟩ (.slice none 0 0)) := touch_set w D 1 _ rfl
  exact { c0 := (by rw [World.cell?_setCell_other _ _ _ _ (by simp)]; exact h.c0),
          c1 := World.cell?_setCell_same _ _ _ h.c1,
          c2 := (by rw [World.cell?_setCell_other _ _ _ _ (by simp)]; exact h.c2),
          f1 := (by rw [World.frozen?_setCell]; exact h.f1), f2 := (by rw [World.frozen?_setCell]; exact h.f2),
          hF := t2.range h.hF (fun e => h.ne e.symm), tF := t2.there h.tF (fun e => h.ne e.symm),
          hl := own_nil1 _ _ _ _,
          bD := h.bD, bF := h.bF, lF := Nat.lt_of_lt_of_le h.lF t2.size, ne := h.ne, nD := (by simp [Value.ownBlock]), nF := (by simp [Value.ownBlock]),
          pg := h.pg, pl := (fun x hx => by cases hx), n0 := h.n0, n1 := h.n1 }
def flushStep (firm : List Pg) (x : Int × Pg) : List Pg := firm.set x.1.toNat x.2
def flushP (firm : List Pg) (loose : Ls) : List Pg := loose.foldl flushStep firm
def flushTo (firm : List Pg) (loose : Ls) (k : Nat) : List Pg := (loose.take k).foldl flushStep firm
theorem flushTo_step (firm : List Pg) (loose : Ls) (k : Nat) (h : k < loose.length) : flushTo firm loose (k + 1) = (flushTo firm loose k).set loose[k].1.toNat loose[k].2 := by
  unfold flushTo
  rw [List.take_succ_eq_append_getElem h, List.foldl_append]
  rfl
theorem flushP_length (loose : Ls) : ∀ (firm : List Pg), (flushP firm loose).length = firm.length := by
  induction loose with
  | nil => intro firm; rfl
  | cons x l ih =>
    intro firm
    show (flushP (flushStep firm x) l).length = _
    rw [ih, flushStep, List.length_set]
theorem flushTo_length (firm : List Pg) (loose : Ls) (k : Nat) : (flushTo firm loose k).length = firm.length := flushP_length _ _
structure FInv (base D F : Nat) (v : Value) (w2 : World) (firm : List Pg) (loose : Ls) (down : Bool) (w : World) : Prop where
  d : DiskIn w base D F v firm loose down
  t : Touch (fun b => b = F) w2 w
theorem FInv.under {base D F : Nat} {v : Value} {w2 : World} {firm : List Pg} {loose : Ls} {down : Bool} {w w' : World} (h : FInv base D F v w2 firm loose down w) (hb : Below w.heap.size w w') : FInv base D F v w2 firm loose down w' :=
  ⟨h.d.under hb, h.t.trans (Touch.of_below hb)⟩
theorem FInv.put {base D F : Nat} {v : Value} {w2 : World} {firm : List Pg} {loose : Ls} {down : Bool} {w : World} (h : FInv base D F v w2 firm loose down w) (i : Nat) (hi : i < firm.length) (p : Pg) (hp : p.length = 128) : FInv base D F v w2 (firm.set i p) loose down (w.setCells F (i * 128) (pv p)) :=
  ⟨h.d.put i hi p hp, Touch.setCells h.t F (.inl rfl) (pv p) _ w h.t⟩
/-- the disk behind a flush -/
def FlushPost (base D F : Nat) (v : Value) (firm : List Pg) (loose : Ls) (down : Bool) (w : World) (e : Ending) (w' : World) : Prop :=
  ∃ ev, e = .returned ev ∧ ErrC w.heap.size w' ev (mayC down firm.length 0) ∧
    ((down = true ∧ DiskIn w' base D F v firm loose down ∧ Below w.heap.size w w') ∨
     (down = false ∧ DiskIn w' base D F (.slice none 0 0) (flushP firm loose) [] down ∧ Touch (Its D F v) w w'))
theorem flush_nil (w : World) : Calls Tryd.prog 24 #[.pointer none] w fun e w' => ∃ v, e = .returned v ∧ ErrC w.heap.size w' v 1 ∧ Below w.heap.size w w' := by
  go_enter Tryd.func24, Tryd.ntmps24
  go_wp2_with fail
  refine (may_nil 0 _).mono ?_
  rintro e w1 ⟨v, rfl, he, hb1⟩
  obtain ⟨tt, xx, rfl⟩ := he.iface (by decide)
  have HE := Lib.hid he
  have HB := Lib.hid hb1
  clear he hb1
  go_wp2_with fail
  go_ret
  exact ⟨_, rfl, HE.out, HB.out⟩
set_option maxHeartbeats 1000000 in
set_option maxRecDepth 100000 in
theorem flush_any {w : World} {base D F : Nat} {v : Value} {firm : List Pg} {loose : Ls} {down : Bool} (h : DiskIn w base D F v firm loose down) (hls : loose.length ≤ 1000000) :
    Calls Tryd.prog 24 #[.pointer (some ⟨D, 0, none⟩)] w (FlushPost base D F v firm loose down w) := by
  have H := Lib.hid h
  clear h
  have HM := Lib.hid (may_any 0 H.out)
  obtain ⟨code, hcode⟩ : ∃ c, c = mayC down firm.length 0 := ⟨_, rfl⟩
  rw [← hcode] at HM
  have HCode := Lib.hid hcode
  go_enter Tryd.func24, Tryd.ntmps24
  go_wp2_with fail
  refine HM.out.mono ?_
  rintro e w2 ⟨ev, rfl, he, hb1⟩
  have HB2 := Lib.hid hb1
  have HDn : Hid (code = 0 ↔ down = false) := Lib.hid (by
    have := H.out.n0
    rw [hcode]; unfold mayC
    cases down with
    | true => simp
    | false => rw [if_neg (by simp), if_pos ⟨Int.le_refl 0, by omega⟩]; simp)
  by_cases hc : code = 0
  · subst hc
    obtain rfl := he.zero
    have H2 := Lib.hid (H.out.under HB2.out)
    clear he hcode hb1
    have c1 := H2.out.c1
    obtain ⟨A, c, rfl⟩ := own_slice H2.out.hl
    have hn240 := H2.out.n1
    go_wp2_with fail
    go_loopg [16] loose.length (fun gg s29 wr => ∃ k : Nat, k ≤ loose.length ∧ loose.length - k ≤ gg ∧ s29 = .int .i64 k ∧ Hid (FInv base D F (.slice A loose.length c) w2 (flushTo firm loose k) loose down wr))
    case atStart => exact ⟨0, Nat.zero_le _, by omega, rfl, Lib.hid ⟨H2.out, Touch.refl _ _⟩⟩
    case round =>
      obtain ⟨k, hk, hg, rfl, HI⟩ := hrel
      by_cases hlt : k < loose.length
      · have hltz : (k : Int) < (loose.length : Int) := by omega
        obtain ⟨g, rfl⟩ : ∃ g, A = some ⟨g, 0, none⟩ := by
          rcases H2.out.hl.2 with ⟨_, hn⟩ | ⟨g, cap, cur, hv, _⟩
          · omega
          · simp only [Value.slice.injEq] at hv; exact ⟨g, hv.1⟩
        have hpk := H2.out.pl _ (List.getElem_mem hlt)
        have HRk := Lib.hid (own_part HI.out.d.hl rfl (fun x hx => (H2.out.pl x hx).1) k hlt)
        have HSt := Lib.hid (flushTo_step firm loose k hlt)
        obtain ⟨xi, hxi⟩ : ∃ q, q = loose[k].1 := ⟨_, rfl⟩
        obtain ⟨xp, hxp⟩ : ∃ q, q = loose[k].2 := ⟨_, rfl⟩
        rw [← hxi, ← hxp] at HRk HSt hpk
        have HXP := Lib.hid hpk.1
        obtain ⟨xn, rfl⟩ : ∃ n : Nat, xi = (n : Int) := ⟨xi.toNat, by omega⟩
        have hxn : xn < firm.length := by omega
        clear hxi hxp hpk
        go_upto_region 7 with (first | ((with_reducible refine at_ld 83 (.tmp 18) ?_); refine ld_ls rfl _ rfl g (k * 129) rfl xn xp ?_ ?_ ?_; exact HXP.out; exact HRk.out) | ((with_reducible refine at_al 83 ?_); refine al_ls rfl rfl ?_) | ((with_reducible refine at_st 83 (.tmp 5) (.tmp 19) ?_); refine st_nls rfl _ _ rfl _ _ _ rfl rfl xn xp ?_ rfl ?_ ?_; exact HXP.out; exact lzsz))
        obtain ⟨w4, hw4⟩ : ∃ w4, w4 = wr.alloc (.cells (lv xn xp).toArray 83) := ⟨_, rfl⟩
        obtain ⟨y0, yr⟩ := lv_range_new wr xn xp 83
        rw [← hw4] at y0 yr ⊢
        have HY := Lib.hid yr
        have hb4 : Below wr.heap.size wr w4 := by rw [hw4]; exact (Below.refl _ _).alloc (Nat.le_refl _) _
        have HI4 := Lib.hid (HI.out.under hb4)
        have c0 := HI4.out.d.c0
        have hfl := flushTo_length firm loose k
        have hbd : Below w4.heap.size w4 w4.drew := Below.drew (Below.refl _ _)
        have HI5 := Lib.hid (HI4.out.under hbd)
        have HTk := Lib.hid (there_sub (i := xn * 128) (m := 128) HI5.out.d.tF (by omega))
        rw [Nat.zero_add] at HTk
        have HPut := Lib.hid (HI5.out.put xn (by omega) xp HXP.out)
        rw [Int.toNat_natCast] at HSt
        rw [← HSt.out] at HPut
        clear hw4 yr hb4 hbd
        rw [hfl] at c0
        have hil : (xn : Int) < (firm.length : Int) := by omega
        refine wp_region_still_tail 9 (by kernel_rfl) (by kernel_rfl) ?_
        simp only [List.take_succ_cons, List.take_zero, List.drop_succ_cons, List.drop_zero]
        iterate 7 still_step
        refine still_pg rfl _ rfl wr.heap.size 1 rfl xp HXP.out ?_ ?_
        · exact (World.rangeAt_drew _ _ _ _).2 HY.out
        still_step
        refine wpStill_nil ?_
        go_wp2_with ((with_reducible refine at_st 36 (.tmp 28) (.tmp 27) ?_); refine st_pg rfl _ _ rfl F (xn * 128) rfl xp ?_ rfl ?_ ?_; exact HXP.out; exact HTk.out)
        go_roundg (loose.length - (k + 1))
        case measure => omega
        case rel => exact ⟨k + 1, by omega, by omega, by go_num, HPut⟩
      · have hkl : k = loose.length := by omega
        have hre : flushTo firm loose k = flushP firm loose := by rw [hkl]; unfold flushTo flushP; rw [List.take_length]
        rw [hre] at HI
        have hltb : ¬ (k : Int) < (loose.length : Int) := by omega
        have c1 := HI.out.d.c1
        have f1 := HI.out.d.f1
        clear hkl hre
        go_wp2_with fail
        go_ret
        refine ⟨_, rfl, by rw [← HCode.out]; exact ErrC.nil _ _, .inr ⟨by simpa using HDn.out, HI.out.d.bare, ?_⟩⟩
        have h1 : Touch (Its D F (.slice A loose.length c)) w wr := (Touch.of_below HB2.out).trans (HI.out.t.mono (fun k hk => .inr (.inl hk)))
        exact Touch.setCells h1 D (.inl (.inl rfl)) [_] 1 wr h1
  · obtain ⟨tt, xx, rfl⟩ := he.iface hc
    have HE := Lib.hid he
    clear he hb1 hcode
    go_wp2_with fail
    go_ret
    exact ⟨_, rfl, by rw [← HCode.out]; exact HE.out, .inl ⟨by cases hd : down with
      | true => rfl
      | false => exact absurd (HDn.out.2 hd) hc, H.out.under HB2.out, HB2.out⟩⟩
end Go.Proofs.YthleapofcoidoaaDoor
