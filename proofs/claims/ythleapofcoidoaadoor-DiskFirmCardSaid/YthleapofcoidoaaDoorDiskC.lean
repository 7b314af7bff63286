/- (*disk.Disk).Crash by its contract. -/
import Derived.Test.YthleapofcoidoaaDoorDiskF
namespace Go.Proofs.YthleapofcoidoaaDoor
open Go.RowKit Go.Extern.Stop Go.Stop Go.Extern
set_option linter.unusedVariables false
set_option linter.unusedSimpArgs false

/-- the first n bytes of p, then what q held -/
def mix (n : Nat) (p q : Pg) : Pg := p.take n ++ q.drop n
theorem mix_length {n : Nat} {p q : Pg} (hn : n ≤ 128) (hp : p.length = 128) (hq : q.length = 128) : (mix n p q).length = 128 := by
  unfold mix; rw [List.length_append, List.length_take, List.length_drop, hp, hq]; omega
theorem range_mix {w : World} {F : Nat} {firm : List Pg} (h : w.rangeAt F 0 (flatP firm)) (ht : w.there F 0 (firm.length * 128)) (hp : ∀ p ∈ firm, p.length = 128) (i : Nat) (hi : i < firm.length) (p : Pg) (hpl : p.length = 128) (n : Nat) (hn : n ≤ 128) :
    (w.setCells F (i * 128) ((pv p).take n)).rangeAt F 0 (flatP (firm.set i (mix n p firm[i]))) := fun j v hv => by
  have hm := mix_length (n := n) (p := p) (q := firm[i]) hn hpl (hp _ (List.getElem_mem hi))
  have hps : ∀ q ∈ firm.set i (mix n p firm[i]), q.length = 128 := fun q hq => by
    rcases List.mem_or_eq_of_mem_set hq with h | h
    · exact hp q h
    · exact h ▸ hm
  have hl : ((pv p).take n).length = n := by rw [List.length_take, pv_length, hpl]; omega
  have hj : j < firm.length * 128 := by
    have := (List.getElem?_eq_some_iff.1 hv).1
    rwa [flatP_length _ hps, List.length_set] at this
  obtain ⟨k, r, hr, rfl⟩ : ∃ k r, r < 128 ∧ j = k * 128 + r := ⟨j / 128, j % 128, Nat.mod_lt _ (by omega), by omega⟩
  have hk : k < firm.length := by omega
  rw [flatP, flat_at pv 128 _ k r (by rw [List.length_set]; exact hk) (fun q hq => by rw [pv_length, hps q hq]) hr] at hv
  rw [Nat.zero_add]
  have old : ∀ (hne : k ≠ i ∨ n ≤ r), (pv firm[k])[r]? = some v → (w.setCells F (i * 128) ((pv p).take n)).cell? ⟨F, k * 128 + r, none⟩ = some v := fun hne hv => by
    rw [World.cell?_setCells_out F _ (i * 128) w _ (fun _ _ => by
      rw [hl]
      show k * 128 + r < i * 128 ∨ i * 128 + n ≤ k * 128 + r
      rcases hne with h | h
      · omega
      · rcases Nat.lt_trichotomy k i with q | q | q <;> omega)]
    have := h (k * 128 + r) v (by rw [flatP, flat_at pv 128 _ k r hk (fun q hq => by rw [pv_length, hp q hq]) hr]; exact hv)
    rwa [Nat.zero_add] at this
  by_cases hki : k = i
  · subst hki
    rw [List.getElem_set_self] at hv
    have e : pv (mix n p firm[k]) = (pv p).take n ++ (pv firm[k]).drop n := by unfold mix pv; rw [List.map_append, List.map_take, List.map_drop]
    rw [e] at hv
    by_cases hrn : r < n
    · rw [List.getElem?_append_left (by rw [hl]; exact hrn)] at hv
      have := World.rangeAt_setCells_same w F (k * 128) ((pv p).take n) (by
        have := there_sub (i := k * 128) (m := n) ht (by omega)
        rw [hl]
        rwa [Nat.zero_add] at this)
      exact this r v hv
    · rw [List.getElem?_append_right (by rw [hl]; omega), hl, List.getElem?_drop, show n + (r - n) = r by omega] at hv
      exact old (.inr (by omega)) hv
  · rw [List.getElem_set_ne (fun e => hki e.symm)] at hv
    exact old (.inl hki) hv
/-- a sector is stored in part -/
theorem DiskIn.part {w : World} {base D F : Nat} {v : Value} {firm : List Pg} {loose : Ls} {down : Bool} (h : DiskIn w base D F v firm loose down) (i : Nat) (hi : i < firm.length) (p : Pg) (hp : p.length = 128) (n : Nat) (hn : n ≤ 128) :
    DiskIn (w.setCells F (i * 128) ((pv p).take n)) base D F v (firm.set i (mix n p firm[i])) loose down := by
  have t : Touch (fun k => k = F) w (w.setCells F (i * 128) ((pv p).take n)) := Touch.setCells (S := fun k => k = F) (Touch.refl _ w) F (.inl rfl) ((pv p).take n) _ w (Touch.refl _ _)
  exact { c0 := (by rw [List.length_set]; exact t.cell h.c0 h.ne),
          c1 := t.cell h.c1 h.ne, c2 := t.cell h.c2 h.ne,
          f1 := (by rw [World.frozen?_setCells]; exact h.f1), f2 := (by rw [World.frozen?_setCells]; exact h.f2),
          hF := range_mix h.hF h.tF h.pg i hi p hp n hn,
          tF := (by rw [List.length_set]; exact World.there_setCells h.tF _ _ _),
          hl := own_mv h.hl (fun k hk => t.block k (h.hl.lt k hk).2 (fun e => h.nF (by rw [hk, e]))),
          bD := h.bD, bF := h.bF, lF := Nat.lt_of_lt_of_le h.lF t.size, ne := h.ne, nD := h.nD, nF := h.nF,
          pg := (fun q hq => by
            rcases List.mem_or_eq_of_mem_set hq with h' | h'
            · exact h.pg q h'
            · exact h' ▸ mix_length hn hp (h.pg _ (List.getElem_mem hi))),
          pl := (fun x hx => by rw [List.length_set]; exact h.pl x hx),
          n0 := (by rw [List.length_set]; exact h.n0), n1 := (by rw [List.length_set]; exact h.n1) }
theorem FInv.part {base D F : Nat} {v : Value} {w2 : World} {firm : List Pg} {loose : Ls} {down : Bool} {w : World} (h : FInv base D F v w2 firm loose down w) (i : Nat) (hi : i < firm.length) (p : Pg) (hp : p.length = 128) (n : Nat) (hn : n ≤ 128) : FInv base D F v w2 (firm.set i (mix n p firm[i])) loose down (w.setCells F (i * 128) ((pv p).take n)) :=
  ⟨h.d.part i hi p hp n hn, Touch.setCells h.t F (.inl rfl) ((pv p).take n) _ w h.t⟩
/-- the power is gone -/
theorem DiskIn.dark {w : World} {base D F : Nat} {v : Value} {firm : List Pg} {loose : Ls} {down : Bool} (h : DiskIn w base D F v firm loose down) (b : Bool) : DiskIn (w.setCell ⟨D, 2, none⟩ (.bool b)) base D F v firm loose b := by
  have t2 : Touch (fun k => k = D) w (w.setCell ⟨D, 2, none⟩ (.bool b)) := touch_set w D 2 _ rfl
  exact { c0 := (by rw [World.cell?_setCell_other _ _ _ _ (by simp)]; exact h.c0),
          c1 := (by rw [World.cell?_setCell_other _ _ _ _ (by simp)]; exact h.c1),
          c2 := World.cell?_setCell_same _ _ _ h.c2,
          f1 := (by rw [World.frozen?_setCell]; exact h.f1), f2 := (by rw [World.frozen?_setCell]; exact h.f2),
          hF := t2.range h.hF (fun e => h.ne e.symm), tF := t2.there h.tF (fun e => h.ne e.symm),
          hl := own_mv h.hl (fun k hk => t2.block k (h.hl.lt k hk).2 (fun e => h.nD (by rw [hk, e]))),
          bD := h.bD, bF := h.bF, lF := Nat.lt_of_lt_of_le h.lF t2.size, ne := h.ne, nD := h.nD, nF := h.nF,
          pg := h.pg, pl := h.pl, n0 := h.n0, n1 := h.n1 }
def bitB (mask : Int) (n : Nat) : Bool := bits BinOp.and IntKind.u32 (mask / 2 ^ (n % 32)) 1 == 1
def cutP (torn : Int) : Nat := (max torn 0 % 128).toNat
def crashTo (mask : Int) (firm : List Pg) (loose : Ls) (cut : Nat) : Nat → List Pg × Nat
  | 0 => (firm, cut)
  | k + 1 =>
    let s := crashTo mask firm loose cut k
    match loose[k]? with
    | none => s
    | some x => if bitB mask k = true then (s.1.set x.1.toNat x.2, s.2) else (s.1.set x.1.toNat (mix s.2 x.2 (s.1.getD x.1.toNat zp)), 0)
def crashP (mask torn : Int) (firm : List Pg) (loose : Ls) : List Pg := (crashTo mask firm loose (cutP torn) loose.length).1
theorem crashTo_length (mask : Int) (firm : List Pg) (loose : Ls) (cut k : Nat) : (crashTo mask firm loose cut k).1.length = firm.length := by
  induction k with
  | zero => rfl
  | succ k ih =>
    unfold crashTo
    split
    · exact ih
    · split
      · simp only [List.length_set]; exact ih
      · simp only [List.length_set]; exact ih
theorem crashTo_cut (mask : Int) (firm : List Pg) (loose : Ls) (cut k : Nat) (h : cut < 128) : (crashTo mask firm loose cut k).2 < 128 := by
  induction k with
  | zero => exact h
  | succ k ih =>
    unfold crashTo
    split
    · exact ih
    · split
      · exact ih
      · exact Nat.succ_pos _
theorem crashTo_step (mask : Int) (firm : List Pg) (loose : Ls) (cut k : Nat) (h : k < loose.length) : crashTo mask firm loose cut (k + 1) =
    if bitB mask k = true then ((crashTo mask firm loose cut k).1.set loose[k].1.toNat loose[k].2, (crashTo mask firm loose cut k).2)
    else ((crashTo mask firm loose cut k).1.set loose[k].1.toNat (mix (crashTo mask firm loose cut k).2 loose[k].2 ((crashTo mask firm loose cut k).1.getD loose[k].1.toNat zp)), 0) := by
  rw [crashTo]; simp only [List.getElem?_eq_getElem h]
theorem FInv.part' {base D F : Nat} {v : Value} {w2 : World} {firm : List Pg} {loose : Ls} {down : Bool} {w : World} (h : FInv base D F v w2 firm loose down w) (i : Nat) (hi : i < firm.length) (p : Pg) (hp : p.length = 128) (n : Nat) (hn : n ≤ 128) : FInv base D F v w2 (firm.set i (mix n p (firm.getD i zp))) loose down (w.setCells F (i * 128) ((pv p).take n)) := by
  have e : firm.getD i zp = firm[i] := by rw [List.getD_eq_getElem?_getD, List.getElem?_eq_getElem hi]; rfl
  rw [e]; exact h.part i hi p hp n hn
theorem cutP_lt (torn : Int) : cutP torn < 128 := by unfold cutP; omega
section
variable {ops : Array Oper} {rest : List Oper} {op : Oper} {a : Act} {w : World}
theorem cp_pg {Q : Exit → Act → World → Prop} (hg : op.guard = none) (x y : Operand) (ho : op.op = .call { callee := .builtin .copy, args := #[x, y], argTypes := #[46, 46] }) (b o n c : Nat) (ad : Addr) (c' : Nat) (hx : a.eval x = .slice (some ⟨b, o, none⟩) n c) (hy : a.eval y = .slice (some ad) 128 c')
    (p : Pg) (hp : p.length = 128) (hn : n ≤ 128) (hr : ∀ j v, (pv p)[j]? = some v → w.cell? (ad.add j) = some v) (ht : w.there b o 128)
    (h : wpList Tryd.prog ops Q rest (a.put op.dst (goInt n)) (w.setCells b o ((pv p).take n))) : wpList Tryd.prog ops Q (op :: rest) a w := by
  have hl : ((pv p).take n).length = n := by rw [List.length_take, pv_length, hp]; omega
  have hc := run_copy_cells (P := Tryd.prog) w 46 46 op.type 5 b o n c ad 128 c' ((pv p).take n) Tryd.underlying46 (by kernel_rfl) (by rw [hl]; exact (Nat.min_eq_right hn).symm) (fun j v hv => hr j v (by
    rw [List.getElem?_take] at hv
    split at hv
    · exact hv
    · cases hv)) (fun j hj => (ht j (by omega)).1) (fun j hj => (ht j (by omega)).2) (fun v hv => pv_one p v (List.mem_of_mem_take hv))
  rw [hl] at hc
  refine wpList_plain hg fun K hK => ?_
  unfold Oper.wp execOp
  simp only [ho, resolve, invoke, builtin, Sem.run_bind, Sem.run_pure, Result.andThen_ok, List.map_toArray, List.map_cons, List.map_nil, hx, hy, hc]
  exact hK _ _ h
end
theorem crash_nil (mask torn : Int) (w : World) : Calls Tryd.prog 20 #[.pointer none, .int .u32 mask, .int .i64 torn] w fun e w' => e = .returned (.tuple #[]) ∧ Below w.heap.size w w' := by
  go_enter Tryd.func20, Tryd.ntmps20
  go_wp2_with fail
  refine bodyPost_ret (v := .tuple #[]) (results_none Tryd.results20 _ _ _) rfl ?_
  exact ⟨rfl, Below.refl _ _⟩
def CrashPost (base D F : Nat) (v : Value) (firm : List Pg) (loose : Ls) (mask torn : Int) (w : World) (e : Ending) (w' : World) : Prop :=
  e = .returned (.tuple #[]) ∧ DiskIn w' base D F (.slice none 0 0) (crashP mask torn firm loose) [] true ∧ Touch (Its D F v) w w'
set_option maxHeartbeats 1000000 in
set_option maxRecDepth 100000 in
theorem crash_any {w : World} {base D F : Nat} {v : Value} {firm : List Pg} {loose : Ls} {down : Bool} (mask torn : Int) (h : DiskIn w base D F v firm loose down) (hls : loose.length ≤ 1000000) (hm0 : 0 ≤ mask) (hm1 : mask < 4294967296) (ht1 : torn < 9223372036854775808) :
    Calls Tryd.prog 20 #[.pointer (some ⟨D, 0, none⟩), .int .u32 mask, .int .i64 torn] w (CrashPost base D F v firm loose mask torn w) := by
  have H2 := Lib.hid h
  clear h
  have c1 := H2.out.c1
  obtain ⟨A, c, rfl⟩ := own_slice H2.out.hl
  have hn240 := H2.out.n1
  go_enter Tryd.func20, Tryd.ntmps20
  go_wp2_with fail
  all_goals
    have HC0 : Hid (cutP torn < 128) := Lib.hid (cutP_lt torn)
    go_loopg [19, 6] loose.length (fun gg s19 s6 wr => ∃ k : Nat, k ≤ loose.length ∧ loose.length - k ≤ gg ∧ s19 = .int .i64 k ∧ s6 = .int .i64 ((crashTo mask firm loose (cutP torn) k).2 : Nat) ∧ Hid (FInv base D F (.slice A loose.length c) w (crashTo mask firm loose (cutP torn) k).1 loose down wr))
    case atStart => exact ⟨0, Nat.zero_le _, by omega, rfl, by congr 1; show _ = ((cutP torn : Nat) : Int); unfold cutP; omega, Lib.hid ⟨H2.out, Touch.refl _ _⟩⟩
    case round =>
      obtain ⟨k, hk, hg, rfl, rfl, HI⟩ := hrel
      by_cases hlt : k < loose.length
      · have hltz : (k : Int) < (loose.length : Int) := by omega
        obtain ⟨g, rfl⟩ : ∃ g, A = some ⟨g, 0, none⟩ := by
          rcases H2.out.hl.2 with ⟨_, hn⟩ | ⟨g, cap, cur, hv, _⟩
          · omega
          · simp only [Value.slice.injEq] at hv; exact ⟨g, hv.1⟩
        have hpk := H2.out.pl _ (List.getElem_mem hlt)
        have HRk := Lib.hid (own_part HI.out.d.hl rfl (fun x hx => (H2.out.pl x hx).1) k hlt)
        have hfl := crashTo_length mask firm loose (cutP torn) k
        have HSt := Lib.hid (crashTo_step mask firm loose (cutP torn) k hlt)
        have HCk := Lib.hid (crashTo_cut mask firm loose (cutP torn) k HC0.out)
        obtain ⟨fk, hfk⟩ : ∃ q, q = (crashTo mask firm loose (cutP torn) k).1 := ⟨_, rfl⟩
        obtain ⟨ck, hck⟩ : ∃ q, q = (crashTo mask firm loose (cutP torn) k).2 := ⟨_, rfl⟩
        obtain ⟨xi, hxi⟩ : ∃ q, q = loose[k].1 := ⟨_, rfl⟩
        obtain ⟨xp, hxp⟩ : ∃ q, q = loose[k].2 := ⟨_, rfl⟩
        simp only [← hxi, ← hxp, ← hfk, ← hck] at HRk hpk HSt HCk HI hfl ⊢
        have HXP := Lib.hid hpk.1
        obtain ⟨xn, rfl⟩ : ∃ n : Nat, xi = (n : Int) := ⟨xi.toNat, by omega⟩
        have hxn : xn < firm.length := by omega
        clear hxi hxp hpk hfk hck
        go_upto_region 5 with (first | ((with_reducible refine at_ld 83 (.tmp 22) ?_); refine ld_ls rfl _ rfl g (k * 129) rfl xn xp ?_ ?_ ?_; exact HXP.out; exact HRk.out) | ((with_reducible refine at_al 83 ?_); refine al_ls rfl rfl ?_) | ((with_reducible refine at_st 83 (.tmp 8) (.tmp 23) ?_); refine st_nls rfl _ _ rfl _ _ _ rfl rfl xn xp ?_ rfl ?_ ?_; exact HXP.out; exact lzsz))
        obtain ⟨w4, hw4⟩ : ∃ w4, w4 = wr.alloc (.cells (lv xn xp).toArray 83) := ⟨_, rfl⟩
        obtain ⟨y0, yr⟩ := lv_range_new wr xn xp 83
        rw [← hw4] at y0 yr ⊢
        have HY := Lib.hid yr
        have hb4 : Below wr.heap.size wr w4 := by rw [hw4]; exact (Below.refl _ _).alloc (Nat.le_refl _) _
        have HI4 := Lib.hid (HI.out.under hb4)
        clear hw4 yr hb4
        have c0 := HI4.out.d.c0
        rw [hfl] at c0
        have hbd : Below w4.heap.size w4 w4.drew := Below.drew (Below.refl _ _)
        have HI5 := Lib.hid (HI4.out.under hbd)
        have HTk := Lib.hid (there_sub (i := xn * 128) (m := 128) HI5.out.d.tF (by omega))
        rw [Nat.zero_add] at HTk
        rw [Int.toNat_natCast] at HSt
        clear hbd
        have hil : (xn : Int) < (firm.length : Int) := by omega
        by_cases hbit : bitB mask k = true
        · have HPut := Lib.hid (HI5.out.put xn (by omega) xp HXP.out)
          rw [if_pos hbit] at HSt
          have hbt : (bits BinOp.and IntKind.u32 (mask / 2 ^ (k % 32)) 1 == 1) = true := hbit
          clear hbit
          go_upto_region 6 with fail
          refine wp_region_still_tail 9 (by kernel_rfl) (by kernel_rfl) ?_
          simp only [List.take_succ_cons, List.take_zero, List.drop_succ_cons, List.drop_zero]
          iterate 7 still_step
          refine still_pg rfl _ rfl wr.heap.size 1 rfl xp HXP.out ?_ ?_
          · exact (World.rangeAt_drew _ _ _ _).2 HY.out
          still_step
          refine wpStill_nil ?_
          go_wp2_with ((with_reducible refine at_st 36 (.tmp 38) (.tmp 37) ?_); refine st_pg rfl _ _ rfl F (xn * 128) rfl xp ?_ rfl ?_ ?_; exact HXP.out; exact HTk.out)
          go_roundg (loose.length - (k + 1))
          case measure => omega
          case rel => exact ⟨k + 1, by omega, by omega, by go_num, by rw [HSt.out], by rw [HSt.out]; exact HPut⟩
        · have HPut := Lib.hid (HI5.out.part' xn (by omega) xp HXP.out ck (by have := HCk.out; omega))
          rw [if_neg hbit] at HSt
          have hbt : (bits BinOp.and IntKind.u32 (mask / 2 ^ (k % 32)) 1 == 1) = false := Bool.eq_false_iff.2 hbit
          have hck : (ck : Int) ≤ 128 := by have := HCk.out; omega
          have hck1 : ck ≤ 128 := by have := HCk.out; omega
          have HYd : Hid (∀ j v, (pv xp)[j]? = some v → w4.drew.cell? (Addr.add ⟨wr.heap.size, 1, none⟩ j) = some v) := Lib.hid (fun j v hv => by have := (World.rangeAt_drew _ _ _ _).2 HY.out j v hv; (by_cases h0 : j = 0); (subst h0; exact this); (rw [Addr.add, if_neg h0]; exact this))
          clear hbit
          go_upto_region 7 with fail
          refine wp_region_still_tail 11 (by kernel_rfl) (by kernel_rfl) ?_
          simp only [List.take_succ_cons, List.take_zero, List.drop_succ_cons, List.drop_zero]
          iterate 11 still_step
          refine wpStill_nil ?_
          go_wp2_with (refine cp_pg rfl _ _ rfl F (xn * 128) ck _ _ _ rfl rfl xp ?_ ?_ ?_ ?_ ?_; exact HXP.out; exact hck1; exact HYd.out; exact HTk.out)
          go_roundg (loose.length - (k + 1))
          case measure => omega
          case rel => exact ⟨k + 1, by omega, by omega, by go_num, by rw [HSt.out]; rfl, by rw [HSt.out]; exact HPut⟩
      · have hkl : k = loose.length := by omega
        rw [hkl] at HI
        have hltb : ¬ (k : Int) < (loose.length : Int) := by omega
        have c1 := HI.out.d.c1
        have f1 := HI.out.d.f1
        have c2 := HI.out.d.c2
        have f2 := HI.out.d.f2
        clear hkl
        go_wp2_with fail
        go_end0
        refine ⟨rfl, HI.out.d.bare.dark true, ?_⟩
        have h1 : Touch (Its D F (.slice (A) loose.length c)) w wr := HI.out.t.mono (fun k hk => .inr (.inl hk))
        have h2 := Touch.setCells h1 D (.inl (.inl rfl)) [.slice none 0 0] 1 wr h1
        exact Touch.setCells h2 D (.inl (.inl rfl)) [.bool true] 2 _ h2
end Go.Proofs.YthleapofcoidoaaDoor
