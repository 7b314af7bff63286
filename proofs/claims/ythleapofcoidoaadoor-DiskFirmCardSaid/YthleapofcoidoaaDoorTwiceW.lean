/- dynamolaw04.DiskTwice: the walk. -/
import Derived.Test.YthleapofcoidoaaDoorDiskA
import Derived.Test.YthleapofcoidoaaDoorActs
import Derived.BigQuiet
namespace Go.Proofs.YthleapofcoidoaaDoor
open Go.RowKit Go.Extern.Stop Go.Stop Go.Extern
set_option linter.unusedVariables false
set_option linter.unusedSimpArgs false

theorem and7 (x : Int) : 0 ≤ bits BinOp.and IntKind.i64 x 7 ∧ bits BinOp.and IntKind.i64 x 7 ≤ 7 := by
  have e : (BitVec.ofInt 64 x &&& BitVec.ofInt 64 7).toNat ≤ 7 := by
    rw [BitVec.toNat_and]
    exact Nat.and_le_right
  generalize hn : (BitVec.ofInt 64 x &&& BitVec.ofInt 64 7).toNat = n at e
  have h : bits BinOp.and IntKind.i64 x 7 = IntKind.wrap .i64 n := by rw [← hn]; rfl
  rw [h]
  simp [IntKind.wrap, IntKind.bits, IntKind.signed]
  omega
def z8 : List Pg := List.replicate 8 zp
theorem info_pg8 : (Tryd.prog.info? 37).map (fun i => (i.zero, i.size)) = some (some (.agg (flatP z8).toArray), 1024) := by kernel_rfl
theorem ActAt.under {W W' : World} {x : Addr} {a : ActP} (h : ActAt W x a) (hb : Below W.heap.size W W') : ActAt W' x a :=
  have t : Touch (fun _ => False) W W' := Touch.of_below hb
  ⟨t.cell h.k (fun h => h), t.cell h.a (fun h => h), t.range h.p (fun h => h), t.cell h.m (fun h => h), t.cell h.t (fun h => h)⟩
def lsTo (l : List ActP) (k : Nat) : Ls := (l.take k).map fun a => (bits BinOp.and IntKind.i64 a.at_ 7, a.p)
theorem lsTo_step (l : List ActP) (k : Nat) (h : k < l.length) : lsTo l (k + 1) = lsTo l k ++ [(bits BinOp.and IntKind.i64 l[k].at_ 7, l[k].p)] := by
  unfold lsTo; rw [List.take_succ_eq_append_getElem h, List.map_append]; rfl
theorem lsTo_length (l : List ActP) (k : Nat) : (lsTo l k).length ≤ l.length := by unfold lsTo; rw [List.length_map, List.length_take]; omega
structure WInv (w2 : World) (X : Nat) (firm : List Pg) (j : Nat) (w : World) : Prop where
  th : w.there X 0 1024
  r : ∀ i, i < j → w.rangeAt X (i * 128) (pv (firm.getD i zp))
  t : Touch (fun b => b = X) w2 w
theorem WInv.under {w2 w w' : World} {X j : Nat} {firm : List Pg} (h : WInv w2 X firm j w) (hb : Below w.heap.size w w') : WInv w2 X firm j w' :=
  have ht : Touch (fun _ => False) w w' := Touch.of_below hb
  ⟨ht.there h.th (fun h => h), fun i hi => ht.range (h.r i hi) (fun h => h), h.t.trans (Touch.of_below hb)⟩
theorem WInv.step {w2 w : World} {X j : Nat} {firm : List Pg} (h : WInv w2 X firm j w) (hj : j < 8) (hp : ∀ i, (firm.getD i zp).length = 128) : WInv w2 X firm (j + 1) (w.setCells X (j * 128) (pv (firm.getD j zp))) := by
  refine ⟨World.there_setCells h.th _ _ _, fun i hi => ?_, Touch.setCells h.t X (.inl rfl) _ _ w h.t⟩
  by_cases e : i = j
  · subst e
    refine World.rangeAt_setCells_same _ _ _ _ ?_
    have := there_sub (i := i * 128) (m := 128) h.th (by omega)
    rw [pv_length, hp]
    rwa [Nat.zero_add] at this
  · exact World.rangeAt_setCells_apart (h.r i (by omega)) _ _ _ (.inr (.inl (by rw [pv_length, hp]; omega)))
section
variable {ops : Array Oper} {rest : List Oper} {op : Oper} {a : Act} {w : World}
theorem stillw_val {P : Program} {Q : Act → Prop} (hw : Region.wanted op (yielded ops a.tmps) = true) (v : Value) (hrun : (execOp a.eval op).run P w = .ok (.value v) w) (h : wpStill P ops w Q rest (a.put op.dst v)) : wpStill P ops w Q (op :: rest) a := by
  refine wpStill_step fun K hK => ?_
  rw [if_pos hw]
  unfold Oper.still
  rw [hrun, Oper.stillUpon_value]
  exact hK _ h
set_option maxRecDepth 100000 in
theorem stillw_pg {Q : Act → Prop} (hw : Region.wanted op (yielded ops a.tmps) = true) (x : Operand) (ho : op.op = .load 36 x) (b o : Nat) (hx : a.eval x = .pointer (some ⟨b, o, none⟩)) (p : Pg) (hp : p.length = 128) (hc : w.rangeAt b o (pv p))
    (h : wpStill Tryd.prog ops w Q rest (a.put op.dst (.agg (pv p).toArray))) : wpStill Tryd.prog ops w Q (op :: rest) a := by
  refine stillw_val hw (.agg (pv p).toArray) ?_ h
  unfold execOp
  simp only [ho, hx, Instr.loadAt, Instr.sureAddr, Sem.run_bind, Sem.run_pure, Result.andThen_ok, run_loadVar_mid w b o 36 (pv p) _ hc Tryd.underlying36 rfl (size_of hp)]
set_option maxRecDepth 100000 in
theorem stillw_ne {Q : Act → Prop} (hw : Region.wanted op (yielded ops a.tmps) = true) (x y : Operand) (ho : op.op = .binOp .neq 36 x y 36) (p : Pg) (hx : a.eval x = .agg (pv p).toArray) (hy : a.eval y = .agg (pv p).toArray) (hp : p.length = 128)
    (h : wpStill Tryd.prog ops w Q rest (a.put op.dst (.bool false))) : wpStill Tryd.prog ops w Q (op :: rest) a := by
  refine stillw_val hw (.bool false) ?_ h
  unfold execOp
  have he := neq_pg w p p hp hp
  have hgq := run_eqGuard_agg (P := Tryd.prog) w .neq 36 x y (pv p).toArray (pv p).toArray (by kernel_rfl)
  simp only [ho, hx, hy, Sem.run_bind, Sem.run_pure, Result.andThen_ok, he, hgq, beq_pg, Bool.not_true]
theorem al_pg8 {Q : Exit → Act → World → Prop} (hgd : op.guard = none) (ho : op.op = .alloc 37) (h : wpList Tryd.prog ops Q rest (a.put op.dst (.pointer (some ⟨w.heap.size, 0, none⟩))) (w.alloc (.cells (flatP z8).toArray 37))) : wpList Tryd.prog ops Q (op :: rest) a w := by
  have hz : ∀ w, (zeroValue 37).run Tryd.prog w = .ok (.agg (flatP z8).toArray) w := (zero_of_info info_pg8).1
  refine wpList_plain hgd fun K hK => ?_
  unfold Oper.wp execOp
  simp only [ho, Instr.alloc, Sem.run_bind, hz, Result.andThen_ok]
  exact hK _ _ h
end
set_option maxHeartbeats 1000000 in
set_option maxRecDepth 100000 in
theorem twice_go (l : List ActP) (A : Option Addr) (c : Nat) (mask again torn : Int) (w : World) (hT : Tied w) (hA : ActsAt w A l) (hl : l.length ≤ 60) (hm0 : 0 ≤ mask) (hm1 : mask < 4294967296) (ha0 : 0 ≤ again) (ha1 : again < 4294967296) (ht1 : torn < 9223372036854775808) :
    Calls Tryd.prog 5 #[.slice A l.length c, .int .u32 mask, .int .u32 again, .int .i64 torn] w fun e w' => e = .returned (.bool true) ∧ Below w.heap.size w w' := by
  have HT := Lib.hid hT
  have HA := Lib.hid hA
  have hlz : ¬ (60 : Int) < (l.length : Int) := by omega
  have hlzb : decide ((60 : Int) < (l.length : Int)) = false := by simpa using hlz
  clear hT hA
  go_enter Tryd.func5, Tryd.ntmps5
  go_wp2_with fail
  refine (awake_true _ HT.out).mono ?_
  rintro e w1 ⟨rfl, hb⟩
  have HB1 := Lib.hid hb
  clear hb
  go_wp2_with fail
  refine (new_ok 8 _ (by omega) (by omega)).mono ?_
  rintro e w2 ⟨D, F, rfl, hd, hb⟩
  have HD2 := Lib.hid hd
  have HB2 : Hid (Below w.heap.size w w2) := Lib.hid (HB1.out.trans (hb.mono HB1.out.size))
  clear hd hb
  go_wp2_with fail
  go_loopg [11] l.length (fun gg s11 wr => ∃ k : Nat, k ≤ l.length ∧ l.length - k ≤ gg ∧ s11 = .int .i64 k ∧ Hid (Below w.heap.size w wr) ∧ ∃ v, Hid (DiskIn wr w1.heap.size D F v (List.replicate 8 zp) (lsTo l k) false))
  case atStart => exact ⟨0, Nat.zero_le _, by omega, rfl, HB2, _, HD2⟩
  case round =>
    obtain ⟨k, hk, hg, rfl, HBr, v, HDr⟩ := hrel
    by_cases hlt : k < l.length
    · have hltz : (k : Int) < (l.length : Int) := by omega
      obtain ⟨ad, rfl, hat⟩ := HA.out.2.2 (by omega)
      have HAt := Lib.hid ((hat k hlt).under HBr.out)
      have HOk := Lib.hid (HA.out.1 _ (List.getElem_mem hlt))
      have HSt := Lib.hid (lsTo_step l k hlt)
      have hls := lsTo_length l k
      obtain ⟨x, hx⟩ : ∃ q, q = l[k] := ⟨_, rfl⟩
      rw [← hx] at HAt HOk HSt
      have cA := HAt.out.a
      clear hat hx
      go_upto_region 7 with fail
      refine wp_region_still_tail 12 (by kernel_rfl) (by kernel_rfl) ?_
      simp only [List.take_succ_cons, List.take_zero, List.drop_succ_cons, List.drop_zero]
      iterate 11 still_step
      refine still_pg rfl _ rfl (ad.add (k * 132)).block ((ad.add (k * 132)).off + 2) rfl x.p HOk.out.p ?_ ?_
      · exact (World.rangeAt_drew _ _ _ _).2 HAt.out.p
      refine wpStill_nil ?_
      have h7 := and7 x.at_
      obtain ⟨i7, hi7⟩ : ∃ q, q = bits BinOp.and IntKind.i64 x.at_ 7 := ⟨_, rfl⟩
      rw [← hi7] at h7 HSt
      try rw [← hi7]
      have HDd := Lib.hid (HDr.out.under (Below.drew (Below.refl _ _)))
      have HBd := Lib.hid (Below.drew HBr.out)
      go_wp2_with fail
      rw [← hi7]
      refine (write_any i7 x.p HDd.out (by omega) HOk.out.p).mono ?_
      rintro e w4 ⟨ev, rfl, he, hor⟩
      have hmay : mayC false (List.replicate 8 zp).length i7 = 0 := by
        unfold mayC; rw [if_neg (by simp), if_pos (by simp; omega)]
      obtain ⟨v4, HD4, HT4⟩ : ∃ v4, Hid (DiskIn w4 w1.heap.size D F v4 (List.replicate 8 zp) (lsTo l (k + 1)) false) ∧ Hid (Below w.heap.size w w4) := by
        rcases hor with ⟨h, _⟩ | ⟨_, v2, h1, h2, h3⟩
        · exact absurd hmay h
        · exact ⟨v2, Lib.hid (by rw [HSt.out]; exact h1), Lib.hid (HBd.out.trans ((HDd.out.low h3).mono HB1.out.size))⟩
      obtain rfl : ev = .nilIface := ErrC.zero (hmay ▸ he)
      clear he hor
      go_wp2_with fail
      go_roundg (l.length - (k + 1))
      case measure => omega
      case rel => exact ⟨k + 1, by omega, by omega, by go_num, HT4, v4, HD4⟩
    · have hltb : ¬ (k : Int) < (l.length : Int) := by omega
      have hls := lsTo_length l k
      have hLL : (lsTo l k).length ≤ 60 := by omega
      obtain ⟨L, hL⟩ : ∃ q, q = lsTo l k := ⟨_, rfl⟩
      rw [← hL] at HDr hLL
      clear hL hls
      go_wp2_with fail
      refine (crash_any mask torn HDr.out (by omega) hm0 hm1 ht1).mono ?_
      rintro e w5 ⟨rfl, hd, ht⟩
      have hfl : (crashP mask torn (List.replicate 8 zp) L).length = 8 := by unfold crashP; rw [crashTo_length]; simp
      obtain ⟨firm, hfirm⟩ : ∃ q, q = crashP mask torn (List.replicate 8 zp) L := ⟨_, rfl⟩
      rw [← hfirm] at hd hfl
      have HD5 := Lib.hid hd
      have HB5 : Hid (Below w.heap.size w w5) := Lib.hid (HBr.out.trans ((HDr.out.low ht).mono HB1.out.size))
      clear hd ht hfirm
      go_wp2_with fail
      refine (up_any HD5.out).mono ?_
      rintro e w6 ⟨rfl, hd, ht⟩
      have HD6 := Lib.hid hd
      have HB6 : Hid (Below w.heap.size w w6) := Lib.hid (HB5.out.trans ((HD5.out.low ht).mono HB1.out.size))
      clear hd ht
      have HPg : Hid (∀ i, (firm.getD i zp).length = 128) := Lib.hid (fun i => by
        rw [List.getD_eq_getElem?_getD]
        cases h : firm[i]? with
        | none => exact zp_length
        | some p => exact HD6.out.pg p (List.mem_of_getElem? h))
      clear hlt hltb hg hk hLL
      go_wp2_with ((with_reducible refine at_al 37 ?_); refine al_pg8 rfl rfl ?_)
      have hb7 := (Below.refl w6.heap.size w6).alloc (Nat.le_refl _) (.cells (flatP z8).toArray 37)
      have hth := there_new w6 (flatP z8).toArray 37 1024 (by rw [List.size_toArray, flatP_length _ (fun p hp => by rw [List.eq_of_mem_replicate hp]; exact zp_length)]; exact Nat.le_refl _)
      obtain ⟨w7, hw7⟩ : ∃ q, q = w6.alloc (.cells (flatP z8).toArray 37) := ⟨_, rfl⟩
      rw [← hw7] at hb7 hth ⊢
      have HD7 := Lib.hid (HD6.out.under hb7)
      have HB7 : Hid (Below w.heap.size w w7) := Lib.hid (HB6.out.trans (hb7.mono HB6.out.size))
      have HTh7 := Lib.hid hth
      have HNX : Hid (∀ k, Its D F (.slice none 0 0) k → k ≠ w6.heap.size) := Lib.hid (fun k hk => by
        have h1 := HD6.out.lD
        have h2 := HD6.out.lF
        rcases hk with rfl | rfl | hk
        · omega
        · omega
        · simp [Value.ownBlock] at hk)
      have HXw : Hid (w.heap.size ≤ w6.heap.size) := Lib.hid HB6.out.size
      clear hw7 hb7 hth
      obtain ⟨X, hX⟩ : ∃ q, q = w6.heap.size := ⟨_, rfl⟩
      rw [← hX] at HTh7 HNX HXw
      try rw [← hX]
      clear hX
      go_wp2_with fail
      go_loopg [13] 8 (fun gg s13 wr => ∃ j : Nat, j ≤ 8 ∧ 8 - j ≤ gg ∧ s13 = .int .i64 j ∧ Hid (WInv w7 X firm j wr))
      case atStart => exact ⟨0, by omega, by omega, rfl, Lib.hid ⟨HTh7.out, fun i hi => absurd hi (Nat.not_lt_zero _), Touch.refl _ _⟩⟩
      case round =>
        obtain ⟨j, hj, hg, rfl, HI⟩ := hrel
        by_cases hlt : j < 8
        · have hltz : (j : Int) < 8 := by omega
          have HDj := Lib.hid (HD7.out.keep HI.out.t HNX.out)
          go_wp2_with fail
          refine (read_any (j : Int) HDj.out (by simp)).mono ?_
          rintro e w8 ⟨ev, rfl, he, hb⟩
          have hmay : mayC false firm.length (j : Int) = 0 := by unfold mayC; rw [if_neg (by simp), if_pos (by omega)]
          rw [hmay] at he ⊢
          rw [if_pos rfl, show readP firm [] (j : Int) = firm.getD j zp from rfl]
          obtain rfl : ev = .nilIface := ErrC.zero he
          have HI8 := Lib.hid (HI.out.under hb)
          have HSt := Lib.hid (HI8.out.step hlt HPg.out)
          have HPj := Lib.hid (HPg.out j)
          have HTj := Lib.hid (there_sub (i := j * 128) (m := 128) HI8.out.th (by omega))
          rw [Nat.zero_add] at HTj
          obtain ⟨pj, hpj⟩ : ∃ q, q = firm.getD j zp := ⟨_, rfl⟩
          rw [← hpj] at HSt HPj ⊢
          clear he hb hmay hpj
          go_wp2_with ((with_reducible refine at_st 36 (.tmp 65) (.tmp 63) ?_); refine st_pg rfl _ _ rfl X (j * 128) rfl pj ?_ rfl ?_ ?_; exact HPj.out; exact HTj.out)
          go_roundg (8 - (j + 1))
          case measure => omega
          case rel => exact ⟨j + 1, by omega, by omega, by go_num, HSt⟩
        · have hltb : ¬ (j : Int) < 8 := by omega
          obtain rfl : j = 8 := by omega
          have HDj := Lib.hid (HD7.out.keep HI.out.t HNX.out)
          have HBj : Hid (Below w.heap.size w wr) := Lib.hid (HB7.out.trans (HI.out.t.below HB7.out.size (fun k hk => by rw [hk]; exact HXw.out)))
          clear hlt
          go_wp2_with fail
          refine (crash_any again torn HDj.out (by simp) ha0 ha1 ht1).mono ?_
          rintro e w9 ⟨rfl, hd, ht⟩
          rw [show crashP again torn firm [] = firm from rfl] at hd
          have HD9 := Lib.hid hd
          have HT9 := Lib.hid ht
          have HB9 : Hid (Below w.heap.size w w9) := Lib.hid (HBj.out.trans ((HDj.out.low ht).mono HB1.out.size))
          clear hd ht
          go_wp2_with fail
          refine (up_any HD9.out).mono ?_
          rintro e wa ⟨rfl, hd, ht⟩
          have HDa := Lib.hid hd
          have HBa : Hid (Below w.heap.size w wa) := Lib.hid (HB9.out.trans ((HD9.out.low ht).mono HB1.out.size))
          have HRa : Hid (∀ i, i < 8 → wa.rangeAt X (i * 128) (pv (firm.getD i zp))) := Lib.hid (fun i hi => ht.range (HT9.out.range (HI.out.r i hi) (fun h => HNX.out _ h rfl)) (fun h => HNX.out _ h rfl))
          clear hd ht hltb
          go_wp2_with fail
          go_loopg [14] 8 (fun gg s14 wb => ∃ j : Nat, j ≤ 8 ∧ 8 - j ≤ gg ∧ s14 = .int .i64 j ∧ Hid (Below wa.heap.size wa wb))
          case atStart => exact ⟨0, by omega, by omega, rfl, Lib.hid (Below.refl _ _)⟩
          case round =>
            obtain ⟨j, hj, hg, rfl, HK⟩ := hrel
            by_cases hlt : j < 8
            · have hltz : (j : Int) < 8 := by omega
              have HDb := Lib.hid (HDa.out.under HK.out)
              go_wp2_with fail
              refine (read_any (j : Int) HDb.out (by simp)).mono ?_
              rintro e wc ⟨ev, rfl, he, hb⟩
              have hmay : mayC false firm.length (j : Int) = 0 := by unfold mayC; rw [if_neg (by simp), if_pos (by omega)]
              rw [hmay] at he ⊢
              rw [if_pos rfl, show readP firm [] (j : Int) = firm.getD j zp from rfl]
              obtain rfl : ev = .nilIface := ErrC.zero he
              have HKc := Lib.hid (HK.out.trans (hb.mono HK.out.size))
              have HPj := Lib.hid (HPg.out j)
              have HRj := Lib.hid (HRa.out j hlt)
              obtain ⟨pj, hpj⟩ : ∃ q, q = firm.getD j zp := ⟨_, rfl⟩
              rw [← hpj] at HPj HRj ⊢
              clear he hb hmay hpj
              go_upto_region 21 with (first | ((with_reducible refine at_al 36 ?_); refine al_pg rfl rfl ?_) | ((with_reducible refine at_st 36 (.tmp 15) (.tmp 80) ?_); refine st_new rfl _ _ rfl _ _ _ rfl rfl pj ?_ rfl ?_ ?_; exact HPj.out; exact zsz))
              have hbd := HKc.out.alloc HKc.out.size (.cells (pv pj).toArray 36)
              have hpd := range_new wc pj 36
              obtain ⟨wd, hwd⟩ : ∃ q, q = wc.alloc (.cells (pv pj).toArray 36) := ⟨_, rfl⟩
              rw [← hwd] at hbd hpd ⊢
              have HKd := Lib.hid (Below.drew hbd)
              have HPd := Lib.hid ((World.rangeAt_drew _ _ _ _).2 hpd)
              have HRd := Lib.hid ((Touch.of_below (S := fun _ => False) HKd.out).range HRj.out (fun h => h))
              clear hwd hbd hpd
              refine wp_region_still_lit (by kernel_rfl) (by kernel_rfl) ?_
              still_step
              still_call ((Num_nil _).mono fun e w' h => ⟨h.1, h.2.symm⟩)
              still_step
              still_step
              refine stillw_pg (by first | rfl | go_simp) _ rfl wc.heap.size 0 rfl pj HPj.out HPd.out ?_
              still_step
              still_step
              refine stillw_pg (by first | rfl | go_simp) _ rfl X (j * 128) rfl pj HPj.out HRd.out ?_
              refine stillw_ne (by first | rfl | go_simp) _ _ rfl pj rfl rfl HPj.out ?_
              still_step
              refine wpStill_nil ?_
              go_wp2_with fail
              go_roundg (8 - (j + 1))
              case measure => omega
              case rel => exact ⟨j + 1, by omega, by omega, by go_num, HKd⟩
            · have hltb : ¬ (j : Int) < 8 := by omega
              go_wp2_with fail
              refine (Num_nil _).mono ?_
              rintro e _ ⟨rfl, rfl⟩
              go_wp2_with fail
              go_ret
              exact ⟨rfl, HBa.out.trans (HK.out.mono HBa.out.size)⟩
set_option maxRecDepth 100000 in
theorem twice_long (l : List ActP) (A : Option Addr) (c : Nat) (mask again torn : Int) (w : World) (hT : Tied w) (hl : 60 < l.length) :
    Calls Tryd.prog 5 #[.slice A l.length c, .int .u32 mask, .int .u32 again, .int .i64 torn] w fun e w' => e = .returned (.bool true) ∧ Below w.heap.size w w' := by
  have HT := Lib.hid hT
  have hlz : (60 : Int) < (l.length : Int) := by omega
  have hlzb : decide ((60 : Int) < (l.length : Int)) = true := by simpa using hlz
  clear hT
  go_enter Tryd.func5, Tryd.ntmps5
  go_wp2_with fail
  refine (awake_true _ HT.out).mono ?_
  rintro e w1 ⟨rfl, hb⟩
  have HB1 := Lib.hid hb
  have HT1 := Lib.hid (HT.out.under HT.out.lt HB1.out)
  clear hb
  go_wp2_with fail
  refine (awake_true _ HT1.out).mono ?_
  rintro e w2 ⟨rfl, hb⟩
  go_wp2_with fail
  go_ret
  exact ⟨rfl, HB1.out.trans (hb.mono HB1.out.size)⟩
theorem twice_walk (A : Option Addr) (c : Nat) (l : List ActP) (mask again torn : Int) (W : World) (hA : ActsAt W A l) (wm : (Lit.int .u32 mask).wf = true) (wa : (Lit.int .u32 again).wf = true) (wt : (Lit.int .i64 torn).wf = true) (tied : Tied W) :
    Calls Tryd.prog 5 #[.slice A l.length c, .int .u32 mask, .int .u32 again, .int .i64 torn] W fun e w' => e = .returned (.bool true) ∧ Below W.heap.size W w' := by
  have h1 := wf_b32 wm
  have h2 := wf_b32 wa
  have h3 := wf_b64 wt
  by_cases hl : l.length ≤ 60
  · exact twice_go l A c mask again torn W tied hA hl h1.1 (by omega) h2.1 (by omega) (by omega)
  · exact twice_long l A c mask again torn W tied (by omega)
end Go.Proofs.YthleapofcoidoaaDoor
