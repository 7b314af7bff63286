/- dynamolaw04.DiskTorn: the walk. -/
import Derived.Test.YthleapofcoidoaaDoorDiskA
import Derived.BigQuiet
import Derived.Test.YthleapofcoidoaaDoorArgP
namespace Go.Proofs.YthleapofcoidoaaDoor
open Go.RowKit Go.Extern.Stop Go.Stop Go.Extern
set_option linter.unusedVariables false
set_option linter.unusedSimpArgs false

theorem bit_and1 (x : Int) (h0 : 0 ≤ x) (h1 : x < 4294967296) : bits BinOp.and IntKind.u32 x 1 = x % 2 := by
  obtain ⟨n, rfl⟩ : ∃ n : Nat, x = (n : Int) := ⟨x.toNat, by omega⟩
  have hn : n < 4294967296 := by omega
  have e : (BitVec.ofInt 32 (n : Int) &&& BitVec.ofInt 32 1).toNat = n % 2 := by
    rw [BitVec.toNat_and]
    rw [show (BitVec.ofInt 32 (n : Int)).toNat = n by simp [BitVec.toNat_ofInt]; omega, show (BitVec.ofInt 32 1).toNat = 1 by rfl, Nat.and_one_is_mod]
  show IntKind.wrap .u32 ((BitVec.ofInt 32 (n : Int) &&& BitVec.ofInt 32 1).toNat) = _
  rw [e]
  simp [IntKind.wrap, IntKind.bits, IntKind.signed]
  omega
theorem bitB_zero (mask : Int) (h0 : 0 ≤ mask) (h1 : mask < 4294967296) : bitB mask 0 = (mask % 2 == 1) := by
  unfold bitB
  rw [show mask / 2 ^ (0 % 32) = mask by simp, bit_and1 mask h0 h1]
theorem torn_firm (mask torn : Int) (was now : Pg) : crashP mask torn [zp, was] [(1, now)] = [zp, if bitB mask 0 = true then now else mix (cutP torn) now was] := by
  unfold crashP
  show (crashTo mask [zp, was] [(1, now)] (cutP torn) (0 + 1)).1 = _
  rw [crashTo_step _ _ _ _ 0 (by simp)]
  split <;> rfl
theorem cell_pg {w : World} {b : Nat} {p : Pg} (h : w.rangeAt b 0 (pv p)) (j : Nat) (hj : j < p.length) : w.cell? ⟨b, j, none⟩ = some (.int .u8 ((p.getD j 0).toNat : Int)) := by
  have := h j (.int .u8 ((p.getD j 0).toNat : Int)) (by rw [pv, List.getElem?_map, List.getElem?_eq_getElem hj, List.getD_eq_getElem?_getD, List.getElem?_eq_getElem hj]; rfl)
  rwa [Nat.zero_add] at this
theorem mix_lt {k j : Nat} {p q : Pg} (hp : p.length = 128) (hj : j < k) (hk : k ≤ 128) : (mix k p q).getD j 0 = p.getD j 0 := by
  unfold mix
  rw [List.getD_eq_getElem?_getD, List.getElem?_append_left (by rw [List.length_take, hp]; omega), List.getElem?_take, if_pos hj, List.getD_eq_getElem?_getD]
theorem mix_ge {k j : Nat} {p q : Pg} (hp : p.length = 128) (hj : k ≤ j) (hk : k ≤ 128) : (mix k p q).getD j 0 = q.getD j 0 := by
  unfold mix
  have hl : (p.take k).length = k := by rw [List.length_take, hp]; omega
  rw [List.getD_eq_getElem?_getD, List.getElem?_append_right (by rw [hl]; exact hj), hl, List.getElem?_drop, show k + (j - k) = j by omega, List.getD_eq_getElem?_getD]
set_option maxHeartbeats 6000000 in
set_option maxRecDepth 100000 in
theorem torn_true (w : World) (hT : Tied w) (was now : Pg) (mask : Int) (tn : Nat) (hwas : was.length = 128) (hnow : now.length = 128) (hm0 : 0 ≤ mask) (hm1 : mask < 4294967296) (htn : tn < 256) :
    Calls Tryd.prog 7 #[.agg (pv was).toArray, .agg (pv now).toArray, .int .u32 mask, .int .u8 tn] w fun e w' => e = .returned (.bool true) ∧ Below w.heap.size w w' := by
  have HT := Lib.hid hT
  have HW := Lib.hid hwas
  have HN := Lib.hid hnow
  clear hT hwas hnow
  go_enter Tryd.func7, Tryd.ntmps7
  go_wp2_with fail
  obtain ⟨w0, hw0⟩ : ∃ q, q = (w.alloc (.cells (pv was).toArray 36)).alloc (.cells (pv now).toArray 36) := ⟨_, rfl⟩
  have hb0 : Below w.heap.size w w0 := by rw [hw0]; exact ((Below.refl _ _).alloc (Nat.le_refl _) _).alloc (by simp) _
  have hx0 : w0.rangeAt w.heap.size 0 (pv was) := by rw [hw0]; exact World.rangeAt_alloc (range_new _ _ _) _
  have hx1 : w0.rangeAt (w.heap.size + 1) 0 (pv now) := by
    rw [hw0]
    have := range_new (w.alloc (.cells (pv was).toArray 36)) now 36
    simpa using this
  have hs0 : w0.heap.size = w.heap.size + 2 := by rw [hw0]; simp
  rw [← hw0]
  have HB0 := Lib.hid hb0
  have HX0 := Lib.hid hx0
  have HX1 := Lib.hid hx1
  have HS0 := Lib.hid hs0
  obtain ⟨X0, hX0⟩ : ∃ q, q = w.heap.size := ⟨_, rfl⟩
  obtain ⟨X1, hX1⟩ : ∃ q, q = w.heap.size + 1 := ⟨_, rfl⟩
  rw [← hX0] at HX0
  rw [← hX1] at HX1
  rw [← hX1, ← hX0]
  have HXs := Lib.hid (And.intro hX0 hX1)
  clear hw0 hb0 hx0 hx1 hs0 hX0 hX1
  have HT0 := Lib.hid (HT.out.under HT.out.lt HB0.out)
  refine (awake_true _ HT0.out).mono ?_
  rintro e w1 ⟨rfl, hb⟩
  have HB1 := Lib.hid hb
  clear hb
  go_wp2_with fail
  refine (new_ok 2 _ (by omega) (by omega)).mono ?_
  rintro e w2 ⟨D, F, rfl, hd, hb⟩
  have HD2 := Lib.hid hd
  have HB2 : Hid (Below w0.heap.size w0 w2) := Lib.hid (HB1.out.trans (hb.mono HB1.out.size))
  have HR2 := Lib.hid ((Touch.of_below (S := fun _ => False) HB2.out).range HX0.out (fun h => h))
  clear hd hb
  go_wp2_with (first | ((with_reducible refine at_ld 36 (.tmp 4) ?_); refine ld_pg rfl _ rfl X0 (0) rfl was ?_ ?_ ?_; exact HW.out; exact HR2.out))
  refine (write_any 1 was HD2.out (by simp) HW.out).mono ?_
  rintro e w3 ⟨ev, rfl, he, hor⟩
  obtain rfl : ev = .nilIface := ErrC.zero he
  obtain ⟨v3, HD3, HT3⟩ : ∃ v3, Hid (DiskIn w3 w1.heap.size D F v3 (List.replicate 2 zp) [(1, was)] false) ∧ Hid (Touch (Its D F (.slice none 0 0)) w2 w3) := by
    rcases hor with ⟨h, _⟩ | ⟨_, v2, h1, h2, h3⟩
    · exact absurd rfl h
    · exact ⟨v2, Lib.hid h1, Lib.hid h3⟩
  clear he hor
  have HB3 : Hid (Below w0.heap.size w0 w3) := Lib.hid (HB2.out.trans ((HD2.out.low HT3.out).mono HB1.out.size))
  go_wp2_with fail
  refine (flush_any HD3.out (by simp)).mono ?_
  rintro e w4 ⟨ev, rfl, he, hor⟩
  obtain rfl : ev = .nilIface := ErrC.zero he
  obtain ⟨HD4, HT4⟩ : Hid (DiskIn w4 w1.heap.size D F (.slice none 0 0) [zp, was] [] false) ∧ Hid (Touch (Its D F v3) w3 w4) := by
    rcases hor with ⟨h, _⟩ | ⟨_, h1, h3⟩
    · exact absurd h (by simp)
    · exact ⟨Lib.hid h1, Lib.hid h3⟩
  clear he hor
  have HB4 : Hid (Below w0.heap.size w0 w4) := Lib.hid (HB3.out.trans ((HD3.out.low HT4.out).mono HB1.out.size))
  have HR4 := Lib.hid ((Touch.of_below (S := fun _ => False) HB4.out).range HX1.out (fun h => h))
  go_wp2_with (first | ((with_reducible refine at_ld 36 (.tmp 5) ?_); refine ld_pg rfl _ rfl X1 (0) rfl now ?_ ?_ ?_; exact HN.out; exact HR4.out))
  refine (write_any 1 now HD4.out (by simp) HN.out).mono ?_
  rintro e w5 ⟨ev, rfl, he, hor⟩
  obtain rfl : ev = .nilIface := ErrC.zero he
  obtain ⟨v5, HD5, HT5⟩ : ∃ v5, Hid (DiskIn w5 w1.heap.size D F v5 [zp, was] [(1, now)] false) ∧ Hid (Touch (Its D F (.slice none 0 0)) w4 w5) := by
    rcases hor with ⟨h, _⟩ | ⟨_, v2, h1, h2, h3⟩
    · exact absurd rfl h
    · exact ⟨v2, Lib.hid h1, Lib.hid h3⟩
  clear he hor
  have HB5 : Hid (Below w0.heap.size w0 w5) := Lib.hid (HB4.out.trans ((HD4.out.low HT5.out).mono HB1.out.size))
  go_wp2_with fail
  refine (crash_any mask tn HD5.out (by simp) hm0 hm1 (by omega)).mono ?_
  rintro e w6 ⟨rfl, hd, ht⟩
  rw [torn_firm] at hd
  obtain ⟨pr, hpr⟩ : ∃ q, q = (if bitB mask 0 = true then now else mix (cutP (tn : Int)) now was) := ⟨_, rfl⟩
  rw [← hpr] at hd
  have HPR := Lib.hid hpr
  have HD6 := Lib.hid hd
  have HPL : Hid (pr.length = 128) := Lib.hid (hd.pg pr (by simp))
  have HB6 : Hid (Below w0.heap.size w0 w6) := Lib.hid (HB5.out.trans ((HD5.out.low ht).mono HB1.out.size))
  clear hd ht hpr
  go_wp2_with fail
  refine (up_any HD6.out).mono ?_
  rintro e w7 ⟨rfl, hd, ht⟩
  have HD7 := Lib.hid hd
  have HB7 : Hid (Below w0.heap.size w0 w7) := Lib.hid (HB6.out.trans ((HD6.out.low ht).mono HB1.out.size))
  clear hd ht
  go_wp2_with fail
  refine (read_any 1 HD7.out (by simp)).mono ?_
  rintro e w8 ⟨eh, rfl, he, hb⟩
  rw [show mayC false ([zp, pr] : List Pg).length 1 = 0 from rfl] at he ⊢
  rw [if_pos rfl, show readP [zp, pr] [] 1 = pr from rfl]
  obtain rfl : eh = .nilIface := ErrC.zero he
  have HB8 : Hid (Below w0.heap.size w0 w8) := Lib.hid (HB7.out.trans (hb.mono HB7.out.size))
  clear he hb
  go_wp2_with (first | ((with_reducible refine at_al 36 ?_); refine al_pg rfl rfl ?_) | ((with_reducible refine at_st 36 (.tmp 14) (.tmp 42) ?_); refine st_new rfl _ _ rfl _ _ _ rfl rfl pr ?_ rfl ?_ ?_; exact HPL.out; exact zsz))
  have hb9 := HB8.out.alloc HB8.out.size (.cells (pv pr).toArray 36)
  have hp9 := range_new w8 pr 36
  obtain ⟨w9, hw9⟩ : ∃ q, q = w8.alloc (.cells (pv pr).toArray 36) := ⟨_, rfl⟩
  rw [← hw9] at hb9 hp9 ⊢
  have HB9 := Lib.hid hb9
  have HP9 := Lib.hid hp9
  have HR9 := Lib.hid ((Touch.of_below (S := fun _ => False) HB9.out).range HX1.out (fun h => h))
  have HS9 := Lib.hid ((Touch.of_below (S := fun _ => False) HB9.out).range HX0.out (fun h => h))
  obtain ⟨Pb, hPb⟩ : ∃ q, q = w8.heap.size := ⟨_, rfl⟩
  rw [← hPb] at HP9 ⊢
  clear hw9 hb9 hp9 hPb
  refine (Num_nil w9).mono ?_
  rintro e _ ⟨rfl, rfl⟩
  go_wp2_with fail
  refine (Num_nil w9).mono ?_
  rintro e _ ⟨rfl, rfl⟩
  go_wp2_with fail
  refine (Num_nil w9).mono ?_
  rintro e _ ⟨rfl, rfl⟩
  go_wp2_with fail
  refine (Num_nil w9).mono ?_
  rintro e _ ⟨rfl, rfl⟩
  go_wp2_with fail
  refine (Num_nil w9).mono ?_
  rintro e _ ⟨rfl, rfl⟩
  have hlast : Hid (Below w.heap.size w w9) := Lib.hid (HB0.out.trans (HB9.out.mono HB0.out.size))
  by_cases hm : mask % 2 = 1
  · have hmb : (mask % 2 == 1) = true := by simpa using hm
    rw [bitB_zero mask hm0 hm1, if_pos hmb] at HPR
    obtain rfl := HPR.out
    have hbq := beq_pg pr
    clear hm
    go_wp2_with (first | ((with_reducible refine at_ld 36 (.tmp 14) ?_); refine ld_pg rfl _ rfl Pb (0) rfl pr ?_ ?_ ?_; exact HPL.out; exact HP9.out) | ((with_reducible refine at_ld 36 (.tmp 5) ?_); refine ld_pg rfl _ rfl X1 (0) rfl pr ?_ ?_ ?_; exact HPL.out; exact HR9.out) | ((with_reducible refine at_bin .eql 36 (.tmp 70) (.tmp 71) ?_); refine eqw_pg (by first | rfl | go_simp) (.tmp 70) (.tmp 71) rfl pr pr ?_ ?_ ?_ ?_ ?_; rfl; rfl; exact HPL.out; exact HPL.out))
    go_ret
    exact ⟨rfl, hlast.out⟩
  · have hmb : (mask % 2 == 1) = false := by simpa using hm
    have hmn : ¬ (mask % 2 == 1) = true := by simpa using hm
    rw [bitB_zero mask hm0 hm1, if_neg hmn] at HPR
    clear hm hmn
    have HK : Hid (cutP (tn : Int) = tn % 128) := Lib.hid (by unfold cutP; omega)
    rw [HK.out] at HPR
    have hk128 : tn % 128 ≤ 128 := by omega
    go_wp2_with fail
    generalize hkk : tn % 128 = kk at HPR hk128
    have hkz : (tn : Int) % 128 = (kk : Int) := by omega
    try rw [hkz]
    clear hkk hkz HK hmb
    go_loopg [17] 128 (fun gg s17 wr => ∃ j : Nat, j ≤ 128 ∧ 128 - j ≤ gg ∧ s17 = .int .i64 j ∧ Hid (Below w9.heap.size w9 wr))
    case atStart => exact ⟨0, by omega, by omega, rfl, Lib.hid (Below.refl _ _)⟩
    case round =>
      obtain ⟨j, hj, hg, rfl, HI⟩ := hrel
      by_cases hlt : j < 128
      · have hltz : (j : Int) < 128 := by omega
        have hkeep := Touch.of_below (S := fun _ => False) HI.out
        have cP := cell_pg (hkeep.range HP9.out (fun h => h)) j (by rw [HPL.out]; exact hlt)
        by_cases hjk : j < kk
        · have hjkz : (j : Int) < (kk : Int) := by omega
          have hjkg : ¬ (kk : Int) ≤ (j : Int) := by omega
          have cN := cell_pg (hkeep.range HR9.out (fun h => h)) j (by rw [HN.out]; exact hlt)
          rw [HPR.out, mix_lt HN.out hjk hk128] at cP
          generalize (now.getD j 0).toNat = u at cP cN
          clear hkeep
          go_upto_region 18 with fail
          go_quiet (fail)
          go_wp2_with fail
          go_roundg (128 - (j + 1))
          case measure => omega
          case rel => exact ⟨j + 1, by omega, by omega, by go_num, Lib.hid (HI.out.trans ⟨rfl, rfl, rfl, Nat.le_refl _, fun _ _ => rfl⟩)⟩
        · have hjkz : ¬ (j : Int) < (kk : Int) := by omega
          have hjkg : (kk : Int) ≤ (j : Int) := by omega
          have cN := cell_pg (hkeep.range HS9.out (fun h => h)) j (by rw [HW.out]; exact hlt)
          rw [HPR.out, mix_ge HN.out (by omega) hk128] at cP
          generalize (was.getD j 0).toNat = u at cP cN
          clear hkeep
          go_upto_region 18 with fail
          go_quiet (fail)
          go_wp2_with fail
          go_roundg (128 - (j + 1))
          case measure => omega
          case rel => exact ⟨j + 1, by omega, by omega, by go_num, Lib.hid (HI.out.trans ⟨rfl, rfl, rfl, Nat.le_refl _, fun _ _ => rfl⟩)⟩
      · have hltb : ¬ (j : Int) < 128 := by omega
        go_wp2_with fail
        go_ret
        exact ⟨rfl, hlast.out.trans (HI.out.mono hlast.out.size)⟩
theorem torn_walk (was now : Pg) (mask torn : Int) (W : World) (hwas : was.length = 128) (hnow : now.length = 128) (wm : (Lit.int .u32 mask).wf = true) (wt : (Lit.int .u8 torn).wf = true) (tied : Tied W) :
    Calls Tryd.prog 7 #[.agg (pv was).toArray, .agg (pv now).toArray, .int .u32 mask, .int .u8 torn] W fun e w' => e = .returned (.bool true) ∧ Below W.heap.size W w' := by
  have h1 := wf_b32 wm
  have h2 := wf_b8 wt
  obtain ⟨tn, rfl⟩ : ∃ n : Nat, torn = (n : Int) := ⟨torn.toNat, by omega⟩
  exact torn_true W tied was now mask tn hwas hnow h1.1 (by omega) (by omega)
end Go.Proofs.YthleapofcoidoaaDoor
