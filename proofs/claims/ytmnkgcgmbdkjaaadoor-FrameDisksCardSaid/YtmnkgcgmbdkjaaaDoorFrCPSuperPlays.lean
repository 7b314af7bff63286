/- dynamolaw05: FrameTorn, FrameDisks: the walks. -/
import Derived.Test.YtmnkgcgmbdkjaaaDoorFrBPSuperPlays
namespace Go.Proofs.YtmnkgcgmbdkjaaaDoor
open Go.RowKit Go.Extern.Stop Go.Stop Go.Extern Go.Proofs.YtmnkgcgmbdkjaaaDoorW.PrintWords Go.Proofs.YtmnkgcgmbdkjaaaDoorW.PrintLast Go.Proofs.YtmnkgcgmbdkjaaaDoorW.PrintMore Go.Proofs.YtmnkgcgmbdkjaaaDoor.PSuperPlays
set_option linter.unusedVariables false
set_option linter.unusedSimpArgs false
theorem bitB_zero0 (k : Nat) : bitB 0 k = false := by unfold bitB; rw [Int.zero_ediv]; decide
theorem torn_firm0 (torn : Int) (was now : Pg) : crashP 0 torn [zp, was] [(1, now)] = [zp, mix (cutP torn) now was] := by
  unfold crashP
  show (crashTo 0 [zp, was] [(1, now)] (cutP torn) (0 + 1)).1 = _
  rw [crashTo_step _ _ _ _ 0 (by simp), if_neg (by rw [bitB_zero0]; decide)]
  rfl
theorem mix_drop (c : Nat) (p q : Pg) (hp : p.length = 128) (hq : q.length = 128) (n : Nat) (hc : c ≤ n) (hn : n ≤ 128) : (mix c p q).drop n = q.drop n := by
  unfold mix
  have hl : (p.take c).length = c := by rw [List.length_take]; omega
  rw [List.drop_append, List.drop_of_length_le (by omega), hl, List.nil_append, List.drop_drop]
  congr 1; omega
theorem data_of_drop {p q : Pg} (hp : p.length = 128) (hq : q.length = 128) (h : p.drop 4 = q.drop 4) : dataP p = dataP q := by
  have h5 : ∀ j, p[4 + j]? = q[4 + j]? := fun j => by rw [← List.getElem?_drop, ← List.getElem?_drop, h]
  have e : sizeP p = sizeP q := by
    unfold sizeP
    rw [List.getD_eq_getElem?_getD, List.getD_eq_getElem?_getD, show (5 : Nat) = 4 + 1 from rfl, h5]
  unfold dataP
  rw [e, show (6 : Nat) = 4 + 2 from rfl, ← List.drop_drop, ← List.drop_drop, h]
theorem rdC_cases (p : Pg) : rdC p = 0 ∨ rdC p = 2 ∨ rdC p = 3 := by
  unfold rdC
  split
  · exact .inr (.inr rfl)
  · split
    · exact .inr (.inl rfl)
    · exact .inl rfl
theorem ldC_cases (p : Pg) (k : Int) : ldC p k = 0 ∨ ldC p k = 2 ∨ ldC p k = 3 := by
  unfold ldC
  rcases rdC_cases p with h | h | h
  · rw [if_neg (by rw [h]; decide)]; split
    · exact .inr (.inl rfl)
    · exact .inl rfl
  · rw [if_pos (by rw [h]; decide), h]; exact .inr (.inl rfl)
  · rw [if_pos (by rw [h]; decide), h]; exact .inr (.inr rfl)
theorem torn_plain (a b : ByteArray) (n : Nat) (ha : a.size ≤ 120) (hb : b.size ≤ 120) : ∃ (c : Int) (s : ByteArray), ldD [zp, mix (cutP (n : Int)) (framP 7 b) (framP 7 a)] [] false 1 7 = c ∧ ldS [zp, mix (cutP (n : Int)) (framP 7 b) (framP 7 a)] [] false 1 7 = s ∧ (c = 3 ∨ c = 2 ∨ (c = 0 ∧ (4 < n % 128 ∨ s = a))) := by
  refine ⟨_, _, rfl, rfl, ?_⟩
  obtain ⟨pr, hpr⟩ : ∃ q, q = mix (cutP (n : Int)) (framP 7 b) (framP 7 a) := ⟨_, rfl⟩
  rw [← hpr]
  have e1 : ldD [zp, pr] [] false 1 7 = ldC pr 7 := by unfold ldD; rw [show mayC false ([zp, pr] : List Pg).length 1 = 0 from rfl]; rfl
  rw [e1]
  rcases ldC_cases pr 7 with h | h | h
  · refine .inr (.inr ⟨h, ?_⟩)
    by_cases hn : 4 < n % 128
    · exact .inl hn
    · refine .inr ?_
      have e2 : ldS [zp, pr] [] false 1 7 = dataP pr := by unfold ldS; rw [e1, if_pos h]; rfl
      have la := framP_length 7 a (by omega)
      have lb := framP_length 7 b (by omega)
      have hc : cutP (n : Int) = n % 128 := by unfold cutP; omega
      rw [e2, data_of_drop (q := framP 7 a) (by rw [hpr]; exact mix_length (by omega) lb la) la (by rw [hpr]; exact mix_drop _ _ _ lb la 4 (by omega) (by omega))]
      exact framP_data 7 a ha
  · exact .inr (.inl h)
  · exact .inl h
set_option maxHeartbeats 4000000 in
set_option maxRecDepth 100000 in
theorem ftorn_a (a b : ByteArray) (n : Nat) (h : 120 < a.size) (w : World) (tied : Tied w) : Calls Tryd.prog 8 #[.string a, .string b, .int .u8 (n : Int)] w fun e w' => e = .returned (.bool true) ∧ Below w.heap.size w w' := by
  have hd : decide (120 < (a.size : Int)) = true := by simp; omega
  clear h
  have HM0 := Lib.hid (Mv.refl No w)
  have T0 := Lib.hid (Stays.tied tied)
  have WI0 := Lib.hid (Wi.no w)
  clear tied
  go_enter Tryd.func8, Tryd.ntmps8
  go_wp2_with fail
  refine (awake5 _ T0.out.now).mono ?_
  rintro e w1 ⟨rfl, hb⟩
  have hbm : Below w.heap.size w w1 := hb
  clear hb
  have hm : Mv No No w w1 := Mv.of_below hbm
  have T_1 := Lib.hid (T0.out.step hm)
  clear T0
  have HM_1 := Lib.hid (HM0.out.trans hm)
  clear HM0
  have WI_1 := Lib.hid (WI0.out.mono hm.size)
  clear WI0
  clear hm
  clear hbm
  go_wp2_with fail
  refine (awake5 _ T_1.out.now).mono ?_
  rintro e w2 ⟨rfl, hb⟩
  have hbm : Below w1.heap.size w1 w2 := hb
  clear hb
  have hm : Mv No No w1 w2 := Mv.of_below hbm
  have T_2 := Lib.hid (T_1.out.step hm)
  clear T_1
  have HM_2 := Lib.hid (HM_1.out.trans hm)
  clear HM_1
  have WI_2 := Lib.hid (WI_1.out.mono hm.size)
  clear WI_1
  clear hm
  clear hbm
  go_wp2_with fail
  go_ret
  exact ⟨rfl, HM_2.out.below⟩
set_option maxHeartbeats 4000000 in
set_option maxRecDepth 100000 in
theorem ftorn_b (a b : ByteArray) (n : Nat) (h : a.size ≤ 120) (h2 : 120 < b.size) (w : World) (tied : Tied w) : Calls Tryd.prog 8 #[.string a, .string b, .int .u8 (n : Int)] w fun e w' => e = .returned (.bool true) ∧ Below w.heap.size w w' := by
  have hd : decide (120 < (a.size : Int)) = false := by simp; omega
  have hd2 : decide (120 < (b.size : Int)) = true := by simp; omega
  clear h h2
  have HM0 := Lib.hid (Mv.refl No w)
  have T0 := Lib.hid (Stays.tied tied)
  have WI0 := Lib.hid (Wi.no w)
  clear tied
  go_enter Tryd.func8, Tryd.ntmps8
  go_wp2_with fail
  refine (awake5 _ T0.out.now).mono ?_
  rintro e w1 ⟨rfl, hb⟩
  have hbm : Below w.heap.size w w1 := hb
  clear hb
  have hm : Mv No No w w1 := Mv.of_below hbm
  have T_1 := Lib.hid (T0.out.step hm)
  clear T0
  have HM_1 := Lib.hid (HM0.out.trans hm)
  clear HM0
  have WI_1 := Lib.hid (WI0.out.mono hm.size)
  clear WI0
  clear hm
  clear hbm
  go_wp2_with fail
  refine (awake5 _ T_1.out.now).mono ?_
  rintro e w2 ⟨rfl, hb⟩
  have hbm : Below w1.heap.size w1 w2 := hb
  clear hb
  have hm : Mv No No w1 w2 := Mv.of_below hbm
  have T_2 := Lib.hid (T_1.out.step hm)
  clear T_1
  have HM_2 := Lib.hid (HM_1.out.trans hm)
  clear HM_1
  have WI_2 := Lib.hid (WI_1.out.mono hm.size)
  clear WI_1
  clear hm
  clear hbm
  go_wp2_with fail
  go_ret
  exact ⟨rfl, HM_2.out.below⟩
set_option maxHeartbeats 4000000 in
set_option maxRecDepth 100000 in
theorem ftorn_ok (a b : ByteArray) (n : Nat) (hn : n < 256) (h : a.size ≤ 120) (h2 : b.size ≤ 120) (w : World) (tied : Tied w) : Calls Tryd.prog 8 #[.string a, .string b, .int .u8 (n : Int)] w fun e w' => e = .returned (.bool true) ∧ Below w.heap.size w w' := by
  have hd : decide (120 < (a.size : Int)) = false := by simp; omega
  have hd2 : decide (120 < (b.size : Int)) = false := by simp; omega
  have HFA := Lib.hid (frC_zero.2 ⟨⟨by omega, by omega⟩, h⟩ : frC 7 a = 0)
  have HFB := Lib.hid (frC_zero.2 ⟨⟨by omega, by omega⟩, h2⟩ : frC 7 b = 0)
  obtain ⟨c, s, hD, hS, hor⟩ := torn_plain a b n h h2
  have HDD := Lib.hid hD
  have HSS := Lib.hid hS
  have HOR := Lib.hid hor
  clear h h2 hD hS hor
  have HM0 := Lib.hid (Mv.refl No w)
  have T0 := Lib.hid (Stays.tied tied)
  have WI0 := Lib.hid (Wi.no w)
  clear tied
  go_enter Tryd.func8, Tryd.ntmps8
  go_wp2_with fail
  refine (awake5 _ T0.out.now).mono ?_
  rintro e w1 ⟨rfl, hb⟩
  have hbm : Below w.heap.size w w1 := hb
  clear hb
  have hm : Mv No No w w1 := Mv.of_below hbm
  have T_1 := Lib.hid (T0.out.step hm)
  clear T0
  have HM_1 := Lib.hid (HM0.out.trans hm)
  clear HM0
  have WI_1 := Lib.hid (WI0.out.mono hm.size)
  clear WI0
  clear hm
  clear hbm
  go_wp2_with fail
  refine (new_m 2 _ (by decide) (by decide)).mono ?_
  rintro e w2 ⟨D, S1, rfl, hd, hb, hm⟩
  clear hb
  have T_2 := Lib.hid (T_1.out.step hm)
  clear T_1
  have HM_2 := Lib.hid (HM_1.out.trans hm)
  clear HM_1
  have WI_2 := Lib.hid (hd.wi)
  clear WI_1
  have HD_2 := Lib.hid (hd)
  clear hm
  clear hd
  go_wp2_with fail
  refine (store_ok 1 7 a HFA.out HD_2.out (by simp) (by simp [mayC])).mono ?_
  rintro e w3 ⟨S2, rfl, hd, hm⟩
  have T_3 := Lib.hid (T_2.out.step hm)
  clear T_2
  have HM_3 := Lib.hid (HM_2.out.trans hm)
  clear HM_2
  have WI_3 := Lib.hid (hd.wi)
  clear WI_2
  have HD_3 := Lib.hid (hd)
  clear HD_2
  clear hm
  clear hd
  go_wp2_with fail
  refine (flush_ok HD_3.out (by simp)).mono ?_
  rintro e w4 ⟨S3, rfl, hd, hm⟩
  rw [show flushP (List.replicate 2 zp) ([] ++ [(1, framP 7 a)]) = [zp, framP 7 a] from rfl] at hd
  have T_4 := Lib.hid (T_3.out.step hm)
  clear T_3
  have HM_4 := Lib.hid (HM_3.out.trans hm)
  clear HM_3
  have WI_4 := Lib.hid (hd.wi)
  clear WI_3
  have HD_4 := Lib.hid (hd)
  clear HD_3
  clear hm
  clear hd
  go_wp2_with fail
  refine (store_ok 1 7 b HFB.out HD_4.out (by simp) (by simp [mayC])).mono ?_
  rintro e w5 ⟨S4, rfl, hd, hm⟩
  have T_5 := Lib.hid (T_4.out.step hm)
  clear T_4
  have HM_5 := Lib.hid (HM_4.out.trans hm)
  clear HM_4
  have WI_5 := Lib.hid (hd.wi)
  clear WI_4
  have HD_5 := Lib.hid (hd)
  clear HD_4
  clear hm
  clear hd
  go_wp2_with fail
  refine (crash_m 0 n HD_5.out (by simp) (by omega) (by omega) (by omega)).mono ?_
  rintro e w6 ⟨S5, rfl, hd, hm⟩
  rw [List.nil_append, torn_firm0] at hd
  have T_6 := Lib.hid (T_5.out.step hm)
  clear T_5
  have HM_6 := Lib.hid (HM_5.out.trans hm)
  clear HM_5
  have WI_6 := Lib.hid (hd.wi)
  clear WI_5
  have HD_6 := Lib.hid (hd)
  clear HD_5
  clear hm
  clear hd
  go_wp2_with fail
  refine (up_m HD_6.out).mono ?_
  rintro e w7 ⟨rfl, hd, hm⟩
  have T_7 := Lib.hid (T_6.out.step hm)
  clear T_6
  have HM_7 := Lib.hid (HM_6.out.trans hm)
  clear HM_6
  have WI_7 := Lib.hid (hd.wi)
  clear WI_6
  have HD_7 := Lib.hid (hd)
  clear HD_6
  clear hm
  clear hd
  go_wp2_with fail
  have HLD := Lib.hid (load_m 1 7 HD_7.out (by simp))
  rw [HDD.out, HSS.out] at HLD
  refine (HLD.out).mono ?_
  rintro e w8 ⟨v1, rfl, he, hb⟩
  have hbm : Below w7.heap.size w7 w8 := hb
  clear hb
  have hm : Mv S5 S5 w7 w8 := Mv.of_below hbm
  have hst := Stays.err he WI_7.out
  clear he
  have T_8 := Lib.hid (T_7.out.step hm)
  clear T_7
  have HM_8 := Lib.hid (HM_7.out.trans hm)
  clear HM_7
  have WI_8 := Lib.hid (WI_7.out.mono hm.size)
  clear WI_7
  have HD_8 := Lib.hid (HD_7.out.under hbm)
  clear HD_7
  clear hm
  clear hbm
  have E1_9 := Lib.hid (hst)
  clear hst
  go_wp2_with fail
  refine (Num_nil w8).mono ?_
  rintro e _ ⟨rfl, rfl⟩
  go_wp2_with fail
  refine (Num_nil w8).mono ?_
  rintro e _ ⟨rfl, rfl⟩
  go_wp2_with fail
  refine (Num_nil w8).mono ?_
  rintro e _ ⟨rfl, rfl⟩
  go_wp2_with fail
  refine (Num_nil w8).mono ?_
  rintro e _ ⟨rfl, rfl⟩
  have hnz : (n : Int) % 128 = ((n % 128 : Nat) : Int) := by omega
  have hnt : (n : Int).tmod 128 = ((n % 128 : Nat) : Int) := by rw [Int.tmod_eq_emod_of_nonneg (by omega)]; omega
  rcases HOR.out with rfl | rfl | ⟨rfl, hor⟩
  · go_wp2_with fail
    refine (Num_c _ v1 3 E1_9.out.now T_8.out.now).mono ?_
    rintro e w9 ⟨rfl, hb⟩
    have hbm : Below w8.heap.size w8 w9 := hb
    clear hb
    have hm : Mv S5 S5 w8 w9 := Mv.of_below hbm
    have T_10 := Lib.hid (T_8.out.step hm)
    clear T_8
    have E1_10 := Lib.hid (E1_9.out.step hm)
    clear E1_9
    have HM_10 := Lib.hid (HM_8.out.trans hm)
    clear HM_8
    have WI_10 := Lib.hid (WI_8.out.mono hm.size)
    clear WI_8
    have HD_10 := Lib.hid (HD_8.out.under hbm)
    clear HD_8
    clear hm
    clear hbm
    go_wp2_with fail
    go_ret
    exact ⟨rfl, HM_10.out.below⟩
  · go_wp2_with fail
    refine (Num_c _ v1 2 E1_9.out.now T_8.out.now).mono ?_
    rintro e w9 ⟨rfl, hb⟩
    have hbm : Below w8.heap.size w8 w9 := hb
    clear hb
    have hm : Mv S5 S5 w8 w9 := Mv.of_below hbm
    have T_10 := Lib.hid (T_8.out.step hm)
    clear T_8
    have E1_10 := Lib.hid (E1_9.out.step hm)
    clear E1_9
    have HM_10 := Lib.hid (HM_8.out.trans hm)
    clear HM_8
    have WI_10 := Lib.hid (WI_8.out.mono hm.size)
    clear WI_8
    have HD_10 := Lib.hid (HD_8.out.under hbm)
    clear HD_8
    clear hm
    clear hbm
    go_wp2_with fail
    refine (Num_c _ v1 2 E1_10.out.now T_10.out.now).mono ?_
    rintro e w10 ⟨rfl, hb⟩
    have hbm : Below w9.heap.size w9 w10 := hb
    clear hb
    have hm : Mv S5 S5 w9 w10 := Mv.of_below hbm
    have T_11 := Lib.hid (T_10.out.step hm)
    clear T_10
    have E1_11 := Lib.hid (E1_10.out.step hm)
    clear E1_10
    have HM_11 := Lib.hid (HM_10.out.trans hm)
    clear HM_10
    have WI_11 := Lib.hid (WI_10.out.mono hm.size)
    clear WI_10
    have HD_11 := Lib.hid (HD_10.out.under hbm)
    clear HD_10
    clear hm
    clear hbm
    go_wp2_with fail
    go_ret
    exact ⟨rfl, HM_11.out.below⟩
  · go_wp2_with fail
    refine (Num_c _ v1 0 E1_9.out.now T_8.out.now).mono ?_
    rintro e w9 ⟨rfl, hb⟩
    have hbm : Below w8.heap.size w8 w9 := hb
    clear hb
    have hm : Mv S5 S5 w8 w9 := Mv.of_below hbm
    have T_10 := Lib.hid (T_8.out.step hm)
    clear T_8
    have E1_10 := Lib.hid (E1_9.out.step hm)
    clear E1_9
    have HM_10 := Lib.hid (HM_8.out.trans hm)
    clear HM_8
    have WI_10 := Lib.hid (WI_8.out.mono hm.size)
    clear WI_8
    have HD_10 := Lib.hid (HD_8.out.under hbm)
    clear HD_8
    clear hm
    clear hbm
    go_wp2_with fail
    refine (Num_c _ v1 0 E1_10.out.now T_10.out.now).mono ?_
    rintro e w10 ⟨rfl, hb⟩
    have hbm : Below w9.heap.size w9 w10 := hb
    clear hb
    have hm : Mv S5 S5 w9 w10 := Mv.of_below hbm
    have T_11 := Lib.hid (T_10.out.step hm)
    clear T_10
    have E1_11 := Lib.hid (E1_10.out.step hm)
    clear E1_10
    have HM_11 := Lib.hid (HM_10.out.trans hm)
    clear HM_10
    have WI_11 := Lib.hid (WI_10.out.mono hm.size)
    clear WI_10
    have HD_11 := Lib.hid (HD_10.out.under hbm)
    clear HD_10
    clear hm
    clear hbm
    go_wp2_with fail
    refine (Num_c _ v1 0 E1_11.out.now T_11.out.now).mono ?_
    rintro e w11 ⟨rfl, hb⟩
    have hbm : Below w10.heap.size w10 w11 := hb
    clear hb
    have hm : Mv S5 S5 w10 w11 := Mv.of_below hbm
    have T_12 := Lib.hid (T_11.out.step hm)
    clear T_11
    have E1_12 := Lib.hid (E1_11.out.step hm)
    clear E1_11
    have HM_12 := Lib.hid (HM_11.out.trans hm)
    clear HM_11
    have WI_12 := Lib.hid (WI_11.out.mono hm.size)
    clear WI_11
    have HD_12 := Lib.hid (HD_11.out.under hbm)
    clear HD_11
    clear hm
    clear hbm
    generalize n % 128 = nn at hnz hnt hor
    by_cases hb : 4 < nn
    · have hb2 : decide (4 < (nn : Int)) = true := by simp; omega
      clear hor hb
      go_wp2_with fail
      go_ret
      exact ⟨rfl, HM_12.out.below⟩
    · have hb2 : decide (4 < (nn : Int)) = false := by simp; omega
      have hsa := str_eq (show s = a by rcases hor with h | h; exact absurd h hb; exact h)
      clear hor hb
      go_wp2_with fail
      go_ret
      exact ⟨rfl, HM_12.out.below⟩
theorem ftorn_walk (a b : ByteArray) (t : Int) (w : World) (ha : a.size ≤ 140737488351232) (hb : b.size ≤ 140737488351232) (wt : (Lit.int .u8 t).wf = true) (tied : Tied w) : Calls Tryd.prog 8 #[.string a, .string b, .int .u8 t] w fun e w' => e = .returned (.bool true) ∧ Below w.heap.size w w' := by
  have h := wf_b8 wt
  obtain ⟨n, rfl⟩ : ∃ n : Nat, t = (n : Int) := ⟨t.toNat, by omega⟩
  by_cases h1 : 120 < a.size
  · exact ftorn_a a b n h1 w tied
  by_cases h2 : 120 < b.size
  · exact ftorn_b a b n (by omega) h2 w tied
  · exact ftorn_ok a b n (by omega) (by omega) (by omega) w tied
end Go.Proofs.YtmnkgcgmbdkjaaaDoor
