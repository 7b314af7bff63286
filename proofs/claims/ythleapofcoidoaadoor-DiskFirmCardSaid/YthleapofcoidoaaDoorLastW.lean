/- dynamolaw04.DiskLast: the walk. -/
import Derived.Test.YthleapofcoidoaaDoorTwiceW
namespace Go.Proofs.YthleapofcoidoaaDoor
open Go.RowKit Go.Extern.Stop Go.Stop Go.Extern
set_option linter.unusedVariables false
set_option linter.unusedSimpArgs false

theorem readP_snoc (firm : List Pg) (L : Ls) (x : Int × Pg) (i : Int) : readP firm (L ++ [x]) i = if x.1 = i then x.2 else readP firm L i := by
  unfold readP; rw [List.foldl_append]; rfl
theorem bitB_all (k : Nat) : bitB 4294967295 k = true := by
  have h : ∀ m, m < 32 → (bits BinOp.and IntKind.u32 (4294967295 / 2 ^ m) 1 == 1) = true := by decide +kernel
  exact h _ (Nat.mod_lt _ (by omega))
theorem crash_all (firm : List Pg) (L : Ls) (cut : Nat) : ∀ k, k ≤ L.length → crashTo 4294967295 firm L cut k = (flushTo firm L k, cut)
  | 0, _ => rfl
  | k + 1, h => by rw [crashTo_step _ _ _ _ _ h, if_pos (bitB_all k), crash_all firm L cut k (by omega), flushTo_step _ _ _ h]
theorem crashP_all (torn : Int) (firm : List Pg) (L : Ls) : crashP 4294967295 torn firm L = flushP firm L := by
  unfold crashP; rw [crash_all _ _ _ _ (Nat.le_refl _)]; unfold flushTo flushP; rw [List.take_length]
theorem flush_read : ∀ (L : Ls) (firm : List Pg) (i : Nat), i < firm.length → (∀ x ∈ L, 0 ≤ x.1 ∧ x.1 < firm.length) → (flushP firm L).getD i zp = readP firm L (i : Int)
  | [], firm, i, _, _ => rfl
  | x :: L, firm, i, hi, hx => by
    have hl : (flushStep firm x).length = firm.length := by unfold flushStep; rw [List.length_set]
    have ih := flush_read L (flushStep firm x) i (by rw [hl]; exact hi) (fun y hy => by rw [hl]; exact hx y (List.mem_cons_of_mem _ hy))
    show (flushP (flushStep firm x) L).getD i zp = L.foldl (readStep i) (readStep i (firm.getD i zp) x)
    rw [ih]
    show L.foldl (readStep i) ((flushStep firm x).getD i zp) = _
    congr 1
    obtain ⟨h0, h1⟩ := hx x List.mem_cons_self
    unfold flushStep readStep
    by_cases h : x.1 = (i : Int)
    · rw [if_pos h, h, Int.toNat_natCast, List.getD_eq_getElem?_getD, List.getElem?_set_self hi]; rfl
    · rw [if_neg h, List.getD_eq_getElem?_getD, List.getElem?_set_ne (by omega), List.getD_eq_getElem?_getD]
/-- what holds at a round's head -/
structure LInv (w : World) (base D F : Nat) (X : Nat) (l : List ActP) (k : Nat) (v : Value) (wr : World) : Prop where
  b : Below w.heap.size w wr
  th : wr.there X 0 1024
  r : ∀ i, i < 8 → wr.rangeAt X (i * 128) (pv (readP (List.replicate 8 zp) (lsTo l k) (i : Int)))
  d : DiskIn wr base D F v (List.replicate 8 zp) (lsTo l k) false
  n : ∀ b, Its D F v b → b ≠ X
  x : X < wr.heap.size
theorem LInv.under {w wr w' : World} {base D F X k : Nat} {l : List ActP} {v : Value} (h : LInv w base D F X l k v wr) (hb : Below wr.heap.size wr w') : LInv w base D F X l k v w' :=
  have ht : Touch (fun _ => False) wr w' := Touch.of_below hb
  ⟨h.b.trans (hb.mono h.b.size), ht.there h.th (fun h => h), fun i hi => ht.range (h.r i hi) (fun h => h), h.d.under hb, h.n, Nat.lt_of_lt_of_le h.x ht.size⟩
theorem readL_len (l : List ActP) (k : Nat) (i : Int) (h : ∀ x ∈ lsTo l k, x.2.length = 128) : (readP (List.replicate 8 zp) (lsTo l k) i).length = 128 :=
  readP_len (fun p hp => by rw [List.eq_of_mem_replicate hp]; exact zp_length) h
/-- the round: written, and told to the array -/
theorem LInv.step {w w3 w4 : World} {base D F X k n : Nat} {l : List ActP} {v v' : Value} {p : Pg} (h : LInv w base D F X l k v w3) (hs : lsTo l (k + 1) = lsTo l k ++ [((n : Int), p)]) (hn : n < 8) (hX : w.heap.size ≤ X) (hbase : w.heap.size ≤ base)
    (hd : DiskIn w4 base D F v' (List.replicate 8 zp) (lsTo l k ++ [((n : Int), p)]) false) (hv : v'.ownBlock = v.ownBlock ∨ ∃ b, v'.ownBlock = some b ∧ w3.heap.size ≤ b) (ht : Touch (Its D F v) w3 w4) (hp : p.length = 128) :
    LInv w base D F X l (k + 1) v' (w4.drew.setCells X (n * 128) (pv p)) := by
  have hb4 : Below w.heap.size w w4 := h.b.trans ((h.d.low ht).mono hbase)
  have hnX : ∀ b, Its D F v' b → b ≠ X := fun b hb => by
    rcases hb with rfl | rfl | hb
    · exact h.n _ (.inl rfl)
    · exact h.n _ (.inr (.inl rfl))
    · rcases hv with e | ⟨c, e, hc⟩
      · exact h.n _ (.inr (.inr (e ▸ hb)))
      · rw [e] at hb
        have := Option.some.inj hb
        have := h.x
        omega
  have t0 : Touch (fun b => b = X) w4 w4.drew := Touch.of_below (Below.drew (Below.refl _ _))
  have t : Touch (fun b => b = X) w4 (w4.drew.setCells X (n * 128) (pv p)) := Touch.setCells t0 X (.inl rfl) (pv p) _ _ t0
  have th4 : w4.drew.there X 0 1024 := (World.there_drew _ _ _ _).2 (ht.there h.th (fun e => h.n _ e rfl))
  refine ⟨hb4.trans (t.below hb4.size (fun b e => by rw [e]; exact hX)), World.there_setCells th4 _ _ _, fun i hi => ?_, by rw [hs]; exact hd.keep t hnX, hnX, Nat.lt_of_lt_of_le h.x (Nat.le_trans ht.size t.size)⟩
  rw [hs, readP_snoc]
  by_cases e : i = n
  · subst e
    rw [if_pos rfl]
    refine World.rangeAt_setCells_same _ _ _ _ ?_
    have := there_sub (i := i * 128) (m := 128) th4 (by omega)
    rw [pv_length, hp]
    rwa [Nat.zero_add] at this
  · rw [if_neg (show ¬ ((n : Int) = (i : Int)) by omega)]
    have h1 := (World.rangeAt_drew _ _ _ _).2 (ht.range (h.r i hi) (fun e => h.n _ e rfl))
    exact World.rangeAt_setCells_apart h1 _ _ _ (.inr (by
      rw [pv_length, pv_length, hp, readL_len l k i (fun x hx => (h.d.pl x hx).1)]
      omega))
set_option maxHeartbeats 2000000 in
set_option maxRecDepth 100000 in
theorem last_go (l : List ActP) (A : Option Addr) (c : Nat) (w : World) (hT : Tied w) (hA : ActsAt w A l) (hl : l.length ≤ 60) :
    Calls Tryd.prog 4 #[.slice A l.length c] w fun e w' => e = .returned (.bool true) ∧ Below w.heap.size w w' := by
  have HT := Lib.hid hT
  have HA := Lib.hid hA
  have hlz : ¬ (60 : Int) < (l.length : Int) := by omega
  have hlzb : decide ((60 : Int) < (l.length : Int)) = false := by simpa using hlz
  clear hT hA
  go_enter Tryd.func4, Tryd.ntmps4
  go_wp2_with fail
  refine (awake_true _ HT.out).mono ?_
  rintro e w1 ⟨rfl, hb⟩
  have HB1 := Lib.hid hb
  clear hb
  go_wp2_with fail
  refine (new_ok 8 _ (by omega) (by omega)).mono ?_
  rintro e w6 ⟨D, F, rfl, hd, hb⟩
  have HD6 := Lib.hid hd
  have HB6 : Hid (Below w.heap.size w w6) := Lib.hid (HB1.out.trans (hb.mono HB1.out.size))
  clear hd hb
  go_wp2_with ((with_reducible refine at_al 37 ?_); refine al_pg8 rfl rfl ?_)
  have hb7 := (Below.refl w6.heap.size w6).alloc (Nat.le_refl _) (.cells (flatP z8).toArray 37)
  have hz8 : ∀ p ∈ z8, p.length = 128 := fun p hp => by rw [List.eq_of_mem_replicate hp]; exact zp_length
  have hth := there_new w6 (flatP z8).toArray 37 1024 (by rw [List.size_toArray, flatP_length _ hz8]; exact Nat.le_refl _)
  have hrn : (w6.alloc (.cells (flatP z8).toArray 37)).rangeAt w6.heap.size 0 (flatP z8) := fun j v hv => by
    rw [Nat.zero_add, cell_of_row _ _ j _ 37 (0, 0) (heap_alloc_last w6 _)]; simpa using hv
  have hsx : w6.heap.size < (w6.alloc (.cells (flatP z8).toArray 37)).heap.size := by simp
  obtain ⟨w7, hw7⟩ : ∃ q, q = w6.alloc (.cells (flatP z8).toArray 37) := ⟨_, rfl⟩
  rw [← hw7] at hb7 hth hrn hsx ⊢
  have H7 : Hid (LInv w w1.heap.size D F w6.heap.size l 0 (.slice none 0 0) w7) := Lib.hid
    ⟨HB6.out.trans (hb7.mono HB6.out.size), hth, fun i hi => by
        have := range_part hrn hz8 i hi
        have e : readP (List.replicate 8 zp) (lsTo l 0) (i : Int) = z8[i] := by
          show (List.replicate 8 zp).getD i zp = _
          rw [List.getD_eq_getElem?_getD]
          show (z8[i]?).getD zp = _
          rw [List.getElem?_eq_getElem hi]; rfl
        rw [e]; exact this, HD6.out.under hb7, fun k hk => by
      have h1 := HD6.out.lD
      have h2 := HD6.out.lF
      rcases hk with rfl | rfl | hk
      · omega
      · omega
      · simp [Value.ownBlock] at hk, hsx⟩
  have HXw : Hid (w.heap.size ≤ w6.heap.size) := Lib.hid HB6.out.size
  have HBs : Hid (w.heap.size ≤ w1.heap.size) := Lib.hid HB1.out.size
  clear hw7 hb7 hth hrn hz8 hsx
  obtain ⟨X, hX⟩ : ∃ q, q = w6.heap.size := ⟨_, rfl⟩
  rw [← hX] at H7 HXw
  try rw [← hX]
  clear hX
  go_wp2_with fail
  go_loopg [6] l.length (fun gg s6 wr => ∃ k : Nat, k ≤ l.length ∧ l.length - k ≤ gg ∧ s6 = .int .i64 k ∧ ∃ v, Hid (LInv w w1.heap.size D F X l k v wr))
  case atStart => exact ⟨0, Nat.zero_le _, by omega, rfl, _, H7⟩
  case round =>
    obtain ⟨k, hk, hg, rfl, v, HI⟩ := hrel
    by_cases hlt : k < l.length
    · have hltz : (k : Int) < (l.length : Int) := by omega
      obtain ⟨ad, rfl, hat⟩ := HA.out.2.2 (by omega)
      have HAw := Lib.hid (hat k hlt)
      have HOk := Lib.hid (HA.out.1 _ (List.getElem_mem hlt))
      have HSt := Lib.hid (lsTo_step l k hlt)
      have hls := lsTo_length l k
      obtain ⟨x, hx⟩ : ∃ q, q = l[k] := ⟨_, rfl⟩
      rw [← hx] at HAw HOk HSt
      have cA := (HAw.out.under HI.out.b).a
      clear hat hx
      have h7 := and7 x.at_
      obtain ⟨n, hn⟩ : ∃ n : Nat, bits BinOp.and IntKind.i64 x.at_ 7 = (n : Int) := ⟨(bits BinOp.and IntKind.i64 x.at_ 7).toNat, by omega⟩
      have hn8 : n < 8 := by omega
      have hnz : (n : Int) < 8 := by omega
      rw [hn] at HSt
      clear h7
      go_upto_region 8 with fail
      refine wp_region_still_tail 12 (by kernel_rfl) (by kernel_rfl) ?_
      simp only [List.take_succ_cons, List.take_zero, List.drop_succ_cons, List.drop_zero]
      iterate 11 still_step
      refine still_pg rfl _ rfl (ad.add (k * 132)).block ((ad.add (k * 132)).off + 2) rfl x.p HOk.out.p ?_ ?_
      · exact (World.rangeAt_drew _ _ _ _).2 (HAw.out.under HI.out.b).p
      refine wpStill_nil ?_
      have HId := Lib.hid (HI.out.under (Below.drew (Below.refl _ _)))
      go_wp2_with fail
      refine (write_any (n : Int) x.p HId.out.d (by omega) HOk.out.p).mono ?_
      rintro e w4 ⟨ev, rfl, he, hor⟩
      have hmay : mayC false (List.replicate 8 zp).length (n : Int) = 0 := by
        unfold mayC; rw [if_neg (by simp), if_pos (by simp; omega)]
      obtain ⟨v4, HD4, HV4, HT4⟩ : ∃ v4, Hid (DiskIn w4 w1.heap.size D F v4 (List.replicate 8 zp) (lsTo l k ++ [((n : Int), x.p)]) false) ∧ Hid (v4.ownBlock = v.ownBlock ∨ ∃ b, v4.ownBlock = some b ∧ wr.drew.heap.size ≤ b) ∧ Hid (Touch (Its D F v) wr.drew w4) := by
        rcases hor with ⟨h, _⟩ | ⟨_, v2, h1, h2, h3⟩
        · exact absurd hmay h
        · exact ⟨v2, Lib.hid h1, Lib.hid h2, Lib.hid h3⟩
      obtain rfl : ev = .nilIface := ErrC.zero (hmay ▸ he)
      have HB4 : Hid (Below w.heap.size w w4) := Lib.hid (HId.out.b.trans ((HId.out.d.low HT4.out).mono HBs.out))
      have H5 := Lib.hid (HId.out.step HSt.out hn8 HXw.out HBs.out HD4.out HV4.out HT4.out HOk.out.p)
      have HTn : Hid (w4.drew.there X (n * 128) 128) := Lib.hid (by
        have h0 : w4.drew.there X 0 1024 := (World.there_drew _ _ _ _).2 (HT4.out.there HId.out.th (fun e => HId.out.n _ e rfl))
        have := there_sub (i := n * 128) (m := 128) h0 (by omega)
        rwa [Nat.zero_add] at this)
      have HP4 := Lib.hid (HOk.out.p)
      have cA4 := (HAw.out.under HB4.out).a
      clear he hor hmay
      go_wp2_with fail
      refine (Num_nil w4).mono ?_
      rintro e _ ⟨rfl, rfl⟩
      go_upto_region 10 with fail
      refine wp_region_still_tail 12 (by kernel_rfl) (by kernel_rfl) ?_
      simp only [List.take_succ_cons, List.take_zero, List.drop_succ_cons, List.drop_zero]
      iterate 10 still_step
      refine still_pg rfl _ rfl (ad.add (k * 132)).block ((ad.add (k * 132)).off + 2) rfl x.p HOk.out.p ?_ ?_
      · exact (World.rangeAt_drew _ _ _ _).2 (HAw.out.under HB4.out).p
      still_step
      refine wpStill_nil ?_
      go_upto_region 11 with ((with_reducible refine at_st 36 (.tmp 56) (.tmp 55) ?_); refine st_pg rfl _ _ rfl X (n * 128) rfl x.p ?_ rfl ?_ ?_; exact HP4.out; exact HTn.out)
      obtain ⟨w5, hw5⟩ : ∃ q, q = w4.drew.setCells X (n * 128) (pv x.p) := ⟨_, rfl⟩
      rw [← hw5] at H5
      try rw [← hw5]
      try rw [show ({ w4 with drawn := w4.drawn + 1 } : World).setCells X (n * 128) (pv x.p) = w5 from hw5.symm]
      have cA5 := (HAw.out.under H5.out.b).a
      clear hw5 cA cA4
      have HRd := Lib.hid (read_any (n : Int) H5.out.d (by have := lsTo_length l (k + 1); omega))
      go_wp2_with fail
      refine HRd.out.mono ?_
      rintro e wc ⟨ev, rfl, he, hb⟩
      have hmay : mayC false (List.replicate 8 zp).length (n : Int) = 0 := by
        unfold mayC; rw [if_neg (by simp), if_pos (by simp; omega)]
      rw [hmay] at he ⊢
      rw [if_pos rfl, HSt.out, readP_snoc, if_pos rfl]
      obtain rfl : ev = .nilIface := ErrC.zero he
      have HIc := Lib.hid (H5.out.under hb)
      clear he hb hmay cA5
      show _
      dsimp only
      go_upto_region 12 with (first | ((with_reducible refine at_al 36 ?_); refine al_pg rfl rfl ?_) | ((with_reducible refine at_st 36 (.tmp 7) (.tmp 66) ?_); refine st_new rfl _ _ rfl _ _ _ rfl rfl x.p ?_ rfl ?_ ?_; exact HP4.out; exact zsz))
      have hbd := (Below.refl wc.heap.size wc).alloc (Nat.le_refl _) (.cells (pv x.p).toArray 36)
      have hpd := range_new wc x.p 36
      obtain ⟨wd, hwd⟩ : ∃ q, q = wc.alloc (.cells (pv x.p).toArray 36) := ⟨_, rfl⟩
      rw [← hwd] at hbd hpd ⊢
      have HIe := Lib.hid (HIc.out.under (Below.drew hbd))
      have HPd := Lib.hid ((World.rangeAt_drew _ _ _ _).2 hpd)
      have HAd := Lib.hid (HAw.out.under HIe.out.b).p
      clear hwd hbd hpd
      refine wp_region_still_lit (by kernel_rfl) (by kernel_rfl) ?_
      still_step
      still_call ((Num_nil _).mono fun e w' h => ⟨h.1, h.2.symm⟩)
      still_step
      still_step
      refine stillw_pg (by first | rfl | go_simp) _ rfl wc.heap.size 0 rfl x.p HP4.out HPd.out ?_
      still_step
      still_step
      still_step
      still_step
      refine stillw_pg (by first | rfl | go_simp) _ rfl (ad.add (k * 132)).block ((ad.add (k * 132)).off + 2) rfl x.p HP4.out HAd.out ?_
      refine stillw_ne (by first | rfl | go_simp) _ _ rfl x.p rfl rfl HP4.out ?_
      still_step
      refine wpStill_nil ?_
      go_wp2_with fail
      go_roundg (l.length - (k + 1))
      case measure => omega
      case rel => exact ⟨k + 1, by omega, by omega, by go_num, v4, HIe⟩
    · have hltb : ¬ (k : Int) < (l.length : Int) := by omega
      have hls := lsTo_length l k
      have hLL : (lsTo l k).length ≤ 60 := by omega
      have HPg : Hid (∀ i : Nat, (readP (List.replicate 8 zp) (lsTo l k) (i : Int)).length = 128) := Lib.hid (fun i => readL_len l k i (fun x hx => (HI.out.d.pl x hx).1))
      have HFr : Hid (∀ i : Nat, i < 8 → (flushP (List.replicate 8 zp) (lsTo l k)).getD i zp = readP (List.replicate 8 zp) (lsTo l k) (i : Int)) := Lib.hid (fun i hi => flush_read _ _ i (by simpa using hi) (fun x hx => (HI.out.d.pl x hx).2))
      have hfl : (flushP (List.replicate 8 zp) (lsTo l k)).length = 8 := by rw [flushP_length]; simp
      go_wp2_with fail
      refine (crash_any 4294967295 5 HI.out.d (by omega) (by omega) (by omega) (by omega)).mono ?_
      rintro e w9 ⟨rfl, hd, ht⟩
      rw [crashP_all] at hd
      obtain ⟨firm, hfirm⟩ : ∃ q, q = flushP (List.replicate 8 zp) (lsTo l k) := ⟨_, rfl⟩
      rw [← hfirm] at hd HFr hfl
      have HD9 := Lib.hid hd
      have HT9 := Lib.hid ht
      have HB9 : Hid (Below w.heap.size w w9) := Lib.hid (HI.out.b.trans ((HI.out.d.low ht).mono HBs.out))
      clear hd ht hfirm hls hLL
      go_wp2_with fail
      refine (up_any HD9.out).mono ?_
      rintro e wa ⟨rfl, hd, ht⟩
      have HDa := Lib.hid hd
      have HBa : Hid (Below w.heap.size w wa) := Lib.hid (HB9.out.trans ((HD9.out.low ht).mono HBs.out))
      have HRa : Hid (∀ i, i < 8 → wa.rangeAt X (i * 128) (pv (readP (List.replicate 8 zp) (lsTo l k) (i : Int)))) := Lib.hid (fun i hi => ht.range (HT9.out.range (HI.out.r i hi) (fun h => HI.out.n _ h rfl)) (fun h => HI.out.n X (by
        rcases h with h | h | h
        · exact .inl h
        · exact .inr (.inl h)
        · simp [Value.ownBlock] at h) rfl))
      clear hd ht hltb hlt
      go_wp2_with fail
      go_loopg [9] 8 (fun gg s9 wb => ∃ j : Nat, j ≤ 8 ∧ 8 - j ≤ gg ∧ s9 = .int .i64 j ∧ Hid (Below wa.heap.size wa wb))
      case atStart => exact ⟨0, by omega, by omega, rfl, Lib.hid (Below.refl _ _)⟩
      case round =>
        obtain ⟨j, hj, hg, rfl, HK⟩ := hrel
        by_cases hlt : j < 8
        · have hltz : (j : Int) < 8 := by omega
          have HDb := Lib.hid (HDa.out.under HK.out)
          go_wp2_with fail
          refine (read_any (j : Int) HDb.out (by simp)).mono ?_
          rintro e wc ⟨ev, rfl, he, hb⟩
          have hmay : mayC false firm.length (j : Int) = 0 := by unfold mayC; rw [if_neg (by simp), if_pos (by omega)]
          rw [hmay] at he ⊢
          rw [if_pos rfl, show readP firm [] (j : Int) = firm.getD j zp from rfl, HFr.out j hlt]
          obtain rfl : ev = .nilIface := ErrC.zero he
          have HKc := Lib.hid (HK.out.trans (hb.mono HK.out.size))
          have HPj := Lib.hid (HPg.out j)
          have HRj := Lib.hid (HRa.out j hlt)
          obtain ⟨pj, hpj⟩ : ∃ q, q = readP (List.replicate 8 zp) (lsTo l k) (j : Int) := ⟨_, rfl⟩
          rw [← hpj] at HPj HRj ⊢
          clear he hb hmay hpj
          go_upto_region 20 with (first | ((with_reducible refine at_al 36 ?_); refine al_pg rfl rfl ?_) | ((with_reducible refine at_st 36 (.tmp 10) (.tmp 92) ?_); refine st_new rfl _ _ rfl _ _ _ rfl rfl pj ?_ rfl ?_ ?_; exact HPj.out; exact zsz))
          have hbd := HKc.out.alloc HKc.out.size (.cells (pv pj).toArray 36)
          have hpd := range_new wc pj 36
          obtain ⟨wd, hwd⟩ : ∃ q, q = wc.alloc (.cells (pv pj).toArray 36) := ⟨_, rfl⟩
          rw [← hwd] at hbd hpd ⊢
          have HKd := Lib.hid (Below.drew hbd)
          have HPd := Lib.hid ((World.rangeAt_drew _ _ _ _).2 hpd)
          have HRd := Lib.hid ((Touch.of_below (S := fun _ => False) HKd.out).range HRj.out (fun h => h))
          clear hwd hbd hpd
          refine wp_region_still_lit (by kernel_rfl) (by kernel_rfl) ?_
          refine stillw_pg (by first | rfl | go_simp) _ rfl wc.heap.size 0 rfl pj HPj.out HPd.out ?_
          still_step
          still_step
          refine stillw_pg (by first | rfl | go_simp) _ rfl X (j * 128) rfl pj HPj.out HRd.out ?_
          refine stillw_ne (by first | rfl | go_simp) _ _ rfl pj rfl rfl HPj.out ?_
          refine wpStill_nil ?_
          go_wp2_with fail
          go_roundg (8 - (j + 1))
          case measure => omega
          case rel => exact ⟨j + 1, by omega, by omega, by go_num, HKd⟩
        · have hltb : ¬ (j : Int) < 8 := by omega
          go_wp2_with fail
          refine (Num_nil _).mono ?_
          rintro e _ ⟨rfl, rfl⟩
          go_wp2_with fail
          go_ret
          exact ⟨rfl, HBa.out.trans (HK.out.mono HBa.out.size)⟩
set_option maxRecDepth 100000 in
theorem last_long (l : List ActP) (A : Option Addr) (c : Nat) (w : World) (hT : Tied w) (hl : 60 < l.length) :
    Calls Tryd.prog 4 #[.slice A l.length c] w fun e w' => e = .returned (.bool true) ∧ Below w.heap.size w w' := by
  have HT := Lib.hid hT
  have hlz : (60 : Int) < (l.length : Int) := by omega
  have hlzb : decide ((60 : Int) < (l.length : Int)) = true := by simpa using hlz
  clear hT
  go_enter Tryd.func4, Tryd.ntmps4
  go_wp2_with fail
  refine (awake_true _ HT.out).mono ?_
  rintro e w1 ⟨rfl, hb⟩
  have HB1 := Lib.hid hb
  have HT1 := Lib.hid (HT.out.under HT.out.lt HB1.out)
  clear hb
  go_wp2_with fail
  refine (awake_true _ HT1.out).mono ?_
  rintro e w2 ⟨rfl, hb⟩
  go_wp2_with fail
  go_ret
  exact ⟨rfl, HB1.out.trans (hb.mono HB1.out.size)⟩
theorem last_walk (A : Option Addr) (c : Nat) (l : List ActP) (W : World) (hA : ActsAt W A l) (tied : Tied W) :
    Calls Tryd.prog 4 #[.slice A l.length c] W fun e w' => e = .returned (.bool true) ∧ Below W.heap.size W w' := by
  by_cases hl : l.length ≤ 60
  · exact last_go l A c W tied hA hl
  · exact last_long l A c W tied (by omega)
end Go.Proofs.YthleapofcoidoaaDoor
