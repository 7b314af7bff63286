/- dynamolaw04.DiskFirm: the walk. -/
import Derived.Test.YthleapofcoidoaaDoorFirmQ
import Derived.Test.YthleapofcoidoaaDoorStW
namespace Go.Proofs.YthleapofcoidoaaDoor
open Go.RowKit Go.Extern.Stop Go.Stop Go.Extern
set_option linter.unusedVariables false
set_option linter.unusedSimpArgs false

def b8 : List Value := List.replicate 8 (.bool false)
theorem y_new (w : World) : YIn w.heap.size (fun _ => false) (w.alloc (.cells b8.toArray 55)) := by
  refine ⟨fun i hi => ?_, fun i hi => ?_⟩
  · rw [cell_of_row _ _ i _ 55 (0, 0) (heap_alloc_last w _), List.getElem?_toArray, b8, List.getElem?_replicate, if_pos hi]
  · have h := (there_new w b8.toArray 55 8 (Nat.le_refl _) i hi).2
    rwa [Nat.zero_add] at h
set_option maxHeartbeats 1600000 in
set_option maxRecDepth 100000 in
theorem firm_go (l l2 : List ActP) (A B : Option Addr) (c c2 : Nat) (mask torn : Int) (w : World) (hT : Tied w) (hA : ActsAt w A l) (hB : ActsAt w B l2) (hl : l.length ≤ 60) (hl2 : l2.length ≤ 60) (hm0 : 0 ≤ mask) (hm1 : mask < 4294967296) (ht1 : torn < 9223372036854775808) :
    Calls Tryd.prog 8 #[.slice A l.length c, .slice B l2.length c2, .int .u32 mask, .int .i64 torn] w fun e w' => e = .returned (.bool true) ∧ Below w.heap.size w w' := by
  have HT := Lib.hid hT
  have HA := Lib.hid hA
  have HB := Lib.hid hB
  have hlz : ¬ (60 : Int) < (l.length : Int) := by omega
  have hlzb : decide ((60 : Int) < (l.length : Int)) = false := by simpa using hlz
  have hlz2 : ¬ (60 : Int) < (l2.length : Int) := by omega
  have hlzb2 : decide ((60 : Int) < (l2.length : Int)) = false := by simpa using hlz2
  clear hT hA hB
  go_enter Tryd.func8, Tryd.ntmps8
  go_wp2_with fail
  refine (awake_true _ HT.out).mono ?_
  rintro e w1 ⟨rfl, hb⟩
  have HB1 := Lib.hid hb
  clear hb
  go_wp2_with fail
  refine (new_ok 8 _ (by omega) (by omega)).mono ?_
  rintro e w6 ⟨D, F, rfl, hd, hb⟩
  have HD6 := Lib.hid hd
  have HB6 : Hid (Below w.heap.size w w6) := Lib.hid (HB1.out.trans (hb.mono HB1.out.size))
  clear hd hb
  go_wp2_with ((with_reducible refine at_al 37 ?_); refine al_pg8 rfl rfl ?_)
  have hb7 := (Below.refl w6.heap.size w6).alloc (Nat.le_refl _) (.cells (flatP z8).toArray 37)
  have hz8 : ∀ p ∈ z8, p.length = 128 := fun p hp => by rw [List.eq_of_mem_replicate hp]; exact zp_length
  have hth := there_new w6 (flatP z8).toArray 37 1024 (by rw [List.size_toArray, flatP_length _ hz8]; exact Nat.le_refl _)
  have hrn : (w6.alloc (.cells (flatP z8).toArray 37)).rangeAt w6.heap.size 0 (flatP z8) := fun j v hv => by
    rw [Nat.zero_add, cell_of_row _ _ j _ 37 (0, 0) (heap_alloc_last w6 _)]; simpa using hv
  have hsx : w6.heap.size < (w6.alloc (.cells (flatP z8).toArray 37)).heap.size := by simp
  have hs7 : (w6.alloc (.cells (flatP z8).toArray 37)).heap.size = w6.heap.size + 1 := by simp
  obtain ⟨w7, hw7⟩ : ∃ q, q = w6.alloc (.cells (flatP z8).toArray 37) := ⟨_, rfl⟩
  rw [← hw7] at hb7 hth hrn hsx hs7
  have H7 : Hid (LInv w w1.heap.size D F w6.heap.size l 0 (.slice none 0 0) w7) := Lib.hid
    ⟨HB6.out.trans (hb7.mono HB6.out.size), hth, fun i hi => by
        have := range_part hrn hz8 i hi
        have e : readP (List.replicate 8 zp) (lsTo l 0) (i : Int) = z8[i] := by
          show (List.replicate 8 zp).getD i zp = _
          rw [List.getD_eq_getElem?_getD]
          show (z8[i]?).getD zp = _
          rw [List.getElem?_eq_getElem hi]; rfl
        rw [e]; exact this, HD6.out.under hb7, fun k hk => by
      have h1 := HD6.out.lD
      have h2 := HD6.out.lF
      rcases hk with rfl | rfl | hk
      · omega
      · omega
      · simp [Value.ownBlock] at hk, hsx⟩
  rw [← hw7]
  have hy := y_new w7
  have hb8 := (Below.refl w7.heap.size w7).alloc (Nat.le_refl _) (.cells b8.toArray 55)
  obtain ⟨w8, hw8⟩ : ∃ q, q = w7.alloc (.cells b8.toArray 55) := ⟨_, rfl⟩
  rw [← hw8] at hy hb8
  rw [show w7.alloc (.cells (#[.bool false, .bool false, .bool false, .bool false, .bool false, .bool false, .bool false, .bool false] : Array Value) 55) = w8 from hw8.symm]
  rw [hs7] at hy
  have H8 := Lib.hid (H7.out.under hb8)
  have HY8 := Lib.hid hy
  have HN8 : Hid (∀ b, Its D F (.slice none 0 0) b → b ≠ w6.heap.size + 1) := Lib.hid (fun b hb => by
    have h1 := HD6.out.lD
    have h2 := HD6.out.lF
    rcases hb with rfl | rfl | hb
    · omega
    · omega
    · simp [Value.ownBlock] at hb)
  have HXw : Hid (w.heap.size ≤ w6.heap.size) := Lib.hid HB6.out.size
  have HBs : Hid (w.heap.size ≤ w1.heap.size) := Lib.hid HB1.out.size
  clear hw7 hw8 hb7 hth hrn hz8 hsx hs7 hy hb8
  obtain ⟨Y, hY⟩ : ∃ q, q = w6.heap.size + 1 := ⟨_, rfl⟩
  rw [← hY] at HY8 HN8 ⊢
  obtain ⟨X, hX⟩ : ∃ q, q = w6.heap.size := ⟨_, rfl⟩
  rw [← hX] at H8 HXw hY ⊢
  have HXY : Hid (X ≠ Y) := Lib.hid (by omega)
  have HYw : Hid (w.heap.size ≤ Y) := Lib.hid (by have := HXw.out; omega)
  clear hX hY H7
  go_wp2_with fail
  go_loopg [13] l.length (fun gg s6 wr => ∃ k : Nat, k ≤ l.length ∧ l.length - k ≤ gg ∧ s6 = .int .i64 k ∧ ∃ v, Hid (LInv w w1.heap.size D F X l k v wr) ∧ Hid (YIn Y (fun _ => false) wr) ∧ Hid (∀ b, Its D F v b → b ≠ Y))
  case atStart => exact ⟨0, Nat.zero_le _, by omega, rfl, _, H8, HY8, HN8⟩
  case round =>
    obtain ⟨k, hk, hg, rfl, v, HI, HYr, HNr⟩ := hrel
    by_cases hlt : k < l.length
    · have hltz : (k : Int) < (l.length : Int) := by omega
      obtain ⟨ad, rfl, hat⟩ := HA.out.2.2 (by omega)
      have HAw := Lib.hid (hat k hlt)
      have HOk := Lib.hid (HA.out.1 _ (List.getElem_mem hlt))
      have HSt := Lib.hid (lsTo_step l k hlt)
      have hls := lsTo_length l k
      obtain ⟨x, hx⟩ : ∃ q, q = l[k] := ⟨_, rfl⟩
      rw [← hx] at HAw HOk HSt
      have cA := (HAw.out.under HI.out.b).a
      clear hat hx
      have h7 := and7 x.at_
      obtain ⟨n, hn⟩ : ∃ n : Nat, bits BinOp.and IntKind.i64 x.at_ 7 = (n : Int) := ⟨(bits BinOp.and IntKind.i64 x.at_ 7).toNat, by omega⟩
      have hn8 : n < 8 := by omega
      have hnz : (n : Int) < 8 := by omega
      rw [hn] at HSt
      clear h7
      go_upto_region 9 with fail
      refine wp_region_still_tail 12 (by kernel_rfl) (by kernel_rfl) ?_
      simp only [List.take_succ_cons, List.take_zero, List.drop_succ_cons, List.drop_zero]
      iterate 11 still_step
      refine still_pg rfl _ rfl (ad.add (k * 132)).block ((ad.add (k * 132)).off + 2) rfl x.p HOk.out.p ?_ ?_
      · exact (World.rangeAt_drew _ _ _ _).2 (HAw.out.under HI.out.b).p
      refine wpStill_nil ?_
      have HId := Lib.hid (HI.out.under (Below.drew (Below.refl _ _)))
      have HYd := Lib.hid (HYr.out.under (Below.drew (Below.refl _ _)))
      go_wp2_with fail
      refine (write_any (n : Int) x.p HId.out.d (by omega) HOk.out.p).mono ?_
      rintro e w4 ⟨ev, rfl, he, hor⟩
      have hmay : mayC false (List.replicate 8 zp).length (n : Int) = 0 := by
        unfold mayC; rw [if_neg (by simp), if_pos (by simp; omega)]
      obtain ⟨v4, HD4, HV4, HT4⟩ : ∃ v4, Hid (DiskIn w4 w1.heap.size D F v4 (List.replicate 8 zp) (lsTo l k ++ [((n : Int), x.p)]) false) ∧ Hid (v4.ownBlock = v.ownBlock ∨ ∃ b, v4.ownBlock = some b ∧ wr.drew.heap.size ≤ b) ∧ Hid (Touch (Its D F v) wr.drew w4) := by
        rcases hor with ⟨h, _⟩ | ⟨_, v2, h1, h2, h3⟩
        · exact absurd hmay h
        · exact ⟨v2, Lib.hid h1, Lib.hid h2, Lib.hid h3⟩
      obtain rfl : ev = .nilIface := ErrC.zero (hmay ▸ he)
      have HB4 : Hid (Below w.heap.size w w4) := Lib.hid (HId.out.b.trans ((HId.out.d.low HT4.out).mono HBs.out))
      have H5 := Lib.hid (HId.out.step HSt.out hn8 HXw.out HBs.out HD4.out HV4.out HT4.out HOk.out.p)
      have HTn : Hid (w4.drew.there X (n * 128) 128) := Lib.hid (by
        have h0 : w4.drew.there X 0 1024 := (World.there_drew _ _ _ _).2 (HT4.out.there HId.out.th (fun e => HId.out.n _ e rfl))
        have := there_sub (i := n * 128) (m := 128) h0 (by omega)
        rwa [Nat.zero_add] at this)
      have HY5 : Hid (YIn Y (fun _ => false) (w4.drew.setCells X (n * 128) (pv x.p))) := Lib.hid (by
        have y4 := (HYd.out.keep HT4.out (fun e => HNr.out _ e rfl)).under (Below.drew (Below.refl _ _))
        have t : Touch (fun b => b = X) w4.drew (w4.drew.setCells X (n * 128) (pv x.p)) := Touch.setCells (S := fun b => b = X) (Touch.refl _ w4.drew) X (.inl rfl) (pv x.p) _ _ (Touch.refl _ _)
        exact y4.keep t (fun e => HXY.out e.symm))
      have HN5 := Lib.hid (its_new HNr.out HV4.out HYd.out.lt)
      have HP4 := Lib.hid (HOk.out.p)
      have cA4 := (HAw.out.under HB4.out).a
      clear he hor hmay
      go_wp2_with fail
      refine (Num_nil w4).mono ?_
      rintro e _ ⟨rfl, rfl⟩
      go_upto_region 11 with fail
      refine wp_region_still_tail 12 (by kernel_rfl) (by kernel_rfl) ?_
      simp only [List.take_succ_cons, List.take_zero, List.drop_succ_cons, List.drop_zero]
      iterate 10 still_step
      refine still_pg rfl _ rfl (ad.add (k * 132)).block ((ad.add (k * 132)).off + 2) rfl x.p HOk.out.p ?_ ?_
      · exact (World.rangeAt_drew _ _ _ _).2 (HAw.out.under HB4.out).p
      still_step
      refine wpStill_nil ?_
      go_wp2_with ((with_reducible refine at_st 36 (.tmp 67) (.tmp 66) ?_); refine st_pg rfl _ _ rfl X (n * 128) rfl x.p ?_ rfl ?_ ?_; exact HP4.out; exact HTn.out)
      go_roundg (l.length - (k + 1))
      case measure => omega
      case rel => exact ⟨k + 1, by omega, by omega, by go_num, v4, H5, HY5, HN5⟩
    · have hltb : ¬ (k : Int) < (l.length : Int) := by omega
      have hls := lsTo_length l k
      have hLL : (lsTo l k).length ≤ 60 := by omega
      have HFr : Hid (∀ i : Nat, i < 8 → (flushP (List.replicate 8 zp) (lsTo l k)).getD i zp = readP (List.replicate 8 zp) (lsTo l k) (i : Int)) := Lib.hid (fun i hi => flush_read _ _ i (by simpa using hi) (fun x hx => (HI.out.d.pl x hx).2))
      have hfl : (flushP (List.replicate 8 zp) (lsTo l k)).length = 8 := by rw [flushP_length]; simp
      have HFl := Lib.hid (flush_any HI.out.d (by omega))
      go_wp2_with fail
      refine HFl.out.mono ?_
      rintro e w9 ⟨ev, rfl, he, hor⟩
      obtain rfl : ev = .nilIface := ErrC.zero he
      obtain ⟨HD9, HT9⟩ : Hid (DiskIn w9 w1.heap.size D F (.slice none 0 0) (flushP (List.replicate 8 zp) (lsTo l k)) [] false) ∧ Hid (Touch (Its D F v) wr w9) := by
        rcases hor with ⟨h, _⟩ | ⟨_, h1, h3⟩
        · exact absurd h (by simp)
        · exact ⟨Lib.hid h1, Lib.hid h3⟩
      obtain ⟨firm, hfirm⟩ : ∃ q, q = flushP (List.replicate 8 zp) (lsTo l k) := ⟨_, rfl⟩
      rw [← hfirm] at HD9 HFr hfl
      have HM : Hid (MInv w w1.heap.size D F X Y firm l2 0 (.slice none 0 0) w9) := Lib.hid
        ⟨HI.out.b.trans ((HI.out.d.low HT9.out).mono HBs.out), HD9.out, fun b hb => HI.out.n b (by
          rcases hb with h | h | h
          · exact .inl h
          · exact .inr (.inl h)
          · simp [Value.ownBlock] at h), fun b hb => HNr.out b (by
          rcases hb with h | h | h
          · exact .inl h
          · exact .inr (.inl h)
          · simp [Value.ownBlock] at h), fun i hi => by rw [HFr.out i hi]; exact HT9.out.range (HI.out.r i hi) (fun e => HI.out.n _ e rfl), Nat.lt_of_lt_of_le HI.out.x HT9.out.size, HYr.out.keep HT9.out (fun e => HNr.out _ e rfl)⟩
      have HPg : Hid (∀ i, (firm.getD i zp).length = 128) := Lib.hid (fun i => by
        rw [List.getD_eq_getElem?_getD]
        cases h : firm[i]? with
        | none => exact zp_length
        | some p => exact HD9.out.pg p (List.mem_of_getElem? h))
      clear he hor hfirm hls hLL hltb hlt hg hk HFl
      go_wp2_with fail
      refine (Num_nil w9).mono ?_
      rintro e _ ⟨rfl, rfl⟩
      go_wp2_with fail
      go_loopg [14] l2.length (fun gg s14 wr => ∃ k : Nat, k ≤ l2.length ∧ l2.length - k ≤ gg ∧ s14 = .int .i64 k ∧ ∃ v, Hid (MInv w w1.heap.size D F X Y firm l2 k v wr))
      case atStart => exact ⟨0, Nat.zero_le _, by omega, rfl, _, HM⟩
      case round =>
        obtain ⟨k, hk, hg, rfl, v, HI⟩ := hrel
        by_cases hlt : k < l2.length
        · have hltz : (k : Int) < (l2.length : Int) := by omega
          obtain ⟨ad, rfl, hat⟩ := HB.out.2.2 (by omega)
          have HAw := Lib.hid (hat k hlt)
          have HOk := Lib.hid (HB.out.1 _ (List.getElem_mem hlt))
          have HSt := Lib.hid (lsTo_step l2 k hlt)
          have hls := lsTo_length l2 k
          have h7 := and7 l2[k].at_
          obtain ⟨n, hn0⟩ : ∃ n : Nat, bits BinOp.and IntKind.i64 l2[k].at_ 7 = (n : Int) := ⟨(bits BinOp.and IntKind.i64 l2[k].at_ 7).toNat, by omega⟩
          have hn8 : n < 8 := by omega
          have hnz : (n : Int) < 8 := by omega
          rw [hn0] at HSt
          have HN0 := Lib.hid hn0
          obtain ⟨x, hx⟩ : ∃ q, q = l2[k] := ⟨_, rfl⟩
          rw [← hx] at HAw HOk HSt
          have hn : bits BinOp.and IntKind.i64 x.at_ 7 = (n : Int) := by rw [hx]; exact hn0
          have cA := (HAw.out.under HI.out.b).a
          clear hat hx h7 hn0
          go_upto_region 17 with fail
          refine wp_region_still_tail 12 (by kernel_rfl) (by kernel_rfl) ?_
          simp only [List.take_succ_cons, List.take_zero, List.drop_succ_cons, List.drop_zero]
          iterate 11 still_step
          refine still_pg rfl _ rfl (ad.add (k * 132)).block ((ad.add (k * 132)).off + 2) rfl x.p HOk.out.p ?_ ?_
          · exact (World.rangeAt_drew _ _ _ _).2 (HAw.out.under HI.out.b).p
          refine wpStill_nil ?_
          have HId := Lib.hid (HI.out.under (Below.drew (Below.refl _ _)))
          go_wp2_with fail
          refine (write_any (n : Int) x.p HId.out.d (by omega) HOk.out.p).mono ?_
          rintro e w4 ⟨ev, rfl, he, hor⟩
          have hmay : mayC false firm.length (n : Int) = 0 := by
            unfold mayC; rw [if_neg (by simp), if_pos (by omega)]
          obtain ⟨v4, HD4, HV4, HT4⟩ : ∃ v4, Hid (DiskIn w4 w1.heap.size D F v4 firm (lsTo l2 k ++ [((n : Int), x.p)]) false) ∧ Hid (v4.ownBlock = v.ownBlock ∨ ∃ b, v4.ownBlock = some b ∧ wr.drew.heap.size ≤ b) ∧ Hid (Touch (Its D F v) wr.drew w4) := by
            rcases hor with ⟨h, _⟩ | ⟨_, v2, h1, h2, h3⟩
            · exact absurd hmay h
            · exact ⟨v2, Lib.hid h1, Lib.hid h2, Lib.hid h3⟩
          have HB4 : Hid (Below w.heap.size w w4) := Lib.hid (HId.out.b.trans ((HId.out.d.low HT4.out).mono HBs.out))
          have H5 := Lib.hid (HId.out.step hlt HSt.out HN0.out hn8 HYw.out HXY.out HBs.out HD4.out HV4.out HT4.out)
          have y4 := HId.out.y.keep HT4.out (fun e => HId.out.n' _ e rfl)
          have cY := y4.c n hn8
          have zY := y4.z n hn8
          have cA4 := (HAw.out.under HB4.out).a
          clear he hor hmay y4
          go_wp2_with fail
          go_roundg (l2.length - (k + 1))
          case measure => omega
          case rel => exact ⟨k + 1, by omega, by omega, by go_num, v4, H5⟩
        · have hltb : ¬ (k : Int) < (l2.length : Int) := by omega
          have hls := lsTo_length l2 k
          have hLL : (lsTo l2 k).length ≤ 60 := by omega
          have HKp : Hid (∀ i, laterB l2 k i = false → (crashP mask torn firm (lsTo l2 k)).getD i zp = firm.getD i zp) := Lib.hid (fun i hi => crashP_keep mask torn firm _ i (later_none hi))
          have hcl : (crashP mask torn firm (lsTo l2 k)).length = 8 := by unfold crashP; rw [crashTo_length]; exact hfl
          have HCr := Lib.hid (crash_any mask torn HI.out.d (by omega) hm0 hm1 ht1)
          go_wp2_with fail
          refine HCr.out.mono ?_
          rintro e wA ⟨rfl, hd, ht⟩
          obtain ⟨fc, hfc⟩ : ∃ q, q = crashP mask torn firm (lsTo l2 k) := ⟨_, rfl⟩
          rw [← hfc] at hd hcl HKp
          obtain ⟨lt, hlt'⟩ : ∃ q, q = laterB l2 k := ⟨_, rfl⟩
          rw [← hlt'] at HKp
          have HDA := Lib.hid hd
          have HBA : Hid (Below w.heap.size w wA) := Lib.hid (HI.out.b.trans ((HI.out.d.low ht).mono HBs.out))
          have HRA : Hid (∀ i, i < 8 → wA.rangeAt X (i * 128) (pv (firm.getD i zp))) := Lib.hid (fun i hi => ht.range (HI.out.r i hi) (fun e => HI.out.n _ e rfl))
          have HYA : Hid (YIn Y lt wA) := Lib.hid (by rw [hlt']; exact HI.out.y.keep ht (fun e => HI.out.n' _ e rfl))
          have HNA : Hid (∀ b, Its D F (.slice none 0 0) b → b ≠ X ∧ b ≠ Y) := Lib.hid (fun b hb => by
            have : Its D F v b := by
              rcases hb with h | h | h
              · exact .inl h
              · exact .inr (.inl h)
              · simp [Value.ownBlock] at h
            exact ⟨HI.out.n _ this, HI.out.n' _ this⟩)
          clear hd ht hfc hlt' hls hLL hltb hlt HCr
          go_wp2_with fail
          refine (up_any HDA.out).mono ?_
          rintro e wa ⟨rfl, hd, ht⟩
          have HDa := Lib.hid hd
          have HBa : Hid (Below w.heap.size w wa) := Lib.hid (HBA.out.trans ((HDA.out.low ht).mono HBs.out))
          have HRa : Hid (∀ i, i < 8 → wa.rangeAt X (i * 128) (pv (firm.getD i zp))) := Lib.hid (fun i hi => ht.range (HRA.out i hi) (fun e => (HNA.out _ e).1 rfl))
          have HYa : Hid (YIn Y lt wa) := Lib.hid (HYA.out.keep ht (fun e => (HNA.out _ e).2 rfl))
          clear hd ht
          go_wp2_with fail
          go_loopg [15] 8 (fun gg s15 wb => ∃ j : Nat, j ≤ 8 ∧ 8 - j ≤ gg ∧ s15 = .int .i64 j ∧ Hid (Below wa.heap.size wa wb))
          case atStart => exact ⟨0, by omega, by omega, rfl, Lib.hid (Below.refl _ _)⟩
          case round =>
            obtain ⟨j, hj, hg, rfl, HK⟩ := hrel
            have HDb := Lib.hid (HDa.out.under HK.out)
            by_cases hlt : j < 8
            · have hltz : (j : Int) < 8 := by omega
              go_wp2_with fail
              refine (read_any (j : Int) HDb.out (by simp)).mono ?_
              rintro e wc ⟨ev, rfl, he, hb⟩
              have hmay : mayC false fc.length (j : Int) = 0 := by unfold mayC; rw [if_neg (by simp), if_pos (by omega)]
              rw [hmay] at he ⊢
              rw [if_pos rfl, show readP fc [] (j : Int) = fc.getD j zp from rfl]
              obtain rfl : ev = .nilIface := ErrC.zero he
              have HKc := Lib.hid (HK.out.trans (hb.mono HK.out.size))
              have HPj : Hid ((fc.getD j zp).length = 128) := Lib.hid (by
                rw [List.getD_eq_getElem?_getD]
                cases h : fc[j]? with
                | none => exact zp_length
                | some p => exact HDa.out.pg p (List.mem_of_getElem? h))
              have HRj := Lib.hid (HRa.out j hlt)
              have HKj := Lib.hid (HKp.out j)
              obtain ⟨pj, hpj⟩ : ∃ q, q = fc.getD j zp := ⟨_, rfl⟩
              rw [← hpj] at HPj HKj ⊢
              clear he hb hmay hpj
              go_upto_region 25 with (first | ((with_reducible refine at_al 36 ?_); refine al_pg rfl rfl ?_) | ((with_reducible refine at_st 36 (.tmp 16) (.tmp 112) ?_); refine st_new rfl _ _ rfl _ _ _ rfl rfl pj ?_ rfl ?_ ?_; exact HPj.out; exact zsz))
              have hbd := HKc.out.alloc HKc.out.size (.cells (pv pj).toArray 36)
              have hpd := range_new wc pj 36
              obtain ⟨wd, hwd⟩ : ∃ q, q = wc.alloc (.cells (pv pj).toArray 36) := ⟨_, rfl⟩
              rw [← hwd] at hbd hpd ⊢
              have HKd := Lib.hid (Below.drew hbd)
              have HPd := Lib.hid ((World.rangeAt_drew _ _ _ _).2 hpd)
              have HRd := Lib.hid ((Touch.of_below (S := fun _ => False) HKd.out).range HRj.out (fun h => h))
              have cY := (HYa.out.under HKd.out).c j hlt
              clear hwd hbd hpd
              refine wp_region_still_lit (by kernel_rfl) (by kernel_rfl) ?_
              refine (WS.out ?_ : _)
              (refine ws_step (fun K hK => ?_); go_simp; refine hK _ ?_; clear hK K)
              refine ws_step (fun K hK => ?_)
              go_simp
              refine ⟨_, (Num_nil _).mono fun e w' h => ⟨h.1, h.2.symm⟩, hK _ ?_⟩
              clear hK K
              cases hltj : lt j with
              | true =>
                rw [hltj] at cY
                iterate 14 (refine ws_step (fun K hK => ?_); go_simp; refine hK _ ?_; clear hK K)
                refine ws_nil ?_
                go_wp2_with fail
                go_roundg (8 - (j + 1))
                case measure => omega
                case rel => exact ⟨j + 1, by omega, by omega, by go_num, HKd⟩
              | false =>
                rw [hltj] at cY
                have HE := Lib.hid (HKj.out hltj)
                rw [← HE.out] at HRd
                iterate 7 (refine ws_step (fun K hK => ?_); go_simp; refine hK _ ?_; clear hK K)
                refine ws_pg (by rfl) _ rfl wc.heap.size 0 rfl pj HPj.out HPd.out ?_
                iterate 2 (refine ws_step (fun K hK => ?_); go_simp; refine hK _ ?_; clear hK K)
                refine ws_pg (by rfl) _ rfl X (j * 128) rfl pj HPj.out HRd.out ?_
                refine ws_ne (by rfl) _ _ rfl pj rfl rfl HPj.out ?_
                iterate 2 (refine ws_step (fun K hK => ?_); go_simp; refine hK _ ?_; clear hK K)
                refine ws_nil ?_
                go_wp2_with fail
                go_roundg (8 - (j + 1))
                case measure => omega
                case rel => exact ⟨j + 1, by omega, by omega, by go_num, HKd⟩
            · have hltb : ¬ (j : Int) < 8 := by omega
              have HSo := Lib.hid (soft_any HDb.out)
              go_wp2_with fail
              refine (Num_nil _).mono ?_
              rintro e _ ⟨rfl, rfl⟩
              go_wp2_with fail
              refine HSo.out.mono ?_
              rintro e _ ⟨rfl, rfl⟩
              go_wp2_with fail
              go_ret
              exact ⟨rfl, HBa.out.trans (HK.out.mono HBa.out.size)⟩
set_option maxRecDepth 100000 in
theorem firm_long1 (l l2 : List ActP) (A B : Option Addr) (c c2 : Nat) (mask torn : Int) (w : World) (hT : Tied w) (hl : 60 < l.length) :
    Calls Tryd.prog 8 #[.slice A l.length c, .slice B l2.length c2, .int .u32 mask, .int .i64 torn] w fun e w' => e = .returned (.bool true) ∧ Below w.heap.size w w' := by
  have HT := Lib.hid hT
  have hlz : (60 : Int) < (l.length : Int) := by omega
  have hlzb : decide ((60 : Int) < (l.length : Int)) = true := by simpa using hlz
  clear hT
  go_enter Tryd.func8, Tryd.ntmps8
  go_wp2_with fail
  refine (awake_true _ HT.out).mono ?_
  rintro e w1 ⟨rfl, hb⟩
  have HB1 := Lib.hid hb
  have HT1 := Lib.hid (HT.out.under HT.out.lt HB1.out)
  clear hb
  go_wp2_with fail
  refine (awake_true _ HT1.out).mono ?_
  rintro e w2 ⟨rfl, hb⟩
  go_wp2_with fail
  go_ret
  exact ⟨rfl, HB1.out.trans (hb.mono HB1.out.size)⟩
set_option maxRecDepth 100000 in
theorem firm_long2 (l l2 : List ActP) (A B : Option Addr) (c c2 : Nat) (mask torn : Int) (w : World) (hT : Tied w) (hl : l.length ≤ 60) (hl2 : 60 < l2.length) :
    Calls Tryd.prog 8 #[.slice A l.length c, .slice B l2.length c2, .int .u32 mask, .int .i64 torn] w fun e w' => e = .returned (.bool true) ∧ Below w.heap.size w w' := by
  have HT := Lib.hid hT
  have hlz : ¬ (60 : Int) < (l.length : Int) := by omega
  have hlzb : decide ((60 : Int) < (l.length : Int)) = false := by simpa using hlz
  have hlz2 : (60 : Int) < (l2.length : Int) := by omega
  have hlzb2 : decide ((60 : Int) < (l2.length : Int)) = true := by simpa using hlz2
  clear hT
  go_enter Tryd.func8, Tryd.ntmps8
  go_wp2_with fail
  refine (awake_true _ HT.out).mono ?_
  rintro e w1 ⟨rfl, hb⟩
  have HB1 := Lib.hid hb
  have HT1 := Lib.hid (HT.out.under HT.out.lt HB1.out)
  clear hb
  go_wp2_with fail
  refine (awake_true _ HT1.out).mono ?_
  rintro e w2 ⟨rfl, hb⟩
  go_wp2_with fail
  go_ret
  exact ⟨rfl, HB1.out.trans (hb.mono HB1.out.size)⟩
theorem firm_walk (A : Option Addr) (c : Nat) (l : List ActP) (B : Option Addr) (c2 : Nat) (l2 : List ActP) (mask torn : Int) (W : World) (hA : ActsAt W A l) (hB : ActsAt W B l2) (wm : (Lit.int .u32 mask).wf = true) (wt : (Lit.int .i64 torn).wf = true) (tied : Tied W) :
    Calls Tryd.prog 8 #[.slice A l.length c, .slice B l2.length c2, .int .u32 mask, .int .i64 torn] W fun e w' => e = .returned (.bool true) ∧ Below W.heap.size W w' := by
  have h1 := wf_b32 wm
  have h3 := wf_b64 wt
  by_cases hl : l.length ≤ 60
  · by_cases hl2 : l2.length ≤ 60
    · exact firm_go l l2 A B c c2 mask torn W tied hA hB hl hl2 h1.1 (by omega) (by omega)
    · exact firm_long2 l l2 A B c c2 mask torn W tied hl (by omega)
  · exact firm_long1 l l2 A B c c2 mask torn W tied (by omega)
end Go.Proofs.YthleapofcoidoaaDoor
