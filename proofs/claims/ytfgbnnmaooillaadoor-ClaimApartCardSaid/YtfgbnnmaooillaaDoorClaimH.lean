/- ClaimCounts: the walk. -/
import Derived.Test.YtfgbnnmaooillaaDoorClaimC
import Derived.Test.YtfgbnnmaooillaaDoorClaimF
import Derived.Test.YtfgbnnmaooillaaDoorClaimG
namespace Go.Proofs.YtfgbnnmaooillaaDoor
open Go.RowKit Go.Extern.Stop Go.Stop Go.Extern Go.Proofs.YtfgbnnmaooillaaDoorW.PrintWords Go.Proofs.YtfgbnnmaooillaaDoorW.PrintLast Go.Proofs.YtfgbnnmaooillaaDoorW.PrintMore Go.Proofs.YtfgbnnmaooillaaDoor.PClaimTakes Go.Proofs.YtfgbnnmaooillaaDoor.PTaken
set_option linter.unusedVariables false
set_option linter.unusedSimpArgs false

/-- a slice of bools that reads as l -/
def Bools (w : World) (A : Option Addr) (l : List Bool) : Prop := Kd.bool.C w A l.length l
theorem Bools.below {w w' : World} {A : Option Addr} {l : List Bool} (h : Bools w A l) (hb : Below w.heap.size w w') : Bools w' A l := Kd.C_below h hb
theorem Bools.at {w : World} {A : Option Addr} {l : List Bool} (h : Bools w A l) (hl : 0 < l.length) : ∃ b o, A = some ⟨b, o, none⟩ ∧ ∀ j (hj : j < l.length), w.cell? ⟨b, o + j, none⟩ = some (.bool l[j]) := by
  obtain ⟨_, _, h3⟩ := h
  obtain ⟨ad, rfl, hc⟩ := h3 hl
  have hcc : ∀ j (hj : j < l.length), w.cell? (ad.add j) = some (.bool l[j]) := by
    intro j hj
    obtain ⟨cs, _, hk, hcell⟩ := hc j _ (List.getElem?_eq_getElem hj)
    have := hcell 0 (.bool l[j]) (by rw [show cs = [Value.bool l[j]] from hk]; rfl)
    have e1 : Kd.bool.sz = 1 := rfl
    rw [e1] at this
    simpa using this
  obtain ⟨b, o, spot⟩ := ad
  have hspot : spot = none := by simpa [Addr.add] using World.cell?_spot (hcc 0 hl)
  subst hspot
  exact ⟨b, o, rfl, fun j hj => by have := hcc j hj; rw [Go.WideShapes.add_plain] at this; exact this⟩
theorem taken_len (l : List Int) : (takenL l).length = 64 := mapR_length 64 _
theorem Taken_any (A : Option Addr) (l : List Int) (cp : Nat) (hl : l.length ≤ 1000) (W : World) (h : Ints W A l cp) : Calls Tryd.prog 19 #[.slice A l.length cp, .int .i64 64] W fun e w' => ∃ B c, e = .returned (.slice B 64 c) ∧ Bools w' B (takenL l) ∧ Below W.heap.size W w' :=
  (claim_Taken.calls (l.length + 1) A cp l 64 (takenL l) W h.1 h.2 (taken_f l (by omega) _ (by omega))).mono fun _ _ ⟨v, he, hr, hb⟩ => by
    obtain ⟨B, c, rfl, _, hc⟩ := Kd.R_reads hr
    exact ⟨B, c, by rw [he, taken_len], hc, hb⟩
theorem cntT_step (l : List Int) (j : Nat) (hj : j < (takenL l).length) : cntT l (j + 1) = cntT l j + if (takenL l)[j] = true then 1 else 0 := by
  unfold cntT
  rw [List.take_succ_eq_append_getElem hj, List.countP_append]
  simp [List.countP_cons]
theorem cntT_le (l : List Int) (j : Nat) : cntT l j ≤ j := by
  unfold cntT
  exact Nat.le_trans List.countP_le_length (List.length_take_le _ _)
theorem Sound.apartNil {l : List Int} (h : Sound l) : apartB [] l = true := by
  refine apartB_true fun i k _ hk => ?_
  unfold oddB oddI
  rw [decide_eq_false_iff_not, placeL_nil, placeL_nil]
  rintro ⟨h1, h2 | ⟨h2, h3, _⟩⟩
  · exact h.apart i k (by omega) h1 h2
  · exact h1 h3
theorem onL_le (l : List Int) : onL l ≤ l.length := List.countP_le_length
theorem enter_busy {l : List Int} {k : Nat} {c : Int} (hk : l.length ≤ k) (hk9 : k ≤ 9) (c0 : 0 ≤ c) (c1 : c ≤ 63) (h : enterC l k c ≠ 0) : freeB l c = false := by
  cases hf : freeB l c with
  | false => rfl
  | true =>
    refine absurd ?_ h
    have hm : mayB (k : Int) c = true := by simp [mayB]; omega
    have ho : onB l k = false := by unfold onB; rw [placeL_ge l k hk]; rfl
    unfold enterC
    rw [if_neg (by rw [hm]; simp), Int.toNat_natCast, if_neg (by rw [ho]; simp), if_neg (by rw [hf]; simp)]
set_option maxRecDepth 100000 in
set_option maxHeartbeats 8000000 in
theorem counts_go (Z : Option Addr) (zs : List Int) (cz : Nat) (hl : zs.length ≤ 10) (W : World) (tied : Tied W) (h : IntsK .u8 W Z zs cz) (hw : ∀ j, j < zs.length → 0 ≤ rd zs j ∧ rd zs j ≤ 255) :
    Calls Tryd.prog 6 #[.slice Z zs.length cz] W fun e w' => e = .returned (.bool true) ∧ Below W.heap.size W w' := by
  have T := Lib.hid tied
  have HZ := Lib.hid h
  have HW := Lib.hid hw
  have hd : decide ((10 : Int) < (zs.length : Int)) = false := by simp; omega
  clear h tied hw
  go_enter Tryd.func6, Tryd.ntmps6
  go_wp2_with fail
  refine (claim_awake _ T.out).mono ?_
  rintro e w1 ⟨rfl, hb⟩
  have HB1 := Lib.hid hb
  clear hb
  go_wp2_with fail
  go_loopw [3, 4, 5, 6, 7] (fun u n i _ _ wl => ∃ (k : Nat) (A : Option Addr) (cp : Nat), k ≤ zs.length ∧ i = .int .i64 k ∧ u = .slice A (enterTo zs k).length cp ∧ n = .int .i64 (onL (enterTo zs k) : Nat) ∧ Ints wl A (enterTo zs k) cp ∧ Below W.heap.size W wl) (fun _ _ i _ _ _ => zs.length - (intOf i).toNat)
  case atStart => exact ⟨0, none, 0, Nat.zero_le _, rfl, rfl, rfl, Ints.nil _, HB1.out⟩
  case round =>
    obtain ⟨k, A, cp, hk, rfl, rfl, rfl, hia, hb⟩ := hrel
    have HI := Lib.hid hia
    have HB := Lib.hid hb
    clear hia hb
    obtain ⟨at0, hat⟩ : ∃ at0, at0 = enterTo zs k := ⟨_, rfl⟩
    rw [← hat] at HI ⊢
    have HAT := Lib.hid hat
    have hlk : at0.length ≤ k := by rw [hat]; exact (enterTo_sound zs k).2
    have hal : at0.length ≤ 1000 := by omega
    obtain ⟨n, hn⟩ : ∃ n, n = onL at0 := ⟨_, rfl⟩
    rw [← hn]
    have HN := Lib.hid hn
    have hn9 : n ≤ 1000 := by rw [hn]; have := onL_le at0; omega
    clear hat hn
    by_cases hlt : k < zs.length
    · as_aux_lemma =>
      have hltb : decide (k < zs.length) = true := by simpa using hlt
      obtain ⟨b1, o1, rfl, hc1⟩ := HZ.out.at (by omega)
      have hi1 : (k : Int) < (zs.length : Int) := by omega
      obtain ⟨z, hz⟩ : ∃ z, z = rd zs k := ⟨_, rfl⟩
      have CZ : Hid (W.cell? ⟨b1, o1 + k, none⟩ = some (.int .u8 z)) := by rw [hz]; exact hc1 k hlt
      have x1 : wr.cell? ⟨b1, o1 + k, none⟩ = some (.int .u8 z) := (HB.out.cell (cell_lt CZ.out)).trans CZ.out
      obtain ⟨z0, z1⟩ := HW.out k hlt
      rw [← hz] at z0 z1
      have HZZ := Lib.hid hz
      clear hz hc1
      go_wp2_with fail
      refine (Enter_any A at0 cp k (z % 64) hal _ HI.out).mono ?_
      rintro e w2 ⟨A2, c2, v2, rfl, hi2, he, hb⟩
      have HB2 := Lib.hid (bstep HB.out hb)
      have HI2 := Lib.hid hi2
      have HE2 := Lib.hid he
      have HIo := Lib.hid (HI.out.below hb)
      clear hi2 he hb x1
      go_wp2_with fail
      refine (Num_c _ v2 (enterC at0 k (z % 64)) HE2.out (T.out.under T.out.lt HB2.out)).mono ?_
      rintro e w3 ⟨rfl, hb⟩
      have HB3 := Lib.hid (bstep HB2.out hb)
      have HI3 := Lib.hid (HI2.out.below hb)
      have HI3o := Lib.hid (HIo.out.below hb)
      clear hb
      by_cases hc : enterC at0 k (z % 64) = 0
      · have hcb : (enterC at0 k (z % 64) == 0) = true := by simpa using hc
        have HS : Hid (enterL at0 k (z % 64) = enterTo zs (k + 1) ∧ onL (enterTo zs (k + 1)) = n + 1) := by
          have e1 : enterTo zs (k + 1) = withL at0 k (z % 64) := by rw [enterTo, ← HAT.out, ← HZZ.out, if_pos hc]
          refine ⟨by rw [e1]; unfold enterL; rw [if_pos hc, Int.toNat_natCast], ?_⟩
          rw [e1, onL_with hlk (by omega), HN.out]
        rw [HS.out.1] at HI3
        obtain ⟨n2, hn2⟩ : ∃ n, n = (enterL at0 k (z % 64)).length := ⟨_, rfl⟩
        rw [← hn2]
        have HN2 : Hid (n2 = (enterTo zs (k + 1)).length) := by rw [hn2, HS.out.1]; rfl
        clear hn2 hc
        go_wp2_with fail
        go_roundw
        case rel => exact ⟨k + 1, A2, c2, by omega, by go_num, by rw [HN2.out], by rw [HS.out.2]; go_num, HI3.out, HB3.out⟩
        case measure => simp [intOf]; omega
      · have hcb : (enterC at0 k (z % 64) == 0) = false := by simpa using hc
        have HS : Hid (at0 = enterTo zs (k + 1)) := by
          show _ = _
          rw [enterTo, ← HAT.out, ← HZZ.out, if_neg hc]
        have hfr := Lib.hid (free_any A at0 cp (z % 64) (enter_busy hlk (by omega) (by omega) (by omega) hc) hal)
        have x3 : w3.cell? ⟨b1, o1 + k, none⟩ = some (.int .u8 z) := (HB3.out.cell (cell_lt CZ.out)).trans CZ.out
        clear hc
        go_wp2_with fail
        refine (hfr.out _ HI3o.out).mono ?_
        rintro e w4 ⟨rfl, hb⟩
        have HB4 := Lib.hid (bstep HB3.out hb)
        have HI4 := Lib.hid (HI3o.out.below hb)
        clear hb x3
        go_wp2_with fail
        go_roundw
        case rel => exact ⟨k + 1, A, cp, by omega, by go_num, by rw [HS.out], by rw [HN.out, HS.out], by have h := HI4.out; rw [HS.out] at h; exact h, HB4.out⟩
        case measure => simp [intOf]; omega
    · as_aux_lemma =>
      have hltb : decide (k < zs.length) = false := by simpa using hlt
      have HSO : Hid (Sound at0) := by rw [HAT.out]; exact (enterTo_sound zs k).1
      clear HAT
      go_wp2_with fail
      refine (Taken_any A at0 cp hal _ HI.out).mono ?_
      rintro e w2 ⟨Bt, ct, rfl, ht, hb⟩
      have HB2 := Lib.hid (bstep HB.out hb)
      have HI2 := Lib.hid (HI.out.below hb)
      have HT2 := Lib.hid ht
      clear ht hb
      obtain ⟨bt0, ot, rfl, hct⟩ := HT2.out.at (by rw [taken_len]; omega)
      have CT := Lib.hid hct
      clear hct
      go_wp2_with fail
      go_loopw [9, 10] (fun m i wl => ∃ j : Nat, j ≤ 64 ∧ i = .int .i64 j ∧ m = .int .i64 (cntT at0 j : Nat) ∧ Below w2.heap.size w2 wl) (fun _ i _ => 64 - (intOf i).toNat)
      case atStart => exact ⟨0, by omega, rfl, rfl, Below.refl _ _⟩
      case round =>
        obtain ⟨j, hj, rfl, rfl, hb⟩ := hrel
        have HJ := Lib.hid hb
        clear hb
        obtain ⟨m, hm⟩ : ∃ m, m = cntT at0 j := ⟨_, rfl⟩
        rw [← hm]
        have HM := Lib.hid hm
        have hm9 : m ≤ 64 := by rw [hm]; have := cntT_le at0 j; omega
        clear hm
        by_cases hlt2 : j < 64
        · have hj1 : (j : Int) < 64 := by omega
          have hjt : j < (takenL at0).length := by rw [taken_len]; exact hlt2
          cases ht : (takenL at0)[j] with
          | true =>
            have g1 : wr.cell? ⟨bt0, ot + j, none⟩ = some (.bool true) := by rw [← ht]; exact (HJ.out.cell (cell_lt (CT.out j hjt))).trans (CT.out j hjt)
            have HM2 : Hid (cntT at0 (j + 1) = m + 1) := by show _ = _; rw [cntT_step at0 j hjt, if_pos ht, HM.out]
            clear ht
            go_wp2_with fail
            go_roundw
            case rel => exact ⟨j + 1, by omega, by go_num, by rw [HM2.out]; go_num, HJ.out⟩
            case measure => simp [intOf]; omega
          | false =>
            have g1 : wr.cell? ⟨bt0, ot + j, none⟩ = some (.bool false) := by rw [← ht]; exact (HJ.out.cell (cell_lt (CT.out j hjt))).trans (CT.out j hjt)
            have HM2 : Hid (cntT at0 (j + 1) = m) := by show _ = _; rw [cntT_step at0 j hjt, if_neg (by rw [ht]; simp), HM.out, Nat.add_zero]
            clear ht
            go_wp2_with fail
            go_roundw
            case rel => exact ⟨j + 1, by omega, by go_num, by rw [HM2.out], HJ.out⟩
            case measure => simp [intOf]; omega
        · have hj64 : j = 64 := by omega
          have hnm : ((n : Int) == (m : Int)) = true := by
            have : m = n := by rw [HM.out, hj64, taken_count HSO.out, HN.out]
            rw [this]; simp
          have HBf := Lib.hid (bstep HB2.out HJ.out)
          have HIf := Lib.hid (HI2.out.below HJ.out)
          have hge : (64 : Int) ≤ (j : Int) := by omega
          clear hj64
          go_wp2_with fail
          refine (Apart_any none A [] at0 0 cp hal _ (Ints.nil _) HIf.out).mono ?_
          rintro e w5 ⟨rfl, hb⟩
          rw [HSO.out.apartNil]
          have HB5 := Lib.hid (bstep HBf.out hb)
          clear hb
          go_wp2_with fail
          go_ret
          exact ⟨rfl, HB5.out⟩
theorem counts_out (Z : Option Addr) (zs : List Int) (cz : Nat) (hl : 10 < zs.length) (W : World) (tied : Tied W) :
    Calls Tryd.prog 6 #[.slice Z zs.length cz] W fun e w' => e = .returned (.bool true) ∧ Below W.heap.size W w' := by
  have T := Lib.hid tied
  have hd : decide ((10 : Int) < (zs.length : Int)) = true := by simp; omega
  clear tied
  go_enter Tryd.func6, Tryd.ntmps6
  go_wp2_with fail
  refine (claim_awake _ T.out).mono ?_
  rintro e w1 ⟨rfl, hb⟩
  have HB1 := Lib.hid hb
  clear hb
  go_wp2_with fail
  refine (claim_awake _ (T.out.under T.out.lt HB1.out)).mono ?_
  rintro e w2 ⟨rfl, hb⟩
  have HB2 := Lib.hid (bstep HB1.out hb)
  clear hb
  go_wp2_with fail
  go_ret
  exact ⟨rfl, HB2.out⟩
theorem counts_walk (Z : Option Addr) (cz : Nat) (zs : List Int) (W : World) (h : IntsK .u8 W Z zs cz) (u : ∀ n ∈ zs, (Lit.int .u8 n).wf = true) (tied : Tied W) :
    Calls Tryd.prog 6 #[.slice Z zs.length cz] W fun e w' => e = .returned (.bool true) ∧ Below W.heap.size W w' := by
  by_cases hl : zs.length ≤ 10
  · exact counts_go Z zs cz hl W tied h (fun j hj => wf_u8 (u _ (rd_mem hj)))
  · exact counts_out Z zs cz (by omega) W tied
end Go.Proofs.YtfgbnnmaooillaaDoor
