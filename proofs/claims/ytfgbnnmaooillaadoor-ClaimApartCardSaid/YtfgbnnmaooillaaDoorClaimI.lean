/- ClaimApart: the walk. -/
import Derived.Test.YtfgbnnmaooillaaDoorClaimH
namespace Go.Proofs.YtfgbnnmaooillaaDoor
open Go.RowKit Go.Extern.Stop Go.Stop Go.Extern Go.Proofs.YtfgbnnmaooillaaDoorW.PrintWords Go.Proofs.YtfgbnnmaooillaaDoorW.PrintLast Go.Proofs.YtfgbnnmaooillaaDoorW.PrintMore Go.Proofs.YtfgbnnmaooillaaDoor.PClaimTakes Go.Proofs.YtfgbnnmaooillaaDoor.PTaken
set_option linter.unusedVariables false
set_option linter.unusedSimpArgs false

/-- from was to now robots went, if at all, into cells that nobody had -/
structure Moved (was now : List Int) : Prop where
  sound : Sound now
  len : now.length ≤ 10
  new : ∀ i, placeL now i = placeL was i ∨ ∀ k, placeL was k ≠ placeL now i
theorem Moved.step {was now : List Int} (h : Moved was now) {r : Nat} {c : Int} (hr : r ≤ 9) (hc : moveC now r c = 0) (hf : ∀ k, placeL was k ≠ c) : Moved was (withL now r c) := by
  obtain ⟨hm, ho, hfr⟩ := moveC_zero hc
  rw [Int.toNat_natCast] at ho hfr
  obtain ⟨_, _, c0, c1⟩ := mayB_c hm
  have hon : placeL now r ≠ -1 := by unfold onB at ho; simpa using ho
  refine ⟨h.sound.with r c c0 c1 fun i hi => ?_, by rw [withL_length]; have := h.len; omega, fun i => ?_⟩
  · rcases hfr with e | e
    · rw [← e]; exact fun z => h.sound.apart r i (Ne.symm hi) hon z.symm
    · exact free_place e (by omega) i
  · rw [placeL_with]
    by_cases q : i = r
    · rw [if_pos q]; exact .inr hf
    · rw [if_neg q]; exact h.new i
theorem Moved.apart {was now : List Int} (h : Moved was now) : apartB was now = true := by
  refine apartB_true fun i k _ hk => ?_
  unfold oddB oddI
  rw [decide_eq_false_iff_not]
  rintro ⟨h1, h2 | ⟨h2, h3, h4, h5⟩⟩
  · exact h.sound.apart i k (by omega) h1 h2
  · rcases h.new i with e | e
    · exact h5 e
    · exact e k h3.symm
theorem Sound.self {l : List Int} (h : Sound l) : apartB l l = true := by
  refine apartB_true fun i k _ hk => ?_
  unfold oddB oddI
  rw [decide_eq_false_iff_not]
  rintro ⟨h1, h2 | ⟨h2, h3, h4, h5⟩⟩
  · exact h.apart i k (by omega) h1 h2
  · exact h5 rfl
theorem Apart_val {A B : Option Addr} {was now : List Int} {c d : Nat} {z : Bool} (hz : apartB was now = z) (hl : now.length ≤ 1000) (W : World) (h1 : Ints W A was c) (h2 : Ints W B now d) :
    Calls Tryd.prog 18 #[.slice A was.length c, .slice B now.length d] W fun e w' => e = .returned (.bool z) ∧ Below W.heap.size W w' := by
  rw [← hz]; exact Apart_any A B was now c d hl W h1 h2
theorem left_new {was : List Int} {c : Nat} (hc : c < 64) (h : (takenL was)[c]'(by rw [taken_len]; exact hc) = false) : ∀ k, placeL was k ≠ (c : Int) := by
  intro k e
  have hm : (c : Int) ∈ was := taken_mem e (by omega)
  simp [takenL, mapR] at h
  exact h hm
set_option maxRecDepth 100000 in
set_option maxHeartbeats 8000000 in
theorem apart_go (Z : Option Addr) (zs : List Int) (cz : Nat) (R : Option Addr) (rs : List Int) (cr : Nat) (O : Option Addr) (ts : List Int) (co : Nat) (hl : zs.length ≤ 10) (ht60 : ts.length ≤ 60) (hrt : ts.length ≤ rs.length) (W : World) (tied : Tied W) (h : IntsK .u8 W Z zs cz) (hw : ∀ j, j < zs.length → 0 ≤ rd zs j ∧ rd zs j ≤ 255) (h2 : IntsK .u8 W R rs cr) (hw2 : ∀ j, j < rs.length → 0 ≤ rd rs j ∧ rd rs j ≤ 255) (h3 : IntsK .u8 W O ts co) (hw3 : ∀ j, j < ts.length → 0 ≤ rd ts j ∧ rd ts j ≤ 255) :
    Calls Tryd.prog 9 #[.slice Z zs.length cz, .slice R rs.length cr, .slice O ts.length co] W fun e w' => e = .returned (.bool true) ∧ Below W.heap.size W w' := by
  have T := Lib.hid tied
  have HZ := Lib.hid h
  have HW := Lib.hid hw
  have HR := Lib.hid h2
  have HW2 := Lib.hid hw2
  have HO := Lib.hid h3
  have HW3 := Lib.hid hw3
  have hr9 : rs.length ≤ 9223372036854775807 := h2.1.2.1
  have hd : decide ((10 : Int) < (zs.length : Int)) = false := by simp; omega
  have hd2 : decide ((60 : Int) < (ts.length : Int)) = false := by simp; omega
  have hd3 : decide (rs.length < ts.length) = false := by simp; omega
  clear h tied hw h2 h3 hw2 hw3
  go_enter Tryd.func9, Tryd.ntmps9
  go_wp2_with fail
  refine (claim_awake _ T.out).mono ?_
  rintro e w1 ⟨rfl, hb⟩
  have HB1 := Lib.hid hb
  clear hb
  go_wp2_with fail
  go_loopw [7, 8, 9, 10] (fun u i _ _ wl => ∃ (k : Nat) (A : Option Addr) (cp : Nat), k ≤ zs.length ∧ i = .int .i64 k ∧ u = .slice A (enterTo zs k).length cp ∧ Ints wl A (enterTo zs k) cp ∧ Below W.heap.size W wl) (fun _ i _ _ _ => zs.length - (intOf i).toNat)
  case atStart => exact ⟨0, none, 0, Nat.zero_le _, rfl, rfl, Ints.nil _, HB1.out⟩
  case round =>
    obtain ⟨k, A, cp, hk, rfl, rfl, hia, hb⟩ := hrel
    have HI := Lib.hid hia
    have HB := Lib.hid hb
    clear hia hb
    obtain ⟨at0, hat⟩ : ∃ at0, at0 = enterTo zs k := ⟨_, rfl⟩
    rw [← hat] at HI ⊢
    have HAT := Lib.hid hat
    have hal : at0.length ≤ 1000 := by rw [hat]; have := (enterTo_sound zs k).2; omega
    clear hat
    by_cases hlt : k < zs.length
    · as_aux_lemma =>
      have hltb : decide (k < zs.length) = true := by simpa using hlt
      obtain ⟨b1, o1, rfl, hc1⟩ := HZ.out.at (by omega)
      have hi1 : (k : Int) < (zs.length : Int) := by omega
      obtain ⟨z, hz⟩ : ∃ z, z = rd zs k := ⟨_, rfl⟩
      have x1 : wr.cell? ⟨b1, o1 + k, none⟩ = some (.int .u8 z) := by rw [hz]; exact (HB.out.cell (cell_lt (hc1 k hlt))).trans (hc1 k hlt)
      obtain ⟨z0, z1⟩ := HW.out k hlt
      rw [← hz] at z0 z1
      have HZZ := Lib.hid hz
      clear hz hc1
      go_wp2_with fail
      refine (Enter_any A at0 cp k (z % 64) hal _ HI.out).mono ?_
      rintro e w2 ⟨A2, c2, v2, rfl, hi2, he, hb⟩
      have HB2 := Lib.hid (bstep HB.out hb)
      have HI2 := Lib.hid hi2
      have HE2 := Lib.hid he
      have HIo := Lib.hid (HI.out.below hb)
      clear hi2 he hb x1
      go_wp2_with fail
      refine (Num_c _ v2 (enterC at0 k (z % 64)) HE2.out (T.out.under T.out.lt HB2.out)).mono ?_
      rintro e w3 ⟨rfl, hb⟩
      have HB3 := Lib.hid (bstep HB2.out hb)
      have HI3 := Lib.hid (HI2.out.below hb)
      have HI3o := Lib.hid (HIo.out.below hb)
      clear hb
      by_cases hc : enterC at0 k (z % 64) = 0
      · have hcb : (enterC at0 k (z % 64) == 0) = true := by simpa using hc
        have HS : Hid (enterL at0 k (z % 64) = enterTo zs (k + 1)) := by
          show _ = _
          rw [enterTo, ← HAT.out, ← HZZ.out, if_pos hc]; unfold enterL; rw [if_pos hc, Int.toNat_natCast]
        rw [HS.out] at HI3
        obtain ⟨n2, hn2⟩ : ∃ n, n = (enterL at0 k (z % 64)).length := ⟨_, rfl⟩
        rw [← hn2]
        have HN2 : Hid (n2 = (enterTo zs (k + 1)).length) := by rw [hn2, HS.out]; rfl
        clear hn2 hc
        go_wp2_with fail
        go_roundw
        case rel => exact ⟨k + 1, A2, c2, by omega, by go_num, by rw [HN2.out], HI3.out, HB3.out⟩
        case measure => simp [intOf]; omega
      · have hcb : (enterC at0 k (z % 64) == 0) = false := by simpa using hc
        have HS : Hid (at0 = enterTo zs (k + 1)) := by
          show _ = _
          rw [enterTo, ← HAT.out, ← HZZ.out, if_neg hc]
        clear hc
        go_wp2_with fail
        go_roundw
        case rel => exact ⟨k + 1, A, cp, by omega, by go_num, by rw [HS.out], by have h := HI3o.out; rw [HS.out] at h; exact h, HB3.out⟩
        case measure => simp [intOf]; omega
    · as_aux_lemma =>
      have hltb : decide (k < zs.length) = false := by simpa using hlt
      have HMV : Hid (Moved at0 at0) := by
        have hs := enterTo_sound zs k
        rw [← HAT.out] at hs
        exact ⟨hs.1, by have := hs.2; omega, fun i => .inl rfl⟩
      clear HAT
      go_wp2_with fail
      refine (Taken_any A at0 cp hal _ HI.out).mono ?_
      rintro e w2 ⟨Bt, ct, rfl, ht, hb⟩
      have HB2 := Lib.hid (bstep HB.out hb)
      have HI2 := Lib.hid (HI.out.below hb)
      have HT2 := Lib.hid ht
      clear ht hb
      obtain ⟨bt0, ot, rfl, hct⟩ := HT2.out.at (by rw [taken_len]; omega)
      have CT := Lib.hid hct
      clear hct
      go_wp2_with fail
      go_loopw [7, 13, 14, 15, 16] (fun u i _ _ _ wl => ∃ (j : Nat) (now : List Int) (A' : Option Addr) (cp' : Nat), j ≤ ts.length ∧ i = .int .i64 j ∧ u = .slice A' now.length cp' ∧ Hid (Moved at0 now) ∧ Ints wl A' now cp' ∧ Below w2.heap.size w2 wl) (fun _ i _ _ _ _ => ts.length - (intOf i).toNat)
      case atStart => exact ⟨0, at0, A, cp, by omega, rfl, rfl, HMV.out, HI2.out, Below.refl _ _⟩
      case round =>
        obtain ⟨j, now, A', cp', hj, rfl, rfl, HM, hia, hb⟩ := hrel
        have HJ := Lib.hid hb
        have HN := Lib.hid hia
        have hnl : now.length ≤ 1000 := by have := HM.out.len; omega
        clear hb hia
        by_cases hlt2 : j < ts.length
        · as_aux_lemma =>
          have hltb2 : decide (j < ts.length) = true := by simpa using hlt2
          obtain ⟨b1, o1, rfl, hc1⟩ := HO.out.at (by omega)
          obtain ⟨b2, o2, rfl, hc2⟩ := HR.out.at (by omega)
          have hj1 : (j : Int) < (ts.length : Int) := by omega
          have hj2 : (j : Int) < (rs.length : Int) := by omega
          obtain ⟨z, hz⟩ : ∃ z, z = rd ts j := ⟨_, rfl⟩
          obtain ⟨y, hy⟩ : ∃ y, y = rd rs j := ⟨_, rfl⟩
          have HBJ := Lib.hid (bstep HB2.out HJ.out)
          have x1 : wr.cell? ⟨b1, o1 + j, none⟩ = some (.int .u8 z) := by rw [hz]; exact (HBJ.out.cell (cell_lt (hc1 j hlt2))).trans (hc1 j hlt2)
          have x2 : wr.cell? ⟨b2, o2 + j, none⟩ = some (.int .u8 y) := by rw [hy]; exact (HBJ.out.cell (cell_lt (hc2 j (by omega)))).trans (hc2 j (by omega))
          obtain ⟨z0, z1⟩ := HW3.out j hlt2
          obtain ⟨y0, y1⟩ := HW2.out j (by omega)
          rw [← hz] at z0 z1
          rw [← hy] at y0 y1
          clear hz hy hc1 hc2
          obtain ⟨c, hc⟩ : ∃ c : Nat, z % 64 = (c : Int) := ⟨(z % 64).toNat, by omega⟩
          obtain ⟨r, hr⟩ : ∃ r : Nat, y % 10 = (r : Int) := ⟨(y % 10).toNat, by omega⟩
          have hc64 : c < 64 := by omega
          have hr9 : r ≤ 9 := by omega
          have hc1 : (c : Int) < 64 := by omega
          have hct : c < (takenL at0).length := by rw [taken_len]; exact hc64
          cases htk : (takenL at0)[c] with
          | true =>
            have g1 : wr.cell? ⟨bt0, ot + c, none⟩ = some (.bool true) := by rw [← htk]; exact (HJ.out.cell (cell_lt (CT.out c hct))).trans (CT.out c hct)
            clear htk
            go_wp2_with fail
            go_roundw
            case rel => exact ⟨j + 1, now, A', cp', by omega, by go_num, rfl, HM, HN.out, HJ.out⟩
            case measure => simp [intOf]; omega
          | false =>
            have g1 : wr.cell? ⟨bt0, ot + c, none⟩ = some (.bool false) := by rw [← htk]; exact (HJ.out.cell (cell_lt (CT.out c hct))).trans (CT.out c hct)
            have HNW := Lib.hid (left_new hc64 htk)
            clear htk
            go_wp2_with fail
            refine (Move_any A' now cp' r c hnl _ HN.out).mono ?_
            rintro e w3 ⟨A3, c3, v3, rfl, hi3, he, hb⟩
            have HJ3 := Lib.hid (bstep HJ.out hb)
            have HX3 := Lib.hid hi3
            have HE3 := Lib.hid he
            have HN3 := Lib.hid (HN.out.below hb)
            clear hi3 he hb g1 x1 x2
            go_wp2_with fail
            refine (Num_c _ v3 (moveC now r c) HE3.out (T.out.under T.out.lt (bstep HB2.out HJ3.out))).mono ?_
            rintro e w4 ⟨rfl, hb⟩
            have HJ4 := Lib.hid (bstep HJ3.out hb)
            have HX4 := Lib.hid (HX3.out.below hb)
            have HN4 := Lib.hid (HN3.out.below hb)
            clear hb
            by_cases hmc : moveC now r c = 0
            · have hcb : (moveC now r c == 0) = true := by simpa using hmc
              have hml : moveL now r c = withL now r c := by unfold moveL; rw [if_pos hmc, Int.toNat_natCast]
              rw [hml] at HX4 ⊢
              obtain ⟨nx, hnx⟩ : ∃ nx, nx = withL now r c := ⟨_, rfl⟩
              have HMX : Hid (Moved at0 nx) := by rw [hnx]; exact HM.out.step hr9 hmc HNW.out
              rw [← hnx] at HX4 ⊢
              have hnxl : nx.length ≤ 1000 := by have := HMX.out.len; omega
              clear hmc hml hnx
              go_wp2_with fail
              refine (Apart_val HMX.out.apart hnxl _ (HI2.out.below HJ4.out) HX4.out).mono ?_
              rintro e w5 ⟨rfl, hb⟩
              have HJ5 := Lib.hid (bstep HJ4.out hb)
              have HX5 := Lib.hid (HX4.out.below hb)
              clear hb
              go_wp2_with fail
              go_roundw
              case rel => exact ⟨j + 1, nx, A3, c3, by omega, by go_num, rfl, HMX, HX5.out, HJ5.out⟩
              case measure => simp [intOf]; omega
            · have hcb : (moveC now r c == 0) = false := by simpa using hmc
              clear hmc
              go_wp2_with fail
              refine (Apart_val HM.out.apart hnl _ (HI2.out.below HJ4.out) HN4.out).mono ?_
              rintro e w5 ⟨rfl, hb⟩
              have HJ5 := Lib.hid (bstep HJ4.out hb)
              have HN5 := Lib.hid (HN4.out.below hb)
              clear hb
              go_wp2_with fail
              go_roundw
              case rel => exact ⟨j + 1, now, A', cp', by omega, by go_num, rfl, HM, HN5.out, HJ5.out⟩
              case measure => simp [intOf]; omega
        · have hltb2 : decide (j < ts.length) = false := by simpa using hlt2
          have HBf := Lib.hid (bstep HB2.out HJ.out)
          go_wp2_with fail
          refine (Apart_val HM.out.sound.self hnl _ HN.out HN.out).mono ?_
          rintro e w5 ⟨rfl, hb⟩
          have HB5 := Lib.hid (bstep HBf.out hb)
          clear hb
          go_wp2_with fail
          go_ret
          exact ⟨rfl, HB5.out⟩
set_option maxRecDepth 100000 in
theorem apart_out (Z : Option Addr) (zs : List Int) (cz : Nat) (R : Option Addr) (rs : List Int) (cr : Nat) (O : Option Addr) (ts : List Int) (co : Nat) (ho : 10 < zs.length ∨ 60 < ts.length ∨ rs.length < ts.length) (W : World) (tied : Tied W) :
    Calls Tryd.prog 9 #[.slice Z zs.length cz, .slice R rs.length cr, .slice O ts.length co] W fun e w' => e = .returned (.bool true) ∧ Below W.heap.size W w' := by
  have T := Lib.hid tied
  clear tied
  rcases (show 10 < zs.length ∨ (zs.length ≤ 10 ∧ 60 < ts.length) ∨ (zs.length ≤ 10 ∧ ts.length ≤ 60 ∧ rs.length < ts.length) by omega) with h1 | ⟨h1, h2⟩ | ⟨h1, h2, h3⟩
  · have hd1 : decide ((10 : Int) < (zs.length : Int)) = true := by simp; omega
    clear ho
    go_enter Tryd.func9, Tryd.ntmps9
    go_wp2_with fail
    refine (claim_awake _ T.out).mono ?_
    rintro e w1 ⟨rfl, hb⟩
    have HB1 := Lib.hid hb
    clear hb
    go_wp2_with fail
    refine (claim_awake _ (T.out.under T.out.lt HB1.out)).mono ?_
    rintro e w2 ⟨rfl, hb⟩
    have HB2 := Lib.hid (bstep HB1.out hb)
    clear hb
    go_wp2_with fail
    go_ret
    exact ⟨rfl, HB2.out⟩
  · have hd1 : decide ((10 : Int) < (zs.length : Int)) = false := by simp; omega
    have hd2 : decide ((60 : Int) < (ts.length : Int)) = true := by simp; omega
    clear ho
    go_enter Tryd.func9, Tryd.ntmps9
    go_wp2_with fail
    refine (claim_awake _ T.out).mono ?_
    rintro e w1 ⟨rfl, hb⟩
    have HB1 := Lib.hid hb
    clear hb
    go_wp2_with fail
    refine (claim_awake _ (T.out.under T.out.lt HB1.out)).mono ?_
    rintro e w2 ⟨rfl, hb⟩
    have HB2 := Lib.hid (bstep HB1.out hb)
    clear hb
    go_wp2_with fail
    go_ret
    exact ⟨rfl, HB2.out⟩
  · have hd1 : decide ((10 : Int) < (zs.length : Int)) = false := by simp; omega
    have hd2 : decide ((60 : Int) < (ts.length : Int)) = false := by simp; omega
    have hd3 : decide (rs.length < ts.length) = true := by simp; omega
    clear ho
    go_enter Tryd.func9, Tryd.ntmps9
    go_wp2_with fail
    refine (claim_awake _ T.out).mono ?_
    rintro e w1 ⟨rfl, hb⟩
    have HB1 := Lib.hid hb
    clear hb
    go_wp2_with fail
    refine (claim_awake _ (T.out.under T.out.lt HB1.out)).mono ?_
    rintro e w2 ⟨rfl, hb⟩
    have HB2 := Lib.hid (bstep HB1.out hb)
    clear hb
    go_wp2_with fail
    go_ret
    exact ⟨rfl, HB2.out⟩
theorem apart_walk (Z : Option Addr) (cz : Nat) (zs : List Int) (R : Option Addr) (cr : Nat) (rs : List Int) (O : Option Addr) (co : Nat) (ts : List Int) (W : World) (h1 : IntsK .u8 W Z zs cz) (u1 : ∀ n ∈ zs, (Lit.int .u8 n).wf = true) (h2 : IntsK .u8 W R rs cr) (u2 : ∀ n ∈ rs, (Lit.int .u8 n).wf = true) (h3 : IntsK .u8 W O ts co) (u3 : ∀ n ∈ ts, (Lit.int .u8 n).wf = true) (tied : Tied W) :
    Calls Tryd.prog 9 #[.slice Z zs.length cz, .slice R rs.length cr, .slice O ts.length co] W fun e w' => e = .returned (.bool true) ∧ Below W.heap.size W w' := by
  by_cases ho : 10 < zs.length ∨ 60 < ts.length ∨ rs.length < ts.length
  · exact apart_out Z zs cz R rs cr O ts co ho W tied
  · exact apart_go Z zs cz R rs cr O ts co (by omega) (by omega) (by omega) W tied h1 (fun j hj => wf_u8 (u1 _ (rd_mem hj))) h2 (fun j hj => wf_u8 (u2 _ (rd_mem hj))) h3 (fun j hj => wf_u8 (u3 _ (rd_mem hj)))
end Go.Proofs.YtfgbnnmaooillaaDoor
