/- ClaimBack: the walk. -/
import Derived.Test.YtfgbnnmaooillaaDoorClaimB
import Derived.Test.YtfgbnnmaooillaaDoorClaimE
import Derived.Test.YtfgbnnmaooillaaDoorClaimT
import Derived.Test.YtfgbnnmaooillaaDoorPintsx
import Derived.Deep.QuietTactic
import Derived.BigQuiet
namespace Go.Proofs.YtfgbnnmaooillaaDoor
open Go.RowKit Go.Extern.Stop Go.Stop Go.Extern Go.Proofs.YtfgbnnmaooillaaDoorW.PrintWords Go.Proofs.YtfgbnnmaooillaaDoorW.PrintLast Go.Proofs.YtfgbnnmaooillaaDoorW.PrintMore Go.Proofs.YtfgbnnmaooillaaDoor.PClaimTakes Go.Proofs.YtfgbnnmaooillaaDoor.Pints
set_option linter.unusedVariables false
set_option linter.unusedSimpArgs false

theorem IntsK.at {k : IntKind} {w : World} {A : Option Addr} {l : List Int} {c : Nat} (h : IntsK k w A l c) (hl : 0 < l.length) : ∃ b o, A = some ⟨b, o, none⟩ ∧ ∀ j, j < l.length → w.cell? ⟨b, o + j, none⟩ = some (.int k (rd l j)) := by
  obtain ⟨_, _, h3⟩ := h.1
  obtain ⟨ad, rfl, hc⟩ := h3 hl
  have hcc : ∀ j, j < l.length → w.cell? (ad.add j) = some (.int k (rd l j)) := by
    intro j hj
    obtain ⟨cs, _, hk, hcell⟩ := hc j _ (List.getElem?_eq_getElem hj)
    have := hcell 0 (.int k l[j]) (by rw [show cs = [Value.int k l[j]] from hk]; rfl)
    have e1 : (Kd.int k).sz = 1 := rfl
    rw [e1] at this
    rw [rd_nat l j hj]
    simpa using this
  obtain ⟨b, o, spot⟩ := ad
  have hspot : spot = none := by simpa [Addr.add] using World.cell?_spot (hcc 0 hl)
  subst hspot
  exact ⟨b, o, rfl, fun j hj => by have := hcc j hj; rw [Go.WideShapes.add_plain] at this; exact this⟩
theorem ints_same (l : List Int) (hl : l.length ≤ 1000) : ∀ (d i k : Nat), i + d = l.length → d < k → dynamolaw18_ints.l0 k l l i = some 1
  | 0, i, k, hi, hk => by
    obtain ⟨k, rfl⟩ : ∃ j, k = j + 1 := ⟨k - 1, by omega⟩
    rw [dynamolaw18_ints.l0, if_neg (by omega)]
  | d + 1, i, k, hi, hk => by
    obtain ⟨k, rfl⟩ : ∃ j, k = j + 1 := ⟨k - 1, by omega⟩
    have n1 : (i : Int) < (l.length : Int) := by omega
    have n2 : (0 : Int) ≤ (i : Int) := by omega
    rw [dynamolaw18_ints.l0, if_pos n1, if_pos n2, if_pos n1, if_pos rfl, wrap_nat (by omega)]
    exact ints_same l hl d (i + 1) k (by omega) (by omega)
theorem ints_one (A B : Option Addr) (l : List Int) (c d : Nat) (hl : l.length ≤ 1000) (W : World) (h1 : Ints W A l c) (h2 : Ints W B l d) : Calls Tryd.prog 15 #[.slice A l.length c, .slice B l.length d] W fun e w' => e = .returned (.int .i64 1) ∧ Below W.heap.size W w' :=
  (dynamolaw18_ints.calls (l.length + 1) A c l B d l 1 W h1.1 h1.2 h2.1 h2.2 (by unfold dynamolaw18_ints.f; rw [if_pos rfl]; exact ints_same l hl l.length 0 _ (by omega) (by omega))).mono fun _ _ ⟨he, hd⟩ => ⟨he, hd.below⟩
theorem Move_at {A : Option Addr} {l : List Int} {cp n : Nat} {r c : Int} (hn : l.length = n) (hl : l.length ≤ 1000) (W : World) (h : Ints W A l cp) :
    Calls Tryd.prog 14 #[.slice A n cp, .int .i64 r, .int .i64 c] W (PlacePost (moveL l r c) (moveC l r c) W) := by subst hn; exact Move_any A l cp r c hl W h
theorem Free_at {A : Option Addr} {l : List Int} {cp n : Nat} {c : Int} {b : Bool} (hn : l.length = n) (hb : freeB l c = b) (hl : l.length ≤ 1000) (W : World) (h : Ints W A l cp) : Calls Tryd.prog 16 #[.slice A n cp, .int .i64 c] W fun e w' => e = .returned (.bool b) ∧ Below W.heap.size W w' := by subst hn; exact free_any A l cp c hb hl W h
set_option maxRecDepth 100000 in
set_option maxHeartbeats 8000000 in
theorem back_go (Z : Option Addr) (zs : List Int) (cz : Nat) (a b : Int) (a0 : 0 ≤ a) (a1 : a ≤ 255) (b0 : 0 ≤ b) (b1 : b ≤ 255) (hl : zs.length ≤ 10) (W : World) (tied : Tied W) (h : IntsK .u8 W Z zs cz) (hw : ∀ j, j < zs.length → 0 ≤ rd zs j ∧ rd zs j ≤ 255) :
    Calls Tryd.prog 3 #[.slice Z zs.length cz, .int .u8 a, .int .u8 b] W fun e w' => e = .returned (.bool true) ∧ Below W.heap.size W w' := by
  have T := Lib.hid tied
  have HZ := Lib.hid h
  have HW := Lib.hid hw
  have hd : decide ((10 : Int) < (zs.length : Int)) = false := by simp; omega
  clear h tied hw
  go_enter Tryd.func3, Tryd.ntmps3
  go_wp2_with fail
  refine (claim_awake _ T.out).mono ?_
  rintro e w1 ⟨rfl, hb⟩
  have HB1 := Lib.hid hb
  clear hb
  go_wp2_with fail
  go_loopw [7, 8, 9, 10] (fun u i _ _ wl => ∃ (k : Nat) (A : Option Addr) (cp : Nat), k ≤ zs.length ∧ i = .int .i64 k ∧ u = .slice A (enterTo zs k).length cp ∧ Ints wl A (enterTo zs k) cp ∧ Below W.heap.size W wl) (fun _ i _ _ _ => zs.length - (intOf i).toNat)
  case atStart => exact ⟨0, none, 0, Nat.zero_le _, rfl, rfl, Ints.nil _, HB1.out⟩
  case round =>
    obtain ⟨k, A, cp, hk, rfl, rfl, hia, hb⟩ := hrel
    have HI := Lib.hid hia
    have HB := Lib.hid hb
    clear hia hb
    obtain ⟨at0, hat⟩ : ∃ at0, at0 = enterTo zs k := ⟨_, rfl⟩
    rw [← hat] at HI ⊢
    have HAT := Lib.hid hat
    have hal : at0.length ≤ 1000 := by rw [hat]; have := (enterTo_sound zs k).2; omega
    clear hat
    by_cases hlt : k < zs.length
    · as_aux_lemma =>
      have hltb : decide (k < zs.length) = true := by simpa using hlt
      obtain ⟨b1, o1, rfl, hc1⟩ := HZ.out.at (by omega)
      have hi1 : (k : Int) < (zs.length : Int) := by omega
      obtain ⟨z, hz⟩ : ∃ z, z = rd zs k := ⟨_, rfl⟩
      have x1 : wr.cell? ⟨b1, o1 + k, none⟩ = some (.int .u8 z) := by rw [hz]; exact (HB.out.cell (cell_lt (hc1 k hlt))).trans (hc1 k hlt)
      obtain ⟨z0, z1⟩ := HW.out k hlt
      rw [← hz] at z0 z1
      have HZZ := Lib.hid hz
      clear hz hc1
      go_wp2_with fail
      refine (Enter_any A at0 cp k (z % 64) hal _ HI.out).mono ?_
      rintro e w2 ⟨A2, c2, v2, rfl, hi2, he, hb⟩
      have HB2 := Lib.hid (bstep HB.out hb)
      have HI2 := Lib.hid hi2
      have HE2 := Lib.hid he
      have HIo := Lib.hid (HI.out.below hb)
      clear hi2 he hb x1
      go_wp2_with fail
      refine (Num_c _ v2 (enterC at0 k (z % 64)) HE2.out (T.out.under T.out.lt HB2.out)).mono ?_
      rintro e w3 ⟨rfl, hb⟩
      have HB3 := Lib.hid (bstep HB2.out hb)
      have HI3 := Lib.hid (HI2.out.below hb)
      have HI3o := Lib.hid (HIo.out.below hb)
      clear hb
      by_cases hc : enterC at0 k (z % 64) = 0
      · have hcb : (enterC at0 k (z % 64) == 0) = true := by simpa using hc
        have HS : Hid (enterL at0 k (z % 64) = enterTo zs (k + 1)) := by
          show _ = _
          rw [enterTo, ← HAT.out, ← HZZ.out, if_pos hc]; unfold enterL; rw [if_pos hc, Int.toNat_natCast]
        rw [HS.out] at HI3
        obtain ⟨n2, hn2⟩ : ∃ n, n = (enterL at0 k (z % 64)).length := ⟨_, rfl⟩
        rw [← hn2]
        have HN2 : Hid (n2 = (enterTo zs (k + 1)).length) := by rw [hn2, HS.out]; rfl
        clear hn2 hc
        go_wp2_with fail
        go_roundw
        case rel => exact ⟨k + 1, A2, c2, by omega, by go_num, by rw [HN2.out], HI3.out, HB3.out⟩
        case measure => simp [intOf]; omega
      · have hcb : (enterC at0 k (z % 64) == 0) = false := by simpa using hc
        have HS : Hid (at0 = enterTo zs (k + 1)) := by
          show _ = _
          rw [enterTo, ← HAT.out, ← HZZ.out, if_neg hc]
        clear hc
        go_wp2_with fail
        go_roundw
        case rel => exact ⟨k + 1, A, cp, by omega, by go_num, by rw [HS.out], by have h := HI3o.out; rw [HS.out] at h; exact h, HB3.out⟩
        case measure => simp [intOf]; omega
    · as_aux_lemma =>
      have hltb : decide (k < zs.length) = false := by simpa using hlt
      have HSO : Hid (Sound at0) := by rw [HAT.out]; exact (enterTo_sound zs k).1
      obtain ⟨r, hr⟩ : ∃ r : Nat, a % 10 = (r : Int) := ⟨(a % 10).toNat, by omega⟩
      obtain ⟨t, ht⟩ : ∃ t : Int, b % 64 = t := ⟨_, rfl⟩
      clear HAT
      go_wp2_with fail
      refine (Move_any A at0 cp r t hal _ HI.out).mono ?_
      rintro e w2 ⟨A2, c2, v2, rfl, hi2, he, hb⟩
      have HB2 := Lib.hid (bstep HB.out hb)
      have HX := Lib.hid hi2
      have HE2 := Lib.hid he
      have HIo := Lib.hid (HI.out.below hb)
      clear hi2 he hb
      go_wp2_with fail
      refine (Num_c _ v2 (moveC at0 r t) HE2.out (T.out.under T.out.lt HB2.out)).mono ?_
      rintro e w3 ⟨rfl, hb⟩
      have HB3 := Lib.hid (bstep HB2.out hb)
      have HX3 := Lib.hid (HX.out.below hb)
      have HI3 := Lib.hid (HIo.out.below hb)
      clear hb
      by_cases hc : moveC at0 r t = 0
      · have hcb : (moveC at0 r t != 0) = false := by simpa using hc
        obtain ⟨q1, q2, q3, q4, q5⟩ := move_back HSO.out hc
        rw [q2] at HX3 ⊢
        obtain ⟨x, hx⟩ : ∃ x, x = withL at0 r t := ⟨_, rfl⟩
        obtain ⟨p, hp⟩ : ∃ p, p = placeL at0 r := ⟨_, rfl⟩
        have hxl : x.length = at0.length := by rw [hx, withL_length]; omega
        have hxp : ∀ i, placeL x i = if i = r then t else placeL at0 i := fun i => by rw [hx]; exact placeL_with _ _ _ _
        rw [← hx] at HX3 q3 q4 q5 ⊢
        rw [← hp] at q3 q4 q5
        rw [hxl]
        have hpd := placeL_lt at0 r q1
        have HXL := Lib.hid hxl
        have HXP := Lib.hid hxp
        have HP : Hid (rd at0 r = p) := by rw [hp, hpd]; rfl
        have Q3 := Lib.hid q3
        have Q4 := Lib.hid q4
        have Q5 := Lib.hid q5
        have hxl9 : x.length ≤ 1000 := by omega
        clear hc hx hp hxl hxp hpd q2 q3 q4 q5
        obtain ⟨ba, oa, rfl, hca⟩ := HI3.out.at (by omega)
        obtain ⟨bx, ox, rfl, hcx⟩ := HX3.out.at (by have := HXL.out; omega)
        have CA := Lib.hid hca
        have CX := Lib.hid hcx
        have hri : (r : Int) < (at0.length : Int) := by omega
        have y1 : w3.cell? ⟨ba, oa + r, none⟩ = some (.int .i64 p) := by rw [hca r q1, HP.out]
        clear hca hcx
        go_wp2_with fail
        refine (Move_at (r := r) (c := p) HXL.out hxl9 _ HX3.out).mono ?_
        intro e w4 hpp
        obtain ⟨A4, c4, rfl, hi4, hb⟩ := place_ok Q4.out Q3.out hpp
        have HB4 := Lib.hid (bstep HB3.out hb)
        have HY4 := Lib.hid hi4
        have HI4 := Lib.hid (HI3.out.below hb)
        have HX4 := Lib.hid (HX3.out.below hb)
        have CA4 : Hid (∀ j, j < at0.length → w4.cell? ⟨ba, oa + j, none⟩ = some (.int .i64 (rd at0 j))) := fun j hj => (hb.cell (cell_lt (CA.out j hj))).trans (CA.out j hj)
        have CX4 : Hid (∀ j, j < x.length → w4.cell? ⟨bx, ox + j, none⟩ = some (.int .i64 (rd x j))) := fun j hj => (hb.cell (cell_lt (CX.out j hj))).trans (CX.out j hj)
        clear hpp hi4 hb y1
        go_wp2_with fail
        go_loopw [17] (fun i wl => ∃ j : Nat, j ≤ at0.length ∧ i = .int .i64 j ∧ Below w4.heap.size w4 wl) (fun i _ => at0.length - (intOf i).toNat)
        case atStart => exact ⟨0, Nat.zero_le _, rfl, Below.refl _ _⟩
        case round =>
          obtain ⟨j, hj, rfl, hb⟩ := hrel
          have HJ := Lib.hid hb
          clear hb
          by_cases hlt2 : j < at0.length
          · have hltb2 : decide (j < at0.length) = true := by simpa using hlt2
            have hj1 : (j : Int) < (at0.length : Int) := by omega
            have hjx : j < x.length := by have := HXL.out; omega
            by_cases hjr : j = r
            · have hjb : ((j : Int) != (r : Int)) = false := by simp; omega
              clear hjr
              go_wp2_with fail
              go_quiet (fail)
              go_wp2_with fail
              go_roundw
              case rel => exact ⟨j + 1, by omega, by go_num, bstep HJ.out (Drawn0.below ⟨⟨_, rfl⟩⟩)⟩
              case measure => simp [intOf]; omega
            · have hjb : ((j : Int) != (r : Int)) = true := by simp; omega
              have hex : rd x j = rd at0 j := by rw [← placeL_lt x j hjx, HXP.out, if_neg hjr, placeL_lt at0 j hlt2]
              obtain ⟨v, hv⟩ : ∃ v, v = rd at0 j := ⟨_, rfl⟩
              have g1 : wr.cell? ⟨ba, oa + j, none⟩ = some (.int .i64 v) := by rw [hv]; exact (HJ.out.cell (cell_lt (CA4.out j hlt2))).trans (CA4.out j hlt2)
              have g2 : wr.cell? ⟨bx, ox + j, none⟩ = some (.int .i64 v) := by rw [hv, ← hex]; exact (HJ.out.cell (cell_lt (CX4.out j hjx))).trans (CX4.out j hjx)
              clear hjr hex hv
              go_wp2_with fail
              go_quiet (fail)
              go_wp2_with fail
              go_roundw
              case rel => exact ⟨j + 1, by omega, by go_num, bstep HJ.out (Drawn0.below ⟨⟨_, rfl⟩⟩)⟩
              case measure => simp [intOf]; omega
          · have hltb2 : decide (j < at0.length) = false := by simpa using hlt2
            have HBf := Lib.hid (bstep HB4.out HJ.out)
            have HYf := Lib.hid (HY4.out.below HJ.out)
            have HIf := Lib.hid (HI4.out.below HJ.out)
            have HXf := Lib.hid (HX4.out.below HJ.out)
            have hrx : r < x.length := by have := HXL.out; omega
            have GA : Hid (wr.cell? ⟨ba, oa + r, none⟩ = some (.int .i64 p)) := by show _ = _; rw [← HP.out]; exact (HJ.out.cell (cell_lt (CA4.out r q1))).trans (CA4.out r q1)
            have GX : Hid (wr.cell? ⟨bx, ox + r, none⟩ = some (.int .i64 t)) := by
              have e : rd x r = t := by rw [← placeL_lt x r hrx, HXP.out, if_pos rfl]
              show _ = _; rw [← e]; exact (HJ.out.cell (cell_lt (CX4.out r hrx))).trans (CX4.out r hrx)
            go_wp2_with fail
            refine (Num_nil _).mono ?_
            rintro e w6 ⟨rfl, rfl⟩
            go_wp2_with fail
            refine (ints_one A4 (some ⟨ba, oa, none⟩) at0 c4 cp hal _ HYf.out HIf.out).mono ?_
            rintro e w7 ⟨rfl, hb⟩
            have HB7 := Lib.hid (bstep HBf.out hb)
            have HX7 := Lib.hid (HXf.out.below hb)
            have ga : w7.cell? ⟨ba, oa + r, none⟩ = some (.int .i64 p) := (hb.cell (cell_lt GA.out)).trans GA.out
            have gx : w7.cell? ⟨bx, ox + r, none⟩ = some (.int .i64 t) := (hb.cell (cell_lt GX.out)).trans GX.out
            clear hb
            by_cases hpt : p = t
            · have hpb : (p == t) = true := by simpa using hpt
              clear hpt
              go_wp2_with fail
              go_ret
              exact ⟨rfl, HB7.out⟩
            · have hpb : (p == t) = false := by simpa using hpt
              have hfr := Lib.hid (Free_at (n := at0.length) HXL.out (Q5.out.resolve_left hpt) hxl9 _ HX7.out)
              clear hpt
              go_wp2_with fail
              refine hfr.out.mono ?_
              rintro e w8 ⟨rfl, hb⟩
              have HB8 := Lib.hid (bstep HB7.out hb)
              clear hb
              go_wp2_with fail
              go_ret
              exact ⟨rfl, HB8.out⟩
      · have hcb : (moveC at0 r t != 0) = true := by simpa using hc
        have HL : Hid (moveL at0 r t = []) := by show _ = _; unfold moveL; rw [if_neg hc]
        clear hc
        rw [HL.out]
        go_wp2_with fail
        go_ret
        exact ⟨rfl, HB3.out⟩
theorem back_out (Z : Option Addr) (zs : List Int) (cz : Nat) (a b : Int) (hl : 10 < zs.length) (W : World) (tied : Tied W) :
    Calls Tryd.prog 3 #[.slice Z zs.length cz, .int .u8 a, .int .u8 b] W fun e w' => e = .returned (.bool true) ∧ Below W.heap.size W w' := by
  have T := Lib.hid tied
  have hd : decide ((10 : Int) < (zs.length : Int)) = true := by simp; omega
  clear tied
  go_enter Tryd.func3, Tryd.ntmps3
  go_wp2_with fail
  refine (claim_awake _ T.out).mono ?_
  rintro e w1 ⟨rfl, hb⟩
  have HB1 := Lib.hid hb
  clear hb
  go_wp2_with fail
  refine (claim_awake _ (T.out.under T.out.lt HB1.out)).mono ?_
  rintro e w2 ⟨rfl, hb⟩
  have HB2 := Lib.hid (bstep HB1.out hb)
  clear hb
  go_wp2_with fail
  go_ret
  exact ⟨rfl, HB2.out⟩
theorem back_walk (Z : Option Addr) (cz : Nat) (zs : List Int) (a b : Int) (W : World) (h : IntsK .u8 W Z zs cz) (u : ∀ n ∈ zs, (Lit.int .u8 n).wf = true) (w1 : (Lit.int .u8 a).wf = true) (w2 : (Lit.int .u8 b).wf = true) (tied : Tied W) :
    Calls Tryd.prog 3 #[.slice Z zs.length cz, .int .u8 a, .int .u8 b] W fun e w' => e = .returned (.bool true) ∧ Below W.heap.size W w' := by
  by_cases hl : zs.length ≤ 10
  · exact back_go Z zs cz a b (wf_u8 w1).1 (wf_u8 w1).2 (wf_u8 w2).1 (wf_u8 w2).2 hl W tied h (fun j hj => wf_u8 (u _ (rd_mem hj)))
  · exact back_out Z zs cz a b (by omega) W tied
end Go.Proofs.YtfgbnnmaooillaaDoor
