/- ClaimTwo: the walk. -/
import Derived.Test.YtfgbnnmaooillaaDoorClaimB
import Derived.Test.YtfgbnnmaooillaaDoorClaimC
import Derived.Test.YtfgbnnmaooillaaDoorClaimT
import Derived.Deep.QuietTactic
import Derived.BigQuiet
namespace Go.Proofs.YtfgbnnmaooillaaDoor
open Go.RowKit Go.Extern.Stop Go.Stop Go.Extern Go.Proofs.YtfgbnnmaooillaaDoorW.PrintWords Go.Proofs.YtfgbnnmaooillaaDoorW.PrintLast Go.Proofs.YtfgbnnmaooillaaDoorW.PrintMore Go.Proofs.YtfgbnnmaooillaaDoor.PClaimTakes Go.Proofs.YtfgbnnmaooillaaDoor.Pplace
set_option linter.unusedVariables false
set_option linter.unusedSimpArgs false

theorem at_quiet (A : Option Addr) (l : List Int) (cp : Nat) (r : Nat) (W : World) (q : Nat) (h : Ints W A l cp) : Calls Tryd.prog 17 #[.slice A l.length cp, .int .i64 r] (W.drewN q) fun e w' => e = .returned (.int .i64 (placeL l r)) ∧ ∃ m, w' = W.drewN m :=
  Calls.quiet_of ((dynamoref18_At.calls A cp l r _ _ (h.below (Drawn0.below ⟨⟨q, rfl⟩⟩)).1 h.2 (at_f l r)).mono fun _ _ ⟨he, hd⟩ => ⟨he, hd.out⟩)
theorem Apart_eq {A B : Option Addr} {was now : List Int} {c d : Nat} {z : Bool} (hz : apartB was now = z) (hl : now.length ≤ 1000) (W : World) (h1 : Ints W A was c) (h2 : Ints W B now d) :
    Calls Tryd.prog 18 #[.slice A was.length c, .slice B now.length d] W fun e w' => e = .returned (.bool z) ∧ Below W.heap.size W w' := by
  rw [← hz]; exact Apart_any A B was now c d hl W h1 h2
set_option maxRecDepth 100000 in
set_option maxHeartbeats 8000000 in
theorem two_go (A B : Option Addr) (was now : List Int) (c d : Nat) (hl1 : was.length ≤ 40) (hl2 : now.length ≤ 40) (W : World) (tied : Tied W) (h1 : Ints W A was c) (h2 : Ints W B now d) :
    Calls Tryd.prog 5 #[.slice A was.length c, .slice B now.length d] W fun e w' => e = .returned (.bool true) ∧ Below W.heap.size W w' := by
  have T := Lib.hid tied
  have H1 := Lib.hid h1
  have H2 := Lib.hid h2
  have hd1 : decide ((40 : Int) < (was.length : Int)) = false := by simp; omega
  have hd2 : decide ((40 : Int) < (now.length : Int)) = false := by simp; omega
  clear h1 h2 tied
  go_enter Tryd.func5, Tryd.ntmps5
  go_wp2_with fail
  refine (claim_awake _ T.out).mono ?_
  rintro e w1 ⟨rfl, hb⟩
  have HB1 := Lib.hid hb
  clear hb
  go_wp2_with fail
  go_loopw [5, 6, 7, 8, 9, 10, 11] (fun z i _ _ _ _ _ wl => ∃ (k : Nat) (u : Bool), k ≤ now.length ∧ i = .int .i64 k ∧ z = .bool u ∧ Hid (u = true ↔ ∀ i', i' < k → ∀ q, q < i' → oddB was now i' q = false) ∧ Below W.heap.size W wl) (fun _ i _ _ _ _ _ _ => now.length - (intOf i).toNat)
  case atStart => exact ⟨0, true, Nat.zero_le _, rfl, rfl, ⟨fun _ i' h => absurd h (by omega), fun _ => rfl⟩, HB1.out⟩
  case round =>
    obtain ⟨i, u, hi, rfl, rfl, HO, hb⟩ := hrel
    have HB := Lib.hid hb
    clear hb
    by_cases hlt : i < now.length
    · as_aux_lemma =>
      have hltb : decide (i < now.length) = true := by simpa using hlt
      obtain ⟨b2, o2, rfl, hc2⟩ := H2.out.at (by omega)
      have C2 := Lib.hid hc2
      clear hc2
      have hi1 : (i : Int) < (now.length : Int) := by omega
      obtain ⟨a, ha⟩ : ∃ a, a = placeL now i := ⟨_, rfl⟩
      have HA := Lib.hid ha
      have XA : Hid (W.cell? ⟨b2, o2 + i, none⟩ = some (.int .i64 a)) := by rw [ha, placeL_lt now i hlt]; exact C2.out i hlt
      clear ha
      go_wp2_with fail
      obtain ⟨wo, rfl⟩ : ∃ wo : World, wo = wr := ⟨_, rfl⟩
      go_loopw [5, 7, 8, 9, 10, 11] (fun z q _ _ _ _ wl => ∃ (k : Nat) (v : Bool), k ≤ i ∧ q = .int .i64 k ∧ z = .bool v ∧ Hid (v = true ↔ (u = true ∧ ∀ q, q < k → oddB was now i q = false)) ∧ Below W.heap.size W wl) (fun _ q _ _ _ _ _ => i - (intOf q).toNat)
      case atStart => exact ⟨0, u, Nat.zero_le _, rfl, rfl, ⟨fun h => ⟨h, fun q h => absurd h (by omega)⟩, fun h => h.1⟩, HB.out⟩
      case round =>
        obtain ⟨k, v, hk, rfl, rfl, HQ, hb⟩ := hrel
        have HK := Lib.hid hb
        clear hb
        by_cases hlk : k < i
        · have hlkb : decide (k < i) = true := by simpa using hlk
          have hkn : k < now.length := by omega
          have hk1 : (k : Int) < (now.length : Int) := by omega
          obtain ⟨b, hb⟩ : ∃ b, b = placeL now k := ⟨_, rfl⟩
          have HBB := Lib.hid hb
          have x1 : wr.cell? ⟨b2, o2 + i, none⟩ = some (.int .i64 a) := (HK.out.cell (cell_lt XA.out)).trans XA.out
          have x2 : wr.cell? ⟨b2, o2 + k, none⟩ = some (.int .i64 b) := by rw [hb, placeL_lt now k hkn]; exact (HK.out.cell (cell_lt (C2.out k hkn))).trans (C2.out k hkn)
          clear hb
          have HQA := Lib.hid (fun r q => at_quiet A was c r wr q (H1.out.below HK.out))
          go_wp2_with fail
          go_quiet ((go_at_call 17; exact HQA.out _ _))
          obtain ⟨w3, hw3⟩ : ∃ w3, w3 = wr.drewN nq := ⟨_, rfl⟩
          have HK3 : Hid (Below W.heap.size W w3) := by rw [hw3]; exact bstep HK.out (Drawn0.below ⟨⟨_, rfl⟩⟩)
          rw [← hw3]
          clear hw3 x1 x2
          obtain ⟨x, hx⟩ : ∃ x, x = placeL was i := ⟨_, rfl⟩
          obtain ⟨y, hy⟩ : ∃ y, y = placeL was k := ⟨_, rfl⟩
          rw [← hx, ← hy]
          have HX := Lib.hid hx
          have HY := Lib.hid hy
          clear hx hy
          obtain ⟨v1, hv1⟩ : ∃ v1, v1 = (v && !decide (a ≠ -1 ∧ a = b)) := ⟨_, rfl⟩
          obtain ⟨v2, hv2⟩ : ∃ v2, v2 = (v1 && !decide (a ≠ -1 ∧ b ≠ -1 ∧ a = y ∧ b = x ∧ a ≠ x)) := ⟨_, rfl⟩
          have Hv1 := Lib.hid hv1
          have Hv2 := Lib.hid hv2
          have HOD : Hid (oddB was now i k = (decide (a ≠ -1 ∧ a = b) || decide (a ≠ -1 ∧ b ≠ -1 ∧ a = y ∧ b = x ∧ a ≠ x))) := by
            show _ = _
            unfold oddB
            rw [← HA.out, ← HBB.out, ← HX.out, ← HY.out, Bool.eq_iff_iff]
            simp only [oddI, decide_eq_true_eq, Bool.or_eq_true]
            constructor
            · rintro ⟨h1, h2 | h2⟩
              · exact .inl ⟨h1, h2⟩
              · exact .inr ⟨h1, h2⟩
            · rintro (⟨h1, h2⟩ | ⟨h1, h2⟩)
              · exact ⟨h1, .inl h2⟩
              · exact ⟨h1, .inr h2⟩
          clear hv1 hv2
          go_upto_region 11 with fail
          go_cut [56] (fun s wx => s = .bool (decide (a ≠ -1 ∧ a = b)) ∧ w3 = wx)
          case first =>
            as_aux_lemma =>
            by_cases a1 : a = -1
            · have fa10 : ((a != -1) = false) := by simpa using a1
              have HV : Hid (decide (a ≠ -1 ∧ a = b) = false) := by show _ = _; rw [decide_eq_false_iff_not]; omega
              clear a1
              go_wp2_with fail
              go_meet
              exact ⟨congrArg Value.bool HV.out.symm, rfl⟩
            · have fa10 : ((a != -1) = true) := by simpa using a1
              by_cases a2 : a = b
              · have fa20 : ((a == b) = true) := by simpa using a2
                have HV : Hid (decide (a ≠ -1 ∧ a = b) = true) := by show _ = _; rw [decide_eq_true_eq]; omega
                clear a1 a2
                go_wp2_with fail
                go_meet
                exact ⟨congrArg Value.bool HV.out.symm, rfl⟩
              · have fa20 : ((a == b) = false) := by simpa using a2
                have HV : Hid (decide (a ≠ -1 ∧ a = b) = false) := by show _ = _; rw [decide_eq_false_iff_not]; omega
                clear a1 a2
                go_wp2_with fail
                go_meet
                exact ⟨congrArg Value.bool HV.out.symm, rfl⟩
          obtain ⟨rfl, rfl⟩ := hcut
          go_upto_if 56 with fail
          go_cut [5] (fun s wx => s = .bool v1 ∧ w3 = wx)
          case first =>
            cases hd : decide (a ≠ -1 ∧ a = b) with
            | true =>
              have HV : Hid (v1 = false) := by show _ = _; rw [Hv1.out, hd]; simp
              clear hd
              go_wp2_with fail
              go_meet
              exact ⟨congrArg Value.bool HV.out.symm, rfl⟩
            | false =>
              have HV : Hid (v1 = v) := by show _ = _; rw [Hv1.out, hd]; simp
              clear hd
              go_wp2_with fail
              go_meet
              exact ⟨congrArg Value.bool HV.out.symm, rfl⟩
          obtain ⟨rfl, rfl⟩ := hcut
          go_upto_region 13 with fail
          go_cut [77] (fun s wx => s = .bool (decide (a ≠ -1 ∧ b ≠ -1 ∧ a = y ∧ b = x ∧ a ≠ x)) ∧ w3 = wx)
          case first =>
            as_aux_lemma =>
            by_cases a1 : a = -1
            · have fa10 : ((a != -1) = false) := by simpa using a1
              have HV : Hid (decide (a ≠ -1 ∧ b ≠ -1 ∧ a = y ∧ b = x ∧ a ≠ x) = false) := by show _ = _; rw [decide_eq_false_iff_not]; omega
              clear a1
              go_wp2_with fail
              go_meet
              exact ⟨congrArg Value.bool HV.out.symm, rfl⟩
            · have fa10 : ((a != -1) = true) := by simpa using a1
              by_cases a3 : b = -1
              · have fa30 : ((b != -1) = false) := by simpa using a3
                have HV : Hid (decide (a ≠ -1 ∧ b ≠ -1 ∧ a = y ∧ b = x ∧ a ≠ x) = false) := by show _ = _; rw [decide_eq_false_iff_not]; omega
                clear a1 a3
                go_wp2_with fail
                go_meet
                exact ⟨congrArg Value.bool HV.out.symm, rfl⟩
              · have fa30 : ((b != -1) = true) := by simpa using a3
                by_cases a4 : a = y
                · have fa40 : ((a == y) = true) := by simpa using a4
                  by_cases a5 : b = x
                  · have fa50 : ((b == x) = true) := by simpa using a5
                    by_cases a6 : a = x
                    · have fa60 : ((a != x) = false) := by simpa using a6
                      have HV : Hid (decide (a ≠ -1 ∧ b ≠ -1 ∧ a = y ∧ b = x ∧ a ≠ x) = false) := by show _ = _; rw [decide_eq_false_iff_not]; omega
                      clear a1 a3 a4 a5 a6
                      go_wp2_with fail
                      go_meet
                      exact ⟨congrArg Value.bool HV.out.symm, rfl⟩
                    · have fa60 : ((a != x) = true) := by simpa using a6
                      have HV : Hid (decide (a ≠ -1 ∧ b ≠ -1 ∧ a = y ∧ b = x ∧ a ≠ x) = true) := by show _ = _; rw [decide_eq_true_eq]; omega
                      clear a1 a3 a4 a5 a6
                      go_wp2_with fail
                      go_meet
                      exact ⟨congrArg Value.bool HV.out.symm, rfl⟩
                  · have fa50 : ((b == x) = false) := by simpa using a5
                    have HV : Hid (decide (a ≠ -1 ∧ b ≠ -1 ∧ a = y ∧ b = x ∧ a ≠ x) = false) := by show _ = _; rw [decide_eq_false_iff_not]; omega
                    clear a1 a3 a4 a5
                    go_wp2_with fail
                    go_meet
                    exact ⟨congrArg Value.bool HV.out.symm, rfl⟩
                · have fa40 : ((a == y) = false) := by simpa using a4
                  have HV : Hid (decide (a ≠ -1 ∧ b ≠ -1 ∧ a = y ∧ b = x ∧ a ≠ x) = false) := by show _ = _; rw [decide_eq_false_iff_not]; omega
                  clear a1 a3 a4
                  go_wp2_with fail
                  go_meet
                  exact ⟨congrArg Value.bool HV.out.symm, rfl⟩
          obtain ⟨rfl, rfl⟩ := hcut
          have HQ2 : Hid (v2 = true ↔ (u = true ∧ ∀ q, q < k + 1 → oddB was now i q = false)) := by
            show _ ↔ _
            rw [Hv2.out, Hv1.out]
            have hod := HOD.out
            have hq := HQ.out
            constructor
            · intro h
              simp only [Bool.and_eq_true, Bool.not_eq_true'] at h
              obtain ⟨⟨hv, p1⟩, p2⟩ := h
              obtain ⟨hu, hall⟩ := hq.1 hv
              refine ⟨hu, fun q hqk => ?_⟩
              rcases Nat.lt_or_ge q k with z | z
              · exact hall q z
              · obtain rfl : q = k := by omega
                rw [hod, p1, p2]; rfl
            · rintro ⟨hu, hall⟩
              have hv := hq.2 ⟨hu, fun q z => hall q (by omega)⟩
              have ho := hall k (by omega)
              rw [hod] at ho
              simp only [Bool.or_eq_false_iff] at ho
              rw [hv, ho.1, ho.2]; rfl
          cases hd : decide (a ≠ -1 ∧ b ≠ -1 ∧ a = y ∧ b = x ∧ a ≠ x) with
          | true =>
            have HV : Hid (v2 = false) := by show _ = _; rw [Hv2.out, hd]; simp
            clear hd
            go_wp2_with fail
            go_roundw
            case rel => exact ⟨k + 1, v2, by omega, by go_num, congrArg Value.bool HV.out.symm, HQ2, HK3.out⟩
            case measure => simp [intOf]; omega
          | false =>
            have HV : Hid (v2 = v1) := by show _ = _; rw [Hv2.out, hd]; simp
            clear hd
            go_wp2_with fail
            go_roundw
            case rel => exact ⟨k + 1, v2, by omega, by go_num, congrArg Value.bool HV.out.symm, HQ2, HK3.out⟩
            case measure => simp [intOf]; omega
        · have hlkb : decide (k < i) = false := by simpa using hlk
          have HO2 : Hid (v = true ↔ ∀ i', i' < i + 1 → ∀ q, q < i' → oddB was now i' q = false) := by
            show _ ↔ _
            rw [HQ.out]
            constructor
            · rintro ⟨hu, hall⟩ i' hi' q hq
              rcases Nat.lt_or_ge i' i with z | z
              · exact HO.out.1 hu i' z q hq
              · obtain rfl : i' = i := by omega
                exact hall q (by omega)
            · intro hall
              exact ⟨HO.out.2 fun i' z q hq => hall i' (by omega) q hq, fun q z => hall i (by omega) q (by omega)⟩
          go_wp2_with fail
          go_roundw
          case rel => exact ⟨i + 1, v, by omega, by go_num, rfl, HO2, HK.out⟩
          case measure => simp [intOf]; omega
    · have hltb : decide (i < now.length) = false := by simpa using hlt
      have HT : Hid (apartB was now = u) := by
        cases u with
        | true => exact apartB_true fun i' q h1 h2 => HO.out.1 rfl i' (by omega) q h2
        | false => exact apartB_false fun hap => by have := HO.out.2 fun i' z q hq => hap i' q (by omega) hq; cases this
      go_wp2_with fail
      refine (Apart_eq HT.out (by omega) _ (H1.out.below HB.out) (H2.out.below HB.out)).mono ?_
      rintro e w5 ⟨rfl, hb⟩
      have HB5 := Lib.hid (bstep HB.out hb)
      clear hb
      go_wp2_with fail
      go_ret
      exact ⟨rfl, HB5.out⟩
theorem two_out (A B : Option Addr) (was now : List Int) (c d : Nat) (ho : 40 < was.length ∨ 40 < now.length) (W : World) (tied : Tied W) :
    Calls Tryd.prog 5 #[.slice A was.length c, .slice B now.length d] W fun e w' => e = .returned (.bool true) ∧ Below W.heap.size W w' := by
  have T := Lib.hid tied
  clear tied
  by_cases h1 : 40 < was.length
  · have hd1 : decide ((40 : Int) < (was.length : Int)) = true := by simp; omega
    clear ho
    go_enter Tryd.func5, Tryd.ntmps5
    go_wp2_with fail
    refine (claim_awake _ T.out).mono ?_
    rintro e w1 ⟨rfl, hb⟩
    have HB1 := Lib.hid hb
    clear hb
    go_wp2_with fail
    refine (claim_awake _ (T.out.under T.out.lt HB1.out)).mono ?_
    rintro e w2 ⟨rfl, hb⟩
    have HB2 := Lib.hid (bstep HB1.out hb)
    clear hb
    go_wp2_with fail
    go_ret
    exact ⟨rfl, HB2.out⟩
  · have hd1 : decide ((40 : Int) < (was.length : Int)) = false := by simp; omega
    have hd2 : decide ((40 : Int) < (now.length : Int)) = true := by simp; omega
    clear ho
    go_enter Tryd.func5, Tryd.ntmps5
    go_wp2_with fail
    refine (claim_awake _ T.out).mono ?_
    rintro e w1 ⟨rfl, hb⟩
    have HB1 := Lib.hid hb
    clear hb
    go_wp2_with fail
    refine (claim_awake _ (T.out.under T.out.lt HB1.out)).mono ?_
    rintro e w2 ⟨rfl, hb⟩
    have HB2 := Lib.hid (bstep HB1.out hb)
    clear hb
    go_wp2_with fail
    go_ret
    exact ⟨rfl, HB2.out⟩
theorem two_walk (A : Option Addr) (c : Nat) (was : List Int) (B : Option Addr) (d : Nat) (now : List Int) (W : World) (h1 : IntsK .i64 W A was c) (u1 : ∀ n ∈ was, (Lit.int .i64 n).wf = true) (h2 : IntsK .i64 W B now d) (u2 : ∀ n ∈ now, (Lit.int .i64 n).wf = true) (tied : Tied W) :
    Calls Tryd.prog 5 #[.slice A was.length c, .slice B now.length d] W fun e w' => e = .returned (.bool true) ∧ Below W.heap.size W w' := by
  by_cases ho : 40 < was.length ∨ 40 < now.length
  · exact two_out A B was now c d ho W tied
  · exact two_go A B was now c d (by omega) (by omega) W tied h1 h2
end Go.Proofs.YtfgbnnmaooillaaDoor
