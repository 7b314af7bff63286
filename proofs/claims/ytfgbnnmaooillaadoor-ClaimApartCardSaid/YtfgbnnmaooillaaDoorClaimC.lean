/- claim.Apart, by its contract. -/
import Derived.Test.YtfgbnnmaooillaaDoorClaimA
import Derived.Test.YtfgbnnmaooillaaDoorPplacex
import Derived.Deep.DeepCutAuto
namespace Go.Proofs.YtfgbnnmaooillaaDoor
open Go.RowKit Go.Extern.Stop Go.Stop Go.Extern Go.Proofs.YtfgbnnmaooillaaDoorW.PrintWords Go.Proofs.YtfgbnnmaooillaaDoorW.PrintLast Go.Proofs.YtfgbnnmaooillaaDoorW.PrintMore Go.Proofs.YtfgbnnmaooillaaDoor.PClaimTakes Go.Proofs.YtfgbnnmaooillaaDoor.Pplace
set_option linter.unusedVariables false
set_option linter.unusedSimpArgs false

theorem place_f (l : List Int) (r : Nat) : claim_place.f l r = some (placeL l r) := by
  unfold claim_place.f
  by_cases h : r < l.length
  · rw [if_neg (by omega), if_pos (by omega), if_pos (by omega), placeL_lt l r h]
  · rw [if_pos (by omega), placeL_ge l r (by omega)]
theorem place_any (A : Option Addr) (l : List Int) (cp : Nat) (r : Nat) (W : World) (h : Ints W A l cp) : Calls Tryd.prog 34 #[.slice A l.length cp, .int .i64 r] W fun e w' => e = .returned (.int .i64 (placeL l r)) ∧ Below W.heap.size W w' :=
  (claim_place.calls A cp l r _ W h.1 h.2 (place_f l r)).mono fun _ _ ⟨he, hd⟩ => ⟨he, hd.below⟩
/-- are two at odds? a, b: where they are; x, y: where they were -/
def oddI (a b x y : Int) : Bool := decide (a ≠ -1 ∧ (a = b ∨ (b ≠ -1 ∧ a = y ∧ b = x ∧ a ≠ x)))
def oddB (was now : List Int) (i k : Nat) : Bool := oddI (placeL now i) (placeL now k) (placeL was i) (placeL was k)
/-- no two are in one cell, and no two changed places -/
def ApartP (was now : List Int) : Prop := ∀ i k, i < now.length → k < i → oddB was now i k = false
noncomputable def apartB (was now : List Int) : Bool := @decide (ApartP was now) (Classical.propDecidable _)
theorem apartB_true {was now : List Int} (h : ApartP was now) : apartB was now = true := @decide_eq_true _ (Classical.propDecidable _) h
theorem apartB_false {was now : List Int} (h : ¬ ApartP was now) : apartB was now = false := @decide_eq_false _ (Classical.propDecidable _) h
set_option maxRecDepth 100000 in
set_option maxHeartbeats 4000000 in
theorem Apart_any (A B : Option Addr) (was now : List Int) (c d : Nat) (hl : now.length ≤ 1000) (W : World) (h1 : Ints W A was c) (h2 : Ints W B now d) :
    Calls Tryd.prog 18 #[.slice A was.length c, .slice B now.length d] W fun e w' => e = .returned (.bool (apartB was now)) ∧ Below W.heap.size W w' := by
  have H1 := Lib.hid h1
  have H2 := Lib.hid h2
  have hcd : now.length ≤ d := h2.2
  clear h1 h2
  go_enter Tryd.func18, Tryd.ntmps18
  go_wp2_with fail
  go_loopw [5, 6, 7, 8, 9, 10, 13] (fun _ _ _ _ _ _ i wl => ∃ k : Nat, k ≤ now.length ∧ i = .int .i64 k ∧ Hid (∀ i', i' < k → ∀ q, q < i' → oddB was now i' q = false) ∧ Below W.heap.size W wl) (fun _ _ _ _ _ _ i _ => now.length - (intOf i).toNat)
  case atStart => exact ⟨0, Nat.zero_le _, rfl, fun i' h => absurd h (by omega), Below.refl _ _⟩
  case round =>
    obtain ⟨i, hi, rfl, HO, hb⟩ := hrel
    have HB := Lib.hid hb
    clear hb
    by_cases hlt : i < now.length
    · as_aux_lemma =>
      have hltb : decide (i < now.length) = true := by simpa using hlt
      obtain ⟨b2, o2, rfl, hc2⟩ := H2.out.at (by omega)
      have C2 := Lib.hid hc2
      clear hc2
      have hi1 : (i : Int) < (now.length : Int) := by omega
      have hi2 : (i : Int) ≤ (d : Int) := by omega
      obtain ⟨a, ha⟩ : ∃ a, a = placeL now i := ⟨_, rfl⟩
      have HA := Lib.hid ha
      have x1 : wr.cell? ⟨b2, o2 + i, none⟩ = some (.int .i64 a) := by rw [ha, placeL_lt now i hlt]; exact (HB.out.cell (cell_lt (C2.out i hlt))).trans (C2.out i hlt)
      clear ha
      go_wp2_with fail
      obtain ⟨wo, rfl⟩ : ∃ wo : World, wo = wr := ⟨_, rfl⟩
      clear x1
      go_loopw [7, 8, 9, 10, 22] (fun _ _ _ _ q wl => ∃ k : Nat, k ≤ i ∧ q = .int .i64 k ∧ Hid (∀ q, q < k → oddB was now i q = false) ∧ Below W.heap.size W wl) (fun _ _ _ _ q _ => i - (intOf q).toNat)
      case atStart => exact ⟨0, Nat.zero_le _, rfl, fun q h => absurd h (by omega), HB.out⟩
      case round =>
        obtain ⟨k, hk, rfl, HQ, hb⟩ := hrel
        have HK := Lib.hid hb
        clear hb
        by_cases hlk : k < i
        · have hlkb : decide (k < i) = true := by simpa using hlk
          have hkn : k < now.length := by omega
          have hk1 : (k : Int) < (i : Int) := by omega
          obtain ⟨b, hb⟩ : ∃ b, b = placeL now k := ⟨_, rfl⟩
          have HBB := Lib.hid hb
          have x2 : wr.cell? ⟨b2, o2 + k, none⟩ = some (.int .i64 b) := by rw [hb, placeL_lt now k hkn]; exact (HK.out.cell (cell_lt (C2.out k hkn))).trans (C2.out k hkn)
          clear hb
          go_wp2_with fail
          refine (place_any A was c i _ (H1.out.below HK.out)).mono ?_
          rintro e w2 ⟨rfl, hb⟩
          have HK2 := Lib.hid (bstep HK.out hb)
          clear hb x2
          go_wp2_with fail
          refine (place_any A was c k _ (H1.out.below HK2.out)).mono ?_
          rintro e w3 ⟨rfl, hb⟩
          have HK3 := Lib.hid (bstep HK2.out hb)
          clear hb
          obtain ⟨x, hx⟩ : ∃ x, x = placeL was i := ⟨_, rfl⟩
          obtain ⟨y, hy⟩ : ∃ y, y = placeL was k := ⟨_, rfl⟩
          rw [← hx, ← hy]
          have HX := Lib.hid hx
          have HY := Lib.hid hy
          clear hx hy
          have HOD : Hid (oddB was now i k = oddI a b x y) := by show _ = _; unfold oddB; rw [HA.out, HBB.out, HX.out, HY.out]
          go_upto_region 8 with fail
          go_cut [62] (fun s62 wx => s62 = .bool (oddI a b x y) ∧ w3 = wx)
          case first =>
            as_aux_lemma =>
              by_cases a1 : a = -1
              · have fa10 : ((a != -1) = false) := by simpa using a1
                have fa11 : ((a == -1) = true) := by simpa using a1
                have HV : Hid (oddI a b x y = false) := by show _ = _; unfold oddI; rw [decide_eq_false_iff_not]; omega
                clear a1
                go_wp2_with fail
                go_meet
                exact ⟨congrArg Value.bool HV.out.symm, rfl⟩
              · have fa10 : ((a != -1) = true) := by simpa using a1
                have fa11 : ((a == -1) = false) := by simpa using a1
                by_cases a2 : a = b
                · have fa20 : ((a == b) = true) := by simpa using a2
                  have HV : Hid (oddI a b x y = true) := by show _ = _; unfold oddI; rw [decide_eq_true_eq]; omega
                  clear a1 a2
                  go_wp2_with fail
                  go_meet
                  exact ⟨congrArg Value.bool HV.out.symm, rfl⟩
                · have fa20 : ((a == b) = false) := by simpa using a2
                  by_cases a3 : b = -1
                  · have fa30 : ((b != -1) = false) := by simpa using a3
                    have HV : Hid (oddI a b x y = false) := by show _ = _; unfold oddI; rw [decide_eq_false_iff_not]; omega
                    clear a1 a2 a3
                    go_wp2_with fail
                    go_meet
                    exact ⟨congrArg Value.bool HV.out.symm, rfl⟩
                  · have fa30 : ((b != -1) = true) := by simpa using a3
                    by_cases a4 : a = y
                    · have fa40 : ((a == y) = true) := by simpa using a4
                      by_cases a5 : b = x
                      · have fa50 : ((b == x) = true) := by simpa using a5
                        by_cases a6 : a = x
                        · have fa60 : ((a != x) = false) := by simpa using a6
                          have HV : Hid (oddI a b x y = false) := by show _ = _; unfold oddI; rw [decide_eq_false_iff_not]; omega
                          clear a1 a2 a3 a4 a5 a6
                          go_wp2_with fail
                          go_meet
                          exact ⟨congrArg Value.bool HV.out.symm, rfl⟩
                        · have fa60 : ((a != x) = true) := by simpa using a6
                          have HV : Hid (oddI a b x y = true) := by show _ = _; unfold oddI; rw [decide_eq_true_eq]; omega
                          clear a1 a2 a3 a4 a5 a6
                          go_wp2_with fail
                          go_meet
                          exact ⟨congrArg Value.bool HV.out.symm, rfl⟩
                      · have fa50 : ((b == x) = false) := by simpa using a5
                        have HV : Hid (oddI a b x y = false) := by show _ = _; unfold oddI; rw [decide_eq_false_iff_not]; omega
                        clear a1 a2 a3 a4 a5
                        go_wp2_with fail
                        go_meet
                        exact ⟨congrArg Value.bool HV.out.symm, rfl⟩
                    · have fa40 : ((a == y) = false) := by simpa using a4
                      have HV : Hid (oddI a b x y = false) := by show _ = _; unfold oddI; rw [decide_eq_false_iff_not]; omega
                      clear a1 a2 a3 a4
                      go_wp2_with fail
                      go_meet
                      exact ⟨congrArg Value.bool HV.out.symm, rfl⟩
          obtain ⟨rfl, rfl⟩ := hcut
          cases hod : oddI a b x y with
          | true =>
            have HF : Hid (apartB was now = false) := by
              refine apartB_false fun hap => ?_
              have := hap i k hlt hlk
              rw [HOD.out, hod] at this; cases this
            clear hod
            go_wp2_with fail
            go_ret
            exact ⟨congrArg (fun z => Ending.returned (.bool z)) HF.out.symm, HK3.out⟩
          | false =>
            have HQ2 : Hid (∀ q, q < k + 1 → oddB was now i q = false) := by
              intro q hq
              rcases Nat.lt_or_ge q k with z | z
              · exact HQ.out q z
              · obtain rfl : q = k := by omega
                rw [HOD.out, hod]
            clear hod
            go_wp2_with fail
            go_roundw
            case rel => exact ⟨k + 1, by omega, by go_num, HQ2, HK3.out⟩
            case measure => simp [intOf]; omega
        · have hlkb : decide (k < i) = false := by simpa using hlk
          have HO2 : Hid (∀ i', i' < i + 1 → ∀ q, q < i' → oddB was now i' q = false) := by
            intro i' hi' q hq
            rcases Nat.lt_or_ge i' i with z | z
            · exact HO.out i' z q hq
            · obtain rfl : i' = i := by omega
              exact HQ.out q (by omega)
          go_wp2_with fail
          go_roundw
          case rel => exact ⟨i + 1, by omega, by go_num, HO2, HK.out⟩
          case measure => simp [intOf]; omega
    · have hltb : decide (i < now.length) = false := by simpa using hlt
      have HT : Hid (apartB was now = true) := apartB_true fun i' q h1 h2 => HO.out i' (by omega) q h2
      go_wp2_with fail
      go_ret
      exact ⟨congrArg (fun z => Ending.returned (.bool z)) HT.out.symm, HB.out⟩
end Go.Proofs.YtfgbnnmaooillaaDoor
