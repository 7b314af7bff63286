/- claim.Move, by its contract; the example of the law. -/
import Derived.Test.YtfgbnnmaooillaaDoorClaimA
import Derived.Deep.QuietTactic
import Derived.BigQuiet
namespace Go.Proofs.YtfgbnnmaooillaaDoor
open Go.RowKit Go.Extern.Stop Go.Stop Go.Extern Go.Proofs.YtfgbnnmaooillaaDoorW.PrintWords Go.Proofs.YtfgbnnmaooillaaDoorW.PrintLast Go.Proofs.YtfgbnnmaooillaaDoorW.PrintMore Go.Proofs.YtfgbnnmaooillaaDoor.PClaimTakes
set_option linter.unusedVariables false
set_option linter.unusedSimpArgs false

set_option maxHeartbeats 2000000 in
theorem Move_any (A : Option Addr) (l : List Int) (cp : Nat) (r c : Int) (hl : l.length ≤ 1000) (W : World) (h : Ints W A l cp) :
    Calls Tryd.prog 14 #[.slice A l.length cp, .int .i64 r, .int .i64 c] W (PlacePost (moveL l r c) (moveC l r c) W) := by
  have H := Lib.hid h
  cases hm : mayB r c with
  | false =>
    have hp : Hid (moveC l r c = 1 ∧ moveL l r c = []) := by
      have e : moveC l r c = 1 := by unfold moveC; rw [if_pos hm]
      exact ⟨e, by unfold moveL; rw [if_neg (by rw [e]; decide)]⟩
    have hmay := Lib.hid (may_any r c hm)
    clear hm h
    go_enter Tryd.func14, Tryd.ntmps14
    go_wp2_with fail
    refine (hmay.out _).mono ?_
    rintro e w1 ⟨rfl, hb⟩
    have HB1 := Lib.hid (hb)
    clear hb
    have HB := HB1
    clear HB1
    go_wp2_with fail
    refine (Tag_err _ 1 _).mono ?_
    rintro e wz ⟨v, rfl, he, hb⟩
    have HE := Lib.hid he
    have HZ := Lib.hid (bstep HB.out hb)
    clear he hb
    go_wp2_with fail
    go_ret2
    exact ⟨none, 0, v, by rw [hp.out.2]; rfl, by rw [hp.out.2]; exact Ints.nil _, by rw [hp.out.1]; exact HE.out.mono HB.out.size, HZ.out⟩
  | true =>
    have hr := hm
    simp only [mayB, decide_eq_true_eq] at hr
    obtain ⟨r0, r1, _, _⟩ := hr
    have hmay := Lib.hid (may_any r c hm)
    obtain ⟨k, rfl⟩ := Int.eq_ofNat_of_zero_le r0
    cases ho : onB l k with
    | false =>
      have hp : Hid (moveC l k c = 4 ∧ moveL l k c = []) := by
        have e : moveC l k c = 4 := by unfold moveC; rw [if_neg (by rw [hm]; simp), Int.toNat_natCast, if_pos ho]
        exact ⟨e, by unfold moveL; rw [if_neg (by rw [e]; decide)]⟩
      have hon := Lib.hid (on_any A l cp k ho)
      clear hm ho h
      go_enter Tryd.func14, Tryd.ntmps14
      go_wp2_with fail
      refine (hmay.out _).mono ?_
      rintro e w1 ⟨rfl, hb⟩
      have HB1 := Lib.hid (hb)
      clear hb
      have HB := HB1
      clear HB1
      go_wp2_with fail
      refine (hon.out _ (H.out.below HB.out)).mono ?_
      rintro e w2 ⟨rfl, hb⟩
      have HB2 := Lib.hid (bstep HB.out hb)
      clear hb
      clear HB
      have HB := HB2
      clear HB2
      go_wp2_with fail
      refine (Tag_err _ 4 _).mono ?_
      rintro e wz ⟨v, rfl, he, hb⟩
      have HE := Lib.hid he
      have HZ := Lib.hid (bstep HB.out hb)
      clear he hb
      go_wp2_with fail
      go_ret2
      exact ⟨none, 0, v, by rw [hp.out.2]; rfl, by rw [hp.out.2]; exact Ints.nil _, by rw [hp.out.1]; exact HE.out.mono HB.out.size, HZ.out⟩
    | true =>
      have hkl : k < l.length := by
        rcases Nat.lt_or_ge k l.length with q | q
        · exact q
        · unfold onB at ho; rw [placeL_ge l k q] at ho; simp at ho
      have hkl1 : (k : Int) < (l.length : Int) := by omega
      have hpl := placeL_lt l k hkl
      obtain ⟨b, o, rfl, hc⟩ := h.at (by omega)
      have HC := Lib.hid hc
      clear hc h
      have hon := Lib.hid (on_any (some ⟨b, o, none⟩) l cp k ho)
      by_cases he : rd l k = c
      · have hp : Hid (moveC l k c = 0 ∧ moveL l k c = withL l k c) := by
          have e : moveC l k c = 0 := by unfold moveC; rw [if_neg (by rw [hm]; simp), Int.toNat_natCast, if_neg (by rw [ho]; simp), if_neg (fun q => q.1 (hpl.trans he))]
          exact ⟨e, by unfold moveL; rw [if_pos e, Int.toNat_natCast]⟩
        have heb : (rd l k != c) = false := by simpa using he
        clear hm ho he hpl
        go_enter Tryd.func14, Tryd.ntmps14
        go_wp2_with fail
        refine (hmay.out _).mono ?_
        rintro e w1 ⟨rfl, hb⟩
        have HB1 := Lib.hid (hb)
        clear hb
        have HB := HB1
        clear HB1
        go_wp2_with fail
        refine (hon.out _ (H.out.below HB.out)).mono ?_
        rintro e w2 ⟨rfl, hb⟩
        have HB2 := Lib.hid (bstep HB.out hb)
        clear hb
        clear HB
        have HB := HB2
        clear HB2
        have x1 : w2.cell? ⟨b, o + k, none⟩ = some (.int .i64 (rd l k)) := (HB.out.cell (cell_lt (HC.out k hkl))).trans (HC.out k hkl)
        go_wp2_with fail
        refine (with_any _ l cp k c r0 r1 hl _ (H.out.below HB.out)).mono ?_
        rintro e w4 ⟨A4, c4, rfl, hi, hb⟩
        have HI := Lib.hid hi
        have HZ := Lib.hid (bstep HB.out hb)
        clear hi hb
        go_wp2_with fail
        go_ret2
        rw [Int.toNat_natCast] at HI
        exact ⟨A4, c4, .nilIface, by rw [hp.out.2]; rfl, by rw [hp.out.2]; exact HI.out, by rw [hp.out.1]; exact ErrC.nil _ _, HZ.out⟩
      · have heb : (rd l k != c) = true := by simpa using he
        cases hf : freeB l c with
        | false =>
          have hp : Hid (moveC l k c = 10 ∧ moveL l k c = []) := by
            have e : moveC l k c = 10 := by unfold moveC; rw [if_neg (by rw [hm]; simp), Int.toNat_natCast, if_neg (by rw [ho]; simp), if_pos ⟨by rw [hpl]; exact he, hf⟩]
            exact ⟨e, by unfold moveL; rw [if_neg (by rw [e]; decide)]⟩
          have hfr := Lib.hid (free_any (some ⟨b, o, none⟩) l cp c hf hl)
          clear hm ho he hpl hf
          go_enter Tryd.func14, Tryd.ntmps14
          go_wp2_with fail
          refine (hmay.out _).mono ?_
          rintro e w1 ⟨rfl, hb⟩
          have HB1 := Lib.hid (hb)
          clear hb
          have HB := HB1
          clear HB1
          go_wp2_with fail
          refine (hon.out _ (H.out.below HB.out)).mono ?_
          rintro e w2 ⟨rfl, hb⟩
          have HB2 := Lib.hid (bstep HB.out hb)
          clear hb
          clear HB
          have HB := HB2
          clear HB2
          have x1 : w2.cell? ⟨b, o + k, none⟩ = some (.int .i64 (rd l k)) := (HB.out.cell (cell_lt (HC.out k hkl))).trans (HC.out k hkl)
          go_wp2_with fail
          refine (hfr.out _ (H.out.below HB.out)).mono ?_
          rintro e w3 ⟨rfl, hb⟩
          have HB3 := Lib.hid (bstep HB.out hb)
          clear hb
          clear HB
          have HB := HB3
          clear HB3
          go_wp2_with fail
          refine (Tag_err _ 10 _).mono ?_
          rintro e wz ⟨v, rfl, he, hb⟩
          have HE := Lib.hid he
          have HZ := Lib.hid (bstep HB.out hb)
          clear he hb
          go_wp2_with fail
          go_ret2
          exact ⟨none, 0, v, by rw [hp.out.2]; rfl, by rw [hp.out.2]; exact Ints.nil _, by rw [hp.out.1]; exact HE.out.mono HB.out.size, HZ.out⟩
        | true =>
          have hp : Hid (moveC l k c = 0 ∧ moveL l k c = withL l k c) := by
            have e : moveC l k c = 0 := by unfold moveC; rw [if_neg (by rw [hm]; simp), Int.toNat_natCast, if_neg (by rw [ho]; simp), if_neg (fun q => by have := q.2; rw [hf] at this; cases this)]
            exact ⟨e, by unfold moveL; rw [if_pos e, Int.toNat_natCast]⟩
          have hfr := Lib.hid (free_any (some ⟨b, o, none⟩) l cp c hf hl)
          clear hm ho he hpl hf
          go_enter Tryd.func14, Tryd.ntmps14
          go_wp2_with fail
          refine (hmay.out _).mono ?_
          rintro e w1 ⟨rfl, hb⟩
          have HB1 := Lib.hid (hb)
          clear hb
          have HB := HB1
          clear HB1
          go_wp2_with fail
          refine (hon.out _ (H.out.below HB.out)).mono ?_
          rintro e w2 ⟨rfl, hb⟩
          have HB2 := Lib.hid (bstep HB.out hb)
          clear hb
          clear HB
          have HB := HB2
          clear HB2
          have x1 : w2.cell? ⟨b, o + k, none⟩ = some (.int .i64 (rd l k)) := (HB.out.cell (cell_lt (HC.out k hkl))).trans (HC.out k hkl)
          go_wp2_with fail
          refine (hfr.out _ (H.out.below HB.out)).mono ?_
          rintro e w3 ⟨rfl, hb⟩
          have HB3 := Lib.hid (bstep HB.out hb)
          clear hb
          clear HB
          have HB := HB3
          clear HB3
          go_wp2_with fail
          refine (with_any _ l cp k c r0 r1 hl _ (H.out.below HB.out)).mono ?_
          rintro e w4 ⟨A4, c4, rfl, hi, hb⟩
          have HI := Lib.hid hi
          have HZ := Lib.hid (bstep HB.out hb)
          clear hi hb
          go_wp2_with fail
          go_ret2
          rw [Int.toNat_natCast] at HI
          exact ⟨A4, c4, .nilIface, by rw [hp.out.2]; rfl, by rw [hp.out.2]; exact HI.out, by rw [hp.out.1]; exact ErrC.nil _ _, HZ.out⟩

theorem place_ok {l l' : List Int} {code : Int} (hl : l = l') (hc : code = 0) {W : World} {e : Ending} {w' : World} (hp : PlacePost l code W e w') : ∃ A cap, e = .returned (.tuple #[.slice A l'.length cap, .nilIface]) ∧ Ints w' A l' cap ∧ Below W.heap.size W w' := by
  subst hl
  obtain ⟨A, cap, v, he, hi, hv, hb⟩ := hp
  rw [hc] at hv
  rw [hv.zero] at he
  exact ⟨A, cap, he, hi, hb⟩
set_option maxHeartbeats 1000000 in
theorem claim_awake (W : World) (tied : Tied W) : Calls Tryd.prog 11 #[] W fun e w' => e = .returned (.bool true) ∧ Below W.heap.size W w' := by
  have T := Lib.hid tied
  clear tied
  have hE := Lib.hid (Enter_any none [] 0 1 5 (by simp) W (Ints.nil W))
  go_enter Tryd.func11, Tryd.ntmps11
  go_wp2_with fail
  refine hE.out.mono ?_
  intro e w1 hp
  obtain ⟨A, cap, rfl, hi, hb⟩ := place_ok (l' := [-1, 5]) (by decide) (by decide) hp
  have HB := Lib.hid hb
  have HI := Lib.hid hi
  clear hp hb hi
  obtain ⟨b, o, rfl, hc⟩ := HI.out.at (by simp)
  have y0 : w1.cell? ⟨b, o, none⟩ = some (.int .i64 (-1)) := hc 0 (by simp)
  have y1 : w1.cell? ⟨b, o + 1, none⟩ = some (.int .i64 5) := hc 1 (by simp)
  clear hc
  go_wp2_with fail
  refine (Num_nil _).mono ?_
  rintro e w2 ⟨rfl, rfl⟩
  go_wp2_with fail
  go_ret
  exact ⟨rfl, HB.out⟩
end Go.Proofs.YtfgbnnmaooillaaDoor
