/- SlotRooms: the walk. -/
import Derived.Test.YtfgbnnmaooillaaDoorRoomsPPSlotPlays
import Derived.Maps.AppendAt
import Derived.Deep.LoopGhost
import Derived.Deep.Cut
import Derived.Deep.CutRange
namespace Go.Proofs.YtfgbnnmaooillaaDoor
open Go.ChangeShapes Go.WideShapes Go.RowKit Go.Lib Go.Proofs.YtfgbnnmaooillaaDoorW.PrintWords Go.Proofs.YtfgbnnmaooillaaDoorW.PrintLast Go.Proofs.YtfgbnnmaooillaaDoorW.PrintMore Go.Proofs.YtfgbnnmaooillaaDoor.PSlotPlays
set_option linter.unusedVariables false
set_option linter.unusedSimpArgs false

theorem rooms_long (A : Option Addr) (cp : Nat) (l : List RB) (d p : Int) (W : World) (h : RBs W A l cp) (hl : 60 < l.length) :
    Calls Tryd.prog 10 #[.slice A l.length cp, .int .u8 d, .int .u8 p] W fun e w' => e = .returned (.bool true) ∧ Below W.heap.size W w' := by
  have hd : decide ((60 : Int) < (l.length : Int)) = true := by simp; omega
  have HR := Lib.hid h
  clear h
  go_enter Tryd.func10, Tryd.ntmps10
  go_wp2_with fail
  refine (awake_call _).mono ?_
  rintro e w1 ⟨rfl, hb⟩
  have HB := Lib.hid hb
  clear hb
  go_wp2_with fail
  refine (awake_call _).mono ?_
  rintro e w2 ⟨rfl, hb⟩
  have HB2 := Lib.hid (bstep0 HB.out hb)
  clear hb
  go_wp2_with fail
  go_ret
  exact ⟨rfl, HB2.out⟩
/-- what is had, behind some rounds -/
def Have (W wr : World) (k j : Nat) (v : Value) (H : List SB) : Prop := Kd.R kSB 42 wr W.heap.size (fun _ => True) v H ∧ Fits k H ∧ H.length ≤ j ∧ Below W.heap.size W wr
theorem Have.under {W w w' : World} {k j : Nat} {v : Value} {H : List SB} (h : Have W w k j v H) (hb : Below w.heap.size w w') : Have W w' k j v H := ⟨Kd.R_below h.1 hb, h.2.1, h.2.2.1, h.2.2.2.trans (hb.mono h.2.2.2.size)⟩
theorem Have.more {W w : World} {k j : Nat} {v : Value} {H : List SB} (h : Have W w k j v H) : Have W w k (j + 1) v H := ⟨h.1, h.2.1, by have := h.2.2.1; omega, h.2.2.2⟩
set_option maxHeartbeats 2000000 in
set_option maxRecDepth 100000 in
theorem rooms_short (A : Option Addr) (cp : Nat) (l : List RB) (d p : Int) (W : World) (h : RBs W A l cp) (hl : l.length ≤ 60) (tied : Tied W) (d0 : 0 ≤ d) (d1 : d ≤ 255) (p0 : 0 ≤ p) (p1 : p ≤ 255) :
    Calls Tryd.prog 10 #[.slice A l.length cp, .int .u8 d, .int .u8 p] W fun e w' => e = .returned (.bool true) ∧ Below W.heap.size W w' := by
  have T := Lib.hid tied
  obtain ⟨L, hL⟩ : ∃ L, L = l.map ofR := ⟨_, rfl⟩
  have hLl : L.length = l.length := by rw [hL]; simp
  have HL := Lib.hid hL
  have HLl := Lib.hid hLl
  have hd : decide ((60 : Int) < (l.length : Int)) = false := by simp; omega
  have HR := Lib.hid h
  clear h hL hLl tied
  obtain ⟨i0, hi, hz0, hz1, hz2⟩ := info_parts info_bk
  go_enter Tryd.func10, Tryd.ntmps10
  go_wp2_with fail
  refine (awake_call _).mono ?_
  rintro e w1 ⟨rfl, hb⟩
  have HB := Lib.hid hb
  clear hb
  go_wp2_with fail
  obtain ⟨k, hk⟩ : ∃ k : Nat, (k : Int) = 1 + d % 10 := ⟨(1 + d % 10).toNat, by omega⟩
  rw [← hk]
  have hk1 : 1 ≤ k := by omega
  have hk2 : k ≤ 10 := by omega
  clear hk
  go_loopg [8, 9] l.length (fun gg s8 s9 wr => ∃ j : Nat, j ≤ l.length ∧ l.length - j ≤ gg ∧ s9 = .int .i64 j ∧ Hid (∃ H, Have W wr k j s8 H))
  case atStart => exact ⟨0, Nat.zero_le _, by omega, rfl, Lib.hid ⟨[], Kd.R_nil _ _ _ _ _, fits_nil k, Nat.le_refl _, HB.out⟩⟩
  case round =>
    obtain ⟨j, hj, hg, rfl, HX⟩ := hrel
    obtain ⟨H, HH0⟩ := HX.out
    have HH := Lib.hid HH0
    clear HH0 HX
    by_cases hlt : j < l.length
    · have hltz : (j : Int) < (l.length : Int) := by omega
      have hLj : j < L.length := by have := HLl.out; omega
      go_wp2_with fail
      refine (of_call A cp l _ (HR.out.below HH.out.2.2.2) (by omega)).mono ?_
      rintro e w2 ⟨v2, rfl, hv, hb⟩
      rw [← HL.out] at hv
      obtain ⟨g4, cap4, rfl, x0, x1, x2⟩ := R_cells hv j hLj
      rw [HLl.out]
      have HH2 := Lib.hid (HH.out.under hb)
      clear hv hb
      go_wp2_with fail
      refine (add_any u8 H k L[j] _ HH2.out.1 (by have := HH2.out.2.2.1; omega)).mono ?_
      rintro e w3 ⟨v3, e3, rfl, hr, he, hb⟩
      have HH3 := Lib.hid (HH2.out.under hb)
      have HR3 := Lib.hid hr
      have HE3 := Lib.hid he
      clear hr he hb x0 x1 x2
      go_wp2_with fail
      refine (Num_c _ _ _ HE3.out (T.out.under T.out.lt HH3.out.2.2.2)).mono ?_
      rintro e w4 ⟨rfl, hb⟩
      have HH4 := Lib.hid (HH3.out.under hb)
      have HR4 := Lib.hid (Kd.R_below HR3.out hb)
      clear hb
      by_cases hc : addC H k L[j] = 0
      · have HF := Lib.hid (fits_add k H _ HH4.out.2.1 hc)
        have HA := Lib.hid (show addL H k L[j] = H ++ [L[j]] by unfold addL; rw [if_pos hc])
        rw [hc]
        clear hc
        go_wp2_with fail
        go_roundg (l.length - (j + 1))
        case measure => omega
        case rel =>
          refine ⟨j + 1, by omega, by omega, by go_num, Lib.hid ⟨H ++ [L[j]], ?_, HF.out, ?_, HH4.out.2.2.2⟩⟩
          · rw [← HA.out]; exact Kd.R_lower HR4.out HH2.out.2.2.2.size
          · rw [List.length_append]; have := HH4.out.2.2.1; simp; omega
      · have hcb : (addC H k L[j] == 0) = false := by simpa using hc
        clear hc
        go_wp2_with fail
        go_roundg (l.length - (j + 1))
        case measure => omega
        case rel => exact ⟨j + 1, by omega, by omega, by go_num, Lib.hid ⟨H, HH4.out.more⟩⟩
    · have hltb : decide ((j : Int) < (l.length : Int)) = false := by simp; omega
      obtain ⟨A8, c8, rfl, hc8, hC8⟩ := Kd.R_reads HH.out.1
      have hH60 : H.length ≤ 60 := by have := HH.out.2.2.1; omega
      have HC8 := Lib.hid hC8
      have HF := Lib.hid HH.out.2.1
      have HT0 := Lib.hid (T.out.under T.out.lt HH.out.2.2.2)
      obtain ⟨wo, rfl⟩ : ∃ wo : World, wo = wr := ⟨_, rfl⟩
      clear hC8
      go_wp2_with fail
      go_loopg [12, 13] 10 (fun gg s12 s13 wx => ∃ m : Nat, m ≤ 10 ∧ 10 - m ≤ gg ∧ s13 = .int .i64 m ∧ s12 = .int .i64 (sumOwn H p m : Nat) ∧ Hid (Below wo.heap.size wo wx))
      case atStart => exact ⟨0, Nat.zero_le _, by omega, rfl, rfl, Lib.hid (Below.refl _ _)⟩
      case round =>
        obtain ⟨m, hm, hgm, rfl, rfl, HBx⟩ := hrel
        obtain ⟨wm, rfl⟩ : ∃ wm : World, wm = wr := ⟨_, rfl⟩
        have hsl := sum_le k H HF.out p m
        by_cases hm10 : m < 10
        · have hmz : (m : Int) < 10 := by omega
          have HSt := Lib.hid (of_step k H HF.out p m)
          go_wp2_with fail
          refine (of_any _ H m p _ (Kd.R_below HH.out.1 HBx.out) (by omega)).mono ?_
          rintro e w5 ⟨rfl, hb⟩
          have HB5 := Lib.hid (bstep0 HBx.out hb)
          clear hb
          obtain ⟨so, hso⟩ : ∃ q, q = sumOwn H p m := ⟨_, rfl⟩
          rw [← hso] at HSt hsl ⊢
          clear hso
          go_upto_if 57 with fail
          go_cut [12] from 49 to 82 (fun s12 wx => s12 = .int .i64 (sumOwn H p (m + 1) : Nat) ∧ w5 = wx)
          case first =>
            cases hof : ofB (m : Int) p H with
            | true =>
              have HS2 : Hid (sumOwn H p (m + 1) = so + 1) := by show _ = _; rw [HSt.out, if_pos hof]
              clear hof
              have hso6 : so ≤ 1000000 := by omega
              go_wp2_with fail
              go_meet
              exact ⟨by rw [HS2.out]; go_num, rfl⟩
            | false =>
              have HS2 : Hid (sumOwn H p (m + 1) = so) := by show _ = _; rw [HSt.out, if_neg (by rw [hof]; simp)]; rfl
              clear hof
              go_wp2_with fail
              go_meet
              exact ⟨by rw [HS2.out], rfl⟩
          obtain ⟨rfl, rfl⟩ := hcut
          obtain ⟨s1, hs1⟩ : ∃ q, q = sumOwn H p (m + 1) := ⟨_, rfl⟩
          rw [← hs1]
          have HS1 := Lib.hid hs1
          clear hs1 hsl
          go_wp2_with fail
          go_loopg [14, 15] H.length (fun gg s14 s15 wx => ∃ i : Nat, i ≤ H.length ∧ H.length - i ≤ gg ∧ s15 = .int .i64 i ∧ Hid (wx.ownsRow w5.heap.size 42 3 s14 (ownL (m : Int) (H.take i)).length (cells3 (ownL (m : Int) (H.take i)))) ∧ Hid (Below w5.heap.size w5 wx))
          case atStart => exact ⟨0, Nat.zero_le _, by omega, rfl, Lib.hid (own_nil0 _ _ _ _), Lib.hid (Below.refl _ _)⟩
          case round =>
            obtain ⟨i, hi', hgi, rfl, HO, HBi⟩ := hrel
            have hol : (ownL (m : Int) (H.take i)).length ≤ 60 := by have := own_len (m : Int) (H.take i); rw [List.length_take] at this; omega
            by_cases hlt : i < H.length
            · have hltz : (i : Int) < (H.length : Int) := by omega
              obtain ⟨ad, e8, y0, y1, y2⟩ := at_T42 (Kd.C_below HC8.out (bstep0 HB5.out HBi.out)) (i : Int) (by omega) hltz
              subst e8
              rw [rdS_nat H i hlt, Int.toNat_natCast] at y0 y1 y2
              have HTk := Lib.hid (own_take (m : Int) H i hlt)
              obtain ⟨b, hb⟩ : ∃ b, b = H[i] := ⟨_, rfl⟩
              rw [← hb] at y0 y1 y2 HTk
              clear hb
              by_cases hr : b.f0 = (m : Int)
              · rw [if_pos hr] at HTk
                have hrb : (b.f0 == (m : Int)) = true := by simpa using hr
                have hsz : w5.heap.size ≤ wr.heap.size := HBi.out.size
                obtain ⟨f0, hf0⟩ : ∃ f, f = b.f0 := ⟨_, rfl⟩
                obtain ⟨f1, hf1⟩ : ∃ f, f = b.f1 := ⟨_, rfl⟩
                obtain ⟨f2, hf2⟩ : ∃ f, f = b.f2 := ⟨_, rfl⟩
                rw [← hf0] at y0 hrb
                rw [← hf1] at y1
                rw [← hf2] at y2
                have HFb := Lib.hid (show b = ⟨f0, f1, f2⟩ by rw [hf0, hf1, hf2])
                clear hr hf0 hf1 hf2
                go_wp2_with (at_builtin; refine wpList_append_own_at _ rfl _ _ 46 rfl w5.heap.size 42 i0 (.agg #[.int .i64 0, .int .i64 0, .int .i64 0]) 3 24 Tryd.underlying46 hi hz0 hz1 hz2 rfl (by decide) _ _ _ rfl (HO.out.alloc _) ⟨wr.heap.size, 0, none⟩ 1 1 [.int .i64 f0, .int .i64 f1, .int .i64 f2] rfl rfl (news3 _ _ _ _ _) (fun u hu => by simp at hu; rcases hu with rfl | rfl | rfl <;> rfl) (by unfold maxLen; omega) (by omega) (by simp; omega) ?_; intro va w6 hown' hg _ hat; have O6 := Lib.hid hown'; have HB6 := Lib.hid ((HBi.out.alloc hsz _).grown hg (by simp; omega) (fun k hk => (HO.out.lt k hk).1)); clear hown' hg hat)
                go_roundg (H.length - (i + 1))
                case measure => omega
                case rel =>
                  refine ⟨i + 1, by omega, by omega, by go_num, ?_, HB6⟩
                  rw [HTk.out, HFb.out, List.length_append, cells3_snoc]
                  exact O6
              · rw [if_neg hr, List.append_nil] at HTk
                have hrb : (b.f0 == (m : Int)) = false := by simpa using hr
                clear hr
                go_wp2_with fail
                go_roundg (H.length - (i + 1))
                case measure => omega
                case rel => exact ⟨i + 1, by omega, by omega, by go_num, by rw [HTk.out]; exact HO, HBi⟩
            · have hltb : decide ((i : Int) < (H.length : Int)) = false := by simp; omega
              have hte : H.take i = H := List.take_of_length_le (by omega)
              rw [hte] at HO hol
              have HPk := Lib.hid (peak_own k H HF.out (m : Int) 0 2147483648)
              have HRo := Lib.hid (R_of_cells HO.out)
              clear hte
              go_wp2_with fail
              refine (peak_call 0 2147483648 _ HRo.out (by omega)).mono ?_
              rintro e w6 ⟨rfl, hb⟩
              have HB6 := Lib.hid (bstep0 (bstep0 HB5.out HBi.out) hb)
              clear hb
              obtain ⟨pk, hpk⟩ : ∃ q, q = peakL (bks (ownL (m : Int) H)) 0 2147483648 := ⟨_, rfl⟩
              have hp1 := HPk.out
              rw [← hpk] at hp1 ⊢
              clear hpk
              have hpz : ¬ (1 : Int) < (pk : Int) := by omega
              go_wp2_with fail
              go_roundg (10 - (m + 1))
              case measure => omega
              case rel => exact ⟨m + 1, by omega, by omega, by go_num, by rw [HS1.out], HB6⟩
        · have hmz : ¬ (m : Int) < 10 := by omega
          obtain rfl : m = 10 := by omega
          have hsum := sum_count p H
          have hck := HF.out.1 p
          obtain ⟨q, hq⟩ : ∃ q, q = sumOwn H p 10 := ⟨_, rfl⟩
          rw [← hq] at hsum ⊢
          have HQ := Lib.hid hsum
          rw [← hsum] at hck
          have HPk := Lib.hid (peak_fits k H HF.out 0 2147483648)
          have HPt := Lib.hid (peak_tick (bks H) p)
          clear hq hsum hsl
          go_wp2_with fail
          refine (peak_call 0 2147483648 _ (Kd.R_below HH.out.1 HBx.out) (by omega)).mono ?_
          rintro e w6 ⟨rfl, hb⟩
          have HB6 := Lib.hid (bstep0 HBx.out hb)
          clear hb
          obtain ⟨pk, hpk⟩ : ∃ q, q = peakL (bks H) 0 2147483648 := ⟨_, rfl⟩
          have hp1 := HPk.out
          rw [← hpk] at hp1 ⊢
          clear hpk
          have hpz : (pk : Int) ≤ (k : Int) := by omega
          have hpd : decide ((pk : Int) ≤ (k : Int)) = true := by simpa using hpz
          have hqd : decide ((q : Int) ≤ (k : Int)) = true := by simp; omega
          go_wp2_with fail
          refine (peak_call p (p + 1) _ (Kd.R_below HH.out.1 HB6.out) (by omega)).mono ?_
          rintro e w7 ⟨rfl, hb⟩
          have HB7 := Lib.hid (bstep0 HB6.out hb)
          clear hb
          rw [HPt.out, ← HQ.out]
          go_wp2_with fail
          go_ret
          exact ⟨by simp, HH.out.2.2.2.trans (HB7.out.mono HH.out.2.2.2.size)⟩
theorem rooms_walk (A : Option Addr) (cp : Nat) (l : List RB) (d p : Int) (W : World) (h : RBs W A l cp) (w1 : (Lit.int .u8 d).wf = true) (w2 : (Lit.int .u8 p).wf = true) (tied : Tied W) :
    Calls Tryd.prog 10 #[.slice A l.length cp, .int .u8 d, .int .u8 p] W fun e w' => e = .returned (.bool true) ∧ Below W.heap.size W w' := by
  have wf : ∀ {n : Int}, (Lit.int .u8 n).wf = true → 0 ≤ n ∧ n ≤ 255 := fun h => by simpa [Lit.wf, IntKind.min, IntKind.max, IntKind.signed, IntKind.bits] using h
  by_cases hl : l.length ≤ 60
  · exact rooms_short A cp l d p W h hl tied (wf w1).1 (wf w1).2 (wf w2).1 (wf w2).2
  · exact rooms_long A cp l d p W h (by omega)
end Go.Proofs.YtfgbnnmaooillaaDoor
