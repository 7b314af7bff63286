/- VoltKeeps: the loop. -/
import Derived.Test.YtlapklghioinfaaDoorVoltD
import Derived.Test.YtlapklghioinfaaDoorArgs
import Derived.Test.YtlapklghioinfaaDoorKf

import Derived.IntWalk
import Derived.Deep.RegionHeld3
import Derived.Deep.DeepCutAuto
namespace Go.Proofs.YtlapklghioinfaaDoor
open Go.RowKit Go.Extern.Stop Go.Stop Go.Extern
set_option linter.unusedVariables false
set_option linter.unusedSimpArgs false

/-- what an act leaves: a right account with the same beginning; or nothing, and an error -/
def KeepsP (c s g d kc c' s' g' d' : Int) : Prop := (kc = 0 ∧ rightB c' s' g' d' = true ∧ c' - g' - d' + s' = c - g - d + s) ∨ (kc ≠ 0 ∧ c' = 0 ∧ s' = 0 ∧ g' = 0 ∧ d' = 0)
theorem keeps_fin {c s g d c' s' g' d' : Int} (h : c' - g' - d' + s' = c - g - d + s) : KeepsP c s g d (finR c' s' g' d').code (finR c' s' g' d').c (finR c' s' g' d').s (finR c' s' g' d').g (finR c' s' g' d').d := by
  by_cases hr : rightB c' s' g' d' = true
  · rw [show finR c' s' g' d' = ⟨0, c', s', g', d'⟩ from if_pos hr]; exact .inl ⟨rfl, hr, h⟩
  · rw [show finR c' s' g' d' = ⟨8, 0, 0, 0, 0⟩ from if_neg hr]; exact .inr ⟨by decide, rfl, rfl, rfl, rfl⟩
theorem keeps_none (c s g d k : Int) (hk : k ≠ 0) : KeepsP c s g d k 0 0 0 0 := .inr ⟨hk, rfl, rfl, rfl, rfl⟩
theorem keeps_spend (c s g d n : Int) : KeepsP c s g d (spendR c s g d n).code (spendR c s g d n).c (spendR c s g d n).s (spendR c s g d n).g (spendR c s g d n).d := by
  unfold spendR
  split
  · split
    · exact keeps_none _ _ _ _ 11 (by decide)
    · exact keeps_fin (by omega)
  · exact keeps_none _ _ _ _ 1 (by decide)
theorem keeps_gain (c s g d n : Int) : KeepsP c s g d (gainR c s g d n).code (gainR c s g d n).c (gainR c s g d n).s (gainR c s g d n).g (gainR c s g d n).d := by
  unfold gainR
  split
  · exact keeps_fin (by omega)
  · exact keeps_none _ _ _ _ 1 (by decide)
theorem keeps_set (c s g d n : Int) : KeepsP c s g d (setR c s g d n).code (setR c s g d n).c (setR c s g d n).s (setR c s g d n).g (setR c s g d n).d := by
  unfold setR
  split
  · exact keeps_fin (by omega)
  · exact keeps_none _ _ _ _ 1 (by decide)
def DoPost (c s g d : Int) (w : World) (e : Ending) (w' : World) : Prop :=
  ∃ (v : Value) (kc c' s' g' d' : Int), KeepsP c s g d kc c' s' g' d' ∧ e = .returned (.tuple #[.agg #[.int .i64 c', .int .i64 s', .int .i64 g', .int .i64 d'], v]) ∧ ErrR w.heap.size w' v kc ∧ Below w.heap.size w w'
theorem law_do_m (c s g d m n : Int) (h0 : 0 ≤ m) (h2 : m ≤ 2) (w : World) :
    Calls Tryd.prog 29 #[.agg #[.int .i64 c, .int .i64 s, .int .i64 g, .int .i64 d], .int .i64 m, .int .i64 n] w (DoPost c s g d w) := by
  rcases (show m = 0 ∨ m = 1 ∨ m = 2 by omega) with rfl | rfl | rfl
  · exact (law_do0 (n := n) (c := c) rfl w).mono fun _ _ ⟨v, h⟩ => ⟨v, _, _, _, _, _, keeps_spend c s g d n, h⟩
  · exact (law_do1 (n := n) (c := c) rfl w).mono fun _ _ ⟨v, h⟩ => ⟨v, _, _, _, _, _, keeps_gain c s g d n, h⟩
  · exact (law_do2 (n := n) (c := c) rfl w).mono fun _ _ ⟨v, h⟩ => ⟨v, _, _, _, _, _, keeps_set c s g d n, h⟩

/-- the loop's relation: so many rounds are done; the account's four cells -/
def KRel (w : World) (A : Nat) (first : Int) (l : Nat) (i : Value) (wl : World) (k : Nat) (c s g d : Int) : Prop :=
  k ≤ l ∧ i = .int .i64 k ∧ Below w.heap.size w wl ∧ w.heap.size ≤ A ∧ A < wl.heap.size ∧
  (wl.cell? ⟨A, 0, none⟩ = some (.int .i64 c) ∧ wl.cell? ⟨A, 1, none⟩ = some (.int .i64 s) ∧ wl.cell? ⟨A, 2, none⟩ = some (.int .i64 g) ∧ wl.cell? ⟨A, 3, none⟩ = some (.int .i64 d)) ∧
  (wl.frozen? ⟨A, 0, none⟩ = false ∧ wl.frozen? ⟨A, 1, none⟩ = false ∧ wl.frozen? ⟨A, 2, none⟩ = false ∧ wl.frozen? ⟨A, 3, none⟩ = false) ∧
  rightB c s g d = true ∧ c - g - d + s = first

/-- what an act leaves in a round: a pointer to what it gave, an error; all else is as it was -/
def MidK (wr : World) (c s g d : Int) (s10 s11 : Value) (wx : World) (v : Value) (kc c' s' g' d' : Int) (pb B : Nat) : Prop :=
  s10 = .pointer (some ⟨pb, 0, none⟩) ∧ s11 = v ∧ KeepsP c s g d kc c' s' g' d' ∧ ErrR B wx v kc ∧ KF wr wx ∧ wr.heap.size ≤ pb ∧
  wx.cell? ⟨pb, 0, none⟩ = some (.int .i64 c') ∧ wx.cell? ⟨pb, 1, none⟩ = some (.int .i64 s') ∧ wx.cell? ⟨pb, 2, none⟩ = some (.int .i64 g') ∧ wx.cell? ⟨pb, 3, none⟩ = some (.int .i64 d')

set_option maxHeartbeats 4000000 in
theorem keeps_loop (ch first : Int) (ba oa bn on : Nat) (l1 c1 l2 c2 : Nat) (zs ns : List Int) (w : World) (p0 : 0 ≤ ch) (p1 : ch ≤ 255) (hx : ch % 201 = first) (hl : l1 ≤ 200) (hm : l1 ≤ l2) (hl2 : l2 ≤ 9223372036854775807) (tied : Tied w)
    (hcz : Hid (∀ j, j < l1 → w.cell? ⟨ba, oa + j, none⟩ = some (.int .u8 (zs.getD j 0)))) (hwz : Hid (∀ j, j < l1 → 0 ≤ zs.getD j 0 ∧ zs.getD j 0 ≤ 255))
    (hcn : Hid (∀ j, j < l2 → w.cell? ⟨bn, on + j, none⟩ = some (.int .i64 (ns.getD j 0)))) :
    Calls Tryd.prog 13 #[.int .u8 ch, .slice (some ⟨ba, oa, none⟩) l1 c1, .slice (some ⟨bn, on, none⟩) l2 c2] w fun e w' => e = .returned (.bool true) ∧ Below w.heap.size w w' := by
  have hd1 : decide ((200 : Int) < (l1 : Int)) = false := by simp; omega
  have hd2 : decide (l2 < l1) = false := by simp; omega
  have q0 : 0 ≤ first := by omega
  have q1 : first ≤ 200 := by omega
  subst hx
  have T := Lib.hid tied
  clear tied
  go_enter Tryd.func13, Tryd.ntmps13
  go_wp2_with fail
  refine (volt_awake _ T.out).mono ?_
  rintro e w1 ⟨rfl, hb⟩
  have hs1 := hb.size
  have HB1 := Lib.hid hb
  clear hb
  go_wp2_with fail
  go_loopw [9] (fun i wl => ∃ k c s g d, KRel w w1.heap.size (ch % 201) l1 i wl k c s g d) (fun i _ => l1 - (intOf i).toNat)
  case atStart =>
    exact ⟨0, ch % 201, 0, 0, 0, Nat.zero_le _, rfl, HB1.out.alloc hs1 _, hs1, by simp, by simp, by simp, (rightB_iff _ _ _ _).2 (by omega), by omega⟩
  case round =>
    obtain ⟨k, c, s, g, d, hk, rfl, hBl, hA, hAl, ⟨a0, a1, a2, a3⟩, ⟨f0, f1, f2, f3⟩, hr, hfst⟩ := hrel
    have HBl := Lib.hid hBl
    have HR := Lib.hid hr
    have HF := Lib.hid hfst
    clear hBl hr hfst
    by_cases hlt : k < l1
    · have hwk : wr.cell? ⟨ba, oa + k, none⟩ = some (.int .u8 (zs.getD k 0)) := (HBl.out.cell (cell_lt (hcz.out k hlt))).trans (hcz.out k hlt)
      have hnk : wr.cell? ⟨bn, on + k, none⟩ = some (.int .i64 (ns.getD k 0)) := (HBl.out.cell (cell_lt (hcn.out k (by omega)))).trans (hcn.out k (by omega))
      obtain ⟨u0, u1⟩ := hwz.out k hlt
      generalize zs.getD k 0 = wh at hwk u0 u1
      generalize ns.getD k 0 = nn at hnk
      have hltb : decide (k < l1) = true := by simpa using hlt
      have i0 : (0 : Int) ≤ (k : Int) := by omega
      have i1 : (k : Int) < (l1 : Int) := by omega
      have i2 : (k : Int) < (l2 : Int) := by omega
      have i3 : k < l2 := by omega
      have A0 := Lib.hid a0
      have A1 := Lib.hid a1
      have A2 := Lib.hid a2
      have A3 := Lib.hid a3
      go_upto_region 8 with fail
      go_cut [10, 11] (fun s10 s11 wx => ∃ v kc c' s' g' d' pb B, MidK wr c s g d s10 s11 wx v kc c' s' g' d' pb B)
      case first =>
        have HS := Lib.hid (show ∀ w', KF wr w' → w'.cell? ⟨ba, oa + k, none⟩ = some (.int .u8 wh) ∧ w'.cell? ⟨bn, on + k, none⟩ = some (.int .i64 nn) ∧ w'.cell? ⟨w1.heap.size, 0, none⟩ = some (.int .i64 c) ∧ w'.cell? ⟨w1.heap.size, 1, none⟩ = some (.int .i64 s) ∧ w'.cell? ⟨w1.heap.size, 2, none⟩ = some (.int .i64 g) ∧ w'.cell? ⟨w1.heap.size, 3, none⟩ = some (.int .i64 d) ∧ KF wr w' from fun w' h => ⟨h.cell hwk, h.cell hnk, h.cell a0, h.cell a1, h.cell a2, h.cell a3, h⟩)
        have HP := Lib.hid (show ∀ w', (w'.cell? ⟨ba, oa + k, none⟩ = some (.int .u8 wh) ∧ w'.cell? ⟨bn, on + k, none⟩ = some (.int .i64 nn) ∧ w'.cell? ⟨w1.heap.size, 0, none⟩ = some (.int .i64 c) ∧ w'.cell? ⟨w1.heap.size, 1, none⟩ = some (.int .i64 s) ∧ w'.cell? ⟨w1.heap.size, 2, none⟩ = some (.int .i64 g) ∧ w'.cell? ⟨w1.heap.size, 3, none⟩ = some (.int .i64 d) ∧ KF wr w') → KF wr w' from fun w' h => h.2.2.2.2.2.2)
        clear hwk hnk a0 a1 a2 a3
        have m0 : 0 ≤ wh % 3 := by omega
        have m2 : wh % 3 ≤ 2 := by omega
        have e1 : IntKind.i64.wrap wh = wh := IntWalk.i64_in _ (by omega)
        have e2 : wh.tmod 3 = wh % 3 := Int.tmod_eq_emod_of_nonneg u0
        go_region_held3 (fun w' => w'.cell? ⟨ba, oa + k, none⟩ = some (.int .u8 wh) ∧ w'.cell? ⟨bn, on + k, none⟩ = some (.int .i64 nn) ∧ w'.cell? ⟨w1.heap.size, 0, none⟩ = some (.int .i64 c) ∧ w'.cell? ⟨w1.heap.size, 1, none⟩ = some (.int .i64 s) ∧ w'.cell? ⟨w1.heap.size, 2, none⟩ = some (.int .i64 g) ∧ w'.cell? ⟨w1.heap.size, 3, none⟩ = some (.int .i64 d) ∧ KF wr w') ((refine HS.out _ ?_; repeat (first | assumption | exact KF.refl _ | refine KF.drew ?_ | refine KF.alloc ?_ _ | refine KF.setCell ?_ (by first | omega | (simp; done) | (simp; omega)) _))) (first | (go_at_call 29; (with_reducible refine (law_do_m c s g d (wh % 3) nn m0 m2 _).mono ?_); rintro e wn ⟨v, kc, c', s', g', d', hkp, rfl, hr, hb⟩; have hKn := KF.step (HP.out _ (by assumption)) hb; obtain ⟨B, hr, hB⟩ := err_at hr; have HE := Lib.hid hr; have HQ := Lib.hid hkp; obtain ⟨hcn, hfn⟩ := bcell hb; have hzn := hb.size; clear hb hr hkp))
        · go_wp2_with fail
          go_meet
          simp at hB
          exact ⟨v, kc, c', s', g', d', wn.heap.size, B, rfl, rfl, HQ.out, HE.out.alloc _, hKn.alloc _, hKn.size, by simp [go_sem], by simp [go_sem], by simp [go_sem], by simp [go_sem]⟩
        · go_wp2_with fail
          go_meet
          simp at hB
          exact ⟨v, kc, c', s', g', d', wr.heap.size, B, rfl, rfl, HQ.out, (((HE.out.setCell (by first | omega | (simp; done) | (simp; omega)) _).setCell (by first | omega | (simp; done) | (simp; omega)) _).setCell (by first | omega | (simp; done) | (simp; omega)) _).setCell (by first | omega | (simp; done) | (simp; omega)) _, (((hKn.setCell (by first | omega | (simp; done) | (simp; omega)) _).setCell (by first | omega | (simp; done) | (simp; omega)) _).setCell (by first | omega | (simp; done) | (simp; omega)) _).setCell (by first | omega | (simp; done) | (simp; omega)) _, Nat.le_refl _, by simp [go_sem, hcn], by simp [go_sem, hcn], by simp [go_sem, hcn], by simp [go_sem, hcn]⟩
      case rest =>
        obtain ⟨v, kc, c', s', g', d', pb, B, rfl, rfl, hkp, he, hKn, hpb, x0, x1, x2, x3⟩ := hcut
        have hAr : w1.heap.size < wr.heap.size := hAl
        have b0 := hKn.cell A0.out
        have b1 := hKn.cell A1.out
        have b2 := hKn.cell A2.out
        have b3 := hKn.cell A3.out
        have g0 : wc.frozen? ⟨w1.heap.size, 0, none⟩ = false := (hKn.frozen hAr).trans f0
        have g1 : wc.frozen? ⟨w1.heap.size, 1, none⟩ = false := (hKn.frozen hAr).trans f1
        have g2 : wc.frozen? ⟨w1.heap.size, 2, none⟩ = false := (hKn.frozen hAr).trans f2
        have g3 : wc.frozen? ⟨w1.heap.size, 3, none⟩ = false := (hKn.frozen hAr).trans f3
        have HBc := Lib.hid (Below.trans (B := w.heap.size) HBl.out (hKn.mono HBl.out.size))
        have hAc : w1.heap.size < wc.heap.size := cell_lt b0
        have hpc : pb < wc.heap.size := cell_lt x0
        have hwc : w.heap.size ≤ wc.heap.size := HBc.out.size
        have HT := Lib.hid (T.out.under T.out.lt HBc.out)
        have HE := Lib.hid he
        clear hKn he HBl A0 A1 A2 A3 hA a0 a1 a2 a3 f0 f1 f2 f3 hwk hnk
        rcases hkp with ⟨rfl, hr', hf'⟩ | ⟨hk0, rfl, rfl, rfl, rfl⟩
        · have HR' := Lib.hid hr'
          have HF' := Lib.hid hf'
          clear hr' hf'
          go_wp2_with fail
          refine (Num_any (B := B) _ _ 0 HE.out HT.out).mono ?_
          rintro e w3 ⟨rfl, hb⟩
          obtain ⟨hc3, hf3⟩ := bcell hb
          have hz3 := hb.size
          have HB3 := Lib.hid (Below.trans HBc.out (hb.mono hwc))
          have hA3 : w1.heap.size < w3.heap.size := by omega
          clear hb HE
          go_wp2_with fail
          refine (volt_first_eq (r := ch % 201) (by have h1 := (rightB_iff _ _ _ _).1 HR'.out; have h2 := (HF'.out.trans HF.out); unfold wrap64; omega) _).mono ?_
          rintro e w4 ⟨rfl, hb⟩
          obtain ⟨hc4, hf4⟩ := bcell hb
          have hz4 := hb.size
          try simp at hz4
          have HB4 := Lib.hid (Below.trans (B := w.heap.size) (a := w) (by repeat (first | exact HB3.out | refine Below.setCell ?_ (by first | omega | (simp; done) | (simp; omega)) _)) (hb.mono (by first | omega | (simp; done) | (simp; omega))))
          have hA4 : w1.heap.size < w4.heap.size := by omega
          clear hb
          have hcr := (rightB_iff _ _ _ _).1 HR'.out
          obtain ⟨⟨r0, r1⟩, _⟩ := hcr
          have hR2 := HR'.out
          go_wp2_with fail
          refine (volt_right _ _ _ _ _).mono ?_
          rintro e w5 ⟨rfl, rfl⟩
          go_wp2_with fail
          go_roundw
          case rel =>
            refine ⟨k + 1, c', s', g', d', by omega, by go_num, by repeat (first | exact HB4.out | refine Below.alloc ?_ (by first | omega | (simp; done) | (simp; omega)) _), hs1, (by first | omega | (simp; done) | (simp; omega)), ⟨?_, ?_, ?_, ?_⟩, ⟨?_, ?_, ?_, ?_⟩, HR'.out, (HF'.out.trans HF.out)⟩
            all_goals simp [go_sem, *]
          case measure => simp [intOf]; omega
        · have hkb : (kc == 0) = false := by simpa using hk0
          go_wp2_with fail
          refine (Num_any (B := B) _ _ kc HE.out HT.out).mono ?_
          rintro e w3 ⟨rfl, hb⟩
          obtain ⟨hc3, hf3⟩ := bcell hb
          have hz3 := hb.size
          have HB3 := Lib.hid (Below.trans HBc.out (hb.mono hwc))
          have hA3 : w1.heap.size < w3.heap.size := by omega
          clear hb HE
          go_wp2_with fail
          refine (volt_first_eq (r := ch % 201) (by have h1 := (rightB_iff _ _ _ _).1 HR.out; have h2 := HF.out; unfold wrap64; omega) _).mono ?_
          rintro e w4 ⟨rfl, hb⟩
          obtain ⟨hc4, hf4⟩ := bcell hb
          have hz4 := hb.size
          try simp at hz4
          have HB4 := Lib.hid (Below.trans (B := w.heap.size) (a := w) (by repeat (first | exact HB3.out | refine Below.setCell ?_ (by first | omega | (simp; done) | (simp; omega)) _)) (hb.mono (by first | omega | (simp; done) | (simp; omega))))
          have hA4 : w1.heap.size < w4.heap.size := by omega
          clear hb
          have hcr := (rightB_iff _ _ _ _).1 HR.out
          obtain ⟨⟨r0, r1⟩, _⟩ := hcr
          have hR2 := HR.out
          go_wp2_with fail
          refine (volt_right _ _ _ _ _).mono ?_
          rintro e w5 ⟨rfl, rfl⟩
          go_wp2_with fail
          go_roundw
          case rel =>
            refine ⟨k + 1, c, s, g, d, by omega, by go_num, by repeat (first | exact HB4.out | refine Below.alloc ?_ (by first | omega | (simp; done) | (simp; omega)) _), hs1, (by first | omega | (simp; done) | (simp; omega)), ⟨?_, ?_, ?_, ?_⟩, ⟨?_, ?_, ?_, ?_⟩, HR.out, HF.out⟩
            all_goals simp [go_sem, *]
          case measure => simp [intOf]; omega
    · have hltb : decide (k < l1) = false := by simpa using hlt
      go_wp2_with fail
      go_ret
      exact ⟨rfl, HBl.out⟩

theorem keeps_zero (ch : Int) (a b : Option Addr) (c1 l2 c2 : Nat) (w : World) (p0 : 0 ≤ ch) (p1 : ch ≤ 255) (hl2 : l2 ≤ 9223372036854775807) (tied : Tied w) :
    Calls Tryd.prog 13 #[.int .u8 ch, .slice a 0 c1, .slice b l2 c2] w fun e w' => e = .returned (.bool true) ∧ Below w.heap.size w w' := by
  have T := Lib.hid tied
  clear tied
  go_enter Tryd.func13, Tryd.ntmps13
  go_wp2_with fail
  refine (volt_awake _ T.out).mono ?_
  rintro e w1 ⟨rfl, hb⟩
  have hs1 := hb.size
  have HB1 := Lib.hid hb
  clear hb
  go_wp2_with fail
  refine wp_loop_rounds 1 ?_
  rw [rounds_succ]
  go_wp2_with fail
  go_ret
  exact ⟨rfl, HB1.out.alloc hs1 _⟩
theorem keeps_out (ch : Int) (a b : Option Addr) (l1 c1 l2 c2 : Nat) (w : World) (hl1 : l1 ≤ 9223372036854775807) (hl2 : l2 ≤ 9223372036854775807) (h : 200 < l1 ∨ (l1 ≤ 200 ∧ l2 < l1)) (tied : Tied w) :
    Calls Tryd.prog 13 #[.int .u8 ch, .slice a l1 c1, .slice b l2 c2] w fun e w' => e = .returned (.bool true) ∧ Below w.heap.size w w' := by
  have T := Lib.hid tied
  clear tied
  rcases h with h | ⟨h, h'⟩
  · have hd1 : decide ((200 : Int) < (l1 : Int)) = true := by simp; omega
    go_enter Tryd.func13, Tryd.ntmps13
    go_wp2_with fail
    refine (volt_awake _ T.out).mono ?_
    rintro e w1 ⟨rfl, hb⟩
    have hs1 := hb.size
    have HB1 := Lib.hid hb
    clear hb
    go_wp2_with fail
    refine (volt_awake _ (T.out.under T.out.lt HB1.out)).mono ?_
    rintro e w2 ⟨rfl, hb⟩
    have HB2 := Lib.hid (Below.trans HB1.out (hb.mono hs1))
    clear hb
    go_wp2_with fail
    go_ret
    exact ⟨rfl, HB2.out⟩
  · have hd1 : decide ((200 : Int) < (l1 : Int)) = false := by simp; omega
    have hd2 : decide (l2 < l1) = true := by simp; omega
    go_enter Tryd.func13, Tryd.ntmps13
    go_wp2_with fail
    refine (volt_awake _ T.out).mono ?_
    rintro e w1 ⟨rfl, hb⟩
    have hs1 := hb.size
    have HB1 := Lib.hid hb
    clear hb
    go_wp2_with fail
    refine (volt_awake _ (T.out.under T.out.lt HB1.out)).mono ?_
    rintro e w2 ⟨rfl, hb⟩
    have HB2 := Lib.hid (Below.trans HB1.out (hb.mono hs1))
    clear hb
    go_wp2_with fail
    go_ret
    exact ⟨rfl, HB2.out⟩
theorem keeps_walk (ch : Int) (a : Option Addr) (l1 c1 : Nat) (zs : List Int) (b : Option Addr) (l2 c2 : Nat) (ns : List Int) (w : World) (wf1 : (Lit.int .u8 ch).wf = true) (r1 : IsRow .u8 w a l1 zs) (r2 : IsRow .i64 w b l2 ns) (tied : Tied w) :
    Calls Tryd.prog 13 #[.int .u8 ch, .slice a l1 c1, .slice b l2 c2] w fun e w' => e = .returned (.bool true) ∧ Below w.heap.size w w' := by
  have h1 := wf_u8 wf1
  obtain ⟨e1, f1, m1, k1⟩ := r1
  obtain ⟨e2, f2, m2, k2⟩ := r2
  unfold maxLen at m1 m2
  by_cases hl : 200 < l1 ∨ (l1 ≤ 200 ∧ l2 < l1)
  · exact keeps_out ch a b l1 c1 l2 c2 w (by omega) (by omega) hl tied
  · by_cases h0 : l1 = 0
    · subst h0; exact keeps_zero ch a b c1 l2 c2 w h1.1 h1.2 (by omega) tied
    · rcases k1 with k1 | ⟨ba, oa, rfl, hc1⟩
      · exact absurd k1 h0
      · rcases k2 with k2 | ⟨bn, on, rfl, hc2⟩
        · omega
        · exact keeps_loop ch _ ba oa bn on l1 c1 l2 c2 zs ns w h1.1 h1.2 rfl (by omega) (by omega) (by omega) tied hc1 (fun j hj => wf_u8 (f1 _ (by rw [List.getD_eq_getElem?_getD, List.getElem?_eq_getElem (by omega)]; exact List.getElem_mem _))) hc2
end Go.Proofs.YtlapklghioinfaaDoor
