/- node.Right by its contract. -/
import Derived.Test.YtbiijkpffllimaaDoorNodeMPNodeUnlike
import Derived.Deep.LoopGhost
namespace Go.Proofs.YtbiijkpffllimaaDoor
open Go.RowKit Go.Extern.Stop Go.Stop Go.Extern Go.Proofs.YtbiijkpffllimaaDoorW.PrintWords Go.Proofs.YtbiijkpffllimaaDoorW.PrintLast Go.Proofs.YtbiijkpffllimaaDoorW.PrintMore Go.Proofs.YtbiijkpffllimaaDoor.PNodeUnlike
set_option linter.unusedVariables false
set_option linter.unusedSimpArgs false

theorem rising_any (A : Option Addr) (ks : List Int) (c : Nat) (w : World) (h : Ints w A ks c) (hl : ks.length ≤ 1000) :
    Calls Tryd.prog 44 #[.slice A ks.length c] w fun e w' => e = .returned (.bool (risB ks)) ∧ Below w.heap.size w w' := by
  obtain ⟨k, hk⟩ := ris_f ks hl
  exact (node_rising.calls k A c ks _ w h.1 h.2 hk).mono fun _ _ ⟨he, hd⟩ => ⟨he, hd.below⟩
theorem leaf_any (A0 : Option Addr) (ks : List Int) (c0 : Nat) (A1 : Option Addr) (vs : List ByteArray) (c1 : Nat) (A2 : Option Addr) (kd : List Int) (c2 : Nat) (w : World) (h0 : Ints w A0 ks c0) (h1 : Strs w A1 vs c1) (h2 : Ints w A2 kd c2) :
    Calls Tryd.prog 30 #[.agg #[.slice A0 ks.length c0, .slice A1 vs.length c1, .slice A2 kd.length c2]] w fun e w' => e = .returned (.bool (decide (kd.length = 0))) ∧ Below w.heap.size w w' :=
  node_Leaf.calls A0 c0 ks A1 c1 vs A2 c2 kd _ w h0.1 h0.2 h1.1 h1.2 h2.1 h2.2 (by unfold node_Leaf.f; congr 1; rw [Bool.eq_iff_iff]; simp)
theorem val_no (s : ByteArray) (w : World) (h : (s.size : Int) = 12) : Calls Tryd.prog 46 #[.string s] w fun e w' => e = .returned (.bool false) ∧ w = w' := by
  have hd : ((s.size : Int) != 12) = false := by simp; omega
  clear h
  go_enter Tryd.func46, Tryd.ntmps46
  go_wp2
  go_ret
  exact ⟨rfl, rfl⟩
theorem val_yes (s : ByteArray) (w : World) (h : ¬ (s.size : Int) = 12) : Calls Tryd.prog 46 #[.string s] w fun e w' => e = .returned (.bool true) ∧ w = w' := by
  have hd : ((s.size : Int) != 12) = true := by simp; omega
  clear h
  go_enter Tryd.func46, Tryd.ntmps46
  go_wp2
  go_ret
  exact ⟨rfl, rfl⟩
def IdxPost (vs : List ByteArray) (w : World) (e : Ending) (w' : World) : Prop := ∃ r : Int, e = .returned (.int .i64 r) ∧ decide (0 ≤ r) = !valsB vs ∧ Below w.heap.size w w'
theorem vals_bad {vs : List ByteArray} {k : Nat} (hk : k < vs.length) (h : val12 vs k = false) : valsB vs = false := by
  cases e : valsB vs with
  | false => rfl
  | true =>
    have := allN_all.1 e k hk
    rw [h] at this; cases this
theorem idx_none (A : Option Addr) (c : Nat) (f : Value) (w : World) : Calls Tryd.prog 63 #[.slice A 0 c, f] w (IdxPost [] w) := by
  go_enter Tryd.func63, Tryd.ntmps63
  go_wp2
  refine wp_loop_rounds 1 ?_
  rw [rounds_succ]
  go_wp2
  go_ret
  exact ⟨-1, rfl, by decide, Below.refl _ _⟩
theorem idx_some (b o : Nat) (vs : List ByteArray) (c : Nat) (w : World) (hl : vs.length ≤ 1000) (hc : ∀ j, j < vs.length → w.cell? ⟨b, o + j, none⟩ = some (.string (rdOf ByteArray.empty vs j))) :
    Calls Tryd.prog 63 #[.slice (some ⟨b, o, none⟩) vs.length c, .func (.func 46) #[] #[]] w (IdxPost vs w) := by
  have HC := Lib.hid hc
  clear hc
  go_enter Tryd.func63, Tryd.ntmps63
  go_wp2
  go_loopg [5, 8] vs.length (fun gg _ i wr => ∃ k : Nat, k ≤ vs.length ∧ vs.length - k ≤ gg ∧ i = .int .i64 k ∧ Hid (allN (val12 vs) 0 k = true) ∧ Hid (Below w.heap.size w wr))
  case atStart => exact ⟨0, Nat.zero_le _, by omega, rfl, Lib.hid rfl, Lib.hid (Below.refl _ _)⟩
  case round =>
    obtain ⟨k, hk, hg, rfl, HA, HB⟩ := hrel
    by_cases hlt : k < vs.length
    · have hltz : (k : Int) < (vs.length : Int) := by omega
      have x1 : wr.cell? ⟨b, o + k, none⟩ = some (.string (rdOf ByteArray.empty vs k)) := (HB.out.cell (cell_lt (HC.out k hlt))).trans (HC.out k hlt)
      have HV : Hid (val12 vs k = decide (((rdOf ByteArray.empty vs (k : Int)).size : Int) = 12)) := Lib.hid rfl
      have HBad := Lib.hid (vals_bad (vs := vs) hlt)
      have HSn := Lib.hid (allN_snoc HA.out)
      obtain ⟨x, hx⟩ : ∃ q, q = rdOf ByteArray.empty vs (k : Int) := ⟨_, rfl⟩
      rw [← hx] at x1 HV
      clear hx
      by_cases h2 : (x.size : Int) = 12
      · have HC1 := Lib.hid (val_no x wr h2)
        have hv := Lib.hid (HSn.out (by rw [HV.out]; exact decide_eq_true h2))
        clear h2
        go_wp2_with fail
        refine HC1.out.mono ?_
        rintro e w1 ⟨rfl, rfl⟩
        go_wp2_with fail
        go_roundg (vs.length - (k + 1))
        case measure => omega
        case rel => exact ⟨k + 1, by omega, by omega, by go_num, hv, HB⟩
      · have HC1 := Lib.hid (val_yes x wr h2)
        have hv := Lib.hid (HBad.out (by rw [HV.out]; exact decide_eq_false h2))
        clear h2
        go_wp2_with fail
        refine HC1.out.mono ?_
        rintro e w1 ⟨rfl, rfl⟩
        go_wp2_with fail
        go_ret
        exact ⟨k, rfl, by rw [hv.out]; exact decide_eq_true (by omega), HB.out⟩
    · have hltb : ¬ (k : Int) < (vs.length : Int) := by omega
      have hkl : k = vs.length := by omega
      have HA' : Hid (valsB vs = true) := Lib.hid (by unfold valsB; rw [← hkl]; exact HA.out)
      clear hkl
      go_wp2
      go_ret
      exact ⟨-1, rfl, by rw [HA'.out]; decide, HB.out⟩
theorem con_any (A : Option Addr) (vs : List ByteArray) (c : Nat) (w : World) (h : Strs w A vs c) (hl : vs.length ≤ 1000) :
    Calls Tryd.prog 45 #[.slice A vs.length c, .func (.func 46) #[] #[]] w fun e w' => e = .returned (.bool (!valsB vs)) ∧ Below w.heap.size w w' := by
  have HI : Hid (Calls Tryd.prog 63 #[.slice A vs.length c, .func (.func 46) #[] #[]] w (IdxPost vs w)) := Lib.hid (by
    by_cases h0 : vs.length = 0
    · obtain rfl := List.eq_nil_of_length_eq_zero h0
      exact idx_none A c _ w
    · obtain ⟨b, o, rfl, hc⟩ := h.at (by omega)
      exact idx_some b o vs c w hl hc)
  clear h
  go_enter Tryd.func45, Tryd.ntmps45
  go_wp2_with fail
  refine HI.out.mono ?_
  rintro e w1 ⟨r, rfl, hr, hb⟩
  have HB := Lib.hid hb
  have HR := Lib.hid hr
  clear hb hr
  go_wp2_with fail
  go_ret
  exact ⟨by rw [← HR.out]; rfl, HB.out⟩
set_option maxHeartbeats 800000 in
theorem right_a (A0 : Option Addr) (ks : List Int) (c0 : Nat) (A1 : Option Addr) (vs : List ByteArray) (c1 : Nat) (A2 : Option Addr) (kd : List Int) (c2 : Nat) (w : World) (h0 : Ints w A0 ks c0) (h1 : Strs w A1 vs c1) (h2 : Ints w A2 kd c2) (hl0 : ks.length ≤ 1000) (hl1 : vs.length ≤ 1000) (hl2 : kd.length ≤ 1000) (hr : risB ks = false) :
    Calls Tryd.prog 20 #[.agg #[.slice A0 ks.length c0, .slice A1 vs.length c1, .slice A2 kd.length c2]] w fun e w' => e = .returned (.bool (nodeB ks vs kd)) ∧ Below w.heap.size w w' := by
  have H0 := Lib.hid h0
  have H1 := Lib.hid h1
  have H2 := Lib.hid h2
  have HN : Hid (nodeB ks vs kd = false) := Lib.hid (by unfold nodeB; rw [hr, Bool.false_and])
  clear h0 h1 h2
  have HB0 : Hid (Below w.heap.size w (w.alloc (.cells #[.slice A0 ks.length c0, .slice A1 vs.length c1, .slice A2 kd.length c2] 33))) := Lib.hid ((Below.refl _ _).alloc (Nat.le_refl _) _)
  have HC1 := Lib.hid (rising_any A0 ks c0 _ (H0.out.below HB0.out) hl0)
  rw [hr] at HC1
  go_enter Tryd.func20, Tryd.ntmps20
  go_wp2_with fail
  refine HC1.out.mono ?_
  rintro e w1 ⟨rfl, hb⟩
  have HB1 := Lib.hid (HB0.out.trans (hb.mono (by simp)))
  obtain ⟨hc1, hf1⟩ := bcell hb
  clear hb
  go_wp2_with fail
  go_ret
  exact ⟨by rw [HN.out]; rfl, HB1.out⟩
set_option maxHeartbeats 800000 in
theorem right_b (A0 : Option Addr) (ks : List Int) (c0 : Nat) (A1 : Option Addr) (vs : List ByteArray) (c1 : Nat) (A2 : Option Addr) (kd : List Int) (c2 : Nat) (w : World) (h0 : Ints w A0 ks c0) (h1 : Strs w A1 vs c1) (h2 : Ints w A2 kd c2) (hl0 : ks.length ≤ 1000) (hl1 : vs.length ≤ 1000) (hl2 : kd.length ≤ 1000) (hr : risB ks = true) (hk : kd.length = 0) (hv : vs.length = ks.length) :
    Calls Tryd.prog 20 #[.agg #[.slice A0 ks.length c0, .slice A1 vs.length c1, .slice A2 kd.length c2]] w fun e w' => e = .returned (.bool (nodeB ks vs kd)) ∧ Below w.heap.size w w' := by
  have H0 := Lib.hid h0
  have H1 := Lib.hid h1
  have H2 := Lib.hid h2
  have HN : Hid (nodeB ks vs kd = valsB vs) := Lib.hid (by unfold nodeB; rw [hr, if_pos hk, decide_eq_true hv, Bool.and_true, Bool.true_and])
  have hkb := decide_eq_true hk
  have hvb : ((vs.length : Int) == (ks.length : Int)) = true := by rw [beq_iff_eq]; omega
  have hvb2 : (vs.length == ks.length) = true := by simpa using hv
  have HVK := Lib.hid hv
  have HKD := Lib.hid hk
  clear hv hk
  clear h0 h1 h2
  have HB0 : Hid (Below w.heap.size w (w.alloc (.cells #[.slice A0 ks.length c0, .slice A1 vs.length c1, .slice A2 kd.length c2] 33))) := Lib.hid ((Below.refl _ _).alloc (Nat.le_refl _) _)
  have HC1 := Lib.hid (rising_any A0 ks c0 _ (H0.out.below HB0.out) hl0)
  rw [hr] at HC1
  go_enter Tryd.func20, Tryd.ntmps20
  go_wp2_with fail
  refine HC1.out.mono ?_
  rintro e w1 ⟨rfl, hb⟩
  have HB1 := Lib.hid (HB0.out.trans (hb.mono (by simp)))
  obtain ⟨hc1, hf1⟩ := bcell hb
  have HS1 : Hid (w.heap.size < w1.heap.size) := Lib.hid (by have := hb.size; simp at this; omega)
  clear hb
  have HC2 := Lib.hid (leaf_any A0 ks c0 A1 vs c1 A2 kd c2 w1 (H0.out.below HB1.out) (H1.out.below HB1.out) (H2.out.below HB1.out))
  rw [hkb] at HC2
  go_wp2_with fail
  refine HC2.out.mono ?_
  rintro e w2 ⟨rfl, hb⟩
  have HB2 := Lib.hid (HB1.out.trans (hb.mono HB1.out.size))
  have hz1 := HB1.out.size
  have hs1 : w.heap.size < w1.heap.size := HS1.out
  obtain ⟨hc2, hf2⟩ := bcell hb
  clear hb
  have HC3 := Lib.hid (con_any A1 vs c1 w2 (H1.out.below HB2.out) hl1)
  go_wp2_with fail
  refine HC3.out.mono ?_
  rintro e w3 ⟨rfl, hb⟩
  have HB3 := Lib.hid (HB2.out.trans (hb.mono HB2.out.size))
  clear hb
  go_wp2_with fail
  go_ret
  exact ⟨by rw [HN.out]; simp, HB3.out⟩
set_option maxHeartbeats 800000 in
theorem right_c (A0 : Option Addr) (ks : List Int) (c0 : Nat) (A1 : Option Addr) (vs : List ByteArray) (c1 : Nat) (A2 : Option Addr) (kd : List Int) (c2 : Nat) (w : World) (h0 : Ints w A0 ks c0) (h1 : Strs w A1 vs c1) (h2 : Ints w A2 kd c2) (hl0 : ks.length ≤ 1000) (hl1 : vs.length ≤ 1000) (hl2 : kd.length ≤ 1000) (hr : risB ks = true) (hk : kd.length = 0) (hv : ¬ vs.length = ks.length) :
    Calls Tryd.prog 20 #[.agg #[.slice A0 ks.length c0, .slice A1 vs.length c1, .slice A2 kd.length c2]] w fun e w' => e = .returned (.bool (nodeB ks vs kd)) ∧ Below w.heap.size w w' := by
  have H0 := Lib.hid h0
  have H1 := Lib.hid h1
  have H2 := Lib.hid h2
  have HN : Hid (nodeB ks vs kd = false) := Lib.hid (by unfold nodeB; rw [hr, if_pos hk, decide_eq_false hv, Bool.and_false, Bool.true_and])
  have hkb := decide_eq_true hk
  have hvb : ((vs.length : Int) == (ks.length : Int)) = false := by rw [beq_eq_false_iff_ne]; omega
  have hvb2 : (vs.length == ks.length) = false := by simpa using hv
  have HVK := Lib.hid hv
  have HKD := Lib.hid hk
  clear hv hk
  clear h0 h1 h2
  have HB0 : Hid (Below w.heap.size w (w.alloc (.cells #[.slice A0 ks.length c0, .slice A1 vs.length c1, .slice A2 kd.length c2] 33))) := Lib.hid ((Below.refl _ _).alloc (Nat.le_refl _) _)
  have HC1 := Lib.hid (rising_any A0 ks c0 _ (H0.out.below HB0.out) hl0)
  rw [hr] at HC1
  go_enter Tryd.func20, Tryd.ntmps20
  go_wp2_with fail
  refine HC1.out.mono ?_
  rintro e w1 ⟨rfl, hb⟩
  have HB1 := Lib.hid (HB0.out.trans (hb.mono (by simp)))
  obtain ⟨hc1, hf1⟩ := bcell hb
  have HS1 : Hid (w.heap.size < w1.heap.size) := Lib.hid (by have := hb.size; simp at this; omega)
  clear hb
  have HC2 := Lib.hid (leaf_any A0 ks c0 A1 vs c1 A2 kd c2 w1 (H0.out.below HB1.out) (H1.out.below HB1.out) (H2.out.below HB1.out))
  rw [hkb] at HC2
  go_wp2_with fail
  refine HC2.out.mono ?_
  rintro e w2 ⟨rfl, hb⟩
  have HB2 := Lib.hid (HB1.out.trans (hb.mono HB1.out.size))
  have hz1 := HB1.out.size
  have hs1 : w.heap.size < w1.heap.size := HS1.out
  obtain ⟨hc2, hf2⟩ := bcell hb
  clear hb
  go_wp2_with fail
  go_ret
  exact ⟨by rw [HN.out]; rfl, HB2.out⟩
set_option maxHeartbeats 800000 in
theorem right_d (A0 : Option Addr) (ks : List Int) (c0 : Nat) (A1 : Option Addr) (vs : List ByteArray) (c1 : Nat) (A2 : Option Addr) (kd : List Int) (c2 : Nat) (w : World) (h0 : Ints w A0 ks c0) (h1 : Strs w A1 vs c1) (h2 : Ints w A2 kd c2) (hl0 : ks.length ≤ 1000) (hl1 : vs.length ≤ 1000) (hl2 : kd.length ≤ 1000) (hr : risB ks = true) (hk : ¬ kd.length = 0) (hv : ¬ vs.length = 0) :
    Calls Tryd.prog 20 #[.agg #[.slice A0 ks.length c0, .slice A1 vs.length c1, .slice A2 kd.length c2]] w fun e w' => e = .returned (.bool (nodeB ks vs kd)) ∧ Below w.heap.size w w' := by
  have H0 := Lib.hid h0
  have H1 := Lib.hid h1
  have H2 := Lib.hid h2
  have HN : Hid (nodeB ks vs kd = false) := Lib.hid (by unfold nodeB; rw [hr, if_neg hk, Bool.true_and]; rw [decide_eq_false (by omega), Bool.and_false])
  have hkb := decide_eq_false hk
  have hv0 : ((vs.length : Int) == 0) = false := by rw [beq_eq_false_iff_ne]; omega
  have hv1 : (vs.length == 0) = false := by simpa using hv
  have HV := Lib.hid hv
  clear hv
  have HKD := Lib.hid hk
  clear hk
  clear h0 h1 h2
  have HB0 : Hid (Below w.heap.size w (w.alloc (.cells #[.slice A0 ks.length c0, .slice A1 vs.length c1, .slice A2 kd.length c2] 33))) := Lib.hid ((Below.refl _ _).alloc (Nat.le_refl _) _)
  have HC1 := Lib.hid (rising_any A0 ks c0 _ (H0.out.below HB0.out) hl0)
  rw [hr] at HC1
  go_enter Tryd.func20, Tryd.ntmps20
  go_wp2_with fail
  refine HC1.out.mono ?_
  rintro e w1 ⟨rfl, hb⟩
  have HB1 := Lib.hid (HB0.out.trans (hb.mono (by simp)))
  obtain ⟨hc1, hf1⟩ := bcell hb
  have HS1 : Hid (w.heap.size < w1.heap.size) := Lib.hid (by have := hb.size; simp at this; omega)
  clear hb
  have HC2 := Lib.hid (leaf_any A0 ks c0 A1 vs c1 A2 kd c2 w1 (H0.out.below HB1.out) (H1.out.below HB1.out) (H2.out.below HB1.out))
  rw [hkb] at HC2
  go_wp2_with fail
  refine HC2.out.mono ?_
  rintro e w2 ⟨rfl, hb⟩
  have HB2 := Lib.hid (HB1.out.trans (hb.mono HB1.out.size))
  have hz1 := HB1.out.size
  have hs1 : w.heap.size < w1.heap.size := HS1.out
  obtain ⟨hc2, hf2⟩ := bcell hb
  clear hb
  go_wp2_with fail
  go_ret
  exact ⟨by rw [HN.out]; rfl, HB2.out⟩
set_option maxHeartbeats 800000 in
theorem right_e (A0 : Option Addr) (ks : List Int) (c0 : Nat) (A1 : Option Addr) (vs : List ByteArray) (c1 : Nat) (A2 : Option Addr) (kd : List Int) (c2 : Nat) (w : World) (h0 : Ints w A0 ks c0) (h1 : Strs w A1 vs c1) (h2 : Ints w A2 kd c2) (hl0 : ks.length ≤ 1000) (hl1 : vs.length ≤ 1000) (hl2 : kd.length ≤ 1000) (hr : risB ks = true) (hk : ¬ kd.length = 0) (hv : vs.length = 0) (hq : ¬ 1 ≤ ks.length) :
    Calls Tryd.prog 20 #[.agg #[.slice A0 ks.length c0, .slice A1 vs.length c1, .slice A2 kd.length c2]] w fun e w' => e = .returned (.bool (nodeB ks vs kd)) ∧ Below w.heap.size w w' := by
  have H0 := Lib.hid h0
  have H1 := Lib.hid h1
  have H2 := Lib.hid h2
  have HN : Hid (nodeB ks vs kd = false) := Lib.hid (by unfold nodeB; rw [hr, if_neg hk, Bool.true_and]; rw [decide_eq_false (by omega), Bool.and_false])
  have hkb := decide_eq_false hk
  have hv0 : ((vs.length : Int) == 0) = true := by rw [beq_iff_eq]; omega
  have hv1 : (vs.length == 0) = true := by simpa using hv
  have HV := Lib.hid hv
  clear hv
  have hq0 : decide ((ks.length : Int) ≥ 1) = false := by simp; omega
  have hq1 : decide (1 ≤ (ks.length : Int)) = false := by simp; omega
  have hq2 : decide (1 ≤ ks.length) = false := by simpa using hq
  have HQ := Lib.hid hq
  clear hq
  have HKD := Lib.hid hk
  clear hk
  clear h0 h1 h2
  have HB0 : Hid (Below w.heap.size w (w.alloc (.cells #[.slice A0 ks.length c0, .slice A1 vs.length c1, .slice A2 kd.length c2] 33))) := Lib.hid ((Below.refl _ _).alloc (Nat.le_refl _) _)
  have HC1 := Lib.hid (rising_any A0 ks c0 _ (H0.out.below HB0.out) hl0)
  rw [hr] at HC1
  go_enter Tryd.func20, Tryd.ntmps20
  go_wp2_with fail
  refine HC1.out.mono ?_
  rintro e w1 ⟨rfl, hb⟩
  have HB1 := Lib.hid (HB0.out.trans (hb.mono (by simp)))
  obtain ⟨hc1, hf1⟩ := bcell hb
  have HS1 : Hid (w.heap.size < w1.heap.size) := Lib.hid (by have := hb.size; simp at this; omega)
  clear hb
  have HC2 := Lib.hid (leaf_any A0 ks c0 A1 vs c1 A2 kd c2 w1 (H0.out.below HB1.out) (H1.out.below HB1.out) (H2.out.below HB1.out))
  rw [hkb] at HC2
  go_wp2_with fail
  refine HC2.out.mono ?_
  rintro e w2 ⟨rfl, hb⟩
  have HB2 := Lib.hid (HB1.out.trans (hb.mono HB1.out.size))
  have hz1 := HB1.out.size
  have hs1 : w.heap.size < w1.heap.size := HS1.out
  obtain ⟨hc2, hf2⟩ := bcell hb
  clear hb
  go_wp2_with fail
  go_ret
  exact ⟨by rw [HN.out]; rfl, HB2.out⟩
set_option maxHeartbeats 800000 in
theorem right_f (A0 : Option Addr) (ks : List Int) (c0 : Nat) (A1 : Option Addr) (vs : List ByteArray) (c1 : Nat) (A2 : Option Addr) (kd : List Int) (c2 : Nat) (w : World) (h0 : Ints w A0 ks c0) (h1 : Strs w A1 vs c1) (h2 : Ints w A2 kd c2) (hl0 : ks.length ≤ 1000) (hl1 : vs.length ≤ 1000) (hl2 : kd.length ≤ 1000) (hr : risB ks = true) (hk : ¬ kd.length = 0) (hv : vs.length = 0) (hq : 1 ≤ ks.length) (hn : ¬ kd.length = ks.length + 1) :
    Calls Tryd.prog 20 #[.agg #[.slice A0 ks.length c0, .slice A1 vs.length c1, .slice A2 kd.length c2]] w fun e w' => e = .returned (.bool (nodeB ks vs kd)) ∧ Below w.heap.size w w' := by
  have H0 := Lib.hid h0
  have H1 := Lib.hid h1
  have H2 := Lib.hid h2
  have HN : Hid (nodeB ks vs kd = false) := Lib.hid (by unfold nodeB; rw [hr, if_neg hk, Bool.true_and]; rw [decide_eq_false (by omega), Bool.and_false])
  have hkb := decide_eq_false hk
  have hv0 : ((vs.length : Int) == 0) = true := by rw [beq_iff_eq]; omega
  have hv1 : (vs.length == 0) = true := by simpa using hv
  have HV := Lib.hid hv
  clear hv
  have hq0 : decide ((ks.length : Int) ≥ 1) = true := by simp; omega
  have hq1 : decide (1 ≤ (ks.length : Int)) = true := by simp; omega
  have hq2 : decide (1 ≤ ks.length) = true := by simpa using hq
  have HQ := Lib.hid hq
  clear hq
  have hn0 : ((kd.length : Int) == (ks.length : Int) + 1) = false := by rw [beq_eq_false_iff_ne]; omega
  have hn1 : (kd.length == ks.length + 1) = false := by simpa using hn
  have HNN := Lib.hid hn
  clear hn
  have HKD := Lib.hid hk
  clear hk
  clear h0 h1 h2
  have HB0 : Hid (Below w.heap.size w (w.alloc (.cells #[.slice A0 ks.length c0, .slice A1 vs.length c1, .slice A2 kd.length c2] 33))) := Lib.hid ((Below.refl _ _).alloc (Nat.le_refl _) _)
  have HC1 := Lib.hid (rising_any A0 ks c0 _ (H0.out.below HB0.out) hl0)
  rw [hr] at HC1
  go_enter Tryd.func20, Tryd.ntmps20
  go_wp2_with fail
  refine HC1.out.mono ?_
  rintro e w1 ⟨rfl, hb⟩
  have HB1 := Lib.hid (HB0.out.trans (hb.mono (by simp)))
  obtain ⟨hc1, hf1⟩ := bcell hb
  have HS1 : Hid (w.heap.size < w1.heap.size) := Lib.hid (by have := hb.size; simp at this; omega)
  clear hb
  have HC2 := Lib.hid (leaf_any A0 ks c0 A1 vs c1 A2 kd c2 w1 (H0.out.below HB1.out) (H1.out.below HB1.out) (H2.out.below HB1.out))
  rw [hkb] at HC2
  go_wp2_with fail
  refine HC2.out.mono ?_
  rintro e w2 ⟨rfl, hb⟩
  have HB2 := Lib.hid (HB1.out.trans (hb.mono HB1.out.size))
  have hz1 := HB1.out.size
  have hs1 : w.heap.size < w1.heap.size := HS1.out
  obtain ⟨hc2, hf2⟩ := bcell hb
  clear hb
  go_wp2_with fail
  go_ret
  exact ⟨by rw [HN.out]; rfl, HB2.out⟩
set_option maxHeartbeats 800000 in
theorem right_g (A0 : Option Addr) (ks : List Int) (c0 : Nat) (A1 : Option Addr) (vs : List ByteArray) (c1 : Nat) (A2 : Option Addr) (kd : List Int) (c2 : Nat) (w : World) (h0 : Ints w A0 ks c0) (h1 : Strs w A1 vs c1) (h2 : Ints w A2 kd c2) (hl0 : ks.length ≤ 1000) (hl1 : vs.length ≤ 1000) (hl2 : kd.length ≤ 1000) (hr : risB ks = true) (hk : ¬ kd.length = 0) (hv : vs.length = 0) (hq : 1 ≤ ks.length) (hn : kd.length = ks.length + 1) :
    Calls Tryd.prog 20 #[.agg #[.slice A0 ks.length c0, .slice A1 vs.length c1, .slice A2 kd.length c2]] w fun e w' => e = .returned (.bool (nodeB ks vs kd)) ∧ Below w.heap.size w w' := by
  have H0 := Lib.hid h0
  have H1 := Lib.hid h1
  have H2 := Lib.hid h2
  have HN : Hid (nodeB ks vs kd = kidsB kd) := Lib.hid (by unfold nodeB; rw [hr, if_neg hk, Bool.true_and]; rw [decide_eq_true (by omega), Bool.and_true])
  have hkb := decide_eq_false hk
  have hv0 : ((vs.length : Int) == 0) = true := by rw [beq_iff_eq]; omega
  have hv1 : (vs.length == 0) = true := by simpa using hv
  have HV := Lib.hid hv
  clear hv
  have hq0 : decide ((ks.length : Int) ≥ 1) = true := by simp; omega
  have hq1 : decide (1 ≤ (ks.length : Int)) = true := by simp; omega
  have hq2 : decide (1 ≤ ks.length) = true := by simpa using hq
  have HQ := Lib.hid hq
  clear hq
  have hn0 : ((kd.length : Int) == (ks.length : Int) + 1) = true := by rw [beq_iff_eq]; omega
  have hn1 : (kd.length == ks.length + 1) = true := by simpa using hn
  have HNN := Lib.hid hn
  clear hn
  have HKD := Lib.hid hk
  clear hk
  clear h0 h1 h2
  have HB0 : Hid (Below w.heap.size w (w.alloc (.cells #[.slice A0 ks.length c0, .slice A1 vs.length c1, .slice A2 kd.length c2] 33))) := Lib.hid ((Below.refl _ _).alloc (Nat.le_refl _) _)
  have HC1 := Lib.hid (rising_any A0 ks c0 _ (H0.out.below HB0.out) hl0)
  rw [hr] at HC1
  go_enter Tryd.func20, Tryd.ntmps20
  go_wp2_with fail
  refine HC1.out.mono ?_
  rintro e w1 ⟨rfl, hb⟩
  have HB1 := Lib.hid (HB0.out.trans (hb.mono (by simp)))
  obtain ⟨hc1, hf1⟩ := bcell hb
  have HS1 : Hid (w.heap.size < w1.heap.size) := Lib.hid (by have := hb.size; simp at this; omega)
  clear hb
  have HC2 := Lib.hid (leaf_any A0 ks c0 A1 vs c1 A2 kd c2 w1 (H0.out.below HB1.out) (H1.out.below HB1.out) (H2.out.below HB1.out))
  rw [hkb] at HC2
  go_wp2_with fail
  refine HC2.out.mono ?_
  rintro e w2 ⟨rfl, hb⟩
  have HB2 := Lib.hid (HB1.out.trans (hb.mono HB1.out.size))
  have hz1 := HB1.out.size
  have hs1 : w.heap.size < w1.heap.size := HS1.out
  obtain ⟨hc2, hf2⟩ := bcell hb
  clear hb
  have HC3 := Lib.hid (kids_any A2 kd c2 w2 (H2.out.below HB2.out) hl2)
  go_wp2_with fail
  refine HC3.out.mono ?_
  rintro e w3 ⟨rfl, hb⟩
  have HB3 := Lib.hid (HB2.out.trans (hb.mono HB2.out.size))
  clear hb
  go_wp2_with fail
  go_ret
  exact ⟨by rw [HN.out]; rfl, HB3.out⟩
theorem right_any (A0 : Option Addr) (ks : List Int) (c0 : Nat) (A1 : Option Addr) (vs : List ByteArray) (c1 : Nat) (A2 : Option Addr) (kd : List Int) (c2 : Nat) (w : World) (h0 : Ints w A0 ks c0) (h1 : Strs w A1 vs c1) (h2 : Ints w A2 kd c2) (hl0 : ks.length ≤ 1000) (hl1 : vs.length ≤ 1000) (hl2 : kd.length ≤ 1000) :
    Calls Tryd.prog 20 #[.agg #[.slice A0 ks.length c0, .slice A1 vs.length c1, .slice A2 kd.length c2]] w fun e w' => e = .returned (.bool (nodeB ks vs kd)) ∧ Below w.heap.size w w' := by
  cases hr : risB ks with
  | false => exact right_a A0 ks c0 A1 vs c1 A2 kd c2 w h0 h1 h2 hl0 hl1 hl2 hr
  | true =>
    by_cases hk : kd.length = 0
    · by_cases hv : vs.length = ks.length
      · exact right_b A0 ks c0 A1 vs c1 A2 kd c2 w h0 h1 h2 hl0 hl1 hl2 hr hk hv
      · exact right_c A0 ks c0 A1 vs c1 A2 kd c2 w h0 h1 h2 hl0 hl1 hl2 hr hk hv
    · by_cases hv : vs.length = 0
      · by_cases hq : 1 ≤ ks.length
        · by_cases hn : kd.length = ks.length + 1
          · exact right_g A0 ks c0 A1 vs c1 A2 kd c2 w h0 h1 h2 hl0 hl1 hl2 hr hk hv hq hn
          · exact right_f A0 ks c0 A1 vs c1 A2 kd c2 w h0 h1 h2 hl0 hl1 hl2 hr hk hv hq hn
        · exact right_e A0 ks c0 A1 vs c1 A2 kd c2 w h0 h1 h2 hl0 hl1 hl2 hr hk hv hq
      · exact right_d A0 ks c0 A1 vs c1 A2 kd c2 w h0 h1 h2 hl0 hl1 hl2 hr hk hv
end Go.Proofs.YtbiijkpffllimaaDoor
