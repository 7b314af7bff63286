/- node.Right by its contract. node.Lay by its contract. Nodes: what is read of bytes (plain), and that what is laid is read as it was. Nodes as arguments; awake, Few, Of, Same by their contracts. dynamolaw09.awake by its contract; NodeUnlike: the walk. NodeParts: plain laws, and slices in parts. node.parts's closures by their contracts. -/
import Derived.Test.YtbiijkpffllimaaDoorNodeMA
import Derived.Deep.LoopGhost
import Derived.Test.YtbiijkpffllimaaDoorKPackAPNodeUnlike
import Derived.Deep.RegionHeld3
import Derived.ChangeSlices
import Derived.OpenShut
import Derived.SliceStrings
import Derived.Lib.SmallJoins
import Derived.Test.YtbiijkpffllimaaDoorPage
namespace Go.Proofs.YtbiijkpffllimaaDoor
open Go.RowKit Go.Extern.Stop Go.Stop Go.Extern Go.Proofs.YtbiijkpffllimaaDoorW.PrintWords Go.Proofs.YtbiijkpffllimaaDoorW.PrintLast Go.Proofs.YtbiijkpffllimaaDoorW.PrintMore Go.Proofs.YtbiijkpffllimaaDoor.PNodeUnlike
set_option linter.unusedVariables false
set_option linter.unusedSimpArgs false

theorem rising_any (A : Option Addr) (ks : List Int) (c : Nat) (w : World) (h : Ints w A ks c) (hl : ks.length ≤ 1000) :
    Calls Tryd.prog 44 #[.slice A ks.length c] w fun e w' => e = .returned (.bool (risB ks)) ∧ Below w.heap.size w w' := by
  obtain ⟨k, hk⟩ := ris_f ks hl
  exact (node_rising.calls k A c ks _ w h.1 h.2 hk).mono fun _ _ ⟨he, hd⟩ => ⟨he, hd.below⟩
theorem leaf_any (A0 : Option Addr) (ks : List Int) (c0 : Nat) (A1 : Option Addr) (vs : List ByteArray) (c1 : Nat) (A2 : Option Addr) (kd : List Int) (c2 : Nat) (w : World) (h0 : Ints w A0 ks c0) (h1 : Strs w A1 vs c1) (h2 : Ints w A2 kd c2) :
    Calls Tryd.prog 30 #[.agg #[.slice A0 ks.length c0, .slice A1 vs.length c1, .slice A2 kd.length c2]] w fun e w' => e = .returned (.bool (decide (kd.length = 0))) ∧ Below w.heap.size w w' :=
  node_Leaf.calls A0 c0 ks A1 c1 vs A2 c2 kd _ w h0.1 h0.2 h1.1 h1.2 h2.1 h2.2 (by unfold node_Leaf.f; congr 1; rw [Bool.eq_iff_iff]; simp)
theorem val_no (s : ByteArray) (w : World) (h : (s.size : Int) = 12) : Calls Tryd.prog 46 #[.string s] w fun e w' => e = .returned (.bool false) ∧ w = w' := by
  have hd : ((s.size : Int) != 12) = false := by simp; omega
  clear h
  go_enter Tryd.func46, Tryd.ntmps46
  go_wp2
  go_ret
  exact ⟨rfl, rfl⟩
theorem val_yes (s : ByteArray) (w : World) (h : ¬ (s.size : Int) = 12) : Calls Tryd.prog 46 #[.string s] w fun e w' => e = .returned (.bool true) ∧ w = w' := by
  have hd : ((s.size : Int) != 12) = true := by simp; omega
  clear h
  go_enter Tryd.func46, Tryd.ntmps46
  go_wp2
  go_ret
  exact ⟨rfl, rfl⟩
def IdxPost (vs : List ByteArray) (w : World) (e : Ending) (w' : World) : Prop := ∃ r : Int, e = .returned (.int .i64 r) ∧ decide (0 ≤ r) = !valsB vs ∧ Below w.heap.size w w'
theorem vals_bad {vs : List ByteArray} {k : Nat} (hk : k < vs.length) (h : val12 vs k = false) : valsB vs = false := by
  cases e : valsB vs with
  | false => rfl
  | true =>
    have := allN_all.1 e k hk
    rw [h] at this; cases this
theorem idx_none (A : Option Addr) (c : Nat) (f : Value) (w : World) : Calls Tryd.prog 63 #[.slice A 0 c, f] w (IdxPost [] w) := by
  go_enter Tryd.func63, Tryd.ntmps63
  go_wp2
  refine wp_loop_rounds 1 ?_
  rw [rounds_succ]
  go_wp2
  go_ret
  exact ⟨-1, rfl, by decide, Below.refl _ _⟩
theorem idx_some (b o : Nat) (vs : List ByteArray) (c : Nat) (w : World) (hl : vs.length ≤ 1000) (hc : ∀ j, j < vs.length → w.cell? ⟨b, o + j, none⟩ = some (.string (rdOf ByteArray.empty vs j))) :
    Calls Tryd.prog 63 #[.slice (some ⟨b, o, none⟩) vs.length c, .func (.func 46) #[] #[]] w (IdxPost vs w) := by
  have HC := Lib.hid hc
  clear hc
  go_enter Tryd.func63, Tryd.ntmps63
  go_wp2
  go_loopg [5, 8] vs.length (fun gg _ i wr => ∃ k : Nat, k ≤ vs.length ∧ vs.length - k ≤ gg ∧ i = .int .i64 k ∧ Hid (allN (val12 vs) 0 k = true) ∧ Hid (Below w.heap.size w wr))
  case atStart => exact ⟨0, Nat.zero_le _, by omega, rfl, Lib.hid rfl, Lib.hid (Below.refl _ _)⟩
  case round =>
    obtain ⟨k, hk, hg, rfl, HA, HB⟩ := hrel
    by_cases hlt : k < vs.length
    · have hltz : (k : Int) < (vs.length : Int) := by omega
      have x1 : wr.cell? ⟨b, o + k, none⟩ = some (.string (rdOf ByteArray.empty vs k)) := (HB.out.cell (cell_lt (HC.out k hlt))).trans (HC.out k hlt)
      have HV : Hid (val12 vs k = decide (((rdOf ByteArray.empty vs (k : Int)).size : Int) = 12)) := Lib.hid rfl
      have HBad := Lib.hid (vals_bad (vs := vs) hlt)
      have HSn := Lib.hid (allN_snoc HA.out)
      obtain ⟨x, hx⟩ : ∃ q, q = rdOf ByteArray.empty vs (k : Int) := ⟨_, rfl⟩
      rw [← hx] at x1 HV
      clear hx
      by_cases h2 : (x.size : Int) = 12
      · have HC1 := Lib.hid (val_no x wr h2)
        have hv := Lib.hid (HSn.out (by rw [HV.out]; exact decide_eq_true h2))
        clear h2
        go_wp2_with fail
        refine HC1.out.mono ?_
        rintro e w1 ⟨rfl, rfl⟩
        go_wp2_with fail
        go_roundg (vs.length - (k + 1))
        case measure => omega
        case rel => exact ⟨k + 1, by omega, by omega, by go_num, hv, HB⟩
      · have HC1 := Lib.hid (val_yes x wr h2)
        have hv := Lib.hid (HBad.out (by rw [HV.out]; exact decide_eq_false h2))
        clear h2
        go_wp2_with fail
        refine HC1.out.mono ?_
        rintro e w1 ⟨rfl, rfl⟩
        go_wp2_with fail
        go_ret
        exact ⟨k, rfl, by rw [hv.out]; exact decide_eq_true (by omega), HB.out⟩
    · have hltb : ¬ (k : Int) < (vs.length : Int) := by omega
      have hkl : k = vs.length := by omega
      have HA' : Hid (valsB vs = true) := Lib.hid (by unfold valsB; rw [← hkl]; exact HA.out)
      clear hkl
      go_wp2
      go_ret
      exact ⟨-1, rfl, by rw [HA'.out]; decide, HB.out⟩
theorem con_any (A : Option Addr) (vs : List ByteArray) (c : Nat) (w : World) (h : Strs w A vs c) (hl : vs.length ≤ 1000) :
    Calls Tryd.prog 45 #[.slice A vs.length c, .func (.func 46) #[] #[]] w fun e w' => e = .returned (.bool (!valsB vs)) ∧ Below w.heap.size w w' := by
  have HI : Hid (Calls Tryd.prog 63 #[.slice A vs.length c, .func (.func 46) #[] #[]] w (IdxPost vs w)) := Lib.hid (by
    by_cases h0 : vs.length = 0
    · obtain rfl := List.eq_nil_of_length_eq_zero h0
      exact idx_none A c _ w
    · obtain ⟨b, o, rfl, hc⟩ := h.at (by omega)
      exact idx_some b o vs c w hl hc)
  clear h
  go_enter Tryd.func45, Tryd.ntmps45
  go_wp2_with fail
  refine HI.out.mono ?_
  rintro e w1 ⟨r, rfl, hr, hb⟩
  have HB := Lib.hid hb
  have HR := Lib.hid hr
  clear hb hr
  go_wp2_with fail
  go_ret
  exact ⟨by rw [← HR.out]; rfl, HB.out⟩
set_option maxHeartbeats 800000 in
theorem right_a (A0 : Option Addr) (ks : List Int) (c0 : Nat) (A1 : Option Addr) (vs : List ByteArray) (c1 : Nat) (A2 : Option Addr) (kd : List Int) (c2 : Nat) (w : World) (h0 : Ints w A0 ks c0) (h1 : Strs w A1 vs c1) (h2 : Ints w A2 kd c2) (hl0 : ks.length ≤ 1000) (hl1 : vs.length ≤ 1000) (hl2 : kd.length ≤ 1000) (hr : risB ks = false) :
    Calls Tryd.prog 20 #[.agg #[.slice A0 ks.length c0, .slice A1 vs.length c1, .slice A2 kd.length c2]] w fun e w' => e = .returned (.bool (nodeB ks vs kd)) ∧ Below w.heap.size w w' := by
  have H0 := Lib.hid h0
  have H1 := Lib.hid h1
  have H2 := Lib.hid h2
  have HN : Hid (nodeB ks vs kd = false) := Lib.hid (by unfold nodeB; rw [hr, Bool.false_and])
  clear h0 h1 h2
  have HB0 : Hid (Below w.heap.size w (w.alloc (.cells #[.slice A0 ks.length c0, .slice A1 vs.length c1, .slice A2 kd.length c2] 33))) := Lib.hid ((Below.refl _ _).alloc (Nat.le_refl _) _)
  have HC1 := Lib.hid (rising_any A0 ks c0 _ (H0.out.below HB0.out) hl0)
  rw [hr] at HC1
  go_enter Tryd.func20, Tryd.ntmps20
  go_wp2_with fail
  refine HC1.out.mono ?_
  rintro e w1 ⟨rfl, hb⟩
  have HB1 := Lib.hid (HB0.out.trans (hb.mono (by simp)))
  obtain ⟨hc1, hf1⟩ := bcell hb
  clear hb
  go_wp2_with fail
  go_ret
  exact ⟨by rw [HN.out]; rfl, HB1.out⟩
set_option maxHeartbeats 800000 in
theorem right_b (A0 : Option Addr) (ks : List Int) (c0 : Nat) (A1 : Option Addr) (vs : List ByteArray) (c1 : Nat) (A2 : Option Addr) (kd : List Int) (c2 : Nat) (w : World) (h0 : Ints w A0 ks c0) (h1 : Strs w A1 vs c1) (h2 : Ints w A2 kd c2) (hl0 : ks.length ≤ 1000) (hl1 : vs.length ≤ 1000) (hl2 : kd.length ≤ 1000) (hr : risB ks = true) (hk : kd.length = 0) (hv : vs.length = ks.length) :
    Calls Tryd.prog 20 #[.agg #[.slice A0 ks.length c0, .slice A1 vs.length c1, .slice A2 kd.length c2]] w fun e w' => e = .returned (.bool (nodeB ks vs kd)) ∧ Below w.heap.size w w' := by
  have H0 := Lib.hid h0
  have H1 := Lib.hid h1
  have H2 := Lib.hid h2
  have HN : Hid (nodeB ks vs kd = valsB vs) := Lib.hid (by unfold nodeB; rw [hr, if_pos hk, decide_eq_true hv, Bool.and_true, Bool.true_and])
  have hkb := decide_eq_true hk
  have hvb : ((vs.length : Int) == (ks.length : Int)) = true := by rw [beq_iff_eq]; omega
  have hvb2 : (vs.length == ks.length) = true := by simpa using hv
  have HVK := Lib.hid hv
  have HKD := Lib.hid hk
  clear hv hk
  clear h0 h1 h2
  have HB0 : Hid (Below w.heap.size w (w.alloc (.cells #[.slice A0 ks.length c0, .slice A1 vs.length c1, .slice A2 kd.length c2] 33))) := Lib.hid ((Below.refl _ _).alloc (Nat.le_refl _) _)
  have HC1 := Lib.hid (rising_any A0 ks c0 _ (H0.out.below HB0.out) hl0)
  rw [hr] at HC1
  go_enter Tryd.func20, Tryd.ntmps20
  go_wp2_with fail
  refine HC1.out.mono ?_
  rintro e w1 ⟨rfl, hb⟩
  have HB1 := Lib.hid (HB0.out.trans (hb.mono (by simp)))
  obtain ⟨hc1, hf1⟩ := bcell hb
  have HS1 : Hid (w.heap.size < w1.heap.size) := Lib.hid (by have := hb.size; simp at this; omega)
  clear hb
  have HC2 := Lib.hid (leaf_any A0 ks c0 A1 vs c1 A2 kd c2 w1 (H0.out.below HB1.out) (H1.out.below HB1.out) (H2.out.below HB1.out))
  rw [hkb] at HC2
  go_wp2_with fail
  refine HC2.out.mono ?_
  rintro e w2 ⟨rfl, hb⟩
  have HB2 := Lib.hid (HB1.out.trans (hb.mono HB1.out.size))
  have hz1 := HB1.out.size
  have hs1 : w.heap.size < w1.heap.size := HS1.out
  obtain ⟨hc2, hf2⟩ := bcell hb
  clear hb
  have HC3 := Lib.hid (con_any A1 vs c1 w2 (H1.out.below HB2.out) hl1)
  go_wp2_with fail
  refine HC3.out.mono ?_
  rintro e w3 ⟨rfl, hb⟩
  have HB3 := Lib.hid (HB2.out.trans (hb.mono HB2.out.size))
  clear hb
  go_wp2_with fail
  go_ret
  exact ⟨by rw [HN.out]; simp, HB3.out⟩
set_option maxHeartbeats 800000 in
theorem right_c (A0 : Option Addr) (ks : List Int) (c0 : Nat) (A1 : Option Addr) (vs : List ByteArray) (c1 : Nat) (A2 : Option Addr) (kd : List Int) (c2 : Nat) (w : World) (h0 : Ints w A0 ks c0) (h1 : Strs w A1 vs c1) (h2 : Ints w A2 kd c2) (hl0 : ks.length ≤ 1000) (hl1 : vs.length ≤ 1000) (hl2 : kd.length ≤ 1000) (hr : risB ks = true) (hk : kd.length = 0) (hv : ¬ vs.length = ks.length) :
    Calls Tryd.prog 20 #[.agg #[.slice A0 ks.length c0, .slice A1 vs.length c1, .slice A2 kd.length c2]] w fun e w' => e = .returned (.bool (nodeB ks vs kd)) ∧ Below w.heap.size w w' := by
  have H0 := Lib.hid h0
  have H1 := Lib.hid h1
  have H2 := Lib.hid h2
  have HN : Hid (nodeB ks vs kd = false) := Lib.hid (by unfold nodeB; rw [hr, if_pos hk, decide_eq_false hv, Bool.and_false, Bool.true_and])
  have hkb := decide_eq_true hk
  have hvb : ((vs.length : Int) == (ks.length : Int)) = false := by rw [beq_eq_false_iff_ne]; omega
  have hvb2 : (vs.length == ks.length) = false := by simpa using hv
  have HVK := Lib.hid hv
  have HKD := Lib.hid hk
  clear hv hk
  clear h0 h1 h2
  have HB0 : Hid (Below w.heap.size w (w.alloc (.cells #[.slice A0 ks.length c0, .slice A1 vs.length c1, .slice A2 kd.length c2] 33))) := Lib.hid ((Below.refl _ _).alloc (Nat.le_refl _) _)
  have HC1 := Lib.hid (rising_any A0 ks c0 _ (H0.out.below HB0.out) hl0)
  rw [hr] at HC1
  go_enter Tryd.func20, Tryd.ntmps20
  go_wp2_with fail
  refine HC1.out.mono ?_
  rintro e w1 ⟨rfl, hb⟩
  have HB1 := Lib.hid (HB0.out.trans (hb.mono (by simp)))
  obtain ⟨hc1, hf1⟩ := bcell hb
  have HS1 : Hid (w.heap.size < w1.heap.size) := Lib.hid (by have := hb.size; simp at this; omega)
  clear hb
  have HC2 := Lib.hid (leaf_any A0 ks c0 A1 vs c1 A2 kd c2 w1 (H0.out.below HB1.out) (H1.out.below HB1.out) (H2.out.below HB1.out))
  rw [hkb] at HC2
  go_wp2_with fail
  refine HC2.out.mono ?_
  rintro e w2 ⟨rfl, hb⟩
  have HB2 := Lib.hid (HB1.out.trans (hb.mono HB1.out.size))
  have hz1 := HB1.out.size
  have hs1 : w.heap.size < w1.heap.size := HS1.out
  obtain ⟨hc2, hf2⟩ := bcell hb
  clear hb
  go_wp2_with fail
  go_ret
  exact ⟨by rw [HN.out]; rfl, HB2.out⟩
set_option maxHeartbeats 800000 in
theorem right_d (A0 : Option Addr) (ks : List Int) (c0 : Nat) (A1 : Option Addr) (vs : List ByteArray) (c1 : Nat) (A2 : Option Addr) (kd : List Int) (c2 : Nat) (w : World) (h0 : Ints w A0 ks c0) (h1 : Strs w A1 vs c1) (h2 : Ints w A2 kd c2) (hl0 : ks.length ≤ 1000) (hl1 : vs.length ≤ 1000) (hl2 : kd.length ≤ 1000) (hr : risB ks = true) (hk : ¬ kd.length = 0) (hv : ¬ vs.length = 0) :
    Calls Tryd.prog 20 #[.agg #[.slice A0 ks.length c0, .slice A1 vs.length c1, .slice A2 kd.length c2]] w fun e w' => e = .returned (.bool (nodeB ks vs kd)) ∧ Below w.heap.size w w' := by
  have H0 := Lib.hid h0
  have H1 := Lib.hid h1
  have H2 := Lib.hid h2
  have HN : Hid (nodeB ks vs kd = false) := Lib.hid (by unfold nodeB; rw [hr, if_neg hk, Bool.true_and]; rw [decide_eq_false (by omega), Bool.and_false])
  have hkb := decide_eq_false hk
  have hv0 : ((vs.length : Int) == 0) = false := by rw [beq_eq_false_iff_ne]; omega
  have hv1 : (vs.length == 0) = false := by simpa using hv
  have HV := Lib.hid hv
  clear hv
  have HKD := Lib.hid hk
  clear hk
  clear h0 h1 h2
  have HB0 : Hid (Below w.heap.size w (w.alloc (.cells #[.slice A0 ks.length c0, .slice A1 vs.length c1, .slice A2 kd.length c2] 33))) := Lib.hid ((Below.refl _ _).alloc (Nat.le_refl _) _)
  have HC1 := Lib.hid (rising_any A0 ks c0 _ (H0.out.below HB0.out) hl0)
  rw [hr] at HC1
  go_enter Tryd.func20, Tryd.ntmps20
  go_wp2_with fail
  refine HC1.out.mono ?_
  rintro e w1 ⟨rfl, hb⟩
  have HB1 := Lib.hid (HB0.out.trans (hb.mono (by simp)))
  obtain ⟨hc1, hf1⟩ := bcell hb
  have HS1 : Hid (w.heap.size < w1.heap.size) := Lib.hid (by have := hb.size; simp at this; omega)
  clear hb
  have HC2 := Lib.hid (leaf_any A0 ks c0 A1 vs c1 A2 kd c2 w1 (H0.out.below HB1.out) (H1.out.below HB1.out) (H2.out.below HB1.out))
  rw [hkb] at HC2
  go_wp2_with fail
  refine HC2.out.mono ?_
  rintro e w2 ⟨rfl, hb⟩
  have HB2 := Lib.hid (HB1.out.trans (hb.mono HB1.out.size))
  have hz1 := HB1.out.size
  have hs1 : w.heap.size < w1.heap.size := HS1.out
  obtain ⟨hc2, hf2⟩ := bcell hb
  clear hb
  go_wp2_with fail
  go_ret
  exact ⟨by rw [HN.out]; rfl, HB2.out⟩
set_option maxHeartbeats 800000 in
theorem right_e (A0 : Option Addr) (ks : List Int) (c0 : Nat) (A1 : Option Addr) (vs : List ByteArray) (c1 : Nat) (A2 : Option Addr) (kd : List Int) (c2 : Nat) (w : World) (h0 : Ints w A0 ks c0) (h1 : Strs w A1 vs c1) (h2 : Ints w A2 kd c2) (hl0 : ks.length ≤ 1000) (hl1 : vs.length ≤ 1000) (hl2 : kd.length ≤ 1000) (hr : risB ks = true) (hk : ¬ kd.length = 0) (hv : vs.length = 0) (hq : ¬ 1 ≤ ks.length) :
    Calls Tryd.prog 20 #[.agg #[.slice A0 ks.length c0, .slice A1 vs.length c1, .slice A2 kd.length c2]] w fun e w' => e = .returned (.bool (nodeB ks vs kd)) ∧ Below w.heap.size w w' := by
  have H0 := Lib.hid h0
  have H1 := Lib.hid h1
  have H2 := Lib.hid h2
  have HN : Hid (nodeB ks vs kd = false) := Lib.hid (by unfold nodeB; rw [hr, if_neg hk, Bool.true_and]; rw [decide_eq_false (by omega), Bool.and_false])
  have hkb := decide_eq_false hk
  have hv0 : ((vs.length : Int) == 0) = true := by rw [beq_iff_eq]; omega
  have hv1 : (vs.length == 0) = true := by simpa using hv
  have HV := Lib.hid hv
  clear hv
  have hq0 : decide ((ks.length : Int) ≥ 1) = false := by simp; omega
  have hq1 : decide (1 ≤ (ks.length : Int)) = false := by simp; omega
  have hq2 : decide (1 ≤ ks.length) = false := by simpa using hq
  have HQ := Lib.hid hq
  clear hq
  have HKD := Lib.hid hk
  clear hk
  clear h0 h1 h2
  have HB0 : Hid (Below w.heap.size w (w.alloc (.cells #[.slice A0 ks.length c0, .slice A1 vs.length c1, .slice A2 kd.length c2] 33))) := Lib.hid ((Below.refl _ _).alloc (Nat.le_refl _) _)
  have HC1 := Lib.hid (rising_any A0 ks c0 _ (H0.out.below HB0.out) hl0)
  rw [hr] at HC1
  go_enter Tryd.func20, Tryd.ntmps20
  go_wp2_with fail
  refine HC1.out.mono ?_
  rintro e w1 ⟨rfl, hb⟩
  have HB1 := Lib.hid (HB0.out.trans (hb.mono (by simp)))
  obtain ⟨hc1, hf1⟩ := bcell hb
  have HS1 : Hid (w.heap.size < w1.heap.size) := Lib.hid (by have := hb.size; simp at this; omega)
  clear hb
  have HC2 := Lib.hid (leaf_any A0 ks c0 A1 vs c1 A2 kd c2 w1 (H0.out.below HB1.out) (H1.out.below HB1.out) (H2.out.below HB1.out))
  rw [hkb] at HC2
  go_wp2_with fail
  refine HC2.out.mono ?_
  rintro e w2 ⟨rfl, hb⟩
  have HB2 := Lib.hid (HB1.out.trans (hb.mono HB1.out.size))
  have hz1 := HB1.out.size
  have hs1 : w.heap.size < w1.heap.size := HS1.out
  obtain ⟨hc2, hf2⟩ := bcell hb
  clear hb
  go_wp2_with fail
  go_ret
  exact ⟨by rw [HN.out]; rfl, HB2.out⟩
set_option maxHeartbeats 800000 in
theorem right_f (A0 : Option Addr) (ks : List Int) (c0 : Nat) (A1 : Option Addr) (vs : List ByteArray) (c1 : Nat) (A2 : Option Addr) (kd : List Int) (c2 : Nat) (w : World) (h0 : Ints w A0 ks c0) (h1 : Strs w A1 vs c1) (h2 : Ints w A2 kd c2) (hl0 : ks.length ≤ 1000) (hl1 : vs.length ≤ 1000) (hl2 : kd.length ≤ 1000) (hr : risB ks = true) (hk : ¬ kd.length = 0) (hv : vs.length = 0) (hq : 1 ≤ ks.length) (hn : ¬ kd.length = ks.length + 1) :
    Calls Tryd.prog 20 #[.agg #[.slice A0 ks.length c0, .slice A1 vs.length c1, .slice A2 kd.length c2]] w fun e w' => e = .returned (.bool (nodeB ks vs kd)) ∧ Below w.heap.size w w' := by
  have H0 := Lib.hid h0
  have H1 := Lib.hid h1
  have H2 := Lib.hid h2
  have HN : Hid (nodeB ks vs kd = false) := Lib.hid (by unfold nodeB; rw [hr, if_neg hk, Bool.true_and]; rw [decide_eq_false (by omega), Bool.and_false])
  have hkb := decide_eq_false hk
  have hv0 : ((vs.length : Int) == 0) = true := by rw [beq_iff_eq]; omega
  have hv1 : (vs.length == 0) = true := by simpa using hv
  have HV := Lib.hid hv
  clear hv
  have hq0 : decide ((ks.length : Int) ≥ 1) = true := by simp; omega
  have hq1 : decide (1 ≤ (ks.length : Int)) = true := by simp; omega
  have hq2 : decide (1 ≤ ks.length) = true := by simpa using hq
  have HQ := Lib.hid hq
  clear hq
  have hn0 : ((kd.length : Int) == (ks.length : Int) + 1) = false := by rw [beq_eq_false_iff_ne]; omega
  have hn1 : (kd.length == ks.length + 1) = false := by simpa using hn
  have HNN := Lib.hid hn
  clear hn
  have HKD := Lib.hid hk
  clear hk
  clear h0 h1 h2
  have HB0 : Hid (Below w.heap.size w (w.alloc (.cells #[.slice A0 ks.length c0, .slice A1 vs.length c1, .slice A2 kd.length c2] 33))) := Lib.hid ((Below.refl _ _).alloc (Nat.le_refl _) _)
  have HC1 := Lib.hid (rising_any A0 ks c0 _ (H0.out.below HB0.out) hl0)
  rw [hr] at HC1
  go_enter Tryd.func20, Tryd.ntmps20
  go_wp2_with fail
  refine HC1.out.mono ?_
  rintro e w1 ⟨rfl, hb⟩
  have HB1 := Lib.hid (HB0.out.trans (hb.mono (by simp)))
  obtain ⟨hc1, hf1⟩ := bcell hb
  have HS1 : Hid (w.heap.size < w1.heap.size) := Lib.hid (by have := hb.size; simp at this; omega)
  clear hb
  have HC2 := Lib.hid (leaf_any A0 ks c0 A1 vs c1 A2 kd c2 w1 (H0.out.below HB1.out) (H1.out.below HB1.out) (H2.out.below HB1.out))
  rw [hkb] at HC2
  go_wp2_with fail
  refine HC2.out.mono ?_
  rintro e w2 ⟨rfl, hb⟩
  have HB2 := Lib.hid (HB1.out.trans (hb.mono HB1.out.size))
  have hz1 := HB1.out.size
  have hs1 : w.heap.size < w1.heap.size := HS1.out
  obtain ⟨hc2, hf2⟩ := bcell hb
  clear hb
  go_wp2_with fail
  go_ret
  exact ⟨by rw [HN.out]; rfl, HB2.out⟩
set_option maxHeartbeats 800000 in
theorem right_g (A0 : Option Addr) (ks : List Int) (c0 : Nat) (A1 : Option Addr) (vs : List ByteArray) (c1 : Nat) (A2 : Option Addr) (kd : List Int) (c2 : Nat) (w : World) (h0 : Ints w A0 ks c0) (h1 : Strs w A1 vs c1) (h2 : Ints w A2 kd c2) (hl0 : ks.length ≤ 1000) (hl1 : vs.length ≤ 1000) (hl2 : kd.length ≤ 1000) (hr : risB ks = true) (hk : ¬ kd.length = 0) (hv : vs.length = 0) (hq : 1 ≤ ks.length) (hn : kd.length = ks.length + 1) :
    Calls Tryd.prog 20 #[.agg #[.slice A0 ks.length c0, .slice A1 vs.length c1, .slice A2 kd.length c2]] w fun e w' => e = .returned (.bool (nodeB ks vs kd)) ∧ Below w.heap.size w w' := by
  have H0 := Lib.hid h0
  have H1 := Lib.hid h1
  have H2 := Lib.hid h2
  have HN : Hid (nodeB ks vs kd = kidsB kd) := Lib.hid (by unfold nodeB; rw [hr, if_neg hk, Bool.true_and]; rw [decide_eq_true (by omega), Bool.and_true])
  have hkb := decide_eq_false hk
  have hv0 : ((vs.length : Int) == 0) = true := by rw [beq_iff_eq]; omega
  have hv1 : (vs.length == 0) = true := by simpa using hv
  have HV := Lib.hid hv
  clear hv
  have hq0 : decide ((ks.length : Int) ≥ 1) = true := by simp; omega
  have hq1 : decide (1 ≤ (ks.length : Int)) = true := by simp; omega
  have hq2 : decide (1 ≤ ks.length) = true := by simpa using hq
  have HQ := Lib.hid hq
  clear hq
  have hn0 : ((kd.length : Int) == (ks.length : Int) + 1) = true := by rw [beq_iff_eq]; omega
  have hn1 : (kd.length == ks.length + 1) = true := by simpa using hn
  have HNN := Lib.hid hn
  clear hn
  have HKD := Lib.hid hk
  clear hk
  clear h0 h1 h2
  have HB0 : Hid (Below w.heap.size w (w.alloc (.cells #[.slice A0 ks.length c0, .slice A1 vs.length c1, .slice A2 kd.length c2] 33))) := Lib.hid ((Below.refl _ _).alloc (Nat.le_refl _) _)
  have HC1 := Lib.hid (rising_any A0 ks c0 _ (H0.out.below HB0.out) hl0)
  rw [hr] at HC1
  go_enter Tryd.func20, Tryd.ntmps20
  go_wp2_with fail
  refine HC1.out.mono ?_
  rintro e w1 ⟨rfl, hb⟩
  have HB1 := Lib.hid (HB0.out.trans (hb.mono (by simp)))
  obtain ⟨hc1, hf1⟩ := bcell hb
  have HS1 : Hid (w.heap.size < w1.heap.size) := Lib.hid (by have := hb.size; simp at this; omega)
  clear hb
  have HC2 := Lib.hid (leaf_any A0 ks c0 A1 vs c1 A2 kd c2 w1 (H0.out.below HB1.out) (H1.out.below HB1.out) (H2.out.below HB1.out))
  rw [hkb] at HC2
  go_wp2_with fail
  refine HC2.out.mono ?_
  rintro e w2 ⟨rfl, hb⟩
  have HB2 := Lib.hid (HB1.out.trans (hb.mono HB1.out.size))
  have hz1 := HB1.out.size
  have hs1 : w.heap.size < w1.heap.size := HS1.out
  obtain ⟨hc2, hf2⟩ := bcell hb
  clear hb
  have HC3 := Lib.hid (kids_any A2 kd c2 w2 (H2.out.below HB2.out) hl2)
  go_wp2_with fail
  refine HC3.out.mono ?_
  rintro e w3 ⟨rfl, hb⟩
  have HB3 := Lib.hid (HB2.out.trans (hb.mono HB2.out.size))
  clear hb
  go_wp2_with fail
  go_ret
  exact ⟨by rw [HN.out]; rfl, HB3.out⟩
theorem right_any (A0 : Option Addr) (ks : List Int) (c0 : Nat) (A1 : Option Addr) (vs : List ByteArray) (c1 : Nat) (A2 : Option Addr) (kd : List Int) (c2 : Nat) (w : World) (h0 : Ints w A0 ks c0) (h1 : Strs w A1 vs c1) (h2 : Ints w A2 kd c2) (hl0 : ks.length ≤ 1000) (hl1 : vs.length ≤ 1000) (hl2 : kd.length ≤ 1000) :
    Calls Tryd.prog 20 #[.agg #[.slice A0 ks.length c0, .slice A1 vs.length c1, .slice A2 kd.length c2]] w fun e w' => e = .returned (.bool (nodeB ks vs kd)) ∧ Below w.heap.size w w' := by
  cases hr : risB ks with
  | false => exact right_a A0 ks c0 A1 vs c1 A2 kd c2 w h0 h1 h2 hl0 hl1 hl2 hr
  | true =>
    by_cases hk : kd.length = 0
    · by_cases hv : vs.length = ks.length
      · exact right_b A0 ks c0 A1 vs c1 A2 kd c2 w h0 h1 h2 hl0 hl1 hl2 hr hk hv
      · exact right_c A0 ks c0 A1 vs c1 A2 kd c2 w h0 h1 h2 hl0 hl1 hl2 hr hk hv
    · by_cases hv : vs.length = 0
      · by_cases hq : 1 ≤ ks.length
        · by_cases hn : kd.length = ks.length + 1
          · exact right_g A0 ks c0 A1 vs c1 A2 kd c2 w h0 h1 h2 hl0 hl1 hl2 hr hk hv hq hn
          · exact right_f A0 ks c0 A1 vs c1 A2 kd c2 w h0 h1 h2 hl0 hl1 hl2 hr hk hv hq hn
        · exact right_e A0 ks c0 A1 vs c1 A2 kd c2 w h0 h1 h2 hl0 hl1 hl2 hr hk hv hq
      · exact right_d A0 ks c0 A1 vs c1 A2 kd c2 w h0 h1 h2 hl0 hl1 hl2 hr hk hv
end Go.Proofs.YtbiijkpffllimaaDoor
namespace Go.Proofs.YtbiijkpffllimaaDoor
open Go.RowKit Go.Extern.Stop Go.Stop Go.Extern Go.Proofs.YtbiijkpffllimaaDoorW.PrintWords Go.Proofs.YtbiijkpffllimaaDoorW.PrintLast Go.Proofs.YtbiijkpffllimaaDoorW.PrintMore Go.Proofs.YtbiijkpffllimaaDoor.PNodeUnlike
set_option linter.unusedVariables false
set_option linter.unusedSimpArgs false

def kindI (kd : List Int) : Int := if kd.length = 0 then 0 else 1
def headS (ks kd : List Int) : ByteArray := putB 1 (kindI kd) ++ putB 1 ks.length
def keysS (ks : List Int) (s0 : ByteArray) : Nat → ByteArray
  | 0 => s0
  | k + 1 => keysS ks s0 k ++ putB 4 (rd ks (k : Int))
def valsS (vs : List ByteArray) (s0 : ByteArray) : Nat → ByteArray
  | 0 => s0
  | k + 1 => valsS vs s0 k ++ rdOf ByteArray.empty vs (k : Int)
def kidsS (kd : List Int) (s0 : ByteArray) : Nat → ByteArray
  | 0 => s0
  | k + 1 => kidsS kd s0 k ++ putB 1 (rd kd (k : Int))
/-- a node's data -/
def layS (ks : List Int) (vs : List ByteArray) (kd : List Int) : ByteArray := kidsS kd (valsS vs (keysS ks (headS ks kd) ks.length) vs.length) kd.length
theorem keysS_le (ks : List Int) (s0 : ByteArray) : ∀ k, (keysS ks s0 k).size ≤ s0.size + 4 * k
  | 0 => Nat.le_refl _
  | k + 1 => by
    have := keysS_le ks s0 k
    have := putB_le 4 (rd ks (k : Int))
    rw [keysS, ByteArray.size_append]; omega
theorem kidsS_le (ks : List Int) (s0 : ByteArray) : ∀ k, (kidsS ks s0 k).size ≤ s0.size + 4 * k
  | 0 => Nat.le_refl _
  | k + 1 => by
    have := kidsS_le ks s0 k
    have := putB_le 1 (rd ks (k : Int))
    rw [kidsS, ByteArray.size_append]; omega
theorem valsS_le (vs : List ByteArray) (s0 : ByteArray) (h : valsB vs = true) : ∀ k, k ≤ vs.length → (valsS vs s0 k).size ≤ s0.size + 12 * k
  | 0, _ => Nat.le_refl _
  | k + 1, hk => by
    have := valsS_le vs s0 h k (by omega)
    have := of_decide_eq_true (allN_all.1 h k (by omega))
    rw [valsS, ByteArray.size_append]; omega
theorem headS_le (ks kd : List Int) : (headS ks kd).size ≤ 8 := by
  have := putB_le 1 (kindI kd)
  have := putB_le 1 (ks.length : Int)
  unfold headS
  rw [ByteArray.size_append]; omega
structure NodeF (ks : List Int) (vs : List ByteArray) (kd : List Int) : Prop where
  k7 : ks.length ≤ 7
  v7 : vs.length ≤ 7
  d8 : kd.length ≤ 8
  v : valsB vs = true
  d : kidsB kd = true
  r : allN (okK ks) 0 ks.length = true
theorem node_facts {ks : List Int} {vs : List ByteArray} {kd : List Int} (h : nodeB ks vs kd = true) : NodeF ks vs kd := by
  unfold nodeB risB at h
  simp only [Bool.and_eq_true, decide_eq_true_eq] at h
  obtain ⟨⟨hr, h7⟩, h⟩ := h
  by_cases hk : kd.length = 0
  · rw [if_pos hk] at h
    simp only [Bool.and_eq_true, decide_eq_true_eq] at h
    refine ⟨h7, by omega, by omega, h.1, ?_, hr⟩
    unfold kidsB; rw [hk]; rfl
  · rw [if_neg hk] at h
    simp only [Bool.and_eq_true, decide_eq_true_eq] at h
    refine ⟨h7, by omega, by omega, ?_, h.1, hr⟩
    unfold valsB; rw [h.2.1]; rfl
theorem add_run {a b : ByteArray} (h : a.size + b.size ≤ 9223372036854775807) (w : World) : (Op.stringOp .add a b).run Tryd.prog w = .ok (.string (a ++ b)) w := run_string_add_sum _ _ _ h
/-- the variable's cells behind what leaves it -/
theorem box_cells {W W' : World} {v0 v1 v2 : Value} {t : TypeId} (hb : Below (W.alloc (.cells #[v0, v1, v2] t)).heap.size (W.alloc (.cells #[v0, v1, v2] t)) W') : W'.cell? ⟨W.heap.size, 0, none⟩ = some v0 ∧ W'.cell? ⟨W.heap.size, 1, none⟩ = some v1 ∧ W'.cell? ⟨W.heap.size, 2, none⟩ = some v2 := by
  refine ⟨(hb.cell (by simp)).trans (by simp), (hb.cell (by simp)).trans (by simp), (hb.cell (by simp)).trans (by simp)⟩
set_option maxHeartbeats 800000 in
theorem lay_bad (A0 : Option Addr) (ks : List Int) (c0 : Nat) (A1 : Option Addr) (vs : List ByteArray) (c1 : Nat) (A2 : Option Addr) (kd : List Int) (c2 : Nat) (w : World) (h0 : Ints w A0 ks c0) (h1 : Strs w A1 vs c1) (h2 : Ints w A2 kd c2) (hl0 : ks.length ≤ 1000) (hl1 : vs.length ≤ 1000) (hl2 : kd.length ≤ 1000) (hn : nodeB ks vs kd = false) :
    Calls Tryd.prog 16 #[.agg #[.slice A0 ks.length c0, .slice A1 vs.length c1, .slice A2 kd.length c2]] w fun e w' => ∃ v, e = .returned (.tuple #[.string ⟨#[]⟩, v]) ∧ ErrC w.heap.size w' v 1 ∧ Below w.heap.size w w' := by
  have HB0 : Hid (Below w.heap.size w (w.alloc (.cells #[.slice A0 ks.length c0, .slice A1 vs.length c1, .slice A2 kd.length c2] 33))) := Lib.hid ((Below.refl _ _).alloc (Nat.le_refl _) _)
  have HC1 := Lib.hid (right_any A0 ks c0 A1 vs c1 A2 kd c2 _ (h0.below HB0.out) (h1.below HB0.out) (h2.below HB0.out) hl0 hl1 hl2)
  rw [hn] at HC1
  clear h0 h1 h2 hn
  go_enter Tryd.func16, Tryd.ntmps16
  go_wp2_with fail
  refine HC1.out.mono ?_
  rintro e w1 ⟨rfl, hb⟩
  have HB1 := Lib.hid (HB0.out.trans (hb.mono (by simp)))
  clear hb
  go_wp2_with fail
  refine (Tag_err _ 1 _).mono ?_
  rintro e w2 ⟨v, rfl, he, hb⟩
  have HE := Lib.hid he
  have HB2 := Lib.hid (bstep HB1.out hb)
  clear he hb
  go_wp2_with fail
  go_ret2
  exact ⟨v, rfl, HE.out.mono HB1.out.size, HB2.out⟩
set_option maxHeartbeats 2000000 in
theorem lay_ok (A0 : Option Addr) (ks : List Int) (c0 : Nat) (A1 : Option Addr) (vs : List ByteArray) (c1 : Nat) (A2 : Option Addr) (kd : List Int) (c2 : Nat) (w : World) (h0 : Ints w A0 ks c0) (h1 : Strs w A1 vs c1) (h2 : Ints w A2 kd c2) (hl0 : ks.length ≤ 1000) (hl1 : vs.length ≤ 1000) (hl2 : kd.length ≤ 1000) (hn : nodeB ks vs kd = true) :
    Calls Tryd.prog 16 #[.agg #[.slice A0 ks.length c0, .slice A1 vs.length c1, .slice A2 kd.length c2]] w fun e w' => e = .returned (.tuple #[.string (layS ks vs kd), .nilIface]) ∧ Below w.heap.size w w' := by
  have HF := Lib.hid (node_facts hn)
  have H0 := Lib.hid h0
  have H1 := Lib.hid h1
  have H2 := Lib.hid h2
  have HB0 : Hid (Below w.heap.size w (w.alloc (.cells #[.slice A0 ks.length c0, .slice A1 vs.length c1, .slice A2 kd.length c2] 33))) := Lib.hid ((Below.refl _ _).alloc (Nat.le_refl _) _)
  have HC1 := Lib.hid (right_any A0 ks c0 A1 vs c1 A2 kd c2 _ (h0.below HB0.out) (h1.below HB0.out) (h2.below HB0.out) hl0 hl1 hl2)
  rw [hn] at HC1
  clear h0 h1 h2 hn
  have HHd : Hid (headS ks kd = putB 1 (kindI kd) ++ putB 1 ks.length) := Lib.hid rfl
  have HKi : Hid (kindI kd = if kd.length = 0 then 0 else 1) := Lib.hid rfl
  have HLy : Hid (layS ks vs kd = kidsS kd (valsS vs (keysS ks (headS ks kd) ks.length) vs.length) kd.length) := Lib.hid rfl
  have hh8 := headS_le ks kd
  have hpa := putB_le 1 (kindI kd)
  have hpb := putB_le 1 (ks.length : Int)
  have HP1 : Hid (∀ w, Calls Tryd.prog 41 #[.int .i64 1, .int .i64 (kindI kd)] w fun e w' => e = .returned (.string (putB 1 (kindI kd))) ∧ Below w.heap.size w w') := Lib.hid (fun w => Put_any 1 _ w)
  have HP2 : Hid (∀ w, Calls Tryd.prog 41 #[.int .i64 1, .int .i64 (ks.length : Int)] w fun e w' => e = .returned (.string (putB 1 ks.length)) ∧ Below w.heap.size w w') := Lib.hid (fun w => Put_any 1 _ w)
  have hk7 := HF.out.k7
  have hv7 := HF.out.v7
  have hd8 := HF.out.d8
  go_enter Tryd.func16, Tryd.ntmps16
  go_wp2_with fail
  refine HC1.out.mono ?_
  rintro e w1 ⟨rfl, hb⟩
  have HB1 := Lib.hid hb
  have HW1 := Lib.hid (HB0.out.trans (hb.mono (by simp)))
  obtain ⟨x0, x1, x2⟩ := box_cells hb
  clear hb
  have HC2 := Lib.hid (leaf_any A0 ks c0 A1 vs c1 A2 kd c2 w1 (H0.out.below HW1.out) (H1.out.below HW1.out) (H2.out.below HW1.out))
  cases hkb : decide (kd.length = 0)
  · rw [hkb] at HC2
    have hki : kindI kd = 1 := by rw [HKi.out]; have := of_decide_eq_false hkb; first | exact if_pos this | exact if_neg this
    rw [hki] at HP1 HHd hpa
    clear hkb hki HKi
    obtain ⟨p1, hp1⟩ : ∃ q, q = putB 1 1 := ⟨_, rfl⟩
    obtain ⟨p2, hp2⟩ : ∃ q, q = putB 1 (ks.length : Int) := ⟨_, rfl⟩
    rw [← hp1, ← hp2] at HHd
    rw [← hp1] at HP1 hpa
    rw [← hp2] at HP2 hpb
    clear hp1 hp2
    obtain ⟨s0, hs0⟩ : ∃ q, q = headS ks kd := ⟨_, rfl⟩
    rw [← hs0] at HHd HLy hh8
    clear hs0
    have hadd := add_run (a := p1) (b := p2) (by omega)
    rw [← HHd.out] at hadd
    go_wp2_with fail
    refine HC2.out.mono ?_
    rintro e w2 ⟨rfl, hb⟩
    have HB2 := Lib.hid (HB1.out.trans (hb.mono HB1.out.size))
    obtain ⟨x0, x1, x2⟩ := box_cells HB2.out
    clear hb
    go_wp2_with fail
    have HX := Lib.hid (show ∀ w', KF w2 w' → w'.cell? ⟨w.heap.size, 0, none⟩ = some (.slice A0 ks.length c0) ∧ KF w2 w' from fun w' h => ⟨(box_cells (HB2.out.trans (Below.mono h HB2.out.size))).1, h⟩)
    have HY := Lib.hid (show ∀ w', (w'.cell? ⟨w.heap.size, 0, none⟩ = some (.slice A0 ks.length c0) ∧ KF w2 w') → KF w2 w' from fun w' h => h.2)
    go_region_held3 (fun w' => w'.cell? ⟨w.heap.size, 0, none⟩ = some (.slice A0 ks.length c0) ∧ KF w2 w') ((refine HX.out _ ?_; first | assumption | exact Below.drew (Below.refl _ _))) (first | (go_at_call 41; (with_reducible refine (HP1.out _).mono ?_); rintro e wn ⟨rfl, hb⟩; have hKK := KF.step (HY.out _ (by assumption)) hb; clear hb) | (go_at_call 41; (with_reducible refine (HP2.out _).mono ?_); rintro e wn ⟨rfl, hb⟩; have hKK := KF.step (HY.out _ (by assumption)) hb; clear hb))
    have HB3 := Lib.hid (HB2.out.trans (hKK.mono HB2.out.size))
    clear hKK
    obtain ⟨x0, x1, x2⟩ := box_cells HB3.out
    go_wp2_with fail
    go_loopw [5, 29] (fun s i wr => ∃ k : Nat, k ≤ ks.length ∧ i = .int .i64 k ∧ s = .string (keysS ks s0 k) ∧ Hid (Below (w.alloc (.cells #[.slice A0 ks.length c0, .slice A1 vs.length c1, .slice A2 kd.length c2] 33)).heap.size (w.alloc (.cells #[.slice A0 ks.length c0, .slice A1 vs.length c1, .slice A2 kd.length c2] 33)) wr)) (fun _ i _ => ks.length - (intOf i).toNat)
    case atStart => exact ⟨0, Nat.zero_le _, rfl, rfl, HB3⟩
    case round =>
      obtain ⟨k, hk, rfl, rfl, HBr⟩ := hrel
      by_cases hlt : k < ks.length
      · have hltz : (k : Int) < (ks.length : Int) := by omega
        obtain ⟨b, o, rfl, hc⟩ := (H0.out.below (HB0.out.trans (HBr.out.mono (by simp)))).at (by omega)
        have cc := hc k hlt
        have hs := keysS_le ks s0 k
        have hpz := putB_le 4 (rd ks (k : Int))
        have HSt : Hid (keysS ks s0 (k + 1) = keysS ks s0 k ++ putB 4 (rd ks (k : Int))) := Lib.hid rfl
        obtain ⟨x, hx⟩ : ∃ q, q = rd ks (k : Int) := ⟨_, rfl⟩
        rw [← hx] at cc HSt hpz
        obtain ⟨t, ht⟩ : ∃ q, q = keysS ks s0 k := ⟨_, rfl⟩
        rw [← ht] at HSt hs ⊢
        have HPx : Hid (∀ w, Calls Tryd.prog 41 #[.int .i64 4, .int .i64 x] w fun e w' => e = .returned (.string (putB 4 x)) ∧ Below w.heap.size w w') := Lib.hid (fun w => Put_any 4 _ w)
        obtain ⟨p, hp⟩ : ∃ q, q = putB 4 x := ⟨_, rfl⟩
        rw [← hp] at HPx hpz HSt
        clear hp
        have hadd := add_run (a := t) (b := p) (by omega)
        clear hx ht hc
        go_wp2_with fail
        refine (HPx.out _).mono ?_
        rintro e wn ⟨rfl, hb⟩
        have HBr2 := Lib.hid (HBr.out.trans (hb.mono HBr.out.size))
        clear hb
        go_wp2_with fail
        go_roundw
        case rel => exact ⟨k + 1, by omega, by go_num, by rw [HSt.out], HBr2⟩
        case measure => simp [intOf]; omega
      · have hltb : ¬ (k : Int) < (ks.length : Int) := by omega
        obtain rfl : k = ks.length := by omega
        have hz_s1 := keysS_le ks s0 ks.length
        obtain ⟨s1, hs1⟩ : ∃ q, q = keysS ks s0 ks.length := ⟨_, rfl⟩
        rw [← hs1] at HLy hz_s1 ⊢
        have HBo_s1 := HBr
        clear hs1 hltb hlt hk HBr x0 x1 x2
        obtain ⟨x0, x1, x2⟩ := box_cells HBo_s1.out
        go_wp2_with fail
        go_loopw [5, 41] (fun s i wr => ∃ k : Nat, k ≤ vs.length ∧ i = .int .i64 k ∧ s = .string (valsS vs s1 k) ∧ Hid (Below (w.alloc (.cells #[.slice A0 ks.length c0, .slice A1 vs.length c1, .slice A2 kd.length c2] 33)).heap.size (w.alloc (.cells #[.slice A0 ks.length c0, .slice A1 vs.length c1, .slice A2 kd.length c2] 33)) wr)) (fun _ i _ => vs.length - (intOf i).toNat)
        case atStart => exact ⟨0, Nat.zero_le _, rfl, rfl, HBo_s1⟩
        case round =>
          obtain ⟨k, hk, rfl, rfl, HBr⟩ := hrel
          by_cases hlt : k < vs.length
          · have hltz : (k : Int) < (vs.length : Int) := by omega
            obtain ⟨b, o, rfl, hc⟩ := (H1.out.below (HB0.out.trans (HBr.out.mono (by simp)))).at (by omega)
            have cc := hc k hlt
            have hs := valsS_le vs s1 HF.out.v k (by omega)
            have hvz := of_decide_eq_true (allN_all.1 HF.out.v k hlt)
            have HSt : Hid (valsS vs s1 (k + 1) = valsS vs s1 k ++ rdOf ByteArray.empty vs (k : Int)) := Lib.hid rfl
            obtain ⟨x, hx⟩ : ∃ q, q = rdOf ByteArray.empty vs (k : Int) := ⟨_, rfl⟩
            rw [← hx] at cc HSt hvz
            obtain ⟨t, ht⟩ : ∃ q, q = valsS vs s1 k := ⟨_, rfl⟩
            rw [← ht] at HSt hs ⊢
            have hadd := add_run (a := t) (b := x) (by omega)
            clear hx ht hc
            go_wp2_with fail
            have HBr2 := HBr
            go_roundw
            case rel => exact ⟨k + 1, by omega, by go_num, by rw [HSt.out], HBr2⟩
            case measure => simp [intOf]; omega
          · have hltb : ¬ (k : Int) < (vs.length : Int) := by omega
            obtain rfl : k = vs.length := by omega
            have hz_s2 := valsS_le vs s1 HF.out.v vs.length (Nat.le_refl _)
            obtain ⟨s2, hs2⟩ : ∃ q, q = valsS vs s1 vs.length := ⟨_, rfl⟩
            rw [← hs2] at HLy hz_s2 ⊢
            have HBo_s2 := HBr
            clear hs2 hltb hlt hk HBr x0 x1 x2
            obtain ⟨x0, x1, x2⟩ := box_cells HBo_s2.out
            go_wp2_with fail
            go_loopw [5, 52] (fun s i wr => ∃ k : Nat, k ≤ kd.length ∧ i = .int .i64 k ∧ s = .string (kidsS kd s2 k) ∧ Hid (Below (w.alloc (.cells #[.slice A0 ks.length c0, .slice A1 vs.length c1, .slice A2 kd.length c2] 33)).heap.size (w.alloc (.cells #[.slice A0 ks.length c0, .slice A1 vs.length c1, .slice A2 kd.length c2] 33)) wr)) (fun _ i _ => kd.length - (intOf i).toNat)
            case atStart => exact ⟨0, Nat.zero_le _, rfl, rfl, HBo_s2⟩
            case round =>
              obtain ⟨k, hk, rfl, rfl, HBr⟩ := hrel
              by_cases hlt : k < kd.length
              · have hltz : (k : Int) < (kd.length : Int) := by omega
                obtain ⟨b, o, rfl, hc⟩ := (H2.out.below (HB0.out.trans (HBr.out.mono (by simp)))).at (by omega)
                have cc := hc k hlt
                have hs := kidsS_le kd s2 k
                have hpz := putB_le 1 (rd kd (k : Int))
                have HSt : Hid (kidsS kd s2 (k + 1) = kidsS kd s2 k ++ putB 1 (rd kd (k : Int))) := Lib.hid rfl
                obtain ⟨x, hx⟩ : ∃ q, q = rd kd (k : Int) := ⟨_, rfl⟩
                rw [← hx] at cc HSt hpz
                obtain ⟨t, ht⟩ : ∃ q, q = kidsS kd s2 k := ⟨_, rfl⟩
                rw [← ht] at HSt hs ⊢
                have HPx : Hid (∀ w, Calls Tryd.prog 41 #[.int .i64 1, .int .i64 x] w fun e w' => e = .returned (.string (putB 1 x)) ∧ Below w.heap.size w w') := Lib.hid (fun w => Put_any 1 _ w)
                obtain ⟨p, hp⟩ : ∃ q, q = putB 1 x := ⟨_, rfl⟩
                rw [← hp] at HPx hpz HSt
                clear hp
                have hadd := add_run (a := t) (b := p) (by omega)
                clear hx ht hc
                go_wp2_with fail
                refine (HPx.out _).mono ?_
                rintro e wn ⟨rfl, hb⟩
                have HBr2 := Lib.hid (HBr.out.trans (hb.mono HBr.out.size))
                clear hb
                go_wp2_with fail
                go_roundw
                case rel => exact ⟨k + 1, by omega, by go_num, by rw [HSt.out], HBr2⟩
                case measure => simp [intOf]; omega
              · have hltb : ¬ (k : Int) < (kd.length : Int) := by omega
                obtain rfl : k = kd.length := by omega
                have hz_s3 := kidsS_le kd s2 kd.length
                obtain ⟨s3, hs3⟩ : ∃ q, q = kidsS kd s2 kd.length := ⟨_, rfl⟩
                rw [← hs3] at HLy hz_s3 ⊢
                have HBo_s3 := HBr
                clear hs3 hltb hlt hk HBr x0 x1 x2
                go_wp2_with fail
                go_ret2
                exact ⟨by rw [HLy.out]; rfl, HB0.out.trans (HBo_s3.out.mono (by simp))⟩
  · rw [hkb] at HC2
    have hki : kindI kd = 0 := by rw [HKi.out]; have := of_decide_eq_true hkb; first | exact if_pos this | exact if_neg this
    rw [hki] at HP1 HHd hpa
    clear hkb hki HKi
    obtain ⟨p1, hp1⟩ : ∃ q, q = putB 1 0 := ⟨_, rfl⟩
    obtain ⟨p2, hp2⟩ : ∃ q, q = putB 1 (ks.length : Int) := ⟨_, rfl⟩
    rw [← hp1, ← hp2] at HHd
    rw [← hp1] at HP1 hpa
    rw [← hp2] at HP2 hpb
    clear hp1 hp2
    obtain ⟨s0, hs0⟩ : ∃ q, q = headS ks kd := ⟨_, rfl⟩
    rw [← hs0] at HHd HLy hh8
    clear hs0
    have hadd := add_run (a := p1) (b := p2) (by omega)
    rw [← HHd.out] at hadd
    go_wp2_with fail
    refine HC2.out.mono ?_
    rintro e w2 ⟨rfl, hb⟩
    have HB2 := Lib.hid (HB1.out.trans (hb.mono HB1.out.size))
    obtain ⟨x0, x1, x2⟩ := box_cells HB2.out
    clear hb
    go_wp2_with fail
    have HX := Lib.hid (show ∀ w', KF w2 w' → w'.cell? ⟨w.heap.size, 0, none⟩ = some (.slice A0 ks.length c0) ∧ KF w2 w' from fun w' h => ⟨(box_cells (HB2.out.trans (Below.mono h HB2.out.size))).1, h⟩)
    have HY := Lib.hid (show ∀ w', (w'.cell? ⟨w.heap.size, 0, none⟩ = some (.slice A0 ks.length c0) ∧ KF w2 w') → KF w2 w' from fun w' h => h.2)
    go_region_held3 (fun w' => w'.cell? ⟨w.heap.size, 0, none⟩ = some (.slice A0 ks.length c0) ∧ KF w2 w') ((refine HX.out _ ?_; first | assumption | exact Below.drew (Below.refl _ _))) (first | (go_at_call 41; (with_reducible refine (HP1.out _).mono ?_); rintro e wn ⟨rfl, hb⟩; have hKK := KF.step (HY.out _ (by assumption)) hb; clear hb) | (go_at_call 41; (with_reducible refine (HP2.out _).mono ?_); rintro e wn ⟨rfl, hb⟩; have hKK := KF.step (HY.out _ (by assumption)) hb; clear hb))
    have HB3 := Lib.hid (HB2.out.trans (hKK.mono HB2.out.size))
    clear hKK
    obtain ⟨x0, x1, x2⟩ := box_cells HB3.out
    go_wp2_with fail
    go_loopw [5, 29] (fun s i wr => ∃ k : Nat, k ≤ ks.length ∧ i = .int .i64 k ∧ s = .string (keysS ks s0 k) ∧ Hid (Below (w.alloc (.cells #[.slice A0 ks.length c0, .slice A1 vs.length c1, .slice A2 kd.length c2] 33)).heap.size (w.alloc (.cells #[.slice A0 ks.length c0, .slice A1 vs.length c1, .slice A2 kd.length c2] 33)) wr)) (fun _ i _ => ks.length - (intOf i).toNat)
    case atStart => exact ⟨0, Nat.zero_le _, rfl, rfl, HB3⟩
    case round =>
      obtain ⟨k, hk, rfl, rfl, HBr⟩ := hrel
      by_cases hlt : k < ks.length
      · have hltz : (k : Int) < (ks.length : Int) := by omega
        obtain ⟨b, o, rfl, hc⟩ := (H0.out.below (HB0.out.trans (HBr.out.mono (by simp)))).at (by omega)
        have cc := hc k hlt
        have hs := keysS_le ks s0 k
        have hpz := putB_le 4 (rd ks (k : Int))
        have HSt : Hid (keysS ks s0 (k + 1) = keysS ks s0 k ++ putB 4 (rd ks (k : Int))) := Lib.hid rfl
        obtain ⟨x, hx⟩ : ∃ q, q = rd ks (k : Int) := ⟨_, rfl⟩
        rw [← hx] at cc HSt hpz
        obtain ⟨t, ht⟩ : ∃ q, q = keysS ks s0 k := ⟨_, rfl⟩
        rw [← ht] at HSt hs ⊢
        have HPx : Hid (∀ w, Calls Tryd.prog 41 #[.int .i64 4, .int .i64 x] w fun e w' => e = .returned (.string (putB 4 x)) ∧ Below w.heap.size w w') := Lib.hid (fun w => Put_any 4 _ w)
        obtain ⟨p, hp⟩ : ∃ q, q = putB 4 x := ⟨_, rfl⟩
        rw [← hp] at HPx hpz HSt
        clear hp
        have hadd := add_run (a := t) (b := p) (by omega)
        clear hx ht hc
        go_wp2_with fail
        refine (HPx.out _).mono ?_
        rintro e wn ⟨rfl, hb⟩
        have HBr2 := Lib.hid (HBr.out.trans (hb.mono HBr.out.size))
        clear hb
        go_wp2_with fail
        go_roundw
        case rel => exact ⟨k + 1, by omega, by go_num, by rw [HSt.out], HBr2⟩
        case measure => simp [intOf]; omega
      · have hltb : ¬ (k : Int) < (ks.length : Int) := by omega
        obtain rfl : k = ks.length := by omega
        have hz_s1 := keysS_le ks s0 ks.length
        obtain ⟨s1, hs1⟩ : ∃ q, q = keysS ks s0 ks.length := ⟨_, rfl⟩
        rw [← hs1] at HLy hz_s1 ⊢
        have HBo_s1 := HBr
        clear hs1 hltb hlt hk HBr x0 x1 x2
        obtain ⟨x0, x1, x2⟩ := box_cells HBo_s1.out
        go_wp2_with fail
        go_loopw [5, 41] (fun s i wr => ∃ k : Nat, k ≤ vs.length ∧ i = .int .i64 k ∧ s = .string (valsS vs s1 k) ∧ Hid (Below (w.alloc (.cells #[.slice A0 ks.length c0, .slice A1 vs.length c1, .slice A2 kd.length c2] 33)).heap.size (w.alloc (.cells #[.slice A0 ks.length c0, .slice A1 vs.length c1, .slice A2 kd.length c2] 33)) wr)) (fun _ i _ => vs.length - (intOf i).toNat)
        case atStart => exact ⟨0, Nat.zero_le _, rfl, rfl, HBo_s1⟩
        case round =>
          obtain ⟨k, hk, rfl, rfl, HBr⟩ := hrel
          by_cases hlt : k < vs.length
          · have hltz : (k : Int) < (vs.length : Int) := by omega
            obtain ⟨b, o, rfl, hc⟩ := (H1.out.below (HB0.out.trans (HBr.out.mono (by simp)))).at (by omega)
            have cc := hc k hlt
            have hs := valsS_le vs s1 HF.out.v k (by omega)
            have hvz := of_decide_eq_true (allN_all.1 HF.out.v k hlt)
            have HSt : Hid (valsS vs s1 (k + 1) = valsS vs s1 k ++ rdOf ByteArray.empty vs (k : Int)) := Lib.hid rfl
            obtain ⟨x, hx⟩ : ∃ q, q = rdOf ByteArray.empty vs (k : Int) := ⟨_, rfl⟩
            rw [← hx] at cc HSt hvz
            obtain ⟨t, ht⟩ : ∃ q, q = valsS vs s1 k := ⟨_, rfl⟩
            rw [← ht] at HSt hs ⊢
            have hadd := add_run (a := t) (b := x) (by omega)
            clear hx ht hc
            go_wp2_with fail
            have HBr2 := HBr
            go_roundw
            case rel => exact ⟨k + 1, by omega, by go_num, by rw [HSt.out], HBr2⟩
            case measure => simp [intOf]; omega
          · have hltb : ¬ (k : Int) < (vs.length : Int) := by omega
            obtain rfl : k = vs.length := by omega
            have hz_s2 := valsS_le vs s1 HF.out.v vs.length (Nat.le_refl _)
            obtain ⟨s2, hs2⟩ : ∃ q, q = valsS vs s1 vs.length := ⟨_, rfl⟩
            rw [← hs2] at HLy hz_s2 ⊢
            have HBo_s2 := HBr
            clear hs2 hltb hlt hk HBr x0 x1 x2
            obtain ⟨x0, x1, x2⟩ := box_cells HBo_s2.out
            go_wp2_with fail
            go_loopw [5, 52] (fun s i wr => ∃ k : Nat, k ≤ kd.length ∧ i = .int .i64 k ∧ s = .string (kidsS kd s2 k) ∧ Hid (Below (w.alloc (.cells #[.slice A0 ks.length c0, .slice A1 vs.length c1, .slice A2 kd.length c2] 33)).heap.size (w.alloc (.cells #[.slice A0 ks.length c0, .slice A1 vs.length c1, .slice A2 kd.length c2] 33)) wr)) (fun _ i _ => kd.length - (intOf i).toNat)
            case atStart => exact ⟨0, Nat.zero_le _, rfl, rfl, HBo_s2⟩
            case round =>
              obtain ⟨k, hk, rfl, rfl, HBr⟩ := hrel
              by_cases hlt : k < kd.length
              · have hltz : (k : Int) < (kd.length : Int) := by omega
                obtain ⟨b, o, rfl, hc⟩ := (H2.out.below (HB0.out.trans (HBr.out.mono (by simp)))).at (by omega)
                have cc := hc k hlt
                have hs := kidsS_le kd s2 k
                have hpz := putB_le 1 (rd kd (k : Int))
                have HSt : Hid (kidsS kd s2 (k + 1) = kidsS kd s2 k ++ putB 1 (rd kd (k : Int))) := Lib.hid rfl
                obtain ⟨x, hx⟩ : ∃ q, q = rd kd (k : Int) := ⟨_, rfl⟩
                rw [← hx] at cc HSt hpz
                obtain ⟨t, ht⟩ : ∃ q, q = kidsS kd s2 k := ⟨_, rfl⟩
                rw [← ht] at HSt hs ⊢
                have HPx : Hid (∀ w, Calls Tryd.prog 41 #[.int .i64 1, .int .i64 x] w fun e w' => e = .returned (.string (putB 1 x)) ∧ Below w.heap.size w w') := Lib.hid (fun w => Put_any 1 _ w)
                obtain ⟨p, hp⟩ : ∃ q, q = putB 1 x := ⟨_, rfl⟩
                rw [← hp] at HPx hpz HSt
                clear hp
                have hadd := add_run (a := t) (b := p) (by omega)
                clear hx ht hc
                go_wp2_with fail
                refine (HPx.out _).mono ?_
                rintro e wn ⟨rfl, hb⟩
                have HBr2 := Lib.hid (HBr.out.trans (hb.mono HBr.out.size))
                clear hb
                go_wp2_with fail
                go_roundw
                case rel => exact ⟨k + 1, by omega, by go_num, by rw [HSt.out], HBr2⟩
                case measure => simp [intOf]; omega
              · have hltb : ¬ (k : Int) < (kd.length : Int) := by omega
                obtain rfl : k = kd.length := by omega
                have hz_s3 := kidsS_le kd s2 kd.length
                obtain ⟨s3, hs3⟩ : ∃ q, q = kidsS kd s2 kd.length := ⟨_, rfl⟩
                rw [← hs3] at HLy hz_s3 ⊢
                have HBo_s3 := HBr
                clear hs3 hltb hlt hk HBr x0 x1 x2
                go_wp2_with fail
                go_ret2
                exact ⟨by rw [HLy.out]; rfl, HB0.out.trans (HBo_s3.out.mono (by simp))⟩
end Go.Proofs.YtbiijkpffllimaaDoor
namespace Go.Proofs.YtbiijkpffllimaaDoor
open Go.RowKit Go.Proofs.YtbiijkpffllimaaDoorW.PrintWords Go.Proofs.YtbiijkpffllimaaDoorW.PrintLast Go.Proofs.YtbiijkpffllimaaDoorW.PrintMore Go.Proofs.YtbiijkpffllimaaDoor.PNodeUnlike
set_option linter.unusedVariables false
set_option linter.unusedSimpArgs false

/-- what is left of the bytes, and whether there were enough -/
abbrev St := ByteArray × Bool
def tk (n : Nat) (st : St) : ByteArray × St := if st.1.size < n then (⟨#[]⟩, (st.1, false)) else (st.1.extract 0 n, (st.1.extract n st.1.size, st.2))
def nb (w : Nat) (st : St) : Int × St := (if (tk w st).1.size < w then 0 else getK (tk w st).1 w, (tk w st).2)
def runN (w : Nat) (st : St) : Nat → List Int × St
  | 0 => ([], st)
  | k + 1 => ((runN w st k).1 ++ [(nb w (runN w st k).2).1], (nb w (runN w st k).2).2)
def runV (w : Nat) (st : St) : Nat → List ByteArray × St
  | 0 => ([], st)
  | k + 1 => ((runV w st k).1 ++ [(tk w (runV w st k).2).1], (tk w (runV w st k).2).2)
theorem runN_length (w : Nat) (st : St) : ∀ k, (runN w st k).1.length = k
  | 0 => rfl
  | k + 1 => by rw [runN, List.length_append, runN_length w st k]; rfl
theorem runV_length (w : Nat) (st : St) : ∀ k, (runV w st k).1.length = k
  | 0 => rfl
  | k + 1 => by rw [runV, List.length_append, runV_length w st k]; rfl
theorem runN_cons (w : Nat) (st : St) : ∀ k, runN w st (k + 1) = ((nb w st).1 :: (runN w (nb w st).2 k).1, (runN w (nb w st).2 k).2)
  | 0 => rfl
  | k + 1 => by rw [runN, runN_cons w st k]; rfl
theorem runV_cons (w : Nat) (st : St) : ∀ k, runV w st (k + 1) = ((tk w st).1 :: (runV w (tk w st).2 k).1, (runV w (tk w st).2 k).2)
  | 0 => rfl
  | k + 1 => by rw [runV, runV_cons w st k]; rfl
structure Parts where
  ks : List Int
  vs : List ByteArray
  kd : List Int
  ok : Bool
def kindS (d : ByteArray) : Int × St := nb 1 (d, true)
def countS (d : ByteArray) : Int × St := nb 1 (kindS d).2
def keysP (d : ByteArray) : List Int × St := runN 4 (countS d).2 (countS d).1.toNat
def valsP (d : ByteArray) : List ByteArray × St := runV 12 (keysP d).2 ((countS d).1 * (1 - (kindS d).1)).toNat
def kidsP (d : ByteArray) : List Int × St := runN 1 (valsP d).2 (((countS d).1 + 1) * (kindS d).1).toNat
/-- a node's parts -/
def partsR (d : ByteArray) : Parts :=
  if 1 < (kindS d).1 ∨ 7 < (countS d).1 then ⟨[], [], [], false⟩ else ⟨(keysP d).1, (valsP d).1, (kidsP d).1, (kidsP d).2.2 && decide ((kidsP d).2.1.size = 0)⟩
theorem tk_append (a b : ByteArray) (ok : Bool) (n : Nat) (h : a.size = n) : tk n (a ++ b, ok) = (a, (b, ok)) := by
  unfold tk
  have hs : (a ++ b).size = a.size + b.size := ByteArray.size_append
  rw [if_neg (by show ¬ (a ++ b).size < n; omega)]
  show ((a ++ b).extract 0 n, ((a ++ b).extract n (a ++ b).size, ok)) = _
  rw [ByteArray.extract_append_eq_right h.symm (by rw [hs])]
  have e : (a ++ b).extract 0 n = a := by rw [← h]; exact ByteArray.extract_append_eq_left rfl
  rw [e]
theorem getK_putB {w n : Int} (h : fitsB w n = true) : getK (putB w n) w.toNat = n := by
  have := getK_put h ⟨#[]⟩
  rwa [show putB w n ++ (⟨#[]⟩ : ByteArray) = putB w n from by apply ByteArray.ext; simp] at this
theorem nb_append (w : Nat) (n : Int) (b : ByteArray) (ok : Bool) (h : fitsB (w : Int) n = true) : nb w (putB w n ++ b, ok) = (n, (b, ok)) := by
  have hs : (putB (w : Int) n).size = w := by have := putB_size h; omega
  have hg := getK_putB h
  unfold nb
  rw [tk_append _ _ _ _ hs]
  show (if (putB (w : Int) n).size < w then 0 else getK (putB (w : Int) n) w, (b, ok)) = _
  rw [if_neg (by omega)]
  rw [Int.toNat_natCast] at hg
  rw [hg]
def catN (w : Nat) : List Int → ByteArray
  | [] => ⟨#[]⟩
  | x :: l => putB w x ++ catN w l
def catV : List ByteArray → ByteArray
  | [] => ⟨#[]⟩
  | x :: l => x ++ catV l
theorem nil_append (b : ByteArray) : (⟨#[]⟩ : ByteArray) ++ b = b := by apply ByteArray.ext; simp
theorem append_nil (b : ByteArray) : b ++ (⟨#[]⟩ : ByteArray) = b := by apply ByteArray.ext; simp
theorem catN_snoc (w : Nat) (x : Int) : ∀ l, catN w (l ++ [x]) = catN w l ++ putB w x
  | [] => by show putB w x ++ (⟨#[]⟩ : ByteArray) = (⟨#[]⟩ : ByteArray) ++ putB w x; rw [append_nil, nil_append]
  | y :: l => by rw [List.cons_append, catN, catN_snoc w x l, catN, ByteArray.append_assoc]
theorem catV_snoc (x : ByteArray) : ∀ l, catV (l ++ [x]) = catV l ++ x
  | [] => by show x ++ (⟨#[]⟩ : ByteArray) = (⟨#[]⟩ : ByteArray) ++ x; rw [append_nil, nil_append]
  | y :: l => by rw [List.cons_append, catV, catV_snoc x l, catV, ByteArray.append_assoc]
theorem keysS_cat (ks : List Int) (s0 : ByteArray) : ∀ k, k ≤ ks.length → keysS ks s0 k = s0 ++ catN 4 (ks.take k)
  | 0, _ => by rw [keysS, List.take_zero, catN, append_nil]
  | k + 1, h => by rw [keysS, keysS_cat ks s0 k (by omega), List.take_succ_eq_append_getElem h, catN_snoc, rd_at ks k h, ByteArray.append_assoc]; rfl
theorem kidsS_cat (ks : List Int) (s0 : ByteArray) : ∀ k, k ≤ ks.length → kidsS ks s0 k = s0 ++ catN 1 (ks.take k)
  | 0, _ => by rw [kidsS, List.take_zero, catN, append_nil]
  | k + 1, h => by rw [kidsS, kidsS_cat ks s0 k (by omega), List.take_succ_eq_append_getElem h, catN_snoc, rd_at ks k h, ByteArray.append_assoc]; rfl
theorem valsS_cat (vs : List ByteArray) (s0 : ByteArray) : ∀ k, k ≤ vs.length → valsS vs s0 k = s0 ++ catV (vs.take k)
  | 0, _ => by rw [valsS, List.take_zero, catV, append_nil]
  | k + 1, h => by rw [valsS, valsS_cat vs s0 k (by omega), List.take_succ_eq_append_getElem h, catV_snoc, rdOf_at vs k h, ByteArray.append_assoc]
theorem layS_cat (ks : List Int) (vs : List ByteArray) (kd : List Int) : layS ks vs kd = putB 1 (kindI kd) ++ (putB 1 ks.length ++ (catN 4 ks ++ (catV vs ++ catN 1 kd))) := by
  unfold layS headS
  rw [kidsS_cat _ _ _ (Nat.le_refl _), valsS_cat _ _ _ (Nat.le_refl _), keysS_cat _ _ _ (Nat.le_refl _), List.take_length, List.take_length, List.take_length]
  simp only [ByteArray.append_assoc]
theorem runN_cat (w : Nat) (b : ByteArray) (ok : Bool) : ∀ l : List Int, (∀ x ∈ l, fitsB (w : Int) x = true) → runN w (catN w l ++ b, ok) l.length = (l, (b, ok))
  | [], _ => by rw [catN, nil_append]; rfl
  | x :: l, h => by
    rw [List.length_cons, runN_cons, catN, ByteArray.append_assoc, nb_append w x _ ok (h x List.mem_cons_self)]
    show (x :: (runN w (catN w l ++ b, ok) l.length).1, (runN w (catN w l ++ b, ok) l.length).2) = _
    rw [runN_cat w b ok l (fun y hy => h y (List.mem_cons_of_mem _ hy))]
theorem runV_cat (b : ByteArray) (ok : Bool) : ∀ l : List ByteArray, (∀ x ∈ l, x.size = 12) → runV 12 (catV l ++ b, ok) l.length = (l, (b, ok))
  | [], _ => by rw [catV, nil_append]; rfl
  | x :: l, h => by
    rw [List.length_cons, runV_cons, catV, ByteArray.append_assoc, tk_append x _ ok 12 (h x List.mem_cons_self)]
    show (x :: (runV 12 (catV l ++ b, ok) l.length).1, (runV 12 (catV l ++ b, ok) l.length).2) = _
    rw [runV_cat b ok l (fun y hy => h y (List.mem_cons_of_mem _ hy))]
theorem fits_of {w : Nat} {n : Int} (h1 : 1 ≤ w) (h4 : w ≤ 4) (h0 : 0 ≤ n) (h : n < 256 ^ w) : fitsB (w : Int) n = true := by
  unfold fitsB
  refine decide_eq_true ⟨by omega, by omega, h0, ?_⟩
  rw [Int.toNat_natCast]; exact h
structure NodeG (ks : List Int) (vs : List ByteArray) (kd : List Int) : Prop where
  k : ∀ x ∈ ks, fitsB ((4 : Nat) : Int) x = true
  v : ∀ x ∈ vs, x.size = 12
  d : ∀ x ∈ kd, fitsB ((1 : Nat) : Int) x = true
  h1 : fitsB ((1 : Nat) : Int) (kindI kd) = true
  h2 : fitsB ((1 : Nat) : Int) (ks.length : Int) = true
  nv : ((ks.length : Int) * (1 - kindI kd)).toNat = vs.length
  nd : (((ks.length : Int) + 1) * kindI kd).toNat = kd.length
theorem node_g {ks : List Int} {vs : List ByteArray} {kd : List Int} (h : nodeB ks vs kd = true) : NodeG ks vs kd := by
  have f := node_facts h
  refine ⟨fun x hx => ?_, fun x hx => ?_, fun x hx => ?_, ?_, ?_, ?_, ?_⟩
  · obtain ⟨i, hi, rfl⟩ := List.mem_iff_getElem.1 hx
    have := of_decide_eq_true (allN_all.1 f.r i hi)
    rw [rd_at ks i hi] at this
    exact fits_of (by omega) (by omega) this.1 (by omega)
  · obtain ⟨i, hi, rfl⟩ := List.mem_iff_getElem.1 hx
    have := of_decide_eq_true (allN_all.1 f.v i hi)
    rw [rdOf_at vs i hi] at this
    omega
  · obtain ⟨i, hi, rfl⟩ := List.mem_iff_getElem.1 hx
    have hk := allN_all.1 f.d i hi
    unfold kidK at hk
    have := of_decide_eq_true (Bool.and_eq_true_iff.1 hk).1
    rw [rd_at kd i hi] at this
    exact fits_of (by omega) (by omega) (by omega) (by omega)
  · unfold kindI; split <;> exact fits_of (by omega) (by omega) (by omega) (by omega)
  · have := f.k7; exact fits_of (by omega) (by omega) (by omega) (by omega)
  · unfold nodeB at h
    unfold kindI
    split
    · rename_i hk
      rw [if_pos hk, Bool.and_eq_true, Bool.and_eq_true] at h
      have := of_decide_eq_true h.2.2
      omega
    · rename_i hk
      rw [if_neg hk, Bool.and_eq_true, Bool.and_eq_true] at h
      have := of_decide_eq_true h.2.2
      omega
  · unfold nodeB at h
    unfold kindI
    split
    · rename_i hk; omega
    · rename_i hk
      rw [if_neg hk, Bool.and_eq_true, Bool.and_eq_true] at h
      have := of_decide_eq_true h.2.2
      omega
theorem parts_at {ks : List Int} {vs : List ByteArray} {kd : List Int} (h : nodeB ks vs kd = true) (b : ByteArray) : partsR (layS ks vs kd ++ b) = ⟨ks, vs, kd, decide (b.size = 0)⟩ := by
  have f := node_facts h
  have g := node_g h
  have e1 : kindS (layS ks vs kd ++ b) = (kindI kd, (putB 1 ks.length ++ (catN 4 ks ++ (catV vs ++ (catN 1 kd ++ b))), true)) := by
    unfold kindS
    rw [layS_cat]
    simp only [ByteArray.append_assoc]
    exact nb_append 1 _ _ true g.h1
  have e2 : countS (layS ks vs kd ++ b) = ((ks.length : Int), (catN 4 ks ++ (catV vs ++ (catN 1 kd ++ b)), true)) := by
    unfold countS; rw [e1]; exact nb_append 1 _ _ true g.h2
  have e3 : keysP (layS ks vs kd ++ b) = (ks, (catV vs ++ (catN 1 kd ++ b), true)) := by
    unfold keysP; rw [e2]; exact runN_cat 4 _ true ks g.k
  have e4 : valsP (layS ks vs kd ++ b) = (vs, (catN 1 kd ++ b, true)) := by
    unfold valsP; rw [e3, e2, e1]
    show runV 12 _ (((ks.length : Int) * (1 - kindI kd)).toNat) = _
    rw [g.nv]; exact runV_cat _ true vs g.v
  have e5 : kidsP (layS ks vs kd ++ b) = (kd, (b, true)) := by
    unfold kidsP; rw [e4, e2, e1]
    show runN 1 _ ((((ks.length : Int) + 1) * kindI kd).toNat) = _
    rw [g.nd]; exact runN_cat 1 _ true kd g.d
  have hk : kindI kd ≤ 1 := by unfold kindI; split <;> omega
  have h7 := f.k7
  unfold partsR
  rw [e1, e2, if_neg (by show ¬ (1 < kindI kd ∨ 7 < (ks.length : Int)); omega), e3, e4, e5]
  rfl
theorem parts_lay {ks : List Int} {vs : List ByteArray} {kd : List Int} (h : nodeB ks vs kd = true) : partsR (layS ks vs kd) = ⟨ks, vs, kd, true⟩ := by
  have := parts_at h ⟨#[]⟩
  rwa [append_nil] at this
theorem lay_inj {ks : List Int} {vs : List ByteArray} {kd ks' : List Int} {vs' : List ByteArray} {kd' : List Int} (h : nodeB ks vs kd = true) (h' : nodeB ks' vs' kd' = true) (e : layS ks vs kd = layS ks' vs' kd') : ks = ks' ∧ vs = vs' ∧ kd = kd' := by
  have h1 := parts_lay h
  rw [e, parts_lay h'] at h1
  injection h1 with a b c
  exact ⟨a.symm, b.symm, c.symm⟩
end Go.Proofs.YtbiijkpffllimaaDoor
namespace Go.Proofs.YtbiijkpffllimaaDoor
open Go.ChangeShapes Go.WideShapes Go.RowKit Go.Extern.Stop Go.Stop Go.Extern Go.Proofs.YtbiijkpffllimaaDoorW.PrintWords Go.Proofs.YtbiijkpffllimaaDoorW.PrintLast Go.Proofs.YtbiijkpffllimaaDoorW.PrintMore Go.Proofs.YtbiijkpffllimaaDoor.PNodeUnlike
set_option linter.unusedVariables false
set_option linter.unusedSimpArgs false

theorem ints_mk {w : World} {b o : Nat} {l : List Int} {c : Nat} (hm : l.length ≤ 9223372036854775807) (hc : l.length ≤ c) (h : ∀ j, j < l.length → w.cell? ⟨b, o + j, none⟩ = some (.int .i64 (rd l (j : Int)))) : Ints w (some ⟨b, o, none⟩) l c := by
  refine ⟨⟨rfl, hm, fun hn => ⟨_, rfl, fun j p hj => ⟨[.int .i64 p], rfl, rfl, fun i u hu => ?_⟩⟩⟩, hc⟩
  obtain ⟨hl, hp⟩ := List.getElem?_eq_some_iff.1 hj
  have h2 := h j hl
  rw [rd_at l j hl, hp] at h2
  cases i with
  | zero =>
    have : Value.int .i64 p = u := by simpa using hu
    subst this
    have e1 : (Kd.int .i64).sz = 1 := rfl
    rw [e1, Go.WideShapes.add_plain]
    simpa using h2
  | succ i => simp at hu
theorem strs_mk {w : World} {b o : Nat} {l : List ByteArray} {c : Nat} (hm : l.length ≤ 9223372036854775807) (hc : l.length ≤ c) (h : ∀ j, j < l.length → w.cell? ⟨b, o + j, none⟩ = some (.string (rdOf ByteArray.empty l (j : Int)))) : Strs w (some ⟨b, o, none⟩) l c := by
  refine ⟨⟨rfl, hm, fun hn => ⟨_, rfl, fun j p hj => ⟨[.string p], rfl, rfl, fun i u hu => ?_⟩⟩⟩, hc⟩
  obtain ⟨hl, hp⟩ := List.getElem?_eq_some_iff.1 hj
  have h2 := h j hl
  rw [rdOf_at l j hl, hp] at h2
  cases i with
  | zero =>
    have : Value.string p = u := by simpa using hu
    subst this
    have e1 : Kd.string.sz = 1 := rfl
    rw [e1, Go.WideShapes.add_plain]
    simpa using h2
  | succ i => simp at hu
theorem ints_nil (w : World) (A : Option Addr) (c : Nat) : Ints w A [] c := ⟨⟨rfl, by simp, fun h => absurd h (by simp)⟩, Nat.zero_le _⟩
theorem strs_nil (w : World) (A : Option Addr) (c : Nat) : Strs w A [] c := ⟨⟨rfl, by simp, fun h => absurd h (by simp)⟩, Nat.zero_le _⟩
section
variable {H : Type} {enc : TypeId × Value → H} {P : Program} {W : World} {base : Nat} {sp : Nat → Bool} {held : Bool}
theorem slot_ints {t e : TypeId} {fuel : Nat} {v : Value} {x : DataW H × List MemPlace} (hu : P.underlying t = some (.slice e)) (he : P.underlying e = some (.int .i64)) (hc : P.cellsOf e = 1)
    (h : DataW.trod enc P W base sp held fuel t [v] = some x) : ∃ A l c, v = .slice A l.length c ∧ Ints W A l c ∧ ∀ n ∈ l, (Lit.int .i64 n).wf = true := by
  rcases open_ints hu he hc h with ⟨hcs, _⟩ | ⟨x, len, c, zs, hcs, _, hl, hm, hz, hx, hcell, hwz⟩
  · have : v = .slice none 0 0 := by simpa using hcs
    exact ⟨none, [], 0, this, ints_nil _ _ _, by simp⟩
  · have hv : v = .slice (some x) len c := by simpa using hcs
    have hl2 : len ≤ zs.length := by rw [hz]; split <;> omega
    have hlt : (zs.take len).length = len := by rw [List.length_take]; omega
    refine ⟨some x, zs.take len, c, by rw [hlt]; exact hv, ?_, fun n hn => hwz n (List.mem_of_mem_take hn)⟩
    by_cases h0 : len = 0
    · rw [h0, List.take_zero]; exact ints_nil _ _ _
    · obtain ⟨b, o, rfl, hcc⟩ := ints_at hcell (by omega)
      refine ints_mk (by rw [hlt]; unfold maxLen at hm; omega) (by omega) fun j hj => ?_
      rw [hlt] at hj
      rw [hcc j (by omega), rd_at _ j (by rw [hlt]; exact hj), List.getElem_take]
      simp [List.getD_eq_getElem?_getD, List.getElem?_eq_getElem (show j < zs.length by omega)]
theorem slot_strs {t e : TypeId} {fuel : Nat} {v : Value} {x : DataW H × List MemPlace} (hu : P.underlying t = some (.slice e)) (he : P.underlying e = some .string) (hc : P.cellsOf e = 1)
    (h : DataW.trod enc P W base sp held fuel t [v] = some x) : ∃ A l c, v = .slice A l.length c ∧ Strs W A l c := by
  rcases open_strings hu he hc h with ⟨hcs, _⟩ | ⟨x, len, c, zs, hcs, _, hl, hm, hz, hx, hcell, hwz⟩
  · have : v = .slice none 0 0 := by simpa using hcs
    exact ⟨none, [], 0, this, strs_nil _ _ _⟩
  · have hv : v = .slice (some x) len c := by simpa using hcs
    have hl2 : len ≤ zs.length := by rw [hz]; split <;> omega
    have hlt : (zs.take len).length = len := by rw [List.length_take]; omega
    refine ⟨some x, zs.take len, c, by rw [hlt]; exact hv, ?_⟩
    by_cases h0 : len = 0
    · rw [h0, List.take_zero]; exact strs_nil _ _ _
    · obtain ⟨b, o, spot⟩ := x
      have hspot : spot = none := by simpa [Addr.add] using World.cell?_spot (hcell 0 (by omega))
      subst hspot
      refine strs_mk (by rw [hlt]; unfold maxLen at hm; omega) (by omega) fun j hj => ?_
      rw [hlt] at hj
      have hcc := hcell j (by omega)
      rw [Go.WideShapes.add_plain] at hcc
      rw [hcc, rdOf_at _ j (by rw [hlt]; exact hj), List.getElem_take]
      simp [List.getD_eq_getElem?_getD, List.getElem?_eq_getElem (show j < zs.length by omega)]
end
/-- a node that came in -/
structure NodeIn (W : World) (A0 : Option Addr) (ks : List Int) (c0 : Nat) (A1 : Option Addr) (vs : List ByteArray) (c1 : Nat) (A2 : Option Addr) (kd : List Int) (c2 : Nat) : Prop where
  k : Ints W A0 ks c0
  v : Strs W A1 vs c1
  d : Ints W A2 kd c2
  wk : ∀ n ∈ ks, (Lit.int .i64 n).wf = true
theorem NodeIn.below {W W' : World} {A0 : Option Addr} {ks : List Int} {c0 : Nat} {A1 : Option Addr} {vs : List ByteArray} {c1 : Nat} {A2 : Option Addr} {kd : List Int} {c2 : Nat} (h : NodeIn W A0 ks c0 A1 vs c1 A2 kd c2) (hb : Below W.heap.size W W') : NodeIn W' A0 ks c0 A1 vs c1 A2 kd c2 :=
  ⟨h.k.below hb, h.v.below hb, h.d.below hb, h.wk⟩
set_option maxRecDepth 100000 in
theorem read_node {H : Type} {enc : TypeId × Value → H} {W : World} {base : Nat} {r : Reach} {b0 : Nat} {sp : Nat → Bool} {held : Bool} {v : Value} {d : DataW H} {ps : List MemPlace}
    (hv : Value.okWide Tryd.prog W r b0 25 v) (h : DataW.Trod enc Tryd.prog W base sp held 25 v d ps) :
    ∃ A0 ks c0 A1 vs c1 A2 kd c2, v = .agg #[.slice A0 ks.length c0, .slice A1 vs.length c1, .slice A2 kd.length c2] ∧ NodeIn W A0 ks c0 A1 vs c1 A2 kd c2 := by
  obtain ⟨v0, v1, v2, y0, y1, y2, n, rfl, _, _, h0, h1, h2⟩ := Go.Joins.open_agg3 Tryd.underlying25 (by kernel_rfl) (by kernel_rfl) hv h
  obtain ⟨A0, ks, c0, rfl, i0, w0⟩ := slot_ints Tryd.underlying22 Tryd.underlying3 (by kernel_rfl) h0
  obtain ⟨A1, vs, c1, rfl, i1⟩ := slot_strs Tryd.underlying23 Tryd.underlying9 (by kernel_rfl) h1
  obtain ⟨A2, kd, c2, rfl, i2, _⟩ := slot_ints Tryd.underlying22 Tryd.underlying3 (by kernel_rfl) h2
  exact ⟨A0, ks, c0, A1, vs, c1, A2, kd, c2, rfl, ⟨i0, i1, i2, w0⟩⟩
/-! ### awake, Few, Of, Same -/
section
variable (A0 : Option Addr) (ks : List Int) (c0 : Nat) (A1 : Option Addr) (vs : List ByteArray) (c1 : Nat) (A2 : Option Addr) (kd : List Int) (c2 : Nat) (w : World)
theorem few_any (h : NodeIn w A0 ks c0 A1 vs c1 A2 kd c2) : Calls Tryd.prog 14 #[.agg #[.slice A0 ks.length c0, .slice A1 vs.length c1, .slice A2 kd.length c2]] w fun e w' => e = .returned (.int .i64 (oneIf (fewB ks vs kd))) ∧ Below w.heap.size w w' := by
  obtain ⟨k, hk⟩ := few_f ks vs kd
  exact dynamolaw09_Few.calls k A0 c0 ks A1 c1 vs A2 c2 kd _ w h.k.1 h.k.2 h.v.1 h.v.2 h.d.1 h.d.2 hk
theorem rright_any (h : NodeIn w A0 ks c0 A1 vs c1 A2 kd c2) (h0 : ks.length ≤ 1000) (h1 : vs.length ≤ 1000) (h2 : kd.length ≤ 1000) : Calls Tryd.prog 15 #[.agg #[.slice A0 ks.length c0, .slice A1 vs.length c1, .slice A2 kd.length c2]] w fun e w' => e = .returned (.bool (nodeB ks vs kd)) ∧ Below w.heap.size w w' := by
  obtain ⟨k, hk⟩ := rright_f ks vs kd h0 h1 h2
  exact dynamoref09_Right.calls k A0 c0 ks A1 c1 vs A2 c2 kd _ w h.k.1 h.k.2 h.v.1 h.v.2 h.d.1 h.d.2 hk
theorem of_call : Calls Tryd.prog 17 #[.agg #[.slice A0 ks.length c0, .slice A1 vs.length c1, .slice A2 kd.length c2]] w fun e w' => e = .returned (.agg #[.slice A0 ks.length c0, .slice A1 vs.length c1, .slice A2 kd.length c2]) ∧ Below w.heap.size w w' := by
  go_enter Tryd.func17, Tryd.ntmps17
  go_wp2
  refine bodyPost_ret (v := .agg #[.slice A0 ks.length c0, .slice A1 vs.length c1, .slice A2 kd.length c2]) (by simp [results, Tryd.results17, go_sem]) rfl ⟨rfl, ?_⟩
  exact (((Below.refl _ _).alloc (Nat.le_refl _) _).alloc (by simp) _)
theorem same_any (B0 : Option Addr) (ks' : List Int) (d0 : Nat) (B1 : Option Addr) (vs' : List ByteArray) (d1 : Nat) (B2 : Option Addr) (kd' : List Int) (d2 : Nat)
    (h : NodeIn w A0 ks c0 A1 vs c1 A2 kd c2) (h' : NodeIn w B0 ks' d0 B1 vs' d1 B2 kd' d2) (h0 : ks.length ≤ 1000) (h1 : vs.length ≤ 1000) (h2 : kd.length ≤ 1000) :
    Calls Tryd.prog 19 #[.agg #[.slice A0 ks.length c0, .slice A1 vs.length c1, .slice A2 kd.length c2], .agg #[.slice B0 ks'.length d0, .slice B1 vs'.length d1, .slice B2 kd'.length d2]] w fun e w' => e = .returned (.int .i64 (oneIf (sameB ks vs kd ks' vs' kd'))) ∧ Below w.heap.size w w' := by
  obtain ⟨k, hk⟩ := same_f ks vs kd ks' vs' kd' h0 h1 h2
  exact dynamolaw09_Same.calls k A0 c0 ks A1 c1 vs A2 c2 kd B0 d0 ks' B1 d1 vs' B2 d2 kd' _ w h.k.1 h.k.2 h.v.1 h.v.2 h.d.1 h.d.2 h'.k.1 h'.k.2 h'.v.1 h'.v.2 h'.d.1 h'.d.2 hk
end
end Go.Proofs.YtbiijkpffllimaaDoor
namespace Go.Proofs.YtbiijkpffllimaaDoor
open Go.RowKit Go.Extern.Stop Go.Stop Go.Extern Go.Proofs.YtbiijkpffllimaaDoorW.PrintWords Go.Proofs.YtbiijkpffllimaaDoorW.PrintLast Go.Proofs.YtbiijkpffllimaaDoorW.PrintMore Go.Proofs.YtbiijkpffllimaaDoor.PNodeUnlike
set_option linter.unusedVariables false
set_option linter.unusedSimpArgs false

theorem lay_nil : layS [] [] [] = ⟨#[0, 0]⟩ := by kernel_rfl
theorem node_nil : nodeB [] [] [] = true := by kernel_rfl
theorem node_five : nodeB [5] [⟨#[49, 50, 51, 52, 53, 54, 55, 56, 57, 48, 49, 50]⟩] [] = true := by kernel_rfl
theorem lay_zero (W : World) : Calls Tryd.prog 16 #[.agg #[.slice none 0 0, .slice none 0 0, .slice none 0 0]] W fun e w' => e = .returned (.tuple #[.string ⟨#[0, 0]⟩, .nilIface]) ∧ Below W.heap.size W w' := by
  have h := lay_ok none [] 0 none [] 0 none [] 0 W (ints_nil _ _ _) (strs_nil _ _ _) (ints_nil _ _ _) (by simp) (by simp) (by simp) node_nil
  rw [lay_nil] at h
  exact h
theorem right_five (W : World) (b1 b2 : Nat) (h1 : W.cell? ⟨b1, 0, none⟩ = some (.int .i64 5)) (h2 : W.cell? ⟨b2, 0, none⟩ = some (.string ⟨#[49, 50, 51, 52, 53, 54, 55, 56, 57, 48, 49, 50]⟩)) :
    Calls Tryd.prog 20 #[.agg #[.slice (some ⟨b1, 0, none⟩) 1 1, .slice (some ⟨b2, 0, none⟩) 1 1, .slice none 0 0]] W fun e w' => e = .returned (.bool true) ∧ Below W.heap.size W w' := by
  have h := right_any (some ⟨b1, 0, none⟩) [5] 1 (some ⟨b2, 0, none⟩) [⟨#[49, 50, 51, 52, 53, 54, 55, 56, 57, 48, 49, 50]⟩] 1 none [] 0 W
    (ints_mk (by simp) (by simp) (fun j hj => by
      have e : j = 0 := by simpa using hj
      subst e
      exact h1))
    (strs_mk (by simp) (by simp) (fun j hj => by
      have e : j = 0 := by simpa using hj
      subst e
      exact h2)) (ints_nil _ _ _) (by simp) (by simp) (by simp)
  rw [node_five] at h
  exact h
set_option maxRecDepth 100000 in
theorem node_awake (w : World) : Calls Tryd.prog 13 #[] w fun e w' => e = .returned (.bool true) ∧ Below w.heap.size w w' := by
  go_enter Tryd.func13, Tryd.ntmps13
  go_wp2_with fail
  refine (lay_zero _).mono ?_
  rintro e w1 ⟨rfl, hb⟩
  have HB1 := Lib.hid hb
  clear hb
  go_wp2_with fail
  refine (Num_nil _).mono ?_
  rintro e _ ⟨rfl, rfl⟩
  go_wp2_with fail
  refine (right_five _ _ _ (by simp) (by simp)).mono ?_
  rintro e w2 ⟨rfl, hb⟩
  have HB2 := Lib.hid hb
  clear hb
  go_wp2_with fail
  go_ret
  exact ⟨rfl, HB1.out.trans ((((Below.refl _ _).alloc (Nat.le_refl _) _).alloc (by simp) _).trans (HB2.out.mono (by simp; omega)) |>.mono HB1.out.size)⟩
section
variable (A0 : Option Addr) (ks : List Int) (c0 : Nat) (A1 : Option Addr) (vs : List ByteArray) (c1 : Nat) (A2 : Option Addr) (kd : List Int) (c2 : Nat) (w : World)
theorem few_no (h : NodeIn w A0 ks c0 A1 vs c1 A2 kd c2) (hf : fewB ks vs kd = false) : Calls Tryd.prog 14 #[.agg #[.slice A0 ks.length c0, .slice A1 vs.length c1, .slice A2 kd.length c2]] w fun e w' => e = .returned (.int .i64 0) ∧ Below w.heap.size w w' := by
  have := few_any A0 ks c0 A1 vs c1 A2 kd c2 w h
  rw [hf] at this
  exact this
theorem few_yes (h : NodeIn w A0 ks c0 A1 vs c1 A2 kd c2) (hf : fewB ks vs kd = true) : Calls Tryd.prog 14 #[.agg #[.slice A0 ks.length c0, .slice A1 vs.length c1, .slice A2 kd.length c2]] w fun e w' => e = .returned (.int .i64 1) ∧ Below w.heap.size w w' := by
  have := few_any A0 ks c0 A1 vs c1 A2 kd c2 w h
  rw [hf] at this
  exact this
theorem rright_is (h : NodeIn w A0 ks c0 A1 vs c1 A2 kd c2) (hf : fewB ks vs kd = true) (b : Bool) (hb : nodeB ks vs kd = b) : Calls Tryd.prog 15 #[.agg #[.slice A0 ks.length c0, .slice A1 vs.length c1, .slice A2 kd.length c2]] w fun e w' => e = .returned (.bool b) ∧ Below w.heap.size w w' := by
  have f := fewB_iff.1 hf
  have := rright_any A0 ks c0 A1 vs c1 A2 kd c2 w h (by omega) (by omega) (by omega)
  rw [hb] at this
  exact this
theorem layok_in (h : NodeIn w A0 ks c0 A1 vs c1 A2 kd c2) (hf : fewB ks vs kd = true) (hb : nodeB ks vs kd = true) : Calls Tryd.prog 16 #[.agg #[.slice A0 ks.length c0, .slice A1 vs.length c1, .slice A2 kd.length c2]] w fun e w' => e = .returned (.tuple #[.string (layS ks vs kd), .nilIface]) ∧ Below w.heap.size w w' := by
  have f := fewB_iff.1 hf
  exact lay_ok A0 ks c0 A1 vs c1 A2 kd c2 w h.k h.v h.d (by omega) (by omega) (by omega) hb
theorem right_in (h : NodeIn w A0 ks c0 A1 vs c1 A2 kd c2) (hf : fewB ks vs kd = true) (b : Bool) (hb : nodeB ks vs kd = b) : Calls Tryd.prog 20 #[.agg #[.slice A0 ks.length c0, .slice A1 vs.length c1, .slice A2 kd.length c2]] w fun e w' => e = .returned (.bool b) ∧ Below w.heap.size w w' := by
  have f := fewB_iff.1 hf
  have := right_any A0 ks c0 A1 vs c1 A2 kd c2 w h.k h.v h.d (by omega) (by omega) (by omega)
  rw [hb] at this
  exact this
end
/-- the two variables' cells behind what leaves them -/
theorem box2 {w W' : World} {u0 u1 u2 v0 v1 v2 : Value} {t t' : TypeId} (hb : Below ((w.alloc (.cells #[u0, u1, u2] t)).alloc (.cells #[v0, v1, v2] t')).heap.size ((w.alloc (.cells #[u0, u1, u2] t)).alloc (.cells #[v0, v1, v2] t')) W') :
    (W'.cell? ⟨w.heap.size, 0, none⟩ = some u0 ∧ W'.cell? ⟨w.heap.size, 1, none⟩ = some u1 ∧ W'.cell? ⟨w.heap.size, 2, none⟩ = some u2) ∧ (W'.cell? ⟨w.heap.size + 1, 0, none⟩ = some v0 ∧ W'.cell? ⟨w.heap.size + 1, 1, none⟩ = some v1 ∧ W'.cell? ⟨w.heap.size + 1, 2, none⟩ = some v2) := by
  refine ⟨⟨(hb.cell (by simp; omega)).trans ?_, (hb.cell (by simp; omega)).trans ?_, (hb.cell (by simp; omega)).trans ?_⟩, (hb.cell (by simp)).trans ?_, (hb.cell (by simp)).trans ?_, (hb.cell (by simp)).trans ?_⟩ <;> simp
set_option maxHeartbeats 800000 in
set_option maxRecDepth 100000 in
theorem unlike_a (A0 : Option Addr) (ks : List Int) (c0 : Nat) (A1 : Option Addr) (vs : List ByteArray) (c1 : Nat) (A2 : Option Addr) (kd : List Int) (c2 : Nat) (B0 : Option Addr) (ks' : List Int) (d0 : Nat) (B1 : Option Addr) (vs' : List ByteArray) (d1 : Nat) (B2 : Option Addr) (kd' : List Int) (d2 : Nat) (w : World) (ha : NodeIn w A0 ks c0 A1 vs c1 A2 kd c2) (hb : NodeIn w B0 ks' d0 B1 vs' d1 B2 kd' d2) (tied : Tied w) (fa : fewB ks vs kd = false) :
    Calls Tryd.prog 3 #[.agg #[.slice A0 ks.length c0, .slice A1 vs.length c1, .slice A2 kd.length c2], .agg #[.slice B0 ks'.length d0, .slice B1 vs'.length d1, .slice B2 kd'.length d2]] w fun e w' => e = .returned (.bool true) ∧ Below w.heap.size w w' := by
  have HNa := Lib.hid fa
  clear fa
  have Ha := Lib.hid ha
  have Hb := Lib.hid hb
  have HB0 : Hid (Below w.heap.size w ((w.alloc (.cells #[.slice A0 ks.length c0, .slice A1 vs.length c1, .slice A2 kd.length c2] 25)).alloc (.cells #[.slice B0 ks'.length d0, .slice B1 vs'.length d1, .slice B2 kd'.length d2] 25))) := Lib.hid (((Below.refl _ _).alloc (Nat.le_refl _) _).alloc (by simp) _)
  clear ha hb tied
  go_enter Tryd.func3, Tryd.ntmps3
  go_wp2_with fail
  refine (node_awake _).mono ?_
  rintro e w1 ⟨rfl, hb⟩
  have HB1 := Lib.hid (hb)
  obtain ⟨⟨x0, x1, x2⟩, y0, y1, y2⟩ := box2 HB1.out
  clear hb
  go_wp2_with fail
  refine (few_no A0 ks c0 A1 vs c1 A2 kd c2 _ (Ha.out.below (HB0.out.trans (HB1.out.mono (by simp; omega)))) HNa.out).mono ?_
  rintro e w2 ⟨rfl, hb⟩
  have HB2 := Lib.hid (HB1.out.trans (hb.mono HB1.out.size))
  obtain ⟨⟨x0, x1, x2⟩, y0, y1, y2⟩ := box2 HB2.out
  clear hb
  go_wp2_with fail
  refine (node_awake _).mono ?_
  rintro e w3 ⟨rfl, hb⟩
  have HB3 := Lib.hid (HB2.out.trans (hb.mono HB2.out.size))
  obtain ⟨⟨x0, x1, x2⟩, y0, y1, y2⟩ := box2 HB3.out
  clear hb
  go_wp2_with fail
  go_ret
  exact ⟨rfl, (HB0.out.trans (HB3.out.mono (by simp; omega)))⟩
set_option maxHeartbeats 800000 in
set_option maxRecDepth 100000 in
theorem unlike_b (A0 : Option Addr) (ks : List Int) (c0 : Nat) (A1 : Option Addr) (vs : List ByteArray) (c1 : Nat) (A2 : Option Addr) (kd : List Int) (c2 : Nat) (B0 : Option Addr) (ks' : List Int) (d0 : Nat) (B1 : Option Addr) (vs' : List ByteArray) (d1 : Nat) (B2 : Option Addr) (kd' : List Int) (d2 : Nat) (w : World) (ha : NodeIn w A0 ks c0 A1 vs c1 A2 kd c2) (hb : NodeIn w B0 ks' d0 B1 vs' d1 B2 kd' d2) (tied : Tied w) (fa : fewB ks vs kd = true) (fb : fewB ks' vs' kd' = false) :
    Calls Tryd.prog 3 #[.agg #[.slice A0 ks.length c0, .slice A1 vs.length c1, .slice A2 kd.length c2], .agg #[.slice B0 ks'.length d0, .slice B1 vs'.length d1, .slice B2 kd'.length d2]] w fun e w' => e = .returned (.bool true) ∧ Below w.heap.size w w' := by
  have HFa := Lib.hid fa
  have HNb := Lib.hid fb
  clear fa fb
  have Ha := Lib.hid ha
  have Hb := Lib.hid hb
  have HB0 : Hid (Below w.heap.size w ((w.alloc (.cells #[.slice A0 ks.length c0, .slice A1 vs.length c1, .slice A2 kd.length c2] 25)).alloc (.cells #[.slice B0 ks'.length d0, .slice B1 vs'.length d1, .slice B2 kd'.length d2] 25))) := Lib.hid (((Below.refl _ _).alloc (Nat.le_refl _) _).alloc (by simp) _)
  clear ha hb tied
  go_enter Tryd.func3, Tryd.ntmps3
  go_wp2_with fail
  refine (node_awake _).mono ?_
  rintro e w1 ⟨rfl, hb⟩
  have HB1 := Lib.hid (hb)
  obtain ⟨⟨x0, x1, x2⟩, y0, y1, y2⟩ := box2 HB1.out
  clear hb
  go_wp2_with fail
  refine (few_yes A0 ks c0 A1 vs c1 A2 kd c2 _ (Ha.out.below (HB0.out.trans (HB1.out.mono (by simp; omega)))) HFa.out).mono ?_
  rintro e w2 ⟨rfl, hb⟩
  have HB2 := Lib.hid (HB1.out.trans (hb.mono HB1.out.size))
  obtain ⟨⟨x0, x1, x2⟩, y0, y1, y2⟩ := box2 HB2.out
  clear hb
  go_wp2_with fail
  refine (few_no B0 ks' d0 B1 vs' d1 B2 kd' d2 _ (Hb.out.below (HB0.out.trans (HB2.out.mono (by simp; omega)))) HNb.out).mono ?_
  rintro e w3 ⟨rfl, hb⟩
  have HB3 := Lib.hid (HB2.out.trans (hb.mono HB2.out.size))
  obtain ⟨⟨x0, x1, x2⟩, y0, y1, y2⟩ := box2 HB3.out
  clear hb
  go_wp2_with fail
  refine (node_awake _).mono ?_
  rintro e w4 ⟨rfl, hb⟩
  have HB4 := Lib.hid (HB3.out.trans (hb.mono HB3.out.size))
  obtain ⟨⟨x0, x1, x2⟩, y0, y1, y2⟩ := box2 HB4.out
  clear hb
  go_wp2_with fail
  go_ret
  exact ⟨rfl, (HB0.out.trans (HB4.out.mono (by simp; omega)))⟩
set_option maxHeartbeats 800000 in
set_option maxRecDepth 100000 in
theorem unlike_c (A0 : Option Addr) (ks : List Int) (c0 : Nat) (A1 : Option Addr) (vs : List ByteArray) (c1 : Nat) (A2 : Option Addr) (kd : List Int) (c2 : Nat) (B0 : Option Addr) (ks' : List Int) (d0 : Nat) (B1 : Option Addr) (vs' : List ByteArray) (d1 : Nat) (B2 : Option Addr) (kd' : List Int) (d2 : Nat) (w : World) (ha : NodeIn w A0 ks c0 A1 vs c1 A2 kd c2) (hb : NodeIn w B0 ks' d0 B1 vs' d1 B2 kd' d2) (tied : Tied w) (fa : fewB ks vs kd = true) (fb : fewB ks' vs' kd' = true) (ra : nodeB ks vs kd = false) :
    Calls Tryd.prog 3 #[.agg #[.slice A0 ks.length c0, .slice A1 vs.length c1, .slice A2 kd.length c2], .agg #[.slice B0 ks'.length d0, .slice B1 vs'.length d1, .slice B2 kd'.length d2]] w fun e w' => e = .returned (.bool true) ∧ Below w.heap.size w w' := by
  have HFa := Lib.hid fa
  have HFb := Lib.hid fb
  have HRa := Lib.hid ra
  clear fa fb ra
  have Ha := Lib.hid ha
  have Hb := Lib.hid hb
  have HB0 : Hid (Below w.heap.size w ((w.alloc (.cells #[.slice A0 ks.length c0, .slice A1 vs.length c1, .slice A2 kd.length c2] 25)).alloc (.cells #[.slice B0 ks'.length d0, .slice B1 vs'.length d1, .slice B2 kd'.length d2] 25))) := Lib.hid (((Below.refl _ _).alloc (Nat.le_refl _) _).alloc (by simp) _)
  clear ha hb tied
  go_enter Tryd.func3, Tryd.ntmps3
  go_wp2_with fail
  refine (node_awake _).mono ?_
  rintro e w1 ⟨rfl, hb⟩
  have HB1 := Lib.hid (hb)
  obtain ⟨⟨x0, x1, x2⟩, y0, y1, y2⟩ := box2 HB1.out
  clear hb
  go_wp2_with fail
  refine (few_yes A0 ks c0 A1 vs c1 A2 kd c2 _ (Ha.out.below (HB0.out.trans (HB1.out.mono (by simp; omega)))) HFa.out).mono ?_
  rintro e w2 ⟨rfl, hb⟩
  have HB2 := Lib.hid (HB1.out.trans (hb.mono HB1.out.size))
  obtain ⟨⟨x0, x1, x2⟩, y0, y1, y2⟩ := box2 HB2.out
  clear hb
  go_wp2_with fail
  refine (few_yes B0 ks' d0 B1 vs' d1 B2 kd' d2 _ (Hb.out.below (HB0.out.trans (HB2.out.mono (by simp; omega)))) HFb.out).mono ?_
  rintro e w3 ⟨rfl, hb⟩
  have HB3 := Lib.hid (HB2.out.trans (hb.mono HB2.out.size))
  obtain ⟨⟨x0, x1, x2⟩, y0, y1, y2⟩ := box2 HB3.out
  clear hb
  go_wp2_with fail
  refine (rright_is A0 ks c0 A1 vs c1 A2 kd c2 _ (Ha.out.below (HB0.out.trans (HB3.out.mono (by simp; omega)))) HFa.out false HRa.out).mono ?_
  rintro e w4 ⟨rfl, hb⟩
  have HB4 := Lib.hid (HB3.out.trans (hb.mono HB3.out.size))
  obtain ⟨⟨x0, x1, x2⟩, y0, y1, y2⟩ := box2 HB4.out
  clear hb
  go_wp2_with fail
  refine (node_awake _).mono ?_
  rintro e w5 ⟨rfl, hb⟩
  have HB5 := Lib.hid (HB4.out.trans (hb.mono HB4.out.size))
  obtain ⟨⟨x0, x1, x2⟩, y0, y1, y2⟩ := box2 HB5.out
  clear hb
  go_wp2_with fail
  go_ret
  exact ⟨rfl, (HB0.out.trans (HB5.out.mono (by simp; omega)))⟩
set_option maxHeartbeats 800000 in
set_option maxRecDepth 100000 in
theorem unlike_d (A0 : Option Addr) (ks : List Int) (c0 : Nat) (A1 : Option Addr) (vs : List ByteArray) (c1 : Nat) (A2 : Option Addr) (kd : List Int) (c2 : Nat) (B0 : Option Addr) (ks' : List Int) (d0 : Nat) (B1 : Option Addr) (vs' : List ByteArray) (d1 : Nat) (B2 : Option Addr) (kd' : List Int) (d2 : Nat) (w : World) (ha : NodeIn w A0 ks c0 A1 vs c1 A2 kd c2) (hb : NodeIn w B0 ks' d0 B1 vs' d1 B2 kd' d2) (tied : Tied w) (fa : fewB ks vs kd = true) (fb : fewB ks' vs' kd' = true) (ra : nodeB ks vs kd = true) (rb : nodeB ks' vs' kd' = false) :
    Calls Tryd.prog 3 #[.agg #[.slice A0 ks.length c0, .slice A1 vs.length c1, .slice A2 kd.length c2], .agg #[.slice B0 ks'.length d0, .slice B1 vs'.length d1, .slice B2 kd'.length d2]] w fun e w' => e = .returned (.bool true) ∧ Below w.heap.size w w' := by
  have HFa := Lib.hid fa
  have HFb := Lib.hid fb
  have HRa := Lib.hid ra
  have HRb := Lib.hid rb
  clear fa fb ra rb
  have Ha := Lib.hid ha
  have Hb := Lib.hid hb
  have HB0 : Hid (Below w.heap.size w ((w.alloc (.cells #[.slice A0 ks.length c0, .slice A1 vs.length c1, .slice A2 kd.length c2] 25)).alloc (.cells #[.slice B0 ks'.length d0, .slice B1 vs'.length d1, .slice B2 kd'.length d2] 25))) := Lib.hid (((Below.refl _ _).alloc (Nat.le_refl _) _).alloc (by simp) _)
  clear ha hb tied
  go_enter Tryd.func3, Tryd.ntmps3
  go_wp2_with fail
  refine (node_awake _).mono ?_
  rintro e w1 ⟨rfl, hb⟩
  have HB1 := Lib.hid (hb)
  obtain ⟨⟨x0, x1, x2⟩, y0, y1, y2⟩ := box2 HB1.out
  clear hb
  go_wp2_with fail
  refine (few_yes A0 ks c0 A1 vs c1 A2 kd c2 _ (Ha.out.below (HB0.out.trans (HB1.out.mono (by simp; omega)))) HFa.out).mono ?_
  rintro e w2 ⟨rfl, hb⟩
  have HB2 := Lib.hid (HB1.out.trans (hb.mono HB1.out.size))
  obtain ⟨⟨x0, x1, x2⟩, y0, y1, y2⟩ := box2 HB2.out
  clear hb
  go_wp2_with fail
  refine (few_yes B0 ks' d0 B1 vs' d1 B2 kd' d2 _ (Hb.out.below (HB0.out.trans (HB2.out.mono (by simp; omega)))) HFb.out).mono ?_
  rintro e w3 ⟨rfl, hb⟩
  have HB3 := Lib.hid (HB2.out.trans (hb.mono HB2.out.size))
  obtain ⟨⟨x0, x1, x2⟩, y0, y1, y2⟩ := box2 HB3.out
  clear hb
  go_wp2_with fail
  refine (rright_is A0 ks c0 A1 vs c1 A2 kd c2 _ (Ha.out.below (HB0.out.trans (HB3.out.mono (by simp; omega)))) HFa.out true HRa.out).mono ?_
  rintro e w4 ⟨rfl, hb⟩
  have HB4 := Lib.hid (HB3.out.trans (hb.mono HB3.out.size))
  obtain ⟨⟨x0, x1, x2⟩, y0, y1, y2⟩ := box2 HB4.out
  clear hb
  go_wp2_with fail
  refine (rright_is B0 ks' d0 B1 vs' d1 B2 kd' d2 _ (Hb.out.below (HB0.out.trans (HB4.out.mono (by simp; omega)))) HFb.out false HRb.out).mono ?_
  rintro e w5 ⟨rfl, hb⟩
  have HB5 := Lib.hid (HB4.out.trans (hb.mono HB4.out.size))
  obtain ⟨⟨x0, x1, x2⟩, y0, y1, y2⟩ := box2 HB5.out
  clear hb
  go_wp2_with fail
  refine (node_awake _).mono ?_
  rintro e w6 ⟨rfl, hb⟩
  have HB6 := Lib.hid (HB5.out.trans (hb.mono HB5.out.size))
  obtain ⟨⟨x0, x1, x2⟩, y0, y1, y2⟩ := box2 HB6.out
  clear hb
  go_wp2_with fail
  go_ret
  exact ⟨rfl, (HB0.out.trans (HB6.out.mono (by simp; omega)))⟩
set_option maxHeartbeats 2000000 in
set_option maxRecDepth 100000 in
theorem unlike_e (A0 : Option Addr) (ks : List Int) (c0 : Nat) (A1 : Option Addr) (vs : List ByteArray) (c1 : Nat) (A2 : Option Addr) (kd : List Int) (c2 : Nat) (B0 : Option Addr) (ks' : List Int) (d0 : Nat) (B1 : Option Addr) (vs' : List ByteArray) (d1 : Nat) (B2 : Option Addr) (kd' : List Int) (d2 : Nat) (w : World) (ha : NodeIn w A0 ks c0 A1 vs c1 A2 kd c2) (hb : NodeIn w B0 ks' d0 B1 vs' d1 B2 kd' d2) (tied : Tied w) (fa : fewB ks vs kd = true) (fb : fewB ks' vs' kd' = true) (ra : nodeB ks vs kd = true) (rb : nodeB ks' vs' kd' = true) :
    Calls Tryd.prog 3 #[.agg #[.slice A0 ks.length c0, .slice A1 vs.length c1, .slice A2 kd.length c2], .agg #[.slice B0 ks'.length d0, .slice B1 vs'.length d1, .slice B2 kd'.length d2]] w fun e w' => e = .returned (.bool true) ∧ Below w.heap.size w w' := by
  have HFa := Lib.hid fa
  have HFb := Lib.hid fb
  have HRa := Lib.hid ra
  have HRb := Lib.hid rb
  clear fa fb ra rb
  have HI := Lib.hid (lay_inj HRa.out HRb.out)
  have HS : Hid (sameB ks vs kd ks' vs' kd' = true → layS ks vs kd = layS ks' vs' kd') := Lib.hid (fun h => by
    obtain ⟨rfl, rfl, rfl⟩ := sameB_iff.1 h; rfl)
  have Ha := Lib.hid ha
  have Hb := Lib.hid hb
  have HB0 : Hid (Below w.heap.size w ((w.alloc (.cells #[.slice A0 ks.length c0, .slice A1 vs.length c1, .slice A2 kd.length c2] 25)).alloc (.cells #[.slice B0 ks'.length d0, .slice B1 vs'.length d1, .slice B2 kd'.length d2] 25))) := Lib.hid (((Below.refl _ _).alloc (Nat.le_refl _) _).alloc (by simp) _)
  clear ha hb tied
  go_enter Tryd.func3, Tryd.ntmps3
  go_wp2_with fail
  refine (node_awake _).mono ?_
  rintro e w1 ⟨rfl, hb⟩
  have HB1 := Lib.hid (hb)
  obtain ⟨⟨x0, x1, x2⟩, y0, y1, y2⟩ := box2 HB1.out
  clear hb
  go_wp2_with fail
  refine (few_yes A0 ks c0 A1 vs c1 A2 kd c2 _ (Ha.out.below (HB0.out.trans (HB1.out.mono (by simp; omega)))) HFa.out).mono ?_
  rintro e w2 ⟨rfl, hb⟩
  have HB2 := Lib.hid (HB1.out.trans (hb.mono HB1.out.size))
  obtain ⟨⟨x0, x1, x2⟩, y0, y1, y2⟩ := box2 HB2.out
  clear hb
  go_wp2_with fail
  refine (few_yes B0 ks' d0 B1 vs' d1 B2 kd' d2 _ (Hb.out.below (HB0.out.trans (HB2.out.mono (by simp; omega)))) HFb.out).mono ?_
  rintro e w3 ⟨rfl, hb⟩
  have HB3 := Lib.hid (HB2.out.trans (hb.mono HB2.out.size))
  obtain ⟨⟨x0, x1, x2⟩, y0, y1, y2⟩ := box2 HB3.out
  clear hb
  go_wp2_with fail
  refine (rright_is A0 ks c0 A1 vs c1 A2 kd c2 _ (Ha.out.below (HB0.out.trans (HB3.out.mono (by simp; omega)))) HFa.out true HRa.out).mono ?_
  rintro e w4 ⟨rfl, hb⟩
  have HB4 := Lib.hid (HB3.out.trans (hb.mono HB3.out.size))
  obtain ⟨⟨x0, x1, x2⟩, y0, y1, y2⟩ := box2 HB4.out
  clear hb
  go_wp2_with fail
  refine (rright_is B0 ks' d0 B1 vs' d1 B2 kd' d2 _ (Hb.out.below (HB0.out.trans (HB4.out.mono (by simp; omega)))) HFb.out true HRb.out).mono ?_
  rintro e w5 ⟨rfl, hb⟩
  have HB5 := Lib.hid (HB4.out.trans (hb.mono HB4.out.size))
  obtain ⟨⟨x0, x1, x2⟩, y0, y1, y2⟩ := box2 HB5.out
  clear hb
  go_wp2_with fail
  refine (of_call A0 ks c0 A1 vs c1 A2 kd c2 _).mono ?_
  rintro e w6 ⟨rfl, hb⟩
  have HB6 := Lib.hid (HB5.out.trans (hb.mono HB5.out.size))
  obtain ⟨⟨x0, x1, x2⟩, y0, y1, y2⟩ := box2 HB6.out
  clear hb
  go_wp2_with fail
  refine (layok_in A0 ks c0 A1 vs c1 A2 kd c2 _ (Ha.out.below (HB0.out.trans (HB6.out.mono (by simp; omega)))) HFa.out HRa.out).mono ?_
  rintro e w7 ⟨rfl, hb⟩
  have HB7 := Lib.hid (HB6.out.trans (hb.mono HB6.out.size))
  obtain ⟨⟨x0, x1, x2⟩, y0, y1, y2⟩ := box2 HB7.out
  clear hb
  go_wp2_with fail
  refine (of_call B0 ks' d0 B1 vs' d1 B2 kd' d2 _).mono ?_
  rintro e w8 ⟨rfl, hb⟩
  have HB8 := Lib.hid (HB7.out.trans (hb.mono HB7.out.size))
  obtain ⟨⟨x0, x1, x2⟩, y0, y1, y2⟩ := box2 HB8.out
  clear hb
  go_wp2_with fail
  refine (layok_in B0 ks' d0 B1 vs' d1 B2 kd' d2 _ (Hb.out.below (HB0.out.trans (HB8.out.mono (by simp; omega)))) HFb.out HRb.out).mono ?_
  rintro e w9 ⟨rfl, hb⟩
  have HB9 := Lib.hid (HB8.out.trans (hb.mono HB8.out.size))
  obtain ⟨⟨x0, x1, x2⟩, y0, y1, y2⟩ := box2 HB9.out
  clear hb
  have HSt := Lib.hid (show ∀ w', KF w9 w' → (w'.cell? ⟨w.heap.size, 0, none⟩ = some (.slice A0 ks.length c0) ∧ w'.cell? ⟨w.heap.size, 1, none⟩ = some (.slice A1 vs.length c1) ∧ w'.cell? ⟨w.heap.size, 2, none⟩ = some (.slice A2 kd.length c2)) ∧ (w'.cell? ⟨w.heap.size + 1, 0, none⟩ = some (.slice B0 ks'.length d0) ∧ w'.cell? ⟨w.heap.size + 1, 1, none⟩ = some (.slice B1 vs'.length d1) ∧ w'.cell? ⟨w.heap.size + 1, 2, none⟩ = some (.slice B2 kd'.length d2)) ∧ KF w9 w' from fun w' h => by
    have hh := box2 (HB9.out.trans (Below.mono h HB9.out.size))
    exact ⟨hh.1, hh.2, h⟩)
  have HSf := Lib.hid (show ∀ w', ((w'.cell? ⟨w.heap.size, 0, none⟩ = some (.slice A0 ks.length c0) ∧ w'.cell? ⟨w.heap.size, 1, none⟩ = some (.slice A1 vs.length c1) ∧ w'.cell? ⟨w.heap.size, 2, none⟩ = some (.slice A2 kd.length c2)) ∧ (w'.cell? ⟨w.heap.size + 1, 0, none⟩ = some (.slice B0 ks'.length d0) ∧ w'.cell? ⟨w.heap.size + 1, 1, none⟩ = some (.slice B1 vs'.length d1) ∧ w'.cell? ⟨w.heap.size + 1, 2, none⟩ = some (.slice B2 kd'.length d2)) ∧ KF w9 w') → KF w9 w' from fun w' h => h.2.2)
  have HNa : Hid (∀ w', KF w9 w' → NodeIn w' A0 ks c0 A1 vs c1 A2 kd c2) := Lib.hid (fun w' h => (Ha.out.below (HB0.out.trans (HB9.out.mono (by simp; omega)))).below h)
  have HNb : Hid (∀ w', KF w9 w' → NodeIn w' B0 ks' d0 B1 vs' d1 B2 kd' d2) := Lib.hid (fun w' h => (Hb.out.below (HB0.out.trans (HB9.out.mono (by simp; omega)))).below h)
  have HBw := Lib.hid (HB0.out.trans (HB9.out.mono (by simp; omega)))
  have f1 := (fewB_iff.1 HFa.out)
  have HL := Lib.hid (show ks.length ≤ 1000 ∧ vs.length ≤ 1000 ∧ kd.length ≤ 1000 by omega)
  clear f1
  obtain ⟨s, hs⟩ : ∃ q, q = layS ks vs kd := ⟨_, rfl⟩
  obtain ⟨t, ht⟩ : ∃ q, q = layS ks' vs' kd' := ⟨_, rfl⟩
  rw [← hs, ← ht] at HS HI ⊢
  clear hs ht
  cases hsm : sameB ks vs kd ks' vs' kd' with
  | true =>
    have HSm : Hid (∀ w', NodeIn w' A0 ks c0 A1 vs c1 A2 kd c2 → NodeIn w' B0 ks' d0 B1 vs' d1 B2 kd' d2 → Calls Tryd.prog 19 #[.agg #[.slice A0 ks.length c0, .slice A1 vs.length c1, .slice A2 kd.length c2], .agg #[.slice B0 ks'.length d0, .slice B1 vs'.length d1, .slice B2 kd'.length d2]] w' fun e w'' => e = .returned (.int .i64 1) ∧ Below w'.heap.size w' w'') := Lib.hid (fun w' h h' => by
      have := same_any A0 ks c0 A1 vs c1 A2 kd c2 w' B0 ks' d0 B1 vs' d1 B2 kd' d2 h h' HL.out.1 HL.out.2.1 HL.out.2.2
      rw [hsm] at this
      exact this)
    obtain rfl := HS.out hsm
    clear hsm
    go_wp2_with fail
    go_region_held3 (fun w' => (w'.cell? ⟨w.heap.size, 0, none⟩ = some (.slice A0 ks.length c0) ∧ w'.cell? ⟨w.heap.size, 1, none⟩ = some (.slice A1 vs.length c1) ∧ w'.cell? ⟨w.heap.size, 2, none⟩ = some (.slice A2 kd.length c2)) ∧ (w'.cell? ⟨w.heap.size + 1, 0, none⟩ = some (.slice B0 ks'.length d0) ∧ w'.cell? ⟨w.heap.size + 1, 1, none⟩ = some (.slice B1 vs'.length d1) ∧ w'.cell? ⟨w.heap.size + 1, 2, none⟩ = some (.slice B2 kd'.length d2)) ∧ KF w9 w') ((refine HSt.out _ ?_; first | assumption | exact Below.drew (Below.refl _ _))) (first | (go_at_call 18; (with_reducible refine (Num_nil _).mono ?_); rintro e wn ⟨rfl, rfl⟩) | (go_at_call 17; (with_reducible refine (of_call A0 ks c0 A1 vs c1 A2 kd c2 _).mono ?_); rintro e wn ⟨rfl, hb⟩; have hKK := KF.step (HSf.out _ (by assumption)) hb; clear hb) | (go_at_call 19; (with_reducible refine (HSm.out _ (HNa.out _ (HSf.out _ (by assumption))) (HNb.out _ (HSf.out _ (by assumption)))).mono ?_); rintro e wn ⟨rfl, hb⟩; have hKK := KF.step (HSf.out _ (by assumption)) hb; clear hb))
    go_wp2_with fail
    go_ret
    exact ⟨rfl, HBw.out.trans (Below.mono hKK HBw.out.size)⟩
  | false =>
    have HSm : Hid (∀ w', NodeIn w' A0 ks c0 A1 vs c1 A2 kd c2 → NodeIn w' B0 ks' d0 B1 vs' d1 B2 kd' d2 → Calls Tryd.prog 19 #[.agg #[.slice A0 ks.length c0, .slice A1 vs.length c1, .slice A2 kd.length c2], .agg #[.slice B0 ks'.length d0, .slice B1 vs'.length d1, .slice B2 kd'.length d2]] w' fun e w'' => e = .returned (.int .i64 0) ∧ Below w'.heap.size w' w'') := Lib.hid (fun w' h h' => by
      have := same_any A0 ks c0 A1 vs c1 A2 kd c2 w' B0 ks' d0 B1 vs' d1 B2 kd' d2 h h' HL.out.1 HL.out.2.1 HL.out.2.2
      rw [hsm] at this
      exact this)
    have hne : s ≠ t := fun e => by
      have := sameB_iff.2 (HI.out e)
      rw [hsm] at this; cases this
    have hne1 : ¬ s.toList = t.toList := fun e => hne (bytes_ext e)
    have hne2 : (s.toList == t.toList) = false := by rw [beq_eq_false_iff_ne]; exact hne1
    have hne3 : decide (s.toList = t.toList) = false := decide_eq_false hne1
    clear hsm
    go_wp2_with fail
    go_region_held3 (fun w' => (w'.cell? ⟨w.heap.size, 0, none⟩ = some (.slice A0 ks.length c0) ∧ w'.cell? ⟨w.heap.size, 1, none⟩ = some (.slice A1 vs.length c1) ∧ w'.cell? ⟨w.heap.size, 2, none⟩ = some (.slice A2 kd.length c2)) ∧ (w'.cell? ⟨w.heap.size + 1, 0, none⟩ = some (.slice B0 ks'.length d0) ∧ w'.cell? ⟨w.heap.size + 1, 1, none⟩ = some (.slice B1 vs'.length d1) ∧ w'.cell? ⟨w.heap.size + 1, 2, none⟩ = some (.slice B2 kd'.length d2)) ∧ KF w9 w') ((refine HSt.out _ ?_; first | assumption | exact Below.drew (Below.refl _ _))) (first | (go_at_call 18; (with_reducible refine (Num_nil _).mono ?_); rintro e wn ⟨rfl, rfl⟩) | (go_at_call 17; (with_reducible refine (of_call A0 ks c0 A1 vs c1 A2 kd c2 _).mono ?_); rintro e wn ⟨rfl, hb⟩; have hKK := KF.step (HSf.out _ (by assumption)) hb; clear hb) | (go_at_call 19; (with_reducible refine (HSm.out _ (HNa.out _ (HSf.out _ (by assumption))) (HNb.out _ (HSf.out _ (by assumption)))).mono ?_); rintro e wn ⟨rfl, hb⟩; have hKK := KF.step (HSf.out _ (by assumption)) hb; clear hb))
    go_wp2_with fail
    go_ret
    exact ⟨rfl, HBw.out.trans (Below.mono hKK HBw.out.size)⟩
end Go.Proofs.YtbiijkpffllimaaDoor
namespace Go.Proofs.YtbiijkpffllimaaDoor
open Go.RowKit Go.Extern.Stop Go.Stop Go.Extern Go.Proofs.YtbiijkpffllimaaDoorW.PrintWords Go.Proofs.YtbiijkpffllimaaDoorW.PrintLast Go.Proofs.YtbiijkpffllimaaDoorW.PrintMore Go.Proofs.YtbiijkpffllimaaDoor.PNodeUnlike
set_option linter.unusedVariables false
set_option linter.unusedSimpArgs false

structure RisP (ks : List Int) : Prop where
  l : ks.length ≤ 7
  k : ∀ j, j < ks.length → okK ks j = true
theorem risB_iff {ks : List Int} : risB ks = true ↔ RisP ks := by
  unfold risB
  rw [Bool.and_eq_true, allN_all, decide_eq_true_eq]
  exact ⟨fun ⟨a, b⟩ => ⟨b, a⟩, fun ⟨a, b⟩ => ⟨b, a⟩⟩
theorem leaf_iff {ks : List Int} {vs : List ByteArray} : nodeB ks vs [] = true ↔ RisP ks ∧ (∀ j, j < vs.length → val12 vs j = true) ∧ vs.length = ks.length := by
  unfold nodeB
  rw [Bool.and_eq_true, risB_iff, if_pos (show ([] : List Int).length = 0 from rfl), Bool.and_eq_true, decide_eq_true_eq]
  unfold valsB
  rw [allN_all]
theorem inner_iff {ks : List Int} {vs : List ByteArray} {kd : List Int} (h : kd.length ≠ 0) : nodeB ks vs kd = true ↔ RisP ks ∧ (∀ j, j < kd.length → kidK kd j = true) ∧ vs.length = 0 ∧ 1 ≤ ks.length ∧ kd.length = ks.length + 1 := by
  unfold nodeB
  rw [Bool.and_eq_true, risB_iff, if_neg h, Bool.and_eq_true, decide_eq_true_eq]
  unfold kidsB
  rw [allN_all]
theorem rd_take {l : List Int} {m j : Nat} (hj : j < m) (hm : m ≤ l.length) : rd (l.take m) (j : Int) = rd l (j : Int) := by
  rw [rd_at _ j (by rw [List.length_take]; omega), rd_at l j (by omega), List.getElem_take]
theorem rd_drop {l : List Int} {m j : Nat} (hj : m + j < l.length) : rd (l.drop m) (j : Int) = rd l ((m + j : Nat) : Int) := by
  rw [rd_at _ j (by rw [List.length_drop]; omega), rd_at l (m + j) hj, List.getElem_drop]
theorem ris_take {ks : List Int} (h : RisP ks) {q : Nat} (hq : q ≤ ks.length) : RisP (ks.take q) := by
  have hl : (ks.take q).length = q := by rw [List.length_take]; omega
  refine ⟨by have := h.l; omega, fun j hj => ?_⟩
  have := of_decide_eq_true (h.k j (by omega))
  refine okK_true ?_
  rw [rd_take (by omega) hq]
  refine ⟨this.1, this.2.1, fun h0 => ?_⟩
  rw [rd_take (by omega) hq]
  exact this.2.2 h0
theorem ris_drop {ks : List Int} (h : RisP ks) {q : Nat} (hq : q ≤ ks.length) : RisP (ks.drop q) := by
  have hl : (ks.drop q).length = ks.length - q := List.length_drop
  refine ⟨by have := h.l; omega, fun j hj => ?_⟩
  have := of_decide_eq_true (h.k (q + j) (by omega))
  refine okK_true ?_
  rw [rd_drop (by omega)]
  refine ⟨this.1, this.2.1, fun h0 => ?_⟩
  rw [rd_drop (by omega), show q + (j - 1) = q + j - 1 by omega]
  exact this.2.2 (by omega)
theorem val_take {vs : List ByteArray} {m j : Nat} (hj : j < m) (hm : m ≤ vs.length) : val12 (vs.take m) j = val12 vs j := by
  unfold val12
  rw [rdOf_at _ j (by rw [List.length_take]; omega), rdOf_at vs j (by omega), List.getElem_take]
theorem val_drop {vs : List ByteArray} {m j : Nat} (hj : m + j < vs.length) : val12 (vs.drop m) j = val12 vs (m + j) := by
  unfold val12
  rw [rdOf_at _ j (by rw [List.length_drop]; omega), rdOf_at vs (m + j) hj, List.getElem_drop]
theorem kid_take {kd : List Int} {m j : Nat} (hj : j < m) (hm : m ≤ kd.length) : kidK (kd.take m) j = kidK kd j := by
  unfold kidK
  rw [rd_take hj hm]
  congr 1
  rw [Bool.eq_iff_iff, allN_all, allN_all]
  have e : ∀ i, i < j → freshK (kd.take m) j i = freshK kd j i := fun i hi => by unfold freshK; rw [rd_take hj hm, rd_take (by omega) hm]
  exact ⟨fun h i hi => by rw [← e i hi]; exact h i hi, fun h i hi => by rw [e i hi]; exact h i hi⟩
theorem info_int : (Tryd.prog.info? 3).map (fun i => (i.zero, i.size, i.bytes)) = some (some (.int .i64 0), 1, 8) := by kernel_rfl
theorem info_str : (Tryd.prog.info? 9).map (fun i => (i.zero, i.size, i.bytes)) = some (some (.string ⟨#[]⟩), 1, 16) := by kernel_rfl
end Go.Proofs.YtbiijkpffllimaaDoor
namespace Go.Proofs.YtbiijkpffllimaaDoor
open Go.RowKit Go.Extern.Stop Go.Stop Go.Extern Go.Proofs.YtbiijkpffllimaaDoorW.PrintWords Go.Proofs.YtbiijkpffllimaaDoorW.PrintLast Go.Proofs.YtbiijkpffllimaaDoorW.PrintMore Go.Proofs.YtbiijkpffllimaaDoor.PNodeUnlike
set_option linter.unusedVariables false
set_option linter.unusedSimpArgs false

/-- the data that are left, and whether there were enough, in the closures' variables -/
structure DatIn (w : World) (Bd Bo : Nat) (st : St) : Prop where
  c0 : w.cell? ⟨Bd, 0, none⟩ = some (.string st.1)
  f0 : w.frozen? ⟨Bd, 0, none⟩ = false
  c1 : w.cell? ⟨Bo, 0, none⟩ = some (.bool st.2)
  f1 : w.frozen? ⟨Bo, 0, none⟩ = false
  ne : Bd ≠ Bo
  z : st.1.size ≤ 1000000
theorem DatIn.keep {S : Nat → Prop} {w w' : World} {Bd Bo : Nat} {st : St} (h : DatIn w Bd Bo st) (ht : Touch S w w') (h0 : ¬ S Bd) (h1 : ¬ S Bo) : DatIn w' Bd Bo st :=
  ⟨ht.cell h.c0 h0, by rw [World.frozen?_of_block (ht.block Bd (cell_lt h.c0) h0)]; exact h.f0, ht.cell h.c1 h1, by rw [World.frozen?_of_block (ht.block Bo (cell_lt h.c1) h1)]; exact h.f1, h.ne, h.z⟩
theorem DatIn.under {w w' : World} {Bd Bo : Nat} {st : St} (h : DatIn w Bd Bo st) (hb : Below w.heap.size w w') : DatIn w' Bd Bo st :=
  h.keep (S := fun _ => False) (Touch.of_below hb) (fun h => h) (fun h => h)
def Two (Bd Bo : Nat) : Nat → Prop := fun b => b = Bd ∨ b = Bo
theorem touch_set1 {S : Nat → Prop} (w : World) (b o : Nat) (u : Value) (hb : S b) : Touch S w (w.setCell ⟨b, o, none⟩ u) := Touch.setCells (Touch.refl S w) b (.inl hb) [u] o w (Touch.refl S w)
def TakePost (Bd Bo : Nat) (st' : St) (r : Value) (w : World) (e : Ending) (w' : World) : Prop := e = .returned r ∧ DatIn w' Bd Bo st' ∧ Touch (Two Bd Bo) w w'
theorem take_no (n Bd Bo : Nat) (st : St) (w : World) (h : DatIn w Bd Bo st) (hn : st.1.size < n) :
    Calls Tryd.prog 68 #[.int .i64 (n : Int), .pointer (some ⟨Bd, 0, none⟩), .pointer (some ⟨Bo, 0, none⟩)] w (TakePost Bd Bo (tk n st).2 (.string (tk n st).1) w) := by
  obtain ⟨s, b⟩ := st
  have c0 := h.c0
  have c1 := h.c1
  have f1 := h.f1
  have H := Lib.hid h
  have HT : Hid (tk n (s, b) = (⟨#[]⟩, (s, false))) := Lib.hid (by unfold tk; rw [if_pos hn])
  simp only at c0 c1 hn
  have hz := h.z
  simp only at hz
  have h1 : (s.size : Int) < (n : Int) := by omega
  have h2 : decide (s.size < n) = true := decide_eq_true hn
  clear h hn
  go_enter Tryd.func68, Tryd.ntmps68
  go_wp2
  go_ret
  rw [HT.out]
  exact ⟨rfl, ⟨by rw [World.cell?_setCell_other _ _ _ _ (by have := H.out.ne; simp; try omega)]; exact H.out.c0, by rw [World.frozen?_setCell]; exact H.out.f0, World.cell?_setCell_same _ _ _ H.out.c1, by rw [World.frozen?_setCell]; exact H.out.f1, H.out.ne, H.out.z⟩, touch_set1 _ _ _ _ (.inr rfl)⟩
theorem take_yes (n Bd Bo : Nat) (st : St) (w : World) (h : DatIn w Bd Bo st) (hn : ¬ st.1.size < n) :
    Calls Tryd.prog 68 #[.int .i64 (n : Int), .pointer (some ⟨Bd, 0, none⟩), .pointer (some ⟨Bo, 0, none⟩)] w (TakePost Bd Bo (tk n st).2 (.string (tk n st).1) w) := by
  obtain ⟨s, b⟩ := st
  have c0 := h.c0
  have f0 := h.f0
  have H := Lib.hid h
  have HT : Hid (tk n (s, b) = (s.extract 0 n, (s.extract n s.size, b))) := Lib.hid (by unfold tk; rw [if_neg hn])
  simp only at c0 hn
  have hz := h.z
  simp only at hz
  have h1 : ¬ (s.size : Int) < (n : Int) := by omega
  have h2 : decide (s.size < n) = false := decide_eq_false hn
  have h3 : (n : Int) ≤ (s.size : Int) := by omega
  have h4 : n ≤ s.size := by omega
  clear h
  go_enter Tryd.func68, Tryd.ntmps68
  go_wp2
  go_ret
  rw [HT.out]
  exact ⟨rfl, ⟨World.cell?_setCell_same _ _ _ H.out.c0, by rw [World.frozen?_setCell]; exact H.out.f0, by rw [World.cell?_setCell_other _ _ _ _ (by have := H.out.ne; simp; try omega)]; exact H.out.c1, by rw [World.frozen?_setCell]; exact H.out.f1, H.out.ne, by show (s.extract n s.size).size ≤ _; rw [ByteArray.size_extract]; omega⟩, touch_set1 _ _ _ _ (.inl rfl)⟩
theorem take_any (n Bd Bo : Nat) (st : St) (w : World) (h : DatIn w Bd Bo st) :
    Calls Tryd.prog 68 #[.int .i64 (n : Int), .pointer (some ⟨Bd, 0, none⟩), .pointer (some ⟨Bo, 0, none⟩)] w (TakePost Bd Bo (tk n st).2 (.string (tk n st).1) w) := by
  by_cases hn : st.1.size < n
  · exact take_no n Bd Bo st w h hn
  · exact take_yes n Bd Bo st w h hn
theorem tk_len (n : Nat) (st : St) : (tk n st).1.size = if st.1.size < n then 0 else n := by
  unfold tk
  split
  · rfl
  · show (st.1.extract 0 n).size = n
    rw [ByteArray.size_extract]; omega
theorem number_any (n Bd Bo Bt : Nat) (st : St) (w : World) (h : DatIn w Bd Bo st) (hT : w.cell? ⟨Bt, 0, none⟩ = some (.func (.func 68) #[] #[.pointer (some ⟨Bd, 0, none⟩), .pointer (some ⟨Bo, 0, none⟩)])) (hn0 : 1 ≤ n) (hn4 : n ≤ 4) :
    Calls Tryd.prog 69 #[.int .i64 (n : Int), .pointer (some ⟨Bt, 0, none⟩)] w (TakePost Bd Bo (nb n st).2 (.int .i64 (nb n st).1) w) := by
  have HTk := Lib.hid (take_any n Bd Bo st w h)
  have hl := tk_len n st
  have HNb : Hid (nb n st = (if (tk n st).1.size < n then 0 else getK (tk n st).1 n, (tk n st).2)) := Lib.hid rfl
  obtain ⟨r, hr⟩ : ∃ q, q = (tk n st).1 := ⟨_, rfl⟩
  obtain ⟨st', hst⟩ : ∃ q, q = (tk n st).2 := ⟨_, rfl⟩
  rw [← hr, ← hst] at HTk HNb
  rw [← hr] at hl
  have hm : mayB (n : Int) = true := by unfold mayB; exact decide_eq_true (by omega)
  have HM := Lib.hid hm
  clear h hr hst hm
  by_cases hs : r.size < n
  · have HG := Lib.hid (Get_form r (n : Int) · HM.out (by omega))
    have hv : Hid (nb n st = (0, st')) := Lib.hid (by rw [HNb.out, if_pos hs])
    clear hs hl
    go_enter Tryd.func69, Tryd.ntmps69
    go_wp2_with fail
    refine HTk.out.mono ?_
    rintro e w1 ⟨rfl, hd, ht⟩
    have HD := Lib.hid hd
    have HTo := Lib.hid ht
    clear hd ht
    go_wp2_with fail
    refine (HG.out _).mono ?_
    rintro e w2 ⟨v, rfl, he, hb⟩
    have HB := Lib.hid hb
    clear he hb
    go_wp2_with fail
    go_ret
    rw [hv.out]
    exact ⟨rfl, HD.out.under HB.out, HTo.out.trans (Touch.of_below HB.out)⟩
  · have hz : r.size ≤ 9223372036854775807 := by rw [hl]; split <;> omega
    have HG := Lib.hid (Get_ok r (n : Int) · HM.out (by omega) hz)
    have hv : Hid (nb n st = (getK r n, st')) := Lib.hid (by rw [HNb.out, if_neg hs])
    simp only [Int.toNat_natCast] at HG
    clear hs hl hz
    go_enter Tryd.func69, Tryd.ntmps69
    go_wp2_with fail
    refine HTk.out.mono ?_
    rintro e w1 ⟨rfl, hd, ht⟩
    have HD := Lib.hid hd
    have HTo := Lib.hid ht
    clear hd ht
    go_wp2_with fail
    refine (HG.out _).mono ?_
    rintro e w2 ⟨rfl, hb⟩
    have HB := Lib.hid hb
    clear hb
    go_wp2_with fail
    go_ret
    rw [hv.out]
    exact ⟨rfl, HD.out.under HB.out, HTo.out.trans (Touch.of_below HB.out)⟩
theorem getK_bd (s : ByteArray) {k : Nat} (h : k ≤ 4) : 0 ≤ getK s k ∧ getK s k < 4294967296 := by
  have hr := getK_range s k
  rcases (show k = 0 ∨ k = 1 ∨ k = 2 ∨ k = 3 ∨ k = 4 by omega) with rfl | rfl | rfl | rfl | rfl <;> simp at hr ⊢ <;> omega
theorem nb_bd (w : Nat) (st : St) (h : w ≤ 4) : 0 ≤ (nb w st).1 ∧ (nb w st).1 < 4294967296 := by
  unfold nb
  show 0 ≤ (if (tk w st).1.size < w then (0 : Int) else getK (tk w st).1 w) ∧ (if (tk w st).1.size < w then (0 : Int) else getK (tk w st).1 w) < 4294967296
  split
  · omega
  · exact getK_bd _ h
theorem runN_bd (w : Nat) (st : St) (h : w ≤ 4) : ∀ k, ∀ x ∈ (runN w st k).1, 0 ≤ x ∧ x < 4294967296
  | 0, x, hx => by cases hx
  | k + 1, x, hx => by
    rw [runN] at hx
    rcases List.mem_append.1 hx with hx | hx
    · exact runN_bd w st h k x hx
    · rw [List.mem_singleton.1 hx]; exact nb_bd w _ h
end Go.Proofs.YtbiijkpffllimaaDoor
