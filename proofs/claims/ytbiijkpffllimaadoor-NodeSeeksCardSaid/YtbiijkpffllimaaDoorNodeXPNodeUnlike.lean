/- slices.BinarySearch, node.Seek by their contracts; NodeSeeks: the walk. -/
import Derived.Test.YtbiijkpffllimaaDoorNodeVPNodeUnlike
import Derived.Deep.LoopGhost
namespace Go.Proofs.YtbiijkpffllimaaDoor
open Go.RowKit Go.Extern.Stop Go.Stop Go.Extern Go.Proofs.YtbiijkpffllimaaDoorW.PrintWords Go.Proofs.YtbiijkpffllimaaDoorW.PrintLast Go.Proofs.YtbiijkpffllimaaDoorW.PrintMore Go.Proofs.YtbiijkpffllimaaDoor.PNodeUnlike
set_option linter.unusedVariables false
set_option linter.unusedSimpArgs false

theorem ris_lt {ks : List Int} (h : RisP ks) (a : Nat) : ∀ d, a + d + 1 < ks.length → rd ks (a : Int) < rd ks ((a + d + 1 : Nat) : Int)
  | 0, hd => by
    have := (of_decide_eq_true (h.k (a + 1) (by omega))).2.2 (by omega)
    simpa using this
  | d + 1, hd => by
    have ih := ris_lt h a d (by omega)
    have := (of_decide_eq_true (h.k (a + (d + 1) + 1) (by omega))).2.2 (by omega)
    rw [show a + (d + 1) + 1 - 1 = a + d + 1 by omega] at this
    omega
theorem ris_mono {ks : List Int} (h : RisP ks) {a b : Nat} (hab : a < b) (hb : b < ks.length) : rd ks (a : Int) < rd ks (b : Int) := by
  have := ris_lt h a (b - a - 1) (by omega)
  rwa [show a + (b - a - 1) + 1 = b by omega] at this
/-- where a key stands -/
structure SeekP (ks : List Int) (key : Int) (m : Nat) (f : Bool) : Prop where
  hm : m ≤ ks.length
  lo : ∀ i, i < m → rd ks (i : Int) < key
  hi : ∀ i, m ≤ i → i < ks.length → key ≤ rd ks (i : Int)
  f1 : f = true → m < ks.length ∧ rd ks (m : Int) = key
  f0 : f = false → m < ks.length → rd ks (m : Int) ≠ key
theorem nan_any (x : Int) (w : World) : Calls Tryd.prog 67 #[.int .i64 x] w fun e w' => e = .returned (.bool false) ∧ w = w' := by
  go_enter Tryd.func67, Tryd.ntmps67
  go_wp2
  go_ret
  exact ⟨by simp, rfl⟩
theorem cnan_any (x : Int) (w : World) : Calls Tryd.prog 74 #[.int .i64 x] w fun e w' => e = .returned (.bool false) ∧ w = w' := by
  go_enter Tryd.func74, Tryd.ntmps74
  go_wp2
  go_ret
  exact ⟨by simp, rfl⟩
theorem less_yes (x y : Int) (w : World) (h : x < y) : Calls Tryd.prog 66 #[.int .i64 x, .int .i64 y] w fun e w' => e = .returned (.bool true) ∧ w = w' := by
  have hd : decide (x < y) = true := decide_eq_true h
  clear h
  go_enter Tryd.func66, Tryd.ntmps66
  go_wp2_with fail
  refine (cnan_any x w).mono ?_
  rintro e _ ⟨rfl, rfl⟩
  go_wp2_with fail
  go_ret
  exact ⟨rfl, rfl⟩
theorem less_no (x y : Int) (w : World) (h : ¬ x < y) : Calls Tryd.prog 66 #[.int .i64 x, .int .i64 y] w fun e w' => e = .returned (.bool false) ∧ w = w' := by
  have hd : decide (x < y) = false := decide_eq_false h
  clear h
  go_enter Tryd.func66, Tryd.ntmps66
  go_wp2_with fail
  refine (cnan_any x w).mono ?_
  rintro e _ ⟨rfl, rfl⟩
  go_wp2_with fail
  go_ret
  exact ⟨rfl, rfl⟩
def SeekPost (ks : List Int) (key : Int) (w : World) (e : Ending) (w' : World) : Prop := ∃ (m : Nat) (f : Bool), e = .returned (.tuple #[.int .i64 (m : Int), .bool f]) ∧ SeekP ks key m f ∧ Below w.heap.size w w'
theorem bs_none (A : Option Addr) (c : Nat) (key : Int) (w : World) : Calls Tryd.prog 53 #[.slice A 0 c, .int .i64 key] w (SeekPost [] key w) := by
  go_enter Tryd.func53, Tryd.ntmps53
  go_wp2
  refine wp_loop_rounds 1 ?_
  rw [rounds_succ]
  go_wp2
  go_ret2
  exact ⟨0, false, rfl, ⟨Nat.zero_le _, fun i h => absurd h (by omega), fun i _ h => absurd h (by simp), fun h => (by cases h), fun _ h => absurd h (by simp)⟩, Below.refl _ _⟩
theorem half_add (i j : Nat) (h : i < j) : i ≤ (i + j) / 2 ∧ (i + j) / 2 < j := by omega
set_option maxHeartbeats 1000000 in
theorem bs_some (b o : Nat) (ks : List Int) (c : Nat) (key : Int) (w : World) (hr : RisP ks) (hc : ∀ j, j < ks.length → w.cell? ⟨b, o + j, none⟩ = some (.int .i64 (rd ks j))) :
    Calls Tryd.prog 53 #[.slice (some ⟨b, o, none⟩) ks.length c, .int .i64 key] w (SeekPost ks key w) := by
  have HC := Lib.hid hc
  have HR := Lib.hid hr
  have h7 := hr.l
  clear hc hr
  go_enter Tryd.func53, Tryd.ntmps53
  go_wp2
  go_loopg [7, 8] ks.length (fun gg si sj wr => ∃ i j : Nat, i ≤ j ∧ j ≤ ks.length ∧ j - i ≤ gg ∧ si = .int .i64 i ∧ sj = .int .i64 j ∧ wr = w ∧ Hid (∀ t, t < i → rd ks (t : Int) < key) ∧ Hid (∀ t, j ≤ t → t < ks.length → key ≤ rd ks (t : Int)))
  case atStart => exact ⟨0, ks.length, by omega, by omega, by omega, rfl, rfl, rfl, Lib.hid (fun t h => absurd h (by omega)), Lib.hid (fun t h h' => absurd h' (by omega))⟩
  case round =>
    obtain ⟨i, j, hij, hj, hg, rfl, rfl, rfl, HL, HH⟩ := hrel
    by_cases hlt : i < j
    · have hltz : (i : Int) < (j : Int) := by omega
      obtain ⟨m, hm⟩ : ∃ m, m = (i + j) / 2 := ⟨_, rfl⟩
      have hmm := half_add i j hlt
      rw [← hm] at hmm
      have x1 := HC.out m (by omega)
      have hmk : m < ks.length := by omega
      have hmz : (m : Int) < (ks.length : Int) := by omega
      have hme : ((i : Int) + (j : Int)) / 2 = (m : Int) := by omega
      clear hm
      by_cases hx : rd ks (m : Int) < key
      · have HLe := Lib.hid (less_yes (rd ks m) key wr hx)
        have HX := Lib.hid hx
        obtain ⟨x, hxx⟩ : ∃ q, q = rd ks (m : Int) := ⟨_, rfl⟩
        rw [← hxx] at x1 HLe HX
        have HXX := Lib.hid hxx
        clear hx hxx
        go_wp2_with fail
        refine HLe.out.mono ?_
        rintro e w1 ⟨rfl, rfl⟩
        go_wp2_with fail
        go_roundg (j - (m + 1))
        case measure => omega
        case rel => exact ⟨m + 1, j, by omega, by omega, by omega, by go_num, rfl, rfl, Lib.hid (fun t ht => by
          rcases Nat.lt_or_ge t m with h | h
          · have := ris_mono HR.out h hmk; have := HX.out; rw [HXX.out] at this; omega
          · obtain rfl : t = m := by omega
            rw [← HXX.out]; exact HX.out), HH⟩
      · have HLe := Lib.hid (less_no (rd ks m) key wr hx)
        have HX := Lib.hid hx
        obtain ⟨x, hxx⟩ : ∃ q, q = rd ks (m : Int) := ⟨_, rfl⟩
        rw [← hxx] at x1 HLe HX
        have HXX := Lib.hid hxx
        clear hx hxx
        go_wp2_with fail
        refine HLe.out.mono ?_
        rintro e w1 ⟨rfl, rfl⟩
        go_wp2_with fail
        go_roundg (m - i)
        case measure => omega
        case rel => exact ⟨i, m, by omega, by omega, by omega, rfl, rfl, rfl, HL, Lib.hid (fun t ht h => by
          have hx := HX.out
          rw [HXX.out] at hx
          rcases Nat.lt_or_ge m t with h1 | h1
          · have := ris_mono HR.out h1 h; omega
          · obtain rfl : t = m := by omega
            omega)⟩
    · have hltb : ¬ (i : Int) < (j : Int) := by omega
      obtain rfl : i = j := by omega
      by_cases hk : i < ks.length
      · have hkz : (i : Int) < (ks.length : Int) := by omega
        have x1 := HC.out i hk
        by_cases he : rd ks (i : Int) = key
        · have HE := Lib.hid he
          rw [he] at x1
          clear he
          go_wp2_with fail
          go_ret2
          exact ⟨i, true, rfl, ⟨by omega, HL.out, HH.out, fun _ => ⟨hk, HE.out⟩, fun h => (by cases h)⟩, Below.refl _ _⟩
        · have HE := Lib.hid he
          obtain ⟨x, hxx⟩ : ∃ q, q = rd ks (i : Int) := ⟨_, rfl⟩
          rw [← hxx] at x1 he
          have hxb : (x == key) = false := by rw [beq_eq_false_iff_ne]; exact he
          clear he hxx
          go_wp2_with fail
          refine (nan_any x wr).mono ?_
          rintro e _ ⟨rfl, rfl⟩
          go_wp2_with fail
          go_ret2
          exact ⟨i, false, rfl, ⟨by omega, HL.out, HH.out, fun h => (by cases h), fun _ _ => HE.out⟩, Below.refl _ _⟩
      · have hkz : ¬ (i : Int) < (ks.length : Int) := by omega
        go_wp2_with fail
        go_ret2
        exact ⟨i, false, rfl, ⟨by omega, HL.out, HH.out, fun h => (by cases h), fun _ h => absurd h hk⟩, Below.refl _ _⟩
theorem bs_any (A : Option Addr) (ks : List Int) (c : Nat) (key : Int) (w : World) (h : Ints w A ks c) (hr : RisP ks) : Calls Tryd.prog 53 #[.slice A ks.length c, .int .i64 key] w (SeekPost ks key w) := by
  by_cases h0 : ks.length = 0
  · obtain rfl := List.eq_nil_of_length_eq_zero h0
    exact bs_none A c key w
  · obtain ⟨b, o, rfl, hc⟩ := h.at (by omega)
    exact bs_some b o ks c key w hr hc
section
variable (A0 : Option Addr) (ks : List Int) (c0 : Nat) (A1 : Option Addr) (vs : List ByteArray) (c1 : Nat) (A2 : Option Addr) (kd : List Int) (c2 : Nat) (key : Int) (w : World)
theorem seek_bad (h : NodeIn w A0 ks c0 A1 vs c1 A2 kd c2) (hf : fewB ks vs kd = true) (hb : nodeB ks vs kd = false) :
    Calls Tryd.prog 28 #[.agg #[.slice A0 ks.length c0, .slice A1 vs.length c1, .slice A2 kd.length c2], .int .i64 key] w fun e w' => e = .returned (.tuple #[.int .i64 0, .bool false]) ∧ Below w.heap.size w w' := by
  have HB0 : Hid (Below w.heap.size w (w.alloc (.cells #[.slice A0 ks.length c0, .slice A1 vs.length c1, .slice A2 kd.length c2] 33))) := Lib.hid ((Below.refl _ _).alloc (Nat.le_refl _) _)
  have HC1 := Lib.hid (right_in A0 ks c0 A1 vs c1 A2 kd c2 _ (h.below HB0.out) hf false hb)
  clear h hf hb
  go_enter Tryd.func28, Tryd.ntmps28
  go_wp2_with fail
  refine HC1.out.mono ?_
  rintro e w1 ⟨rfl, hb⟩
  have HB1 := Lib.hid (HB0.out.trans (hb.mono (by simp)))
  clear hb
  go_wp2_with fail
  go_ret2
  exact ⟨rfl, HB1.out⟩
theorem seek_ok (h : NodeIn w A0 ks c0 A1 vs c1 A2 kd c2) (hf : fewB ks vs kd = true) (hb : nodeB ks vs kd = true) :
    Calls Tryd.prog 28 #[.agg #[.slice A0 ks.length c0, .slice A1 vs.length c1, .slice A2 kd.length c2], .int .i64 key] w (SeekPost ks key w) := by
  have HB0 : Hid (Below w.heap.size w (w.alloc (.cells #[.slice A0 ks.length c0, .slice A1 vs.length c1, .slice A2 kd.length c2] 33))) := Lib.hid ((Below.refl _ _).alloc (Nat.le_refl _) _)
  have HC1 := Lib.hid (right_in A0 ks c0 A1 vs c1 A2 kd c2 _ (h.below HB0.out) hf true hb)
  have HRi : Hid (RisP ks) := Lib.hid ⟨(node_facts hb).k7, allN_all.1 (node_facts hb).r⟩
  have HN := Lib.hid h
  clear h hf hb
  go_enter Tryd.func28, Tryd.ntmps28
  go_wp2_with fail
  refine HC1.out.mono ?_
  rintro e w1 ⟨rfl, hb⟩
  have HB1 := Lib.hid (HB0.out.trans (hb.mono (by simp)))
  obtain ⟨x0, x1, x2⟩ := box_cells hb
  have HC2 := Lib.hid (bs_any A0 ks c0 key w1 (HN.out.below HB1.out).k HRi.out)
  clear hb
  go_wp2_with fail
  refine HC2.out.mono ?_
  rintro e w2 ⟨m, f, rfl, hs, hb⟩
  have HS := Lib.hid hs
  have HB2 := Lib.hid (HB1.out.trans (hb.mono HB1.out.size))
  clear hs hb
  go_wp2_with fail
  go_ret2
  exact ⟨m, f, rfl, HS.out, HB2.out⟩
end
set_option maxHeartbeats 1600000 in
set_option maxRecDepth 100000 in
theorem seeks_a (A0 : Option Addr) (ks : List Int) (c0 : Nat) (A1 : Option Addr) (vs : List ByteArray) (c1 : Nat) (A2 : Option Addr) (kd : List Int) (c2 : Nat) (key : Int) (w : World) (ha : NodeIn w A0 ks c0 A1 vs c1 A2 kd c2) (fa : fewB ks vs kd = false) :
    Calls Tryd.prog 8 #[.agg #[.slice A0 ks.length c0, .slice A1 vs.length c1, .slice A2 kd.length c2], .int .i64 key] w fun e w' => e = .returned (.bool true) ∧ Below w.heap.size w w' := by
  have HN := Lib.hid fa
  clear fa
  have Ha := Lib.hid ha
  have HB0 : Hid (Below w.heap.size w (w.alloc (.cells #[.slice A0 ks.length c0, .slice A1 vs.length c1, .slice A2 kd.length c2] 25))) := Lib.hid ((Below.refl _ _).alloc (Nat.le_refl _) _)
  clear ha
  go_enter Tryd.func8, Tryd.ntmps8
  go_wp2_with fail
  refine (node_awake _).mono ?_
  rintro e w1 ⟨rfl, hb⟩
  have HB1 := Lib.hid (hb)
  obtain ⟨x0, x1, x2⟩ := box_cells HB1.out
  clear hb
  go_wp2_with fail
  refine (few_no A0 ks c0 A1 vs c1 A2 kd c2 _ (Ha.out.below (HB0.out.trans (HB1.out.mono (by simp)))) HN.out).mono ?_
  rintro e w2 ⟨rfl, hb⟩
  have HB2 := Lib.hid (HB1.out.trans (hb.mono HB1.out.size))
  obtain ⟨x0, x1, x2⟩ := box_cells HB2.out
  clear hb
  go_wp2_with fail
  refine (node_awake _).mono ?_
  rintro e w3 ⟨rfl, hb⟩
  have HB3 := Lib.hid (HB2.out.trans (hb.mono HB2.out.size))
  obtain ⟨x0, x1, x2⟩ := box_cells HB3.out
  clear hb
  go_wp2_with fail
  go_ret
  exact ⟨rfl, (HB0.out.trans (HB3.out.mono (by simp)))⟩
set_option maxHeartbeats 1600000 in
set_option maxRecDepth 100000 in
theorem seeks_b (A0 : Option Addr) (ks : List Int) (c0 : Nat) (A1 : Option Addr) (vs : List ByteArray) (c1 : Nat) (A2 : Option Addr) (kd : List Int) (c2 : Nat) (key : Int) (w : World) (ha : NodeIn w A0 ks c0 A1 vs c1 A2 kd c2) (fa : fewB ks vs kd = true) (ra : nodeB ks vs kd = false) :
    Calls Tryd.prog 8 #[.agg #[.slice A0 ks.length c0, .slice A1 vs.length c1, .slice A2 kd.length c2], .int .i64 key] w fun e w' => e = .returned (.bool true) ∧ Below w.heap.size w w' := by
  have HF := Lib.hid fa
  have HR := Lib.hid ra
  clear fa ra
  have Ha := Lib.hid ha
  have HB0 : Hid (Below w.heap.size w (w.alloc (.cells #[.slice A0 ks.length c0, .slice A1 vs.length c1, .slice A2 kd.length c2] 25))) := Lib.hid ((Below.refl _ _).alloc (Nat.le_refl _) _)
  clear ha
  go_enter Tryd.func8, Tryd.ntmps8
  go_wp2_with fail
  refine (node_awake _).mono ?_
  rintro e w1 ⟨rfl, hb⟩
  have HB1 := Lib.hid (hb)
  obtain ⟨x0, x1, x2⟩ := box_cells HB1.out
  clear hb
  go_wp2_with fail
  refine (few_yes A0 ks c0 A1 vs c1 A2 kd c2 _ (Ha.out.below (HB0.out.trans (HB1.out.mono (by simp)))) HF.out).mono ?_
  rintro e w2 ⟨rfl, hb⟩
  have HB2 := Lib.hid (HB1.out.trans (hb.mono HB1.out.size))
  obtain ⟨x0, x1, x2⟩ := box_cells HB2.out
  clear hb
  go_wp2_with fail
  refine (of_call A0 ks c0 A1 vs c1 A2 kd c2 _).mono ?_
  rintro e w3 ⟨rfl, hb⟩
  have HB3 := Lib.hid (HB2.out.trans (hb.mono HB2.out.size))
  obtain ⟨x0, x1, x2⟩ := box_cells HB3.out
  clear hb
  go_wp2_with fail
  refine (seek_bad A0 ks c0 A1 vs c1 A2 kd c2 key _ (Ha.out.below (HB0.out.trans (HB3.out.mono (by simp)))) HF.out HR.out).mono ?_
  rintro e w4 ⟨rfl, hb⟩
  have HB4 := Lib.hid (HB3.out.trans (hb.mono HB3.out.size))
  obtain ⟨x0, x1, x2⟩ := box_cells HB4.out
  clear hb
  go_wp2_with fail
  refine (rright_is A0 ks c0 A1 vs c1 A2 kd c2 _ (Ha.out.below (HB0.out.trans (HB4.out.mono (by simp)))) HF.out false HR.out).mono ?_
  rintro e w5 ⟨rfl, hb⟩
  have HB5 := Lib.hid (HB4.out.trans (hb.mono HB4.out.size))
  obtain ⟨x0, x1, x2⟩ := box_cells HB5.out
  clear hb
  go_wp2_with fail
  go_ret
  exact ⟨rfl, (HB0.out.trans (HB5.out.mono (by simp)))⟩
set_option maxHeartbeats 1600000 in
set_option maxRecDepth 100000 in
theorem seeks_c (A0 : Option Addr) (ks : List Int) (c0 : Nat) (A1 : Option Addr) (vs : List ByteArray) (c1 : Nat) (A2 : Option Addr) (kd : List Int) (c2 : Nat) (key : Int) (w : World) (ha : NodeIn w A0 ks c0 A1 vs c1 A2 kd c2) (fa : fewB ks vs kd = true) (ra : nodeB ks vs kd = true) :
    Calls Tryd.prog 8 #[.agg #[.slice A0 ks.length c0, .slice A1 vs.length c1, .slice A2 kd.length c2], .int .i64 key] w fun e w' => e = .returned (.bool true) ∧ Below w.heap.size w w' := by
  have HF := Lib.hid fa
  have HR := Lib.hid ra
  have HRi : Hid (RisP ks) := Lib.hid ⟨(node_facts ra).k7, allN_all.1 (node_facts ra).r⟩
  have h7 := (node_facts ra).k7
  clear fa ra
  have Ha := Lib.hid ha
  have HB0 : Hid (Below w.heap.size w (w.alloc (.cells #[.slice A0 ks.length c0, .slice A1 vs.length c1, .slice A2 kd.length c2] 25))) := Lib.hid ((Below.refl _ _).alloc (Nat.le_refl _) _)
  clear ha
  go_enter Tryd.func8, Tryd.ntmps8
  go_wp2_with fail
  refine (node_awake _).mono ?_
  rintro e w1 ⟨rfl, hb⟩
  have HB1 := Lib.hid (hb)
  obtain ⟨x0, x1, x2⟩ := box_cells HB1.out
  clear hb
  go_wp2_with fail
  refine (few_yes A0 ks c0 A1 vs c1 A2 kd c2 _ (Ha.out.below (HB0.out.trans (HB1.out.mono (by simp)))) HF.out).mono ?_
  rintro e w2 ⟨rfl, hb⟩
  have HB2 := Lib.hid (HB1.out.trans (hb.mono HB1.out.size))
  obtain ⟨x0, x1, x2⟩ := box_cells HB2.out
  clear hb
  go_wp2_with fail
  refine (of_call A0 ks c0 A1 vs c1 A2 kd c2 _).mono ?_
  rintro e w3 ⟨rfl, hb⟩
  have HB3 := Lib.hid (HB2.out.trans (hb.mono HB2.out.size))
  obtain ⟨x0, x1, x2⟩ := box_cells HB3.out
  clear hb
  go_wp2_with fail
  refine (seek_ok A0 ks c0 A1 vs c1 A2 kd c2 key _ (Ha.out.below (HB0.out.trans (HB3.out.mono (by simp)))) HF.out HR.out).mono ?_
  rintro e w4 ⟨m, f, rfl, hs, hb⟩
  have HB4 := Lib.hid (HB3.out.trans (hb.mono HB3.out.size))
  obtain ⟨x0, x1, x2⟩ := box_cells HB4.out
  clear hb
  have HS := Lib.hid hs
  have hmk := hs.hm
  clear hs
  go_wp2_with fail
  refine (rright_is A0 ks c0 A1 vs c1 A2 kd c2 _ (Ha.out.below (HB0.out.trans (HB4.out.mono (by simp)))) HF.out true HR.out).mono ?_
  rintro e w5 ⟨rfl, hb⟩
  have HB5 := Lib.hid (HB4.out.trans (hb.mono HB4.out.size))
  obtain ⟨x0, x1, x2⟩ := box_cells HB5.out
  clear hb
  go_wp2_with fail
  go_loopg [7] ks.length (fun gg si wr => ∃ i : Nat, i ≤ ks.length ∧ ks.length - i ≤ gg ∧ si = .int .i64 i ∧ wr = w5)
  case atStart => exact ⟨0, by omega, by omega, rfl, rfl⟩
  case round =>
    obtain ⟨i, hi, hg, rfl, rfl⟩ := hrel
    by_cases hlt : i < ks.length
    · have hltz : (i : Int) < (ks.length : Int) := by omega
      obtain ⟨b, o, rfl, hc⟩ := (Ha.out.below (HB0.out.trans (HB5.out.mono (by simp)))).k.at (by omega)
      have cc := hc i hlt
      have HMo : Hid (∀ a b, a < b → b < ks.length → rd ks (a : Int) < rd ks (b : Int)) := Lib.hid (fun a b h h' => ris_mono HRi.out h h')
      clear hc
      by_cases him : i < m
      · have hx := HS.out.lo i him
        obtain ⟨x, hxx⟩ : ∃ q, q = rd ks (i : Int) := ⟨_, rfl⟩
        rw [← hxx] at cc hx
        have h1 : decide (x < key) = true := decide_eq_true hx
        have h2 : (x == key) = false := by rw [beq_eq_false_iff_ne]; omega
        have h3 : (i : Int) < (m : Int) := by omega
        have h4 : decide (i < m) = true := decide_eq_true him
        clear hxx
        go_wp2_with fail
        go_roundg (ks.length - (i + 1))
        case measure => omega
        case rel => exact ⟨i + 1, by omega, by omega, by go_num, rfl⟩
      · have hx := HS.out.hi i (by omega) hlt
        by_cases he : rd ks (i : Int) = key
        · have hmi : i = m := by
            rcases Nat.lt_or_ge m i with h | h
            · have := HMo.out m i h hlt
              have := HS.out.hi m (Nat.le_refl _) (by omega)
              omega
            · omega
          have hfv : f = true := by
            cases f with
            | true => rfl
            | false => exact absurd he (by rw [hmi]; exact HS.out.f0 rfl (by omega))
          rw [he] at cc
          subst hfv
          subst hmi
          have h1 : decide (key < key) = false := decide_eq_false (by omega)
          have h3 : ¬ (i : Int) < (i : Int) := by omega
          have h4 : decide (i < i) = false := decide_eq_false (by omega)
          clear he hx him
          go_wp2_with fail
          go_roundg (ks.length - (i + 1))
          case measure => omega
          case rel => exact ⟨i + 1, by omega, by omega, by go_num, rfl⟩
        · obtain ⟨x, hxx⟩ : ∃ q, q = rd ks (i : Int) := ⟨_, rfl⟩
          rw [← hxx] at cc hx he
          have h1 : decide (x < key) = false := decide_eq_false (by omega)
          have h2 : (x == key) = false := by rw [beq_eq_false_iff_ne]; exact he
          have h3 : ¬ (i : Int) < (m : Int) := by omega
          have h4 : decide (i < m) = false := decide_eq_false him
          clear hxx he
          go_wp2_with fail
          go_roundg (ks.length - (i + 1))
          case measure => omega
          case rel => exact ⟨i + 1, by omega, by omega, by go_num, rfl⟩
    · have hltb : ¬ (i : Int) < (ks.length : Int) := by omega
      cases f with
      | false =>
        go_wp2_with fail
        go_ret
        exact ⟨rfl, (HB0.out.trans (HB5.out.mono (by simp)))⟩
      | true =>
        obtain ⟨hmk2, he⟩ := HS.out.f1 rfl
        have hmz : (m : Int) < (ks.length : Int) := by omega
        obtain ⟨b, o, rfl, hc⟩ := (Ha.out.below (HB0.out.trans (HB5.out.mono (by simp)))).k.at (by omega)
        have cc := hc m hmk2
        rw [he] at cc
        clear hc he
        go_wp2_with fail
        go_ret
        exact ⟨rfl, (HB0.out.trans (HB5.out.mono (by simp)))⟩
theorem seeks_walk (A0 : Option Addr) (ks : List Int) (c0 : Nat) (A1 : Option Addr) (vs : List ByteArray) (c1 : Nat) (A2 : Option Addr) (kd : List Int) (c2 : Nat) (key : Int) (w : World) (ha : NodeIn w A0 ks c0 A1 vs c1 A2 kd c2) (wk : (Lit.int .i64 key).wf = true) (tied : Tied w) :
    Calls Tryd.prog 8 #[.agg #[.slice A0 ks.length c0, .slice A1 vs.length c1, .slice A2 kd.length c2], .int .i64 key] w fun e w' => e = .returned (.bool true) ∧ Below w.heap.size w w' := by
  cases fa : fewB ks vs kd with
  | false => exact seeks_a A0 ks c0 A1 vs c1 A2 kd c2 key w ha fa
  | true =>
    cases ra : nodeB ks vs kd with
    | false => exact seeks_b A0 ks c0 A1 vs c1 A2 kd c2 key w ha fa ra
    | true => exact seeks_c A0 ks c0 A1 vs c1 A2 kd c2 key w ha fa ra
end Go.Proofs.YtbiijkpffllimaaDoor
