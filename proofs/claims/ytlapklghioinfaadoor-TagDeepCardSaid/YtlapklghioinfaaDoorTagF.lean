/- TagTexts: the walk. -/
import Derived.Test.YtlapklghioinfaaDoorTagE
import Derived.Deep.QuietTactic
import Derived.BigQuiet
import Derived.IntWalk
import Derived.Deep.Draws
namespace Go.Proofs.YtlapklghioinfaaDoor
open Go.RowKit Go.Extern.Stop Go.Stop Go.Extern
set_option linter.unusedVariables false
set_option linter.unusedSimpArgs false

theorem KF.drewN {W w' : World} (h : KF W w') (n : Nat) : KF W (w'.drewN n) := by
  have h1 : Below W.heap.size W w' := h
  exact ⟨h1.os, h1.tape, h1.output, h1.size, h1.block⟩
theorem own_cells {w : World} {base : Nat} {e : TypeId} {v : Value} {n : Nat} {xs : List Value} (h : w.ownsRow base e 1 v n xs) (hn : 0 < n) : ∃ g cap, v = .slice (some ⟨g, 0, none⟩) n cap ∧ ∀ j u, xs[j]? = some u → w.cell? ⟨g, j, none⟩ = some u := by
  obtain ⟨hl, hc⟩ := h
  rcases hc with ⟨_, h⟩ | ⟨g, cap, cur, rfl, _, hg, _, _, _, ht⟩
  · omega
  · refine ⟨g, cap, rfl, fun j u hj => ?_⟩
    have hlt : j < xs.length := (List.getElem?_eq_some_iff.1 hj).1
    rw [← ht, List.getElem?_take_of_lt (by omega)] at hj
    simp [World.cell?, hg]
    simpa using hj

theorem texts_tag (n : Int) (b o len cap : Nat) (ss : List ByteArray) (hlen : ss.length = len) (hpos : 0 < len) (hl : len ≤ 40) (hss : ∀ s ∈ ss, s.size ≤ 140737488351232) (w : World) (tied : Tied w)
    (hc : Hid (∀ j, j < len → w.cell? ⟨b, o + j, none⟩ = some (.string (ss.getD j ByteArray.empty))))
    (htag : ∀ W, KF w W → Calls Tryd.prog 16 #[.int .i64 n, .slice (some ⟨b, o, none⟩) len cap] W (TaggedPost ss n W))
    (href : ∀ W, KF w W → Calls Tryd.prog 18 #[.int .i64 n, .slice (some ⟨b, o, none⟩) len cap] W fun e w' => e = .returned (.string (refText n ss)) ∧ Below W.heap.size W w') :
    Calls Tryd.prog 3 #[.int .i64 n, .slice (some ⟨b, o, none⟩) len cap] w fun e w' => e = .returned (.bool true) ∧ Below w.heap.size w w' := by
  have T := Lib.hid tied
  have HT := Lib.hid htag
  have HRef := Lib.hid href
  have HL := Lib.hid hlen
  have hz := textB_size ss.reverse n (fun x hx => hss x (List.mem_reverse.1 hx))
  rw [List.length_reverse, hlen] at hz
  have hz2 := Lib.hid (show (textB ss.reverse (some n)).size ≤ 9223372036854775807 by have h4 := Nat.mul_le_mul_right 140737488351233 hl; omega)
  clear tied htag href hlen hz hss
  have hd : decide ((40 : Int) < (len : Int)) = false := by simp; omega
  have n1 := tagged_nilAhead
  have n2 := tagged_method
  go_enter Tryd.func3, Tryd.ntmps3
  go_wp2_with fail
  refine (tag_awake _ T.out).mono ?_
  rintro e w1 ⟨rfl, hb⟩
  have HB1 := Lib.hid hb
  clear hb
  go_wp2_with fail
  refine (HT.out _ HB1.out).mono ?_
  rintro e w2 ⟨v, rfl, hch, hb⟩
  have HB2 := Lib.hid (Below.trans HB1.out (hb.mono HB1.out.size))
  have HC := Lib.hid hch
  obtain ⟨b2, rfl⟩ := hch.tagged (by intro h; have := congrArg List.length h; simp [HL.out] at this; omega)
  clear hb hch
  go_wp2_with fail
  refine (Tags_chain _ _ _ _ _ HC.out (by simp [HL.out]; omega)).mono ?_
  rintro e w4 ⟨v4, rfl, hown, hb⟩
  have HB4 := Lib.hid (Below.trans HB2.out (hb.mono HB2.out.size))
  have HC4 := Lib.hid (HC.out.under hb)
  clear hb
  rw [List.length_reverse, HL.out] at hown
  obtain ⟨g, cp, rfl, hg⟩ := own_cells hown hpos
  have HG := Lib.hid hg
  clear hown hg
  go_wp2_with fail
  refine (text_chain _ _ _ _ _ HC4.out hz2.out).mono ?_
  rintro e w5 ⟨rfl, hb⟩
  have HB5 := Lib.hid (Below.trans HB4.out (hb.mono HB4.out.size))
  have HK5 := Lib.hid hb
  clear hb
  go_wp2_with fail
  refine (HRef.out _ HB5.out).mono ?_
  rintro e w6 ⟨rfl, hb⟩
  have HB6 := Lib.hid (Below.trans HB5.out (hb.mono HB5.out.size))
  have HK6 : Hid (KF w4 w6) := KF.step HK5.out hb
  clear hb
  unfold refText
  go_wp2_with fail
  go_loopw [7] (fun i wl => ∃ k : Nat, k ≤ len ∧ i = .int .i64 k ∧ KF w6 wl) (fun i _ => len - (intOf i).toNat)
  case atStart => exact ⟨0, Nat.zero_le _, rfl, KF.refl _⟩
  case round =>
    obtain ⟨k, hk, rfl, hkf⟩ := hrel
    have HF := Lib.hid hkf
    clear hkf
    by_cases hlt : k < len
    · have hltb : decide (k < len) = true := by simpa using hlt
      obtain ⟨s, hs⟩ : ∃ s, ss.reverse[k]? = some s := ⟨_, List.getElem?_eq_getElem (by rw [List.length_reverse, HL.out]; exact hlt)⟩
      have c1 : wr.cell? ⟨g, k, none⟩ = some (.string s) := HF.out.cell (HK6.out.cell (HG.out k _ (by rw [List.getElem?_map, hs]; rfl)))
      have c2 : wr.cell? ⟨b, o + (len - 1 - k), none⟩ = some (.string s) := by
        have h1 := hc.out (len - 1 - k) (by omega)
        have h2 : ss.getD (len - 1 - k) ByteArray.empty = s := by
          rw [List.getElem?_reverse (by rw [HL.out]; exact hlt), HL.out] at hs
          rw [List.getD_eq_getElem?_getD, hs]; rfl
        rw [h2] at h1
        exact HF.out.cell ((HB6.out.cell (cell_lt h1)).trans h1)
      have i0 : (0 : Int) ≤ (k : Int) := by omega
      have i1 : (k : Int) < (len : Int) := by omega
      have j0 : (0 : Int) ≤ (len : Int) - 1 - (k : Int) := by omega
      have j1 : (len : Int) - 1 - (k : Int) < (len : Int) := by omega
      have e1 : IntKind.i64.wrap ((len : Int) - 1) = (len : Int) - 1 := IntWalk.i64_in _ (by omega)
      have e2 : IntKind.i64.wrap ((len : Int) - 1 - (k : Int)) = (len : Int) - 1 - (k : Int) := IntWalk.i64_in _ (by omega)
      have e3 : ((len : Int) - 1 - (k : Int)).toNat = len - 1 - k := by omega
      clear hs
      go_wp2_with fail
      go_quiet (fail)
      all_goals clear e1 e2 e3
      all_goals go_wp2_with fail
      all_goals go_roundw
      case rel => exact ⟨k + 1, by omega, by go_num, by first | exact HF.out | exact HF.out.drewN _⟩
      case measure => simp [intOf]; omega
    · have hltb : decide (k < len) = false := by simpa using hlt
      go_wp2_with fail
      go_ret
      exact ⟨rfl, Below.trans HB6.out (HF.out.mono HB6.out.size)⟩

set_option maxRecDepth 100000 in
theorem ref_none (n : Int) (a : Option Addr) (cap : Nat) (w : World) :
    Calls Tryd.prog 18 #[.int .i64 n, .slice a 0 cap] w fun e w' => e = .returned (.string (errnoB n)) ∧ Below w.heap.size w w' := by
  by_cases h : 0 ≤ n ∧ n < 100
  · obtain ⟨h0, h1⟩ := h
    have hcv := run_convert_bytes_arg (P := Tryd.prog) (w := w.alloc (.cells #[.int .u8 (48 + n / 10), .int .u8 (48 + n % 10)] 5)) 60 5 Tryd.underlying60 Tryd.underlying5 w.heap.size 0 2 2 [48 + n / 10, 48 + n % 10] rfl (fun i hi => by rw [World.cell?_alloc_at _ _ _ _ rfl]; match i, hi with | 0, _ => rfl | 1, _ => rfl) 9 Tryd.underlying9
    rw [show errnoB n = _ from if_pos ⟨h0, h1⟩]
    go_enter Tryd.func18, Tryd.ntmps18
    go_wp2_with fail
    refine wp_loop_rounds 1 ?_
    rw [rounds_succ]
    go_wp2_with fail
    go_ret
    exact ⟨rfl, (Below.refl _ _).alloc (Nat.le_refl _) _⟩
  · rw [show errnoB n = _ from if_neg h]
    rcases (show n < 0 ∨ (0 ≤ n ∧ 100 ≤ n) by omega) with h0 | ⟨h0, h1⟩
    all_goals
      clear h
      go_enter Tryd.func18, Tryd.ntmps18
      go_wp2_with fail
      refine wp_loop_rounds 1 ?_
      rw [rounds_succ]
      go_wp2_with fail
      go_ret
      exact ⟨rfl, Below.refl _ _⟩
theorem texts_num (n : Int) (a : Option Addr) (cap : Nat) (w : World) (tied : Tied w) :
    Calls Tryd.prog 3 #[.int .i64 n, .slice a 0 cap] w fun e w' => e = .returned (.bool true) ∧ Below w.heap.size w w' := by
  have T := Lib.hid tied
  clear tied
  have n3 := errno_nilAhead
  have n4 := errno_method
  go_enter Tryd.func3, Tryd.ntmps3
  go_wp2_with fail
  refine (tag_awake _ T.out).mono ?_
  rintro e w1 ⟨rfl, hb⟩
  have HB1 := Lib.hid hb
  clear hb
  go_wp2_with fail
  refine (tagged_none n a cap _).mono ?_
  rintro e w2 ⟨v, rfl, hch, hb⟩
  have HB2 := Lib.hid (Below.trans HB1.out (hb.mono HB1.out.size))
  have HC := Lib.hid hch
  cases hch
  clear hb
  go_wp2_with fail
  refine (Tags_chain _ _ _ _ _ HC.out (by simp)).mono ?_
  rintro e w4 ⟨v4, rfl, hown, hb⟩
  have HB4 := Lib.hid (Below.trans HB2.out (hb.mono HB2.out.size))
  clear hb
  obtain ⟨ad, cp, rfl⟩ := own_slice hown
  clear hown
  go_wp2_with fail
  refine (errno_text n _).mono ?_
  rintro e w5 ⟨rfl, hb⟩
  have HB5 := Lib.hid (Below.trans HB4.out (hb.mono HB4.out.size))
  clear hb
  go_wp2_with fail
  refine (ref_none n a cap _).mono ?_
  rintro e w6 ⟨rfl, hb⟩
  have HB6 := Lib.hid (Below.trans HB5.out (hb.mono HB5.out.size))
  clear hb
  go_wp2_with fail
  refine wp_loop_rounds 1 ?_
  rw [rounds_succ]
  go_wp2_with fail
  go_ret
  exact ⟨rfl, HB6.out⟩
theorem texts_out (n : Int) (a : Option Addr) (len cap : Nat) (hl : 40 < len) (w : World) (tied : Tied w) :
    Calls Tryd.prog 3 #[.int .i64 n, .slice a len cap] w fun e w' => e = .returned (.bool true) ∧ Below w.heap.size w w' := by
  have T := Lib.hid tied
  clear tied
  have hd : decide ((40 : Int) < (len : Int)) = true := by simp; omega
  go_enter Tryd.func3, Tryd.ntmps3
  go_wp2_with fail
  refine (tag_awake _ T.out).mono ?_
  rintro e w1 ⟨rfl, hb⟩
  have HB1 := Lib.hid hb
  clear hb
  go_wp2_with fail
  refine (tag_awake _ (T.out.under T.out.lt HB1.out)).mono ?_
  rintro e w2 ⟨rfl, hb⟩
  have HB2 := Lib.hid (Below.trans HB1.out (hb.mono HB1.out.size))
  clear hb
  go_wp2_with fail
  go_ret
  exact ⟨rfl, HB2.out⟩
theorem texts_walk (n : Int) (a : Option Addr) (len cap : Nat) (ss : List ByteArray) (w : World) (w1 : (Lit.int .i64 n).wf = true) (r : IsStrs w a len ss) (hss : ∀ s ∈ ss, s.size ≤ 140737488351232) (tied : Tied w) :
    Calls Tryd.prog 3 #[.int .i64 n, .slice a len cap] w fun e w' => e = .returned (.bool true) ∧ Below w.heap.size w w' := by
  by_cases hl : len ≤ 40
  · by_cases h0 : len = 0
    · subst h0; exact texts_num n a cap w tied
    · have ht := tagged_any n a len cap ss w r
      obtain ⟨e1, _, _, h⟩ := r
      rcases h with h | ⟨b, o, rfl, hc⟩
      · exact absurd h h0
      · refine texts_tag n b o len cap ss e1 (by omega) hl hss w tied hc ht fun W hW => ?_
        by_cases hn : 0 ≤ n ∧ n < 100
        · exact ref_in n b o len cap ss W e1 hl hss (fun j hj => hW.cell (hc j hj)) hn.1 hn.2
        · exact ref_out n b o len cap ss W e1 hl hss (fun j hj => hW.cell (hc j hj)) (by omega)
  · exact texts_out n a len cap (by omega) w tied
end Go.Proofs.YtlapklghioinfaaDoor
