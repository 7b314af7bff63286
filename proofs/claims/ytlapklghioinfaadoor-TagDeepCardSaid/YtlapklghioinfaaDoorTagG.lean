/- TagDeep: the walk. -/
import Derived.Test.YtlapklghioinfaaDoorTagF
import Derived.Laws.AppendOwnNone
import Derived.Maps.AppendAt
namespace Go.Proofs.YtlapklghioinfaaDoor
open Go.RowKit Go.Extern.Stop Go.Stop Go.Extern
set_option linter.unusedVariables false
set_option linter.unusedSimpArgs false

/-- an argument's slice of strings as an append's source: nil, or its strings in their cells -/
def SrcStrs (w : World) (a : Option Addr) (len cap : Nat) (ss : List ByteArray) : Prop :=
  (a = none ∧ len = 0 ∧ cap = 0 ∧ ss = []) ∨ ∃ ad, a = some ad ∧ ∀ j u, (ss.map Value.string)[j]? = some u → w.cell? (ad.add j) = some u
theorem SrcStrs.under {w w' : World} {a : Option Addr} {len cap : Nat} {ss : List ByteArray} (h : SrcStrs w a len cap ss) (hb : Below w.heap.size w w') : SrcStrs w' a len cap ss := by
  rcases h with h | ⟨ad, rfl, h⟩
  · exact .inl h
  · exact .inr ⟨ad, rfl, fun j u hj => (hb.cell (cell_lt (h j u hj))).trans (h j u hj)⟩
theorem tagged_own (n : Int) (base : Nat) (v : Value) (m : Nat) (ss : List ByteArray) (W : World) (hm : m ≤ 1000000) (h : W.ownsRow base 9 1 v m (ss.map Value.string)) :
    Calls Tryd.prog 16 #[.int .i64 n, v] W (TaggedPost ss n W) := by
  have hl : ss.length = m := by have := h.1; simpa using this
  by_cases h0 : m = 0
  · subst h0
    obtain rfl := List.eq_nil_of_length_eq_zero hl
    obtain ⟨a, cap, rfl⟩ := own_slice h
    exact tagged_none n a cap W
  · obtain ⟨g, cap, rfl, hc⟩ := own_cells h (by omega)
    exact tagged_loop n g 0 m cap ss W hl (by omega) (fun j hj => by
      rw [Nat.zero_add]
      exact hc j _ (by rw [List.getElem?_map, List.getElem?_eq_getElem (by omega), List.getD_eq_getElem?_getD, List.getElem?_eq_getElem (by omega)]; rfl))
theorem textB_more (l1 l2 : List ByteArray) (r : Option Int) : (textB l2 r).size ≤ (textB (l1 ++ l2) r).size := by
  induction l1 with
  | nil => exact Nat.le_refl _
  | cons s l ih => simp only [List.cons_append, textB, ByteArray.size_append]; omega

theorem own_empty (w1 : World) (base : Nat) (h : base ≤ w1.heap.size) : (w1.alloc (.cells #[] 9)).ownsRow base 9 1 (.slice (some ⟨w1.heap.size, 0, none⟩) 0 0) 0 [] :=
  ⟨rfl, .inr ⟨w1.heap.size, 0, #[], rfl, h, by show (w1.heap.push _)[w1.heap.size]? = _; simp, Nat.le_refl _, Nat.zero_le _, rfl, rfl⟩⟩
theorem errno_as {l : List ByteArray} (h : l = []) (n : Int) (w : World) : Calls Tryd.prog 34 #[.int .i64 n] w fun e w' => e = .returned (.string (textB l (some n))) ∧ Below w.heap.size w w' := by
  subst h; exact errno_text n w
set_option maxHeartbeats 2000000 in
theorem deep_some_some_tt (n : Int) (ad : Addr) (len cap : Nat) (ss : List ByteArray) (hlen : ss.length = len) (hl : len ≤ 40) (hss : ∀ s ∈ ss, s.size ≤ 140737488351232) (ad2 : Addr) (len2 cap2 : Nat) (ss2 : List ByteArray) (hlen2 : ss2.length = len2) (hl2 : len2 ≤ 40) (hss2 : ∀ s ∈ ss2, s.size ≤ 140737488351232) (hp : 0 < len) (w : World) (tied : Tied w)
    (s1 : ∀ j u, (ss.map Value.string)[j]? = some u → w.cell? (ad.add j) = some u)
    (s2 : ∀ j u, (ss2.map Value.string)[j]? = some u → w.cell? (ad2.add j) = some u)
    (htag : ∀ W, KF w W → Calls Tryd.prog 16 #[.int .i64 n, .slice (some ad) len cap] W (TaggedPost ss n W)) :
    Calls Tryd.prog 6 #[.int .i64 n, .slice (some ad) len cap, .slice (some ad2) len2 cap2] w fun e w' => e = .returned (.bool true) ∧ Below w.heap.size w w' := by
  obtain ⟨i0, hi, hz0, hz1, hz2⟩ := info_parts infoS
  have T := Lib.hid tied
  have HT := Lib.hid htag
  have S1 := Lib.hid s1
  have L1 := Lib.hid hlen
  have S2 := Lib.hid s2
  have L2 := Lib.hid hlen2
  have LE : Hid ((ss ++ ss2).length = len + len2) := by show _ = _; rw [List.length_append, hlen, hlen2]
  have Zf := Lib.hid (textB_size ss.reverse n (fun x hx => hss x (List.mem_reverse.1 hx)))
  have Ze := Lib.hid (textB_size (ss ++ ss2).reverse n (fun x hx => by rcases List.mem_append.1 (List.mem_reverse.1 hx) with h | h; exact hss x h; exact hss2 x h))
  have Zm := Lib.hid (show (textB ss.reverse (some n)).size ≤ (textB (ss ++ ss2).reverse (some n)).size by rw [List.reverse_append]; exact textB_more _ _ _)
  have Zfm : Hid ((textB ss.reverse (some n)).size ≤ 9223372036854775807) := by
    have h := Zf.out; rw [List.length_reverse, hlen] at h
    have h4 := Nat.mul_le_mul_right 140737488351233 hl
    show _ ≤ _; omega
  have Zem : Hid ((textB (ss ++ ss2).reverse (some n)).size ≤ 9223372036854775807) := by
    have h := Ze.out; rw [List.length_reverse, LE.out] at h
    have h4 := Nat.mul_le_mul_right 140737488351233 (show len + len2 ≤ 80 by omega)
    show _ ≤ _; omega
  clear tied htag s1 hlen hss s2 hlen2 hss2
  have hd : decide ((40 : Int) < (len : Int)) = false := by simp; omega
  have hd2 : decide ((40 : Int) < (len2 : Int)) = false := by simp; omega
  have n1 := tagged_nilAhead
  have n2 := tagged_method
  have n3 := errno_nilAhead
  have n4 := errno_method
  go_enter Tryd.func6, Tryd.ntmps6
  go_wp2_with fail
  refine (tag_awake _ T.out).mono ?_
  rintro e w1 ⟨rfl, hb⟩
  have HB1 := Lib.hid hb
  have hw1 : w.heap.size ≤ w1.heap.size := hb.size
  clear hb
  have O1 := Lib.hid (own_empty w1 w.heap.size hw1)
  have B1 := Lib.hid (HB1.out.alloc hw1 (.cells #[] 9))
  have N1 : Hid (∀ j u, (ss.map Value.string)[j]? = some u → (w1.alloc (.cells #[] 9)).cell? (ad.add j) = some u) := fun j u hj => (B1.out.cell (cell_lt (S1.out j u hj))).trans (S1.out j u hj)
  go_wp2_with (first | (at_builtin; refine wpList_append_own _ rfl _ _ 22 rfl w.heap.size 9 i0 (.string ⟨#[]⟩) 1 16 Tryd.underlying22 hi hz0 hz1 hz2 rfl (by decide) _ _ _ rfl O1.out ad len cap (ss.map Value.string) rfl (by simp [L1.out]) N1.out (fun u hu => by obtain ⟨x, _, rfl⟩ := List.mem_map.1 hu; rfl) (by unfold maxLen; omega) (by omega) (by simp; omega) ?_; intro v2 w2 ho2 hg2 _; have O2 := Lib.hid ho2; have B2 := Lib.hid (B1.out.grown hg2 (by simp; omega) (fun k hk => (O1.out.lt k hk).1)); have hw2 : w.heap.size ≤ w2.heap.size := B2.out.size; clear ho2 hg2) | (at_builtin; refine wpList_append_own _ rfl _ _ 22 rfl w.heap.size 9 i0 (.string ⟨#[]⟩) 1 16 Tryd.underlying22 hi hz0 hz1 hz2 rfl (by decide) _ _ _ rfl O2.out ad2 len2 cap2 (ss2.map Value.string) rfl (by simp [L2.out]) (fun j u hj => (B2.out.cell (cell_lt (S2.out j u hj))).trans (S2.out j u hj)) (fun u hu => by obtain ⟨x, _, rfl⟩ := List.mem_map.1 hu; rfl) (by unfold maxLen; omega) (by omega) hw2 ?_; intro v3 w3 ho3 hg3 _; have O3 := Lib.hid ho3; have B3 := Lib.hid (B2.out.grown hg3 hw2 (fun k hk => (O2.out.lt k hk).1)); have hw3 : w.heap.size ≤ w3.heap.size := B3.out.size; clear ho3 hg3) | fail)
  refine (tagged_own n w.heap.size _ (len + len2) (ss ++ ss2) _ (by omega) (by have h := O3.out; simpa using h)).mono ?_
  rintro e w4 ⟨ve, rfl, hch, hb⟩
  have B4 := Lib.hid (Below.trans B3.out (hb.mono hw3))
  have CE := Lib.hid hch
  obtain ⟨be, rfl⟩ := hch.tagged (by intro h; have := congrArg List.length h; rw [List.length_reverse, LE.out] at this; simp at this; omega)
  clear hb hch
  go_wp2_with fail
  refine (HT.out _ B4.out).mono ?_
  rintro e w5 ⟨vf, rfl, hch, hb⟩
  have hw4 : w.heap.size ≤ w4.heap.size := B4.out.size
  have B5 := Lib.hid (Below.trans B4.out (hb.mono hw4))
  have CE5 := Lib.hid (CE.out.under hb)
  have CF5 := Lib.hid hch
  obtain ⟨bf, rfl⟩ := hch.tagged (by intro h; have := congrArg List.length h; rw [List.length_reverse, L1.out] at this; simp at this; omega)
  clear hb hch
  go_wp2_with fail
  refine (Tags_chain _ _ _ _ _ CE5.out (by rw [List.length_reverse, LE.out]; omega)).mono ?_
  rintro e w6 ⟨v6, rfl, hown, hb⟩
  have B6 := Lib.hid (Below.trans B5.out (hb.mono B5.out.size))
  have CE6 := Lib.hid (CE5.out.under hb)
  have CF6 := Lib.hid (CF5.out.under hb)
  rw [List.length_reverse, LE.out] at hown
  obtain ⟨ta, tac, rfl⟩ := own_slice hown
  clear hb hown
  go_wp2_with fail
  refine (Tags_chain _ _ _ _ _ CF6.out (by rw [List.length_reverse, L1.out]; omega)).mono ?_
  rintro e w7 ⟨v7, rfl, hown, hb⟩
  have B7 := Lib.hid (Below.trans B6.out (hb.mono B6.out.size))
  have CE7 := Lib.hid (CE6.out.under hb)
  have CF7 := Lib.hid (CF6.out.under hb)
  rw [List.length_reverse, L1.out] at hown
  obtain ⟨tb, tbc, rfl⟩ := own_slice hown
  clear hb hown
  go_wp2_with fail
  refine (Num_some _ _ _ n CE7.out (T.out.under T.out.lt B7.out)).mono ?_
  rintro e w8 ⟨rfl, hb⟩
  have B8 := Lib.hid (Below.trans B7.out (hb.mono B7.out.size))
  have CE8 := Lib.hid (CE7.out.under hb)
  have CF8 := Lib.hid (CF7.out.under hb)
  clear hb
  go_wp2_with fail
  refine (Num_some _ _ _ n CF8.out (T.out.under T.out.lt B8.out)).mono ?_
  rintro e w9 ⟨rfl, hb⟩
  have B9 := Lib.hid (Below.trans B8.out (hb.mono B8.out.size))
  have CE9 := Lib.hid (CE8.out.under hb)
  have CF9 := Lib.hid (CF8.out.under hb)
  clear hb
  go_wp2_with fail
  refine (text_chain _ _ _ _ _ CE9.out Zem.out).mono ?_
  rintro e w10 ⟨rfl, hb⟩
  have B10 := Lib.hid (Below.trans B9.out (hb.mono B9.out.size))
  have CE10 := Lib.hid (CE9.out.under hb)
  have CF10 := Lib.hid (CF9.out.under hb)
  clear hb
  go_wp2_with fail
  refine (text_chain _ _ _ _ _ CF10.out Zfm.out).mono ?_
  rintro e w11 ⟨rfl, hb⟩
  have B11 := Lib.hid (Below.trans B10.out (hb.mono B10.out.size))
  have CE11 := Lib.hid (CE10.out.under hb)
  have CF11 := Lib.hid (CF10.out.under hb)
  clear hb
  have Zm2 := Zm.out
  go_wp2_with fail
  go_ret
  exact ⟨by have h := Zm2; simp at h; simp; try exact h, B11.out⟩
set_option maxHeartbeats 2000000 in
theorem deep_some_some_tn (n : Int) (ad : Addr) (cap : Nat) (ss : List ByteArray) (hlen : ss.length = 0) (hss : ∀ s ∈ ss, s.size ≤ 140737488351232) (ad2 : Addr) (len2 cap2 : Nat) (ss2 : List ByteArray) (hlen2 : ss2.length = len2) (hl2 : len2 ≤ 40) (hss2 : ∀ s ∈ ss2, s.size ≤ 140737488351232) (hp : 0 < len2) (w : World) (tied : Tied w)
    (s1 : ∀ j u, (ss.map Value.string)[j]? = some u → w.cell? (ad.add j) = some u)
    (s2 : ∀ j u, (ss2.map Value.string)[j]? = some u → w.cell? (ad2.add j) = some u)
    (htag : ∀ W, KF w W → Calls Tryd.prog 16 #[.int .i64 n, .slice (some ad) 0 cap] W (TaggedPost ss n W)) :
    Calls Tryd.prog 6 #[.int .i64 n, .slice (some ad) 0 cap, .slice (some ad2) len2 cap2] w fun e w' => e = .returned (.bool true) ∧ Below w.heap.size w w' := by
  obtain ⟨i0, hi, hz0, hz1, hz2⟩ := info_parts infoS
  have T := Lib.hid tied
  have HT := Lib.hid htag
  have S1 := Lib.hid s1
  have L1 := Lib.hid hlen
  have S2 := Lib.hid s2
  have L2 := Lib.hid hlen2
  have LE : Hid ((ss ++ ss2).length = 0 + len2) := by show _ = _; rw [List.length_append, hlen, hlen2]
  have Zf := Lib.hid (textB_size ss.reverse n (fun x hx => hss x (List.mem_reverse.1 hx)))
  have Ze := Lib.hid (textB_size (ss ++ ss2).reverse n (fun x hx => by rcases List.mem_append.1 (List.mem_reverse.1 hx) with h | h; exact hss x h; exact hss2 x h))
  have Zm := Lib.hid (show (textB ss.reverse (some n)).size ≤ (textB (ss ++ ss2).reverse (some n)).size by rw [List.reverse_append]; exact textB_more _ _ _)
  have Zfm : Hid ((textB ss.reverse (some n)).size ≤ 9223372036854775807) := by
    have h := Zf.out; rw [List.length_reverse, hlen] at h
    have h4 := h
    show _ ≤ _; omega
  have Zem : Hid ((textB (ss ++ ss2).reverse (some n)).size ≤ 9223372036854775807) := by
    have h := Ze.out; rw [List.length_reverse, LE.out] at h
    have h4 := Nat.mul_le_mul_right 140737488351233 (show 0 + len2 ≤ 80 by omega)
    show _ ≤ _; omega
  have F0 : Hid (ss.reverse = []) := by show _ = _; rw [List.eq_nil_of_length_eq_zero (show ss.length = 0 by omega)]; rfl
  clear tied htag s1 hlen hss s2 hlen2 hss2
  have hd2 : decide ((40 : Int) < (len2 : Int)) = false := by simp; omega
  have n1 := tagged_nilAhead
  have n2 := tagged_method
  have n3 := errno_nilAhead
  have n4 := errno_method
  go_enter Tryd.func6, Tryd.ntmps6
  go_wp2_with fail
  refine (tag_awake _ T.out).mono ?_
  rintro e w1 ⟨rfl, hb⟩
  have HB1 := Lib.hid hb
  have hw1 : w.heap.size ≤ w1.heap.size := hb.size
  clear hb
  have O1 := Lib.hid (own_empty w1 w.heap.size hw1)
  have B1 := Lib.hid (HB1.out.alloc hw1 (.cells #[] 9))
  have N1 : Hid (∀ j u, (ss.map Value.string)[j]? = some u → (w1.alloc (.cells #[] 9)).cell? (ad.add j) = some u) := fun j u hj => (B1.out.cell (cell_lt (S1.out j u hj))).trans (S1.out j u hj)
  go_wp2_with (first | (at_builtin; refine wpList_append_own _ rfl _ _ 22 rfl w.heap.size 9 i0 (.string ⟨#[]⟩) 1 16 Tryd.underlying22 hi hz0 hz1 hz2 rfl (by decide) _ _ _ rfl O1.out ad 0 cap (ss.map Value.string) rfl (by simp [L1.out]) N1.out (fun u hu => by obtain ⟨x, _, rfl⟩ := List.mem_map.1 hu; rfl) (by unfold maxLen; omega) (by omega) (by simp; omega) ?_; intro v2 w2 ho2 hg2 _; have O2 := Lib.hid ho2; have B2 := Lib.hid (B1.out.grown hg2 (by simp; omega) (fun k hk => (O1.out.lt k hk).1)); have hw2 : w.heap.size ≤ w2.heap.size := B2.out.size; clear ho2 hg2) | (at_builtin; refine wpList_append_own _ rfl _ _ 22 rfl w.heap.size 9 i0 (.string ⟨#[]⟩) 1 16 Tryd.underlying22 hi hz0 hz1 hz2 rfl (by decide) _ _ _ rfl O2.out ad2 len2 cap2 (ss2.map Value.string) rfl (by simp [L2.out]) (fun j u hj => (B2.out.cell (cell_lt (S2.out j u hj))).trans (S2.out j u hj)) (fun u hu => by obtain ⟨x, _, rfl⟩ := List.mem_map.1 hu; rfl) (by unfold maxLen; omega) (by omega) hw2 ?_; intro v3 w3 ho3 hg3 _; have O3 := Lib.hid ho3; have B3 := Lib.hid (B2.out.grown hg3 hw2 (fun k hk => (O2.out.lt k hk).1)); have hw3 : w.heap.size ≤ w3.heap.size := B3.out.size; clear ho3 hg3) | fail)
  refine (tagged_own n w.heap.size _ (0 + len2) (ss ++ ss2) _ (by omega) (by have h := O3.out; simpa using h)).mono ?_
  rintro e w4 ⟨ve, rfl, hch, hb⟩
  have B4 := Lib.hid (Below.trans B3.out (hb.mono hw3))
  have CE := Lib.hid hch
  obtain ⟨be, rfl⟩ := hch.tagged (by intro h; have := congrArg List.length h; rw [List.length_reverse, LE.out] at this; simp at this; omega)
  clear hb hch
  go_wp2_with fail
  refine (HT.out _ B4.out).mono ?_
  rintro e w5 ⟨vf, rfl, hch, hb⟩
  have hw4 : w.heap.size ≤ w4.heap.size := B4.out.size
  have B5 := Lib.hid (Below.trans B4.out (hb.mono hw4))
  have CE5 := Lib.hid (CE.out.under hb)
  have CF5 := Lib.hid hch
  rw [F0.out] at hch
  cases hch
  clear hb
  go_wp2_with fail
  refine (Tags_chain _ _ _ _ _ CE5.out (by rw [List.length_reverse, LE.out]; omega)).mono ?_
  rintro e w6 ⟨v6, rfl, hown, hb⟩
  have B6 := Lib.hid (Below.trans B5.out (hb.mono B5.out.size))
  have CE6 := Lib.hid (CE5.out.under hb)
  have CF6 := Lib.hid (CF5.out.under hb)
  rw [List.length_reverse, LE.out] at hown
  obtain ⟨ta, tac, rfl⟩ := own_slice hown
  clear hb hown
  go_wp2_with fail
  refine (Tags_chain _ _ _ _ _ CF6.out (by rw [List.length_reverse, L1.out]; omega)).mono ?_
  rintro e w7 ⟨v7, rfl, hown, hb⟩
  have B7 := Lib.hid (Below.trans B6.out (hb.mono B6.out.size))
  have CE7 := Lib.hid (CE6.out.under hb)
  have CF7 := Lib.hid (CF6.out.under hb)
  rw [List.length_reverse, L1.out] at hown
  obtain ⟨tb, tbc, rfl⟩ := own_slice hown
  clear hb hown
  go_wp2_with fail
  refine (Num_some _ _ _ n CE7.out (T.out.under T.out.lt B7.out)).mono ?_
  rintro e w8 ⟨rfl, hb⟩
  have B8 := Lib.hid (Below.trans B7.out (hb.mono B7.out.size))
  have CE8 := Lib.hid (CE7.out.under hb)
  have CF8 := Lib.hid (CF7.out.under hb)
  clear hb
  go_wp2_with fail
  refine (Num_some _ _ _ n CF8.out (T.out.under T.out.lt B8.out)).mono ?_
  rintro e w9 ⟨rfl, hb⟩
  have B9 := Lib.hid (Below.trans B8.out (hb.mono B8.out.size))
  have CE9 := Lib.hid (CE8.out.under hb)
  have CF9 := Lib.hid (CF8.out.under hb)
  clear hb
  go_wp2_with fail
  refine (text_chain _ _ _ _ _ CE9.out Zem.out).mono ?_
  rintro e w10 ⟨rfl, hb⟩
  have B10 := Lib.hid (Below.trans B9.out (hb.mono B9.out.size))
  have CE10 := Lib.hid (CE9.out.under hb)
  have CF10 := Lib.hid (CF9.out.under hb)
  clear hb
  go_wp2_with fail
  refine (errno_as F0.out n _).mono ?_
  rintro e w11 ⟨rfl, hb⟩
  have B11 := Lib.hid (Below.trans B10.out (hb.mono B10.out.size))
  have CE11 := Lib.hid (CE10.out.under hb)
  have CF11 := Lib.hid (CF10.out.under hb)
  clear hb
  have Zm2 := Zm.out
  go_wp2_with fail
  go_ret
  exact ⟨by have h := Zm2; simp at h; simp; try exact h, B11.out⟩
set_option maxHeartbeats 2000000 in
theorem deep_some_some_nn (n : Int) (ad : Addr) (cap : Nat) (ss : List ByteArray) (hlen : ss.length = 0) (hss : ∀ s ∈ ss, s.size ≤ 140737488351232) (ad2 : Addr) (cap2 : Nat) (ss2 : List ByteArray) (hlen2 : ss2.length = 0) (hss2 : ∀ s ∈ ss2, s.size ≤ 140737488351232) (w : World) (tied : Tied w)
    (s1 : ∀ j u, (ss.map Value.string)[j]? = some u → w.cell? (ad.add j) = some u)
    (s2 : ∀ j u, (ss2.map Value.string)[j]? = some u → w.cell? (ad2.add j) = some u)
    (htag : ∀ W, KF w W → Calls Tryd.prog 16 #[.int .i64 n, .slice (some ad) 0 cap] W (TaggedPost ss n W)) :
    Calls Tryd.prog 6 #[.int .i64 n, .slice (some ad) 0 cap, .slice (some ad2) 0 cap2] w fun e w' => e = .returned (.bool true) ∧ Below w.heap.size w w' := by
  obtain ⟨i0, hi, hz0, hz1, hz2⟩ := info_parts infoS
  have T := Lib.hid tied
  have HT := Lib.hid htag
  have S1 := Lib.hid s1
  have L1 := Lib.hid hlen
  have S2 := Lib.hid s2
  have L2 := Lib.hid hlen2
  have LE : Hid ((ss ++ ss2).length = 0 + 0) := by show _ = _; rw [List.length_append, hlen, hlen2]
  have Zf := Lib.hid (textB_size ss.reverse n (fun x hx => hss x (List.mem_reverse.1 hx)))
  have Ze := Lib.hid (textB_size (ss ++ ss2).reverse n (fun x hx => by rcases List.mem_append.1 (List.mem_reverse.1 hx) with h | h; exact hss x h; exact hss2 x h))
  have Zm := Lib.hid (show (textB ss.reverse (some n)).size ≤ (textB (ss ++ ss2).reverse (some n)).size by rw [List.reverse_append]; exact textB_more _ _ _)
  have Zfm : Hid ((textB ss.reverse (some n)).size ≤ 9223372036854775807) := by
    have h := Zf.out; rw [List.length_reverse, hlen] at h
    have h4 := h
    show _ ≤ _; omega
  have Zem : Hid ((textB (ss ++ ss2).reverse (some n)).size ≤ 9223372036854775807) := by
    have h := Ze.out; rw [List.length_reverse, LE.out] at h
    exact Nat.le_trans h (by decide)
  have F0 : Hid (ss.reverse = []) := by show _ = _; rw [List.eq_nil_of_length_eq_zero (show ss.length = 0 by omega)]; rfl
  have E0 : Hid ((ss ++ ss2).reverse = []) := List.reverse_eq_nil_iff.2 (List.eq_nil_of_length_eq_zero LE.out)
  clear tied htag s1 hlen hss s2 hlen2 hss2
  have n1 := tagged_nilAhead
  have n2 := tagged_method
  have n3 := errno_nilAhead
  have n4 := errno_method
  go_enter Tryd.func6, Tryd.ntmps6
  go_wp2_with fail
  refine (tag_awake _ T.out).mono ?_
  rintro e w1 ⟨rfl, hb⟩
  have HB1 := Lib.hid hb
  have hw1 : w.heap.size ≤ w1.heap.size := hb.size
  clear hb
  have O1 := Lib.hid (own_empty w1 w.heap.size hw1)
  have B1 := Lib.hid (HB1.out.alloc hw1 (.cells #[] 9))
  have N1 : Hid (∀ j u, (ss.map Value.string)[j]? = some u → (w1.alloc (.cells #[] 9)).cell? (ad.add j) = some u) := fun j u hj => (B1.out.cell (cell_lt (S1.out j u hj))).trans (S1.out j u hj)
  go_wp2_with (first | (at_builtin; refine wpList_append_own _ rfl _ _ 22 rfl w.heap.size 9 i0 (.string ⟨#[]⟩) 1 16 Tryd.underlying22 hi hz0 hz1 hz2 rfl (by decide) _ _ _ rfl O1.out ad 0 cap (ss.map Value.string) rfl (by simp [L1.out]) N1.out (fun u hu => by obtain ⟨x, _, rfl⟩ := List.mem_map.1 hu; rfl) (by unfold maxLen; omega) (by omega) (by simp; omega) ?_; intro v2 w2 ho2 hg2 _; have O2 := Lib.hid ho2; have B2 := Lib.hid (B1.out.grown hg2 (by simp; omega) (fun k hk => (O1.out.lt k hk).1)); have hw2 : w.heap.size ≤ w2.heap.size := B2.out.size; clear ho2 hg2) | (at_builtin; refine wpList_append_own _ rfl _ _ 22 rfl w.heap.size 9 i0 (.string ⟨#[]⟩) 1 16 Tryd.underlying22 hi hz0 hz1 hz2 rfl (by decide) _ _ _ rfl O2.out ad2 0 cap2 (ss2.map Value.string) rfl (by simp [L2.out]) (fun j u hj => (B2.out.cell (cell_lt (S2.out j u hj))).trans (S2.out j u hj)) (fun u hu => by obtain ⟨x, _, rfl⟩ := List.mem_map.1 hu; rfl) (by unfold maxLen; omega) (by omega) hw2 ?_; intro v3 w3 ho3 hg3 _; have O3 := Lib.hid ho3; have B3 := Lib.hid (B2.out.grown hg3 hw2 (fun k hk => (O2.out.lt k hk).1)); have hw3 : w.heap.size ≤ w3.heap.size := B3.out.size; clear ho3 hg3) | fail)
  refine (tagged_own n w.heap.size _ (0 + 0) (ss ++ ss2) _ (by omega) (by have h := O3.out; simpa using h)).mono ?_
  rintro e w4 ⟨ve, rfl, hch, hb⟩
  have B4 := Lib.hid (Below.trans B3.out (hb.mono hw3))
  have CE := Lib.hid hch
  rw [E0.out] at hch
  cases hch
  clear hb
  go_wp2_with fail
  refine (HT.out _ B4.out).mono ?_
  rintro e w5 ⟨vf, rfl, hch, hb⟩
  have hw4 : w.heap.size ≤ w4.heap.size := B4.out.size
  have B5 := Lib.hid (Below.trans B4.out (hb.mono hw4))
  have CE5 := Lib.hid (CE.out.under hb)
  have CF5 := Lib.hid hch
  rw [F0.out] at hch
  cases hch
  clear hb
  go_wp2_with fail
  refine (Tags_chain _ _ _ _ _ CE5.out (by rw [List.length_reverse, LE.out]; omega)).mono ?_
  rintro e w6 ⟨v6, rfl, hown, hb⟩
  have B6 := Lib.hid (Below.trans B5.out (hb.mono B5.out.size))
  have CE6 := Lib.hid (CE5.out.under hb)
  have CF6 := Lib.hid (CF5.out.under hb)
  rw [List.length_reverse, LE.out] at hown
  obtain ⟨ta, tac, rfl⟩ := own_slice hown
  clear hb hown
  go_wp2_with fail
  refine (Tags_chain _ _ _ _ _ CF6.out (by rw [List.length_reverse, L1.out]; omega)).mono ?_
  rintro e w7 ⟨v7, rfl, hown, hb⟩
  have B7 := Lib.hid (Below.trans B6.out (hb.mono B6.out.size))
  have CE7 := Lib.hid (CE6.out.under hb)
  have CF7 := Lib.hid (CF6.out.under hb)
  rw [List.length_reverse, L1.out] at hown
  obtain ⟨tb, tbc, rfl⟩ := own_slice hown
  clear hb hown
  go_wp2_with fail
  refine (Num_some _ _ _ n CE7.out (T.out.under T.out.lt B7.out)).mono ?_
  rintro e w8 ⟨rfl, hb⟩
  have B8 := Lib.hid (Below.trans B7.out (hb.mono B7.out.size))
  have CE8 := Lib.hid (CE7.out.under hb)
  have CF8 := Lib.hid (CF7.out.under hb)
  clear hb
  go_wp2_with fail
  refine (Num_some _ _ _ n CF8.out (T.out.under T.out.lt B8.out)).mono ?_
  rintro e w9 ⟨rfl, hb⟩
  have B9 := Lib.hid (Below.trans B8.out (hb.mono B8.out.size))
  have CE9 := Lib.hid (CE8.out.under hb)
  have CF9 := Lib.hid (CF8.out.under hb)
  clear hb
  go_wp2_with fail
  refine (errno_as E0.out n _).mono ?_
  rintro e w10 ⟨rfl, hb⟩
  have B10 := Lib.hid (Below.trans B9.out (hb.mono B9.out.size))
  have CE10 := Lib.hid (CE9.out.under hb)
  have CF10 := Lib.hid (CF9.out.under hb)
  clear hb
  go_wp2_with fail
  refine (errno_as F0.out n _).mono ?_
  rintro e w11 ⟨rfl, hb⟩
  have B11 := Lib.hid (Below.trans B10.out (hb.mono B10.out.size))
  have CE11 := Lib.hid (CE10.out.under hb)
  have CF11 := Lib.hid (CF10.out.under hb)
  clear hb
  have Zm2 := Zm.out
  go_wp2_with fail
  go_ret
  exact ⟨by have h := Zm2; simp at h; simp; try exact h, B11.out⟩
set_option maxHeartbeats 2000000 in
theorem deep_some_none_tt (n : Int) (ad : Addr) (len cap : Nat) (ss : List ByteArray) (hlen : ss.length = len) (hl : len ≤ 40) (hss : ∀ s ∈ ss, s.size ≤ 140737488351232) (hp : 0 < len) (w : World) (tied : Tied w)
    (s1 : ∀ j u, (ss.map Value.string)[j]? = some u → w.cell? (ad.add j) = some u)
    (htag : ∀ W, KF w W → Calls Tryd.prog 16 #[.int .i64 n, .slice (some ad) len cap] W (TaggedPost ss n W)) :
    Calls Tryd.prog 6 #[.int .i64 n, .slice (some ad) len cap, .slice none 0 0] w fun e w' => e = .returned (.bool true) ∧ Below w.heap.size w w' := by
  obtain ⟨i0, hi, hz0, hz1, hz2⟩ := info_parts infoS
  have T := Lib.hid tied
  have HT := Lib.hid htag
  have S1 := Lib.hid s1
  have L1 := Lib.hid hlen
  have LE : Hid ((ss ++ []).length = len + 0) := by show _ = _; rw [List.length_append, hlen]; rfl
  have Zf := Lib.hid (textB_size ss.reverse n (fun x hx => hss x (List.mem_reverse.1 hx)))
  have Ze := Lib.hid (textB_size (ss ++ []).reverse n (fun x hx => by rcases List.mem_append.1 (List.mem_reverse.1 hx) with h | h; exact hss x h; cases h))
  have Zm := Lib.hid (show (textB ss.reverse (some n)).size ≤ (textB (ss ++ []).reverse (some n)).size by rw [List.reverse_append]; exact textB_more _ _ _)
  have Zfm : Hid ((textB ss.reverse (some n)).size ≤ 9223372036854775807) := by
    have h := Zf.out; rw [List.length_reverse, hlen] at h
    have h4 := Nat.mul_le_mul_right 140737488351233 hl
    show _ ≤ _; omega
  have Zem : Hid ((textB (ss ++ []).reverse (some n)).size ≤ 9223372036854775807) := by
    have h := Ze.out; rw [List.length_reverse, LE.out] at h
    have h4 := Nat.mul_le_mul_right 140737488351233 (show len + 0 ≤ 80 by omega)
    show _ ≤ _; omega
  clear tied htag s1 hlen hss 
  have hd : decide ((40 : Int) < (len : Int)) = false := by simp; omega
  have n1 := tagged_nilAhead
  have n2 := tagged_method
  have n3 := errno_nilAhead
  have n4 := errno_method
  go_enter Tryd.func6, Tryd.ntmps6
  go_wp2_with fail
  refine (tag_awake _ T.out).mono ?_
  rintro e w1 ⟨rfl, hb⟩
  have HB1 := Lib.hid hb
  have hw1 : w.heap.size ≤ w1.heap.size := hb.size
  clear hb
  have O1 := Lib.hid (own_empty w1 w.heap.size hw1)
  have B1 := Lib.hid (HB1.out.alloc hw1 (.cells #[] 9))
  have N1 : Hid (∀ j u, (ss.map Value.string)[j]? = some u → (w1.alloc (.cells #[] 9)).cell? (ad.add j) = some u) := fun j u hj => (B1.out.cell (cell_lt (S1.out j u hj))).trans (S1.out j u hj)
  go_wp2_with (first | (at_builtin; refine wpList_append_own _ rfl _ _ 22 rfl w.heap.size 9 i0 (.string ⟨#[]⟩) 1 16 Tryd.underlying22 hi hz0 hz1 hz2 rfl (by decide) _ _ _ rfl O1.out ad len cap (ss.map Value.string) rfl (by simp [L1.out]) N1.out (fun u hu => by obtain ⟨x, _, rfl⟩ := List.mem_map.1 hu; rfl) (by unfold maxLen; omega) (by omega) (by simp; omega) ?_; intro v2 w2 ho2 hg2 _; have O2 := Lib.hid ho2; have B2 := Lib.hid (B1.out.grown hg2 (by simp; omega) (fun k hk => (O1.out.lt k hk).1)); have hw2 : w.heap.size ≤ w2.heap.size := B2.out.size; clear ho2 hg2) | (at_builtin; refine wpList_append_own_none rfl _ _ 22 rfl w.heap.size 9 i0 1 Tryd.underlying22 hi _ _ _ rfl O2.out rfl ?_; have O3 := Lib.hid O2.out; have B3 := Lib.hid B2.out; have hw3 := hw2; clear O2) | fail)
  refine (tagged_own n w.heap.size _ (len + 0) (ss ++ []) _ (by omega) (by have h := O3.out; simpa using h)).mono ?_
  rintro e w4 ⟨ve, rfl, hch, hb⟩
  have B4 := Lib.hid (Below.trans B3.out (hb.mono hw3))
  have CE := Lib.hid hch
  obtain ⟨be, rfl⟩ := hch.tagged (by intro h; have := congrArg List.length h; rw [List.length_reverse, LE.out] at this; simp at this; omega)
  clear hb hch
  go_wp2_with fail
  refine (HT.out _ B4.out).mono ?_
  rintro e w5 ⟨vf, rfl, hch, hb⟩
  have hw4 : w.heap.size ≤ w4.heap.size := B4.out.size
  have B5 := Lib.hid (Below.trans B4.out (hb.mono hw4))
  have CE5 := Lib.hid (CE.out.under hb)
  have CF5 := Lib.hid hch
  obtain ⟨bf, rfl⟩ := hch.tagged (by intro h; have := congrArg List.length h; rw [List.length_reverse, L1.out] at this; simp at this; omega)
  clear hb hch
  go_wp2_with fail
  refine (Tags_chain _ _ _ _ _ CE5.out (by rw [List.length_reverse, LE.out]; omega)).mono ?_
  rintro e w6 ⟨v6, rfl, hown, hb⟩
  have B6 := Lib.hid (Below.trans B5.out (hb.mono B5.out.size))
  have CE6 := Lib.hid (CE5.out.under hb)
  have CF6 := Lib.hid (CF5.out.under hb)
  rw [List.length_reverse, LE.out] at hown
  obtain ⟨ta, tac, rfl⟩ := own_slice hown
  clear hb hown
  go_wp2_with fail
  refine (Tags_chain _ _ _ _ _ CF6.out (by rw [List.length_reverse, L1.out]; omega)).mono ?_
  rintro e w7 ⟨v7, rfl, hown, hb⟩
  have B7 := Lib.hid (Below.trans B6.out (hb.mono B6.out.size))
  have CE7 := Lib.hid (CE6.out.under hb)
  have CF7 := Lib.hid (CF6.out.under hb)
  rw [List.length_reverse, L1.out] at hown
  obtain ⟨tb, tbc, rfl⟩ := own_slice hown
  clear hb hown
  go_wp2_with fail
  refine (Num_some _ _ _ n CE7.out (T.out.under T.out.lt B7.out)).mono ?_
  rintro e w8 ⟨rfl, hb⟩
  have B8 := Lib.hid (Below.trans B7.out (hb.mono B7.out.size))
  have CE8 := Lib.hid (CE7.out.under hb)
  have CF8 := Lib.hid (CF7.out.under hb)
  clear hb
  go_wp2_with fail
  refine (Num_some _ _ _ n CF8.out (T.out.under T.out.lt B8.out)).mono ?_
  rintro e w9 ⟨rfl, hb⟩
  have B9 := Lib.hid (Below.trans B8.out (hb.mono B8.out.size))
  have CE9 := Lib.hid (CE8.out.under hb)
  have CF9 := Lib.hid (CF8.out.under hb)
  clear hb
  go_wp2_with fail
  refine (text_chain _ _ _ _ _ CE9.out Zem.out).mono ?_
  rintro e w10 ⟨rfl, hb⟩
  have B10 := Lib.hid (Below.trans B9.out (hb.mono B9.out.size))
  have CE10 := Lib.hid (CE9.out.under hb)
  have CF10 := Lib.hid (CF9.out.under hb)
  clear hb
  go_wp2_with fail
  refine (text_chain _ _ _ _ _ CF10.out Zfm.out).mono ?_
  rintro e w11 ⟨rfl, hb⟩
  have B11 := Lib.hid (Below.trans B10.out (hb.mono B10.out.size))
  have CE11 := Lib.hid (CE10.out.under hb)
  have CF11 := Lib.hid (CF10.out.under hb)
  clear hb
  have Zm2 := Zm.out
  go_wp2_with fail
  go_ret
  exact ⟨by have h := Zm2; simp at h; simp; try exact h, B11.out⟩
set_option maxHeartbeats 2000000 in
theorem deep_some_none_nn (n : Int) (ad : Addr) (cap : Nat) (ss : List ByteArray) (hlen : ss.length = 0) (hss : ∀ s ∈ ss, s.size ≤ 140737488351232) (w : World) (tied : Tied w)
    (s1 : ∀ j u, (ss.map Value.string)[j]? = some u → w.cell? (ad.add j) = some u)
    (htag : ∀ W, KF w W → Calls Tryd.prog 16 #[.int .i64 n, .slice (some ad) 0 cap] W (TaggedPost ss n W)) :
    Calls Tryd.prog 6 #[.int .i64 n, .slice (some ad) 0 cap, .slice none 0 0] w fun e w' => e = .returned (.bool true) ∧ Below w.heap.size w w' := by
  obtain ⟨i0, hi, hz0, hz1, hz2⟩ := info_parts infoS
  have T := Lib.hid tied
  have HT := Lib.hid htag
  have S1 := Lib.hid s1
  have L1 := Lib.hid hlen
  have LE : Hid ((ss ++ []).length = 0 + 0) := by show _ = _; rw [List.length_append, hlen]; rfl
  have Zf := Lib.hid (textB_size ss.reverse n (fun x hx => hss x (List.mem_reverse.1 hx)))
  have Ze := Lib.hid (textB_size (ss ++ []).reverse n (fun x hx => by rcases List.mem_append.1 (List.mem_reverse.1 hx) with h | h; exact hss x h; cases h))
  have Zm := Lib.hid (show (textB ss.reverse (some n)).size ≤ (textB (ss ++ []).reverse (some n)).size by rw [List.reverse_append]; exact textB_more _ _ _)
  have Zfm : Hid ((textB ss.reverse (some n)).size ≤ 9223372036854775807) := by
    have h := Zf.out; rw [List.length_reverse, hlen] at h
    have h4 := h
    show _ ≤ _; omega
  have Zem : Hid ((textB (ss ++ []).reverse (some n)).size ≤ 9223372036854775807) := by
    have h := Ze.out; rw [List.length_reverse, LE.out] at h
    exact Nat.le_trans h (by decide)
  have F0 : Hid (ss.reverse = []) := by show _ = _; rw [List.eq_nil_of_length_eq_zero (show ss.length = 0 by omega)]; rfl
  have E0 : Hid ((ss ++ []).reverse = []) := List.reverse_eq_nil_iff.2 (List.eq_nil_of_length_eq_zero LE.out)
  clear tied htag s1 hlen hss 
  have n1 := tagged_nilAhead
  have n2 := tagged_method
  have n3 := errno_nilAhead
  have n4 := errno_method
  go_enter Tryd.func6, Tryd.ntmps6
  go_wp2_with fail
  refine (tag_awake _ T.out).mono ?_
  rintro e w1 ⟨rfl, hb⟩
  have HB1 := Lib.hid hb
  have hw1 : w.heap.size ≤ w1.heap.size := hb.size
  clear hb
  have O1 := Lib.hid (own_empty w1 w.heap.size hw1)
  have B1 := Lib.hid (HB1.out.alloc hw1 (.cells #[] 9))
  have N1 : Hid (∀ j u, (ss.map Value.string)[j]? = some u → (w1.alloc (.cells #[] 9)).cell? (ad.add j) = some u) := fun j u hj => (B1.out.cell (cell_lt (S1.out j u hj))).trans (S1.out j u hj)
  go_wp2_with (first | (at_builtin; refine wpList_append_own _ rfl _ _ 22 rfl w.heap.size 9 i0 (.string ⟨#[]⟩) 1 16 Tryd.underlying22 hi hz0 hz1 hz2 rfl (by decide) _ _ _ rfl O1.out ad 0 cap (ss.map Value.string) rfl (by simp [L1.out]) N1.out (fun u hu => by obtain ⟨x, _, rfl⟩ := List.mem_map.1 hu; rfl) (by unfold maxLen; omega) (by omega) (by simp; omega) ?_; intro v2 w2 ho2 hg2 _; have O2 := Lib.hid ho2; have B2 := Lib.hid (B1.out.grown hg2 (by simp; omega) (fun k hk => (O1.out.lt k hk).1)); have hw2 : w.heap.size ≤ w2.heap.size := B2.out.size; clear ho2 hg2) | (at_builtin; refine wpList_append_own_none rfl _ _ 22 rfl w.heap.size 9 i0 1 Tryd.underlying22 hi _ _ _ rfl O2.out rfl ?_; have O3 := Lib.hid O2.out; have B3 := Lib.hid B2.out; have hw3 := hw2; clear O2) | fail)
  refine (tagged_own n w.heap.size _ (0 + 0) (ss ++ []) _ (by omega) (by have h := O3.out; simpa using h)).mono ?_
  rintro e w4 ⟨ve, rfl, hch, hb⟩
  have B4 := Lib.hid (Below.trans B3.out (hb.mono hw3))
  have CE := Lib.hid hch
  rw [E0.out] at hch
  cases hch
  clear hb
  go_wp2_with fail
  refine (HT.out _ B4.out).mono ?_
  rintro e w5 ⟨vf, rfl, hch, hb⟩
  have hw4 : w.heap.size ≤ w4.heap.size := B4.out.size
  have B5 := Lib.hid (Below.trans B4.out (hb.mono hw4))
  have CE5 := Lib.hid (CE.out.under hb)
  have CF5 := Lib.hid hch
  rw [F0.out] at hch
  cases hch
  clear hb
  go_wp2_with fail
  refine (Tags_chain _ _ _ _ _ CE5.out (by rw [List.length_reverse, LE.out]; omega)).mono ?_
  rintro e w6 ⟨v6, rfl, hown, hb⟩
  have B6 := Lib.hid (Below.trans B5.out (hb.mono B5.out.size))
  have CE6 := Lib.hid (CE5.out.under hb)
  have CF6 := Lib.hid (CF5.out.under hb)
  rw [List.length_reverse, LE.out] at hown
  obtain ⟨ta, tac, rfl⟩ := own_slice hown
  clear hb hown
  go_wp2_with fail
  refine (Tags_chain _ _ _ _ _ CF6.out (by rw [List.length_reverse, L1.out]; omega)).mono ?_
  rintro e w7 ⟨v7, rfl, hown, hb⟩
  have B7 := Lib.hid (Below.trans B6.out (hb.mono B6.out.size))
  have CE7 := Lib.hid (CE6.out.under hb)
  have CF7 := Lib.hid (CF6.out.under hb)
  rw [List.length_reverse, L1.out] at hown
  obtain ⟨tb, tbc, rfl⟩ := own_slice hown
  clear hb hown
  go_wp2_with fail
  refine (Num_some _ _ _ n CE7.out (T.out.under T.out.lt B7.out)).mono ?_
  rintro e w8 ⟨rfl, hb⟩
  have B8 := Lib.hid (Below.trans B7.out (hb.mono B7.out.size))
  have CE8 := Lib.hid (CE7.out.under hb)
  have CF8 := Lib.hid (CF7.out.under hb)
  clear hb
  go_wp2_with fail
  refine (Num_some _ _ _ n CF8.out (T.out.under T.out.lt B8.out)).mono ?_
  rintro e w9 ⟨rfl, hb⟩
  have B9 := Lib.hid (Below.trans B8.out (hb.mono B8.out.size))
  have CE9 := Lib.hid (CE8.out.under hb)
  have CF9 := Lib.hid (CF8.out.under hb)
  clear hb
  go_wp2_with fail
  refine (errno_as E0.out n _).mono ?_
  rintro e w10 ⟨rfl, hb⟩
  have B10 := Lib.hid (Below.trans B9.out (hb.mono B9.out.size))
  have CE10 := Lib.hid (CE9.out.under hb)
  have CF10 := Lib.hid (CF9.out.under hb)
  clear hb
  go_wp2_with fail
  refine (errno_as F0.out n _).mono ?_
  rintro e w11 ⟨rfl, hb⟩
  have B11 := Lib.hid (Below.trans B10.out (hb.mono B10.out.size))
  have CE11 := Lib.hid (CE10.out.under hb)
  have CF11 := Lib.hid (CF10.out.under hb)
  clear hb
  have Zm2 := Zm.out
  go_wp2_with fail
  go_ret
  exact ⟨by have h := Zm2; simp at h; simp; try exact h, B11.out⟩
set_option maxHeartbeats 2000000 in
theorem deep_none_some_tn (n : Int) (ad2 : Addr) (len2 cap2 : Nat) (ss2 : List ByteArray) (hlen2 : ss2.length = len2) (hl2 : len2 ≤ 40) (hss2 : ∀ s ∈ ss2, s.size ≤ 140737488351232) (hp : 0 < len2) (w : World) (tied : Tied w)
    (s2 : ∀ j u, (ss2.map Value.string)[j]? = some u → w.cell? (ad2.add j) = some u)
    (htag : ∀ W, KF w W → Calls Tryd.prog 16 #[.int .i64 n, .slice none 0 0] W (TaggedPost [] n W)) :
    Calls Tryd.prog 6 #[.int .i64 n, .slice none 0 0, .slice (some ad2) len2 cap2] w fun e w' => e = .returned (.bool true) ∧ Below w.heap.size w w' := by
  obtain ⟨i0, hi, hz0, hz1, hz2⟩ := info_parts infoS
  have T := Lib.hid tied
  have HT := Lib.hid htag
  have S2 := Lib.hid s2
  have L2 := Lib.hid hlen2
  have LE : Hid (([] ++ ss2).length = 0 + len2) := by show _ = _; rw [List.length_append, hlen2]; rfl
  have Zf := Lib.hid (textB_size ([] : List ByteArray).reverse n (fun x hx => by cases hx))
  have Ze := Lib.hid (textB_size ([] ++ ss2).reverse n (fun x hx => by rcases List.mem_append.1 (List.mem_reverse.1 hx) with h | h; cases h; exact hss2 x h))
  have Zm := Lib.hid (show (textB ([] : List ByteArray).reverse (some n)).size ≤ (textB ([] ++ ss2).reverse (some n)).size by rw [List.reverse_append]; exact textB_more _ _ _)
  have Zfm : Hid ((textB ([] : List ByteArray).reverse (some n)).size ≤ 9223372036854775807) := by
    have h := Zf.out; rw [List.length_reverse, List.length_nil] at h
    have h4 := h
    show _ ≤ _; omega
  have Zem : Hid ((textB ([] ++ ss2).reverse (some n)).size ≤ 9223372036854775807) := by
    have h := Ze.out; rw [List.length_reverse, LE.out] at h
    have h4 := Nat.mul_le_mul_right 140737488351233 (show 0 + len2 ≤ 80 by omega)
    show _ ≤ _; omega
  have F0 : Hid (([] : List ByteArray).reverse = []) := by show _ = _; rfl
  clear tied htag s2 hlen2 hss2
  have hd2 : decide ((40 : Int) < (len2 : Int)) = false := by simp; omega
  have n1 := tagged_nilAhead
  have n2 := tagged_method
  have n3 := errno_nilAhead
  have n4 := errno_method
  go_enter Tryd.func6, Tryd.ntmps6
  go_wp2_with fail
  refine (tag_awake _ T.out).mono ?_
  rintro e w1 ⟨rfl, hb⟩
  have HB1 := Lib.hid hb
  have hw1 : w.heap.size ≤ w1.heap.size := hb.size
  clear hb
  have O1 := Lib.hid (own_empty w1 w.heap.size hw1)
  have B1 := Lib.hid (HB1.out.alloc hw1 (.cells #[] 9))
  go_wp2_with (first | (at_builtin; refine wpList_append_own_none rfl _ _ 22 rfl w.heap.size 9 i0 1 Tryd.underlying22 hi _ _ _ rfl O1.out rfl ?_; have O2 := Lib.hid O1.out; have B2 := Lib.hid B1.out; have hw2 : w.heap.size ≤ (w1.alloc (.cells #[] 9)).heap.size := B2.out.size; clear O1) | (at_builtin; refine wpList_append_own _ rfl _ _ 22 rfl w.heap.size 9 i0 (.string ⟨#[]⟩) 1 16 Tryd.underlying22 hi hz0 hz1 hz2 rfl (by decide) _ _ _ rfl O2.out ad2 len2 cap2 (ss2.map Value.string) rfl (by simp [L2.out]) (fun j u hj => (B2.out.cell (cell_lt (S2.out j u hj))).trans (S2.out j u hj)) (fun u hu => by obtain ⟨x, _, rfl⟩ := List.mem_map.1 hu; rfl) (by unfold maxLen; omega) (by omega) hw2 ?_; intro v3 w3 ho3 hg3 _; have O3 := Lib.hid ho3; have B3 := Lib.hid (B2.out.grown hg3 hw2 (fun k hk => (O2.out.lt k hk).1)); have hw3 : w.heap.size ≤ w3.heap.size := B3.out.size; clear ho3 hg3) | fail)
  refine (tagged_own n w.heap.size _ (0 + len2) ([] ++ ss2) _ (by omega) (by have h := O3.out; simpa using h)).mono ?_
  rintro e w4 ⟨ve, rfl, hch, hb⟩
  have B4 := Lib.hid (Below.trans B3.out (hb.mono hw3))
  have CE := Lib.hid hch
  obtain ⟨be, rfl⟩ := hch.tagged (by intro h; have := congrArg List.length h; rw [List.length_reverse, LE.out] at this; simp at this; omega)
  clear hb hch
  go_wp2_with fail
  refine (HT.out _ B4.out).mono ?_
  rintro e w5 ⟨vf, rfl, hch, hb⟩
  have hw4 : w.heap.size ≤ w4.heap.size := B4.out.size
  have B5 := Lib.hid (Below.trans B4.out (hb.mono hw4))
  have CE5 := Lib.hid (CE.out.under hb)
  have CF5 := Lib.hid hch
  rw [F0.out] at hch
  cases hch
  clear hb
  go_wp2_with fail
  refine (Tags_chain _ _ _ _ _ CE5.out (by rw [List.length_reverse, LE.out]; omega)).mono ?_
  rintro e w6 ⟨v6, rfl, hown, hb⟩
  have B6 := Lib.hid (Below.trans B5.out (hb.mono B5.out.size))
  have CE6 := Lib.hid (CE5.out.under hb)
  have CF6 := Lib.hid (CF5.out.under hb)
  rw [List.length_reverse, LE.out] at hown
  obtain ⟨ta, tac, rfl⟩ := own_slice hown
  clear hb hown
  go_wp2_with fail
  refine (Tags_chain _ _ _ _ _ CF6.out (by rw [List.length_reverse, List.length_nil]; omega)).mono ?_
  rintro e w7 ⟨v7, rfl, hown, hb⟩
  have B7 := Lib.hid (Below.trans B6.out (hb.mono B6.out.size))
  have CE7 := Lib.hid (CE6.out.under hb)
  have CF7 := Lib.hid (CF6.out.under hb)
  rw [List.length_reverse, List.length_nil] at hown
  obtain ⟨tb, tbc, rfl⟩ := own_slice hown
  clear hb hown
  go_wp2_with fail
  refine (Num_some _ _ _ n CE7.out (T.out.under T.out.lt B7.out)).mono ?_
  rintro e w8 ⟨rfl, hb⟩
  have B8 := Lib.hid (Below.trans B7.out (hb.mono B7.out.size))
  have CE8 := Lib.hid (CE7.out.under hb)
  have CF8 := Lib.hid (CF7.out.under hb)
  clear hb
  go_wp2_with fail
  refine (Num_some _ _ _ n CF8.out (T.out.under T.out.lt B8.out)).mono ?_
  rintro e w9 ⟨rfl, hb⟩
  have B9 := Lib.hid (Below.trans B8.out (hb.mono B8.out.size))
  have CE9 := Lib.hid (CE8.out.under hb)
  have CF9 := Lib.hid (CF8.out.under hb)
  clear hb
  go_wp2_with fail
  refine (text_chain _ _ _ _ _ CE9.out Zem.out).mono ?_
  rintro e w10 ⟨rfl, hb⟩
  have B10 := Lib.hid (Below.trans B9.out (hb.mono B9.out.size))
  have CE10 := Lib.hid (CE9.out.under hb)
  have CF10 := Lib.hid (CF9.out.under hb)
  clear hb
  go_wp2_with fail
  refine (errno_as F0.out n _).mono ?_
  rintro e w11 ⟨rfl, hb⟩
  have B11 := Lib.hid (Below.trans B10.out (hb.mono B10.out.size))
  have CE11 := Lib.hid (CE10.out.under hb)
  have CF11 := Lib.hid (CF10.out.under hb)
  clear hb
  have Zm2 := Zm.out
  go_wp2_with fail
  go_ret
  exact ⟨by have h := Zm2; simp at h; simp; try exact h, B11.out⟩
set_option maxHeartbeats 2000000 in
theorem deep_none_some_nn (n : Int) (ad2 : Addr) (cap2 : Nat) (ss2 : List ByteArray) (hlen2 : ss2.length = 0) (hss2 : ∀ s ∈ ss2, s.size ≤ 140737488351232) (w : World) (tied : Tied w)
    (s2 : ∀ j u, (ss2.map Value.string)[j]? = some u → w.cell? (ad2.add j) = some u)
    (htag : ∀ W, KF w W → Calls Tryd.prog 16 #[.int .i64 n, .slice none 0 0] W (TaggedPost [] n W)) :
    Calls Tryd.prog 6 #[.int .i64 n, .slice none 0 0, .slice (some ad2) 0 cap2] w fun e w' => e = .returned (.bool true) ∧ Below w.heap.size w w' := by
  obtain ⟨i0, hi, hz0, hz1, hz2⟩ := info_parts infoS
  have T := Lib.hid tied
  have HT := Lib.hid htag
  have S2 := Lib.hid s2
  have L2 := Lib.hid hlen2
  have LE : Hid (([] ++ ss2).length = 0 + 0) := by show _ = _; rw [List.length_append, hlen2]; rfl
  have Zf := Lib.hid (textB_size ([] : List ByteArray).reverse n (fun x hx => by cases hx))
  have Ze := Lib.hid (textB_size ([] ++ ss2).reverse n (fun x hx => by rcases List.mem_append.1 (List.mem_reverse.1 hx) with h | h; cases h; exact hss2 x h))
  have Zm := Lib.hid (show (textB ([] : List ByteArray).reverse (some n)).size ≤ (textB ([] ++ ss2).reverse (some n)).size by rw [List.reverse_append]; exact textB_more _ _ _)
  have Zfm : Hid ((textB ([] : List ByteArray).reverse (some n)).size ≤ 9223372036854775807) := by
    have h := Zf.out; rw [List.length_reverse, List.length_nil] at h
    have h4 := h
    show _ ≤ _; omega
  have Zem : Hid ((textB ([] ++ ss2).reverse (some n)).size ≤ 9223372036854775807) := by
    have h := Ze.out; rw [List.length_reverse, LE.out] at h
    exact Nat.le_trans h (by decide)
  have F0 : Hid (([] : List ByteArray).reverse = []) := by show _ = _; rfl
  have E0 : Hid (([] ++ ss2).reverse = []) := List.reverse_eq_nil_iff.2 (List.eq_nil_of_length_eq_zero LE.out)
  clear tied htag s2 hlen2 hss2
  have n1 := tagged_nilAhead
  have n2 := tagged_method
  have n3 := errno_nilAhead
  have n4 := errno_method
  go_enter Tryd.func6, Tryd.ntmps6
  go_wp2_with fail
  refine (tag_awake _ T.out).mono ?_
  rintro e w1 ⟨rfl, hb⟩
  have HB1 := Lib.hid hb
  have hw1 : w.heap.size ≤ w1.heap.size := hb.size
  clear hb
  have O1 := Lib.hid (own_empty w1 w.heap.size hw1)
  have B1 := Lib.hid (HB1.out.alloc hw1 (.cells #[] 9))
  go_wp2_with (first | (at_builtin; refine wpList_append_own_none rfl _ _ 22 rfl w.heap.size 9 i0 1 Tryd.underlying22 hi _ _ _ rfl O1.out rfl ?_; have O2 := Lib.hid O1.out; have B2 := Lib.hid B1.out; have hw2 : w.heap.size ≤ (w1.alloc (.cells #[] 9)).heap.size := B2.out.size; clear O1) | (at_builtin; refine wpList_append_own _ rfl _ _ 22 rfl w.heap.size 9 i0 (.string ⟨#[]⟩) 1 16 Tryd.underlying22 hi hz0 hz1 hz2 rfl (by decide) _ _ _ rfl O2.out ad2 0 cap2 (ss2.map Value.string) rfl (by simp [L2.out]) (fun j u hj => (B2.out.cell (cell_lt (S2.out j u hj))).trans (S2.out j u hj)) (fun u hu => by obtain ⟨x, _, rfl⟩ := List.mem_map.1 hu; rfl) (by unfold maxLen; omega) (by omega) hw2 ?_; intro v3 w3 ho3 hg3 _; have O3 := Lib.hid ho3; have B3 := Lib.hid (B2.out.grown hg3 hw2 (fun k hk => (O2.out.lt k hk).1)); have hw3 : w.heap.size ≤ w3.heap.size := B3.out.size; clear ho3 hg3) | fail)
  refine (tagged_own n w.heap.size _ (0 + 0) ([] ++ ss2) _ (by omega) (by have h := O3.out; simpa using h)).mono ?_
  rintro e w4 ⟨ve, rfl, hch, hb⟩
  have B4 := Lib.hid (Below.trans B3.out (hb.mono hw3))
  have CE := Lib.hid hch
  rw [E0.out] at hch
  cases hch
  clear hb
  go_wp2_with fail
  refine (HT.out _ B4.out).mono ?_
  rintro e w5 ⟨vf, rfl, hch, hb⟩
  have hw4 : w.heap.size ≤ w4.heap.size := B4.out.size
  have B5 := Lib.hid (Below.trans B4.out (hb.mono hw4))
  have CE5 := Lib.hid (CE.out.under hb)
  have CF5 := Lib.hid hch
  rw [F0.out] at hch
  cases hch
  clear hb
  go_wp2_with fail
  refine (Tags_chain _ _ _ _ _ CE5.out (by rw [List.length_reverse, LE.out]; omega)).mono ?_
  rintro e w6 ⟨v6, rfl, hown, hb⟩
  have B6 := Lib.hid (Below.trans B5.out (hb.mono B5.out.size))
  have CE6 := Lib.hid (CE5.out.under hb)
  have CF6 := Lib.hid (CF5.out.under hb)
  rw [List.length_reverse, LE.out] at hown
  obtain ⟨ta, tac, rfl⟩ := own_slice hown
  clear hb hown
  go_wp2_with fail
  refine (Tags_chain _ _ _ _ _ CF6.out (by rw [List.length_reverse, List.length_nil]; omega)).mono ?_
  rintro e w7 ⟨v7, rfl, hown, hb⟩
  have B7 := Lib.hid (Below.trans B6.out (hb.mono B6.out.size))
  have CE7 := Lib.hid (CE6.out.under hb)
  have CF7 := Lib.hid (CF6.out.under hb)
  rw [List.length_reverse, List.length_nil] at hown
  obtain ⟨tb, tbc, rfl⟩ := own_slice hown
  clear hb hown
  go_wp2_with fail
  refine (Num_some _ _ _ n CE7.out (T.out.under T.out.lt B7.out)).mono ?_
  rintro e w8 ⟨rfl, hb⟩
  have B8 := Lib.hid (Below.trans B7.out (hb.mono B7.out.size))
  have CE8 := Lib.hid (CE7.out.under hb)
  have CF8 := Lib.hid (CF7.out.under hb)
  clear hb
  go_wp2_with fail
  refine (Num_some _ _ _ n CF8.out (T.out.under T.out.lt B8.out)).mono ?_
  rintro e w9 ⟨rfl, hb⟩
  have B9 := Lib.hid (Below.trans B8.out (hb.mono B8.out.size))
  have CE9 := Lib.hid (CE8.out.under hb)
  have CF9 := Lib.hid (CF8.out.under hb)
  clear hb
  go_wp2_with fail
  refine (errno_as E0.out n _).mono ?_
  rintro e w10 ⟨rfl, hb⟩
  have B10 := Lib.hid (Below.trans B9.out (hb.mono B9.out.size))
  have CE10 := Lib.hid (CE9.out.under hb)
  have CF10 := Lib.hid (CF9.out.under hb)
  clear hb
  go_wp2_with fail
  refine (errno_as F0.out n _).mono ?_
  rintro e w11 ⟨rfl, hb⟩
  have B11 := Lib.hid (Below.trans B10.out (hb.mono B10.out.size))
  have CE11 := Lib.hid (CE10.out.under hb)
  have CF11 := Lib.hid (CF10.out.under hb)
  clear hb
  have Zm2 := Zm.out
  go_wp2_with fail
  go_ret
  exact ⟨by have h := Zm2; simp at h; simp; try exact h, B11.out⟩
set_option maxHeartbeats 2000000 in
theorem deep_none_none_nn (n : Int) (w : World) (tied : Tied w)
    (htag : ∀ W, KF w W → Calls Tryd.prog 16 #[.int .i64 n, .slice none 0 0] W (TaggedPost [] n W)) :
    Calls Tryd.prog 6 #[.int .i64 n, .slice none 0 0, .slice none 0 0] w fun e w' => e = .returned (.bool true) ∧ Below w.heap.size w w' := by
  obtain ⟨i0, hi, hz0, hz1, hz2⟩ := info_parts infoS
  have T := Lib.hid tied
  have HT := Lib.hid htag
  have LE : Hid ((([] : List ByteArray) ++ []).length = 0 + 0) := by show _ = _; rfl
  have Zf := Lib.hid (textB_size ([] : List ByteArray).reverse n (fun x hx => by cases hx))
  have Ze := Lib.hid (textB_size (([] : List ByteArray) ++ []).reverse n (fun x hx => by rcases List.mem_append.1 (List.mem_reverse.1 hx) with h | h; cases h; cases h))
  have Zm := Lib.hid (show (textB ([] : List ByteArray).reverse (some n)).size ≤ (textB (([] : List ByteArray) ++ []).reverse (some n)).size by rw [List.reverse_append]; exact textB_more _ _ _)
  have Zfm : Hid ((textB ([] : List ByteArray).reverse (some n)).size ≤ 9223372036854775807) := by
    have h := Zf.out; rw [List.length_reverse, List.length_nil] at h
    have h4 := h
    show _ ≤ _; omega
  have Zem : Hid ((textB (([] : List ByteArray) ++ []).reverse (some n)).size ≤ 9223372036854775807) := by
    have h := Ze.out; rw [List.length_reverse, LE.out] at h
    exact Nat.le_trans h (by decide)
  have F0 : Hid (([] : List ByteArray).reverse = []) := by show _ = _; rfl
  have E0 : Hid ((([] : List ByteArray) ++ []).reverse = []) := List.reverse_eq_nil_iff.2 (List.eq_nil_of_length_eq_zero LE.out)
  clear tied htag 
  have n1 := tagged_nilAhead
  have n2 := tagged_method
  have n3 := errno_nilAhead
  have n4 := errno_method
  go_enter Tryd.func6, Tryd.ntmps6
  go_wp2_with fail
  refine (tag_awake _ T.out).mono ?_
  rintro e w1 ⟨rfl, hb⟩
  have HB1 := Lib.hid hb
  have hw1 : w.heap.size ≤ w1.heap.size := hb.size
  clear hb
  have O1 := Lib.hid (own_empty w1 w.heap.size hw1)
  have B1 := Lib.hid (HB1.out.alloc hw1 (.cells #[] 9))
  go_wp2_with (first | (at_builtin; refine wpList_append_own_none rfl _ _ 22 rfl w.heap.size 9 i0 1 Tryd.underlying22 hi _ _ _ rfl O1.out rfl ?_; have O2 := Lib.hid O1.out; have B2 := Lib.hid B1.out; have hw2 : w.heap.size ≤ (w1.alloc (.cells #[] 9)).heap.size := B2.out.size; clear O1) | (at_builtin; refine wpList_append_own_none rfl _ _ 22 rfl w.heap.size 9 i0 1 Tryd.underlying22 hi _ _ _ rfl O2.out rfl ?_; have O3 := Lib.hid O2.out; have B3 := Lib.hid B2.out; have hw3 := hw2; clear O2) | fail)
  refine (tagged_own n w.heap.size _ (0 + 0) (([] : List ByteArray) ++ []) _ (by omega) (by have h := O3.out; simpa using h)).mono ?_
  rintro e w4 ⟨ve, rfl, hch, hb⟩
  have B4 := Lib.hid (Below.trans B3.out (hb.mono hw3))
  have CE := Lib.hid hch
  rw [E0.out] at hch
  cases hch
  clear hb
  go_wp2_with fail
  refine (HT.out _ B4.out).mono ?_
  rintro e w5 ⟨vf, rfl, hch, hb⟩
  have hw4 : w.heap.size ≤ w4.heap.size := B4.out.size
  have B5 := Lib.hid (Below.trans B4.out (hb.mono hw4))
  have CE5 := Lib.hid (CE.out.under hb)
  have CF5 := Lib.hid hch
  rw [F0.out] at hch
  cases hch
  clear hb
  go_wp2_with fail
  refine (Tags_chain _ _ _ _ _ CE5.out (by rw [List.length_reverse, LE.out]; omega)).mono ?_
  rintro e w6 ⟨v6, rfl, hown, hb⟩
  have B6 := Lib.hid (Below.trans B5.out (hb.mono B5.out.size))
  have CE6 := Lib.hid (CE5.out.under hb)
  have CF6 := Lib.hid (CF5.out.under hb)
  rw [List.length_reverse, LE.out] at hown
  obtain ⟨ta, tac, rfl⟩ := own_slice hown
  clear hb hown
  go_wp2_with fail
  refine (Tags_chain _ _ _ _ _ CF6.out (by rw [List.length_reverse, List.length_nil]; omega)).mono ?_
  rintro e w7 ⟨v7, rfl, hown, hb⟩
  have B7 := Lib.hid (Below.trans B6.out (hb.mono B6.out.size))
  have CE7 := Lib.hid (CE6.out.under hb)
  have CF7 := Lib.hid (CF6.out.under hb)
  rw [List.length_reverse, List.length_nil] at hown
  obtain ⟨tb, tbc, rfl⟩ := own_slice hown
  clear hb hown
  go_wp2_with fail
  refine (Num_some _ _ _ n CE7.out (T.out.under T.out.lt B7.out)).mono ?_
  rintro e w8 ⟨rfl, hb⟩
  have B8 := Lib.hid (Below.trans B7.out (hb.mono B7.out.size))
  have CE8 := Lib.hid (CE7.out.under hb)
  have CF8 := Lib.hid (CF7.out.under hb)
  clear hb
  go_wp2_with fail
  refine (Num_some _ _ _ n CF8.out (T.out.under T.out.lt B8.out)).mono ?_
  rintro e w9 ⟨rfl, hb⟩
  have B9 := Lib.hid (Below.trans B8.out (hb.mono B8.out.size))
  have CE9 := Lib.hid (CE8.out.under hb)
  have CF9 := Lib.hid (CF8.out.under hb)
  clear hb
  go_wp2_with fail
  refine (errno_as E0.out n _).mono ?_
  rintro e w10 ⟨rfl, hb⟩
  have B10 := Lib.hid (Below.trans B9.out (hb.mono B9.out.size))
  have CE10 := Lib.hid (CE9.out.under hb)
  have CF10 := Lib.hid (CF9.out.under hb)
  clear hb
  go_wp2_with fail
  refine (errno_as F0.out n _).mono ?_
  rintro e w11 ⟨rfl, hb⟩
  have B11 := Lib.hid (Below.trans B10.out (hb.mono B10.out.size))
  have CE11 := Lib.hid (CE10.out.under hb)
  have CF11 := Lib.hid (CF10.out.under hb)
  clear hb
  have Zm2 := Zm.out
  go_wp2_with fail
  go_ret
  exact ⟨by have h := Zm2; simp at h; simp; try exact h, B11.out⟩
end Go.Proofs.YtlapklghioinfaaDoor
