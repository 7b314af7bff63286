/- TagMore: the walk. -/
import Derived.Test.YtlapklghioinfaaDoorTagC
namespace Go.Proofs.YtlapklghioinfaaDoor
open Go.RowKit Go.Extern.Stop Go.Stop Go.Extern
set_option linter.unusedVariables false
set_option linter.unusedSimpArgs false

theorem textB_size (l : List ByteArray) (n : Int) (h : ∀ s ∈ l, s.size ≤ 140737488351232) : (textB l (some n)).size ≤ l.length * 140737488351233 + 8 := by
  induction l with
  | nil =>
    simp only [textB, errnoB]
    split
    · exact Nat.le_refl 8
    · exact (by decide : 5 ≤ 0 * 140737488351233 + 8)
  | cons s l ih =>
    have h1 := ih fun x hx => h x (List.mem_cons_of_mem _ hx)
    have h2 := h s (List.mem_cons_self ..)
    simp only [textB, ByteArray.size_append, List.length_cons]
    have h3 : (⟨#[46]⟩ : ByteArray).size = 1 := rfl
    omega
theorem Chain.tagged {B : Nat} {W : World} {E : Value} {l : List ByteArray} {r : Option Int} (h : Chain B W E l r) (hl : l ≠ []) : ∃ b, E = .iface 31 (.pointer (some ⟨b, 0, none⟩)) := by
  cases h with
  | num n => exact absurd rfl hl
  | last b => exact ⟨b, rfl⟩
  | more b => exact ⟨b, rfl⟩
theorem own_first {w : World} {base : Nat} {e : TypeId} {v : Value} {n : Nat} {x : Value} {xs : List Value} (h : w.ownsRow base e 1 v (n + 1) (x :: xs)) : ∃ g cap, v = .slice (some ⟨g, 0, none⟩) (n + 1) cap ∧ w.cell? ⟨g, 0, none⟩ = some x := by
  obtain ⟨hl, hc⟩ := h
  rcases hc with ⟨_, h⟩ | ⟨g, cap, cur, rfl, _, hg, _, _, _, ht⟩
  · cases h
  · refine ⟨g, cap, rfl, ?_⟩
    have h0 : (cur.toList.take ((n + 1) * 1))[0]? = some x := by rw [ht]; rfl
    rw [List.getElem?_take_of_lt (by omega)] at h0
    simp [World.cell?, hg]
    simpa using h0
theorem text_more {B b : Nat} {s : ByteArray} {l : List ByteArray} {r : Option Int} {W : World} (h : Chain B W (.iface 31 (.pointer (some ⟨b, 0, none⟩))) (s :: l) r) (hz : (textB (s :: l) r).size ≤ 9223372036854775807) :
    Calls Tryd.prog 19 #[.pointer (some ⟨b, 0, none⟩)] W fun e w' => e = .returned (.string ((s ++ ⟨#[46]⟩) ++ textB l r)) ∧ Below W.heap.size W w' := text_chain _ _ _ _ _ h hz
theorem more_tag (n : Int) (s : ByteArray) (a : Option Addr) (len cap : Nat) (ss : List ByteArray) (hlen : ss.length = len) (hne : ss ≠ []) (hl : len ≤ 40) (hs : s.size ≤ 140737488351232) (hss : ∀ s ∈ ss, s.size ≤ 140737488351232) (w : World) (tied : Tied w)
    (htag : ∀ W, KF w W → Calls Tryd.prog 16 #[.int .i64 n, .slice a len cap] W (TaggedPost ss n W)) :
    Calls Tryd.prog 5 #[.int .i64 n, .slice a len cap, .string s] w fun e w' => e = .returned (.bool true) ∧ Below w.heap.size w w' := by
  have T := Lib.hid tied
  have HT := Lib.hid htag
  have HL := Lib.hid hlen
  have hz := textB_size ss.reverse n (fun x hx => hss x (List.mem_reverse.1 hx))
  rw [List.length_reverse, hlen] at hz
  have hz1 := Lib.hid (show (textB (s :: ss.reverse) (some n)).size ≤ 9223372036854775807 by simp only [textB, ByteArray.size_append]; have h3 : (⟨#[46]⟩ : ByteArray).size = 1 := rfl; omega)
  have hz2 := Lib.hid (show (textB ss.reverse (some n)).size ≤ 9223372036854775807 by omega)
  have hadd := fun w : World => run_string_add_sum (P := Tryd.prog) w s ⟨#[46]⟩ (by show s.size + 1 ≤ _; omega)
  have hadd2 := fun w : World => run_string_add_sum (P := Tryd.prog) w (s ++ ⟨#[46]⟩) (textB ss.reverse (some n)) (by rw [ByteArray.size_append]; show s.size + 1 + _ ≤ _; omega)
  clear tied htag hlen hz hs hss
  have hd : decide ((40 : Int) < (len : Int)) = false := by simp; omega
  have n1 := tagged_nilAhead
  have n2 := tagged_method
  have n3 := errno_nilAhead
  have n4 := errno_method
  go_enter Tryd.func5, Tryd.ntmps5
  go_wp2_with fail
  refine (tag_awake _ T.out).mono ?_
  rintro e w1 ⟨rfl, hb⟩
  have HB1 := Lib.hid hb
  clear hb
  go_wp2_with fail
  refine (HT.out _ HB1.out).mono ?_
  rintro e w2 ⟨v, rfl, hch, hb⟩
  have HB2 := Lib.hid (Below.trans HB1.out (hb.mono HB1.out.size))
  have HC := Lib.hid (hch.mono HB1.out.size)
  have hwz : w.heap.size ≤ w2.heap.size := HB2.out.size
  obtain ⟨b, rfl⟩ := hch.tagged (by simpa using hne)
  clear hb hch
  go_wp2_with fail
  refine (Tag_some s _ _ _).mono ?_
  rintro e w3 ⟨rfl, rfl⟩
  have HB3 := Lib.hid (HB2.out.alloc hwz (.cells #[.string s, .iface 31 (.pointer (some ⟨b, 0, none⟩))] 33))
  have HC3 := Lib.hid (HC.out.alloc (.cells #[.string s, .iface 31 (.pointer (some ⟨b, 0, none⟩))] 33))
  have HF3 : Hid (Chain w.heap.size (w2.alloc (.cells #[.string s, .iface 31 (.pointer (some ⟨b, 0, none⟩))] 33)) (.iface 31 (.pointer (some ⟨w2.heap.size, 0, none⟩))) (s :: ss.reverse) (some n)) := .more _ _ _ _ _ hwz (by rw [World.cell?_alloc_at _ _ _ _ rfl]; rfl) (by rw [World.cell?_alloc_at _ _ _ _ rfl]; rfl) HC3.out
  go_wp2_with fail
  refine (Tags_chain _ _ _ _ _ HF3.out (by simp [HL.out]; omega)).mono ?_
  rintro e w4 ⟨v4, rfl, hown, hb⟩
  have HB4 := Lib.hid (Below.trans HB3.out (hb.mono HB3.out.size))
  have HC4 := Lib.hid (HC3.out.under hb)
  have HF4 := Lib.hid (HF3.out.under hb)
  clear hb
  rw [List.length_cons, List.length_reverse, HL.out] at hown
  obtain ⟨g, cp, rfl, hg0⟩ := own_first hown
  clear hown
  go_wp2_with fail
  refine (text_more (HF4.out) hz1.out).mono ?_
  rintro e w5 ⟨rfl, hb⟩
  have HB5 := Lib.hid (Below.trans HB4.out (hb.mono HB4.out.size))
  have HC5 := Lib.hid (HC4.out.under hb)
  have HF5 := Lib.hid (HF4.out.under hb)
  clear hb
  go_wp2_with fail
  refine (text_chain _ _ _ _ _ HC5.out hz2.out).mono ?_
  rintro e w6 ⟨rfl, hb⟩
  have HB6 := Lib.hid (Below.trans HB5.out (hb.mono HB5.out.size))
  have HF6 := Lib.hid (HF5.out.under hb)
  clear hb
  go_wp2_with fail
  refine (Num_some _ _ _ n HF6.out (T.out.under T.out.lt HB6.out)).mono ?_
  rintro e w7 ⟨rfl, hb⟩
  have HB7 := Lib.hid (Below.trans HB6.out (hb.mono HB6.out.size))
  clear hb
  go_wp2_with fail
  go_ret
  exact ⟨rfl, HB7.out⟩
theorem more_num (n : Int) (s : ByteArray) (a : Option Addr) (cap : Nat) (hs : s.size ≤ 140737488351232) (w : World) (tied : Tied w)
    (htag : ∀ W, KF w W → Calls Tryd.prog 16 #[.int .i64 n, .slice a 0 cap] W (TaggedPost [] n W)) :
    Calls Tryd.prog 5 #[.int .i64 n, .slice a 0 cap, .string s] w fun e w' => e = .returned (.bool true) ∧ Below w.heap.size w w' := by
  have T := Lib.hid tied
  have HT := Lib.hid htag
  have hz := textB_size [] n (fun x hx => by cases hx)
  simp only [List.length_nil] at hz
  have hz1 := Lib.hid (show (textB (s :: []) (some n)).size ≤ 9223372036854775807 by simp only [textB, ByteArray.size_append]; have h3 : (⟨#[46]⟩ : ByteArray).size = 1 := rfl; have hq : (errnoB n).size ≤ 0 * 140737488351233 + 8 := hz; omega)
  have hz2 := Lib.hid (show (textB [] (some n)).size ≤ 9223372036854775807 by omega)
  have hadd := fun w : World => run_string_add_sum (P := Tryd.prog) w s ⟨#[46]⟩ (by show s.size + 1 ≤ _; omega)
  have hadd2 := fun w : World => run_string_add_sum (P := Tryd.prog) w (s ++ ⟨#[46]⟩) (errnoB n) (by rw [ByteArray.size_append]; show s.size + 1 + (errnoB n).size ≤ _; have hq : (errnoB n).size ≤ 0 * 140737488351233 + 8 := hz; omega)
  clear tied htag hz hs
  have n1 := tagged_nilAhead
  have n2 := tagged_method
  have n3 := errno_nilAhead
  have n4 := errno_method
  go_enter Tryd.func5, Tryd.ntmps5
  go_wp2_with fail
  refine (tag_awake _ T.out).mono ?_
  rintro e w1 ⟨rfl, hb⟩
  have HB1 := Lib.hid hb
  clear hb
  go_wp2_with fail
  refine (HT.out _ HB1.out).mono ?_
  rintro e w2 ⟨v, rfl, hch, hb⟩
  have HB2 := Lib.hid (Below.trans HB1.out (hb.mono HB1.out.size))
  have HC := Lib.hid (hch.mono HB1.out.size)
  have hwz : w.heap.size ≤ w2.heap.size := HB2.out.size
  cases hch
  clear hb
  go_wp2_with fail
  refine (Tag_some s _ _ _).mono ?_
  rintro e w3 ⟨rfl, rfl⟩
  have HB3 := Lib.hid (HB2.out.alloc hwz (.cells #[.string s, .iface 50 (.int .i64 n)] 33))
  have HC3 := Lib.hid (HC.out.alloc (.cells #[.string s, .iface 50 (.int .i64 n)] 33))
  have HF3 : Hid (Chain w.heap.size (w2.alloc (.cells #[.string s, .iface 50 (.int .i64 n)] 33)) (.iface 31 (.pointer (some ⟨w2.heap.size, 0, none⟩))) (s :: []) (some n)) := .more _ _ _ _ _ hwz (by rw [World.cell?_alloc_at _ _ _ _ rfl]; rfl) (by rw [World.cell?_alloc_at _ _ _ _ rfl]; rfl) HC3.out
  go_wp2_with fail
  refine (Tags_chain _ _ _ _ _ HF3.out (by simp)).mono ?_
  rintro e w4 ⟨v4, rfl, hown, hb⟩
  have HB4 := Lib.hid (Below.trans HB3.out (hb.mono HB3.out.size))
  have HC4 := Lib.hid (HC3.out.under hb)
  have HF4 := Lib.hid (HF3.out.under hb)
  clear hb
  rw [List.length_cons, List.length_nil] at hown
  obtain ⟨g, cp, rfl, hg0⟩ := own_first hown
  clear hown
  go_wp2_with fail
  refine (text_more (HF4.out) hz1.out).mono ?_
  rintro e w5 ⟨rfl, hb⟩
  have HB5 := Lib.hid (Below.trans HB4.out (hb.mono HB4.out.size))
  have HC5 := Lib.hid (HC4.out.under hb)
  have HF5 := Lib.hid (HF4.out.under hb)
  clear hb
  go_wp2_with fail
  refine (errno_text n _).mono ?_
  rintro e w6 ⟨rfl, hb⟩
  have HB6 := Lib.hid (Below.trans HB5.out (hb.mono HB5.out.size))
  have HF6 := Lib.hid (HF5.out.under hb)
  clear hb
  go_wp2_with fail
  refine (Num_some _ _ _ n HF6.out (T.out.under T.out.lt HB6.out)).mono ?_
  rintro e w7 ⟨rfl, hb⟩
  have HB7 := Lib.hid (Below.trans HB6.out (hb.mono HB6.out.size))
  clear hb
  go_wp2_with fail
  go_ret
  exact ⟨rfl, HB7.out⟩
theorem more_out (n : Int) (s : ByteArray) (a : Option Addr) (len cap : Nat) (hl : 40 < len) (w : World) (tied : Tied w) :
    Calls Tryd.prog 5 #[.int .i64 n, .slice a len cap, .string s] w fun e w' => e = .returned (.bool true) ∧ Below w.heap.size w w' := by
  have T := Lib.hid tied
  clear tied
  have hd : decide ((40 : Int) < (len : Int)) = true := by simp; omega
  go_enter Tryd.func5, Tryd.ntmps5
  go_wp2_with fail
  refine (tag_awake _ T.out).mono ?_
  rintro e w1 ⟨rfl, hb⟩
  have HB1 := Lib.hid hb
  clear hb
  go_wp2_with fail
  refine (tag_awake _ (T.out.under T.out.lt HB1.out)).mono ?_
  rintro e w2 ⟨rfl, hb⟩
  have HB2 := Lib.hid (Below.trans HB1.out (hb.mono HB1.out.size))
  clear hb
  go_wp2_with fail
  go_ret
  exact ⟨rfl, HB2.out⟩
theorem more_walk (n : Int) (a : Option Addr) (len cap : Nat) (ss : List ByteArray) (s : ByteArray) (w : World) (w1 : (Lit.int .i64 n).wf = true) (r : IsStrs w a len ss) (hss : ∀ s ∈ ss, s.size ≤ 140737488351232) (hs : s.size ≤ 140737488351232) (tied : Tied w) :
    Calls Tryd.prog 5 #[.int .i64 n, .slice a len cap, .string s] w fun e w' => e = .returned (.bool true) ∧ Below w.heap.size w w' := by
  by_cases hl : len ≤ 40
  · by_cases h0 : len = 0
    · subst h0
      obtain rfl := List.eq_nil_of_length_eq_zero r.1
      exact more_num n s a cap hs w tied (tagged_any n a 0 cap [] w r)
    · exact more_tag n s a len cap ss r.1 (fun h => h0 (by rw [← r.1, h]; rfl)) hl hs hss w tied (tagged_any n a len cap ss w r)
  · exact more_out n s a len cap (by omega) w tied
end Go.Proofs.YtlapklghioinfaaDoor
