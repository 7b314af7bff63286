/- The laws of layer 1: walks. -/
import Derived.Test.YtlapklghioinfaaDoorSame
import Derived.Test.YtlapklghioinfaaDoorTags
import Derived.Test.YtlapklghioinfaaDoorArgs
namespace Go.Proofs.YtlapklghioinfaaDoor
open Go.RowKit Go.Extern.Stop Go.Stop Go.Extern
set_option linter.unusedVariables false
set_option linter.unusedSimpArgs false

theorem tag_awake (w : World) (tied : Tied w) : Calls Tryd.prog 15 #[] w fun e w' => e = .returned (.bool true) ∧ Below w.heap.size w w' := by
  have T := Lib.hid tied
  clear tied
  go_enter Tryd.func15, Tryd.ntmps15
  go_wp2_with fail
  refine (Tag_num _ 7 _).mono ?_
  rintro e w1 ⟨t, v, rfl, hr, hb⟩
  have HB := Lib.hid hb
  have HR := Lib.hid hr
  clear hb hr
  go_wp2_with fail
  refine (Num_any (B := w.heap.size) _ _ 7 HR.out (T.out.under T.out.lt HB.out)).mono ?_
  rintro e w2 ⟨rfl, hb⟩
  have HB2 := Lib.hid (Below.trans HB.out (hb.mono HB.out.size))
  clear hb
  go_wp2_with fail
  go_ret
  exact ⟨rfl, HB2.out⟩

theorem Same_eq {B : Nat} {W : World} {m : Int} {r : Option Int} {b : Bool} (hb : sameB r m = b) (E : Value) (l : List ByteArray) (hch : Chain B W E l r) :
    Calls Tryd.prog 28 #[E, .int .i64 m] W fun e w' => e = .returned (.bool b) ∧ W = w' := by
  rw [← hb]; exact Same_chain m E l r hch
theorem Num_some {B : Nat} (w : World) (E : Value) (l : List ByteArray) (n : Int) (hch : Chain B w E l (some n)) (hg : Tied w) :
    Calls Tryd.prog 21 #[E] w fun e w' => e = .returned (.int .i64 n) ∧ Below w.heap.size w w' := Num_chain w E l n hch hg

theorem nums_same (n : Int) (a : Option Addr) (len cap : Nat) (ss : List ByteArray) (hl : len ≤ 40) (w : World) (tied : Tied w)
    (htag : ∀ W, KF w W → Calls Tryd.prog 16 #[.int .i64 n, .slice a len cap] W (TaggedPost ss n W)) :
    Calls Tryd.prog 10 #[.int .i64 n, .slice a len cap, .int .i64 n] w fun e w' => e = .returned (.bool true) ∧ Below w.heap.size w w' := by
  have T := Lib.hid tied
  have HT := Lib.hid htag
  clear tied htag
  have hd : decide ((40 : Int) < (len : Int)) = false := by simp; omega
  have s1 := Lib.hid (show sameB (some n) n = true by simp [sameB])
  have s2 := Lib.hid (show sameB (some n) n = true by simp [sameB])
  go_enter Tryd.func10, Tryd.ntmps10
  go_wp2_with fail
  refine (tag_awake _ T.out).mono ?_
  rintro e w1 ⟨rfl, hb⟩
  have HB1 := Lib.hid hb
  clear hb
  go_wp2_with fail
  refine (HT.out _ HB1.out).mono ?_
  rintro e w2 ⟨v, rfl, hch, hb⟩
  have HB2 := Lib.hid (Below.trans HB1.out (hb.mono HB1.out.size))
  have HC := Lib.hid hch
  clear hb hch
  go_wp2_with fail
  refine (Num_some _ _ _ n HC.out (T.out.under T.out.lt HB2.out)).mono ?_
  rintro e w3 ⟨rfl, hb⟩
  have HB3 := Lib.hid (Below.trans HB2.out (hb.mono HB2.out.size))
  have HC3 := Lib.hid (HC.out.under hb)
  clear hb
  go_wp2_with fail
  refine (Same_eq s1.out _ _ HC3.out).mono ?_
  rintro e w4 ⟨rfl, rfl⟩
  go_wp2_with fail
  refine (Same_eq s2.out _ _ HC3.out).mono ?_
  rintro e w4 ⟨rfl, rfl⟩
  go_wp2_with fail
  refine (Num_nil _).mono ?_
  rintro e w4 ⟨rfl, rfl⟩
  go_wp2_with fail
  refine (Same_nil _ _).mono ?_
  rintro e w4 ⟨rfl, rfl⟩
  go_wp2_with fail
  refine (Tag_nil _ _).mono ?_
  rintro e w4 ⟨rfl, rfl⟩
  go_wp2_with fail
  refine (Num_nil _).mono ?_
  rintro e w4 ⟨rfl, rfl⟩
  go_wp2_with fail
  go_ret
  exact ⟨rfl, HB3.out⟩
theorem nums_other (n other : Int) (a : Option Addr) (len cap : Nat) (ss : List ByteArray) (hl : len ≤ 40) (hne : ¬ n = other) (hneb : (n == other) = false) (w : World) (tied : Tied w)
    (htag : ∀ W, KF w W → Calls Tryd.prog 16 #[.int .i64 n, .slice a len cap] W (TaggedPost ss n W)) :
    Calls Tryd.prog 10 #[.int .i64 n, .slice a len cap, .int .i64 other] w fun e w' => e = .returned (.bool true) ∧ Below w.heap.size w w' := by
  have T := Lib.hid tied
  have HT := Lib.hid htag
  clear tied htag
  have hd : decide ((40 : Int) < (len : Int)) = false := by simp; omega
  have s1 := Lib.hid (show sameB (some n) n = true by simp [sameB])
  have s2 := Lib.hid (show sameB (some n) other = false by simp [sameB]; exact fun h => hne h)
  go_enter Tryd.func10, Tryd.ntmps10
  go_wp2_with fail
  refine (tag_awake _ T.out).mono ?_
  rintro e w1 ⟨rfl, hb⟩
  have HB1 := Lib.hid hb
  clear hb
  go_wp2_with fail
  refine (HT.out _ HB1.out).mono ?_
  rintro e w2 ⟨v, rfl, hch, hb⟩
  have HB2 := Lib.hid (Below.trans HB1.out (hb.mono HB1.out.size))
  have HC := Lib.hid hch
  clear hb hch
  go_wp2_with fail
  refine (Num_some _ _ _ n HC.out (T.out.under T.out.lt HB2.out)).mono ?_
  rintro e w3 ⟨rfl, hb⟩
  have HB3 := Lib.hid (Below.trans HB2.out (hb.mono HB2.out.size))
  have HC3 := Lib.hid (HC.out.under hb)
  clear hb
  go_wp2_with fail
  refine (Same_eq s1.out _ _ HC3.out).mono ?_
  rintro e w4 ⟨rfl, rfl⟩
  go_wp2_with fail
  refine (Same_eq s2.out _ _ HC3.out).mono ?_
  rintro e w4 ⟨rfl, rfl⟩
  go_wp2_with fail
  refine (Num_nil _).mono ?_
  rintro e w4 ⟨rfl, rfl⟩
  go_wp2_with fail
  refine (Same_nil _ _).mono ?_
  rintro e w4 ⟨rfl, rfl⟩
  go_wp2_with fail
  refine (Tag_nil _ _).mono ?_
  rintro e w4 ⟨rfl, rfl⟩
  go_wp2_with fail
  refine (Num_nil _).mono ?_
  rintro e w4 ⟨rfl, rfl⟩
  go_wp2_with fail
  go_ret
  exact ⟨rfl, HB3.out⟩
theorem nums_out (n other : Int) (a : Option Addr) (len cap : Nat) (hl : 40 < len) (w : World) (tied : Tied w) :
    Calls Tryd.prog 10 #[.int .i64 n, .slice a len cap, .int .i64 other] w fun e w' => e = .returned (.bool true) ∧ Below w.heap.size w w' := by
  have T := Lib.hid tied
  clear tied
  have hd : decide ((40 : Int) < (len : Int)) = true := by simp; omega
  go_enter Tryd.func10, Tryd.ntmps10
  go_wp2_with fail
  refine (tag_awake _ T.out).mono ?_
  rintro e w1 ⟨rfl, hb⟩
  have HB1 := Lib.hid hb
  clear hb
  go_wp2_with fail
  refine (tag_awake _ (T.out.under T.out.lt HB1.out)).mono ?_
  rintro e w2 ⟨rfl, hb⟩
  have HB2 := Lib.hid (Below.trans HB1.out (hb.mono HB1.out.size))
  clear hb
  go_wp2_with fail
  go_ret
  exact ⟨rfl, HB2.out⟩
theorem tagged_any (n : Int) (a : Option Addr) (len cap : Nat) (ss : List ByteArray) (w : World) (r : IsStrs w a len ss) : ∀ W, KF w W → Calls Tryd.prog 16 #[.int .i64 n, .slice a len cap] W (TaggedPost ss n W) := by
  intro W hW
  obtain ⟨hl, _, hm, h⟩ := r
  unfold maxLen at hm
  by_cases h0 : len = 0
  · subst h0
    obtain rfl := List.eq_nil_of_length_eq_zero hl
    exact tagged_none n a cap W
  · rcases h with h | ⟨b, o, rfl, hc⟩
    · exact absurd h h0
    · exact tagged_loop n b o len cap ss W hl (by omega) (fun j hj => hW.cell (hc j hj))
theorem nums_walk (n : Int) (a : Option Addr) (len cap : Nat) (ss : List ByteArray) (other : Int) (w : World) (w1 : (Lit.int .i64 n).wf = true) (r : IsStrs w a len ss) (w2 : (Lit.int .i64 other).wf = true) (tied : Tied w) :
    Calls Tryd.prog 10 #[.int .i64 n, .slice a len cap, .int .i64 other] w fun e w' => e = .returned (.bool true) ∧ Below w.heap.size w w' := by
  by_cases hl : len ≤ 40
  · by_cases h : n = other
    · subst h; exact nums_same n a len cap ss hl w tied (tagged_any n a len cap ss w r)
    · exact nums_other n other a len cap ss hl h (by simpa using h) w tied (tagged_any n a len cap ss w r)
  · exact nums_out n other a len cap (by omega) w tied
end Go.Proofs.YtlapklghioinfaaDoor
