/- SlotMore: the plain statement; a slice of structs of three numbers, read. -/
import Derived.Test.YtfgbnnmaooillaaSlotAPSlotMore
import Derived.WalkKit
import Derived.OpenShut
import Derived.Lib.SmallJoins
namespace Go.Proofs.Ytfgbnnmaooillaa
open Go.ChangeShapes Go.WideShapes Go.RowKit Go.Proofs.YtfgbnnmaooillaaW.PrintWords Go.Proofs.YtfgbnnmaooillaaW.PrintLast Go.Proofs.YtfgbnnmaooillaaW.PrintMore Go.Proofs.Ytfgbnnmaooillaa.PSlotMore
set_option linter.unusedVariables false
set_option linter.unusedSimpArgs false

theorem bks_take (l : List SB) (i : Nat) : bks (l.take i) = (bks l).take i := List.map_take
theorem bks_drop (l : List SB) (i : Nat) : bks (l.drop i) = (bks l).drop i := List.map_drop
theorem wrap_small {x : Int} (h0 : -1000000 ≤ x) (h1 : x ≤ 1000000) : wrap64 x = x := by unfold wrap64; omega
theorem more_in (l : List RB) (a b c d : Int) (hl : l.length ≤ 60) (h0 : 0 < l.length) (a0 : 0 ≤ a) (a1 : a ≤ 255) (b0 : 0 ≤ b) (b1 : b ≤ 255) (c0 : 0 ≤ c) (c1 : c ≤ 255) (d0 : 0 ≤ d) (d1 : d ≤ 255) (k : Nat) (hk : 200 < k) :
    dynamolaw20_SlotMore.f (k + 1) l a b c d = some true := by
  obtain ⟨y, hy⟩ : ∃ y, y = l.map ofR := ⟨_, rfl⟩
  have hyl : y.length = l.length := by rw [hy]; exact List.length_map _
  obtain ⟨q, hq, hql⟩ : ∃ q : Nat, Int.tmod a (l.length : Int) = (q : Int) ∧ q < l.length := by
    rw [Int.tmod_eq_emod_of_nonneg a0]
    have h1 := Int.emod_nonneg a (show (l.length : Int) ≠ 0 by omega)
    have h2 := Int.emod_lt_of_pos a (show (0 : Int) < (l.length : Int) by omega)
    exact ⟨(a % (l.length : Int)).toNat, by omega, by omega⟩
  have hlt : (y.take q).length ≤ 60 := by rw [List.length_take]; omega
  have hld : (y.drop (q + 1)).length ≤ 60 := by rw [List.length_drop]; omega
  have hlz : (y.take q ++ y.drop (q + 1)).length ≤ 60 := by rw [List.length_append, List.length_take, List.length_drop]; omega
  have n1 : ¬ (l.length : Int) > 60 := by omega
  have n2 : ¬ ((l.length : Int) == 0) = true := fun hh => by have := beq_iff_eq.1 hh; omega
  have n3 : ¬ (l.length : Int) = 0 := by omega
  have n4 : (0 : Int) ≤ (q : Int) := by omega
  have n5 : (q : Int) ≤ (y.length : Int) := by omega
  have n6 : (y.take q).length < 5864062014805 := by omega
  have n6' : 0 + (y.take q).length < 5864062014805 := by omega
  have n7 : (0 : Int) ≤ ((q + 1 : Nat) : Int) := by omega
  have n8 : ((q + 1 : Nat) : Int) ≤ (y.length : Int) := by omega
  have n9 : (y.take q).length + (y.drop (q + 1)).length < 5864062014805 := by omega
  have w1 : wrap64 ((q : Int) + 1) = ((q + 1 : Nat) : Int) := wrap_nat (by omega)
  have w2 : wrap64 a = a := wrap_small (by clear w1; omega) (by clear w1; omega)
  have w3 : wrap64 b = b := wrap_small (by clear w1 w2; omega) (by clear w1 w2; omega)
  have w4 : wrap64 c = c := wrap_small (by clear w1 w2 w3; omega) (by clear w1 w2 w3; omega)
  have w5 : wrap64 d = d := wrap_small (by clear w1 w2 w3 w4; omega) (by clear w1 w2 w3 w4; omega)
  have w6 : wrap64 (c + d) = c + d := wrap_small (by clear w1 w2 w3 w4 w5; omega) (by clear w1 w2 w3 w4 w5; omega)
  unfold dynamolaw20_SlotMore.f
  rw [sawake_f (k + 1) (by clear w1 w2 w3 w4 w5 w6; omega)]
  simp only [Option.bind_some, if_true]
  rw [if_neg n1, dynamolaw20_SlotMore.j0, if_neg n2, sof_f l (by clear w1 w2 w3 w4 w5 w6; omega) k (by clear w1 w2 w3 w4 w5 w6; omega), ← hy]
  simp only [Option.bind_some]
  rw [if_neg n3, w2, hq, w1, w3, w4, w5, w6]
  clear w1 w2 w3 w4 w5 w6
  simp only [Int.toNat_natCast, List.nil_append, List.length_nil]
  rw [if_pos n4, if_pos n5, if_pos n6', if_pos n7, if_pos n8, if_pos n9,
    speak_f y b c (by omega) k (by omega), speak_f y b (c + d) (by omega) k (by omega), speak_f _ b c (by omega) k (by omega)]
  simp only [Option.bind_some]
  have hm := peak_more (bks y) b c d d0
  have hwo := peak_without (bks y) q (by rw [bks_length]; omega) b c
  rw [← bks_take, ← bks_drop, show bks (y.take q) ++ bks (y.drop (q + 1)) = bks (y.take q ++ y.drop (q + 1)) from (List.map_append).symm] at hwo
  have hln := peak_len (bks y) b c
  rw [bks_length] at hln
  have hw1 : wrap64 (((peakL (bks y) b c : Nat) : Int) - 1) = ((peakL (bks y) b c : Nat) : Int) - 1 := wrap_small (by omega) (by omega)
  rw [hw1]
  clear hw1
  rw [if_pos (by omega), if_pos (by omega), if_pos (by omega)]
  congr 1
  rw [decide_eq_true_eq]; omega
theorem more_out (l : List RB) (a b c d : Int) (h : 60 < l.length ∨ l.length = 0) (k : Nat) (hk : 6 < k) :
    dynamolaw20_SlotMore.f (k + 1) l a b c d = some true := by
  unfold dynamolaw20_SlotMore.f
  rw [sawake_f (k + 1) (by omega)]
  simp only [Option.bind_some, if_true]
  by_cases h1 : (l.length : Int) > 60
  · rw [if_pos h1, dynamolaw20_SlotMore.j0, if_pos rfl, sawake_f k hk]; rfl
  · rw [if_neg h1, show ((l.length : Int) == 0) = true from beq_iff_eq.2 (by omega), dynamolaw20_SlotMore.j0, if_pos rfl, sawake_f k hk]; rfl
theorem more_pure (l : List RB) (a b c d : Int) (a0 : 0 ≤ a) (a1 : a ≤ 255) (b0 : 0 ≤ b) (b1 : b ≤ 255) (c0 : 0 ≤ c) (c1 : c ≤ 255) (d0 : 0 ≤ d) (d1 : d ≤ 255) :
    ∃ k, dynamolaw20_SlotMore.f k l a b c d = some true := by
  obtain ⟨k, hk⟩ : ∃ k, 200 < k := ⟨201, by omega⟩
  refine ⟨k + 1, ?_⟩
  by_cases h : l.length ≤ 60 ∧ 0 < l.length
  · exact more_in l a b c d h.1 h.2 a0 a1 b0 b1 c0 c1 d0 d1 k hk
  · exact more_out l a b c d (by omega) k (by omega)
theorem wf_u8 {n : Int} (h : (Lit.int .u8 n).wf = true) : 0 ≤ n ∧ n ≤ 255 := by
  simpa [Lit.wf, IntKind.min, IntKind.max, IntKind.signed, IntKind.bits] using h
theorem more_walk (A : Option Addr) (cp : Nat) (l : List RB) (a b c d : Int) (W : World) (h : RBs W A l cp) (w1 : (Lit.int .u8 a).wf = true) (w2 : (Lit.int .u8 b).wf = true) (w3 : (Lit.int .u8 c).wf = true) (w4 : (Lit.int .u8 d).wf = true) :
    Calls Try.prog 3 #[.slice A l.length cp, .int .u8 a, .int .u8 b, .int .u8 c, .int .u8 d] W fun e w' => e = .returned (.bool true) ∧ Below W.heap.size W w' := by
  obtain ⟨k, hk⟩ := more_pure l a b c d (wf_u8 w1).1 (wf_u8 w1).2 (wf_u8 w2).1 (wf_u8 w2).2 (wf_u8 w3).1 (wf_u8 w3).2 (wf_u8 w4).1 (wf_u8 w4).2
  exact dynamolaw20_SlotMore.calls k A cp l a b c d true W h.1 h.2.1 hk
end Go.Proofs.Ytfgbnnmaooillaa
