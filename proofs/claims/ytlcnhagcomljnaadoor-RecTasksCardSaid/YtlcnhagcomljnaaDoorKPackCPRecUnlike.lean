/- pack.Parse, by its contract. -/
import Derived.Test.YtlcnhagcomljnaaDoorKPackBPRecUnlike
import Derived.OwnWalk
import Derived.Laws.AppendOwn
import Derived.Maps.AppendAt
namespace Go.Proofs.YtlcnhagcomljnaaDoor
open Go.RowKit Go.Extern.Stop Go.Stop Go.Extern Go.Proofs.YtlcnhagcomljnaaDoorW.PrintWords Go.Proofs.YtlcnhagcomljnaaDoorW.PrintLast Go.Proofs.YtlcnhagcomljnaaDoorW.PrintMore Go.Proofs.YtlcnhagcomljnaaDoor.PRecUnlike
set_option linter.unusedVariables false
set_option linter.unusedSimpArgs false

theorem info_int : (Tryd.prog.info? 3).map (fun i => (i.zero, i.size, i.bytes)) = some (some (.int .i64 0), 1, 8) := by kernel_rfl
/-- numbers in memory of the call's own -/
def ParsePost (ws : List Int) (s : ByteArray) (W : World) (e : Ending) (w' : World) : Prop := ∃ vs v, e = .returned (.tuple #[vs, v]) ∧ w'.ownsRow W.heap.size 3 1 vs (parseL ws s).length (nums .i64 (parseL ws s)) ∧ ErrC W.heap.size w' v (parseC ws s) ∧ Below W.heap.size W w'
theorem own_nil (W : World) (base : Nat) (e : TypeId) (size : Nat) : W.ownsRow base e size (.slice none 0 0) 0 [] := ⟨by simp, .inl ⟨rfl, rfl⟩⟩
theorem own_under {w w' : World} {base : Nat} {e : TypeId} {size n : Nat} {v : Value} {xs : List Value} (h : w.ownsRow base e size v n xs) (hb : Below w.heap.size w w') : w'.ownsRow base e size v n xs :=
  own_move h (fun k hk => hb.block k (own_lt h k hk))
theorem ret_own {a b v : Value} (h : a = b) : Ending.returned (.tuple #[a, v]) = .returned (.tuple #[b, v]) := by rw [h]
set_option maxHeartbeats 400000 in
theorem Parse_bad (A : Option Addr) (ws : List Int) (c : Nat) (s : ByteArray) (W : World) (h : Ints W A ws c) (hc : parseC ws s ≠ 0) :
    Calls Tryd.prog 76 #[.slice A ws.length c, .string s] W (ParsePost ws s W) := by
  have hz := Lib.hid (Size_any A ws c W h)
  have hp : Hid (parseL ws s = []) := by show _ = _; unfold parseL; rw [if_neg hc]
  clear h
  by_cases hs : sizeR ws < 0
  · have hd : decide (sizeR ws < 0) = true := by simpa using hs
    have hpc : Hid (parseC ws s = 1) := by show _ = _; unfold parseC; rw [if_pos hs]
    clear hc
    go_enter Tryd.func76, Tryd.ntmps76
    go_wp2_with fail
    refine hz.out.mono ?_
    rintro e w1 ⟨rfl, hb⟩
    have HB := Lib.hid hb
    clear hb
    go_wp2_with fail
    refine (Tag_err _ 1 _).mono ?_
    rintro e w2 ⟨v, rfl, he, hb⟩
    have HE := Lib.hid he
    have HB2 := Lib.hid (bstep HB.out hb)
    clear he hb
    go_wp2_with fail
    go_ret2
    exact ⟨.slice none 0 0, v, rfl, by rw [hp.out]; exact own_nil _ _ _ _, by rw [hpc.out]; exact HE.out.mono HB.out.size, HB2.out⟩
  · have hne : sizeR ws ≠ s.size := fun h => hc (by unfold parseC; rw [if_neg hs, if_neg (fun q => q h)])
    have hd : decide (sizeR ws < 0) = false := by simpa using hs
    have hd2 : (sizeR ws != (s.size : Int)) = true := by simpa using hne
    have hpc : Hid (parseC ws s = 2) := by show _ = _; unfold parseC; rw [if_neg hs, if_pos hne]
    clear hc hne
    go_enter Tryd.func76, Tryd.ntmps76
    go_wp2_with fail
    refine hz.out.mono ?_
    rintro e w1 ⟨rfl, hb⟩
    have HB := Lib.hid hb
    clear hb
    go_wp2_with fail
    refine (Tag_err _ 2 _).mono ?_
    rintro e w2 ⟨v, rfl, he, hb⟩
    have HE := Lib.hid he
    have HB2 := Lib.hid (bstep HB.out hb)
    clear he hb
    go_wp2_with fail
    go_ret2
    exact ⟨.slice none 0 0, v, rfl, by rw [hp.out]; exact own_nil _ _ _ _, by rw [hpc.out]; exact HE.out.mono HB.out.size, HB2.out⟩
theorem Parse_none (A : Option Addr) (c : Nat) (W : World) (h : Ints W A [] c) :
    Calls Tryd.prog 76 #[.slice A 0 c, .string ⟨#[]⟩] W (ParsePost [] ⟨#[]⟩ W) := by
  have hz := Lib.hid (Size_any _ [] c W h)
  clear h
  go_enter Tryd.func76, Tryd.ntmps76
  go_wp2_with fail
  refine hz.out.mono ?_
  rintro e w1 ⟨rfl, hb⟩
  have HB := Lib.hid hb
  clear hb
  have hs : sizeR [] = 0 := rfl
  go_wp2_with fail
  refine wp_loop_rounds 1 ?_
  rw [rounds_succ]
  go_wp2_with fail
  go_ret2
  exact ⟨_, _, rfl, own_nil _ _ _ _, ErrC.nil _ _, HB.out⟩
set_option maxHeartbeats 800000 in
theorem Parse_go (b1 o1 : Nat) (ws : List Int) (c : Nat) (s : ByteArray) (W : World) (h : Ints W (some ⟨b1, o1, none⟩) ws c) (hc1 : ∀ j, j < ws.length → W.cell? ⟨b1, o1 + j, none⟩ = some (.int .i64 (rd ws j))) (hc : parseC ws s = 0) (hsz : s.size ≤ 9223372036854775807) :
    Calls Tryd.prog 76 #[.slice (some ⟨b1, o1, none⟩) ws.length c, .string s] W (ParsePost ws s W) := by
  obtain ⟨i0, hi, hz0, hz1, hz2⟩ := info_parts info_int
  have hs0 : ¬ sizeR ws < 0 := fun h => by unfold parseC at hc; rw [if_pos h] at hc; cases hc
  have hss : sizeR ws = s.size := by
    rcases Decidable.em (sizeR ws = s.size) with h | h
    · exact h
    · unfold parseC at hc; rw [if_neg hs0, if_pos h] at hc; cases hc
  have hn40 : ws.length ≤ 40 := by
    rcases Nat.lt_or_ge 40 ws.length with hh | hh
    · have := (sizeR_neg ws).2 (fun hx => by omega); omega
    · exact hh
  have hz := Lib.hid (Size_any _ ws c W h)
  have hp : Hid (parseL ws s = parseTo ws s ws.length) := by show _ = _; unfold parseL; rw [if_pos hc]
  have hd : decide (sizeR ws < 0) = false := by simp; omega
  have hd2 : (sizeR ws != (s.size : Int)) = false := by simpa using hss
  have HS := Lib.hid hss
  have HC := Lib.hid hc
  have HR1 := Lib.hid hc1
  clear hs0 hss hc h hc1
  go_enter Tryd.func76, Tryd.ntmps76
  go_wp2_with fail
  refine hz.out.mono ?_
  rintro e w1 ⟨rfl, hb⟩
  have HB := Lib.hid hb
  have hzw := hb.size
  clear hb
  go_wp2_with fail
  go_loopw [1, 7, 9, 10, 11, 28] (fun st out _ _ _ i wl => ∃ k : Nat, k ≤ ws.length ∧ i = .int .i64 k ∧ st = .string (restK ws s k) ∧ wl.ownsRow W.heap.size 3 1 out k (nums .i64 (parseTo ws s k)) ∧ Below W.heap.size W wl) (fun _ _ _ _ _ i _ => ws.length - (intOf i).toNat)
  case atStart => exact ⟨0, Nat.zero_le _, rfl, rfl, own_nil _ _ _ _, HB.out⟩
  case round =>
    obtain ⟨k, hk, rfl, rfl, hown, hb⟩ := hrel
    have HO := Lib.hid hown
    have HB1 := Lib.hid hb
    clear hown hb
    by_cases hlt : k < ws.length
    · have hltb : decide (k < ws.length) = true := by simpa using hlt
      have hi1 : (k : Int) < (ws.length : Int) := by omega
      have x1 : wr.cell? ⟨b1, o1 + k, none⟩ = some (.int .i64 (rd ws k)) := (HB1.out.cell (cell_lt (HR1.out k hlt))).trans (HR1.out k hlt)
      have hge := rest_ge ws s HS.out k hlt
      obtain ⟨r, hr⟩ : ∃ r, r = restK ws s k := ⟨_, rfl⟩
      obtain ⟨x, hx⟩ : ∃ x, x = rd ws k := ⟨_, rfl⟩
      rw [← hr, ← hx] at hge
      rw [← hx] at x1
      rw [← hr]
      have HR := Lib.hid hr
      have HX := Lib.hid hx
      obtain ⟨g1, g2, g3, g4⟩ := hge
      clear hr hx
      have hrz : r.size ≤ 9223372036854775807 := by omega
      go_wp2_with fail
      refine (Get_ok r x _ (mayB_iff.2 ⟨g1, g2⟩) g3 hrz).mono ?_
      rintro e w2 ⟨rfl, hb⟩
      have HB2 := Lib.hid (bstep HB1.out hb)
      have HO2 := Lib.hid (own_under HO.out hb)
      have hzz : W.heap.size ≤ w2.heap.size := HB2.out.size
      clear hb
      go_wp2_with (at_builtin; refine wpList_append_own _ rfl _ _ 93 rfl W.heap.size 3 i0 (.int .i64 0) 1 8 Tryd.underlying93 hi hz0 hz1 hz2 rfl (by decide) _ _ _ rfl (HO2.out.alloc _) ⟨w2.heap.size, 0, none⟩ 1 1 [.int .i64 (getK r x.toNat)] rfl rfl (cell_one_new _ _ _) (fun u hu => by simp at hu; subst hu; rfl) (by unfold maxLen; omega) (by omega) (by simp; omega) ?_; intro v' w3 hown' hg _; have HO3 := Lib.hid hown'; have HB3 := Lib.hid ((HB2.out.alloc hzz (.cells #[.int .i64 (getK r x.toNat)] 3)).grown hg (by simp; omega) (fun k hk => (HO2.out.lt k hk).1)); clear hown' hg)
      go_roundw
      case rel =>
        refine ⟨k + 1, by omega, by go_num, ?_, ?_, HB3.out⟩
        · rw [restK, ← HR.out, ← HX.out]
        · have h := HO3.out
          rw [parseTo, nums_append, ← HR.out, ← HX.out]
          exact h
      case measure => simp [intOf]; omega
    · have hltb : decide (k < ws.length) = false := by simpa using hlt
      have hkn : k = ws.length := by omega
      have HK := Lib.hid hkn
      clear hkn
      go_wp2_with fail
      go_ret2
      refine ⟨_, .nilIface, rfl, ?_, by rw [HC.out]; exact ErrC.nil _ _, HB1.out⟩
      have h := HO.out
      rw [hp.out, parseTo_length, ← HK.out]
      exact h
theorem Parse_any (A : Option Addr) (ws : List Int) (c : Nat) (s : ByteArray) (W : World) (h : Ints W A ws c) (hsz : s.size ≤ 9223372036854775807) :
    Calls Tryd.prog 76 #[.slice A ws.length c, .string s] W (ParsePost ws s W) := by
  by_cases hc : parseC ws s = 0
  · by_cases h0 : ws.length = 0
    · obtain rfl := List.eq_nil_of_length_eq_zero h0
      have : s = ⟨#[]⟩ := by
        have hs : s.size = 0 := by
          unfold parseC at hc
          rw [if_neg (by decide)] at hc
          rcases Decidable.em (sizeR [] = s.size) with h | h
          · have : sizeR [] = 0 := rfl
            omega
          · rw [if_pos h] at hc; cases hc
        obtain ⟨d⟩ := s
        have : d = #[] := Array.eq_empty_of_size_eq_zero hs
        rw [this]
      subst this
      exact Parse_none A c W h
    · obtain ⟨b1, o1, rfl, hc1⟩ := h.at (by omega)
      exact Parse_go b1 o1 ws c s W h hc1 hc hsz
  · exact Parse_bad A ws c s W h hc
end Go.Proofs.YtlcnhagcomljnaaDoor
