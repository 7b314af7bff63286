/- pack.Get, by its contracts. -/
import Derived.Test.YtlcnhagcomljnaaDoorKPackPPRecUnlike
import Derived.Test.YtlcnhagcomljnaaDoorErrC
import Derived.IntWalk
namespace Go.Proofs.YtlcnhagcomljnaaDoor
open Go.RowKit Go.Extern.Stop Go.Stop Go.Extern Go.Proofs.YtlcnhagcomljnaaDoorW.PrintWords Go.Proofs.YtlcnhagcomljnaaDoorW.PrintLast Go.Proofs.YtlcnhagcomljnaaDoorW.PrintMore Go.Proofs.YtlcnhagcomljnaaDoor.PRecUnlike
set_option linter.unusedVariables false
set_option linter.unusedSimpArgs false

set_option maxHeartbeats 400000 in
theorem Get_ok (s : ByteArray) (w : Int) (W : World) (hm : mayB w = true) (hs : w ≤ s.size) (hz : s.size ≤ 9223372036854775807) :
    Calls Tryd.prog 57 #[.string s, .int .i64 w] W fun e w' => e = .returned (.tuple #[.int .i64 (getK s w.toNat), .nilIface]) ∧ Below W.heap.size W w' := by
  have hm' := hm
  simp only [mayB, decide_eq_true_eq] at hm'
  obtain ⟨h1, h4⟩ := hm'
  have hmay := pack_may.calls w true W (by rw [may_f, hm])
  have HM := Lib.hid hmay
  clear hmay hm
  have hd : decide ((s.size : Int) < w) = false := by simp; omega
  go_enter Tryd.func57, Tryd.ntmps57
  go_wp2_with fail
  refine HM.out.mono ?_
  rintro e w1 ⟨rfl, hb⟩
  have HB := Lib.hid hb.below
  clear hb
  go_wp2_with fail
  go_loop [6, 7, 22] (fun n _ i => ∃ k : Nat, (k : Int) ≤ w ∧ i = .int .i64 k ∧ n = .int .i64 (getK s k)) (fun _ _ i => w.toNat - (intOf i).toNat)
  case atStart => exact ⟨0, by omega, rfl, rfl⟩
  case round =>
    obtain ⟨k, hk, rfl, rfl⟩ := hrel
    have hg := getK_range s k
    by_cases hlt : (k : Int) < w
    · have hks : k < s.size := by omega
      have hor := Lib.hid (or_get s k (by omega) hks)
      go_wp2_with fail
      go_round
      case rel => exact ⟨k + 1, by omega, by go_num, by rw [hor.out]⟩
      case measure => simp [intOf]; omega
    · have hkw : k = w.toNat := by omega
      have HK := Lib.hid hkw
      clear hkw
      go_wp2_with fail
      go_ret2
      have e := HK.out
      subst e
      exact ⟨rfl, HB.out⟩
theorem Get_arg (s : ByteArray) (w : Int) (W : World) (hm : mayB w = false) :
    Calls Tryd.prog 57 #[.string s, .int .i64 w] W fun e w' => ∃ v, e = .returned (.tuple #[.int .i64 0, v]) ∧ ErrC W.heap.size w' v 1 ∧ Below W.heap.size W w' := by
  have hmay := pack_may.calls w false W (by rw [may_f, hm])
  have HM := Lib.hid hmay
  clear hmay hm
  go_enter Tryd.func57, Tryd.ntmps57
  go_wp2_with fail
  refine HM.out.mono ?_
  rintro e w1 ⟨rfl, hb⟩
  have HB := Lib.hid hb.below
  clear hb
  go_wp2_with fail
  refine (Tag_err _ 1 _).mono ?_
  rintro e w2 ⟨v, rfl, he, hb⟩
  have HE := Lib.hid he
  have HB2 := Lib.hid hb
  clear he hb
  go_wp2_with fail
  go_ret2
  exact ⟨_, rfl, HE.out.mono HB.out.size, bstep HB.out HB2.out⟩
theorem Get_form (s : ByteArray) (w : Int) (W : World) (hm : mayB w = true) (hs : (s.size : Int) < w) :
    Calls Tryd.prog 57 #[.string s, .int .i64 w] W fun e w' => ∃ v, e = .returned (.tuple #[.int .i64 0, v]) ∧ ErrC W.heap.size w' v 2 ∧ Below W.heap.size W w' := by
  have hmay := pack_may.calls w true W (by rw [may_f, hm])
  have HM := Lib.hid hmay
  clear hmay hm
  have hd : decide ((s.size : Int) < w) = true := by simp; omega
  go_enter Tryd.func57, Tryd.ntmps57
  go_wp2_with fail
  refine HM.out.mono ?_
  rintro e w1 ⟨rfl, hb⟩
  have HB := Lib.hid hb.below
  clear hb
  go_wp2_with fail
  refine (Tag_err _ 2 _).mono ?_
  rintro e w2 ⟨v, rfl, he, hb⟩
  have HE := Lib.hid he
  have HB2 := Lib.hid hb
  clear he hb
  go_wp2_with fail
  go_ret2
  exact ⟨_, rfl, HE.out.mono HB.out.size, bstep HB.out HB2.out⟩
theorem Put_any (w n : Int) (W : World) : Calls Tryd.prog 54 #[.int .i64 w, .int .i64 n] W fun e w' => e = .returned (.string (putB w n)) ∧ Below W.heap.size W w' :=
  pack_Put.calls 5 w n _ W (put_f w n)
end Go.Proofs.YtlcnhagcomljnaaDoor
