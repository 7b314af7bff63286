-- PRINTED BY print.sh 35421559b90ae4d0a3588c463048766b98c2df88dd9212a6774a882060cdf62d: not written by this session
import Derived.Test.YtmnkgcgmbdkjaaaDoorPhalfx0
namespace Go.Proofs.YtmnkgcgmbdkjaaaDoor.Phalf
open Go.RowKit Go.Proofs.YtmnkgcgmbdkjaaaDoorW.PrintWords Go.Proofs.YtmnkgcgmbdkjaaaDoorW.PrintLast Go.Proofs.YtmnkgcgmbdkjaaaDoorW.PrintMore
attribute [local go_sem] max2_int min2_int max_two min_two max_three min_three max_four min_four   -- for this text's walks alone
set_option linter.unusedVariables false
set_option linter.unusedSimpArgs false

/-! ### crc_half: function 105 -/
def crc_half.l0 : Nat → Int → Int → Option (Int)
  | 0, _, _ => none
  | k + 1, x0, x3 => if x3 < 4 then (crc_half.l0 k (Go.bits .xor .u32 (x0 / 2) ((3988292384 * (Go.bits .and .u32 x0 1)) % 4294967296)) (wrap64 (x3 + 1))) else (some x0)
def crc_half.f (k : Nat) (a0 : Int) : Option (Int) := crc_half.l0 k a0 0
theorem crc_half.mono_l : ∀ k, (∀ y0 y1, LeO (crc_half.l0 k y0 y1) (crc_half.l0 (k + 1) y0 y1))
  | 0 => fun _ _ r h => by simp [crc_half.l0] at h
  | k + 1 => by
    have ih0 := crc_half.mono_l k
    · intro y0 y1
      unfold crc_half.l0
      repeat' first
      | (with_reducible exact ih0 _ _)
      | (with_reducible exact LeO.refl _)
      | (with_reducible exact LeO.none _)
      | (with_reducible refine LeO.ite ?_ ?_)
      | (with_reducible refine LeO.bind ?_ (fun _ => ?_))
      | exact ih0 _ _
      | exact LeO.none _
      | refine LeO.ite ?_ ?_
      | refine LeO.bind ?_ (fun _ => ?_)
theorem crc_half.mono : ∀ a0 k, LeO (crc_half.f k a0) (crc_half.f (k + 1) a0) := by
  intro a0 k
  have ih0 := crc_half.mono_l k
  unfold crc_half.f
  repeat' first
      | (with_reducible exact ih0 _ _)
      | (with_reducible exact LeO.refl _)
      | (with_reducible exact LeO.none _)
      | (with_reducible refine LeO.ite ?_ ?_)
      | (with_reducible refine LeO.bind ?_ (fun _ => ?_))
      | exact ih0 _ _
      | exact LeO.none _
      | refine LeO.ite ?_ ?_
      | refine LeO.bind ?_ (fun _ => ?_)
set_option maxHeartbeats 8000000 in
set_option maxRecDepth 100000 in
theorem crc_half.calls (k : Nat) (a0 : Int) (r : Int) (w : World) (h : crc_half.f k a0 = some r) :
    Calls Tryd.prog 105 #[.int .u32 a0] w fun e w' => e = .returned (.int .u32 r) ∧ Drawn0 w w' := by
  have H : (crc_half.l0 k a0 0) = some r := h
  clear h
  have H' := Aside0.mk H
  clear H
  go_enter Tryd.func105, Tryd.ntmps105
  go_wp2
  go_loopg [0, 3] k (fun kq v0 v3 w' => ∃ (x0_1 : Int) (x3_1 : Int), v0 = .int .u32 x0_1 ∧ v3 = .int .i64 x3_1 ∧ Aside0 (crc_half.l0 kq x0_1 x3_1 = some r) ∧ Aside0 (kq ≤ k) ∧ Drawn0 w w')
  case atStart => exact ⟨(a0), (0), (by first | rfl | (simp; done) | (simp [*]; done)), (by first | rfl | (simp; done) | (simp [*]; done)), H', ⟨Nat.le_refl _⟩, by repeat (first | exact Drawn0.refl _ | apply Drawn0.step)⟩
  case round =>
    clear H'
    try clear c1
    obtain ⟨x0_1, x3_1, rfl, rfl, HA, HK1, ⟨m1, rfl⟩⟩ := hrel
    cases gk with
    | zero => exact absurd HA.out (by simp [crc_half.l0])
    | succ k1 =>
      have H := HA.out
      clear HA
      simp only [crc_half.l0] at H
      by_cases c2 : x3_1 < 4
      · rw [if_pos c2] at H
        have c2b0 : decide (x3_1 < 4) = true := decide_eq_true c2
        clear c2
        have H' := Aside0.mk H
        clear H
        go_wp2
        go_roundg k1
        case measure => have := HK1.out; omega
        case rel => exact ⟨(Go.bits .xor .u32 (x0_1 / 2) ((3988292384 * (Go.bits .and .u32 x0_1 1)) % 4294967296)), (wrap64 (x3_1 + 1)), (by first | rfl | (simp; done) | (simp [*]; done)), (by first | rfl | (simp; done) | (simp [*]; done)), H', ⟨by have := HK1.out; omega⟩, by repeat (first | exact Drawn0.refl _ | apply Drawn0.step)⟩
      · rw [if_neg c2] at H
        have c2b0 : decide (x3_1 < 4) = false := decide_eq_false c2
        clear c2
        obtain rfl := Option.some.inj H
        go_wp2
        go_ret
        exact ⟨by first | rfl | (simp; done) | (simp [*]; done), by repeat (first | exact Drawn0.refl _ | apply Drawn0.step)⟩

end Go.Proofs.YtmnkgcgmbdkjaaaDoor.Phalf
