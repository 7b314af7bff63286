-- PRINTED BY print.sh 35421559b90ae4d0a3588c463048766b98c2df88dd9212a6774a882060cdf62d: not written by this session
import Derived.Test.YtbiijkpffllimaaDoorPReadx0
import Derived.Test.YtbiijkpffllimaaDoorPReadx1
import Derived.Test.YtbiijkpffllimaaDoorPReadx2
namespace Go.Proofs.YtbiijkpffllimaaDoor.PRead
open Go.RowKit Go.Proofs.YtbiijkpffllimaaDoorW.PrintWords Go.Proofs.YtbiijkpffllimaaDoorW.PrintLast Go.Proofs.YtbiijkpffllimaaDoorW.PrintMore
attribute [local go_sem] max2_int min2_int max_two min_two max_three min_three max_four min_four   -- for this text's walks alone
set_option linter.unusedVariables false
set_option linter.unusedSimpArgs false

/-! ### dynamoref09_Read: function 32 -/
mutual
def dynamoref09_Read.j0 : Nat → ByteArray → Bool → Option (List Int × List ByteArray × List Int × Bool)
  | 0, _, _ => none
  | k + 1, x0, x21 => if x21 = true then (some (([] : List Int), ([] : List ByteArray), ([] : List Int), false)) else (if 1 < (x0.size : Int) then (if 0 < (x0.size : Int) then (if (bt x0 0) = 1 then (dynamoref09_Read.j1 k x0 (wrap64 (bt x0 1)) (wrap64 ((wrap64 ((wrap64 (2 + (wrap64 (4 * (wrap64 (bt x0 1)))))) + (wrap64 (bt x0 1)))) + 1))) else (dynamoref09_Read.j1 k x0 (wrap64 (bt x0 1)) (wrap64 (2 + (wrap64 (16 * (wrap64 (bt x0 1)))))))) else (none)) else (none))
def dynamoref09_Read.j1 : Nat → ByteArray → Int → Int → Option (List Int × List ByteArray × List Int × Bool)
  | 0, _, _, _ => none
  | k + 1, x0, x5, x6 => if (x0.size : Int) = x6 then (dynamoref09_Read.l0 k x0 x5 0 ([] : List Int) ([] : List ByteArray)) else (some (([] : List Int), ([] : List ByteArray), ([] : List Int), false))
def dynamoref09_Read.l0 : Nat → ByteArray → Int → Int → List Int → List ByteArray → Option (List Int × List ByteArray × List Int × Bool)
  | 0, _, _, _, _, _ => none
  | k + 1, x0, x5, x7, x113000, x113001 => if x7 < x5 then (if 0 ≤ (wrap64 (2 + (wrap64 (4 * x7)))) then (if (wrap64 (2 + (wrap64 (4 * x7)))) ≤ (x0.size : Int) then ((dynamoref03_Get.f k (x0.extract ((wrap64 (2 + (wrap64 (4 * x7)))) : Int).toNat x0.size) 4).bind fun t113 => (if x113000.length < 17592186044416 then ((some (x113000 ++ [t113] : List Int)).bind fun y114 => (if 0 < (x0.size : Int) then (if (bt x0 0) = 0 then (if 0 ≤ (wrap64 ((wrap64 (2 + (wrap64 (4 * x5)))) + (wrap64 (12 * x7)))) then (if (wrap64 ((wrap64 (2 + (wrap64 (4 * x5)))) + (wrap64 (12 * x7)))) ≤ (wrap64 ((wrap64 ((wrap64 (2 + (wrap64 (4 * x5)))) + (wrap64 (12 * x7)))) + 12)) then (if (wrap64 ((wrap64 ((wrap64 (2 + (wrap64 (4 * x5)))) + (wrap64 (12 * x7)))) + 12)) ≤ (x0.size : Int) then (if x113001.length < 8796093022208 then (dynamoref09_Read.l0 k x0 x5 (wrap64 (x7 + 1)) y114 (x113001 ++ [x0.extract ((wrap64 ((wrap64 (2 + (wrap64 (4 * x5)))) + (wrap64 (12 * x7)))) : Int).toNat ((wrap64 ((wrap64 ((wrap64 (2 + (wrap64 (4 * x5)))) + (wrap64 (12 * x7)))) + 12)) : Int).toNat])) else (none)) else (none)) else (none)) else (none)) else (dynamoref09_Read.l0 k x0 x5 (wrap64 (x7 + 1)) y114 x113001)) else (none))) else (none))) else (none)) else (none)) else (dynamoref09_Read.l1 k x0 (wrap64 (2 + (wrap64 (4 * x5)))) x113000 x113001 ([] : List Int))
def dynamoref09_Read.l1 : Nat → ByteArray → Int → List Int → List ByteArray → List Int → Option (List Int × List ByteArray × List Int × Bool)
  | 0, _, _, _, _, _ => none
  | k + 1, x0, x8, x113000, x113001, x113002 => if x8 < (x0.size : Int) then (if 0 < (x0.size : Int) then (if (bt x0 0) = 1 then (if 0 ≤ x8 then (if x113002.length < 17592186044416 then (dynamoref09_Read.l1 k x0 (wrap64 (x8 + 1)) x113000 x113001 (x113002 ++ [wrap64 (bt x0 x8)])) else (none)) else (none)) else ((dynamoref09_Right.f k x113000 x113001 x113002).bind fun t123 => (if t123 = true then (some (x113000, x113001, x113002, true)) else (some (([] : List Int), ([] : List ByteArray), ([] : List Int), false))))) else (none)) else ((dynamoref09_Right.f k x113000 x113001 x113002).bind fun t124 => (if t124 = true then (some (x113000, x113001, x113002, true)) else (some (([] : List Int), ([] : List ByteArray), ([] : List Int), false))))
end
def dynamoref09_Read.f (k : Nat) (a0 : ByteArray) : Option (List Int × List ByteArray × List Int × Bool) := if (a0.size : Int) < 2 then (dynamoref09_Read.j0 k a0 true) else (if 0 < (a0.size : Int) then (if (bt a0 0) > 1 then (dynamoref09_Read.j0 k a0 true) else (if 1 < (a0.size : Int) then (dynamoref09_Read.j0 k a0 (decide ((bt a0 1) > 7))) else (none))) else (none))
theorem dynamoref09_Read.mono_l : ∀ k, (∀ y0 y1, LeO (dynamoref09_Read.j0 k y0 y1) (dynamoref09_Read.j0 (k + 1) y0 y1)) ∧ (∀ y0 y1 y2, LeO (dynamoref09_Read.j1 k y0 y1 y2) (dynamoref09_Read.j1 (k + 1) y0 y1 y2)) ∧ (∀ y0 y1 y2 y3 y4, LeO (dynamoref09_Read.l0 k y0 y1 y2 y3 y4) (dynamoref09_Read.l0 (k + 1) y0 y1 y2 y3 y4)) ∧ (∀ y0 y1 y2 y3 y4, LeO (dynamoref09_Read.l1 k y0 y1 y2 y3 y4) (dynamoref09_Read.l1 (k + 1) y0 y1 y2 y3 y4))
  | 0 => ⟨fun _ _ r h => by simp [dynamoref09_Read.j0] at h, fun _ _ _ r h => by simp [dynamoref09_Read.j1] at h, fun _ _ _ _ _ r h => by simp [dynamoref09_Read.l0] at h, fun _ _ _ _ _ r h => by simp [dynamoref09_Read.l1] at h⟩
  | k + 1 => by
    obtain ⟨ih0, ih1, ih2, ih3⟩ := dynamoref09_Read.mono_l k
    refine ⟨?_, ?_, ?_, ?_⟩
    · intro y0 y1
      unfold dynamoref09_Read.j0
      repeat' first
      | (with_reducible exact ih0 _ _)
      | (with_reducible exact ih1 _ _ _)
      | (with_reducible exact ih2 _ _ _ _ _)
      | (with_reducible exact ih3 _ _ _ _ _)
      | (with_reducible exact dynamoref03_Get.mono _ _ _)
      | (with_reducible exact dynamoref09_Right.mono _ _ _ _)
      | (with_reducible exact LeO.refl _)
      | (with_reducible exact LeO.none _)
      | (with_reducible refine LeO.ite ?_ ?_)
      | (with_reducible refine LeO.bind ?_ (fun _ => ?_))
      | exact ih0 _ _
      | exact ih1 _ _ _
      | exact ih2 _ _ _ _ _
      | exact ih3 _ _ _ _ _
      | exact dynamoref03_Get.mono _ _ _
      | exact dynamoref09_Right.mono _ _ _ _
      | exact LeO.none _
      | refine LeO.ite ?_ ?_
      | refine LeO.bind ?_ (fun _ => ?_)
    · intro y0 y1 y2
      unfold dynamoref09_Read.j1
      repeat' first
      | (with_reducible exact ih0 _ _)
      | (with_reducible exact ih1 _ _ _)
      | (with_reducible exact ih2 _ _ _ _ _)
      | (with_reducible exact ih3 _ _ _ _ _)
      | (with_reducible exact dynamoref03_Get.mono _ _ _)
      | (with_reducible exact dynamoref09_Right.mono _ _ _ _)
      | (with_reducible exact LeO.refl _)
      | (with_reducible exact LeO.none _)
      | (with_reducible refine LeO.ite ?_ ?_)
      | (with_reducible refine LeO.bind ?_ (fun _ => ?_))
      | exact ih0 _ _
      | exact ih1 _ _ _
      | exact ih2 _ _ _ _ _
      | exact ih3 _ _ _ _ _
      | exact dynamoref03_Get.mono _ _ _
      | exact dynamoref09_Right.mono _ _ _ _
      | exact LeO.none _
      | refine LeO.ite ?_ ?_
      | refine LeO.bind ?_ (fun _ => ?_)
    · intro y0 y1 y2 y3 y4
      unfold dynamoref09_Read.l0
      repeat' first
      | (with_reducible exact ih0 _ _)
      | (with_reducible exact ih1 _ _ _)
      | (with_reducible exact ih2 _ _ _ _ _)
      | (with_reducible exact ih3 _ _ _ _ _)
      | (with_reducible exact dynamoref03_Get.mono _ _ _)
      | (with_reducible exact dynamoref09_Right.mono _ _ _ _)
      | (with_reducible exact LeO.refl _)
      | (with_reducible exact LeO.none _)
      | (with_reducible refine LeO.ite ?_ ?_)
      | (with_reducible refine LeO.bind ?_ (fun _ => ?_))
      | exact ih0 _ _
      | exact ih1 _ _ _
      | exact ih2 _ _ _ _ _
      | exact ih3 _ _ _ _ _
      | exact dynamoref03_Get.mono _ _ _
      | exact dynamoref09_Right.mono _ _ _ _
      | exact LeO.none _
      | refine LeO.ite ?_ ?_
      | refine LeO.bind ?_ (fun _ => ?_)
    · intro y0 y1 y2 y3 y4
      unfold dynamoref09_Read.l1
      repeat' first
      | (with_reducible exact ih0 _ _)
      | (with_reducible exact ih1 _ _ _)
      | (with_reducible exact ih2 _ _ _ _ _)
      | (with_reducible exact ih3 _ _ _ _ _)
      | (with_reducible exact dynamoref03_Get.mono _ _ _)
      | (with_reducible exact dynamoref09_Right.mono _ _ _ _)
      | (with_reducible exact LeO.refl _)
      | (with_reducible exact LeO.none _)
      | (with_reducible refine LeO.ite ?_ ?_)
      | (with_reducible refine LeO.bind ?_ (fun _ => ?_))
      | exact ih0 _ _
      | exact ih1 _ _ _
      | exact ih2 _ _ _ _ _
      | exact ih3 _ _ _ _ _
      | exact dynamoref03_Get.mono _ _ _
      | exact dynamoref09_Right.mono _ _ _ _
      | exact LeO.none _
      | refine LeO.ite ?_ ?_
      | refine LeO.bind ?_ (fun _ => ?_)
theorem dynamoref09_Read.mono : ∀ a0 k, LeO (dynamoref09_Read.f k a0) (dynamoref09_Read.f (k + 1) a0) := by
  intro a0 k
  obtain ⟨ih0, ih1, ih2, ih3⟩ := dynamoref09_Read.mono_l k
  unfold dynamoref09_Read.f
  repeat' first
      | (with_reducible exact ih0 _ _)
      | (with_reducible exact ih1 _ _ _)
      | (with_reducible exact ih2 _ _ _ _ _)
      | (with_reducible exact ih3 _ _ _ _ _)
      | (with_reducible exact dynamoref03_Get.mono _ _ _)
      | (with_reducible exact dynamoref09_Right.mono _ _ _ _)
      | (with_reducible exact LeO.refl _)
      | (with_reducible exact LeO.none _)
      | (with_reducible refine LeO.ite ?_ ?_)
      | (with_reducible refine LeO.bind ?_ (fun _ => ?_))
      | exact ih0 _ _
      | exact ih1 _ _ _
      | exact ih2 _ _ _ _ _
      | exact ih3 _ _ _ _ _
      | exact dynamoref03_Get.mono _ _ _
      | exact dynamoref09_Right.mono _ _ _ _
      | exact LeO.none _
      | refine LeO.ite ?_ ?_
      | refine LeO.bind ?_ (fun _ => ?_)
def dynamoref09_Read.T13 : Bool × List (List Nat × List Nat) := (true, [([], []), ([0], [0]), ([], []), ([], []), ([3], [3]), ([4], [4]), ([2, 5], [2, 5]), ([6], [6]), ([7], [7]), ([1, 8, 7], [1, 8]), ([0, 1, 2, 3, 4, 5, 6, 7, 8, 9], []), ([10, 9, 9, 0, 1, 2, 3, 4, 5, 6, 7, 8, 9], [9, 10])])
def dynamoref09_Read.B13 : List Nat := [0, 1, 0, 0, 8, 24, 60, 124, 252, 511, 1023, 2047]
theorem dynamoref09_Read.tab13 : rtab .any (opsOf Tryd.f32 13) = dynamoref09_Read.T13 := by kernel_rfl
theorem dynamoref09_Read.bits13 : waitsOk dynamoref09_Read.T13.2 dynamoref09_Read.B13 = true := by kernel_rfl
def dynamoref09_Read.T15 : Bool × List (List Nat × List Nat) := (true, [([], []), ([0], [0]), ([], []), ([], []), ([3], [3]), ([4], [4]), ([], []), ([6], [6]), ([5, 7], [5, 7]), ([], []), ([9], [9]), ([10], [10]), ([], []), ([12], [12]), ([11, 13], [11, 13]), ([14], [14]), ([2, 8, 15], [2, 8, 15]), ([16], [16]), ([1, 17], [1, 17]), ([0, 1, 2, 3, 4, 5, 6, 7, 8, 9, 10, 11, 12, 13, 14, 15, 16, 17, 18], []), ([19, 18, 18, 0, 1, 2, 3, 4, 5, 6, 7, 8, 9, 10, 11, 12, 13, 14, 15, 16, 17, 18], [18, 19])])
def dynamoref09_Read.B15 : List Nat := [0, 1, 0, 0, 8, 24, 0, 64, 248, 0, 512, 1536, 0, 4096, 15872, 32256, 65532, 131068, 262143, 524287, 1048575]
theorem dynamoref09_Read.tab15 : rtab .any (opsOf Tryd.f32 15) = dynamoref09_Read.T15 := by kernel_rfl
theorem dynamoref09_Read.bits15 : waitsOk dynamoref09_Read.T15.2 dynamoref09_Read.B15 = true := by kernel_rfl
def dynamoref09_Read.T19 : Bool × List (List Nat × List Nat) := (true, [([], []), ([0], [0]), ([], []), ([], []), ([2, 3], [2, 3]), ([4], [4]), ([5], [5]), ([1, 6], [1, 6]), ([0, 1, 2, 3, 4, 5, 6, 7], []), ([8, 7, 7, 0, 1, 2, 3, 4, 5, 6, 7], [7, 8])])
def dynamoref09_Read.B19 : List Nat := [0, 1, 0, 0, 12, 28, 60, 127, 255, 511]
theorem dynamoref09_Read.tab19 : rtab .any (opsOf Tryd.f32 19) = dynamoref09_Read.T19 := by kernel_rfl
theorem dynamoref09_Read.bits19 : waitsOk dynamoref09_Read.T19.2 dynamoref09_Read.B19 = true := by kernel_rfl
set_option maxHeartbeats 8000000 in
set_option maxRecDepth 100000 in
theorem dynamoref09_Read.calls (k : Nat) (a0 : ByteArray) (r1 : List Int) (r2 : List ByteArray) (r3 : List Int) (r4 : Bool) (w : World) (h : dynamoref09_Read.f k a0 = some (r1, r2, r3, r4)) :
    Calls Tryd.prog 32 #[.string a0] w fun e w' => ∃ v0_ v1_ v2_ : Value, e = .returned (.tuple #[.agg #[v0_, v1_, v2_], .bool r4]) ∧ Kd.R (Kd.int .i64) 3 w' w.heap.size (fun k_ => some k_ ≠ (v2_ : Value).ownBlock) v0_ r1 ∧ Kd.R Kd.string 9 w' w.heap.size (fun _ => True) v1_ r2 ∧ Kd.R (Kd.int .i64) 3 w' w.heap.size (fun k_ => some k_ ≠ (v0_ : Value).ownBlock) v2_ r3 ∧ Below w.heap.size w w' := by
  have hu25 := Tryd.underlying25
  have HB := Aside0.mk (Below.refl w.heap.size w)
  have H : (if (a0.size : Int) < 2 then (dynamoref09_Read.j0 k a0 true) else (if 0 < (a0.size : Int) then (if (bt a0 0) > 1 then (dynamoref09_Read.j0 k a0 true) else (if 1 < (a0.size : Int) then (dynamoref09_Read.j0 k a0 (decide ((bt a0 1) > 7))) else (none))) else (none))) = some (r1, r2, r3, r4) := h
  clear h
  have HC2 := Aside0.mk H
  clear H
  go_enter Tryd.func32, Tryd.ntmps32
  go_upto_region 2 with (first | ((with_reducible refine gate_dst (N := 2) rfl ?_); refine box_event ?hg (N := 2) ?hd (cs := #[.slice none 0 0, .slice none 0 0, .slice none 0 0]) (t := 25) ?hr ?_; (case hd => rfl); (case hg => rfl); (case hr => first | (go_simp; done) | (go_simp; rfl)); intro gb111 hg w3 hbox hb; have n0_ := Aside0.mk (below_step (by repeat (first | (with_reducible first | exact HB.out | apply below_alloc | apply pw_below_drewN | apply below_drew1) | exact HB.out)) hb); have n1_ := Aside0.mk (hbox); have n2_ := Aside0.mk ((by rw [hg]; exact (below_size (by repeat (first | (with_reducible first | exact HB.out | apply below_alloc | apply pw_below_drewN | apply below_drew1) | exact HB.out))) : w.heap.size ≤ gb111)); have n3_ := Aside0.mk ((by rw [hg]; exact (below_size (by repeat (first | (with_reducible first | exact HB.out | apply below_alloc | apply pw_below_drewN | apply below_drew1) | exact HB.out))) : w.heap.size ≤ gb111)); clear HB; have HB := n0_; have BK111 := n1_; have GW111 := n2_; have GE111 := n3_; clear n0_ n1_ n2_ n3_; clear hb hbox hg) | ((with_reducible refine gate_dst (N := 4) rfl ?_); refine box_event ?hg (N := 4) ?hd (cs := #[.slice none 0 0, .slice none 0 0, .slice none 0 0]) (t := 25) ?hr ?_; (case hd => rfl); (case hg => rfl); (case hr => first | (go_simp; done) | (go_simp; rfl)); intro gb112 hg w4 hbox hb; have n0_ := Aside0.mk (blk_below (g := gb111) (o := .cells #[.slice none 0 0, .slice none 0 0, .slice none 0 0] 25 (0, 0)) (by (with_reducible repeat (first | refine blk_drewN ?_ _ | refine blk_drew ?_ | refine blk_alloc ?_ _)); exact BK111.out) hb); have n1_ := Aside0.mk (below_step (by repeat (first | (with_reducible first | exact HB.out | apply below_alloc | apply pw_below_drewN | apply below_drew1 | refine below_set ?_ GE111.out) | exact HB.out)) hb); have n2_ := Aside0.mk (hbox); have n3_ := Aside0.mk ((by rw [hg]; exact (below_size (by repeat (first | (with_reducible first | exact HB.out | apply below_alloc | apply pw_below_drewN | apply below_drew1 | refine below_set ?_ GE111.out) | exact HB.out))) : w.heap.size ≤ gb112)); have n4_ := Aside0.mk ((by rw [hg]; exact (below_size (by repeat (first | (with_reducible first | exact HB.out | apply below_alloc | apply pw_below_drewN | apply below_drew1 | refine below_set ?_ GE111.out) | exact HB.out))) : w.heap.size ≤ gb112)); have n5_ := Aside0.mk ((by rw [hg]; exact Nat.ne_of_lt (blk_lt (g := gb111) (o := .cells #[.slice none 0 0, .slice none 0 0, .slice none 0 0] 25 (0, 0)) (by (with_reducible repeat (first | refine blk_drewN ?_ _ | refine blk_drew ?_ | refine blk_alloc ?_ _)); exact BK111.out)) : gb111 ≠ gb112)); have n6_ := Aside0.mk ((by rw [hg]; exact Nat.ne_of_gt (blk_lt (g := gb111) (o := .cells #[.slice none 0 0, .slice none 0 0, .slice none 0 0] 25 (0, 0)) (by (with_reducible repeat (first | refine blk_drewN ?_ _ | refine blk_drew ?_ | refine blk_alloc ?_ _)); exact BK111.out)) : gb112 ≠ gb111)); clear BK111; clear HB; have BK111 := n0_; have HB := n1_; have BK112 := n2_; have GW112 := n3_; have GE112 := n4_; have NB111_112 := n5_; have NB112_111 := n6_; clear n0_ n1_ n2_ n3_ n4_ n5_ n6_; clear hb hbox hg))
  (try simp only [Act.put, List.setIfInBounds_toArray, List.set_cons_zero, List.set_cons_succ])
  go_cut [21] (fun v21 wc => ∃ (kq : Nat) (x21_1 : Bool), v21 = .bool x21_1 ∧ Aside0 (dynamoref09_Read.j0 kq a0 x21_1 = some (r1, r2, r3, r4)) ∧ Aside0 (kq ≤ k) ∧ Aside0 (wc.heap[gb111]? = some (.cells #[(.slice none 0 0), (.slice none 0 0), (.slice none 0 0)] 25 (0, 0))) ∧ Aside0 (wc.heap[gb112]? = some (.cells #[(.slice none 0 0), (.slice none 0 0), (.slice none 0 0)] 25 (0, 0))) ∧ Aside0 (Below w.heap.size w wc))
  case first =>
    have H := HC2.out
    clear HC2
    by_cases c5 : (a0.size : Int) < 2
    · rw [if_pos c5] at H
      have c5b0 : decide ((a0.size : Int) < 2) = true := decide_eq_true c5
      have c5b1 : decide (a0.size < 2) = true := decide_eq_true (by omega)
      clear c5
      (first | rw [c5b0] | (simp only [i64_w, i32_w]; rw [c5b0]) | skip)
      have H' := Aside0.mk H
      clear H
      go_wp2
      go_meet
      case rel => exact ⟨_, (true), (by first | rfl | (simp; done) | (simp [*]; done)), H', ⟨by first | omega | exact Nat.le_refl _⟩, ⟨by (with_reducible repeat (first | refine blk_drewN ?_ _ | refine blk_drew ?_ | refine blk_alloc ?_ _)); exact BK111.out⟩, ⟨by (with_reducible repeat (first | refine blk_drewN ?_ _ | refine blk_drew ?_ | refine blk_alloc ?_ _)); exact BK112.out⟩, ⟨by repeat (first | (with_reducible first | exact HB.out | apply below_alloc | apply pw_below_drewN | apply below_drew1 | refine below_set ?_ GE111.out | refine below_set ?_ GE112.out) | exact HB.out)⟩⟩
    · rw [if_neg c5] at H
      have c5b0 : decide ((a0.size : Int) < 2) = false := decide_eq_false c5
      have c5b1 : decide (a0.size < 2) = false := decide_eq_false (by omega)
      clear c5
      (first | rw [c5b0] | (simp only [i64_w, i32_w]; rw [c5b0]) | skip)
      by_cases c6 : 0 < (a0.size : Int)
      · rw [if_pos c6] at H
        have c6b0 : decide (0 < (a0.size : Int)) = true := decide_eq_true c6
        have c6b1 : decide (0 < a0.size) = true := decide_eq_true (by omega)
        clear c6
        by_cases c8 : (bt a0 0) > 1
        · rw [if_pos c8] at H
          have c8b0 : decide (1 < (bt a0 0)) = true := decide_eq_true c8
          clear c8
          have H' := Aside0.mk H
          clear H
          have p7 : 0 ≤ (0 : Int) := (by omega)
          have q7 : 0 < a0.size := (by have : (0 : Int) < (a0.size : Int) := of_decide_eq_true (by first | (with_reducible assumption) | assumption); omega)
          have hx7 : ∀ h : 0 < a0.size, ((a0[0]'h).toNat : Int) = bt a0 0 := bt_at a0 0
          clear p7
          have qi7 : (0 < (a0.size : Int)) = True := eq_true (of_decide_eq_true (by first | (with_reducible assumption) | assumption))
          replace q7 := eq_true q7
          go_wp2
          go_meet
          case rel => exact ⟨_, (true), (by first | rfl | (simp; done) | (simp [*]; done)), H', ⟨by first | omega | exact Nat.le_refl _⟩, ⟨by (with_reducible repeat (first | refine blk_drewN ?_ _ | refine blk_drew ?_ | refine blk_alloc ?_ _)); exact BK111.out⟩, ⟨by (with_reducible repeat (first | refine blk_drewN ?_ _ | refine blk_drew ?_ | refine blk_alloc ?_ _)); exact BK112.out⟩, ⟨by repeat (first | (with_reducible first | exact HB.out | apply below_alloc | apply pw_below_drewN | apply below_drew1 | refine below_set ?_ GE111.out | refine below_set ?_ GE112.out) | exact HB.out)⟩⟩
        · rw [if_neg c8] at H
          have c8b0 : decide (1 < (bt a0 0)) = false := decide_eq_false c8
          clear c8
          by_cases c9 : 1 < (a0.size : Int)
          · rw [if_pos c9] at H
            have c9b0 : decide (1 < (a0.size : Int)) = true := decide_eq_true c9
            have c9b1 : decide (1 < a0.size) = true := decide_eq_true (by omega)
            clear c9
            have H' := Aside0.mk H
            clear H
            have p7 : 0 ≤ (0 : Int) := (by omega)
            have q7 : 0 < a0.size := (by have : (0 : Int) < (a0.size : Int) := of_decide_eq_true (by first | (with_reducible assumption) | assumption); omega)
            have hx7 : ∀ h : 0 < a0.size, ((a0[0]'h).toNat : Int) = bt a0 0 := bt_at a0 0
            clear p7
            have qi7 : (0 < (a0.size : Int)) = True := eq_true (of_decide_eq_true (by first | (with_reducible assumption) | assumption))
            replace q7 := eq_true q7
            have p10 : 0 ≤ (1 : Int) := (by omega)
            have q10 : 1 < a0.size := (by have : (1 : Int) < (a0.size : Int) := of_decide_eq_true (by first | (with_reducible assumption) | assumption); omega)
            have hx10 : ∀ h : 1 < a0.size, ((a0[1]'h).toNat : Int) = bt a0 1 := bt_at a0 1
            clear p10
            have qi10 : (1 < (a0.size : Int)) = True := eq_true (of_decide_eq_true (by first | (with_reducible assumption) | assumption))
            replace q10 := eq_true q10
            go_wp2
            go_meet
            case rel => exact ⟨_, (decide ((bt a0 1) > 7)), (by first | rfl | (simp; done) | (simp [*]; done)), H', ⟨by first | omega | exact Nat.le_refl _⟩, ⟨by (with_reducible repeat (first | refine blk_drewN ?_ _ | refine blk_drew ?_ | refine blk_alloc ?_ _)); exact BK111.out⟩, ⟨by (with_reducible repeat (first | refine blk_drewN ?_ _ | refine blk_drew ?_ | refine blk_alloc ?_ _)); exact BK112.out⟩, ⟨by repeat (first | (with_reducible first | exact HB.out | apply below_alloc | apply pw_below_drewN | apply below_drew1 | refine below_set ?_ GE111.out | refine below_set ?_ GE112.out) | exact HB.out)⟩⟩
          · rw [if_neg c9] at H
            exact absurd H (by simp)
      · rw [if_neg c6] at H
        exact absurd H (by simp)
  case rest =>
    clear HC2
    try clear p1
    try clear q1
    try clear hx1
    try clear qi1
    try clear p2
    try clear c3
    try clear c5
    try clear c5b0
    try clear c5b1
    try clear c6
    try clear c6b0
    try clear c6b1
    try clear p7
    try clear q7
    try clear hx7
    try clear qi7
    try clear c8
    try clear c8b0
    try clear c9
    try clear c9b0
    try clear c9b1
    try clear p10
    try clear q10
    try clear hx10
    try clear qi10
    try clear p10
    try clear p7
    try clear q10
    try clear q7
    obtain ⟨kq, x21_1, rfl, HA, HJ1, BK111, BK112, HB⟩ := hcut
    cases kq with
    | zero => exact absurd HA.out (by simp [dynamoref09_Read.j0])
    | succ kj1 =>
      have H := HA.out
      clear HA
      simp only [dynamoref09_Read.j0] at H
      by_cases c11 : x21_1 = true
      · subst c11
        have H1 : (some (([] : List Int), ([] : List ByteArray), ([] : List Int), false)) = some (r1, r2, r3, r4) := by rw [if_pos rfl] at H; exact H
        clear H
        have H := H1
        clear H1
        simp only [Option.some.injEq, Prod.mk.injEq] at H
        obtain ⟨rfl, rfl, rfl, rfl⟩ := H
        have hnb12 := NB112_111.out
        have hnc12 := NB111_112.out
        have hcz13_0 : wc.cell? ⟨gb112, 0, none⟩ = some (.slice none 0 0) := (blk_cell BK112.out 0).trans rfl
        have hcz13_1 : wc.cell? ⟨gb112, 1, none⟩ = some (.slice none 0 0) := (blk_cell BK112.out 1).trans rfl
        have hcz13_2 : wc.cell? ⟨gb112, 2, none⟩ = some (.slice none 0 0) := (blk_cell BK112.out 2).trans rfl
        have hfz13_0 := blk_frozen BK112.out 0
        have hfz13_1 := blk_frozen BK112.out 1
        have hfz13_2 := blk_frozen BK112.out 2
        have hcz14_0 : wc.cell? ⟨gb111, 0, none⟩ = some (.slice none 0 0) := (blk_cell BK111.out 0).trans rfl
        have hcz14_1 : wc.cell? ⟨gb111, 1, none⟩ = some (.slice none 0 0) := (blk_cell BK111.out 1).trans rfl
        have hcz14_2 : wc.cell? ⟨gb111, 2, none⟩ = some (.slice none 0 0) := (blk_cell BK111.out 2).trans rfl
        have hfz14_0 := blk_frozen BK111.out 0
        have hfz14_1 := blk_frozen BK111.out 1
        have hfz14_2 := blk_frozen BK111.out 2
        go_wp2
        refine bodyPost_ret (results_ct rfl _ _ gb111 25 #[.slice none 0 0, .slice none 0 0, .slice none 0 0] (0, 0) _ rfl (by (with_reducible repeat (first | refine blk_drewN ?_ _ | refine blk_drew ?_ | refine blk_alloc ?_ _)); refine blk_put (cs := #[.slice none 0 0, .slice none 0 0, .slice none 0 0]) ?_ 2 _ rfl; (with_reducible repeat (first | refine blk_drewN ?_ _ | refine blk_drew ?_ | refine blk_alloc ?_ _)); refine blk_put (cs := #[.slice none 0 0, .slice none 0 0, .slice none 0 0]) ?_ 1 _ rfl; (with_reducible repeat (first | refine blk_drewN ?_ _ | refine blk_drew ?_ | refine blk_alloc ?_ _)); refine blk_put (cs := #[.slice none 0 0, .slice none 0 0, .slice none 0 0]) ?_ 0 _ rfl; (with_reducible repeat (first | refine blk_drewN ?_ _ | refine blk_drew ?_ | refine blk_alloc ?_ _)); exact BK111.out) Tryd.underlying25 rfl (by kernel_rfl)) rfl ?_
        exact ⟨_, _, _, by first | rfl | (simp [errW_none, errW_some] <;> rfl) | (simp [*, errW_none, errW_some] <;> rfl), by first | exact Kd.R_nil _ _ _ _ _ | exact Kd.N_nil _ _ _ _ _ | exact Kd.V_nil _ _ _ _ _ | exact Kd.Q_nil _ _ _ _ _ | exact Kd.S_nil _ _ _ _ _, by first | exact Kd.R_nil _ _ _ _ _ | exact Kd.N_nil _ _ _ _ _ | exact Kd.V_nil _ _ _ _ _ | exact Kd.Q_nil _ _ _ _ _ | exact Kd.S_nil _ _ _ _ _, by first | exact Kd.R_nil _ _ _ _ _ | exact Kd.N_nil _ _ _ _ _ | exact Kd.V_nil _ _ _ _ _ | exact Kd.Q_nil _ _ _ _ _ | exact Kd.S_nil _ _ _ _ _, by repeat (first | (with_reducible first | exact HB.out | apply below_alloc | apply pw_below_drewN | apply below_drew1 | refine below_set ?_ GE111.out | refine below_set ?_ GE112.out) | exact HB.out)⟩
      · replace c11 := Bool.eq_false_iff.mpr c11
        subst c11
        have H1 : (if 1 < (a0.size : Int) then (if 0 < (a0.size : Int) then (if (bt a0 0) = 1 then (dynamoref09_Read.j1 kj1 a0 (wrap64 (bt a0 1)) (wrap64 ((wrap64 ((wrap64 (2 + (wrap64 (4 * (wrap64 (bt a0 1)))))) + (wrap64 (bt a0 1)))) + 1))) else (dynamoref09_Read.j1 kj1 a0 (wrap64 (bt a0 1)) (wrap64 (2 + (wrap64 (16 * (wrap64 (bt a0 1)))))))) else (none)) else (none)) = some (r1, r2, r3, r4) := by rw [if_neg (show ¬ (false = true) by decide)] at H; exact H
        clear H
        have H := H1
        clear H1
        by_cases c15 : 1 < (a0.size : Int)
        · rw [if_pos c15] at H
          have c15b0 : decide (1 < (a0.size : Int)) = true := decide_eq_true c15
          have c15b1 : decide (1 < a0.size) = true := decide_eq_true (by omega)
          clear c15
          by_cases c17 : 0 < (a0.size : Int)
          · rw [if_pos c17] at H
            have c17b0 : decide (0 < (a0.size : Int)) = true := decide_eq_true c17
            have c17b1 : decide (0 < a0.size) = true := decide_eq_true (by omega)
            clear c17
            have HC19 := Aside0.mk H
            clear H
            have p16 : 0 ≤ (1 : Int) := (by omega)
            have q16 : 1 < a0.size := (by have : (1 : Int) < (a0.size : Int) := of_decide_eq_true (by first | (with_reducible assumption) | assumption); omega)
            have hx16 : ∀ h : 1 < a0.size, ((a0[1]'h).toNat : Int) = bt a0 1 := bt_at a0 1
            clear p16
            have qi16 : (1 < (a0.size : Int)) = True := eq_true (of_decide_eq_true (by first | (with_reducible assumption) | assumption))
            replace q16 := eq_true q16
            have p18 : 0 ≤ (0 : Int) := (by omega)
            have q18 : 0 < a0.size := (by have : (0 : Int) < (a0.size : Int) := of_decide_eq_true (by first | (with_reducible assumption) | assumption); omega)
            have hx18 : ∀ h : 0 < a0.size, ((a0[0]'h).toNat : Int) = bt a0 0 := bt_at a0 0
            clear p18
            have qi18 : (0 < (a0.size : Int)) = True := eq_true (of_decide_eq_true (by first | (with_reducible assumption) | assumption))
            replace q18 := eq_true q18
            go_upto_if 31 with (fail)
            go_cut [6] (fun v6 wc => ∃ (kq : Nat) (x6_18 : Int), v6 = .int .i64 x6_18 ∧ Aside0 (dynamoref09_Read.j1 kq a0 (wrap64 (bt a0 1)) x6_18 = some (r1, r2, r3, r4)) ∧ Aside0 (kq ≤ kj1) ∧ Aside0 (wc.heap[gb111]? = some (.cells #[(.slice none 0 0), (.slice none 0 0), (.slice none 0 0)] 25 (0, 0))) ∧ Aside0 (wc.heap[gb112]? = some (.cells #[(.slice none 0 0), (.slice none 0 0), (.slice none 0 0)] 25 (0, 0))) ∧ Aside0 (Below w.heap.size w wc))
            case first =>
              have H := HC19.out
              clear HC19
              by_cases c20 : (bt a0 0) = 1
              · rw [if_pos c20] at H
                have c20b0 : ((bt a0 0) == 1) = true := beq_iff_eq.mpr c20
                have c20b1 : ((bt a0 0) != 1) = false := bne_eq_false_iff_eq.mpr c20
                clear c20
                (first | rw [c20b0] | (simp only [i64_w, i32_w]; rw [c20b0]) | skip)
                have H' := Aside0.mk H
                clear H
                go_wp2
                go_meet
                case rel => exact ⟨_, (wrap64 ((wrap64 ((wrap64 (2 + (wrap64 (4 * (wrap64 (bt a0 1)))))) + (wrap64 (bt a0 1)))) + 1)), (by first | rfl | (simp; done) | (simp [*]; done)), H', ⟨by have := HJ1.out; first | omega | exact Nat.le_refl _⟩, ⟨by (with_reducible repeat (first | refine blk_drewN ?_ _ | refine blk_drew ?_ | refine blk_alloc ?_ _)); exact BK111.out⟩, ⟨by (with_reducible repeat (first | refine blk_drewN ?_ _ | refine blk_drew ?_ | refine blk_alloc ?_ _)); exact BK112.out⟩, ⟨by repeat (first | (with_reducible first | exact HB.out | apply below_alloc | apply pw_below_drewN | apply below_drew1 | refine below_set ?_ GE111.out | refine below_set ?_ GE112.out) | exact HB.out)⟩⟩
              · rw [if_neg c20] at H
                have c20b0 : ((bt a0 0) == 1) = false := beq_eq_false_iff_ne.mpr c20
                have c20b1 : ((bt a0 0) != 1) = true := bne_iff_ne.mpr c20
                (first | rw [c20b0] | (simp only [i64_w, i32_w]; rw [c20b0]) | skip)
                have H' := Aside0.mk H
                clear H
                go_wp2
                go_meet
                case rel => exact ⟨_, (wrap64 (2 + (wrap64 (16 * (wrap64 (bt a0 1)))))), (by first | rfl | (simp; done) | (simp [*]; done)), H', ⟨by have := HJ1.out; first | omega | exact Nat.le_refl _⟩, ⟨by (with_reducible repeat (first | refine blk_drewN ?_ _ | refine blk_drew ?_ | refine blk_alloc ?_ _)); exact BK111.out⟩, ⟨by (with_reducible repeat (first | refine blk_drewN ?_ _ | refine blk_drew ?_ | refine blk_alloc ?_ _)); exact BK112.out⟩, ⟨by repeat (first | (with_reducible first | exact HB.out | apply below_alloc | apply pw_below_drewN | apply below_drew1 | refine below_set ?_ GE111.out | refine below_set ?_ GE112.out) | exact HB.out)⟩⟩
            case rest =>
              clear HC19
              try clear c1
              try clear p1
              try clear q1
              try clear hx1
              try clear qi1
              try clear c2
              try clear p2
              try clear c3
              try clear c5
              try clear c5b0
              try clear c5b1
              try clear c6
              try clear c6b0
              try clear c6b1
              try clear p6
              try clear p7
              try clear q7
              try clear hx7
              try clear qi7
              try clear c8
              try clear c8b0
              try clear c9
              try clear c9b0
              try clear c9b1
              try clear p10
              try clear q10
              try clear hx10
              try clear qi10
              try clear c11
              try clear c12
              try clear c15
              try clear c15b0
              try clear c15b1
              try clear p16
              try clear q16
              try clear hx16
              try clear qi16
              try clear c17
              try clear c17b0
              try clear c17b1
              try clear p18
              try clear q18
              try clear hx18
              try clear qi18
              try clear c20
              try clear c20b0
              try clear c20b1
              try clear hcz13_0
              try clear hcz13_1
              try clear hcz13_2
              try clear hcz14_0
              try clear hcz14_1
              try clear hcz14_2
              try clear hfz13_0
              try clear hfz13_1
              try clear hfz13_2
              try clear hfz14_0
              try clear hfz14_1
              try clear hfz14_2
              try clear p1
              try clear p10
              try clear p16
              try clear p18
              try clear p2
              try clear p7
              try clear q1
              try clear q10
              try clear q16
              try clear q18
              try clear q7
              obtain ⟨kq, x6_18, rfl, HA, HJ18, BK111, BK112, HB⟩ := hcut
              cases kq with
              | zero => exact absurd HA.out (by simp [dynamoref09_Read.j1])
              | succ kj18 =>
                have H := HA.out
                clear HA
                simp only [dynamoref09_Read.j1] at H
                by_cases c21 : (a0.size : Int) = x6_18
                · rw [if_pos c21] at H
                  have c21b0 : ((a0.size : Int) == x6_18) = true := beq_iff_eq.mpr c21
                  have c21b1 : ((a0.size : Int) != x6_18) = false := bne_eq_false_iff_eq.mpr c21
                  clear c21
                  have H' := Aside0.mk H
                  clear H
                  go_wp2
                  go_loopg [7] kj18 (fun kq v7 w' => ∃ (x7_3 : Int) (x113000_3 : List Int) (x113001_3 : List ByteArray) (u113000 : Value) (u113001 : Value), v7 = .int .i64 x7_3 ∧ Aside0 (dynamoref09_Read.l0 kq a0 (wrap64 (bt a0 1)) x7_3 x113000_3 x113001_3 = some (r1, r2, r3, r4)) ∧ Aside0 (kq ≤ kj18) ∧ Aside0 (Kd.R (Kd.int .i64) 3 w' w.heap.size (fun _ => True) u113000 x113000_3) ∧ Aside0 (Kd.R Kd.string 9 w' w.heap.size (fun _ => True) u113001 x113001_3) ∧ Aside0 (w'.heap[gb111]? = some (.cells #[(.slice none 0 0), (.slice none 0 0), (.slice none 0 0)] 25 (0, 0))) ∧ Aside0 (w'.heap[gb112]? = some (.cells #[u113000, u113001, (.slice none 0 0)] 25 (0, 0))) ∧ Aside0 (Below w.heap.size w w'))
                  case atStart => exact ⟨(0), (([] : List Int)), (([] : List ByteArray)), (.slice none 0 0), (.slice none 0 0), (by first | rfl | (simp; done) | (simp [*]; done)), H', ⟨Nat.le_refl _⟩, ⟨by first | exact Kd.R_nil _ _ _ _ _ | exact Kd.N_nil _ _ _ _ _ | exact Kd.V_nil _ _ _ _ _ | exact Kd.Q_nil _ _ _ _ _ | exact Kd.S_nil _ _ _ _ _⟩, ⟨by first | exact Kd.R_nil _ _ _ _ _ | exact Kd.N_nil _ _ _ _ _ | exact Kd.V_nil _ _ _ _ _ | exact Kd.Q_nil _ _ _ _ _ | exact Kd.S_nil _ _ _ _ _⟩, ⟨by (with_reducible repeat (first | refine blk_drewN ?_ _ | refine blk_drew ?_ | refine blk_alloc ?_ _)); exact BK111.out⟩, ⟨by (with_reducible repeat (first | refine blk_drewN ?_ _ | refine blk_drew ?_ | refine blk_alloc ?_ _)); exact BK112.out⟩, ⟨by repeat (first | (with_reducible first | exact HB.out | apply below_alloc | apply pw_below_drewN | apply below_drew1 | refine below_set ?_ GE111.out | refine below_set ?_ GE112.out) | exact HB.out)⟩⟩
                  case round =>
                    clear H'
                    try clear c1
                    try clear p1
                    try clear q1
                    try clear hx1
                    try clear qi1
                    try clear c2
                    try clear p2
                    try clear c3
                    try clear c5
                    try clear c5b0
                    try clear c5b1
                    try clear c6
                    try clear c6b0
                    try clear c6b1
                    try clear p6
                    try clear p7
                    try clear q7
                    try clear hx7
                    try clear qi7
                    try clear c8
                    try clear c8b0
                    try clear c9
                    try clear c9b0
                    try clear c9b1
                    try clear p10
                    try clear q10
                    try clear hx10
                    try clear qi10
                    try clear c11
                    try clear c12
                    try clear c15
                    try clear c15b0
                    try clear c15b1
                    try clear p16
                    try clear q16
                    try clear hx16
                    try clear qi16
                    try clear c17
                    try clear c17b0
                    try clear c17b1
                    try clear p18
                    try clear q18
                    try clear hx18
                    try clear qi18
                    try clear c20
                    try clear c20b0
                    try clear c20b1
                    try clear c21
                    try clear c21b0
                    try clear c21b1
                    try clear hcz13_0
                    try clear hcz13_1
                    try clear hcz13_2
                    try clear hcz14_0
                    try clear hcz14_1
                    try clear hcz14_2
                    try clear hfz13_0
                    try clear hfz13_1
                    try clear hfz13_2
                    try clear hfz14_0
                    try clear hfz14_1
                    try clear hfz14_2
                    try clear p1
                    try clear p10
                    try clear p16
                    try clear p18
                    try clear p2
                    try clear p6
                    try clear p7
                    try clear q1
                    try clear q10
                    try clear q16
                    try clear q18
                    try clear q7
                    obtain ⟨x7_3, x113000_3, x113001_3, u113000, u113001, rfl, HA, HK3, HO_113000, HO_113001, BK111, BK112, HB⟩ := hrel
                    cases gk with
                    | zero => exact absurd HA.out (by simp [dynamoref09_Read.l0])
                    | succ k3 =>
                      have H := HA.out
                      clear HA
                      simp only [dynamoref09_Read.l0] at H
                      by_cases c22 : x7_3 < (wrap64 (bt a0 1))
                      · rw [if_pos c22] at H
                        have c22b0 : decide (x7_3 < (wrap64 (bt a0 1))) = true := decide_eq_true c22
                        clear c22
                        obtain ⟨ji23, hji23⟩ : ∃ j_ : Int, (wrap64 (2 + (wrap64 (4 * x7_3)))) = j_ := ⟨_, rfl⟩
                        replace H : (if 0 ≤ (ji23) then (if (ji23) ≤ (a0.size : Int) then ((dynamoref03_Get.f k3 (a0.extract ((ji23) : Int).toNat a0.size) 4).bind fun t113 => (if x113000_3.length < 17592186044416 then ((some (x113000_3 ++ [t113] : List Int)).bind fun y114 => (if 0 < (a0.size : Int) then (if (bt a0 0) = 0 then (if 0 ≤ (wrap64 ((wrap64 (2 + (wrap64 (4 * (wrap64 (bt a0 1)))))) + (wrap64 (12 * x7_3)))) then (if (wrap64 ((wrap64 (2 + (wrap64 (4 * (wrap64 (bt a0 1)))))) + (wrap64 (12 * x7_3)))) ≤ (wrap64 ((wrap64 ((wrap64 (2 + (wrap64 (4 * (wrap64 (bt a0 1)))))) + (wrap64 (12 * x7_3)))) + 12)) then (if (wrap64 ((wrap64 ((wrap64 (2 + (wrap64 (4 * (wrap64 (bt a0 1)))))) + (wrap64 (12 * x7_3)))) + 12)) ≤ (a0.size : Int) then (if x113001_3.length < 8796093022208 then (dynamoref09_Read.l0 k3 a0 (wrap64 (bt a0 1)) (wrap64 (x7_3 + 1)) y114 (x113001_3 ++ [a0.extract ((wrap64 ((wrap64 (2 + (wrap64 (4 * (wrap64 (bt a0 1)))))) + (wrap64 (12 * x7_3)))) : Int).toNat ((wrap64 ((wrap64 ((wrap64 (2 + (wrap64 (4 * (wrap64 (bt a0 1)))))) + (wrap64 (12 * x7_3)))) + 12)) : Int).toNat])) else (none)) else (none)) else (none)) else (none)) else (dynamoref09_Read.l0 k3 a0 (wrap64 (bt a0 1)) (wrap64 (x7_3 + 1)) y114 x113001_3)) else (none))) else (none))) else (none)) else (none)) = some (r1, r2, r3, r4) := by first | (rw [hji23] at H; exact H) | (simp only [hji23] at H ⊢; exact H)
                        have hji23w : (IntKind.i64.wrap (2 + (wrap64 (4 * x7_3)))) = ji23 := (i64_w _).trans hji23
                        by_cases c24 : 0 ≤ (ji23)
                        · rw [if_pos c24] at H
                          have c24b0 := eq_true c24
                          have c24b1 : decide (0 ≤ (ji23)) = true := decide_eq_true c24
                          clear c24
                          by_cases c25 : (ji23) ≤ (a0.size : Int)
                          · rw [if_pos c25] at H
                            have c25b0 := eq_true c25
                            have c25b1 : decide ((ji23) ≤ (a0.size : Int)) = true := decide_eq_true c25
                            clear c25
                            replace H := Option.bind_eq_some_iff.mp H
                            obtain ⟨t113, A260, H⟩ := H
                            replace H : (if x113000_3.length < 17592186044416 then ((some (x113000_3 ++ [t113] : List Int)).bind fun y114 => (if 0 < (a0.size : Int) then (if (bt a0 0) = 0 then (if 0 ≤ (wrap64 ((wrap64 (2 + (wrap64 (4 * (wrap64 (bt a0 1)))))) + (wrap64 (12 * x7_3)))) then (if (wrap64 ((wrap64 (2 + (wrap64 (4 * (wrap64 (bt a0 1)))))) + (wrap64 (12 * x7_3)))) ≤ (wrap64 ((wrap64 ((wrap64 (2 + (wrap64 (4 * (wrap64 (bt a0 1)))))) + (wrap64 (12 * x7_3)))) + 12)) then (if (wrap64 ((wrap64 ((wrap64 (2 + (wrap64 (4 * (wrap64 (bt a0 1)))))) + (wrap64 (12 * x7_3)))) + 12)) ≤ (a0.size : Int) then (if x113001_3.length < 8796093022208 then (dynamoref09_Read.l0 k3 a0 (wrap64 (bt a0 1)) (wrap64 (x7_3 + 1)) y114 (x113001_3 ++ [a0.extract ((wrap64 ((wrap64 (2 + (wrap64 (4 * (wrap64 (bt a0 1)))))) + (wrap64 (12 * x7_3)))) : Int).toNat ((wrap64 ((wrap64 ((wrap64 (2 + (wrap64 (4 * (wrap64 (bt a0 1)))))) + (wrap64 (12 * x7_3)))) + 12)) : Int).toNat])) else (none)) else (none)) else (none)) else (none)) else (dynamoref09_Read.l0 k3 a0 (wrap64 (bt a0 1)) (wrap64 (x7_3 + 1)) y114 x113001_3)) else (none))) else (none)) = some (r1, r2, r3, r4) := H
                            have A26 := Aside0.mk A260
                            clear A260
                            by_cases c27 : x113000_3.length < 17592186044416
                            · rw [if_pos c27] at H
                              have LMc27 := Aside0.mk c27
                              clear c27
                              obtain ⟨y114, hy114⟩ : ∃ y_ : List Int, y_ = (x113000_3 ++ [t113]) := ⟨_, rfl⟩
                              replace H : (if 0 < (a0.size : Int) then (if (bt a0 0) = 0 then (if 0 ≤ (wrap64 ((wrap64 (2 + (wrap64 (4 * (wrap64 (bt a0 1)))))) + (wrap64 (12 * x7_3)))) then (if (wrap64 ((wrap64 (2 + (wrap64 (4 * (wrap64 (bt a0 1)))))) + (wrap64 (12 * x7_3)))) ≤ (wrap64 ((wrap64 ((wrap64 (2 + (wrap64 (4 * (wrap64 (bt a0 1)))))) + (wrap64 (12 * x7_3)))) + 12)) then (if (wrap64 ((wrap64 ((wrap64 (2 + (wrap64 (4 * (wrap64 (bt a0 1)))))) + (wrap64 (12 * x7_3)))) + 12)) ≤ (a0.size : Int) then (if x113001_3.length < 8796093022208 then (dynamoref09_Read.l0 k3 a0 (wrap64 (bt a0 1)) (wrap64 (x7_3 + 1)) y114 (x113001_3 ++ [a0.extract ((wrap64 ((wrap64 (2 + (wrap64 (4 * (wrap64 (bt a0 1)))))) + (wrap64 (12 * x7_3)))) : Int).toNat ((wrap64 ((wrap64 ((wrap64 (2 + (wrap64 (4 * (wrap64 (bt a0 1)))))) + (wrap64 (12 * x7_3)))) + 12)) : Int).toNat])) else (none)) else (none)) else (none)) else (none)) else (dynamoref09_Read.l0 k3 a0 (wrap64 (bt a0 1)) (wrap64 (x7_3 + 1)) y114 x113001_3)) else (none)) = some (r1, r2, r3, r4) := by first | (rw [hy114]; with_reducible exact H) | (have H2_ := (Option.bind_some _ _).symm.trans H; rw [hy114]; with_reducible exact H2_) | (have H2_ := (Option.bind_some _ _).symm.trans H; with_reducible exact H2_) | with_reducible exact H | (rw [hy114]; exact H) | exact H
                              have Ny114 := Aside0.mk hy114
                              clear hy114
                              by_cases c28 : 0 < (a0.size : Int)
                              · rw [if_pos c28] at H
                                have c28b0 : decide (0 < (a0.size : Int)) = true := decide_eq_true c28
                                have c28b1 : decide (0 < a0.size) = true := decide_eq_true (by omega)
                                clear c28
                                by_cases c30 : (bt a0 0) = 0
                                · rw [if_pos c30] at H
                                  have c30b0 : ((bt a0 0) == 0) = true := beq_iff_eq.mpr c30
                                  have c30b1 : ((bt a0 0) != 0) = false := bne_eq_false_iff_eq.mpr c30
                                  clear c30
                                  obtain ⟨ji31, hji31⟩ : ∃ j_ : Int, (wrap64 ((wrap64 (2 + (wrap64 (4 * (wrap64 (bt a0 1)))))) + (wrap64 (12 * x7_3)))) = j_ := ⟨_, rfl⟩
                                  replace H : (if 0 ≤ (ji31) then (if (ji31) ≤ (wrap64 ((ji31) + 12)) then (if (wrap64 ((ji31) + 12)) ≤ (a0.size : Int) then (if x113001_3.length < 8796093022208 then (dynamoref09_Read.l0 k3 a0 (wrap64 (bt a0 1)) (wrap64 (x7_3 + 1)) y114 (x113001_3 ++ [a0.extract ((ji31) : Int).toNat ((wrap64 ((ji31) + 12)) : Int).toNat])) else (none)) else (none)) else (none)) else (none)) = some (r1, r2, r3, r4) := by first | (rw [hji31] at H; exact H) | (simp only [hji31] at H ⊢; exact H)
                                  (try rw [hji31] at A26)
                                  have hji31w : (IntKind.i64.wrap ((wrap64 (2 + (wrap64 (4 * (wrap64 (bt a0 1)))))) + (wrap64 (12 * x7_3)))) = ji31 := (i64_w _).trans hji31
                                  by_cases c32 : 0 ≤ (ji31)
                                  · rw [if_pos c32] at H
                                    have c32b0 := eq_true c32
                                    have c32b1 : decide (0 ≤ (ji31)) = true := decide_eq_true c32
                                    clear c32
                                    by_cases c33 : (ji31) ≤ (wrap64 ((ji31) + 12))
                                    · rw [if_pos c33] at H
                                      have c33b0 := eq_true c33
                                      have c33b1 : decide ((ji31) ≤ (wrap64 ((ji31) + 12))) = true := decide_eq_true c33
                                      by_cases c34 : (wrap64 ((ji31) + 12)) ≤ (a0.size : Int)
                                      · rw [if_pos c34] at H
                                        have c34b0 := eq_true c34
                                        have c34b1 : decide ((wrap64 ((ji31) + 12)) ≤ (a0.size : Int)) = true := decide_eq_true c34
                                        by_cases c35 : x113001_3.length < 8796093022208
                                        · rw [if_pos c35] at H
                                          have LMc35 := Aside0.mk c35
                                          clear c35
                                          obtain ⟨y117, hy117⟩ : ∃ y_ : List ByteArray, y_ = (x113001_3 ++ [a0.extract ((ji31) : Int).toNat ((wrap64 ((ji31) + 12)) : Int).toNat]) := ⟨_, rfl⟩
                                          replace H : (dynamoref09_Read.l0 k3 a0 (wrap64 (bt a0 1)) (wrap64 (x7_3 + 1)) y114 y117) = some (r1, r2, r3, r4) := by first | (rw [hy117]; with_reducible exact H) | (have H2_ := (Option.bind_some _ _).symm.trans H; rw [hy117]; with_reducible exact H2_) | (have H2_ := (Option.bind_some _ _).symm.trans H; with_reducible exact H2_) | with_reducible exact H | (rw [hy117]; exact H) | exact H
                                          have Ny117 := Aside0.mk hy117
                                          clear hy117
                                          have H' := Aside0.mk H
                                          clear H
                                          try go_wp2
                                          have n0_ := Aside0.mk (Kd.R_drew HO_113000.out)
                                          have n1_ := Aside0.mk (Kd.R_drew HO_113001.out)
                                          have n2_ := Aside0.mk (blk_drew BK111.out)
                                          have n3_ := Aside0.mk (blk_drew BK112.out)
                                          have n4_ := Aside0.mk (below_drew1 HB.out)
                                          clear HO_113000
                                          clear HO_113001
                                          clear BK111
                                          clear BK112
                                          clear HB
                                          have HO_113000 := n0_
                                          have HO_113001 := n1_
                                          have BK111 := n2_
                                          have BK112 := n3_
                                          have HB := n4_
                                          clear n0_ n1_ n2_ n3_ n4_
                                          refine start_ (n := 12) (S := fun w' => w'.cell? ⟨gb112, 0, none⟩ = some (u113000) ∧ w'.cell? ⟨gb112, 1, none⟩ = some (u113001) ∧ w'.cell? ⟨gb112, 2, none⟩ = some (.slice none 0 0)) (ds := [11]) #[false, false, false, false, false, false, false, false, false, false, false, false] (by kernel_rfl) rfl rfl ⟨(blk_cell BK112.out 0).trans rfl, (blk_cell BK112.out 1).trans rfl, (blk_cell BK112.out 2).trans rfl⟩ (fun hHeld => ?_); refine with_tabW dynamoref09_Read.tab13 dynamoref09_Read.bits13 (fun HT_ HW_ => ?_)
                                          generalize wr.drew = w36 at HO_113000 HO_113001 BK111 BK112 HB hHeld ⊢
                                          refine pure_ (i := 0) (N := some 48) (v := ?_) (a' := ?_) #[true, false, false, false, false, false, false, false, false, false, false, false] rfl rfl (any_of HT_.out (by kernel_rfl)) (fun _ _ _ h => h) (Or.inl ⟨by rfl, ?_⟩) ?_ ?_
                                          rotate_left
                                          · intro w'
                                            go_simp
                                            with_reducible rfl
                                          rotate_left
                                          · simp only [Act.put, List.setIfInBounds_toArray, List.set_cons_zero, List.set_cons_succ, i64_w, i32_w]
                                            rfl
                                          refine pure_ (i := 2) (N := some 50) (v := ?_) (a' := ?_) #[true, false, true, false, false, false, false, false, false, false, false, false] rfl rfl (any_of HT_.out (by kernel_rfl)) (fun _ _ _ h => h) (Or.inl ⟨by rfl, ?_⟩) ?_ ?_
                                          rotate_left
                                          · intro w'
                                            go_simp
                                            with_reducible rfl
                                          rotate_left
                                          · simp only [Act.put, List.setIfInBounds_toArray, List.set_cons_zero, List.set_cons_succ, i64_w, i32_w]
                                            rfl
                                          refine pure_ (i := 3) (N := some 51) (v := ?_) (a' := ?_) #[true, false, true, true, false, false, false, false, false, false, false, false] rfl rfl (any_of HT_.out (by kernel_rfl)) (fun _ _ _ h => h) (Or.inl ⟨by rfl, ?_⟩) ?_ ?_
                                          rotate_left
                                          · intro w'
                                            go_simp
                                            with_reducible rfl
                                          rotate_left
                                          · simp only [Act.put, List.setIfInBounds_toArray, List.set_cons_zero, List.set_cons_succ, i64_w, i32_w]
                                            rfl
                                          refine pure_ (i := 4) (N := some 52) (v := ?_) (a' := ?_) #[true, false, true, true, true, false, false, false, false, false, false, false] rfl rfl (any_of HT_.out (by kernel_rfl)) (fun _ _ _ h => h) (Or.inl ⟨by rfl, ?_⟩) ?_ ?_
                                          rotate_left
                                          · intro w'
                                            go_simp
                                            with_reducible rfl
                                          rotate_left
                                          · simp only [Act.put, List.setIfInBounds_toArray, List.set_cons_zero, List.set_cons_succ, i64_w, i32_w]
                                            rfl
                                          refine pure_ (i := 5) (N := some 53) (v := ?_) (a' := ?_) #[true, false, true, true, true, true, false, false, false, false, false, false] rfl rfl (any_of HT_.out (by kernel_rfl)) (fun _ _ _ h => h) (Or.inl ⟨by rfl, ?_⟩) ?_ ?_
                                          rotate_left
                                          · intro w'
                                            go_simp
                                            with_reducible rfl
                                          rotate_left
                                          · simp only [Act.put, List.setIfInBounds_toArray, List.set_cons_zero, List.set_cons_succ, i64_w, i32_w]
                                            rfl
                                          refine pure_ (i := 6) (N := some 54) (v := ?_) (a' := ?_) #[true, false, true, true, true, true, true, false, false, false, false, false] rfl rfl (any_of HT_.out (by kernel_rfl)) (fun _ _ _ h => h) (Or.inl ⟨by rfl, ?_⟩) ?_ ?_
                                          rotate_left
                                          · intro w'
                                            go_simp
                                            with_reducible rfl
                                          rotate_left
                                          · simp only [Act.put, List.setIfInBounds_toArray, List.set_cons_zero, List.set_cons_succ, i64_w, i32_w]
                                            rfl
                                          refine take_ (i := 1) (N := some 49) (v := ?_) (a' := ?_) #[true, true, true, true, true, true, true, false, false, false, false, false] rfl rfl (take_ofW HT_.out HW_.out (by kernel_rfl)) (fun _ _ _ h => h) (Or.inl ⟨by rfl, ?_⟩) hHeld ?_ ?_
                                          rotate_left
                                          · rintro w' ⟨s0, s1, s2⟩
                                            go_simp
                                            with_reducible rfl
                                          rotate_left
                                          · simp only [Act.put, List.setIfInBounds_toArray, List.set_cons_zero, List.set_cons_succ, i64_w, i32_w]
                                            rfl
                                          refine one_ (i := 7) (N := some 55) #[true, true, true, true, true, true, true, true, false, false, false, false] rfl rfl (one_of HT_.out (by kernel_rfl)) (by decide) (fun K hK => ?_)
                                          refine goes_ Tryd.func52 (by kernel_rfl) rfl #[.string (a0.extract ((ji23) : Int).toNat a0.size), .int .i64 4] (by rfl) rfl rfl (by (try simp only [List.map_toArray, List.map_cons, List.map_nil]); first | done | (simp only [hji23]; rfl) | rfl | (simp only [List.length_drop, List.length_take]; rfl)) ?_
                                          with_reducible refine (dynamoref03_Get.calls k3 (a0.extract ((ji23) : Int).toNat a0.size) 4 t113 _ A26.out).mono ?_
                                          rintro e w' ⟨rfl, ⟨nd, rfl⟩⟩
                                          refine ⟨_, rfl, ?_⟩
                                          refine hK.out _ _ ⟨(blk_cell BK112.out 0).trans rfl, (blk_cell BK112.out 1).trans rfl, (blk_cell BK112.out 2).trans rfl⟩ (fun hHeld => ?_)
                                          clear hK K
                                          refine norm_ (a' := ?_) ?_ ?_
                                          rotate_left
                                          · show Act.put _ (some 55) _ = _
                                            simp only [Act.put, List.setIfInBounds_toArray, List.set_cons_zero, List.set_cons_succ, i64_w, i32_w]
                                            rfl
                                          refine one_ (i := 8) (N := some 56) #[true, true, true, true, true, true, true, true, true, false, false, false] rfl rfl (one_of HT_.out (by kernel_rfl)) (by decide) (fun K hK => ?_)
                                          refine value_ (w1 := ?_) (v := ?_) (by rfl) rfl ?_ ?_
                                          rotate_left 2
                                          · go_simp
                                            constructor
                                            · rfl
                                            · rfl
                                          refine hK.out _ _ ⟨(blk_cell (blk_alloc BK112.out _) 0).trans rfl, (blk_cell (blk_alloc BK112.out _) 1).trans rfl, (blk_cell (blk_alloc BK112.out _) 2).trans rfl⟩ (fun hHeld => ?_)
                                          clear hK K
                                          refine norm_ (a' := ?_) ?_ ?_
                                          rotate_left
                                          · show Act.put _ (some 56) _ = _
                                            simp only [Act.put, List.setIfInBounds_toArray, List.set_cons_zero, List.set_cons_succ, i64_w, i32_w]
                                            rfl
                                          refine one_ (i := 9) (N := some 57) #[true, true, true, true, true, true, true, true, true, true, false, false] rfl rfl (one_of HT_.out (by kernel_rfl)) (by decide) (fun K hK => ?_)
                                          refine Kd.R_append_step (Kd.int .i64) (w0 := w) w.heap.size (by rfl) (.tmp 49) (.tmp 56) 22 3 (.int .i64 0) 8 rfl Tryd.underlying22 info3 rfl (by decide) (by omega) u113000 x113000_3 t113 [.int .i64 t113] (fun _ => True) (fun _ => False) rfl rfl ?aP (fun _ hk => hk.elim) ?aF ?aO ?aB ?aS ?aL ?_
                                          (case aP => exact rfl)
                                          (case aB => exact (by repeat (first | (with_reducible first | exact HB.out | apply below_alloc | apply pw_below_drewN | apply below_drew1 | refine below_set ?_ GE111.out | refine below_set ?_ GE112.out) | exact HB.out)))
                                          (case aF => exact (fun _ _ => trivial))
                                          (case aO => exact (by (with_reducible repeat (first | apply Kd.R_alloc | apply Kd.R_drewN | apply Kd.R_drew)); exact HO_113000.out))
                                          (case aS => exact (below_size (by repeat (first | (with_reducible first | exact HB.out | apply below_alloc | apply pw_below_drewN | apply below_drew1 | refine below_set ?_ GE111.out | refine below_set ?_ GE112.out) | exact HB.out))))
                                          (case aL => have := LMc27.out; omega)
                                          intro v115 w37 ho hb hg hat
                                          rw [← Ny114.out] at ho
                                          have n0_ := Aside0.mk (Kd.R_over' (by (with_reducible repeat (first | apply Kd.R_alloc | apply Kd.R_drewN | apply Kd.R_drew)); exact HO_113001.out) (Kd.R_typed (by (with_reducible repeat (first | apply Kd.R_alloc | apply Kd.R_drewN | apply Kd.R_drew)); exact HO_113000.out)) (by decide) hg)
                                          have n1_ := Aside0.mk (blk_grown (g := gb111) (o := .cells #[.slice none 0 0, .slice none 0 0, .slice none 0 0] 25 (0, 0)) (by (with_reducible repeat (first | refine blk_drewN ?_ _ | refine blk_drew ?_ | refine blk_alloc ?_ _)); exact BK111.out) hg (Kd.R_ne HO_113000.out BK111.out (by decide)))
                                          have n2_ := Aside0.mk (blk_grown (g := gb112) (o := .cells #[u113000, u113001, .slice none 0 0] 25 (0, 0)) (by (with_reducible repeat (first | refine blk_drewN ?_ _ | refine blk_drew ?_ | refine blk_alloc ?_ _)); exact BK112.out) hg (Kd.R_ne HO_113000.out BK112.out (by decide)))
                                          have n3_ := Aside0.mk (hb)
                                          have n4_ := Aside0.mk (ho)
                                          clear HO_113001
                                          clear BK111
                                          clear BK112
                                          clear HB
                                          clear HO_113000
                                          have HO_113001 := n0_
                                          have BK111 := n1_
                                          have BK112 := n2_
                                          have HB := n3_
                                          have HO116 := n4_
                                          clear n0_ n1_ n2_ n3_ n4_
                                          clear ho hb hg hat
                                          obtain ⟨Ao38, co38, eo38⟩ := Kd.R_slice HO116.out
                                          (first | subst eo38 | (injection eo38 with f1_ f2_ f3_; have f4_ := f1_.symm; have f5_ := f3_.symm; clear f1_ f2_ f3_; subst f4_; subst f5_))
                                          refine hK.out _ _ ⟨(blk_cell BK112.out 0).trans rfl, (blk_cell BK112.out 1).trans rfl, (blk_cell BK112.out 2).trans rfl⟩ (fun hHeld => ?_)
                                          clear hK K
                                          refine norm_ (a' := ?_) ?_ ?_
                                          rotate_left
                                          · show Act.put _ (some 57) _ = _
                                            simp only [Act.put, List.setIfInBounds_toArray, List.set_cons_zero, List.set_cons_succ, i64_w, i32_w]
                                            rfl
                                          refine pure_ (i := 10) (N := some 58) (v := ?_) (a' := ?_) #[true, true, true, true, true, true, true, true, true, true, true, false] rfl rfl (any_of HT_.out (by kernel_rfl)) (fun _ _ _ h => h) (Or.inl ⟨by rfl, ?_⟩) ?_ ?_
                                          rotate_left
                                          · intro w'
                                            go_simp
                                            with_reducible rfl
                                          rotate_left
                                          · simp only [Act.put, List.setIfInBounds_toArray, List.set_cons_zero, List.set_cons_succ, i64_w, i32_w]
                                            rfl
                                          refine last_ (i := 11) (N := none) #[true, true, true, true, true, true, true, true, true, true, true, true] rfl rfl (one_of HT_.out (by kernel_rfl)) (by decide) (fun K hK => ?_)
                                          have hs39 : w37.cell? ⟨gb112, 0, none⟩ = some (u113000) := (blk_cell BK112.out 0).trans rfl
                                          have hfs39 := blk_frozen BK112.out 0
                                          have hns39_0 := NB111_112.out
                                          have hms39_0 := NB112_111.out
                                          refine skip_ (w1 := ?_) (by rfl) rfl ?_ ?_
                                          rotate_left
                                          · go_simp
                                            rfl
                                          refine hK.out _ _ ?_
                                          clear hK K
                                          refine done_ (done_of HT_.out (by kernel_rfl)) ?_
                                          have p29 : 0 ≤ (0 : Int) := (by omega)
                                          have q29 : 0 < a0.size := (by have : (0 : Int) < (a0.size : Int) := of_decide_eq_true (by first | (with_reducible assumption) | assumption); omega)
                                          have hx29 : ∀ h : 0 < a0.size, ((a0[0]'h).toNat : Int) = bt a0 0 := bt_at a0 0
                                          clear p29
                                          have qi29 : (0 < (a0.size : Int)) = True := eq_true (of_decide_eq_true (by first | (with_reducible assumption) | assumption))
                                          replace q29 := eq_true q29
                                          try go_wp2
                                          have n0_ : Aside0 (Kd.R Kd.string 9 (w37.setCell ⟨gb112, 0, none⟩ (.slice Ao38 y114.length co38)) w.heap.size (fun _ => True) u113001 x113001_3) := ⟨by (with_reducible repeat (first | apply Kd.R_alloc | apply Kd.R_drewN | apply Kd.R_drew)); exact Kd.R_mono (Kd.R_far (p := ⟨gb112, 0, none⟩) (Kd.R_types HO_113001.out BK112.out (by decide)) (fun _ hk => hk.2) (.slice Ao38 y114.length co38)) (fun _ hk => trivial)⟩
                                          have n1_ : Aside0 (Kd.R (Kd.int .i64) 3 (w37.setCell ⟨gb112, 0, none⟩ (.slice Ao38 y114.length co38)) w.heap.size (fun _ => True) (.slice Ao38 y114.length co38) y114) := ⟨by (with_reducible repeat (first | apply Kd.R_alloc | apply Kd.R_drewN | apply Kd.R_drew)); exact Kd.R_mono (Kd.R_far (p := ⟨gb112, 0, none⟩) (Kd.R_types HO116.out BK112.out (by decide)) (fun _ hk => hk.2) (.slice Ao38 y114.length co38)) (fun _ hk => trivial)⟩
                                          have n2_ : Aside0 ((w37.setCell ⟨gb112, 0, none⟩ (.slice Ao38 y114.length co38)).heap[gb111]? = some (.cells #[.slice none 0 0, .slice none 0 0, .slice none 0 0] 25 (0, 0))) := ⟨by (with_reducible repeat (first | refine blk_drewN ?_ _ | refine blk_drew ?_ | refine blk_alloc ?_ _)); refine blk_far ?_ NB111_112.out _; (with_reducible repeat (first | refine blk_drewN ?_ _ | refine blk_drew ?_ | refine blk_alloc ?_ _)); exact BK111.out⟩
                                          have n3_ : Aside0 ((w37.setCell ⟨gb112, 0, none⟩ (.slice Ao38 y114.length co38)).heap[gb112]? = some (.cells #[.slice Ao38 y114.length co38, u113001, .slice none 0 0] 25 (0, 0))) := ⟨by (with_reducible repeat (first | refine blk_drewN ?_ _ | refine blk_drew ?_ | refine blk_alloc ?_ _)); refine blk_put (cs := #[u113000, u113001, .slice none 0 0]) ?_ 0 _ rfl; (with_reducible repeat (first | refine blk_drewN ?_ _ | refine blk_drew ?_ | refine blk_alloc ?_ _)); exact BK112.out⟩
                                          have n4_ : Aside0 (Below w.heap.size w (w37.setCell ⟨gb112, 0, none⟩ (.slice Ao38 y114.length co38))) := ⟨by repeat (first | (with_reducible first | exact HB.out | apply below_alloc | apply pw_below_drewN | apply below_drew1 | refine below_set ?_ GE111.out | refine below_set ?_ GE112.out) | exact HB.out)⟩
                                          (try clear HO_113001)
                                          (try clear HO116)
                                          (try clear BK111)
                                          (try clear BK112)
                                          (try clear HB)
                                          generalize (w37.setCell ⟨gb112, 0, none⟩ (.slice Ao38 y114.length co38)) = w40 at n0_ n1_ n2_ n3_ n4_ ⊢
                                          have HO_113001 := n0_
                                          have HO116 := n1_
                                          have BK111 := n2_
                                          have BK112 := n3_
                                          have HB := n4_
                                          clear n0_ n1_ n2_ n3_ n4_
                                          have n0_ := Aside0.mk (Kd.R_drew HO_113001.out)
                                          have n1_ := Aside0.mk (Kd.R_drew HO116.out)
                                          have n2_ := Aside0.mk (blk_drew BK111.out)
                                          have n3_ := Aside0.mk (blk_drew BK112.out)
                                          have n4_ := Aside0.mk (below_drew1 HB.out)
                                          clear HO_113001
                                          clear HO116
                                          clear BK111
                                          clear BK112
                                          clear HB
                                          have HO_113001 := n0_
                                          have HO116 := n1_
                                          have BK111 := n2_
                                          have BK112 := n3_
                                          have HB := n4_
                                          clear n0_ n1_ n2_ n3_ n4_
                                          refine start_ (n := 21) (S := fun w' => w'.cell? ⟨gb112, 0, none⟩ = some (.slice Ao38 y114.length co38) ∧ w'.cell? ⟨gb112, 1, none⟩ = some (u113001) ∧ w'.cell? ⟨gb112, 2, none⟩ = some (.slice none 0 0)) (ds := [20]) #[false, false, false, false, false, false, false, false, false, false, false, false, false, false, false, false, false, false, false, false, false] (by kernel_rfl) rfl rfl ⟨(blk_cell BK112.out 0).trans rfl, (blk_cell BK112.out 1).trans rfl, (blk_cell BK112.out 2).trans rfl⟩ (fun hHeld => ?_); refine with_tabW dynamoref09_Read.tab15 dynamoref09_Read.bits15 (fun HT_ HW_ => ?_)
                                          generalize w40.drew = w41 at HO_113001 HO116 BK111 BK112 HB hHeld ⊢
                                          refine pure_ (i := 0) (N := some 62) (v := ?_) (a' := ?_) #[true, false, false, false, false, false, false, false, false, false, false, false, false, false, false, false, false, false, false, false, false] rfl rfl (any_of HT_.out (by kernel_rfl)) (fun _ _ _ h => h) (Or.inl ⟨by rfl, ?_⟩) ?_ ?_
                                          rotate_left
                                          · intro w'
                                            go_simp
                                            with_reducible rfl
                                          rotate_left
                                          · simp only [Act.put, List.setIfInBounds_toArray, List.set_cons_zero, List.set_cons_succ, i64_w, i32_w]
                                            rfl
                                          refine pure_ (i := 2) (N := some 64) (v := ?_) (a' := ?_) #[true, false, true, false, false, false, false, false, false, false, false, false, false, false, false, false, false, false, false, false, false] rfl rfl (any_of HT_.out (by kernel_rfl)) (fun _ _ _ h => h) (Or.inl ⟨by rfl, ?_⟩) ?_ ?_
                                          rotate_left
                                          · intro w'
                                            go_simp
                                            with_reducible rfl
                                          rotate_left
                                          · simp only [Act.put, List.setIfInBounds_toArray, List.set_cons_zero, List.set_cons_succ, i64_w, i32_w]
                                            rfl
                                          refine pure_ (i := 3) (N := some 65) (v := ?_) (a' := ?_) #[true, false, true, true, false, false, false, false, false, false, false, false, false, false, false, false, false, false, false, false, false] rfl rfl (any_of HT_.out (by kernel_rfl)) (fun _ _ _ h => h) (Or.inl ⟨by rfl, ?_⟩) ?_ ?_
                                          rotate_left
                                          · intro w'
                                            go_simp
                                            with_reducible rfl
                                          rotate_left
                                          · simp only [Act.put, List.setIfInBounds_toArray, List.set_cons_zero, List.set_cons_succ, i64_w, i32_w]
                                            rfl
                                          refine pure_ (i := 4) (N := some 66) (v := ?_) (a' := ?_) #[true, false, true, true, true, false, false, false, false, false, false, false, false, false, false, false, false, false, false, false, false] rfl rfl (any_of HT_.out (by kernel_rfl)) (fun _ _ _ h => h) (Or.inl ⟨by rfl, ?_⟩) ?_ ?_
                                          rotate_left
                                          · intro w'
                                            go_simp
                                            with_reducible rfl
                                          rotate_left
                                          · simp only [Act.put, List.setIfInBounds_toArray, List.set_cons_zero, List.set_cons_succ, i64_w, i32_w]
                                            rfl
                                          refine pure_ (i := 5) (N := some 67) (v := ?_) (a' := ?_) #[true, false, true, true, true, true, false, false, false, false, false, false, false, false, false, false, false, false, false, false, false] rfl rfl (any_of HT_.out (by kernel_rfl)) (fun _ _ _ h => h) (Or.inl ⟨by rfl, ?_⟩) ?_ ?_
                                          rotate_left
                                          · intro w'
                                            go_simp
                                            with_reducible rfl
                                          rotate_left
                                          · simp only [Act.put, List.setIfInBounds_toArray, List.set_cons_zero, List.set_cons_succ, i64_w, i32_w]
                                            rfl
                                          refine pure_ (i := 6) (N := some 68) (v := ?_) (a' := ?_) #[true, false, true, true, true, true, true, false, false, false, false, false, false, false, false, false, false, false, false, false, false] rfl rfl (any_of HT_.out (by kernel_rfl)) (fun _ _ _ h => h) (Or.inl ⟨by rfl, ?_⟩) ?_ ?_
                                          rotate_left
                                          · intro w'
                                            go_simp
                                            with_reducible rfl
                                          rotate_left
                                          · simp only [Act.put, List.setIfInBounds_toArray, List.set_cons_zero, List.set_cons_succ, i64_w, i32_w]
                                            rfl
                                          refine pure_ (i := 7) (N := some 69) (v := ?_) (a' := ?_) #[true, false, true, true, true, true, true, true, false, false, false, false, false, false, false, false, false, false, false, false, false] rfl rfl (any_of HT_.out (by kernel_rfl)) (fun _ _ _ h => h) (Or.inl ⟨by rfl, ?_⟩) ?_ ?_
                                          rotate_left
                                          · intro w'
                                            go_simp
                                            with_reducible rfl
                                          rotate_left
                                          · simp only [Act.put, List.setIfInBounds_toArray, List.set_cons_zero, List.set_cons_succ, i64_w, i32_w]
                                            rfl
                                          refine pure_ (i := 8) (N := some 70) (v := ?_) (a' := ?_) #[true, false, true, true, true, true, true, true, true, false, false, false, false, false, false, false, false, false, false, false, false] rfl rfl (any_of HT_.out (by kernel_rfl)) (fun _ _ _ h => h) (Or.inl ⟨by rfl, ?_⟩) ?_ ?_
                                          rotate_left
                                          · intro w'
                                            go_simp
                                            with_reducible rfl
                                          rotate_left
                                          · simp only [Act.put, List.setIfInBounds_toArray, List.set_cons_zero, List.set_cons_succ, i64_w, i32_w]
                                            rfl
                                          refine pure_ (i := 9) (N := some 71) (v := ?_) (a' := ?_) #[true, false, true, true, true, true, true, true, true, true, false, false, false, false, false, false, false, false, false, false, false] rfl rfl (any_of HT_.out (by kernel_rfl)) (fun _ _ _ h => h) (Or.inl ⟨by rfl, ?_⟩) ?_ ?_
                                          rotate_left
                                          · intro w'
                                            go_simp
                                            with_reducible rfl
                                          rotate_left
                                          · simp only [Act.put, List.setIfInBounds_toArray, List.set_cons_zero, List.set_cons_succ, i64_w, i32_w]
                                            rfl
                                          refine pure_ (i := 10) (N := some 72) (v := ?_) (a' := ?_) #[true, false, true, true, true, true, true, true, true, true, true, false, false, false, false, false, false, false, false, false, false] rfl rfl (any_of HT_.out (by kernel_rfl)) (fun _ _ _ h => h) (Or.inl ⟨by rfl, ?_⟩) ?_ ?_
                                          rotate_left
                                          · intro w'
                                            go_simp
                                            with_reducible rfl
                                          rotate_left
                                          · simp only [Act.put, List.setIfInBounds_toArray, List.set_cons_zero, List.set_cons_succ, i64_w, i32_w]
                                            rfl
                                          refine pure_ (i := 11) (N := some 73) (v := ?_) (a' := ?_) #[true, false, true, true, true, true, true, true, true, true, true, true, false, false, false, false, false, false, false, false, false] rfl rfl (any_of HT_.out (by kernel_rfl)) (fun _ _ _ h => h) (Or.inl ⟨by rfl, ?_⟩) ?_ ?_
                                          rotate_left
                                          · intro w'
                                            go_simp
                                            with_reducible rfl
                                          rotate_left
                                          · simp only [Act.put, List.setIfInBounds_toArray, List.set_cons_zero, List.set_cons_succ, i64_w, i32_w]
                                            rfl
                                          refine pure_ (i := 12) (N := some 74) (v := ?_) (a' := ?_) #[true, false, true, true, true, true, true, true, true, true, true, true, true, false, false, false, false, false, false, false, false] rfl rfl (any_of HT_.out (by kernel_rfl)) (fun _ _ _ h => h) (Or.inl ⟨by rfl, ?_⟩) ?_ ?_
                                          rotate_left
                                          · intro w'
                                            go_simp
                                            with_reducible rfl
                                          rotate_left
                                          · simp only [Act.put, List.setIfInBounds_toArray, List.set_cons_zero, List.set_cons_succ, i64_w, i32_w]
                                            rfl
                                          refine pure_ (i := 13) (N := some 75) (v := ?_) (a' := ?_) #[true, false, true, true, true, true, true, true, true, true, true, true, true, true, false, false, false, false, false, false, false] rfl rfl (any_of HT_.out (by kernel_rfl)) (fun _ _ _ h => h) (Or.inl ⟨by rfl, ?_⟩) ?_ ?_
                                          rotate_left
                                          · intro w'
                                            go_simp
                                            with_reducible rfl
                                          rotate_left
                                          · simp only [Act.put, List.setIfInBounds_toArray, List.set_cons_zero, List.set_cons_succ, i64_w, i32_w]
                                            rfl
                                          refine pure_ (i := 14) (N := some 76) (v := ?_) (a' := ?_) #[true, false, true, true, true, true, true, true, true, true, true, true, true, true, true, false, false, false, false, false, false] rfl rfl (any_of HT_.out (by kernel_rfl)) (fun _ _ _ h => h) (Or.inl ⟨by rfl, ?_⟩) ?_ ?_
                                          rotate_left
                                          · intro w'
                                            go_simp
                                            with_reducible rfl
                                          rotate_left
                                          · simp only [Act.put, List.setIfInBounds_toArray, List.set_cons_zero, List.set_cons_succ, i64_w, i32_w]
                                            rfl
                                          refine pure_ (i := 15) (N := some 77) (v := ?_) (a' := ?_) #[true, false, true, true, true, true, true, true, true, true, true, true, true, true, true, true, false, false, false, false, false] rfl rfl (any_of HT_.out (by kernel_rfl)) (fun _ _ _ h => h) (Or.inl ⟨by rfl, ?_⟩) ?_ ?_
                                          rotate_left
                                          · intro w'
                                            go_simp
                                            with_reducible rfl
                                          rotate_left
                                          · simp only [Act.put, List.setIfInBounds_toArray, List.set_cons_zero, List.set_cons_succ, i64_w, i32_w]
                                            rfl
                                          refine pure_ (i := 16) (N := some 78) (v := ?_) (a' := ?_) #[true, false, true, true, true, true, true, true, true, true, true, true, true, true, true, true, true, false, false, false, false] rfl rfl (any_of HT_.out (by kernel_rfl)) (fun _ _ _ h => h) (Or.inl ⟨by rfl, ?_⟩) ?_ ?_
                                          rotate_left
                                          · intro w'
                                            go_simp
                                            with_reducible rfl
                                          rotate_left
                                          · simp only [Act.put, List.setIfInBounds_toArray, List.set_cons_zero, List.set_cons_succ, i64_w, i32_w]
                                            rfl
                                          refine take_ (i := 1) (N := some 63) (v := ?_) (a' := ?_) #[true, true, true, true, true, true, true, true, true, true, true, true, true, true, true, true, true, false, false, false, false] rfl rfl (take_ofW HT_.out HW_.out (by kernel_rfl)) (fun _ _ _ h => h) (Or.inl ⟨by rfl, ?_⟩) hHeld ?_ ?_
                                          rotate_left
                                          · rintro w' ⟨s0, s1, s2⟩
                                            go_simp
                                            with_reducible rfl
                                          rotate_left
                                          · simp only [Act.put, List.setIfInBounds_toArray, List.set_cons_zero, List.set_cons_succ, i64_w, i32_w]
                                            rfl
                                          refine one_ (i := 17) (N := some 79) #[true, true, true, true, true, true, true, true, true, true, true, true, true, true, true, true, true, true, false, false, false] rfl rfl (one_of HT_.out (by kernel_rfl)) (by decide) (fun K hK => ?_)
                                          refine value_ (w1 := ?_) (v := ?_) (by rfl) rfl ?_ ?_
                                          rotate_left 2
                                          · go_simp
                                            constructor
                                            · rfl
                                            · rfl
                                          refine hK.out _ _ ⟨(blk_cell (blk_alloc BK112.out _) 0).trans rfl, (blk_cell (blk_alloc BK112.out _) 1).trans rfl, (blk_cell (blk_alloc BK112.out _) 2).trans rfl⟩ (fun hHeld => ?_)
                                          clear hK K
                                          refine norm_ (a' := ?_) ?_ ?_
                                          rotate_left
                                          · show Act.put _ (some 79) _ = _
                                            simp only [Act.put, List.setIfInBounds_toArray, List.set_cons_zero, List.set_cons_succ, i64_w, i32_w]
                                            rfl
                                          refine one_ (i := 18) (N := some 80) #[true, true, true, true, true, true, true, true, true, true, true, true, true, true, true, true, true, true, true, false, false] rfl rfl (one_of HT_.out (by kernel_rfl)) (by decide) (fun K hK => ?_)
                                          refine Kd.R_append_step Kd.string (w0 := w) w.heap.size (by rfl) (.tmp 63) (.tmp 79) 23 9 (.string ⟨#[]⟩) 16 rfl Tryd.underlying23 info9 rfl (by decide) (by omega) u113001 x113001_3 (a0.extract ((ji31) : Int).toNat ((wrap64 ((ji31) + 12)) : Int).toNat) [.string (a0.extract ((ji31) : Int).toNat ((wrap64 ((ji31) + 12)) : Int).toNat)] (fun _ => True) (fun _ => False) rfl rfl ?aP (fun _ hk => hk.elim) ?aF ?aO ?aB ?aS ?aL ?_
                                          (case aP => exact rfl)
                                          (case aB => exact (by repeat (first | (with_reducible first | exact HB.out | apply below_alloc | apply pw_below_drewN | apply below_drew1 | refine below_set ?_ GE111.out | refine below_set ?_ GE112.out) | exact HB.out)))
                                          (case aF => exact (fun _ _ => trivial))
                                          (case aO => exact (by (with_reducible repeat (first | apply Kd.R_alloc | apply Kd.R_drewN | apply Kd.R_drew)); exact HO_113001.out))
                                          (case aS => exact (below_size (by repeat (first | (with_reducible first | exact HB.out | apply below_alloc | apply pw_below_drewN | apply below_drew1 | refine below_set ?_ GE111.out | refine below_set ?_ GE112.out) | exact HB.out))))
                                          (case aL => have := LMc35.out; omega)
                                          intro v118 w42 ho hb hg hat
                                          rw [← Ny117.out] at ho
                                          have n0_ := Aside0.mk (blk_grown (g := gb111) (o := .cells #[.slice none 0 0, .slice none 0 0, .slice none 0 0] 25 (0, 0)) (by (with_reducible repeat (first | refine blk_drewN ?_ _ | refine blk_drew ?_ | refine blk_alloc ?_ _)); exact BK111.out) hg (Kd.R_ne HO_113001.out BK111.out (by decide)))
                                          have n1_ := Aside0.mk (blk_grown (g := gb112) (o := .cells #[.slice Ao38 y114.length co38, u113001, .slice none 0 0] 25 (0, 0)) (by (with_reducible repeat (first | refine blk_drewN ?_ _ | refine blk_drew ?_ | refine blk_alloc ?_ _)); exact BK112.out) hg (Kd.R_ne HO_113001.out BK112.out (by decide)))
                                          have n2_ := Aside0.mk (Kd.R_over' (by (with_reducible repeat (first | apply Kd.R_alloc | apply Kd.R_drewN | apply Kd.R_drew)); exact HO116.out) (Kd.R_typed (by (with_reducible repeat (first | apply Kd.R_alloc | apply Kd.R_drewN | apply Kd.R_drew)); exact HO_113001.out)) (by decide) hg)
                                          have n3_ := Aside0.mk (hb)
                                          have n4_ := Aside0.mk (ho)
                                          clear BK111
                                          clear BK112
                                          clear HO116
                                          clear HB
                                          clear HO_113001
                                          have BK111 := n0_
                                          have BK112 := n1_
                                          have HO116 := n2_
                                          have HB := n3_
                                          have HO119 := n4_
                                          clear n0_ n1_ n2_ n3_ n4_
                                          clear ho hb hg hat
                                          obtain ⟨Ao43, co43, eo43⟩ := Kd.R_slice HO119.out
                                          (first | subst eo43 | (injection eo43 with f1_ f2_ f3_; have f4_ := f1_.symm; have f5_ := f3_.symm; clear f1_ f2_ f3_; subst f4_; subst f5_))
                                          refine hK.out _ _ ⟨(blk_cell BK112.out 0).trans rfl, (blk_cell BK112.out 1).trans rfl, (blk_cell BK112.out 2).trans rfl⟩ (fun hHeld => ?_)
                                          clear hK K
                                          refine norm_ (a' := ?_) ?_ ?_
                                          rotate_left
                                          · show Act.put _ (some 80) _ = _
                                            simp only [Act.put, List.setIfInBounds_toArray, List.set_cons_zero, List.set_cons_succ, i64_w, i32_w]
                                            rfl
                                          refine pure_ (i := 19) (N := some 81) (v := ?_) (a' := ?_) #[true, true, true, true, true, true, true, true, true, true, true, true, true, true, true, true, true, true, true, true, false] rfl rfl (any_of HT_.out (by kernel_rfl)) (fun _ _ _ h => h) (Or.inl ⟨by rfl, ?_⟩) ?_ ?_
                                          rotate_left
                                          · intro w'
                                            go_simp
                                            with_reducible rfl
                                          rotate_left
                                          · simp only [Act.put, List.setIfInBounds_toArray, List.set_cons_zero, List.set_cons_succ, i64_w, i32_w]
                                            rfl
                                          refine last_ (i := 20) (N := none) #[true, true, true, true, true, true, true, true, true, true, true, true, true, true, true, true, true, true, true, true, true] rfl rfl (one_of HT_.out (by kernel_rfl)) (by decide) (fun K hK => ?_)
                                          have hs44 : w42.cell? ⟨gb112, 1, none⟩ = some (u113001) := (blk_cell BK112.out 1).trans rfl
                                          have hfs44 := blk_frozen BK112.out 1
                                          have hns44_0 := NB111_112.out
                                          have hms44_0 := NB112_111.out
                                          refine skip_ (w1 := ?_) (by rfl) rfl ?_ ?_
                                          rotate_left
                                          · go_simp
                                            rfl
                                          refine hK.out _ _ ?_
                                          clear hK K
                                          refine done_ (done_of HT_.out (by kernel_rfl)) ?_
                                          try go_wp2
                                          go_roundg k3
                                          case measure => have := HJ1.out; have := HJ18.out; have := HK3.out; omega
                                          case rel => exact ⟨(wrap64 (x7_3 + 1)), (y114), (y117), (.slice Ao38 y114.length co38), (.slice Ao43 y117.length co43), (by first | rfl | (simp; done) | (simp [*]; done)), H', ⟨by have := HJ1.out; have := HJ18.out; have := HK3.out; omega⟩, ⟨by (with_reducible repeat (first | apply Kd.R_alloc | apply Kd.R_drewN | apply Kd.R_drew)); exact Kd.R_mono (Kd.R_far (p := ⟨gb112, 1, none⟩) (Kd.R_types HO116.out BK112.out (by decide)) (fun _ hk => hk.2) (.slice Ao43 y117.length co43)) (fun _ hk => trivial)⟩, ⟨by (with_reducible repeat (first | apply Kd.R_alloc | apply Kd.R_drewN | apply Kd.R_drew)); exact Kd.R_mono (Kd.R_far (p := ⟨gb112, 1, none⟩) (Kd.R_types HO119.out BK112.out (by decide)) (fun _ hk => hk.2) (.slice Ao43 y117.length co43)) (fun _ hk => trivial)⟩, ⟨by (with_reducible repeat (first | refine blk_drewN ?_ _ | refine blk_drew ?_ | refine blk_alloc ?_ _)); refine blk_far ?_ NB111_112.out _; (with_reducible repeat (first | refine blk_drewN ?_ _ | refine blk_drew ?_ | refine blk_alloc ?_ _)); exact BK111.out⟩, ⟨by (with_reducible repeat (first | refine blk_drewN ?_ _ | refine blk_drew ?_ | refine blk_alloc ?_ _)); refine blk_put (cs := #[.slice Ao38 y114.length co38, u113001, .slice none 0 0]) ?_ 1 _ rfl; (with_reducible repeat (first | refine blk_drewN ?_ _ | refine blk_drew ?_ | refine blk_alloc ?_ _)); exact BK112.out⟩, ⟨by repeat (first | (with_reducible first | exact HB.out | apply below_alloc | apply pw_below_drewN | apply below_drew1 | refine below_set ?_ GE111.out | refine below_set ?_ GE112.out) | exact HB.out)⟩⟩
                                        · rw [if_neg c35] at H
                                          exact absurd H (by simp)
                                      · rw [if_neg c34] at H
                                        exact absurd H (by simp)
                                    · rw [if_neg c33] at H
                                      exact absurd H (by simp)
                                  · rw [if_neg c32] at H
                                    exact absurd H (by simp)
                                · rw [if_neg c30] at H
                                  have c30b0 : ((bt a0 0) == 0) = false := beq_eq_false_iff_ne.mpr c30
                                  have c30b1 : ((bt a0 0) != 0) = true := bne_iff_ne.mpr c30
                                  have H' := Aside0.mk H
                                  clear H
                                  try go_wp2
                                  have n0_ := Aside0.mk (Kd.R_drew HO_113000.out)
                                  have n1_ := Aside0.mk (Kd.R_drew HO_113001.out)
                                  have n2_ := Aside0.mk (blk_drew BK111.out)
                                  have n3_ := Aside0.mk (blk_drew BK112.out)
                                  have n4_ := Aside0.mk (below_drew1 HB.out)
                                  clear HO_113000
                                  clear HO_113001
                                  clear BK111
                                  clear BK112
                                  clear HB
                                  have HO_113000 := n0_
                                  have HO_113001 := n1_
                                  have BK111 := n2_
                                  have BK112 := n3_
                                  have HB := n4_
                                  clear n0_ n1_ n2_ n3_ n4_
                                  refine start_ (n := 12) (S := fun w' => w'.cell? ⟨gb112, 0, none⟩ = some (u113000) ∧ w'.cell? ⟨gb112, 1, none⟩ = some (u113001) ∧ w'.cell? ⟨gb112, 2, none⟩ = some (.slice none 0 0)) (ds := [11]) #[false, false, false, false, false, false, false, false, false, false, false, false] (by kernel_rfl) rfl rfl ⟨(blk_cell BK112.out 0).trans rfl, (blk_cell BK112.out 1).trans rfl, (blk_cell BK112.out 2).trans rfl⟩ (fun hHeld => ?_); refine with_tabW dynamoref09_Read.tab13 dynamoref09_Read.bits13 (fun HT_ HW_ => ?_)
                                  generalize wr.drew = w45 at HO_113000 HO_113001 BK111 BK112 HB hHeld ⊢
                                  refine pure_ (i := 0) (N := some 48) (v := ?_) (a' := ?_) #[true, false, false, false, false, false, false, false, false, false, false, false] rfl rfl (any_of HT_.out (by kernel_rfl)) (fun _ _ _ h => h) (Or.inl ⟨by rfl, ?_⟩) ?_ ?_
                                  rotate_left
                                  · intro w'
                                    go_simp
                                    with_reducible rfl
                                  rotate_left
                                  · simp only [Act.put, List.setIfInBounds_toArray, List.set_cons_zero, List.set_cons_succ, i64_w, i32_w]
                                    rfl
                                  refine pure_ (i := 2) (N := some 50) (v := ?_) (a' := ?_) #[true, false, true, false, false, false, false, false, false, false, false, false] rfl rfl (any_of HT_.out (by kernel_rfl)) (fun _ _ _ h => h) (Or.inl ⟨by rfl, ?_⟩) ?_ ?_
                                  rotate_left
                                  · intro w'
                                    go_simp
                                    with_reducible rfl
                                  rotate_left
                                  · simp only [Act.put, List.setIfInBounds_toArray, List.set_cons_zero, List.set_cons_succ, i64_w, i32_w]
                                    rfl
                                  refine pure_ (i := 3) (N := some 51) (v := ?_) (a' := ?_) #[true, false, true, true, false, false, false, false, false, false, false, false] rfl rfl (any_of HT_.out (by kernel_rfl)) (fun _ _ _ h => h) (Or.inl ⟨by rfl, ?_⟩) ?_ ?_
                                  rotate_left
                                  · intro w'
                                    go_simp
                                    with_reducible rfl
                                  rotate_left
                                  · simp only [Act.put, List.setIfInBounds_toArray, List.set_cons_zero, List.set_cons_succ, i64_w, i32_w]
                                    rfl
                                  refine pure_ (i := 4) (N := some 52) (v := ?_) (a' := ?_) #[true, false, true, true, true, false, false, false, false, false, false, false] rfl rfl (any_of HT_.out (by kernel_rfl)) (fun _ _ _ h => h) (Or.inl ⟨by rfl, ?_⟩) ?_ ?_
                                  rotate_left
                                  · intro w'
                                    go_simp
                                    with_reducible rfl
                                  rotate_left
                                  · simp only [Act.put, List.setIfInBounds_toArray, List.set_cons_zero, List.set_cons_succ, i64_w, i32_w]
                                    rfl
                                  refine pure_ (i := 5) (N := some 53) (v := ?_) (a' := ?_) #[true, false, true, true, true, true, false, false, false, false, false, false] rfl rfl (any_of HT_.out (by kernel_rfl)) (fun _ _ _ h => h) (Or.inl ⟨by rfl, ?_⟩) ?_ ?_
                                  rotate_left
                                  · intro w'
                                    go_simp
                                    with_reducible rfl
                                  rotate_left
                                  · simp only [Act.put, List.setIfInBounds_toArray, List.set_cons_zero, List.set_cons_succ, i64_w, i32_w]
                                    rfl
                                  refine pure_ (i := 6) (N := some 54) (v := ?_) (a' := ?_) #[true, false, true, true, true, true, true, false, false, false, false, false] rfl rfl (any_of HT_.out (by kernel_rfl)) (fun _ _ _ h => h) (Or.inl ⟨by rfl, ?_⟩) ?_ ?_
                                  rotate_left
                                  · intro w'
                                    go_simp
                                    with_reducible rfl
                                  rotate_left
                                  · simp only [Act.put, List.setIfInBounds_toArray, List.set_cons_zero, List.set_cons_succ, i64_w, i32_w]
                                    rfl
                                  refine take_ (i := 1) (N := some 49) (v := ?_) (a' := ?_) #[true, true, true, true, true, true, true, false, false, false, false, false] rfl rfl (take_ofW HT_.out HW_.out (by kernel_rfl)) (fun _ _ _ h => h) (Or.inl ⟨by rfl, ?_⟩) hHeld ?_ ?_
                                  rotate_left
                                  · rintro w' ⟨s0, s1, s2⟩
                                    go_simp
                                    with_reducible rfl
                                  rotate_left
                                  · simp only [Act.put, List.setIfInBounds_toArray, List.set_cons_zero, List.set_cons_succ, i64_w, i32_w]
                                    rfl
                                  refine one_ (i := 7) (N := some 55) #[true, true, true, true, true, true, true, true, false, false, false, false] rfl rfl (one_of HT_.out (by kernel_rfl)) (by decide) (fun K hK => ?_)
                                  refine goes_ Tryd.func52 (by kernel_rfl) rfl #[.string (a0.extract ((ji23) : Int).toNat a0.size), .int .i64 4] (by rfl) rfl rfl (by (try simp only [List.map_toArray, List.map_cons, List.map_nil]); first | done | (simp only [hji23]; rfl) | rfl | (simp only [List.length_drop, List.length_take]; rfl)) ?_
                                  with_reducible refine (dynamoref03_Get.calls k3 (a0.extract ((ji23) : Int).toNat a0.size) 4 t113 _ A26.out).mono ?_
                                  rintro e w' ⟨rfl, ⟨nd, rfl⟩⟩
                                  refine ⟨_, rfl, ?_⟩
                                  refine hK.out _ _ ⟨(blk_cell BK112.out 0).trans rfl, (blk_cell BK112.out 1).trans rfl, (blk_cell BK112.out 2).trans rfl⟩ (fun hHeld => ?_)
                                  clear hK K
                                  refine norm_ (a' := ?_) ?_ ?_
                                  rotate_left
                                  · show Act.put _ (some 55) _ = _
                                    simp only [Act.put, List.setIfInBounds_toArray, List.set_cons_zero, List.set_cons_succ, i64_w, i32_w]
                                    rfl
                                  refine one_ (i := 8) (N := some 56) #[true, true, true, true, true, true, true, true, true, false, false, false] rfl rfl (one_of HT_.out (by kernel_rfl)) (by decide) (fun K hK => ?_)
                                  refine value_ (w1 := ?_) (v := ?_) (by rfl) rfl ?_ ?_
                                  rotate_left 2
                                  · go_simp
                                    constructor
                                    · rfl
                                    · rfl
                                  refine hK.out _ _ ⟨(blk_cell (blk_alloc BK112.out _) 0).trans rfl, (blk_cell (blk_alloc BK112.out _) 1).trans rfl, (blk_cell (blk_alloc BK112.out _) 2).trans rfl⟩ (fun hHeld => ?_)
                                  clear hK K
                                  refine norm_ (a' := ?_) ?_ ?_
                                  rotate_left
                                  · show Act.put _ (some 56) _ = _
                                    simp only [Act.put, List.setIfInBounds_toArray, List.set_cons_zero, List.set_cons_succ, i64_w, i32_w]
                                    rfl
                                  refine one_ (i := 9) (N := some 57) #[true, true, true, true, true, true, true, true, true, true, false, false] rfl rfl (one_of HT_.out (by kernel_rfl)) (by decide) (fun K hK => ?_)
                                  refine Kd.R_append_step (Kd.int .i64) (w0 := w) w.heap.size (by rfl) (.tmp 49) (.tmp 56) 22 3 (.int .i64 0) 8 rfl Tryd.underlying22 info3 rfl (by decide) (by omega) u113000 x113000_3 t113 [.int .i64 t113] (fun _ => True) (fun _ => False) rfl rfl ?aP (fun _ hk => hk.elim) ?aF ?aO ?aB ?aS ?aL ?_
                                  (case aP => exact rfl)
                                  (case aB => exact (by repeat (first | (with_reducible first | exact HB.out | apply below_alloc | apply pw_below_drewN | apply below_drew1 | refine below_set ?_ GE111.out | refine below_set ?_ GE112.out) | exact HB.out)))
                                  (case aF => exact (fun _ _ => trivial))
                                  (case aO => exact (by (with_reducible repeat (first | apply Kd.R_alloc | apply Kd.R_drewN | apply Kd.R_drew)); exact HO_113000.out))
                                  (case aS => exact (below_size (by repeat (first | (with_reducible first | exact HB.out | apply below_alloc | apply pw_below_drewN | apply below_drew1 | refine below_set ?_ GE111.out | refine below_set ?_ GE112.out) | exact HB.out))))
                                  (case aL => have := LMc27.out; omega)
                                  intro v115 w46 ho hb hg hat
                                  rw [← Ny114.out] at ho
                                  have n0_ := Aside0.mk (Kd.R_over' (by (with_reducible repeat (first | apply Kd.R_alloc | apply Kd.R_drewN | apply Kd.R_drew)); exact HO_113001.out) (Kd.R_typed (by (with_reducible repeat (first | apply Kd.R_alloc | apply Kd.R_drewN | apply Kd.R_drew)); exact HO_113000.out)) (by decide) hg)
                                  have n1_ := Aside0.mk (blk_grown (g := gb111) (o := .cells #[.slice none 0 0, .slice none 0 0, .slice none 0 0] 25 (0, 0)) (by (with_reducible repeat (first | refine blk_drewN ?_ _ | refine blk_drew ?_ | refine blk_alloc ?_ _)); exact BK111.out) hg (Kd.R_ne HO_113000.out BK111.out (by decide)))
                                  have n2_ := Aside0.mk (blk_grown (g := gb112) (o := .cells #[u113000, u113001, .slice none 0 0] 25 (0, 0)) (by (with_reducible repeat (first | refine blk_drewN ?_ _ | refine blk_drew ?_ | refine blk_alloc ?_ _)); exact BK112.out) hg (Kd.R_ne HO_113000.out BK112.out (by decide)))
                                  have n3_ := Aside0.mk (hb)
                                  have n4_ := Aside0.mk (ho)
                                  clear HO_113001
                                  clear BK111
                                  clear BK112
                                  clear HB
                                  clear HO_113000
                                  have HO_113001 := n0_
                                  have BK111 := n1_
                                  have BK112 := n2_
                                  have HB := n3_
                                  have HO116 := n4_
                                  clear n0_ n1_ n2_ n3_ n4_
                                  clear ho hb hg hat
                                  obtain ⟨Ao47, co47, eo47⟩ := Kd.R_slice HO116.out
                                  (first | subst eo47 | (injection eo47 with f1_ f2_ f3_; have f4_ := f1_.symm; have f5_ := f3_.symm; clear f1_ f2_ f3_; subst f4_; subst f5_))
                                  refine hK.out _ _ ⟨(blk_cell BK112.out 0).trans rfl, (blk_cell BK112.out 1).trans rfl, (blk_cell BK112.out 2).trans rfl⟩ (fun hHeld => ?_)
                                  clear hK K
                                  refine norm_ (a' := ?_) ?_ ?_
                                  rotate_left
                                  · show Act.put _ (some 57) _ = _
                                    simp only [Act.put, List.setIfInBounds_toArray, List.set_cons_zero, List.set_cons_succ, i64_w, i32_w]
                                    rfl
                                  refine pure_ (i := 10) (N := some 58) (v := ?_) (a' := ?_) #[true, true, true, true, true, true, true, true, true, true, true, false] rfl rfl (any_of HT_.out (by kernel_rfl)) (fun _ _ _ h => h) (Or.inl ⟨by rfl, ?_⟩) ?_ ?_
                                  rotate_left
                                  · intro w'
                                    go_simp
                                    with_reducible rfl
                                  rotate_left
                                  · simp only [Act.put, List.setIfInBounds_toArray, List.set_cons_zero, List.set_cons_succ, i64_w, i32_w]
                                    rfl
                                  refine last_ (i := 11) (N := none) #[true, true, true, true, true, true, true, true, true, true, true, true] rfl rfl (one_of HT_.out (by kernel_rfl)) (by decide) (fun K hK => ?_)
                                  have hs48 : w46.cell? ⟨gb112, 0, none⟩ = some (u113000) := (blk_cell BK112.out 0).trans rfl
                                  have hfs48 := blk_frozen BK112.out 0
                                  have hns48_0 := NB111_112.out
                                  have hms48_0 := NB112_111.out
                                  refine skip_ (w1 := ?_) (by rfl) rfl ?_ ?_
                                  rotate_left
                                  · go_simp
                                    rfl
                                  refine hK.out _ _ ?_
                                  clear hK K
                                  refine done_ (done_of HT_.out (by kernel_rfl)) ?_
                                  have p29 : 0 ≤ (0 : Int) := (by omega)
                                  have q29 : 0 < a0.size := (by have : (0 : Int) < (a0.size : Int) := of_decide_eq_true (by first | (with_reducible assumption) | assumption); omega)
                                  have hx29 : ∀ h : 0 < a0.size, ((a0[0]'h).toNat : Int) = bt a0 0 := bt_at a0 0
                                  clear p29
                                  have qi29 : (0 < (a0.size : Int)) = True := eq_true (of_decide_eq_true (by first | (with_reducible assumption) | assumption))
                                  replace q29 := eq_true q29
                                  try go_wp2
                                  go_roundg k3
                                  case measure => have := HJ1.out; have := HJ18.out; have := HK3.out; omega
                                  case rel => exact ⟨(wrap64 (x7_3 + 1)), (y114), (x113001_3), (.slice Ao47 y114.length co47), (u113001), (by first | rfl | (simp; done) | (simp [*]; done)), H', ⟨by have := HJ1.out; have := HJ18.out; have := HK3.out; omega⟩, ⟨by (with_reducible repeat (first | apply Kd.R_alloc | apply Kd.R_drewN | apply Kd.R_drew)); exact Kd.R_mono (Kd.R_far (p := ⟨gb112, 0, none⟩) (Kd.R_types HO116.out BK112.out (by decide)) (fun _ hk => hk.2) (.slice Ao47 y114.length co47)) (fun _ hk => trivial)⟩, ⟨by (with_reducible repeat (first | apply Kd.R_alloc | apply Kd.R_drewN | apply Kd.R_drew)); exact Kd.R_mono (Kd.R_far (p := ⟨gb112, 0, none⟩) (Kd.R_types HO_113001.out BK112.out (by decide)) (fun _ hk => hk.2) (.slice Ao47 y114.length co47)) (fun _ hk => trivial)⟩, ⟨by (with_reducible repeat (first | refine blk_drewN ?_ _ | refine blk_drew ?_ | refine blk_alloc ?_ _)); refine blk_far ?_ NB111_112.out _; (with_reducible repeat (first | refine blk_drewN ?_ _ | refine blk_drew ?_ | refine blk_alloc ?_ _)); exact BK111.out⟩, ⟨by (with_reducible repeat (first | refine blk_drewN ?_ _ | refine blk_drew ?_ | refine blk_alloc ?_ _)); refine blk_put (cs := #[u113000, u113001, .slice none 0 0]) ?_ 0 _ rfl; (with_reducible repeat (first | refine blk_drewN ?_ _ | refine blk_drew ?_ | refine blk_alloc ?_ _)); exact BK112.out⟩, ⟨by repeat (first | (with_reducible first | exact HB.out | apply below_alloc | apply pw_below_drewN | apply below_drew1 | refine below_set ?_ GE111.out | refine below_set ?_ GE112.out) | exact HB.out)⟩⟩
                              · rw [if_neg c28] at H
                                exact absurd H (by simp)
                            · rw [if_neg c27] at H
                              exact absurd H (by simp)
                          · rw [if_neg c25] at H
                            exact absurd H (by simp)
                        · rw [if_neg c24] at H
                          exact absurd H (by simp)
                      · rw [if_neg c22] at H
                        have c22b0 : decide (x7_3 < (wrap64 (bt a0 1))) = false := decide_eq_false c22
                        clear c22
                        have H' := Aside0.mk H
                        clear H
                        go_wp2
                        go_loopg [8] k3 (fun kq v8 w' => ∃ (x8_4 : Int) (x113002_4 : List Int) (u113002 : Value), v8 = .int .i64 x8_4 ∧ Aside0 (dynamoref09_Read.l1 kq a0 x8_4 x113000_3 x113001_3 x113002_4 = some (r1, r2, r3, r4)) ∧ Aside0 (kq ≤ k3) ∧ Aside0 (Kd.R (Kd.int .i64) 3 w' w.heap.size (fun k_ => some k_ ≠ (u113002 : Value).ownBlock) u113000 x113000_3) ∧ Aside0 (Kd.R Kd.string 9 w' w.heap.size (fun _ => True) u113001 x113001_3) ∧ Aside0 (Kd.R (Kd.int .i64) 3 w' w.heap.size (fun k_ => some k_ ≠ (u113000 : Value).ownBlock) u113002 x113002_4) ∧ Aside0 (w'.heap[gb111]? = some (.cells #[(.slice none 0 0), (.slice none 0 0), (.slice none 0 0)] 25 (0, 0))) ∧ Aside0 (w'.heap[gb112]? = some (.cells #[u113000, u113001, u113002] 25 (0, 0))) ∧ Aside0 (Below w.heap.size w w'))
                        case atStart => exact ⟨(wrap64 (2 + (wrap64 (4 * (wrap64 (bt a0 1)))))), (([] : List Int)), (.slice none 0 0), (by first | rfl | (simp; done) | (simp [*]; done)), H', ⟨Nat.le_refl _⟩, ⟨by (with_reducible repeat (first | apply Kd.R_alloc | apply Kd.R_drewN | apply Kd.R_drew)); exact Kd.R_mono HO_113000.out (fun _ hk => (by simp [Value.ownBlock]))⟩, ⟨by (with_reducible repeat (first | apply Kd.R_alloc | apply Kd.R_drewN | apply Kd.R_drew)); exact HO_113001.out⟩, ⟨by first | exact Kd.R_nil _ _ _ _ _ | exact Kd.N_nil _ _ _ _ _ | exact Kd.V_nil _ _ _ _ _ | exact Kd.Q_nil _ _ _ _ _ | exact Kd.S_nil _ _ _ _ _⟩, ⟨by (with_reducible repeat (first | refine blk_drewN ?_ _ | refine blk_drew ?_ | refine blk_alloc ?_ _)); exact BK111.out⟩, ⟨by (with_reducible repeat (first | refine blk_drewN ?_ _ | refine blk_drew ?_ | refine blk_alloc ?_ _)); exact BK112.out⟩, ⟨by repeat (first | (with_reducible first | exact HB.out | apply below_alloc | apply pw_below_drewN | apply below_drew1 | refine below_set ?_ GE111.out | refine below_set ?_ GE112.out) | exact HB.out)⟩⟩
                        case round =>
                          clear H'
                          try clear c2
                          try clear p2
                          try clear q2
                          try clear hx2
                          try clear qi2
                          try clear c3
                          try clear c5
                          try clear p6
                          try clear c22
                          try clear c22b0
                          try clear c24
                          try clear c25
                          try clear c27
                          try clear c28
                          try clear p29
                          try clear q29
                          try clear hx29
                          try clear qi29
                          try clear c30
                          try clear c30b0
                          try clear c30b1
                          try clear c32
                          try clear c33
                          try clear c34
                          try clear c35
                          try clear p29
                          try clear q29
                          obtain ⟨x8_4, x113002_4, u113002, rfl, HA, HK4, HO_113000, HO_113001, HO_113002, BK111, BK112, HB⟩ := hrel
                          cases gk with
                          | zero => exact absurd HA.out (by simp [dynamoref09_Read.l1])
                          | succ k4 =>
                            have H := HA.out
                            clear HA
                            simp only [dynamoref09_Read.l1] at H
                            by_cases c49 : x8_4 < (a0.size : Int)
                            · rw [if_pos c49] at H
                              have c49b0 : decide (x8_4 < (a0.size : Int)) = true := decide_eq_true c49
                              clear c49
                              by_cases c50 : 0 < (a0.size : Int)
                              · rw [if_pos c50] at H
                                have c50b0 : decide (0 < (a0.size : Int)) = true := decide_eq_true c50
                                have c50b1 : decide (0 < a0.size) = true := decide_eq_true (by omega)
                                clear c50
                                by_cases c52 : (bt a0 0) = 1
                                · rw [if_pos c52] at H
                                  have c52b0 : ((bt a0 0) == 1) = true := beq_iff_eq.mpr c52
                                  have c52b1 : ((bt a0 0) != 1) = false := bne_eq_false_iff_eq.mpr c52
                                  clear c52
                                  by_cases c53 : 0 ≤ x8_4
                                  · rw [if_pos c53] at H
                                    have c53b0 : decide (0 ≤ x8_4) = true := decide_eq_true c53
                                    clear c53
                                    by_cases c55 : x113002_4.length < 17592186044416
                                    · rw [if_pos c55] at H
                                      have LMc55 := Aside0.mk c55
                                      clear c55
                                      obtain ⟨y120, hy120⟩ : ∃ y_ : List Int, y_ = (x113002_4 ++ [wrap64 (bt a0 x8_4)]) := ⟨_, rfl⟩
                                      replace H : (dynamoref09_Read.l1 k4 a0 (wrap64 (x8_4 + 1)) x113000_3 x113001_3 y120) = some (r1, r2, r3, r4) := by first | (rw [hy120]; with_reducible exact H) | (have H2_ := (Option.bind_some _ _).symm.trans H; rw [hy120]; with_reducible exact H2_) | (have H2_ := (Option.bind_some _ _).symm.trans H; with_reducible exact H2_) | with_reducible exact H | (rw [hy120]; exact H) | exact H
                                      have Ny120 := Aside0.mk hy120
                                      clear hy120
                                      have H' := Aside0.mk H
                                      clear H
                                      have p51 : 0 ≤ (0 : Int) := (by omega)
                                      have q51 : 0 < a0.size := (by have : (0 : Int) < (a0.size : Int) := of_decide_eq_true (by first | (with_reducible assumption) | assumption); omega)
                                      have hx51 : ∀ h : 0 < a0.size, ((a0[0]'h).toNat : Int) = bt a0 0 := bt_at a0 0
                                      clear p51
                                      have qi51 : (0 < (a0.size : Int)) = True := eq_true (of_decide_eq_true (by first | (with_reducible assumption) | assumption))
                                      replace q51 := eq_true q51
                                      try go_wp2
                                      have n0_ := Aside0.mk (Kd.R_drew HO_113000.out)
                                      have n1_ := Aside0.mk (Kd.R_drew HO_113001.out)
                                      have n2_ := Aside0.mk (Kd.R_drew HO_113002.out)
                                      have n3_ := Aside0.mk (blk_drew BK111.out)
                                      have n4_ := Aside0.mk (blk_drew BK112.out)
                                      have n5_ := Aside0.mk (below_drew1 HB.out)
                                      clear HO_113000
                                      clear HO_113001
                                      clear HO_113002
                                      clear BK111
                                      clear BK112
                                      clear HB
                                      have HO_113000 := n0_
                                      have HO_113001 := n1_
                                      have HO_113002 := n2_
                                      have BK111 := n3_
                                      have BK112 := n4_
                                      have HB := n5_
                                      clear n0_ n1_ n2_ n3_ n4_ n5_
                                      have p54 : 0 ≤ (x8_4 : Int) := of_decide_eq_true (by first | (with_reducible assumption) | assumption)
                                      have q54 : x8_4 < (a0.size : Int) := of_decide_eq_true (by first | (with_reducible assumption) | assumption)
                                      have hx54 := bt_at a0 x8_4
                                      replace p54 := eq_true p54
                                      replace q54 := eq_true q54
                                      refine start_ (n := 10) (S := fun w' => w'.cell? ⟨gb112, 0, none⟩ = some (u113000) ∧ w'.cell? ⟨gb112, 1, none⟩ = some (u113001) ∧ w'.cell? ⟨gb112, 2, none⟩ = some (u113002)) (ds := [9]) #[false, false, false, false, false, false, false, false, false, false] (by kernel_rfl) rfl rfl ⟨(blk_cell BK112.out 0).trans rfl, (blk_cell BK112.out 1).trans rfl, (blk_cell BK112.out 2).trans rfl⟩ (fun hHeld => ?_); refine with_tabW dynamoref09_Read.tab19 dynamoref09_Read.bits19 (fun HT_ HW_ => ?_)
                                      generalize wr.drew = w56 at HO_113000 HO_113001 HO_113002 BK111 BK112 HB hHeld ⊢
                                      refine pure_ (i := 0) (N := some 96) (v := ?_) (a' := ?_) #[true, false, false, false, false, false, false, false, false, false] rfl rfl (any_of HT_.out (by kernel_rfl)) (fun _ _ _ h => h) (Or.inl ⟨by rfl, ?_⟩) ?_ ?_
                                      rotate_left
                                      · intro w'
                                        go_simp
                                        with_reducible rfl
                                      rotate_left
                                      · simp only [Act.put, List.setIfInBounds_toArray, List.set_cons_zero, List.set_cons_succ, i64_w, i32_w]
                                        rfl
                                      refine pure_ (i := 2) (N := some 98) (v := ?_) (a' := ?_) #[true, false, true, false, false, false, false, false, false, false] rfl rfl (any_of HT_.out (by kernel_rfl)) (fun _ _ _ h => h) (Or.inl ⟨by rfl, ?_⟩) ?_ ?_
                                      rotate_left
                                      · intro w'
                                        go_simp
                                        with_reducible rfl
                                      rotate_left
                                      · simp only [Act.put, List.setIfInBounds_toArray, List.set_cons_zero, List.set_cons_succ, i64_w, i32_w]
                                        rfl
                                      refine pure_ (i := 3) (N := some 99) (v := ?_) (a' := ?_) #[true, false, true, true, false, false, false, false, false, false] rfl rfl (any_of HT_.out (by kernel_rfl)) (fun _ _ _ h => h) (Or.inl ⟨by rfl, ?_⟩) ?_ ?_
                                      rotate_left
                                      · intro w'
                                        go_simp
                                        with_reducible rfl
                                      rotate_left
                                      · simp only [Act.put, List.setIfInBounds_toArray, List.set_cons_zero, List.set_cons_succ, i64_w, i32_w]
                                        rfl
                                      refine take_ (i := 1) (N := some 97) (v := ?_) (a' := ?_) #[true, true, true, true, false, false, false, false, false, false] rfl rfl (take_ofW HT_.out HW_.out (by kernel_rfl)) (fun _ _ _ h => h) (Or.inl ⟨by rfl, ?_⟩) hHeld ?_ ?_
                                      rotate_left
                                      · rintro w' ⟨s0, s1, s2⟩
                                        go_simp
                                        with_reducible rfl
                                      rotate_left
                                      · simp only [Act.put, List.setIfInBounds_toArray, List.set_cons_zero, List.set_cons_succ, i64_w, i32_w]
                                        rfl
                                      refine take_ (i := 4) (N := some 100) (v := ?_) (a' := ?_) #[true, true, true, true, true, false, false, false, false, false] rfl rfl (take_ofW HT_.out HW_.out (by kernel_rfl)) (fun _ _ _ h => h) (Or.inl ⟨by rfl, ?_⟩) hHeld ?_ ?_
                                      rotate_left
                                      · rintro w' ⟨s0, s1, s2⟩
                                        go_simp
                                        with_reducible rfl
                                      rotate_left
                                      · simp only [Act.put, List.setIfInBounds_toArray, List.set_cons_zero, List.set_cons_succ, i64_w, i32_w]
                                        rfl
                                      refine pure_ (i := 5) (N := some 101) (v := ?_) (a' := ?_) #[true, true, true, true, true, true, false, false, false, false] rfl rfl (any_of HT_.out (by kernel_rfl)) (fun _ _ _ h => h) (Or.inl ⟨by rfl, ?_⟩) ?_ ?_
                                      rotate_left
                                      · intro w'
                                        go_simp
                                        with_reducible rfl
                                      rotate_left
                                      · simp only [Act.put, List.setIfInBounds_toArray, List.set_cons_zero, List.set_cons_succ, i64_w, i32_w]
                                        rfl
                                      refine one_ (i := 6) (N := some 102) #[true, true, true, true, true, true, true, false, false, false] rfl rfl (one_of HT_.out (by kernel_rfl)) (by decide) (fun K hK => ?_)
                                      refine value_ (w1 := ?_) (v := ?_) (by rfl) rfl ?_ ?_
                                      rotate_left 2
                                      · go_simp
                                        constructor
                                        · rfl
                                        · rfl
                                      refine hK.out _ _ ⟨(blk_cell (blk_alloc BK112.out _) 0).trans rfl, (blk_cell (blk_alloc BK112.out _) 1).trans rfl, (blk_cell (blk_alloc BK112.out _) 2).trans rfl⟩ (fun hHeld => ?_)
                                      clear hK K
                                      refine norm_ (a' := ?_) ?_ ?_
                                      rotate_left
                                      · show Act.put _ (some 102) _ = _
                                        simp only [Act.put, List.setIfInBounds_toArray, List.set_cons_zero, List.set_cons_succ, i64_w, i32_w]
                                        rfl
                                      refine one_ (i := 7) (N := some 103) #[true, true, true, true, true, true, true, true, false, false] rfl rfl (one_of HT_.out (by kernel_rfl)) (by decide) (fun K hK => ?_)
                                      refine Kd.R_append_step (Kd.int .i64) (w0 := w) w.heap.size (by rfl) (.tmp 97) (.tmp 102) 22 3 (.int .i64 0) 8 rfl Tryd.underlying22 info3 rfl (by decide) (by omega) u113002 x113002_4 (wrap64 (bt a0 x8_4)) [.int .i64 (wrap64 (bt a0 x8_4))] (fun k_ => some k_ ≠ (u113000 : Value).ownBlock) (fun _ => False) rfl rfl ?aP (fun _ hk => hk.elim) ?aF ?aO ?aB ?aS ?aL ?_
                                      (case aP => exact rfl)
                                      (case aB => exact (by repeat (first | (with_reducible first | exact HB.out | apply below_alloc | apply pw_below_drewN | apply below_drew1 | refine below_set ?_ GE111.out | refine below_set ?_ GE112.out) | exact HB.out)))
                                      (case aF => exact (fun k_ hk => Kd.fresh' (Kd.R_lt (by (with_reducible repeat (first | apply Kd.R_alloc | apply Kd.R_drewN | apply Kd.R_drew)); exact HO_113000.out)) k_ hk))
                                      (case aO => exact (by (with_reducible repeat (first | apply Kd.R_alloc | apply Kd.R_drewN | apply Kd.R_drew)); exact HO_113002.out))
                                      (case aS => exact (below_size (by repeat (first | (with_reducible first | exact HB.out | apply below_alloc | apply pw_below_drewN | apply below_drew1 | refine below_set ?_ GE111.out | refine below_set ?_ GE112.out) | exact HB.out))))
                                      (case aL => have := LMc55.out; omega)
                                      intro v121 w57 ho hb hg hat
                                      rw [← Ny120.out] at ho
                                      have n0_ := Aside0.mk (Kd.R_after (ok := (fun _ => True)) (by (with_reducible repeat (first | apply Kd.R_alloc | apply Kd.R_drewN | apply Kd.R_drew)); exact Kd.R_mono HO_113000.out (fun _ hk => ⟨trivial, hk⟩)) hg hat)
                                      have n1_ := Aside0.mk (Kd.R_over' (by (with_reducible repeat (first | apply Kd.R_alloc | apply Kd.R_drewN | apply Kd.R_drew)); exact HO_113001.out) (Kd.R_typed (by (with_reducible repeat (first | apply Kd.R_alloc | apply Kd.R_drewN | apply Kd.R_drew)); exact HO_113002.out)) (by decide) hg)
                                      have n2_ := Aside0.mk (blk_grown (g := gb111) (o := .cells #[.slice none 0 0, .slice none 0 0, .slice none 0 0] 25 (0, 0)) (by (with_reducible repeat (first | refine blk_drewN ?_ _ | refine blk_drew ?_ | refine blk_alloc ?_ _)); exact BK111.out) hg (Kd.R_ne HO_113002.out BK111.out (by decide)))
                                      have n3_ := Aside0.mk (blk_grown (g := gb112) (o := .cells #[u113000, u113001, u113002] 25 (0, 0)) (by (with_reducible repeat (first | refine blk_drewN ?_ _ | refine blk_drew ?_ | refine blk_alloc ?_ _)); exact BK112.out) hg (Kd.R_ne HO_113002.out BK112.out (by decide)))
                                      have n4_ := Aside0.mk (hb)
                                      have n5_ := Aside0.mk (ho)
                                      clear HO_113000
                                      clear HO_113001
                                      clear BK111
                                      clear BK112
                                      clear HB
                                      clear HO_113002
                                      have HO_113000 := n0_
                                      have HO_113001 := n1_
                                      have BK111 := n2_
                                      have BK112 := n3_
                                      have HB := n4_
                                      have HO122 := n5_
                                      clear n0_ n1_ n2_ n3_ n4_ n5_
                                      clear ho hb hg hat
                                      obtain ⟨Ao58, co58, eo58⟩ := Kd.R_slice HO122.out
                                      (first | subst eo58 | (injection eo58 with f1_ f2_ f3_; have f4_ := f1_.symm; have f5_ := f3_.symm; clear f1_ f2_ f3_; subst f4_; subst f5_))
                                      refine hK.out _ _ ⟨(blk_cell BK112.out 0).trans rfl, (blk_cell BK112.out 1).trans rfl, (blk_cell BK112.out 2).trans rfl⟩ (fun hHeld => ?_)
                                      clear hK K
                                      refine norm_ (a' := ?_) ?_ ?_
                                      rotate_left
                                      · show Act.put _ (some 103) _ = _
                                        simp only [Act.put, List.setIfInBounds_toArray, List.set_cons_zero, List.set_cons_succ, i64_w, i32_w]
                                        rfl
                                      refine pure_ (i := 8) (N := some 104) (v := ?_) (a' := ?_) #[true, true, true, true, true, true, true, true, true, false] rfl rfl (any_of HT_.out (by kernel_rfl)) (fun _ _ _ h => h) (Or.inl ⟨by rfl, ?_⟩) ?_ ?_
                                      rotate_left
                                      · intro w'
                                        go_simp
                                        with_reducible rfl
                                      rotate_left
                                      · simp only [Act.put, List.setIfInBounds_toArray, List.set_cons_zero, List.set_cons_succ, i64_w, i32_w]
                                        rfl
                                      refine last_ (i := 9) (N := none) #[true, true, true, true, true, true, true, true, true, true] rfl rfl (one_of HT_.out (by kernel_rfl)) (by decide) (fun K hK => ?_)
                                      have hs59 : w57.cell? ⟨gb112, 2, none⟩ = some (u113002) := (blk_cell BK112.out 2).trans rfl
                                      have hfs59 := blk_frozen BK112.out 2
                                      have hns59_0 := NB111_112.out
                                      have hms59_0 := NB112_111.out
                                      refine skip_ (w1 := ?_) (by rfl) rfl ?_ ?_
                                      rotate_left
                                      · go_simp
                                        rfl
                                      refine hK.out _ _ ?_
                                      clear hK K
                                      refine done_ (done_of HT_.out (by kernel_rfl)) ?_
                                      try go_wp2
                                      go_roundg k4
                                      case measure => have := HJ1.out; have := HJ18.out; have := HK3.out; have := HK4.out; omega
                                      case rel => exact ⟨(wrap64 (x8_4 + 1)), (y120), (.slice Ao58 y120.length co58), (by first | rfl | (simp; done) | (simp [*]; done)), H', ⟨by have := HJ1.out; have := HJ18.out; have := HK3.out; have := HK4.out; omega⟩, ⟨by (with_reducible repeat (first | apply Kd.R_alloc | apply Kd.R_drewN | apply Kd.R_drew)); exact Kd.R_mono (Kd.R_far (p := ⟨gb112, 2, none⟩) (Kd.R_types HO_113000.out BK112.out (by decide)) (fun _ hk => hk.2) (.slice Ao58 y120.length co58)) (fun _ hk => hk.1.2)⟩, ⟨by (with_reducible repeat (first | apply Kd.R_alloc | apply Kd.R_drewN | apply Kd.R_drew)); exact Kd.R_mono (Kd.R_far (p := ⟨gb112, 2, none⟩) (Kd.R_types HO_113001.out BK112.out (by decide)) (fun _ hk => hk.2) (.slice Ao58 y120.length co58)) (fun _ hk => trivial)⟩, ⟨by (with_reducible repeat (first | apply Kd.R_alloc | apply Kd.R_drewN | apply Kd.R_drew)); exact Kd.R_mono (Kd.R_far (p := ⟨gb112, 2, none⟩) (Kd.R_types HO122.out BK112.out (by decide)) (fun _ hk => hk.2) (.slice Ao58 y120.length co58)) (fun _ hk => hk.1)⟩, ⟨by (with_reducible repeat (first | refine blk_drewN ?_ _ | refine blk_drew ?_ | refine blk_alloc ?_ _)); refine blk_far ?_ NB111_112.out _; (with_reducible repeat (first | refine blk_drewN ?_ _ | refine blk_drew ?_ | refine blk_alloc ?_ _)); exact BK111.out⟩, ⟨by (with_reducible repeat (first | refine blk_drewN ?_ _ | refine blk_drew ?_ | refine blk_alloc ?_ _)); refine blk_put (cs := #[u113000, u113001, u113002]) ?_ 2 _ rfl; (with_reducible repeat (first | refine blk_drewN ?_ _ | refine blk_drew ?_ | refine blk_alloc ?_ _)); exact BK112.out⟩, ⟨by repeat (first | (with_reducible first | exact HB.out | apply below_alloc | apply pw_below_drewN | apply below_drew1 | refine below_set ?_ GE111.out | refine below_set ?_ GE112.out) | exact HB.out)⟩⟩
                                    · rw [if_neg c55] at H
                                      exact absurd H (by simp)
                                  · rw [if_neg c53] at H
                                    exact absurd H (by simp)
                                · rw [if_neg c52] at H
                                  have c52b0 : ((bt a0 0) == 1) = false := beq_eq_false_iff_ne.mpr c52
                                  have c52b1 : ((bt a0 0) != 1) = true := bne_iff_ne.mpr c52
                                  replace H := Option.bind_eq_some_iff.mp H
                                  obtain ⟨t123, A600, H⟩ := H
                                  replace H : (if t123 = true then (some (x113000_3, x113001_3, x113002_4, true)) else (some (([] : List Int), ([] : List ByteArray), ([] : List Int), false))) = some (r1, r2, r3, r4) := H
                                  have A60 := Aside0.mk A600
                                  clear A600
                                  by_cases c61 : t123 = true
                                  · subst c61
                                    have H1 : (some (x113000_3, x113001_3, x113002_4, true)) = some (r1, r2, r3, r4) := by rw [if_pos rfl] at H; exact H
                                    clear H
                                    have H := H1
                                    clear H1
                                    simp only [Option.some.injEq, Prod.mk.injEq] at H
                                    obtain ⟨rfl, rfl, rfl, rfl⟩ := H
                                    have p51 : 0 ≤ (0 : Int) := (by omega)
                                    have q51 : 0 < a0.size := (by have : (0 : Int) < (a0.size : Int) := of_decide_eq_true (by first | (with_reducible assumption) | assumption); omega)
                                    have hx51 : ∀ h : 0 < a0.size, ((a0[0]'h).toNat : Int) = bt a0 0 := bt_at a0 0
                                    clear p51
                                    have qi51 : (0 < (a0.size : Int)) = True := eq_true (of_decide_eq_true (by first | (with_reducible assumption) | assumption))
                                    replace q51 := eq_true q51
                                    have hnb62 := NB112_111.out
                                    have hnc62 := NB111_112.out
                                    have hcz63_0 : wr.cell? ⟨gb112, 0, none⟩ = some (u113000) := (blk_cell BK112.out 0).trans rfl
                                    have hcz63_1 : wr.cell? ⟨gb112, 1, none⟩ = some (u113001) := (blk_cell BK112.out 1).trans rfl
                                    have hcz63_2 : wr.cell? ⟨gb112, 2, none⟩ = some (u113002) := (blk_cell BK112.out 2).trans rfl
                                    have hfz63_0 := blk_frozen BK112.out 0
                                    have hfz63_1 := blk_frozen BK112.out 1
                                    have hfz63_2 := blk_frozen BK112.out 2
                                    obtain ⟨Ao64, co64, eo64⟩ := Kd.R_slice HO_113000.out
                                    subst eo64
                                    obtain ⟨Ao65, co65, eo65⟩ := Kd.R_slice HO_113001.out
                                    subst eo65
                                    obtain ⟨Ao66, co66, eo66⟩ := Kd.R_slice HO_113002.out
                                    subst eo66
                                    go_wp2_with (first | ((with_reducible refine gate_callee (f := 15) rfl ?_); refine goesL_ (some 106) rfl rfl Tryd.func15 (by kernel_rfl) rfl #[.agg #[.slice Ao64 x113000_3.length co64, .slice Ao65 x113001_3.length co65, .slice Ao66 x113002_4.length co66]] rfl (by (try simp only [List.map_toArray, List.map_cons, List.map_nil]); first | done | rfl | (simp only [List.length_drop, List.length_take]; rfl)) ?_; (with_reducible refine (dynamoref09_Right.calls k4 _ _ x113000_3 _ _ x113001_3 _ _ x113002_4 true _ ?side1 ?side2 ?side3 ?side4 ?side5 ?side6 A60.out).mono ?_); (case side1 => repeat (first | exact (Kd.R_reads' HO_113000.out).2.2 | (with_reducible refine Kd.C_alloc ?_ _) | (with_reducible refine Kd.C_drewN ?_ _) | (with_reducible refine Kd.C_drew ?_))); (case side2 => exact (Kd.R_reads' HO_113000.out).2.1); (case side3 => repeat (first | exact (Kd.R_reads' HO_113001.out).2.2 | (with_reducible refine Kd.C_alloc ?_ _) | (with_reducible refine Kd.C_drewN ?_ _) | (with_reducible refine Kd.C_drew ?_))); (case side4 => exact (Kd.R_reads' HO_113001.out).2.1); (case side5 => repeat (first | exact (Kd.R_reads' HO_113002.out).2.2 | (with_reducible refine Kd.C_alloc ?_ _) | (with_reducible refine Kd.C_drewN ?_ _) | (with_reducible refine Kd.C_drew ?_))); (case side6 => exact (Kd.R_reads' HO_113002.out).2.1); rintro e w67 ⟨rfl, hb⟩; refine ⟨_, rfl, ?_⟩; have n0_ := Aside0.mk (Kd.R_below (by (with_reducible repeat (first | apply Kd.R_alloc | apply Kd.R_drewN | apply Kd.R_drew)); exact HO_113000.out) hb); have n1_ := Aside0.mk (Kd.R_below (by (with_reducible repeat (first | apply Kd.R_alloc | apply Kd.R_drewN | apply Kd.R_drew)); exact HO_113001.out) hb); have n2_ := Aside0.mk (Kd.R_below (by (with_reducible repeat (first | apply Kd.R_alloc | apply Kd.R_drewN | apply Kd.R_drew)); exact HO_113002.out) hb); have n3_ := Aside0.mk (blk_below (g := gb111) (o := .cells #[.slice none 0 0, .slice none 0 0, .slice none 0 0] 25 (0, 0)) (by (with_reducible repeat (first | refine blk_drewN ?_ _ | refine blk_drew ?_ | refine blk_alloc ?_ _)); exact BK111.out) hb); have n4_ := Aside0.mk (blk_below (g := gb112) (o := .cells #[.slice Ao64 x113000_3.length co64, .slice Ao65 x113001_3.length co65, .slice Ao66 x113002_4.length co66] 25 (0, 0)) (by (with_reducible repeat (first | refine blk_drewN ?_ _ | refine blk_drew ?_ | refine blk_alloc ?_ _)); exact BK112.out) hb); have n5_ := Aside0.mk (below_step (by repeat (first | (with_reducible first | exact HB.out | apply below_alloc | apply pw_below_drewN | apply below_drew1 | refine below_set ?_ GE111.out | refine below_set ?_ GE112.out) | exact HB.out)) hb); clear HO_113000; clear HO_113001; clear HO_113002; clear BK111; clear BK112; clear HB; have HO_113000 := n0_; have HO_113001 := n1_; have HO_113002 := n2_; have BK111 := n3_; have BK112 := n4_; have HB := n5_; clear n0_ n1_ n2_ n3_ n4_ n5_; (try clear hb); (try clear hb2); (try clear hk); (try clear hi); have hcz68_0 : w67.cell? ⟨gb112, 0, none⟩ = some (.slice Ao64 x113000_3.length co64) := (blk_cell BK112.out 0).trans rfl; have hcz68_1 : w67.cell? ⟨gb112, 1, none⟩ = some (.slice Ao65 x113001_3.length co65) := (blk_cell BK112.out 1).trans rfl; have hcz68_2 : w67.cell? ⟨gb112, 2, none⟩ = some (.slice Ao66 x113002_4.length co66) := (blk_cell BK112.out 2).trans rfl; have hfz68_0 := blk_frozen BK112.out 0; have hfz68_1 := blk_frozen BK112.out 1; have hfz68_2 := blk_frozen BK112.out 2; have hcz69_0 : w67.cell? ⟨gb111, 0, none⟩ = some (.slice none 0 0) := (blk_cell BK111.out 0).trans rfl; have hcz69_1 : w67.cell? ⟨gb111, 1, none⟩ = some (.slice none 0 0) := (blk_cell BK111.out 1).trans rfl; have hcz69_2 : w67.cell? ⟨gb111, 2, none⟩ = some (.slice none 0 0) := (blk_cell BK111.out 2).trans rfl; have hfz69_0 := blk_frozen BK111.out 0; have hfz69_1 := blk_frozen BK111.out 1; have hfz69_2 := blk_frozen BK111.out 2))
                                    refine bodyPost_ret (results_ct rfl _ _ gb111 25 #[.slice Ao64 x113000_3.length co64, .slice Ao65 x113001_3.length co65, .slice Ao66 x113002_4.length co66] (0, 0) _ rfl (by (with_reducible repeat (first | refine blk_drewN ?_ _ | refine blk_drew ?_ | refine blk_alloc ?_ _)); refine blk_put (cs := #[.slice Ao64 x113000_3.length co64, .slice Ao65 x113001_3.length co65, .slice none 0 0]) ?_ 2 _ rfl; (with_reducible repeat (first | refine blk_drewN ?_ _ | refine blk_drew ?_ | refine blk_alloc ?_ _)); refine blk_put (cs := #[.slice Ao64 x113000_3.length co64, .slice none 0 0, .slice none 0 0]) ?_ 1 _ rfl; (with_reducible repeat (first | refine blk_drewN ?_ _ | refine blk_drew ?_ | refine blk_alloc ?_ _)); refine blk_put (cs := #[.slice none 0 0, .slice none 0 0, .slice none 0 0]) ?_ 0 _ rfl; (with_reducible repeat (first | refine blk_drewN ?_ _ | refine blk_drew ?_ | refine blk_alloc ?_ _)); exact BK111.out) Tryd.underlying25 rfl (by kernel_rfl)) rfl ?_
                                    exact ⟨_, _, _, by first | rfl | (simp [errW_none, errW_some] <;> rfl) | (simp [*, errW_none, errW_some] <;> rfl), by (with_reducible repeat (first | apply Kd.R_alloc | apply Kd.R_drewN | apply Kd.R_drew)); exact Kd.R_mono (Kd.R_far (p := ⟨gb111, 2, none⟩) (Kd.R_far (p := ⟨gb111, 1, none⟩) (Kd.R_far (p := ⟨gb111, 0, none⟩) (Kd.R_types HO_113000.out BK111.out (by decide)) (fun _ hk => hk.2) (.slice Ao64 x113000_3.length co64)) (fun _ hk => hk.2) (.slice Ao65 x113001_3.length co65)) (fun _ hk => hk.2) (.slice Ao66 x113002_4.length co66)) (fun _ hk => hk.1), by (with_reducible repeat (first | apply Kd.R_alloc | apply Kd.R_drewN | apply Kd.R_drew)); exact Kd.R_mono (Kd.R_far (p := ⟨gb111, 2, none⟩) (Kd.R_far (p := ⟨gb111, 1, none⟩) (Kd.R_far (p := ⟨gb111, 0, none⟩) (Kd.R_types HO_113001.out BK111.out (by decide)) (fun _ hk => hk.2) (.slice Ao64 x113000_3.length co64)) (fun _ hk => hk.2) (.slice Ao65 x113001_3.length co65)) (fun _ hk => hk.2) (.slice Ao66 x113002_4.length co66)) (fun _ hk => trivial), by (with_reducible repeat (first | apply Kd.R_alloc | apply Kd.R_drewN | apply Kd.R_drew)); exact Kd.R_mono (Kd.R_far (p := ⟨gb111, 2, none⟩) (Kd.R_far (p := ⟨gb111, 1, none⟩) (Kd.R_far (p := ⟨gb111, 0, none⟩) (Kd.R_types HO_113002.out BK111.out (by decide)) (fun _ hk => hk.2) (.slice Ao64 x113000_3.length co64)) (fun _ hk => hk.2) (.slice Ao65 x113001_3.length co65)) (fun _ hk => hk.2) (.slice Ao66 x113002_4.length co66)) (fun _ hk => hk.1), by repeat (first | (with_reducible first | exact HB.out | apply below_alloc | apply pw_below_drewN | apply below_drew1 | refine below_set ?_ GE111.out | refine below_set ?_ GE112.out) | exact HB.out)⟩
                                  · replace c61 := Bool.eq_false_iff.mpr c61
                                    subst c61
                                    have H1 : (some (([] : List Int), ([] : List ByteArray), ([] : List Int), false)) = some (r1, r2, r3, r4) := by rw [if_neg (show ¬ (false = true) by decide)] at H; exact H
                                    clear H
                                    have H := H1
                                    clear H1
                                    simp only [Option.some.injEq, Prod.mk.injEq] at H
                                    obtain ⟨rfl, rfl, rfl, rfl⟩ := H
                                    have p51 : 0 ≤ (0 : Int) := (by omega)
                                    have q51 : 0 < a0.size := (by have : (0 : Int) < (a0.size : Int) := of_decide_eq_true (by first | (with_reducible assumption) | assumption); omega)
                                    have hx51 : ∀ h : 0 < a0.size, ((a0[0]'h).toNat : Int) = bt a0 0 := bt_at a0 0
                                    clear p51
                                    have qi51 : (0 < (a0.size : Int)) = True := eq_true (of_decide_eq_true (by first | (with_reducible assumption) | assumption))
                                    replace q51 := eq_true q51
                                    have hnb70 := NB112_111.out
                                    have hnc70 := NB111_112.out
                                    have hcz71_0 : wr.cell? ⟨gb112, 0, none⟩ = some (u113000) := (blk_cell BK112.out 0).trans rfl
                                    have hcz71_1 : wr.cell? ⟨gb112, 1, none⟩ = some (u113001) := (blk_cell BK112.out 1).trans rfl
                                    have hcz71_2 : wr.cell? ⟨gb112, 2, none⟩ = some (u113002) := (blk_cell BK112.out 2).trans rfl
                                    have hfz71_0 := blk_frozen BK112.out 0
                                    have hfz71_1 := blk_frozen BK112.out 1
                                    have hfz71_2 := blk_frozen BK112.out 2
                                    obtain ⟨Ao72, co72, eo72⟩ := Kd.R_slice HO_113000.out
                                    subst eo72
                                    obtain ⟨Ao73, co73, eo73⟩ := Kd.R_slice HO_113001.out
                                    subst eo73
                                    obtain ⟨Ao74, co74, eo74⟩ := Kd.R_slice HO_113002.out
                                    subst eo74
                                    go_wp2_with (first | ((with_reducible refine gate_callee (f := 15) rfl ?_); refine goesL_ (some 106) rfl rfl Tryd.func15 (by kernel_rfl) rfl #[.agg #[.slice Ao72 x113000_3.length co72, .slice Ao73 x113001_3.length co73, .slice Ao74 x113002_4.length co74]] rfl (by (try simp only [List.map_toArray, List.map_cons, List.map_nil]); first | done | rfl | (simp only [List.length_drop, List.length_take]; rfl)) ?_; (with_reducible refine (dynamoref09_Right.calls k4 _ _ x113000_3 _ _ x113001_3 _ _ x113002_4 false _ ?side1 ?side2 ?side3 ?side4 ?side5 ?side6 A60.out).mono ?_); (case side1 => repeat (first | exact (Kd.R_reads' HO_113000.out).2.2 | (with_reducible refine Kd.C_alloc ?_ _) | (with_reducible refine Kd.C_drewN ?_ _) | (with_reducible refine Kd.C_drew ?_))); (case side2 => exact (Kd.R_reads' HO_113000.out).2.1); (case side3 => repeat (first | exact (Kd.R_reads' HO_113001.out).2.2 | (with_reducible refine Kd.C_alloc ?_ _) | (with_reducible refine Kd.C_drewN ?_ _) | (with_reducible refine Kd.C_drew ?_))); (case side4 => exact (Kd.R_reads' HO_113001.out).2.1); (case side5 => repeat (first | exact (Kd.R_reads' HO_113002.out).2.2 | (with_reducible refine Kd.C_alloc ?_ _) | (with_reducible refine Kd.C_drewN ?_ _) | (with_reducible refine Kd.C_drew ?_))); (case side6 => exact (Kd.R_reads' HO_113002.out).2.1); rintro e w75 ⟨rfl, hb⟩; refine ⟨_, rfl, ?_⟩; have n0_ := Aside0.mk (Kd.R_below (by (with_reducible repeat (first | apply Kd.R_alloc | apply Kd.R_drewN | apply Kd.R_drew)); exact HO_113000.out) hb); have n1_ := Aside0.mk (Kd.R_below (by (with_reducible repeat (first | apply Kd.R_alloc | apply Kd.R_drewN | apply Kd.R_drew)); exact HO_113001.out) hb); have n2_ := Aside0.mk (Kd.R_below (by (with_reducible repeat (first | apply Kd.R_alloc | apply Kd.R_drewN | apply Kd.R_drew)); exact HO_113002.out) hb); have n3_ := Aside0.mk (blk_below (g := gb111) (o := .cells #[.slice none 0 0, .slice none 0 0, .slice none 0 0] 25 (0, 0)) (by (with_reducible repeat (first | refine blk_drewN ?_ _ | refine blk_drew ?_ | refine blk_alloc ?_ _)); exact BK111.out) hb); have n4_ := Aside0.mk (blk_below (g := gb112) (o := .cells #[.slice Ao72 x113000_3.length co72, .slice Ao73 x113001_3.length co73, .slice Ao74 x113002_4.length co74] 25 (0, 0)) (by (with_reducible repeat (first | refine blk_drewN ?_ _ | refine blk_drew ?_ | refine blk_alloc ?_ _)); exact BK112.out) hb); have n5_ := Aside0.mk (below_step (by repeat (first | (with_reducible first | exact HB.out | apply below_alloc | apply pw_below_drewN | apply below_drew1 | refine below_set ?_ GE111.out | refine below_set ?_ GE112.out) | exact HB.out)) hb); clear HO_113000; clear HO_113001; clear HO_113002; clear BK111; clear BK112; clear HB; have HO_113000 := n0_; have HO_113001 := n1_; have HO_113002 := n2_; have BK111 := n3_; have BK112 := n4_; have HB := n5_; clear n0_ n1_ n2_ n3_ n4_ n5_; (try clear hb); (try clear hb2); (try clear hk); (try clear hi); have hcz76_0 : w75.cell? ⟨gb111, 0, none⟩ = some (.slice none 0 0) := (blk_cell BK111.out 0).trans rfl; have hcz76_1 : w75.cell? ⟨gb111, 1, none⟩ = some (.slice none 0 0) := (blk_cell BK111.out 1).trans rfl; have hcz76_2 : w75.cell? ⟨gb111, 2, none⟩ = some (.slice none 0 0) := (blk_cell BK111.out 2).trans rfl; have hfz76_0 := blk_frozen BK111.out 0; have hfz76_1 := blk_frozen BK111.out 1; have hfz76_2 := blk_frozen BK111.out 2))
                                    refine bodyPost_ret (results_ct rfl _ _ gb111 25 #[.slice none 0 0, .slice none 0 0, .slice none 0 0] (0, 0) _ rfl (by (with_reducible repeat (first | refine blk_drewN ?_ _ | refine blk_drew ?_ | refine blk_alloc ?_ _)); refine blk_put (cs := #[.slice none 0 0, .slice none 0 0, .slice none 0 0]) ?_ 2 _ rfl; (with_reducible repeat (first | refine blk_drewN ?_ _ | refine blk_drew ?_ | refine blk_alloc ?_ _)); refine blk_put (cs := #[.slice none 0 0, .slice none 0 0, .slice none 0 0]) ?_ 1 _ rfl; (with_reducible repeat (first | refine blk_drewN ?_ _ | refine blk_drew ?_ | refine blk_alloc ?_ _)); refine blk_put (cs := #[.slice none 0 0, .slice none 0 0, .slice none 0 0]) ?_ 0 _ rfl; (with_reducible repeat (first | refine blk_drewN ?_ _ | refine blk_drew ?_ | refine blk_alloc ?_ _)); exact BK111.out) Tryd.underlying25 rfl (by kernel_rfl)) rfl ?_
                                    exact ⟨_, _, _, by first | rfl | (simp [errW_none, errW_some] <;> rfl) | (simp [*, errW_none, errW_some] <;> rfl), by first | exact Kd.R_nil _ _ _ _ _ | exact Kd.N_nil _ _ _ _ _ | exact Kd.V_nil _ _ _ _ _ | exact Kd.Q_nil _ _ _ _ _ | exact Kd.S_nil _ _ _ _ _, by first | exact Kd.R_nil _ _ _ _ _ | exact Kd.N_nil _ _ _ _ _ | exact Kd.V_nil _ _ _ _ _ | exact Kd.Q_nil _ _ _ _ _ | exact Kd.S_nil _ _ _ _ _, by first | exact Kd.R_nil _ _ _ _ _ | exact Kd.N_nil _ _ _ _ _ | exact Kd.V_nil _ _ _ _ _ | exact Kd.Q_nil _ _ _ _ _ | exact Kd.S_nil _ _ _ _ _, by repeat (first | (with_reducible first | exact HB.out | apply below_alloc | apply pw_below_drewN | apply below_drew1 | refine below_set ?_ GE111.out | refine below_set ?_ GE112.out) | exact HB.out)⟩
                              · rw [if_neg c50] at H
                                exact absurd H (by simp)
                            · rw [if_neg c49] at H
                              have c49b0 : decide (x8_4 < (a0.size : Int)) = false := decide_eq_false c49
                              clear c49
                              replace H := Option.bind_eq_some_iff.mp H
                              obtain ⟨t124, A770, H⟩ := H
                              replace H : (if t124 = true then (some (x113000_3, x113001_3, x113002_4, true)) else (some (([] : List Int), ([] : List ByteArray), ([] : List Int), false))) = some (r1, r2, r3, r4) := H
                              have A77 := Aside0.mk A770
                              clear A770
                              by_cases c78 : t124 = true
                              · subst c78
                                have H1 : (some (x113000_3, x113001_3, x113002_4, true)) = some (r1, r2, r3, r4) := by rw [if_pos rfl] at H; exact H
                                clear H
                                have H := H1
                                clear H1
                                simp only [Option.some.injEq, Prod.mk.injEq] at H
                                obtain ⟨rfl, rfl, rfl, rfl⟩ := H
                                have hnb79 := NB112_111.out
                                have hnc79 := NB111_112.out
                                have hcz80_0 : wr.cell? ⟨gb112, 0, none⟩ = some (u113000) := (blk_cell BK112.out 0).trans rfl
                                have hcz80_1 : wr.cell? ⟨gb112, 1, none⟩ = some (u113001) := (blk_cell BK112.out 1).trans rfl
                                have hcz80_2 : wr.cell? ⟨gb112, 2, none⟩ = some (u113002) := (blk_cell BK112.out 2).trans rfl
                                have hfz80_0 := blk_frozen BK112.out 0
                                have hfz80_1 := blk_frozen BK112.out 1
                                have hfz80_2 := blk_frozen BK112.out 2
                                obtain ⟨Ao81, co81, eo81⟩ := Kd.R_slice HO_113000.out
                                subst eo81
                                obtain ⟨Ao82, co82, eo82⟩ := Kd.R_slice HO_113001.out
                                subst eo82
                                obtain ⟨Ao83, co83, eo83⟩ := Kd.R_slice HO_113002.out
                                subst eo83
                                go_wp2_with (first | ((with_reducible refine gate_callee (f := 15) rfl ?_); refine goesL_ (some 106) rfl rfl Tryd.func15 (by kernel_rfl) rfl #[.agg #[.slice Ao81 x113000_3.length co81, .slice Ao82 x113001_3.length co82, .slice Ao83 x113002_4.length co83]] rfl (by (try simp only [List.map_toArray, List.map_cons, List.map_nil]); first | done | rfl | (simp only [List.length_drop, List.length_take]; rfl)) ?_; (with_reducible refine (dynamoref09_Right.calls k4 _ _ x113000_3 _ _ x113001_3 _ _ x113002_4 true _ ?side1 ?side2 ?side3 ?side4 ?side5 ?side6 A77.out).mono ?_); (case side1 => repeat (first | exact (Kd.R_reads' HO_113000.out).2.2 | (with_reducible refine Kd.C_alloc ?_ _) | (with_reducible refine Kd.C_drewN ?_ _) | (with_reducible refine Kd.C_drew ?_))); (case side2 => exact (Kd.R_reads' HO_113000.out).2.1); (case side3 => repeat (first | exact (Kd.R_reads' HO_113001.out).2.2 | (with_reducible refine Kd.C_alloc ?_ _) | (with_reducible refine Kd.C_drewN ?_ _) | (with_reducible refine Kd.C_drew ?_))); (case side4 => exact (Kd.R_reads' HO_113001.out).2.1); (case side5 => repeat (first | exact (Kd.R_reads' HO_113002.out).2.2 | (with_reducible refine Kd.C_alloc ?_ _) | (with_reducible refine Kd.C_drewN ?_ _) | (with_reducible refine Kd.C_drew ?_))); (case side6 => exact (Kd.R_reads' HO_113002.out).2.1); rintro e w84 ⟨rfl, hb⟩; refine ⟨_, rfl, ?_⟩; have n0_ := Aside0.mk (Kd.R_below (by (with_reducible repeat (first | apply Kd.R_alloc | apply Kd.R_drewN | apply Kd.R_drew)); exact HO_113000.out) hb); have n1_ := Aside0.mk (Kd.R_below (by (with_reducible repeat (first | apply Kd.R_alloc | apply Kd.R_drewN | apply Kd.R_drew)); exact HO_113001.out) hb); have n2_ := Aside0.mk (Kd.R_below (by (with_reducible repeat (first | apply Kd.R_alloc | apply Kd.R_drewN | apply Kd.R_drew)); exact HO_113002.out) hb); have n3_ := Aside0.mk (blk_below (g := gb111) (o := .cells #[.slice none 0 0, .slice none 0 0, .slice none 0 0] 25 (0, 0)) (by (with_reducible repeat (first | refine blk_drewN ?_ _ | refine blk_drew ?_ | refine blk_alloc ?_ _)); exact BK111.out) hb); have n4_ := Aside0.mk (blk_below (g := gb112) (o := .cells #[.slice Ao81 x113000_3.length co81, .slice Ao82 x113001_3.length co82, .slice Ao83 x113002_4.length co83] 25 (0, 0)) (by (with_reducible repeat (first | refine blk_drewN ?_ _ | refine blk_drew ?_ | refine blk_alloc ?_ _)); exact BK112.out) hb); have n5_ := Aside0.mk (below_step (by repeat (first | (with_reducible first | exact HB.out | apply below_alloc | apply pw_below_drewN | apply below_drew1 | refine below_set ?_ GE111.out | refine below_set ?_ GE112.out) | exact HB.out)) hb); clear HO_113000; clear HO_113001; clear HO_113002; clear BK111; clear BK112; clear HB; have HO_113000 := n0_; have HO_113001 := n1_; have HO_113002 := n2_; have BK111 := n3_; have BK112 := n4_; have HB := n5_; clear n0_ n1_ n2_ n3_ n4_ n5_; (try clear hb); (try clear hb2); (try clear hk); (try clear hi); have hcz85_0 : w84.cell? ⟨gb112, 0, none⟩ = some (.slice Ao81 x113000_3.length co81) := (blk_cell BK112.out 0).trans rfl; have hcz85_1 : w84.cell? ⟨gb112, 1, none⟩ = some (.slice Ao82 x113001_3.length co82) := (blk_cell BK112.out 1).trans rfl; have hcz85_2 : w84.cell? ⟨gb112, 2, none⟩ = some (.slice Ao83 x113002_4.length co83) := (blk_cell BK112.out 2).trans rfl; have hfz85_0 := blk_frozen BK112.out 0; have hfz85_1 := blk_frozen BK112.out 1; have hfz85_2 := blk_frozen BK112.out 2; have hcz86_0 : w84.cell? ⟨gb111, 0, none⟩ = some (.slice none 0 0) := (blk_cell BK111.out 0).trans rfl; have hcz86_1 : w84.cell? ⟨gb111, 1, none⟩ = some (.slice none 0 0) := (blk_cell BK111.out 1).trans rfl; have hcz86_2 : w84.cell? ⟨gb111, 2, none⟩ = some (.slice none 0 0) := (blk_cell BK111.out 2).trans rfl; have hfz86_0 := blk_frozen BK111.out 0; have hfz86_1 := blk_frozen BK111.out 1; have hfz86_2 := blk_frozen BK111.out 2))
                                refine bodyPost_ret (results_ct rfl _ _ gb111 25 #[.slice Ao81 x113000_3.length co81, .slice Ao82 x113001_3.length co82, .slice Ao83 x113002_4.length co83] (0, 0) _ rfl (by (with_reducible repeat (first | refine blk_drewN ?_ _ | refine blk_drew ?_ | refine blk_alloc ?_ _)); refine blk_put (cs := #[.slice Ao81 x113000_3.length co81, .slice Ao82 x113001_3.length co82, .slice none 0 0]) ?_ 2 _ rfl; (with_reducible repeat (first | refine blk_drewN ?_ _ | refine blk_drew ?_ | refine blk_alloc ?_ _)); refine blk_put (cs := #[.slice Ao81 x113000_3.length co81, .slice none 0 0, .slice none 0 0]) ?_ 1 _ rfl; (with_reducible repeat (first | refine blk_drewN ?_ _ | refine blk_drew ?_ | refine blk_alloc ?_ _)); refine blk_put (cs := #[.slice none 0 0, .slice none 0 0, .slice none 0 0]) ?_ 0 _ rfl; (with_reducible repeat (first | refine blk_drewN ?_ _ | refine blk_drew ?_ | refine blk_alloc ?_ _)); exact BK111.out) Tryd.underlying25 rfl (by kernel_rfl)) rfl ?_
                                exact ⟨_, _, _, by first | rfl | (simp [errW_none, errW_some] <;> rfl) | (simp [*, errW_none, errW_some] <;> rfl), by (with_reducible repeat (first | apply Kd.R_alloc | apply Kd.R_drewN | apply Kd.R_drew)); exact Kd.R_mono (Kd.R_far (p := ⟨gb111, 2, none⟩) (Kd.R_far (p := ⟨gb111, 1, none⟩) (Kd.R_far (p := ⟨gb111, 0, none⟩) (Kd.R_types HO_113000.out BK111.out (by decide)) (fun _ hk => hk.2) (.slice Ao81 x113000_3.length co81)) (fun _ hk => hk.2) (.slice Ao82 x113001_3.length co82)) (fun _ hk => hk.2) (.slice Ao83 x113002_4.length co83)) (fun _ hk => hk.1), by (with_reducible repeat (first | apply Kd.R_alloc | apply Kd.R_drewN | apply Kd.R_drew)); exact Kd.R_mono (Kd.R_far (p := ⟨gb111, 2, none⟩) (Kd.R_far (p := ⟨gb111, 1, none⟩) (Kd.R_far (p := ⟨gb111, 0, none⟩) (Kd.R_types HO_113001.out BK111.out (by decide)) (fun _ hk => hk.2) (.slice Ao81 x113000_3.length co81)) (fun _ hk => hk.2) (.slice Ao82 x113001_3.length co82)) (fun _ hk => hk.2) (.slice Ao83 x113002_4.length co83)) (fun _ hk => trivial), by (with_reducible repeat (first | apply Kd.R_alloc | apply Kd.R_drewN | apply Kd.R_drew)); exact Kd.R_mono (Kd.R_far (p := ⟨gb111, 2, none⟩) (Kd.R_far (p := ⟨gb111, 1, none⟩) (Kd.R_far (p := ⟨gb111, 0, none⟩) (Kd.R_types HO_113002.out BK111.out (by decide)) (fun _ hk => hk.2) (.slice Ao81 x113000_3.length co81)) (fun _ hk => hk.2) (.slice Ao82 x113001_3.length co82)) (fun _ hk => hk.2) (.slice Ao83 x113002_4.length co83)) (fun _ hk => hk.1), by repeat (first | (with_reducible first | exact HB.out | apply below_alloc | apply pw_below_drewN | apply below_drew1 | refine below_set ?_ GE111.out | refine below_set ?_ GE112.out) | exact HB.out)⟩
                              · replace c78 := Bool.eq_false_iff.mpr c78
                                subst c78
                                have H1 : (some (([] : List Int), ([] : List ByteArray), ([] : List Int), false)) = some (r1, r2, r3, r4) := by rw [if_neg (show ¬ (false = true) by decide)] at H; exact H
                                clear H
                                have H := H1
                                clear H1
                                simp only [Option.some.injEq, Prod.mk.injEq] at H
                                obtain ⟨rfl, rfl, rfl, rfl⟩ := H
                                have hnb87 := NB112_111.out
                                have hnc87 := NB111_112.out
                                have hcz88_0 : wr.cell? ⟨gb112, 0, none⟩ = some (u113000) := (blk_cell BK112.out 0).trans rfl
                                have hcz88_1 : wr.cell? ⟨gb112, 1, none⟩ = some (u113001) := (blk_cell BK112.out 1).trans rfl
                                have hcz88_2 : wr.cell? ⟨gb112, 2, none⟩ = some (u113002) := (blk_cell BK112.out 2).trans rfl
                                have hfz88_0 := blk_frozen BK112.out 0
                                have hfz88_1 := blk_frozen BK112.out 1
                                have hfz88_2 := blk_frozen BK112.out 2
                                obtain ⟨Ao89, co89, eo89⟩ := Kd.R_slice HO_113000.out
                                subst eo89
                                obtain ⟨Ao90, co90, eo90⟩ := Kd.R_slice HO_113001.out
                                subst eo90
                                obtain ⟨Ao91, co91, eo91⟩ := Kd.R_slice HO_113002.out
                                subst eo91
                                go_wp2_with (first | ((with_reducible refine gate_callee (f := 15) rfl ?_); refine goesL_ (some 106) rfl rfl Tryd.func15 (by kernel_rfl) rfl #[.agg #[.slice Ao89 x113000_3.length co89, .slice Ao90 x113001_3.length co90, .slice Ao91 x113002_4.length co91]] rfl (by (try simp only [List.map_toArray, List.map_cons, List.map_nil]); first | done | rfl | (simp only [List.length_drop, List.length_take]; rfl)) ?_; (with_reducible refine (dynamoref09_Right.calls k4 _ _ x113000_3 _ _ x113001_3 _ _ x113002_4 false _ ?side1 ?side2 ?side3 ?side4 ?side5 ?side6 A77.out).mono ?_); (case side1 => repeat (first | exact (Kd.R_reads' HO_113000.out).2.2 | (with_reducible refine Kd.C_alloc ?_ _) | (with_reducible refine Kd.C_drewN ?_ _) | (with_reducible refine Kd.C_drew ?_))); (case side2 => exact (Kd.R_reads' HO_113000.out).2.1); (case side3 => repeat (first | exact (Kd.R_reads' HO_113001.out).2.2 | (with_reducible refine Kd.C_alloc ?_ _) | (with_reducible refine Kd.C_drewN ?_ _) | (with_reducible refine Kd.C_drew ?_))); (case side4 => exact (Kd.R_reads' HO_113001.out).2.1); (case side5 => repeat (first | exact (Kd.R_reads' HO_113002.out).2.2 | (with_reducible refine Kd.C_alloc ?_ _) | (with_reducible refine Kd.C_drewN ?_ _) | (with_reducible refine Kd.C_drew ?_))); (case side6 => exact (Kd.R_reads' HO_113002.out).2.1); rintro e w92 ⟨rfl, hb⟩; refine ⟨_, rfl, ?_⟩; have n0_ := Aside0.mk (Kd.R_below (by (with_reducible repeat (first | apply Kd.R_alloc | apply Kd.R_drewN | apply Kd.R_drew)); exact HO_113000.out) hb); have n1_ := Aside0.mk (Kd.R_below (by (with_reducible repeat (first | apply Kd.R_alloc | apply Kd.R_drewN | apply Kd.R_drew)); exact HO_113001.out) hb); have n2_ := Aside0.mk (Kd.R_below (by (with_reducible repeat (first | apply Kd.R_alloc | apply Kd.R_drewN | apply Kd.R_drew)); exact HO_113002.out) hb); have n3_ := Aside0.mk (blk_below (g := gb111) (o := .cells #[.slice none 0 0, .slice none 0 0, .slice none 0 0] 25 (0, 0)) (by (with_reducible repeat (first | refine blk_drewN ?_ _ | refine blk_drew ?_ | refine blk_alloc ?_ _)); exact BK111.out) hb); have n4_ := Aside0.mk (blk_below (g := gb112) (o := .cells #[.slice Ao89 x113000_3.length co89, .slice Ao90 x113001_3.length co90, .slice Ao91 x113002_4.length co91] 25 (0, 0)) (by (with_reducible repeat (first | refine blk_drewN ?_ _ | refine blk_drew ?_ | refine blk_alloc ?_ _)); exact BK112.out) hb); have n5_ := Aside0.mk (below_step (by repeat (first | (with_reducible first | exact HB.out | apply below_alloc | apply pw_below_drewN | apply below_drew1 | refine below_set ?_ GE111.out | refine below_set ?_ GE112.out) | exact HB.out)) hb); clear HO_113000; clear HO_113001; clear HO_113002; clear BK111; clear BK112; clear HB; have HO_113000 := n0_; have HO_113001 := n1_; have HO_113002 := n2_; have BK111 := n3_; have BK112 := n4_; have HB := n5_; clear n0_ n1_ n2_ n3_ n4_ n5_; (try clear hb); (try clear hb2); (try clear hk); (try clear hi); have hcz93_0 : w92.cell? ⟨gb111, 0, none⟩ = some (.slice none 0 0) := (blk_cell BK111.out 0).trans rfl; have hcz93_1 : w92.cell? ⟨gb111, 1, none⟩ = some (.slice none 0 0) := (blk_cell BK111.out 1).trans rfl; have hcz93_2 : w92.cell? ⟨gb111, 2, none⟩ = some (.slice none 0 0) := (blk_cell BK111.out 2).trans rfl; have hfz93_0 := blk_frozen BK111.out 0; have hfz93_1 := blk_frozen BK111.out 1; have hfz93_2 := blk_frozen BK111.out 2))
                                refine bodyPost_ret (results_ct rfl _ _ gb111 25 #[.slice none 0 0, .slice none 0 0, .slice none 0 0] (0, 0) _ rfl (by (with_reducible repeat (first | refine blk_drewN ?_ _ | refine blk_drew ?_ | refine blk_alloc ?_ _)); refine blk_put (cs := #[.slice none 0 0, .slice none 0 0, .slice none 0 0]) ?_ 2 _ rfl; (with_reducible repeat (first | refine blk_drewN ?_ _ | refine blk_drew ?_ | refine blk_alloc ?_ _)); refine blk_put (cs := #[.slice none 0 0, .slice none 0 0, .slice none 0 0]) ?_ 1 _ rfl; (with_reducible repeat (first | refine blk_drewN ?_ _ | refine blk_drew ?_ | refine blk_alloc ?_ _)); refine blk_put (cs := #[.slice none 0 0, .slice none 0 0, .slice none 0 0]) ?_ 0 _ rfl; (with_reducible repeat (first | refine blk_drewN ?_ _ | refine blk_drew ?_ | refine blk_alloc ?_ _)); exact BK111.out) Tryd.underlying25 rfl (by kernel_rfl)) rfl ?_
                                exact ⟨_, _, _, by first | rfl | (simp [errW_none, errW_some] <;> rfl) | (simp [*, errW_none, errW_some] <;> rfl), by first | exact Kd.R_nil _ _ _ _ _ | exact Kd.N_nil _ _ _ _ _ | exact Kd.V_nil _ _ _ _ _ | exact Kd.Q_nil _ _ _ _ _ | exact Kd.S_nil _ _ _ _ _, by first | exact Kd.R_nil _ _ _ _ _ | exact Kd.N_nil _ _ _ _ _ | exact Kd.V_nil _ _ _ _ _ | exact Kd.Q_nil _ _ _ _ _ | exact Kd.S_nil _ _ _ _ _, by first | exact Kd.R_nil _ _ _ _ _ | exact Kd.N_nil _ _ _ _ _ | exact Kd.V_nil _ _ _ _ _ | exact Kd.Q_nil _ _ _ _ _ | exact Kd.S_nil _ _ _ _ _, by repeat (first | (with_reducible first | exact HB.out | apply below_alloc | apply pw_below_drewN | apply below_drew1 | refine below_set ?_ GE111.out | refine below_set ?_ GE112.out) | exact HB.out)⟩
                · rw [if_neg c21] at H
                  have c21b0 : ((a0.size : Int) == x6_18) = false := beq_eq_false_iff_ne.mpr c21
                  have c21b1 : ((a0.size : Int) != x6_18) = true := bne_iff_ne.mpr c21
                  simp only [Option.some.injEq, Prod.mk.injEq] at H
                  obtain ⟨rfl, rfl, rfl, rfl⟩ := H
                  have hnb94 := NB112_111.out
                  have hnc94 := NB111_112.out
                  have hcz95_0 : wc.cell? ⟨gb112, 0, none⟩ = some (.slice none 0 0) := (blk_cell BK112.out 0).trans rfl
                  have hcz95_1 : wc.cell? ⟨gb112, 1, none⟩ = some (.slice none 0 0) := (blk_cell BK112.out 1).trans rfl
                  have hcz95_2 : wc.cell? ⟨gb112, 2, none⟩ = some (.slice none 0 0) := (blk_cell BK112.out 2).trans rfl
                  have hfz95_0 := blk_frozen BK112.out 0
                  have hfz95_1 := blk_frozen BK112.out 1
                  have hfz95_2 := blk_frozen BK112.out 2
                  have hcz96_0 : wc.cell? ⟨gb111, 0, none⟩ = some (.slice none 0 0) := (blk_cell BK111.out 0).trans rfl
                  have hcz96_1 : wc.cell? ⟨gb111, 1, none⟩ = some (.slice none 0 0) := (blk_cell BK111.out 1).trans rfl
                  have hcz96_2 : wc.cell? ⟨gb111, 2, none⟩ = some (.slice none 0 0) := (blk_cell BK111.out 2).trans rfl
                  have hfz96_0 := blk_frozen BK111.out 0
                  have hfz96_1 := blk_frozen BK111.out 1
                  have hfz96_2 := blk_frozen BK111.out 2
                  go_wp2
                  refine bodyPost_ret (results_ct rfl _ _ gb111 25 #[.slice none 0 0, .slice none 0 0, .slice none 0 0] (0, 0) _ rfl (by (with_reducible repeat (first | refine blk_drewN ?_ _ | refine blk_drew ?_ | refine blk_alloc ?_ _)); refine blk_put (cs := #[.slice none 0 0, .slice none 0 0, .slice none 0 0]) ?_ 2 _ rfl; (with_reducible repeat (first | refine blk_drewN ?_ _ | refine blk_drew ?_ | refine blk_alloc ?_ _)); refine blk_put (cs := #[.slice none 0 0, .slice none 0 0, .slice none 0 0]) ?_ 1 _ rfl; (with_reducible repeat (first | refine blk_drewN ?_ _ | refine blk_drew ?_ | refine blk_alloc ?_ _)); refine blk_put (cs := #[.slice none 0 0, .slice none 0 0, .slice none 0 0]) ?_ 0 _ rfl; (with_reducible repeat (first | refine blk_drewN ?_ _ | refine blk_drew ?_ | refine blk_alloc ?_ _)); exact BK111.out) Tryd.underlying25 rfl (by kernel_rfl)) rfl ?_
                  exact ⟨_, _, _, by first | rfl | (simp [errW_none, errW_some] <;> rfl) | (simp [*, errW_none, errW_some] <;> rfl), by first | exact Kd.R_nil _ _ _ _ _ | exact Kd.N_nil _ _ _ _ _ | exact Kd.V_nil _ _ _ _ _ | exact Kd.Q_nil _ _ _ _ _ | exact Kd.S_nil _ _ _ _ _, by first | exact Kd.R_nil _ _ _ _ _ | exact Kd.N_nil _ _ _ _ _ | exact Kd.V_nil _ _ _ _ _ | exact Kd.Q_nil _ _ _ _ _ | exact Kd.S_nil _ _ _ _ _, by first | exact Kd.R_nil _ _ _ _ _ | exact Kd.N_nil _ _ _ _ _ | exact Kd.V_nil _ _ _ _ _ | exact Kd.Q_nil _ _ _ _ _ | exact Kd.S_nil _ _ _ _ _, by repeat (first | (with_reducible first | exact HB.out | apply below_alloc | apply pw_below_drewN | apply below_drew1 | refine below_set ?_ GE111.out | refine below_set ?_ GE112.out) | exact HB.out)⟩
          · rw [if_neg c17] at H
            exact absurd H (by simp)
        · rw [if_neg c15] at H
          exact absurd H (by simp)

end Go.Proofs.YtbiijkpffllimaaDoor.PRead
