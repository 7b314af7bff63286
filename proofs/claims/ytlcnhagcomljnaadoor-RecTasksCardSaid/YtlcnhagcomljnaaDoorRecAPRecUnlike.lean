/- rec: LayTask and LayRobot by their contracts. -/
import Derived.Test.YtlcnhagcomljnaaDoorRecQPRecUnlike
import Derived.Test.YtlcnhagcomljnaaDoorKPackCPRecUnlike
import Derived.StillTailTactics
import Derived.Deep.WholeRow
import Derived.IntWalk
import Derived.Deep.RegionHeld3
namespace Go.Proofs.YtlcnhagcomljnaaDoor
open Go.RowKit Go.Extern.Stop Go.Stop Go.Extern Go.Proofs.YtlcnhagcomljnaaDoorW.PrintWords Go.Proofs.YtlcnhagcomljnaaDoorW.PrintLast Go.Proofs.YtlcnhagcomljnaaDoorW.PrintMore Go.Proofs.YtlcnhagcomljnaaDoor.PRecUnlike
set_option linter.unusedVariables false
set_option linter.unusedSimpArgs false

theorem kd_mk {α : Type} (enc : α → Value) (h1 : ∀ x, (enc x).oneCell' = true) {w : World} {b o : Nat} {l : List α} (hm : l.length ≤ 9223372036854775807) (h : ∀ j x, l[j]? = some x → w.cell? ⟨b, o + j, none⟩ = some (enc x)) : (Kd.scalar enc h1).C w (some ⟨b, o, none⟩) l.length l := by
  refine ⟨rfl, hm, fun hn => ⟨_, rfl, fun j p hj => ⟨[enc p], rfl, rfl, fun i u hu => ?_⟩⟩⟩
  have h2 := h j p hj
  cases i with
  | zero =>
    have : enc p = u := by simpa using hu
    subst this
    have e1 : (Kd.scalar enc h1).sz = 1 := rfl
    rw [e1, Go.WideShapes.add_plain]
    simpa using h2
  | succ i => simp at hu
/-- a literal of ints, of bools, that was laid last -/
theorem ints_lit (l : List Int) (W : World) (t : TypeId) (hm : l.length ≤ 9223372036854775807) : Ints (W.alloc (.cells (l.map (Value.int .i64)).toArray t)) (some ⟨W.heap.size, 0, none⟩) l l.length := by
  refine ⟨kd_mk (Value.int .i64) (fun _ => rfl) hm fun j x hj => ?_, Nat.le_refl _⟩
  rw [Nat.zero_add, cell_of_row _ _ j _ t (0, 0) (heap_alloc_last W _)]
  simp [hj]
theorem bools_lit (l : List Bool) (W : World) (t : TypeId) (hm : l.length ≤ 9223372036854775807) : Kd.C Kd.bool (W.alloc (.cells (l.map Value.bool).toArray t)) (some ⟨W.heap.size, 0, none⟩) l.length l := by
  refine kd_mk Value.bool (fun _ => rfl) hm fun j x hj => ?_
  rw [Nat.zero_add, cell_of_row _ _ j _ t (0, 0) (heap_alloc_last W _)]
  simp [hj]
theorem in_q (a b c : Int) (r : Bool) (hr : decide (b ≤ a ∧ a ≤ c) = r) (W : World) : Calls Tryd.prog 45 #[.int .i64 a, .int .i64 b, .int .i64 c] W fun e w' => e = .returned (.bool r) ∧ w' = W := by
  subst hr
  by_cases h1 : b ≤ a
  · have d1 : decide (b ≤ a) = true := decide_eq_true h1
    by_cases h2 : a ≤ c
    · have d2 : decide (a ≤ c) = true := decide_eq_true h2
      go_enter Tryd.func45, Tryd.ntmps45
      go_wp2_with fail
      go_ret
      exact ⟨by simp [h1, h2], rfl⟩
    · have d2 : decide (a ≤ c) = false := decide_eq_false h2
      go_enter Tryd.func45, Tryd.ntmps45
      go_wp2_with fail
      go_ret
      exact ⟨by simp [h1, h2], rfl⟩
  · have d1 : decide (b ≤ a) = false := decide_eq_false h1
    go_enter Tryd.func45, Tryd.ntmps45
    go_wp2_with fail
    go_ret
    exact ⟨by simp [h1], rfl⟩
theorem all3 (a b c : Bool) : rec_all.f 4 [a, b, c] = some (a && b && c) := by
  cases a <;> cases b <;> cases c <;> kernel_rfl
theorem all5 (a b c d e : Bool) : rec_all.f 6 [a, b, c, d, e] = some (a && b && c && d && e) := by
  cases a <;> cases b <;> cases c <;> cases d <;> cases e <;> kernel_rfl
theorem all3_any (a b c r : Bool) (hr : (a && b && c) = r) (W : World) (t : TypeId) : Calls Tryd.prog 44 #[.slice (some ⟨W.heap.size, 0, none⟩) 3 3] (W.alloc (.cells #[.bool a, .bool b, .bool c] t)) fun e w' => e = .returned (.bool r) ∧ Below (W.alloc (.cells #[.bool a, .bool b, .bool c] t)).heap.size (W.alloc (.cells #[.bool a, .bool b, .bool c] t)) w' :=
  (rec_all.calls 4 _ 3 [a, b, c] r _ (bools_lit [a, b, c] W t (by simp)) (by simp) (by rw [all3, hr])).mono fun _ _ ⟨he, hd⟩ => ⟨he, hd.below⟩
theorem all5_any (a b c d e r : Bool) (hr : (a && b && c && d && e) = r) (W : World) (t : TypeId) : Calls Tryd.prog 44 #[.slice (some ⟨W.heap.size, 0, none⟩) 5 5] (W.alloc (.cells #[.bool a, .bool b, .bool c, .bool d, .bool e] t)) fun x w' => x = .returned (.bool r) ∧ Below (W.alloc (.cells #[.bool a, .bool b, .bool c, .bool d, .bool e] t)).heap.size (W.alloc (.cells #[.bool a, .bool b, .bool c, .bool d, .bool e] t)) w' :=
  (rec_all.calls 6 _ 5 [a, b, c, d, e] r _ (bools_lit [a, b, c, d, e] W t (by simp)) (by simp) (by rw [all5, hr])).mono fun _ _ ⟨he, hd⟩ => ⟨he, hd.below⟩
theorem twid_any (W : World) : Calls Tryd.prog 53 #[] W fun e w' => ∃ A c, e = .returned (.slice A 6 c) ∧ Ints w' A twid c ∧ Below W.heap.size W w' :=
  (rec_taskWidths.calls twid W rfl).mono fun e w' ⟨v, he, hR, hb⟩ => by
    obtain ⟨A, c, rfl, h1, h2⟩ := Kd.R_reads hR
    exact ⟨A, c, he, ⟨h2, h1⟩, hb⟩
theorem rwid_any (W : World) : Calls Tryd.prog 48 #[] W fun e w' => ∃ A c, e = .returned (.slice A 7 c) ∧ Ints w' A rwid c ∧ Below W.heap.size W w' :=
  (rec_robotWidths.calls rwid W rfl).mono fun e w' ⟨v, he, hR, hb⟩ => by
    obtain ⟨A, c, rfl, h1, h2⟩ := Kd.R_reads hR
    exact ⟨A, c, he, ⟨h2, h1⟩, hb⟩
theorem Fields_ok (A B : Option Addr) (ws ns : List Int) (n m c d : Nat) (s : ByteArray) (W : World) (h : Ints W A ws c) (h2 : Ints W B ns d) (hn : ws.length = n) (hm : ns.length = m) (hz : fieldsC ws ns = 0) (hs : fieldsB ws ns = s) :
    Calls Tryd.prog 47 #[.slice A n c, .slice B m d] W fun e w' => e = .returned (.tuple #[.string s, .nilIface]) ∧ Below W.heap.size W w' := by
  subst hn hm hs
  refine (Fields_any A B ws ns c d W h h2).mono ?_
  rintro e w' ⟨v, rfl, he, hb⟩
  rw [hz] at he
  rw [he.zero]
  exact ⟨rfl, hb⟩
theorem Fields_no (A B : Option Addr) (ws ns : List Int) (n m c d : Nat) (W : World) (h : Ints W A ws c) (h2 : Ints W B ns d) (hn : ws.length = n) (hm : ns.length = m) (hz : fieldsC ws ns ≠ 0) :
    Calls Tryd.prog 47 #[.slice A n c, .slice B m d] W fun e w' => ∃ t x, e = .returned (.tuple #[.string ⟨#[]⟩, .iface t x]) ∧ Below W.heap.size W w' := by
  subst hn hm
  refine (Fields_any A B ws ns c d W h h2).mono ?_
  rintro e w' ⟨v, rfl, he, hb⟩
  obtain ⟨t, x, rfl⟩ := he.iface hz
  have e0 : fieldsB ws ns = ⟨#[]⟩ := by unfold fieldsB; rw [if_neg hz]
  rw [e0]
  exact ⟨t, x, rfl, hb⟩
theorem size_err (W : World) : Calls Tryd.prog 46 #[] W fun e w' => ∃ v, e = .returned v ∧ ErrC W.heap.size w' v 8 ∧ Below W.heap.size W w' := by
  go_enter Tryd.func46, Tryd.ntmps46
  go_wp2_with fail
  refine (Tag_err _ 8 _).mono ?_
  rintro e w1 ⟨v, rfl, he, hb⟩
  have HE := Lib.hid he
  have HB := Lib.hid hb
  clear he hb
  go_wp2_with fail
  go_ret
  exact ⟨_, rfl, HE.out, HB.out⟩
def LayPost (W : World) (e : Ending) (w' : World) : Prop := ∃ v, e = .returned (.tuple #[.string ⟨#[]⟩, v]) ∧ ErrC W.heap.size w' v 8 ∧ Below W.heap.size W w'
set_option maxHeartbeats 400000 in
set_option maxRecDepth 100000 in
theorem task_no_ (f t s : Int) (b1 : {x : Bool // decide (0 ≤ f ∧ f ≤ 63) = x}) (b2 : {x : Bool // decide (0 ≤ t ∧ t ≤ 63) = x}) (b3 : {x : Bool // decide (0 ≤ s ∧ s ≤ 3) = x}) (hall : Hid ((b1.1 && b2.1 && b3.1) = false)) (w : World) : Calls Tryd.prog 20 #[.agg #[.int .i64 f, .int .i64 t, .int .i64 s]] w (LayPost w) := by
  have HB0 : Hid (Below w.heap.size w (w.alloc (.cells #[.int .i64 f, .int .i64 t, .int .i64 s] 43))) := Lib.hid ((Below.refl _ _).alloc (Nat.le_refl _) _)
  go_enter Tryd.func20, Tryd.ntmps20
  go_wp2_with fail
  obtain ⟨W0, hW0⟩ : ∃ W0, W0 = (w.alloc (.cells #[.int .i64 f, .int .i64 t, .int .i64 s] 43)) := ⟨_, rfl⟩
  have x0 : W0.drew.cell? ⟨w.heap.size, 0, none⟩ = some (.int .i64 f) := by rw [hW0]; simp [go_sem]
  have x1 : W0.drew.cell? ⟨w.heap.size, 1, none⟩ = some (.int .i64 t) := by rw [hW0]; simp [go_sem]
  have x2 : W0.drew.cell? ⟨w.heap.size, 2, none⟩ = some (.int .i64 s) := by rw [hW0]; simp [go_sem]
  have hb0 : Below w.heap.size w W0.drew := by rw [hW0]; exact HB0.out.trans (Below.drew (Below.refl _ _))
  have hz0 : w.heap.size < W0.drew.heap.size := by rw [hW0]; simp [World.drew]
  rw [← hW0]
  refine wp_region_still_tail 9 (by kernel_rfl) (by kernel_rfl) ?_
  rw [show ({ W0 with drawn := W0.drawn + 1 } : World) = W0.drew from rfl]
  obtain ⟨Wd, hWd⟩ : ∃ Wd, Wd = W0.drew := ⟨_, rfl⟩
  rw [← hWd] at x0 hb0 hz0 ⊢
  rw [← hWd] at x1
  rw [← hWd] at x2
  clear hWd hW0
  have HBd := Lib.hid hb0
  have D0 := Lib.hid x0
  have D1 := Lib.hid x1
  have D2 := Lib.hid x2
  clear hb0
  simp only [List.take_succ_cons, List.take_zero, List.drop_succ_cons, List.drop_zero]
  still_step
  still_step
  still_call (in_q f 0 63 b1.1 b1.2 _)
  still_step
  still_step
  still_call (in_q t 0 63 b2.1 b2.2 _)
  still_step
  still_step
  still_call (in_q s 0 3 b3.1 b3.2 _)
  refine wpStill_nil ?_
  go_wp2_with fail
  refine (all3_any b1.1 b2.1 b3.1 false hall.out _ _).mono ?_
  rintro e w1 ⟨rfl, hb⟩
  have HB1 := Lib.hid (show Below w.heap.size w w1 from HBd.out.trans ((Below.alloc (Below.refl _ _) (Nat.le_refl _) _).trans (hb.mono (by simp)) |>.mono HBd.out.size))
  clear hb
  go_wp2_with fail
  refine (size_err _).mono ?_
  rintro e w2 ⟨v, rfl, he, hb⟩
  have HE := Lib.hid he
  have HB2 := Lib.hid (bstep HB1.out hb)
  clear he hb
  go_wp2_with fail
  go_ret2
  exact ⟨v, rfl, HE.out.mono HB1.out.size, HB2.out⟩
set_option maxHeartbeats 800000 in
set_option maxRecDepth 100000 in
theorem task_ok_ (f t s : Int) (b1 : {x : Bool // decide (0 ≤ f ∧ f ≤ 63) = x}) (b2 : {x : Bool // decide (0 ≤ t ∧ t ≤ 63) = x}) (b3 : {x : Bool // decide (0 ≤ s ∧ s ≤ 3) = x}) (hall : Hid ((b1.1 && b2.1 && b3.1) = true)) (S : ByteArray) (hz : Hid (fieldsC twid [f, t, s, 0, 0, 0] = 0)) (hs : Hid (fieldsB twid [f, t, s, 0, 0, 0] = S)) (w : World) : Calls Tryd.prog 20 #[.agg #[.int .i64 f, .int .i64 t, .int .i64 s]] w fun e w' => e = .returned (.tuple #[.string S, .nilIface]) ∧ Below w.heap.size w w' := by
  have HB0 : Hid (Below w.heap.size w (w.alloc (.cells #[.int .i64 f, .int .i64 t, .int .i64 s] 43))) := Lib.hid ((Below.refl _ _).alloc (Nat.le_refl _) _)
  go_enter Tryd.func20, Tryd.ntmps20
  go_wp2_with fail
  obtain ⟨W0, hW0⟩ : ∃ W0, W0 = (w.alloc (.cells #[.int .i64 f, .int .i64 t, .int .i64 s] 43)) := ⟨_, rfl⟩
  have x0 : W0.drew.cell? ⟨w.heap.size, 0, none⟩ = some (.int .i64 f) := by rw [hW0]; simp [go_sem]
  have x1 : W0.drew.cell? ⟨w.heap.size, 1, none⟩ = some (.int .i64 t) := by rw [hW0]; simp [go_sem]
  have x2 : W0.drew.cell? ⟨w.heap.size, 2, none⟩ = some (.int .i64 s) := by rw [hW0]; simp [go_sem]
  have hb0 : Below w.heap.size w W0.drew := by rw [hW0]; exact HB0.out.trans (Below.drew (Below.refl _ _))
  have hz0 : w.heap.size < W0.drew.heap.size := by rw [hW0]; simp [World.drew]
  rw [← hW0]
  refine wp_region_still_tail 9 (by kernel_rfl) (by kernel_rfl) ?_
  rw [show ({ W0 with drawn := W0.drawn + 1 } : World) = W0.drew from rfl]
  obtain ⟨Wd, hWd⟩ : ∃ Wd, Wd = W0.drew := ⟨_, rfl⟩
  rw [← hWd] at x0 hb0 hz0 ⊢
  rw [← hWd] at x1
  rw [← hWd] at x2
  clear hWd hW0
  have HBd := Lib.hid hb0
  have D0 := Lib.hid x0
  have D1 := Lib.hid x1
  have D2 := Lib.hid x2
  clear hb0
  simp only [List.take_succ_cons, List.take_zero, List.drop_succ_cons, List.drop_zero]
  still_step
  still_step
  still_call (in_q f 0 63 b1.1 b1.2 _)
  still_step
  still_step
  still_call (in_q t 0 63 b2.1 b2.2 _)
  still_step
  still_step
  still_call (in_q s 0 3 b3.1 b3.2 _)
  refine wpStill_nil ?_
  go_wp2_with fail
  refine (all3_any b1.1 b2.1 b3.1 true hall.out _ _).mono ?_
  rintro e w1 ⟨rfl, hb⟩
  have HB1 := Lib.hid (show Below w.heap.size w w1 from HBd.out.trans ((Below.alloc (Below.refl _ _) (Nat.le_refl _) _).trans (hb.mono (by simp)) |>.mono HBd.out.size))
  have hbx : Below Wd.heap.size Wd w1 := (Below.alloc (Below.refl _ _) (Nat.le_refl _) _).trans (hb.mono (by simp))
  have x0 : w1.cell? ⟨w.heap.size, 0, none⟩ = some (.int .i64 f) := (hbx.cell hz0).trans D0.out
  have x1 : w1.cell? ⟨w.heap.size, 1, none⟩ = some (.int .i64 t) := (hbx.cell hz0).trans D1.out
  have x2 : w1.cell? ⟨w.heap.size, 2, none⟩ = some (.int .i64 s) := (hbx.cell hz0).trans D2.out
  clear hb hbx
  go_wp2_with fail
  have X0 := Lib.hid x0
  have X1 := Lib.hid x1
  have X2 := Lib.hid x2
  have HS := Lib.hid (show ∀ w', KF w1 w' → w'.cell? ⟨w.heap.size, 0, none⟩ = some (.int .i64 f) ∧ w'.cell? ⟨w.heap.size, 1, none⟩ = some (.int .i64 t) ∧ w'.cell? ⟨w.heap.size, 2, none⟩ = some (.int .i64 s) ∧ KF w1 w' from fun w' h => ⟨h.cell X0.out, h.cell X1.out, h.cell X2.out, h⟩)
  have HP := Lib.hid (show ∀ w', (w'.cell? ⟨w.heap.size, 0, none⟩ = some (.int .i64 f) ∧ w'.cell? ⟨w.heap.size, 1, none⟩ = some (.int .i64 t) ∧ w'.cell? ⟨w.heap.size, 2, none⟩ = some (.int .i64 s) ∧ KF w1 w') → KF w1 w' from fun w' h => h.2.2.2)
  clear x0 x1 x2
  go_region_held3 (fun w' => w'.cell? ⟨w.heap.size, 0, none⟩ = some (.int .i64 f) ∧ w'.cell? ⟨w.heap.size, 1, none⟩ = some (.int .i64 t) ∧ w'.cell? ⟨w.heap.size, 2, none⟩ = some (.int .i64 s) ∧ KF w1 w') ((refine HS.out _ ?_; first | assumption | exact KF.alloc (by assumption) _ | exact Below.drew (Below.refl _ _) | exact KF.alloc (Below.drew (Below.refl _ _)) _)) (first | (go_at_call 53; (with_reducible refine (twid_any _).mono ?_); rintro e wn ⟨A, cA, rfl, hi, hb⟩; have HI := Lib.hid hi; have HBn := Lib.hid hb; have hKn := KF.step (HP.out _ (by assumption)) hb; clear hi hb) | (go_at_call 47; (refine (Fields_ok _ _ twid [f, t, s, 0, 0, 0] 6 6 _ _ S _ (by first | exact HI.out | exact HI.out.below ((Below.refl _ _).alloc (Nat.le_refl _) _)) (by first | exact ints_lit [f, t, s, 0, 0, 0] _ _ (by simp) | exact ((ints_lit [f, t, s, 0, 0, 0] _ _ (by simp)).below (Below.drew (Below.refl _ _))).below HBn.out | exact (ints_lit [f, t, s, 0, 0, 0] _ _ (by simp)).below HBn.out | exact (ints_lit [f, t, s, 0, 0, 0] _ _ (by simp)).below (Below.drew (Below.refl _ _))) rfl rfl hz.out hs.out).mono ?_); rintro e wz ⟨rfl, hb⟩; have hKz := KF.step (HP.out _ (by assumption)) hb; clear hb))
  all_goals
    have HBz := Lib.hid (HB1.out.trans (hKz.mono HB1.out.size))
    clear hKz
    go_wp2_with fail
    go_ret2
    exact ⟨rfl, HBz.out⟩
set_option maxHeartbeats 400000 in
set_option maxRecDepth 100000 in
theorem robot_no_ (c h p t m g a : Int) (b1 : {x : Bool // decide (0 ≤ c ∧ c ≤ 63) = x}) (b2 : {x : Bool // decide (0 ≤ h ∧ h ≤ 200) = x}) (b3 : {x : Bool // decide (0 ≤ p ∧ p ≤ 4) = x}) (b4 : {x : Bool // decide ((-1) ≤ t ∧ t ≤ 19) = x}) (b5 : {x : Bool // decide ((-32768) ≤ a ∧ a ≤ 32767) = x}) (hall : Hid ((b1.1 && b2.1 && b3.1 && b4.1 && b5.1) = false)) (w : World) : Calls Tryd.prog 15 #[.agg #[.int .i64 c, .int .i64 h, .int .i64 p, .int .i64 t, .int .i64 m, .int .i64 g, .int .i64 a]] w (LayPost w) := by
  have HB0 : Hid (Below w.heap.size w (w.alloc (.cells #[.int .i64 c, .int .i64 h, .int .i64 p, .int .i64 t, .int .i64 m, .int .i64 g, .int .i64 a] 30))) := Lib.hid ((Below.refl _ _).alloc (Nat.le_refl _) _)
  go_enter Tryd.func15, Tryd.ntmps15
  go_wp2_with fail
  obtain ⟨W0, hW0⟩ : ∃ W0, W0 = (w.alloc (.cells #[.int .i64 c, .int .i64 h, .int .i64 p, .int .i64 t, .int .i64 m, .int .i64 g, .int .i64 a] 30)) := ⟨_, rfl⟩
  have x0 : W0.drew.cell? ⟨w.heap.size, 0, none⟩ = some (.int .i64 c) := by rw [hW0]; simp [go_sem]
  have x1 : W0.drew.cell? ⟨w.heap.size, 1, none⟩ = some (.int .i64 h) := by rw [hW0]; simp [go_sem]
  have x2 : W0.drew.cell? ⟨w.heap.size, 2, none⟩ = some (.int .i64 p) := by rw [hW0]; simp [go_sem]
  have x3 : W0.drew.cell? ⟨w.heap.size, 3, none⟩ = some (.int .i64 t) := by rw [hW0]; simp [go_sem]
  have x4 : W0.drew.cell? ⟨w.heap.size, 4, none⟩ = some (.int .i64 m) := by rw [hW0]; simp [go_sem]
  have x5 : W0.drew.cell? ⟨w.heap.size, 5, none⟩ = some (.int .i64 g) := by rw [hW0]; simp [go_sem]
  have x6 : W0.drew.cell? ⟨w.heap.size, 6, none⟩ = some (.int .i64 a) := by rw [hW0]; simp [go_sem]
  have hb0 : Below w.heap.size w W0.drew := by rw [hW0]; exact HB0.out.trans (Below.drew (Below.refl _ _))
  have hz0 : w.heap.size < W0.drew.heap.size := by rw [hW0]; simp [World.drew]
  rw [← hW0]
  refine wp_region_still_tail 15 (by kernel_rfl) (by kernel_rfl) ?_
  rw [show ({ W0 with drawn := W0.drawn + 1 } : World) = W0.drew from rfl]
  obtain ⟨Wd, hWd⟩ : ∃ Wd, Wd = W0.drew := ⟨_, rfl⟩
  rw [← hWd] at x0 hb0 hz0 ⊢
  rw [← hWd] at x1
  rw [← hWd] at x2
  rw [← hWd] at x3
  rw [← hWd] at x4
  rw [← hWd] at x5
  rw [← hWd] at x6
  clear hWd hW0
  have HBd := Lib.hid hb0
  have D0 := Lib.hid x0
  have D1 := Lib.hid x1
  have D2 := Lib.hid x2
  have D3 := Lib.hid x3
  have D4 := Lib.hid x4
  have D5 := Lib.hid x5
  have D6 := Lib.hid x6
  clear hb0
  simp only [List.take_succ_cons, List.take_zero, List.drop_succ_cons, List.drop_zero]
  still_step
  still_step
  still_call (in_q c 0 63 b1.1 b1.2 _)
  still_step
  still_step
  still_call (in_q h 0 200 b2.1 b2.2 _)
  still_step
  still_step
  still_call (in_q p 0 4 b3.1 b3.2 _)
  still_step
  still_step
  still_call (in_q t (-1) 19 b4.1 b4.2 _)
  still_step
  still_step
  still_call (in_q a (-32768) 32767 b5.1 b5.2 _)
  refine wpStill_nil ?_
  go_wp2_with fail
  refine (all5_any b1.1 b2.1 b3.1 b4.1 b5.1 false hall.out _ _).mono ?_
  rintro e w1 ⟨rfl, hb⟩
  have HB1 := Lib.hid (show Below w.heap.size w w1 from HBd.out.trans ((Below.alloc (Below.refl _ _) (Nat.le_refl _) _).trans (hb.mono (by simp)) |>.mono HBd.out.size))
  clear hb
  go_wp2_with fail
  refine (size_err _).mono ?_
  rintro e w2 ⟨v, rfl, he, hb⟩
  have HE := Lib.hid he
  have HB2 := Lib.hid (bstep HB1.out hb)
  clear he hb
  go_wp2_with fail
  go_ret2
  exact ⟨v, rfl, HE.out.mono HB1.out.size, HB2.out⟩
set_option maxHeartbeats 800000 in
set_option maxRecDepth 100000 in
theorem robot_ok_ (c h p t m g a : Int) (b1 : {x : Bool // decide (0 ≤ c ∧ c ≤ 63) = x}) (b2 : {x : Bool // decide (0 ≤ h ∧ h ≤ 200) = x}) (b3 : {x : Bool // decide (0 ≤ p ∧ p ≤ 4) = x}) (b4 : {x : Bool // decide ((-1) ≤ t ∧ t ≤ 19) = x}) (b5 : {x : Bool // decide ((-32768) ≤ a ∧ a ≤ 32767) = x}) (hall : Hid ((b1.1 && b2.1 && b3.1 && b4.1 && b5.1) = true)) (S : ByteArray) (hz : Hid (fieldsC rwid [c, h, p, IntKind.i64.wrap (t + 1), m, g, IntKind.i64.wrap (a + 32768)] = 0)) (hs : Hid (fieldsB rwid [c, h, p, IntKind.i64.wrap (t + 1), m, g, IntKind.i64.wrap (a + 32768)] = S)) (w : World) : Calls Tryd.prog 15 #[.agg #[.int .i64 c, .int .i64 h, .int .i64 p, .int .i64 t, .int .i64 m, .int .i64 g, .int .i64 a]] w fun e w' => e = .returned (.tuple #[.string S, .nilIface]) ∧ Below w.heap.size w w' := by
  have HB0 : Hid (Below w.heap.size w (w.alloc (.cells #[.int .i64 c, .int .i64 h, .int .i64 p, .int .i64 t, .int .i64 m, .int .i64 g, .int .i64 a] 30))) := Lib.hid ((Below.refl _ _).alloc (Nat.le_refl _) _)
  go_enter Tryd.func15, Tryd.ntmps15
  go_wp2_with fail
  obtain ⟨W0, hW0⟩ : ∃ W0, W0 = (w.alloc (.cells #[.int .i64 c, .int .i64 h, .int .i64 p, .int .i64 t, .int .i64 m, .int .i64 g, .int .i64 a] 30)) := ⟨_, rfl⟩
  have x0 : W0.drew.cell? ⟨w.heap.size, 0, none⟩ = some (.int .i64 c) := by rw [hW0]; simp [go_sem]
  have x1 : W0.drew.cell? ⟨w.heap.size, 1, none⟩ = some (.int .i64 h) := by rw [hW0]; simp [go_sem]
  have x2 : W0.drew.cell? ⟨w.heap.size, 2, none⟩ = some (.int .i64 p) := by rw [hW0]; simp [go_sem]
  have x3 : W0.drew.cell? ⟨w.heap.size, 3, none⟩ = some (.int .i64 t) := by rw [hW0]; simp [go_sem]
  have x4 : W0.drew.cell? ⟨w.heap.size, 4, none⟩ = some (.int .i64 m) := by rw [hW0]; simp [go_sem]
  have x5 : W0.drew.cell? ⟨w.heap.size, 5, none⟩ = some (.int .i64 g) := by rw [hW0]; simp [go_sem]
  have x6 : W0.drew.cell? ⟨w.heap.size, 6, none⟩ = some (.int .i64 a) := by rw [hW0]; simp [go_sem]
  have hb0 : Below w.heap.size w W0.drew := by rw [hW0]; exact HB0.out.trans (Below.drew (Below.refl _ _))
  have hz0 : w.heap.size < W0.drew.heap.size := by rw [hW0]; simp [World.drew]
  rw [← hW0]
  refine wp_region_still_tail 15 (by kernel_rfl) (by kernel_rfl) ?_
  rw [show ({ W0 with drawn := W0.drawn + 1 } : World) = W0.drew from rfl]
  obtain ⟨Wd, hWd⟩ : ∃ Wd, Wd = W0.drew := ⟨_, rfl⟩
  rw [← hWd] at x0 hb0 hz0 ⊢
  rw [← hWd] at x1
  rw [← hWd] at x2
  rw [← hWd] at x3
  rw [← hWd] at x4
  rw [← hWd] at x5
  rw [← hWd] at x6
  clear hWd hW0
  have HBd := Lib.hid hb0
  have D0 := Lib.hid x0
  have D1 := Lib.hid x1
  have D2 := Lib.hid x2
  have D3 := Lib.hid x3
  have D4 := Lib.hid x4
  have D5 := Lib.hid x5
  have D6 := Lib.hid x6
  clear hb0
  simp only [List.take_succ_cons, List.take_zero, List.drop_succ_cons, List.drop_zero]
  still_step
  still_step
  still_call (in_q c 0 63 b1.1 b1.2 _)
  still_step
  still_step
  still_call (in_q h 0 200 b2.1 b2.2 _)
  still_step
  still_step
  still_call (in_q p 0 4 b3.1 b3.2 _)
  still_step
  still_step
  still_call (in_q t (-1) 19 b4.1 b4.2 _)
  still_step
  still_step
  still_call (in_q a (-32768) 32767 b5.1 b5.2 _)
  refine wpStill_nil ?_
  go_wp2_with fail
  refine (all5_any b1.1 b2.1 b3.1 b4.1 b5.1 true hall.out _ _).mono ?_
  rintro e w1 ⟨rfl, hb⟩
  have HB1 := Lib.hid (show Below w.heap.size w w1 from HBd.out.trans ((Below.alloc (Below.refl _ _) (Nat.le_refl _) _).trans (hb.mono (by simp)) |>.mono HBd.out.size))
  have hbx : Below Wd.heap.size Wd w1 := (Below.alloc (Below.refl _ _) (Nat.le_refl _) _).trans (hb.mono (by simp))
  have x0 : w1.cell? ⟨w.heap.size, 0, none⟩ = some (.int .i64 c) := (hbx.cell hz0).trans D0.out
  have x1 : w1.cell? ⟨w.heap.size, 1, none⟩ = some (.int .i64 h) := (hbx.cell hz0).trans D1.out
  have x2 : w1.cell? ⟨w.heap.size, 2, none⟩ = some (.int .i64 p) := (hbx.cell hz0).trans D2.out
  have x3 : w1.cell? ⟨w.heap.size, 3, none⟩ = some (.int .i64 t) := (hbx.cell hz0).trans D3.out
  have x4 : w1.cell? ⟨w.heap.size, 4, none⟩ = some (.int .i64 m) := (hbx.cell hz0).trans D4.out
  have x5 : w1.cell? ⟨w.heap.size, 5, none⟩ = some (.int .i64 g) := (hbx.cell hz0).trans D5.out
  have x6 : w1.cell? ⟨w.heap.size, 6, none⟩ = some (.int .i64 a) := (hbx.cell hz0).trans D6.out
  clear hb hbx
  go_wp2_with fail
  have X0 := Lib.hid x0
  have X1 := Lib.hid x1
  have X2 := Lib.hid x2
  have X3 := Lib.hid x3
  have X4 := Lib.hid x4
  have X5 := Lib.hid x5
  have X6 := Lib.hid x6
  have HS := Lib.hid (show ∀ w', KF w1 w' → w'.cell? ⟨w.heap.size, 0, none⟩ = some (.int .i64 c) ∧ w'.cell? ⟨w.heap.size, 1, none⟩ = some (.int .i64 h) ∧ w'.cell? ⟨w.heap.size, 2, none⟩ = some (.int .i64 p) ∧ w'.cell? ⟨w.heap.size, 3, none⟩ = some (.int .i64 t) ∧ w'.cell? ⟨w.heap.size, 4, none⟩ = some (.int .i64 m) ∧ w'.cell? ⟨w.heap.size, 5, none⟩ = some (.int .i64 g) ∧ w'.cell? ⟨w.heap.size, 6, none⟩ = some (.int .i64 a) ∧ KF w1 w' from fun w' h => ⟨h.cell X0.out, h.cell X1.out, h.cell X2.out, h.cell X3.out, h.cell X4.out, h.cell X5.out, h.cell X6.out, h⟩)
  have HP := Lib.hid (show ∀ w', (w'.cell? ⟨w.heap.size, 0, none⟩ = some (.int .i64 c) ∧ w'.cell? ⟨w.heap.size, 1, none⟩ = some (.int .i64 h) ∧ w'.cell? ⟨w.heap.size, 2, none⟩ = some (.int .i64 p) ∧ w'.cell? ⟨w.heap.size, 3, none⟩ = some (.int .i64 t) ∧ w'.cell? ⟨w.heap.size, 4, none⟩ = some (.int .i64 m) ∧ w'.cell? ⟨w.heap.size, 5, none⟩ = some (.int .i64 g) ∧ w'.cell? ⟨w.heap.size, 6, none⟩ = some (.int .i64 a) ∧ KF w1 w') → KF w1 w' from fun w' h => h.2.2.2.2.2.2.2)
  clear x0 x1 x2 x3 x4 x5 x6
  go_region_held3 (fun w' => w'.cell? ⟨w.heap.size, 0, none⟩ = some (.int .i64 c) ∧ w'.cell? ⟨w.heap.size, 1, none⟩ = some (.int .i64 h) ∧ w'.cell? ⟨w.heap.size, 2, none⟩ = some (.int .i64 p) ∧ w'.cell? ⟨w.heap.size, 3, none⟩ = some (.int .i64 t) ∧ w'.cell? ⟨w.heap.size, 4, none⟩ = some (.int .i64 m) ∧ w'.cell? ⟨w.heap.size, 5, none⟩ = some (.int .i64 g) ∧ w'.cell? ⟨w.heap.size, 6, none⟩ = some (.int .i64 a) ∧ KF w1 w') ((refine HS.out _ ?_; first | assumption | exact KF.alloc (by assumption) _ | exact Below.drew (Below.refl _ _) | exact KF.alloc (Below.drew (Below.refl _ _)) _)) (first | (go_at_call 48; (with_reducible refine (rwid_any _).mono ?_); rintro e wn ⟨A, cA, rfl, hi, hb⟩; have HI := Lib.hid hi; have HBn := Lib.hid hb; have hKn := KF.step (HP.out _ (by assumption)) hb; clear hi hb) | (go_at_call 47; (refine (Fields_ok _ _ rwid [c, h, p, IntKind.i64.wrap (t + 1), m, g, IntKind.i64.wrap (a + 32768)] 7 7 _ _ S _ (by first | exact HI.out | exact HI.out.below ((Below.refl _ _).alloc (Nat.le_refl _) _)) (by first | exact ints_lit [c, h, p, IntKind.i64.wrap (t + 1), m, g, IntKind.i64.wrap (a + 32768)] _ _ (by simp) | exact ((ints_lit [c, h, p, IntKind.i64.wrap (t + 1), m, g, IntKind.i64.wrap (a + 32768)] _ _ (by simp)).below (Below.drew (Below.refl _ _))).below HBn.out | exact (ints_lit [c, h, p, IntKind.i64.wrap (t + 1), m, g, IntKind.i64.wrap (a + 32768)] _ _ (by simp)).below HBn.out | exact (ints_lit [c, h, p, IntKind.i64.wrap (t + 1), m, g, IntKind.i64.wrap (a + 32768)] _ _ (by simp)).below (Below.drew (Below.refl _ _))) rfl rfl hz.out hs.out).mono ?_); rintro e wz ⟨rfl, hb⟩; have hKz := KF.step (HP.out _ (by assumption)) hb; clear hb))
  all_goals
    have HBz := Lib.hid (HB1.out.trans (hKz.mono HB1.out.size))
    clear hKz
    go_wp2_with fail
    go_ret2
    exact ⟨rfl, HBz.out⟩
set_option maxHeartbeats 800000 in
set_option maxRecDepth 100000 in
theorem robot_big_ (c h p t m g a : Int) (b1 : {x : Bool // decide (0 ≤ c ∧ c ≤ 63) = x}) (b2 : {x : Bool // decide (0 ≤ h ∧ h ≤ 200) = x}) (b3 : {x : Bool // decide (0 ≤ p ∧ p ≤ 4) = x}) (b4 : {x : Bool // decide ((-1) ≤ t ∧ t ≤ 19) = x}) (b5 : {x : Bool // decide ((-32768) ≤ a ∧ a ≤ 32767) = x}) (hall : Hid ((b1.1 && b2.1 && b3.1 && b4.1 && b5.1) = true)) (S : ByteArray) (hz : Hid (fieldsC rwid [c, h, p, IntKind.i64.wrap (t + 1), m, g, IntKind.i64.wrap (a + 32768)] ≠ 0)) (w : World) : Calls Tryd.prog 15 #[.agg #[.int .i64 c, .int .i64 h, .int .i64 p, .int .i64 t, .int .i64 m, .int .i64 g, .int .i64 a]] w (LayPost w) := by
  have HB0 : Hid (Below w.heap.size w (w.alloc (.cells #[.int .i64 c, .int .i64 h, .int .i64 p, .int .i64 t, .int .i64 m, .int .i64 g, .int .i64 a] 30))) := Lib.hid ((Below.refl _ _).alloc (Nat.le_refl _) _)
  go_enter Tryd.func15, Tryd.ntmps15
  go_wp2_with fail
  obtain ⟨W0, hW0⟩ : ∃ W0, W0 = (w.alloc (.cells #[.int .i64 c, .int .i64 h, .int .i64 p, .int .i64 t, .int .i64 m, .int .i64 g, .int .i64 a] 30)) := ⟨_, rfl⟩
  have x0 : W0.drew.cell? ⟨w.heap.size, 0, none⟩ = some (.int .i64 c) := by rw [hW0]; simp [go_sem]
  have x1 : W0.drew.cell? ⟨w.heap.size, 1, none⟩ = some (.int .i64 h) := by rw [hW0]; simp [go_sem]
  have x2 : W0.drew.cell? ⟨w.heap.size, 2, none⟩ = some (.int .i64 p) := by rw [hW0]; simp [go_sem]
  have x3 : W0.drew.cell? ⟨w.heap.size, 3, none⟩ = some (.int .i64 t) := by rw [hW0]; simp [go_sem]
  have x4 : W0.drew.cell? ⟨w.heap.size, 4, none⟩ = some (.int .i64 m) := by rw [hW0]; simp [go_sem]
  have x5 : W0.drew.cell? ⟨w.heap.size, 5, none⟩ = some (.int .i64 g) := by rw [hW0]; simp [go_sem]
  have x6 : W0.drew.cell? ⟨w.heap.size, 6, none⟩ = some (.int .i64 a) := by rw [hW0]; simp [go_sem]
  have hb0 : Below w.heap.size w W0.drew := by rw [hW0]; exact HB0.out.trans (Below.drew (Below.refl _ _))
  have hz0 : w.heap.size < W0.drew.heap.size := by rw [hW0]; simp [World.drew]
  rw [← hW0]
  refine wp_region_still_tail 15 (by kernel_rfl) (by kernel_rfl) ?_
  rw [show ({ W0 with drawn := W0.drawn + 1 } : World) = W0.drew from rfl]
  obtain ⟨Wd, hWd⟩ : ∃ Wd, Wd = W0.drew := ⟨_, rfl⟩
  rw [← hWd] at x0 hb0 hz0 ⊢
  rw [← hWd] at x1
  rw [← hWd] at x2
  rw [← hWd] at x3
  rw [← hWd] at x4
  rw [← hWd] at x5
  rw [← hWd] at x6
  clear hWd hW0
  have HBd := Lib.hid hb0
  have D0 := Lib.hid x0
  have D1 := Lib.hid x1
  have D2 := Lib.hid x2
  have D3 := Lib.hid x3
  have D4 := Lib.hid x4
  have D5 := Lib.hid x5
  have D6 := Lib.hid x6
  clear hb0
  simp only [List.take_succ_cons, List.take_zero, List.drop_succ_cons, List.drop_zero]
  still_step
  still_step
  still_call (in_q c 0 63 b1.1 b1.2 _)
  still_step
  still_step
  still_call (in_q h 0 200 b2.1 b2.2 _)
  still_step
  still_step
  still_call (in_q p 0 4 b3.1 b3.2 _)
  still_step
  still_step
  still_call (in_q t (-1) 19 b4.1 b4.2 _)
  still_step
  still_step
  still_call (in_q a (-32768) 32767 b5.1 b5.2 _)
  refine wpStill_nil ?_
  go_wp2_with fail
  refine (all5_any b1.1 b2.1 b3.1 b4.1 b5.1 true hall.out _ _).mono ?_
  rintro e w1 ⟨rfl, hb⟩
  have HB1 := Lib.hid (show Below w.heap.size w w1 from HBd.out.trans ((Below.alloc (Below.refl _ _) (Nat.le_refl _) _).trans (hb.mono (by simp)) |>.mono HBd.out.size))
  have hbx : Below Wd.heap.size Wd w1 := (Below.alloc (Below.refl _ _) (Nat.le_refl _) _).trans (hb.mono (by simp))
  have x0 : w1.cell? ⟨w.heap.size, 0, none⟩ = some (.int .i64 c) := (hbx.cell hz0).trans D0.out
  have x1 : w1.cell? ⟨w.heap.size, 1, none⟩ = some (.int .i64 h) := (hbx.cell hz0).trans D1.out
  have x2 : w1.cell? ⟨w.heap.size, 2, none⟩ = some (.int .i64 p) := (hbx.cell hz0).trans D2.out
  have x3 : w1.cell? ⟨w.heap.size, 3, none⟩ = some (.int .i64 t) := (hbx.cell hz0).trans D3.out
  have x4 : w1.cell? ⟨w.heap.size, 4, none⟩ = some (.int .i64 m) := (hbx.cell hz0).trans D4.out
  have x5 : w1.cell? ⟨w.heap.size, 5, none⟩ = some (.int .i64 g) := (hbx.cell hz0).trans D5.out
  have x6 : w1.cell? ⟨w.heap.size, 6, none⟩ = some (.int .i64 a) := (hbx.cell hz0).trans D6.out
  clear hb hbx
  go_wp2_with fail
  have X0 := Lib.hid x0
  have X1 := Lib.hid x1
  have X2 := Lib.hid x2
  have X3 := Lib.hid x3
  have X4 := Lib.hid x4
  have X5 := Lib.hid x5
  have X6 := Lib.hid x6
  have HS := Lib.hid (show ∀ w', KF w1 w' → w'.cell? ⟨w.heap.size, 0, none⟩ = some (.int .i64 c) ∧ w'.cell? ⟨w.heap.size, 1, none⟩ = some (.int .i64 h) ∧ w'.cell? ⟨w.heap.size, 2, none⟩ = some (.int .i64 p) ∧ w'.cell? ⟨w.heap.size, 3, none⟩ = some (.int .i64 t) ∧ w'.cell? ⟨w.heap.size, 4, none⟩ = some (.int .i64 m) ∧ w'.cell? ⟨w.heap.size, 5, none⟩ = some (.int .i64 g) ∧ w'.cell? ⟨w.heap.size, 6, none⟩ = some (.int .i64 a) ∧ KF w1 w' from fun w' h => ⟨h.cell X0.out, h.cell X1.out, h.cell X2.out, h.cell X3.out, h.cell X4.out, h.cell X5.out, h.cell X6.out, h⟩)
  have HP := Lib.hid (show ∀ w', (w'.cell? ⟨w.heap.size, 0, none⟩ = some (.int .i64 c) ∧ w'.cell? ⟨w.heap.size, 1, none⟩ = some (.int .i64 h) ∧ w'.cell? ⟨w.heap.size, 2, none⟩ = some (.int .i64 p) ∧ w'.cell? ⟨w.heap.size, 3, none⟩ = some (.int .i64 t) ∧ w'.cell? ⟨w.heap.size, 4, none⟩ = some (.int .i64 m) ∧ w'.cell? ⟨w.heap.size, 5, none⟩ = some (.int .i64 g) ∧ w'.cell? ⟨w.heap.size, 6, none⟩ = some (.int .i64 a) ∧ KF w1 w') → KF w1 w' from fun w' h => h.2.2.2.2.2.2.2)
  clear x0 x1 x2 x3 x4 x5 x6
  go_region_held3 (fun w' => w'.cell? ⟨w.heap.size, 0, none⟩ = some (.int .i64 c) ∧ w'.cell? ⟨w.heap.size, 1, none⟩ = some (.int .i64 h) ∧ w'.cell? ⟨w.heap.size, 2, none⟩ = some (.int .i64 p) ∧ w'.cell? ⟨w.heap.size, 3, none⟩ = some (.int .i64 t) ∧ w'.cell? ⟨w.heap.size, 4, none⟩ = some (.int .i64 m) ∧ w'.cell? ⟨w.heap.size, 5, none⟩ = some (.int .i64 g) ∧ w'.cell? ⟨w.heap.size, 6, none⟩ = some (.int .i64 a) ∧ KF w1 w') ((refine HS.out _ ?_; first | assumption | exact KF.alloc (by assumption) _ | exact Below.drew (Below.refl _ _) | exact KF.alloc (Below.drew (Below.refl _ _)) _)) (first | (go_at_call 48; (with_reducible refine (rwid_any _).mono ?_); rintro e wn ⟨A, cA, rfl, hi, hb⟩; have HI := Lib.hid hi; have HBn := Lib.hid hb; have hKn := KF.step (HP.out _ (by assumption)) hb; clear hi hb) | (go_at_call 47; (refine (Fields_no _ _ rwid [c, h, p, IntKind.i64.wrap (t + 1), m, g, IntKind.i64.wrap (a + 32768)] 7 7 _ _ _ (by first | exact HI.out | exact HI.out.below ((Below.refl _ _).alloc (Nat.le_refl _) _)) (by first | exact ints_lit [c, h, p, IntKind.i64.wrap (t + 1), m, g, IntKind.i64.wrap (a + 32768)] _ _ (by simp) | exact ((ints_lit [c, h, p, IntKind.i64.wrap (t + 1), m, g, IntKind.i64.wrap (a + 32768)] _ _ (by simp)).below (Below.drew (Below.refl _ _))).below HBn.out | exact (ints_lit [c, h, p, IntKind.i64.wrap (t + 1), m, g, IntKind.i64.wrap (a + 32768)] _ _ (by simp)).below HBn.out | exact (ints_lit [c, h, p, IntKind.i64.wrap (t + 1), m, g, IntKind.i64.wrap (a + 32768)] _ _ (by simp)).below (Below.drew (Below.refl _ _))) rfl rfl hz.out).mono ?_); rintro e wz ⟨ty, xx, rfl, hb⟩; have hKz := KF.step (HP.out _ (by assumption)) hb; clear hb))
  all_goals
    have HBz := Lib.hid (HB1.out.trans (hKz.mono HB1.out.size))
    clear hKz
    go_wp2_with fail
    refine (size_err _).mono ?_
    rintro e w2 ⟨v, rfl, he, hb⟩
    have HE := Lib.hid he
    have HB2 := Lib.hid (bstep HBz.out hb)
    clear he hb
    go_wp2_with fail
    go_ret2
    exact ⟨v, rfl, HE.out.mono HBz.out.size, HB2.out⟩
end Go.Proofs.YtlcnhagcomljnaaDoor
