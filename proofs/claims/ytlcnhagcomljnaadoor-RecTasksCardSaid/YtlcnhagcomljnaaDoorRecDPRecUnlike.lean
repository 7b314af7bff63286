/- dynamolaw12: awake; RecUnlike: the walk. -/
import Derived.Test.YtlcnhagcomljnaaDoorRecCPRecUnlike
namespace Go.Proofs.YtlcnhagcomljnaaDoor
open Go.RowKit Go.Extern.Stop Go.Stop Go.Extern Go.Proofs.YtlcnhagcomljnaaDoorW.PrintWords Go.Proofs.YtlcnhagcomljnaaDoorW.PrintLast Go.Proofs.YtlcnhagcomljnaaDoorW.PrintMore Go.Proofs.YtlcnhagcomljnaaDoor.PRecUnlike
set_option linter.unusedVariables false
set_option linter.unusedSimpArgs false

theorem awake_lay : Tas.lay ⟨1, 2, 0⟩ = ⟨#[1, 2, 0, 0, 0, 0, 0, 0, 0, 0, 0, 0]⟩ := by kernel_rfl
theorem lay_awake (W : World) : Calls Tryd.prog 20 #[.agg #[.int .i64 1, .int .i64 2, .int .i64 0]] W fun e w' => e = .returned (.tuple #[.string ⟨#[1, 2, 0, 0, 0, 0, 0, 0, 0, 0, 0, 0]⟩, .nilIface]) ∧ Below W.heap.size W w' := by
  have h := lay_task_ok ⟨1, 2, 0⟩ (by decide) W
  rw [awake_lay] at h
  exact h
set_option maxRecDepth 100000 in
theorem rec_awake (w : World) : Calls Tryd.prog 13 #[] w fun e w' => e = .returned (.bool true) ∧ Below w.heap.size w w' := by
  go_enter Tryd.func13, Tryd.ntmps13
  go_wp2_with fail
  refine (lay_awake _).mono ?_
  rintro e w1 ⟨rfl, hb⟩
  have HB1 := Lib.hid hb
  clear hb
  go_wp2_with fail
  refine (Num_nil _).mono ?_
  rintro e _ ⟨rfl, rfl⟩
  go_wp2_with fail
  go_ret
  exact ⟨rfl, HB1.out⟩
theorem ite_b {p : Prop} [Decidable p] (b : Bool) : (if p then some b else some false) = some (decide p && b) := by by_cases h : p <;> simp [h]
theorem right_f (x : Rob) : dynamoref12_RightRobot.f x.c x.h x.p x.t x.m x.g x.a = some x.right := by
  unfold dynamoref12_RightRobot.f
  have e : x.right = decide (0 ≤ x.c ∧ x.c ≤ 63 ∧ 0 ≤ x.h ∧ x.h ≤ 200 ∧ 0 ≤ x.p ∧ x.p ≤ 4 ∧ -1 ≤ x.t ∧ x.t ≤ 19 ∧ 0 ≤ x.m ∧ x.m < 16777216 ∧ 0 ≤ x.g ∧ x.g < 16777216 ∧ -32768 ≤ x.a ∧ x.a ≤ 32767) := by
    rw [Bool.eq_iff_iff]
    simp only [Rob.right, Rob.in, decide_eq_true_eq]
    omega
  rw [e]
  simp only [ite_b, ← Bool.decide_and, ge_iff_le]
  first | done | (congr 1; first | done | (rw [decide_eq_decide]; omega))
theorem right_rob (x : Rob) (r : Bool) (hr : x.right = r) (W : World) : Calls Tryd.prog 14 #[.agg #[.int .i64 x.c, .int .i64 x.h, .int .i64 x.p, .int .i64 x.t, .int .i64 x.m, .int .i64 x.g, .int .i64 x.a]] W fun e w' => e = .returned (.bool r) ∧ Below W.heap.size W w' :=
  dynamoref12_RightRobot.calls _ _ _ _ _ _ _ r W (by rw [right_f, hr])
theorem of_rob (x : Rob) (W : World) : Calls Tryd.prog 16 #[.agg #[.int .i64 x.c, .int .i64 x.h, .int .i64 x.p, .int .i64 x.t, .int .i64 x.m, .int .i64 x.g, .int .i64 x.a]] W fun e w' => e = .returned (.agg #[.int .i64 x.c, .int .i64 x.h, .int .i64 x.p, .int .i64 x.t, .int .i64 x.m, .int .i64 x.g, .int .i64 x.a]) ∧ Below W.heap.size W w' :=
  dynamolaw12_OfRobot.calls _ _ _ _ _ _ _ _ _ _ _ _ _ _ W rfl
/-- a robot in a variable -/
structure RobAt (W : World) (b : Nat) (x : Rob) : Prop where
  c0 : W.cell? ⟨b, 0, none⟩ = some (.int .i64 x.c)
  c1 : W.cell? ⟨b, 1, none⟩ = some (.int .i64 x.h)
  c2 : W.cell? ⟨b, 2, none⟩ = some (.int .i64 x.p)
  c3 : W.cell? ⟨b, 3, none⟩ = some (.int .i64 x.t)
  c4 : W.cell? ⟨b, 4, none⟩ = some (.int .i64 x.m)
  c5 : W.cell? ⟨b, 5, none⟩ = some (.int .i64 x.g)
  c6 : W.cell? ⟨b, 6, none⟩ = some (.int .i64 x.a)
theorem RobAt.under {W W' : World} {b n : Nat} {x : Rob} (h : RobAt W b x) (hb : Below n W W') (hn : b < n) : RobAt W' b x :=
  ⟨(hb.cell hn).trans h.c0, (hb.cell hn).trans h.c1, (hb.cell hn).trans h.c2, (hb.cell hn).trans h.c3, (hb.cell hn).trans h.c4, (hb.cell hn).trans h.c5, (hb.cell hn).trans h.c6⟩
theorem RobAt.new (W : World) (x : Rob) (t : TypeId) : RobAt (W.alloc (.cells #[.int .i64 x.c, .int .i64 x.h, .int .i64 x.p, .int .i64 x.t, .int .i64 x.m, .int .i64 x.g, .int .i64 x.a] t)) W.heap.size x := by
  refine ⟨?_, ?_, ?_, ?_, ?_, ?_, ?_⟩ <;> (rw [cell_of_row _ _ _ _ t (0, 0) (heap_alloc_last W _)]; rfl)
/-- both robots' variables -/
structure Two (w W : World) (x y : Rob) : Prop where
  a : RobAt W w.heap.size x
  b : RobAt W (w.heap.size + 1) y
  l : w.heap.size + 1 < W.heap.size
  k : Below w.heap.size w W
theorem Two.under {w W W' : World} {x y : Rob} (h : Two w W x y) (hb : Below W.heap.size W W') : Two w W' x y :=
  ⟨h.a.under hb (by have := h.l; omega), h.b.under hb h.l, Nat.lt_of_lt_of_le h.l hb.size, h.k.trans (hb.mono h.k.size)⟩
theorem Two.new (w : World) (x y : Rob) (t u : TypeId) : Two w ((w.alloc (.cells #[.int .i64 x.c, .int .i64 x.h, .int .i64 x.p, .int .i64 x.t, .int .i64 x.m, .int .i64 x.g, .int .i64 x.a] t)).alloc (.cells #[.int .i64 y.c, .int .i64 y.h, .int .i64 y.p, .int .i64 y.t, .int .i64 y.m, .int .i64 y.g, .int .i64 y.a] u)) x y := by
  refine ⟨(RobAt.new w x t).under (n := (w.alloc (.cells #[.int .i64 x.c, .int .i64 x.h, .int .i64 x.p, .int .i64 x.t, .int .i64 x.m, .int .i64 x.g, .int .i64 x.a] t)).heap.size) ((Below.refl _ _).alloc (Nat.le_refl _) _) (by simp), ?_, by simp, ((Below.refl _ _).alloc (Nat.le_refl _) _).alloc (by simp) _⟩
  have h := RobAt.new (w.alloc (.cells #[.int .i64 x.c, .int .i64 x.h, .int .i64 x.p, .int .i64 x.t, .int .i64 x.m, .int .i64 x.g, .int .i64 x.a] t)) y u
  have e : (w.alloc (.cells #[.int .i64 x.c, .int .i64 x.h, .int .i64 x.p, .int .i64 x.t, .int .i64 x.m, .int .i64 x.g, .int .i64 x.a] t)).heap.size = w.heap.size + 1 := by simp
  rw [e] at h
  exact h
theorem lay_eq {a b : ByteArray} (h : a = b) : (a.toList == b.toList) = true := by rw [h]; exact beq_self_eq_true _
theorem lay_ne {a b : ByteArray} (h : a ≠ b) : (a.toList == b.toList) = false := by rw [beq_eq_false_iff_ne]; exact fun e => h (bytes_ext e)
set_option maxHeartbeats 2000000 in
set_option maxRecDepth 100000 in
theorem unlike_a (x y : Rob) (w : World) (hx : x.right = false) : Calls Tryd.prog 3 #[.agg #[.int .i64 x.c, .int .i64 x.h, .int .i64 x.p, .int .i64 x.t, .int .i64 x.m, .int .i64 x.g, .int .i64 x.a], .agg #[.int .i64 y.c, .int .i64 y.h, .int .i64 y.p, .int .i64 y.t, .int .i64 y.m, .int .i64 y.g, .int .i64 y.a]] w fun e w' => e = .returned (.bool true) ∧ Below w.heap.size w w' := by
  have HX := Lib.hid hx
  clear hx
  have HT0 := Lib.hid (Two.new w x y 23 23)
  go_enter Tryd.func3, Tryd.ntmps3
  go_wp2_with fail
  refine (rec_awake _).mono ?_
  rintro e w1 ⟨rfl, hb⟩
  have HT1 := Lib.hid (HT0.out.under hb)
  clear hb
  obtain ⟨x0, x1, x2, x3, x4, x5, x6⟩ := HT1.out.a
  obtain ⟨y0, y1, y2, y3, y4, y5, y6⟩ := HT1.out.b
  go_wp2_with fail
  refine (right_rob x false HX.out _).mono ?_
  rintro e w2 ⟨rfl, hb⟩
  have HT2 := Lib.hid (HT1.out.under hb)
  clear hb
  clear x0 x1 x2 x3 x4 x5 x6 y0 y1 y2 y3 y4 y5 y6
  obtain ⟨x0, x1, x2, x3, x4, x5, x6⟩ := HT2.out.a
  obtain ⟨y0, y1, y2, y3, y4, y5, y6⟩ := HT2.out.b
  go_wp2_with fail
  refine (rec_awake _).mono ?_
  rintro e w3 ⟨rfl, hb⟩
  have HT3 := Lib.hid (HT2.out.under hb)
  clear hb
  clear x0 x1 x2 x3 x4 x5 x6 y0 y1 y2 y3 y4 y5 y6
  obtain ⟨x0, x1, x2, x3, x4, x5, x6⟩ := HT3.out.a
  obtain ⟨y0, y1, y2, y3, y4, y5, y6⟩ := HT3.out.b
  go_wp2_with fail
  go_ret
  exact ⟨rfl, HT3.out.k⟩
set_option maxHeartbeats 2000000 in
set_option maxRecDepth 100000 in
theorem unlike_b (x y : Rob) (w : World) (hx : x.right = true) (hy : y.right = false) : Calls Tryd.prog 3 #[.agg #[.int .i64 x.c, .int .i64 x.h, .int .i64 x.p, .int .i64 x.t, .int .i64 x.m, .int .i64 x.g, .int .i64 x.a], .agg #[.int .i64 y.c, .int .i64 y.h, .int .i64 y.p, .int .i64 y.t, .int .i64 y.m, .int .i64 y.g, .int .i64 y.a]] w fun e w' => e = .returned (.bool true) ∧ Below w.heap.size w w' := by
  have HX := Lib.hid hx
  have HY := Lib.hid hy
  clear hx hy
  have HT0 := Lib.hid (Two.new w x y 23 23)
  go_enter Tryd.func3, Tryd.ntmps3
  go_wp2_with fail
  refine (rec_awake _).mono ?_
  rintro e w1 ⟨rfl, hb⟩
  have HT1 := Lib.hid (HT0.out.under hb)
  clear hb
  obtain ⟨x0, x1, x2, x3, x4, x5, x6⟩ := HT1.out.a
  obtain ⟨y0, y1, y2, y3, y4, y5, y6⟩ := HT1.out.b
  go_wp2_with fail
  refine (right_rob x true HX.out _).mono ?_
  rintro e w2 ⟨rfl, hb⟩
  have HT2 := Lib.hid (HT1.out.under hb)
  clear hb
  clear x0 x1 x2 x3 x4 x5 x6 y0 y1 y2 y3 y4 y5 y6
  obtain ⟨x0, x1, x2, x3, x4, x5, x6⟩ := HT2.out.a
  obtain ⟨y0, y1, y2, y3, y4, y5, y6⟩ := HT2.out.b
  go_wp2_with fail
  refine (right_rob y false HY.out _).mono ?_
  rintro e w3 ⟨rfl, hb⟩
  have HT3 := Lib.hid (HT2.out.under hb)
  clear hb
  clear x0 x1 x2 x3 x4 x5 x6 y0 y1 y2 y3 y4 y5 y6
  obtain ⟨x0, x1, x2, x3, x4, x5, x6⟩ := HT3.out.a
  obtain ⟨y0, y1, y2, y3, y4, y5, y6⟩ := HT3.out.b
  go_wp2_with fail
  refine (rec_awake _).mono ?_
  rintro e w4 ⟨rfl, hb⟩
  have HT4 := Lib.hid (HT3.out.under hb)
  clear hb
  clear x0 x1 x2 x3 x4 x5 x6 y0 y1 y2 y3 y4 y5 y6
  obtain ⟨x0, x1, x2, x3, x4, x5, x6⟩ := HT4.out.a
  obtain ⟨y0, y1, y2, y3, y4, y5, y6⟩ := HT4.out.b
  go_wp2_with fail
  go_ret
  exact ⟨rfl, HT4.out.k⟩
set_option maxHeartbeats 2000000 in
set_option maxRecDepth 100000 in
theorem unlike_same (x : Rob) (w : World) (hx : x.right = true)  : Calls Tryd.prog 3 #[.agg #[.int .i64 x.c, .int .i64 x.h, .int .i64 x.p, .int .i64 x.t, .int .i64 x.m, .int .i64 x.g, .int .i64 x.a], .agg #[.int .i64 x.c, .int .i64 x.h, .int .i64 x.p, .int .i64 x.t, .int .i64 x.m, .int .i64 x.g, .int .i64 x.a]] w fun e w' => e = .returned (.bool true) ∧ Below w.heap.size w w' := by
  have HX := Lib.hid hx
  clear hx
  have HT0 := Lib.hid (Two.new w x x 23 23)
  go_enter Tryd.func3, Tryd.ntmps3
  go_wp2_with fail
  refine (rec_awake _).mono ?_
  rintro e w1 ⟨rfl, hb⟩
  have HT1 := Lib.hid (HT0.out.under hb)
  clear hb
  obtain ⟨x0, x1, x2, x3, x4, x5, x6⟩ := HT1.out.a
  obtain ⟨y0, y1, y2, y3, y4, y5, y6⟩ := HT1.out.b
  go_wp2_with fail
  refine (right_rob x true HX.out _).mono ?_
  rintro e w2 ⟨rfl, hb⟩
  have HT2 := Lib.hid (HT1.out.under hb)
  clear hb
  clear x0 x1 x2 x3 x4 x5 x6 y0 y1 y2 y3 y4 y5 y6
  obtain ⟨x0, x1, x2, x3, x4, x5, x6⟩ := HT2.out.a
  obtain ⟨y0, y1, y2, y3, y4, y5, y6⟩ := HT2.out.b
  go_wp2_with fail
  refine (right_rob x true HX.out _).mono ?_
  rintro e w3 ⟨rfl, hb⟩
  have HT3 := Lib.hid (HT2.out.under hb)
  clear hb
  clear x0 x1 x2 x3 x4 x5 x6 y0 y1 y2 y3 y4 y5 y6
  obtain ⟨x0, x1, x2, x3, x4, x5, x6⟩ := HT3.out.a
  obtain ⟨y0, y1, y2, y3, y4, y5, y6⟩ := HT3.out.b
  go_wp2_with fail
  refine (of_rob x _).mono ?_
  rintro e w4 ⟨rfl, hb⟩
  have HT4 := Lib.hid (HT3.out.under hb)
  clear hb
  clear x0 x1 x2 x3 x4 x5 x6 y0 y1 y2 y3 y4 y5 y6
  obtain ⟨x0, x1, x2, x3, x4, x5, x6⟩ := HT4.out.a
  obtain ⟨y0, y1, y2, y3, y4, y5, y6⟩ := HT4.out.b
  go_wp2_with fail
  refine ((Lib.hid (lay_rob_ok x HX.out)).out _).mono ?_
  rintro e w5 ⟨rfl, hb⟩
  have HT5 := Lib.hid (HT4.out.under hb)
  clear hb
  clear x0 x1 x2 x3 x4 x5 x6 y0 y1 y2 y3 y4 y5 y6
  obtain ⟨x0, x1, x2, x3, x4, x5, x6⟩ := HT5.out.a
  obtain ⟨y0, y1, y2, y3, y4, y5, y6⟩ := HT5.out.b
  go_wp2_with fail
  refine (of_rob x _).mono ?_
  rintro e w6 ⟨rfl, hb⟩
  have HT6 := Lib.hid (HT5.out.under hb)
  clear hb
  clear x0 x1 x2 x3 x4 x5 x6 y0 y1 y2 y3 y4 y5 y6
  obtain ⟨x0, x1, x2, x3, x4, x5, x6⟩ := HT6.out.a
  obtain ⟨y0, y1, y2, y3, y4, y5, y6⟩ := HT6.out.b
  go_wp2_with fail
  refine ((Lib.hid (lay_rob_ok x HX.out)).out _).mono ?_
  rintro e w7 ⟨rfl, hb⟩
  have HT7 := Lib.hid (HT6.out.under hb)
  clear hb
  clear x0 x1 x2 x3 x4 x5 x6 y0 y1 y2 y3 y4 y5 y6
  obtain ⟨x0, x1, x2, x3, x4, x5, x6⟩ := HT7.out.a
  obtain ⟨y0, y1, y2, y3, y4, y5, y6⟩ := HT7.out.b
  go_wp2_with fail
  refine (Num_nil _).mono ?_
  rintro e _ ⟨rfl, rfl⟩
  go_wp2_with fail
  refine (Num_nil _).mono ?_
  rintro e _ ⟨rfl, rfl⟩
  go_wp2_with fail
  go_ret
  exact ⟨rfl, HT7.out.k⟩
set_option maxHeartbeats 2000000 in
set_option maxRecDepth 100000 in
theorem unlike_else (x y : Rob) (w : World) (hx : x.right = true) (hy : y.right = true) (he : x ≠ y) : Calls Tryd.prog 3 #[.agg #[.int .i64 x.c, .int .i64 x.h, .int .i64 x.p, .int .i64 x.t, .int .i64 x.m, .int .i64 x.g, .int .i64 x.a], .agg #[.int .i64 y.c, .int .i64 y.h, .int .i64 y.p, .int .i64 y.t, .int .i64 y.m, .int .i64 y.g, .int .i64 y.a]] w fun e w' => e = .returned (.bool true) ∧ Below w.heap.size w w' := by
  have HX := Lib.hid hx
  have HY := Lib.hid hy
  have hl : (x.lay.toList == y.lay.toList) = false := lay_ne (fun e => he ((rob_unlike x y hx hy).1 e))
  have HE := Lib.hid he
  clear hx hy he
  have HT0 := Lib.hid (Two.new w x y 23 23)
  go_enter Tryd.func3, Tryd.ntmps3
  go_wp2_with fail
  refine (rec_awake _).mono ?_
  rintro e w1 ⟨rfl, hb⟩
  have HT1 := Lib.hid (HT0.out.under hb)
  clear hb
  obtain ⟨x0, x1, x2, x3, x4, x5, x6⟩ := HT1.out.a
  obtain ⟨y0, y1, y2, y3, y4, y5, y6⟩ := HT1.out.b
  go_wp2_with fail
  refine (right_rob x true HX.out _).mono ?_
  rintro e w2 ⟨rfl, hb⟩
  have HT2 := Lib.hid (HT1.out.under hb)
  clear hb
  clear x0 x1 x2 x3 x4 x5 x6 y0 y1 y2 y3 y4 y5 y6
  obtain ⟨x0, x1, x2, x3, x4, x5, x6⟩ := HT2.out.a
  obtain ⟨y0, y1, y2, y3, y4, y5, y6⟩ := HT2.out.b
  go_wp2_with fail
  refine (right_rob y true HY.out _).mono ?_
  rintro e w3 ⟨rfl, hb⟩
  have HT3 := Lib.hid (HT2.out.under hb)
  clear hb
  clear x0 x1 x2 x3 x4 x5 x6 y0 y1 y2 y3 y4 y5 y6
  obtain ⟨x0, x1, x2, x3, x4, x5, x6⟩ := HT3.out.a
  obtain ⟨y0, y1, y2, y3, y4, y5, y6⟩ := HT3.out.b
  go_wp2_with fail
  refine (of_rob x _).mono ?_
  rintro e w4 ⟨rfl, hb⟩
  have HT4 := Lib.hid (HT3.out.under hb)
  clear hb
  clear x0 x1 x2 x3 x4 x5 x6 y0 y1 y2 y3 y4 y5 y6
  obtain ⟨x0, x1, x2, x3, x4, x5, x6⟩ := HT4.out.a
  obtain ⟨y0, y1, y2, y3, y4, y5, y6⟩ := HT4.out.b
  go_wp2_with fail
  refine ((Lib.hid (lay_rob_ok x HX.out)).out _).mono ?_
  rintro e w5 ⟨rfl, hb⟩
  have HT5 := Lib.hid (HT4.out.under hb)
  clear hb
  clear x0 x1 x2 x3 x4 x5 x6 y0 y1 y2 y3 y4 y5 y6
  obtain ⟨x0, x1, x2, x3, x4, x5, x6⟩ := HT5.out.a
  obtain ⟨y0, y1, y2, y3, y4, y5, y6⟩ := HT5.out.b
  go_wp2_with fail
  refine (of_rob y _).mono ?_
  rintro e w6 ⟨rfl, hb⟩
  have HT6 := Lib.hid (HT5.out.under hb)
  clear hb
  clear x0 x1 x2 x3 x4 x5 x6 y0 y1 y2 y3 y4 y5 y6
  obtain ⟨x0, x1, x2, x3, x4, x5, x6⟩ := HT6.out.a
  obtain ⟨y0, y1, y2, y3, y4, y5, y6⟩ := HT6.out.b
  go_wp2_with fail
  refine ((Lib.hid (lay_rob_ok y HY.out)).out _).mono ?_
  rintro e w7 ⟨rfl, hb⟩
  have HT7 := Lib.hid (HT6.out.under hb)
  clear hb
  clear x0 x1 x2 x3 x4 x5 x6 y0 y1 y2 y3 y4 y5 y6
  obtain ⟨x0, x1, x2, x3, x4, x5, x6⟩ := HT7.out.a
  obtain ⟨y0, y1, y2, y3, y4, y5, y6⟩ := HT7.out.b
  go_wp2_with fail
  refine (Num_nil _).mono ?_
  rintro e _ ⟨rfl, rfl⟩
  go_wp2_with fail
  refine (Num_nil _).mono ?_
  rintro e _ ⟨rfl, rfl⟩
  go_wp2_with fail
  all_goals first
    | (go_ret; exact ⟨rfl, HT7.out.k⟩)
    | (exfalso; refine HE.out ?_; cases x; cases y; simp_all)
theorem unlike_walk (x y : Rob) (w : World) (tied : Tied w) : Calls Tryd.prog 3 #[.agg #[.int .i64 x.c, .int .i64 x.h, .int .i64 x.p, .int .i64 x.t, .int .i64 x.m, .int .i64 x.g, .int .i64 x.a], .agg #[.int .i64 y.c, .int .i64 y.h, .int .i64 y.p, .int .i64 y.t, .int .i64 y.m, .int .i64 y.g, .int .i64 y.a]] w fun e w' => e = .returned (.bool true) ∧ Below w.heap.size w w' := by
  cases hx : x.right with
  | false => exact unlike_a x y w hx
  | true =>
    cases hy : y.right with
    | false => exact unlike_b x y w hx hy
    | true =>
      by_cases he : x = y
      · subst he; exact unlike_same x w hx
      · exact unlike_else x y w hx hy he
end Go.Proofs.YtlcnhagcomljnaaDoor
