/- dynamolaw12.RecRobots: the walk. -/
import Derived.Test.YtlcnhagcomljnaaDoorRecFPRecUnlike
import Derived.Test.YtlcnhagcomljnaaDoorRecRPRecUnlike
import Derived.Test.YtlcnhagcomljnaaDoorRecL
import Derived.Deep.RegionHeld3
namespace Go.Proofs.YtlcnhagcomljnaaDoor.RP
open Go.RowKit Go.Proofs.YtlcnhagcomljnaaDoorW.PrintWords Go.Proofs.YtlcnhagcomljnaaDoorW.PrintLast Go.Proofs.YtlcnhagcomljnaaDoorW.PrintMore Go.Proofs.YtlcnhagcomljnaaDoor.PLayRobot
set_option linter.unusedVariables false
set_option linter.unusedSimpArgs false
theorem rob_ref (x : Rob) (h : x.right = true) : dynamoref12_LayRobot.f 7 x.c x.h x.p x.t x.m x.g x.a = some x.lay := by
  have hr := h
  simp only [Rob.right, Rob.in, decide_eq_true_eq] at hr
  have g3 : ∀ n, 0 ≤ n → n < 16777216 → fitsB 3 n = true := fun n h0 h1 => by simp only [fitsB, decide_eq_true_eq, pw3]; omega
  have g2 : ∀ n, 0 ≤ n → n < 65536 → fitsB 2 n = true := fun n h0 h1 => by simp only [fitsB, decide_eq_true_eq, pw2]; omega
  have e1 : wrap64 (x.t + 1) = x.t + 1 := by unfold wrap64; omega
  have e2 : wrap64 (x.a + 32768) = x.a + 32768 := by unfold wrap64; omega
  unfold dynamoref12_LayRobot.f
  have l1 := putB_le 3 x.m
  have l2 := putB_le 3 x.g
  have l3 := putB_le 2 (x.a + 32768)
  simp only [Option.bind_some]
  rw [e1, e2, rput_f 3 x.m (by omega) (g3 _ (by omega) (by omega))]
  simp only [Option.bind_some]
  rw [if_pos (by rw [strOf_size]; simp; omega), rput_f 3 x.g (by omega) (g3 _ (by omega) (by omega))]
  simp only [Option.bind_some]
  rw [if_pos (by rw [ByteArray.size_append, strOf_size]; simp; omega), rput_f 2 _ (by omega) (g2 _ (by omega) (by omega))]
  simp only [Option.bind_some]
  rw [if_pos (by rw [ByteArray.size_append, ByteArray.size_append, strOf_size]; simp; omega), rob_bytes x h]
end Go.Proofs.YtlcnhagcomljnaaDoor.RP
namespace Go.Proofs.YtlcnhagcomljnaaDoor
open Go.RowKit Go.Extern.Stop Go.Stop Go.Extern Go.Proofs.YtlcnhagcomljnaaDoorW.PrintWords Go.Proofs.YtlcnhagcomljnaaDoorW.PrintLast Go.Proofs.YtlcnhagcomljnaaDoorW.PrintMore Go.Proofs.YtlcnhagcomljnaaDoor.PRecUnlike
set_option linter.unusedVariables false
set_option linter.unusedSimpArgs false

theorem ref_rob (x : Rob) (h : x.right = true) (W : World) : Calls Tryd.prog 19 #[.agg #[.int .i64 x.c, .int .i64 x.h, .int .i64 x.p, .int .i64 x.t, .int .i64 x.m, .int .i64 x.g, .int .i64 x.a]] W fun e w' => e = .returned (.string x.lay) ∧ Below W.heap.size W w' :=
  PLayRobot.dynamoref12_LayRobot.calls 7 _ _ _ _ _ _ _ _ W (RP.rob_ref x h)
theorem rob_read_back (x : Rob) (h : x.right = true) (W : World) : Calls Tryd.prog 18 #[.string x.lay] W fun e w' => e = .returned (.tuple #[.agg x.cs, .nilIface]) ∧ Below W.heap.size W w' := by
  have k := rob_read_ok x.lay (by rw [rob_size x h]; omega) (robRead_lay h) W
  rw [rob_back x h] at k
  exact k
set_option maxHeartbeats 4000000 in
set_option maxRecDepth 100000 in
theorem robots_no (x : Rob) (w : World) (hx : x.right = false) (tied : Tied w) : Calls Tryd.prog 4 #[.agg #[.int .i64 x.c, .int .i64 x.h, .int .i64 x.p, .int .i64 x.t, .int .i64 x.m, .int .i64 x.g, .int .i64 x.a]] w fun e w' => e = .returned (.bool true) ∧ Below w.heap.size w w' := by
  have HX := Lib.hid hx
  have L1 := Lib.hid (fun w => lay_rob_no x HX.out w)
  clear hx
  have HB0 := Lib.hid (Below.refl w.heap.size w)
  have T0 := Lib.hid tied
  clear tied
  go_enter Tryd.func4, Tryd.ntmps4
  go_wp2_with fail
  refine (rec_awake _).mono ?_
  rintro e w1 ⟨rfl, hb⟩
  have hat_b0 := (At.new w x.cs 23)
  have hk : Below w.heap.size w w1 := Below.trans (by repeat (first | exact Below.refl _ _ | refine Below.alloc ?_ (by first | omega | (simp; done) | (simp; omega)) _)) (hb.mono (by first | omega | (simp; done) | (simp; omega)))
  have b0_1 := Lib.hid (hat_b0.under hb)
  clear hat_b0
  have HB1 := Lib.hid (HB0.out.trans (hk.mono HB0.out.size))
  have T1 := Lib.hid (T0.out.under T0.out.lt hk)
  clear T0
  clear hk hb
  have g_b0_l : w.heap.size < w1.heap.size := b0_1.out.l
  have g_b0_0 : w1.cell? ⟨w.heap.size, 0, none⟩ = some (.int .i64 x.c) := b0_1.out.r 0 _ rfl
  have g_b0_1 : w1.cell? ⟨w.heap.size, 1, none⟩ = some (.int .i64 x.h) := b0_1.out.r 1 _ rfl
  have g_b0_2 : w1.cell? ⟨w.heap.size, 2, none⟩ = some (.int .i64 x.p) := b0_1.out.r 2 _ rfl
  have g_b0_3 : w1.cell? ⟨w.heap.size, 3, none⟩ = some (.int .i64 x.t) := b0_1.out.r 3 _ rfl
  have g_b0_4 : w1.cell? ⟨w.heap.size, 4, none⟩ = some (.int .i64 x.m) := b0_1.out.r 4 _ rfl
  have g_b0_5 : w1.cell? ⟨w.heap.size, 5, none⟩ = some (.int .i64 x.g) := b0_1.out.r 5 _ rfl
  have g_b0_6 : w1.cell? ⟨w.heap.size, 6, none⟩ = some (.int .i64 x.a) := b0_1.out.r 6 _ rfl
  go_wp2_with fail
  refine (of_rob x _).mono ?_
  rintro e w2 ⟨rfl, hb⟩
  have hk : Below w1.heap.size w1 w2 := Below.trans (by repeat (first | exact Below.refl _ _ | refine Below.alloc ?_ (by first | omega | (simp; done) | (simp; omega)) _)) (hb.mono (by first | omega | (simp; done) | (simp; omega)))
  have b0_2 := Lib.hid (b0_1.out.under hk)
  clear b0_1
  have HB2 := Lib.hid (HB1.out.trans (hk.mono HB1.out.size))
  have T2 := Lib.hid (T1.out.under T1.out.lt hk)
  clear T1
  clear hk hb
  clear g_b0_l g_b0_0 g_b0_1 g_b0_2 g_b0_3 g_b0_4 g_b0_5 g_b0_6
  go_wp2_with fail
  refine (L1.out _).mono ?_
  rintro e w3 ⟨v1, rfl, he, hb⟩
  have hk : Below w2.heap.size w2 w3 := Below.trans (by repeat (first | exact Below.refl _ _ | refine Below.alloc ?_ (by first | omega | (simp; done) | (simp; omega)) _)) (hb.mono (by first | omega | (simp; done) | (simp; omega)))
  have b0_3 := Lib.hid (b0_2.out.under hk)
  clear b0_2
  have HB3 := Lib.hid (HB2.out.trans (hk.mono HB2.out.size))
  have T3 := Lib.hid (T2.out.under T2.out.lt hk)
  clear T2
  have E1_3 := Lib.hid he
  clear he
  clear hk hb
  have g_b0_l : w.heap.size < w3.heap.size := b0_3.out.l
  have g_b0_0 : w3.cell? ⟨w.heap.size, 0, none⟩ = some (.int .i64 x.c) := b0_3.out.r 0 _ rfl
  have g_b0_1 : w3.cell? ⟨w.heap.size, 1, none⟩ = some (.int .i64 x.h) := b0_3.out.r 1 _ rfl
  have g_b0_2 : w3.cell? ⟨w.heap.size, 2, none⟩ = some (.int .i64 x.p) := b0_3.out.r 2 _ rfl
  have g_b0_3 : w3.cell? ⟨w.heap.size, 3, none⟩ = some (.int .i64 x.t) := b0_3.out.r 3 _ rfl
  have g_b0_4 : w3.cell? ⟨w.heap.size, 4, none⟩ = some (.int .i64 x.m) := b0_3.out.r 4 _ rfl
  have g_b0_5 : w3.cell? ⟨w.heap.size, 5, none⟩ = some (.int .i64 x.g) := b0_3.out.r 5 _ rfl
  have g_b0_6 : w3.cell? ⟨w.heap.size, 6, none⟩ = some (.int .i64 x.a) := b0_3.out.r 6 _ rfl
  go_wp2_with fail
  refine (right_rob x false HX.out _).mono ?_
  rintro e w4 ⟨rfl, hb⟩
  have hk : Below w3.heap.size w3 w4 := Below.trans (by repeat (first | exact Below.refl _ _ | refine Below.alloc ?_ (by first | omega | (simp; done) | (simp; omega)) _)) (hb.mono (by first | omega | (simp; done) | (simp; omega)))
  have b0_4 := Lib.hid (b0_3.out.under hk)
  clear b0_3
  have E1_4 := Lib.hid (E1_3.out.under hk)
  clear E1_3
  have HB4 := Lib.hid (HB3.out.trans (hk.mono HB3.out.size))
  have T4 := Lib.hid (T3.out.under T3.out.lt hk)
  clear T3
  clear hk hb
  clear g_b0_l g_b0_0 g_b0_1 g_b0_2 g_b0_3 g_b0_4 g_b0_5 g_b0_6
  go_wp2_with fail
  refine (Num_c _ v1 8 (ErrC.under E1_4.out (by repeat (first | exact Below.refl _ _ | refine Below.alloc ?_ (by first | omega | (simp; done) | (simp; omega)) _))) (T4.out.under T4.out.lt (by repeat (first | exact Below.refl _ _ | refine Below.alloc ?_ (by first | omega | (simp; done) | (simp; omega)) _)))).mono ?_
  rintro e w5 ⟨rfl, hb⟩
  have hk : Below w4.heap.size w4 w5 := Below.trans (by repeat (first | exact Below.refl _ _ | refine Below.alloc ?_ (by first | omega | (simp; done) | (simp; omega)) _)) (hb.mono (by first | omega | (simp; done) | (simp; omega)))
  have b0_5 := Lib.hid (b0_4.out.under hk)
  clear b0_4
  have E1_5 := Lib.hid (E1_4.out.under hk)
  clear E1_4
  have HB5 := Lib.hid (HB4.out.trans (hk.mono HB4.out.size))
  have T5 := Lib.hid (T4.out.under T4.out.lt hk)
  clear T4
  clear hk hb
  go_wp2_with fail
  go_ret
  exact ⟨rfl, (HB5.out.trans (by repeat (first | exact Below.refl _ _ | refine Below.alloc ?_ (by first | omega | (simp; done) | (simp; omega)) _)))⟩
set_option maxHeartbeats 4000000 in
set_option maxRecDepth 100000 in
theorem robots_yes (x : Rob) (w : World) (hx : x.right = true) (tied : Tied w) : Calls Tryd.prog 4 #[.agg #[.int .i64 x.c, .int .i64 x.h, .int .i64 x.p, .int .i64 x.t, .int .i64 x.m, .int .i64 x.g, .int .i64 x.a]] w fun e w' => e = .returned (.bool true) ∧ Below w.heap.size w w' := by
  have HX := Lib.hid hx
  have L1 := Lib.hid (fun w => lay_rob_ok x HX.out w)
  have hsz : ((x.lay.size : Int) == 12) = true := by rw [rob_size x hx]; rfl
  clear hx
  have HB0 := Lib.hid (Below.refl w.heap.size w)
  have T0 := Lib.hid tied
  clear tied
  go_enter Tryd.func4, Tryd.ntmps4
  go_wp2_with fail
  refine (rec_awake _).mono ?_
  rintro e w1 ⟨rfl, hb⟩
  have hat_b0 := (At.new w x.cs 23)
  have hk : Below w.heap.size w w1 := Below.trans (by repeat (first | exact Below.refl _ _ | refine Below.alloc ?_ (by first | omega | (simp; done) | (simp; omega)) _)) (hb.mono (by first | omega | (simp; done) | (simp; omega)))
  have b0_1 := Lib.hid (hat_b0.under hb)
  clear hat_b0
  have HB1 := Lib.hid (HB0.out.trans (hk.mono HB0.out.size))
  have T1 := Lib.hid (T0.out.under T0.out.lt hk)
  clear T0
  clear hk hb
  have g_b0_l : w.heap.size < w1.heap.size := b0_1.out.l
  have g_b0_0 : w1.cell? ⟨w.heap.size, 0, none⟩ = some (.int .i64 x.c) := b0_1.out.r 0 _ rfl
  have g_b0_1 : w1.cell? ⟨w.heap.size, 1, none⟩ = some (.int .i64 x.h) := b0_1.out.r 1 _ rfl
  have g_b0_2 : w1.cell? ⟨w.heap.size, 2, none⟩ = some (.int .i64 x.p) := b0_1.out.r 2 _ rfl
  have g_b0_3 : w1.cell? ⟨w.heap.size, 3, none⟩ = some (.int .i64 x.t) := b0_1.out.r 3 _ rfl
  have g_b0_4 : w1.cell? ⟨w.heap.size, 4, none⟩ = some (.int .i64 x.m) := b0_1.out.r 4 _ rfl
  have g_b0_5 : w1.cell? ⟨w.heap.size, 5, none⟩ = some (.int .i64 x.g) := b0_1.out.r 5 _ rfl
  have g_b0_6 : w1.cell? ⟨w.heap.size, 6, none⟩ = some (.int .i64 x.a) := b0_1.out.r 6 _ rfl
  go_wp2_with fail
  refine (of_rob x _).mono ?_
  rintro e w2 ⟨rfl, hb⟩
  have hk : Below w1.heap.size w1 w2 := Below.trans (by repeat (first | exact Below.refl _ _ | refine Below.alloc ?_ (by first | omega | (simp; done) | (simp; omega)) _)) (hb.mono (by first | omega | (simp; done) | (simp; omega)))
  have b0_2 := Lib.hid (b0_1.out.under hk)
  clear b0_1
  have HB2 := Lib.hid (HB1.out.trans (hk.mono HB1.out.size))
  have T2 := Lib.hid (T1.out.under T1.out.lt hk)
  clear T1
  clear hk hb
  clear g_b0_l g_b0_0 g_b0_1 g_b0_2 g_b0_3 g_b0_4 g_b0_5 g_b0_6
  go_wp2_with fail
  refine (L1.out _).mono ?_
  rintro e w3 ⟨rfl, hb⟩
  have hk : Below w2.heap.size w2 w3 := Below.trans (by repeat (first | exact Below.refl _ _ | refine Below.alloc ?_ (by first | omega | (simp; done) | (simp; omega)) _)) (hb.mono (by first | omega | (simp; done) | (simp; omega)))
  have b0_3 := Lib.hid (b0_2.out.under hk)
  clear b0_2
  have HB3 := Lib.hid (HB2.out.trans (hk.mono HB2.out.size))
  have T3 := Lib.hid (T2.out.under T2.out.lt hk)
  clear T2
  clear hk hb
  have g_b0_l : w.heap.size < w3.heap.size := b0_3.out.l
  have g_b0_0 : w3.cell? ⟨w.heap.size, 0, none⟩ = some (.int .i64 x.c) := b0_3.out.r 0 _ rfl
  have g_b0_1 : w3.cell? ⟨w.heap.size, 1, none⟩ = some (.int .i64 x.h) := b0_3.out.r 1 _ rfl
  have g_b0_2 : w3.cell? ⟨w.heap.size, 2, none⟩ = some (.int .i64 x.p) := b0_3.out.r 2 _ rfl
  have g_b0_3 : w3.cell? ⟨w.heap.size, 3, none⟩ = some (.int .i64 x.t) := b0_3.out.r 3 _ rfl
  have g_b0_4 : w3.cell? ⟨w.heap.size, 4, none⟩ = some (.int .i64 x.m) := b0_3.out.r 4 _ rfl
  have g_b0_5 : w3.cell? ⟨w.heap.size, 5, none⟩ = some (.int .i64 x.g) := b0_3.out.r 5 _ rfl
  have g_b0_6 : w3.cell? ⟨w.heap.size, 6, none⟩ = some (.int .i64 x.a) := b0_3.out.r 6 _ rfl
  go_wp2_with fail
  refine (right_rob x true HX.out _).mono ?_
  rintro e w4 ⟨rfl, hb⟩
  have hk : Below w3.heap.size w3 w4 := Below.trans (by repeat (first | exact Below.refl _ _ | refine Below.alloc ?_ (by first | omega | (simp; done) | (simp; omega)) _)) (hb.mono (by first | omega | (simp; done) | (simp; omega)))
  have b0_4 := Lib.hid (b0_3.out.under hk)
  clear b0_3
  have HB4 := Lib.hid (HB3.out.trans (hk.mono HB3.out.size))
  have T4 := Lib.hid (T3.out.under T3.out.lt hk)
  clear T3
  clear hk hb
  clear g_b0_l g_b0_0 g_b0_1 g_b0_2 g_b0_3 g_b0_4 g_b0_5 g_b0_6
  go_wp2_with fail
  refine (rob_read_back x HX.out _).mono ?_
  rintro e w5 ⟨rfl, hb⟩
  have hk : Below w4.heap.size w4 w5 := Below.trans (by repeat (first | exact Below.refl _ _ | refine Below.alloc ?_ (by first | omega | (simp; done) | (simp; omega)) _)) (hb.mono (by first | omega | (simp; done) | (simp; omega)))
  have b0_5 := Lib.hid (b0_4.out.under hk)
  clear b0_4
  have HB5 := Lib.hid (HB4.out.trans (hk.mono HB4.out.size))
  have T5 := Lib.hid (T4.out.under T4.out.lt hk)
  clear T4
  clear hk hb
  go_wp2_with (first | ((with_reducible refine at_st 30 (.tmp 5) (.tmp 28) ?_); refine st_last rfl 30 _ _ rfl _ _ _ rfl rfl _ rfl rfl (by kernel_rfl) (by simp [Value.oneCell']) ?_))
  obtain ⟨Wr, hWr⟩ : ∃ Wr, Wr = (w5.alloc (.cells x.cs 30)) := ⟨_, rfl⟩
  have hA0 : At Wr w.heap.size x.cs := by rw [hWr]; exact b0_5.out.under ((Below.refl _ _).alloc (Nat.le_refl _) _)
  have hA1 : At Wr w5.heap.size x.cs := by rw [hWr]; exact At.new _ _ _
  have HBr := Lib.hid (show Below w.heap.size w Wr by rw [hWr]; exact HB5.out.trans ((Below.alloc (Below.refl _ _) (Nat.le_refl _) _).mono HB5.out.size))
  rw [show (w5.alloc (.cells x.cs 30)) = Wr from hWr.symm]
  clear hWr
  have HS := Lib.hid (show ∀ w', KF Wr w' → w'.cell? ⟨w.heap.size, 0, none⟩ = some (.int .i64 x.c) ∧ w'.cell? ⟨w.heap.size, 1, none⟩ = some (.int .i64 x.h) ∧ w'.cell? ⟨w.heap.size, 2, none⟩ = some (.int .i64 x.p) ∧ w'.cell? ⟨w.heap.size, 3, none⟩ = some (.int .i64 x.t) ∧ w'.cell? ⟨w.heap.size, 4, none⟩ = some (.int .i64 x.m) ∧ w'.cell? ⟨w.heap.size, 5, none⟩ = some (.int .i64 x.g) ∧ w'.cell? ⟨w.heap.size, 6, none⟩ = some (.int .i64 x.a) ∧ w'.cell? ⟨w5.heap.size, 0, none⟩ = some (.int .i64 x.c) ∧ w'.cell? ⟨w5.heap.size, 1, none⟩ = some (.int .i64 x.h) ∧ w'.cell? ⟨w5.heap.size, 2, none⟩ = some (.int .i64 x.p) ∧ w'.cell? ⟨w5.heap.size, 3, none⟩ = some (.int .i64 x.t) ∧ w'.cell? ⟨w5.heap.size, 4, none⟩ = some (.int .i64 x.m) ∧ w'.cell? ⟨w5.heap.size, 5, none⟩ = some (.int .i64 x.g) ∧ w'.cell? ⟨w5.heap.size, 6, none⟩ = some (.int .i64 x.a) ∧ KF Wr w' from fun w' h => ⟨(hA0.under h).r 0 _ rfl, (hA0.under h).r 1 _ rfl, (hA0.under h).r 2 _ rfl, (hA0.under h).r 3 _ rfl, (hA0.under h).r 4 _ rfl, (hA0.under h).r 5 _ rfl, (hA0.under h).r 6 _ rfl, (hA1.under h).r 0 _ rfl, (hA1.under h).r 1 _ rfl, (hA1.under h).r 2 _ rfl, (hA1.under h).r 3 _ rfl, (hA1.under h).r 4 _ rfl, (hA1.under h).r 5 _ rfl, (hA1.under h).r 6 _ rfl, h⟩)
  have HP := Lib.hid (show ∀ w', (w'.cell? ⟨w.heap.size, 0, none⟩ = some (.int .i64 x.c) ∧ w'.cell? ⟨w.heap.size, 1, none⟩ = some (.int .i64 x.h) ∧ w'.cell? ⟨w.heap.size, 2, none⟩ = some (.int .i64 x.p) ∧ w'.cell? ⟨w.heap.size, 3, none⟩ = some (.int .i64 x.t) ∧ w'.cell? ⟨w.heap.size, 4, none⟩ = some (.int .i64 x.m) ∧ w'.cell? ⟨w.heap.size, 5, none⟩ = some (.int .i64 x.g) ∧ w'.cell? ⟨w.heap.size, 6, none⟩ = some (.int .i64 x.a) ∧ w'.cell? ⟨w5.heap.size, 0, none⟩ = some (.int .i64 x.c) ∧ w'.cell? ⟨w5.heap.size, 1, none⟩ = some (.int .i64 x.h) ∧ w'.cell? ⟨w5.heap.size, 2, none⟩ = some (.int .i64 x.p) ∧ w'.cell? ⟨w5.heap.size, 3, none⟩ = some (.int .i64 x.t) ∧ w'.cell? ⟨w5.heap.size, 4, none⟩ = some (.int .i64 x.m) ∧ w'.cell? ⟨w5.heap.size, 5, none⟩ = some (.int .i64 x.g) ∧ w'.cell? ⟨w5.heap.size, 6, none⟩ = some (.int .i64 x.a) ∧ KF Wr w') → KF Wr w' from fun w' h => h.2.2.2.2.2.2.2.2.2.2.2.2.2.2)
  clear hA0 hA1
  go_region_held3 (fun w' => w'.cell? ⟨w.heap.size, 0, none⟩ = some (.int .i64 x.c) ∧ w'.cell? ⟨w.heap.size, 1, none⟩ = some (.int .i64 x.h) ∧ w'.cell? ⟨w.heap.size, 2, none⟩ = some (.int .i64 x.p) ∧ w'.cell? ⟨w.heap.size, 3, none⟩ = some (.int .i64 x.t) ∧ w'.cell? ⟨w.heap.size, 4, none⟩ = some (.int .i64 x.m) ∧ w'.cell? ⟨w.heap.size, 5, none⟩ = some (.int .i64 x.g) ∧ w'.cell? ⟨w.heap.size, 6, none⟩ = some (.int .i64 x.a) ∧ w'.cell? ⟨w5.heap.size, 0, none⟩ = some (.int .i64 x.c) ∧ w'.cell? ⟨w5.heap.size, 1, none⟩ = some (.int .i64 x.h) ∧ w'.cell? ⟨w5.heap.size, 2, none⟩ = some (.int .i64 x.p) ∧ w'.cell? ⟨w5.heap.size, 3, none⟩ = some (.int .i64 x.t) ∧ w'.cell? ⟨w5.heap.size, 4, none⟩ = some (.int .i64 x.m) ∧ w'.cell? ⟨w5.heap.size, 5, none⟩ = some (.int .i64 x.g) ∧ w'.cell? ⟨w5.heap.size, 6, none⟩ = some (.int .i64 x.a) ∧ KF Wr w') ((refine HS.out _ ?_; first | assumption | exact Below.drew (Below.refl _ _))) (first | (go_at_call 17; (with_reducible refine (Num_nil _).mono ?_); rintro e _ ⟨rfl, rfl⟩) | (go_at_call 19; (with_reducible refine (ref_rob x HX.out _).mono ?_); rintro e wn ⟨rfl, hb⟩; have hK1 := KF.step (HP.out _ (by assumption)) hb; clear hb) | (go_at_call 16; (with_reducible refine (of_rob x _).mono ?_); rintro e wz ⟨rfl, hb⟩; have hK2 := KF.step (HP.out _ (by assumption)) hb; clear hb))
  all_goals
    go_wp2_with fail
    go_ret
    exact ⟨rfl, HBr.out.trans (hK2.mono HBr.out.size)⟩
theorem robots_walk (x : Rob) (w : World) (tied : Tied w) : Calls Tryd.prog 4 #[.agg #[.int .i64 x.c, .int .i64 x.h, .int .i64 x.p, .int .i64 x.t, .int .i64 x.m, .int .i64 x.g, .int .i64 x.a]] w fun e w' => e = .returned (.bool true) ∧ Below w.heap.size w w' := by
  cases hx : x.right with
  | false => exact robots_no x w hx tied
  | true => exact robots_yes x w hx tied
end Go.Proofs.YtlcnhagcomljnaaDoor
