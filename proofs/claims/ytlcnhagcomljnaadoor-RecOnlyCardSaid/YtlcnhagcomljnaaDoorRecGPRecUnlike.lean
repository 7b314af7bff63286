/- dynamolaw12.RecOnly: the walk. -/
import Derived.Test.YtlcnhagcomljnaaDoorRecFPRecUnlike
namespace Go.Proofs.YtlcnhagcomljnaaDoor
open Go.RowKit Go.Extern.Stop Go.Stop Go.Extern Go.Proofs.YtlcnhagcomljnaaDoorW.PrintWords Go.Proofs.YtlcnhagcomljnaaDoorW.PrintLast Go.Proofs.YtlcnhagcomljnaaDoorW.PrintMore Go.Proofs.YtlcnhagcomljnaaDoor.PRecUnlike
set_option linter.unusedVariables false
set_option linter.unusedSimpArgs false

theorem lay_all_zero (W : World) : Calls Tryd.prog 21 #[.agg #[.int .i64 0, .int .u8 0, .int .u8 0, .int .u8 0, .int .u8 0, .int .u8 0, .int .u8 0, .int .u8 0, .int .u8 0]] W fun e w' => e = .returned (.tuple #[.string (Al.lay ⟨0, [0, 0, 0, 0, 0, 0, 0, 0]⟩), .nilIface]) ∧ Below W.heap.size W w' :=
  lay_all_ok 0 0 0 0 0 0 0 0 0 (by decide) W
theorem eq_oct (w : World) : (Op.equalIn 9999 39 (.agg #[.int .u8 0, .int .u8 0, .int .u8 0, .int .u8 0, .int .u8 0, .int .u8 0, .int .u8 0, .int .u8 0]) (.agg #[.int .u8 0, .int .u8 0, .int .u8 0, .int .u8 0, .int .u8 0, .int .u8 0, .int .u8 0, .int .u8 0])).run Tryd.prog w = .ok true w := by kernel_rfl
theorem build_rz (w : World) : (Instr.build 30 #[]).run Tryd.prog w = .ok (.agg #[.int .i64 0, .int .i64 0, .int .i64 0, .int .i64 0, .int .i64 0, .int .i64 0, .int .i64 0]) w := by kernel_rfl
theorem build_tz (w : World) : (Instr.build 43 #[]).run Tryd.prog w = .ok (.agg #[.int .i64 0, .int .i64 0, .int .i64 0]) w := by kernel_rfl
set_option maxHeartbeats 4000000 in
set_option maxRecDepth 100000 in
theorem only_big (s : ByteArray) (w : World) (h : 100 < s.size) (tied : Tied w) : Calls Tryd.prog 6 #[.string s] w fun e w' => e = .returned (.bool true) ∧ Below w.heap.size w w' := by
  have hd : decide (100 < (s.size : Int)) = true := by simp; omega
  clear h
  have HB0 := Lib.hid (Below.refl w.heap.size w)
  have T0 := Lib.hid tied
  clear tied
  go_enter Tryd.func6, Tryd.ntmps6
  go_wp2_with fail
  refine (rec_awake _).mono ?_
  rintro e w1 ⟨rfl, hb⟩
  have hk : Below w.heap.size w w1 := Below.trans (by repeat (first | exact Below.refl _ _ | refine Below.alloc ?_ (by first | omega | (simp; done) | (simp; omega)) _)) (hb.mono (by first | omega | (simp; done) | (simp; omega)))
  have HB1 := Lib.hid (HB0.out.trans (hk.mono HB0.out.size))
  have T1 := Lib.hid (T0.out.under T0.out.lt hk)
  clear T0
  clear hk hb
  go_wp2_with fail
  refine (rec_awake _).mono ?_
  rintro e w2 ⟨rfl, hb⟩
  have hk : Below w1.heap.size w1 w2 := Below.trans (by repeat (first | exact Below.refl _ _ | refine Below.alloc ?_ (by first | omega | (simp; done) | (simp; omega)) _)) (hb.mono (by first | omega | (simp; done) | (simp; omega)))
  have HB2 := Lib.hid (HB1.out.trans (hk.mono HB1.out.size))
  have T2 := Lib.hid (T1.out.under T1.out.lt hk)
  clear T1
  clear hk hb
  go_wp2_with fail
  go_ret
  exact ⟨rfl, (HB2.out.trans (by repeat (first | exact Below.refl _ _ | refine Below.alloc ?_ (by first | omega | (simp; done) | (simp; omega)) _)))⟩
set_option maxHeartbeats 4000000 in
set_option maxRecDepth 100000 in
theorem only_000 (s : ByteArray) (w : World) (h : s.size ≤ 100) (hr : robRead s = false) (ht : tasRead s = false) (ha : alRead s = false) (tied : Tied w) : Calls Tryd.prog 6 #[.string s] w fun e w' => e = .returned (.bool true) ∧ Below w.heap.size w w' := by
  have hd : decide (100 < (s.size : Int)) = false := by simp; omega
  have R1 := Lib.hid (fun w => rob_read_no s (by omega) hr w)
  have L1 := Lib.hid (fun w => lay_rob_ok ⟨0, 0, 0, 0, 0, 0, 0⟩ (by decide) w)
  have hbr := build_rz
  clear hr
  have R2 := Lib.hid (fun w => tas_read_no s (by omega) ht w)
  have L2 := Lib.hid (fun w => lay_task_ok ⟨0, 0, 0⟩ (by decide) w)
  have hbt := build_tz
  clear ht
  have R3 := Lib.hid (fun w => al_read_no s (by omega) ha w)
  have L3 := Lib.hid (fun w => lay_all_zero w)
  have hba := build_zero
  have hqo := eq_oct
  clear ha
  clear h
  have HB0 := Lib.hid (Below.refl w.heap.size w)
  have T0 := Lib.hid tied
  clear tied
  go_enter Tryd.func6, Tryd.ntmps6
  go_wp2_with fail
  refine (rec_awake _).mono ?_
  rintro e w1 ⟨rfl, hb⟩
  have hk : Below w.heap.size w w1 := Below.trans (by repeat (first | exact Below.refl _ _ | refine Below.alloc ?_ (by first | omega | (simp; done) | (simp; omega)) _)) (hb.mono (by first | omega | (simp; done) | (simp; omega)))
  have HB1 := Lib.hid (HB0.out.trans (hk.mono HB0.out.size))
  have T1 := Lib.hid (T0.out.under T0.out.lt hk)
  clear T0
  clear hk hb
  go_wp2_with fail
  refine (R1.out _).mono ?_
  rintro e w2 ⟨v1, rfl, he, hb⟩
  have hk : Below w1.heap.size w1 w2 := Below.trans (by repeat (first | exact Below.refl _ _ | refine Below.alloc ?_ (by first | omega | (simp; done) | (simp; omega)) _)) (hb.mono (by first | omega | (simp; done) | (simp; omega)))
  have HB2 := Lib.hid (HB1.out.trans (hk.mono HB1.out.size))
  have T2 := Lib.hid (T1.out.under T1.out.lt hk)
  clear T1
  have E1_2 := Lib.hid he
  clear he
  clear hk hb
  go_wp2_with (first | ((with_reducible refine at_st 30 (.tmp 3) (.tmp 26) ?_); refine st_last rfl 30 _ _ rfl _ _ _ rfl rfl _ rfl rfl (by kernel_rfl) (by simp [Value.oneCell']) ?_))
  refine (R2.out _).mono ?_
  rintro e w3 ⟨v2, rfl, he, hb⟩
  have hat_b1 := (At.new w2 (⟨0, 0, 0, 0, 0, 0, 0⟩ : Rob).cs 30)
  have hk : Below w2.heap.size w2 w3 := Below.trans (by repeat (first | exact Below.refl _ _ | refine Below.alloc ?_ (by first | omega | (simp; done) | (simp; omega)) _)) (hb.mono (by first | omega | (simp; done) | (simp; omega)))
  have E1_3 := Lib.hid (E1_2.out.under hk)
  clear E1_2
  have b1_3 := Lib.hid (hat_b1.under hb)
  clear hat_b1
  have HB3 := Lib.hid (HB2.out.trans (hk.mono HB2.out.size))
  have T3 := Lib.hid (T2.out.under T2.out.lt hk)
  clear T2
  have E2_3 := Lib.hid he
  clear he
  clear hk hb
  go_wp2_with (first | ((with_reducible refine at_st 43 (.tmp 5) (.tmp 31) ?_); refine st_last rfl 43 _ _ rfl _ _ _ rfl rfl _ rfl rfl (by kernel_rfl) (by simp [Value.oneCell']) ?_))
  refine (R3.out _).mono ?_
  rintro e w4 ⟨v3, rfl, he, hb⟩
  have hat_b2 := (At.new w3 (⟨0, 0, 0⟩ : Tas).cs 43)
  have hk : Below w3.heap.size w3 w4 := Below.trans (by repeat (first | exact Below.refl _ _ | refine Below.alloc ?_ (by first | omega | (simp; done) | (simp; omega)) _)) (hb.mono (by first | omega | (simp; done) | (simp; omega)))
  have E1_4 := Lib.hid (E1_3.out.under hk)
  clear E1_3
  have b1_4 := Lib.hid (b1_3.out.under hk)
  clear b1_3
  have E2_4 := Lib.hid (E2_3.out.under hk)
  clear E2_3
  have b2_4 := Lib.hid (hat_b2.under hb)
  clear hat_b2
  have HB4 := Lib.hid (HB3.out.trans (hk.mono HB3.out.size))
  have T4 := Lib.hid (T3.out.under T3.out.lt hk)
  clear T3
  have E3_4 := Lib.hid he
  clear he
  clear hk hb
  have g_b1_l : w2.heap.size < w4.heap.size := b1_4.out.l
  have g_b1_0 : w4.cell? ⟨w2.heap.size, 0, none⟩ = some (.int .i64 0) := b1_4.out.r 0 _ rfl
  have g_b1_1 : w4.cell? ⟨w2.heap.size, 1, none⟩ = some (.int .i64 0) := b1_4.out.r 1 _ rfl
  have g_b1_2 : w4.cell? ⟨w2.heap.size, 2, none⟩ = some (.int .i64 0) := b1_4.out.r 2 _ rfl
  have g_b1_3 : w4.cell? ⟨w2.heap.size, 3, none⟩ = some (.int .i64 0) := b1_4.out.r 3 _ rfl
  have g_b1_4 : w4.cell? ⟨w2.heap.size, 4, none⟩ = some (.int .i64 0) := b1_4.out.r 4 _ rfl
  have g_b1_5 : w4.cell? ⟨w2.heap.size, 5, none⟩ = some (.int .i64 0) := b1_4.out.r 5 _ rfl
  have g_b1_6 : w4.cell? ⟨w2.heap.size, 6, none⟩ = some (.int .i64 0) := b1_4.out.r 6 _ rfl
  go_wp2_with (first | ((with_reducible refine at_st 45 (.tmp 7) (.tmp 36) ?_); refine st_last rfl 45 _ _ rfl _ _ _ rfl rfl _ rfl rfl (by kernel_rfl) (by simp [Value.oneCell']) ?_))
  refine (L1.out _).mono ?_
  rintro e w5 ⟨rfl, hb⟩
  have hat_b3 := (At.new w4 alZ 45)
  have hk : Below w4.heap.size w4 w5 := Below.trans (by repeat (first | exact Below.refl _ _ | refine Below.alloc ?_ (by first | omega | (simp; done) | (simp; omega)) _)) (hb.mono (by first | omega | (simp; done) | (simp; omega)))
  have E1_5 := Lib.hid (E1_4.out.under hk)
  clear E1_4
  have b1_5 := Lib.hid (b1_4.out.under hk)
  clear b1_4
  have E2_5 := Lib.hid (E2_4.out.under hk)
  clear E2_4
  have b2_5 := Lib.hid (b2_4.out.under hk)
  clear b2_4
  have E3_5 := Lib.hid (E3_4.out.under hk)
  clear E3_4
  have b3_5 := Lib.hid (hat_b3.under hb)
  clear hat_b3
  have HB5 := Lib.hid (HB4.out.trans (hk.mono HB4.out.size))
  have T5 := Lib.hid (T4.out.under T4.out.lt hk)
  clear T4
  clear hk hb
  clear g_b1_l g_b1_0 g_b1_1 g_b1_2 g_b1_3 g_b1_4 g_b1_5 g_b1_6
  have g_b2_l : w3.heap.size < w5.heap.size := b2_5.out.l
  have g_b2_0 : w5.cell? ⟨w3.heap.size, 0, none⟩ = some (.int .i64 0) := b2_5.out.r 0 _ rfl
  have g_b2_1 : w5.cell? ⟨w3.heap.size, 1, none⟩ = some (.int .i64 0) := b2_5.out.r 1 _ rfl
  have g_b2_2 : w5.cell? ⟨w3.heap.size, 2, none⟩ = some (.int .i64 0) := b2_5.out.r 2 _ rfl
  go_wp2_with fail
  refine (L2.out _).mono ?_
  rintro e w6 ⟨rfl, hb⟩
  have hk : Below w5.heap.size w5 w6 := Below.trans (by repeat (first | exact Below.refl _ _ | refine Below.alloc ?_ (by first | omega | (simp; done) | (simp; omega)) _)) (hb.mono (by first | omega | (simp; done) | (simp; omega)))
  have E1_6 := Lib.hid (E1_5.out.under hk)
  clear E1_5
  have b1_6 := Lib.hid (b1_5.out.under hk)
  clear b1_5
  have E2_6 := Lib.hid (E2_5.out.under hk)
  clear E2_5
  have b2_6 := Lib.hid (b2_5.out.under hk)
  clear b2_5
  have E3_6 := Lib.hid (E3_5.out.under hk)
  clear E3_5
  have b3_6 := Lib.hid (b3_5.out.under hk)
  clear b3_5
  have HB6 := Lib.hid (HB5.out.trans (hk.mono HB5.out.size))
  have T6 := Lib.hid (T5.out.under T5.out.lt hk)
  clear T5
  clear hk hb
  clear g_b2_l g_b2_0 g_b2_1 g_b2_2
  have g_b3_l : w4.heap.size < w6.heap.size := b3_6.out.l
  have g_b3_0 : w6.cell? ⟨w4.heap.size, 0, none⟩ = some (.int .i64 0) := b3_6.out.r 0 _ rfl
  have g_b3_1 : w6.cell? ⟨w4.heap.size, 1, none⟩ = some (.int .u8 0) := b3_6.out.r 1 _ rfl
  have g_b3_2 : w6.cell? ⟨w4.heap.size, 2, none⟩ = some (.int .u8 0) := b3_6.out.r 2 _ rfl
  have g_b3_3 : w6.cell? ⟨w4.heap.size, 3, none⟩ = some (.int .u8 0) := b3_6.out.r 3 _ rfl
  have g_b3_4 : w6.cell? ⟨w4.heap.size, 4, none⟩ = some (.int .u8 0) := b3_6.out.r 4 _ rfl
  have g_b3_5 : w6.cell? ⟨w4.heap.size, 5, none⟩ = some (.int .u8 0) := b3_6.out.r 5 _ rfl
  have g_b3_6 : w6.cell? ⟨w4.heap.size, 6, none⟩ = some (.int .u8 0) := b3_6.out.r 6 _ rfl
  have g_b3_7 : w6.cell? ⟨w4.heap.size, 7, none⟩ = some (.int .u8 0) := b3_6.out.r 7 _ rfl
  have g_b3_8 : w6.cell? ⟨w4.heap.size, 8, none⟩ = some (.int .u8 0) := b3_6.out.r 8 _ rfl
  go_wp2_with fail
  refine (L3.out _).mono ?_
  rintro e w7 ⟨rfl, hb⟩
  have hk : Below w6.heap.size w6 w7 := Below.trans (by repeat (first | exact Below.refl _ _ | refine Below.alloc ?_ (by first | omega | (simp; done) | (simp; omega)) _)) (hb.mono (by first | omega | (simp; done) | (simp; omega)))
  have E1_7 := Lib.hid (E1_6.out.under hk)
  clear E1_6
  have b1_7 := Lib.hid (b1_6.out.under hk)
  clear b1_6
  have E2_7 := Lib.hid (E2_6.out.under hk)
  clear E2_6
  have b2_7 := Lib.hid (b2_6.out.under hk)
  clear b2_6
  have E3_7 := Lib.hid (E3_6.out.under hk)
  clear E3_6
  have b3_7 := Lib.hid (b3_6.out.under hk)
  clear b3_6
  have HB7 := Lib.hid (HB6.out.trans (hk.mono HB6.out.size))
  have T7 := Lib.hid (T6.out.under T6.out.lt hk)
  clear T6
  clear hk hb
  clear g_b3_l g_b3_0 g_b3_1 g_b3_2 g_b3_3 g_b3_4 g_b3_5 g_b3_6 g_b3_7 g_b3_8
  repeat (first | go_values | go_skip | go_guarded | (simp only [List.append_eq, List.cons_append, List.nil_append]) | go_step | go_upon | (simp only [Int.not_lt, Int.not_le] at *; go_simp))
  refine (Num_c _ v1 2 (ErrC.under E1_7.out (by repeat (first | exact Below.refl _ _ | refine Below.alloc ?_ (by first | omega | (simp; done) | (simp; omega)) _))) (T7.out.under T7.out.lt (by repeat (first | exact Below.refl _ _ | refine Below.alloc ?_ (by first | omega | (simp; done) | (simp; omega)) _)))).mono ?_
  rintro e w8 ⟨rfl, hb⟩
  have hk : Below w7.heap.size w7 w8 := Below.trans (by repeat (first | exact Below.refl _ _ | refine Below.alloc ?_ (by first | omega | (simp; done) | (simp; omega)) _)) (hb.mono (by first | omega | (simp; done) | (simp; omega)))
  have E1_8 := Lib.hid (E1_7.out.under hk)
  clear E1_7
  have b1_8 := Lib.hid (b1_7.out.under hk)
  clear b1_7
  have E2_8 := Lib.hid (E2_7.out.under hk)
  clear E2_7
  have b2_8 := Lib.hid (b2_7.out.under hk)
  clear b2_7
  have E3_8 := Lib.hid (E3_7.out.under hk)
  clear E3_7
  have b3_8 := Lib.hid (b3_7.out.under hk)
  clear b3_7
  have HB8 := Lib.hid (HB7.out.trans (hk.mono HB7.out.size))
  have T8 := Lib.hid (T7.out.under T7.out.lt hk)
  clear T7
  clear hk hb
  have g_b1_l : w2.heap.size < w8.heap.size := b1_8.out.l
  have g_b1_0 : w8.cell? ⟨w2.heap.size, 0, none⟩ = some (.int .i64 0) := b1_8.out.r 0 _ rfl
  have g_b1_1 : w8.cell? ⟨w2.heap.size, 1, none⟩ = some (.int .i64 0) := b1_8.out.r 1 _ rfl
  have g_b1_2 : w8.cell? ⟨w2.heap.size, 2, none⟩ = some (.int .i64 0) := b1_8.out.r 2 _ rfl
  have g_b1_3 : w8.cell? ⟨w2.heap.size, 3, none⟩ = some (.int .i64 0) := b1_8.out.r 3 _ rfl
  have g_b1_4 : w8.cell? ⟨w2.heap.size, 4, none⟩ = some (.int .i64 0) := b1_8.out.r 4 _ rfl
  have g_b1_5 : w8.cell? ⟨w2.heap.size, 5, none⟩ = some (.int .i64 0) := b1_8.out.r 5 _ rfl
  have g_b1_6 : w8.cell? ⟨w2.heap.size, 6, none⟩ = some (.int .i64 0) := b1_8.out.r 6 _ rfl
  repeat (first | go_values | go_skip | go_guarded | (simp only [List.append_eq, List.cons_append, List.nil_append]) | go_step | go_upon | (simp only [Int.not_lt, Int.not_le] at *; go_simp))
  refine (Num_c _ v2 2 (ErrC.under E2_8.out (by repeat (first | exact Below.refl _ _ | refine Below.alloc ?_ (by first | omega | (simp; done) | (simp; omega)) _))) (T8.out.under T8.out.lt (by repeat (first | exact Below.refl _ _ | refine Below.alloc ?_ (by first | omega | (simp; done) | (simp; omega)) _)))).mono ?_
  rintro e w9 ⟨rfl, hb⟩
  have hk : Below w8.heap.size w8 w9 := Below.trans (by repeat (first | exact Below.refl _ _ | refine Below.alloc ?_ (by first | omega | (simp; done) | (simp; omega)) _)) (hb.mono (by first | omega | (simp; done) | (simp; omega)))
  have E1_9 := Lib.hid (E1_8.out.under hk)
  clear E1_8
  have b1_9 := Lib.hid (b1_8.out.under hk)
  clear b1_8
  have E2_9 := Lib.hid (E2_8.out.under hk)
  clear E2_8
  have b2_9 := Lib.hid (b2_8.out.under hk)
  clear b2_8
  have E3_9 := Lib.hid (E3_8.out.under hk)
  clear E3_8
  have b3_9 := Lib.hid (b3_8.out.under hk)
  clear b3_8
  have HB9 := Lib.hid (HB8.out.trans (hk.mono HB8.out.size))
  have T9 := Lib.hid (T8.out.under T8.out.lt hk)
  clear T8
  clear hk hb
  have g_b2_l : w3.heap.size < w9.heap.size := b2_9.out.l
  have g_b2_0 : w9.cell? ⟨w3.heap.size, 0, none⟩ = some (.int .i64 0) := b2_9.out.r 0 _ rfl
  have g_b2_1 : w9.cell? ⟨w3.heap.size, 1, none⟩ = some (.int .i64 0) := b2_9.out.r 1 _ rfl
  have g_b2_2 : w9.cell? ⟨w3.heap.size, 2, none⟩ = some (.int .i64 0) := b2_9.out.r 2 _ rfl
  repeat (first | go_values | go_skip | go_guarded | (simp only [List.append_eq, List.cons_append, List.nil_append]) | go_step | go_upon | (simp only [Int.not_lt, Int.not_le] at *; go_simp))
  refine (Num_c _ v3 2 (ErrC.under E3_9.out (by repeat (first | exact Below.refl _ _ | refine Below.alloc ?_ (by first | omega | (simp; done) | (simp; omega)) _))) (T9.out.under T9.out.lt (by repeat (first | exact Below.refl _ _ | refine Below.alloc ?_ (by first | omega | (simp; done) | (simp; omega)) _)))).mono ?_
  rintro e w10 ⟨rfl, hb⟩
  have hk : Below w9.heap.size w9 w10 := Below.trans (by repeat (first | exact Below.refl _ _ | refine Below.alloc ?_ (by first | omega | (simp; done) | (simp; omega)) _)) (hb.mono (by first | omega | (simp; done) | (simp; omega)))
  have E1_10 := Lib.hid (E1_9.out.under hk)
  clear E1_9
  have b1_10 := Lib.hid (b1_9.out.under hk)
  clear b1_9
  have E2_10 := Lib.hid (E2_9.out.under hk)
  clear E2_9
  have b2_10 := Lib.hid (b2_9.out.under hk)
  clear b2_9
  have E3_10 := Lib.hid (E3_9.out.under hk)
  clear E3_9
  have b3_10 := Lib.hid (b3_9.out.under hk)
  clear b3_9
  have HB10 := Lib.hid (HB9.out.trans (hk.mono HB9.out.size))
  have T10 := Lib.hid (T9.out.under T9.out.lt hk)
  clear T9
  clear hk hb
  have g_b3_l : w4.heap.size < w10.heap.size := b3_10.out.l
  have g_b3_0 : w10.cell? ⟨w4.heap.size, 0, none⟩ = some (.int .i64 0) := b3_10.out.r 0 _ rfl
  have g_b3_1 : w10.cell? ⟨w4.heap.size, 1, none⟩ = some (.int .u8 0) := b3_10.out.r 1 _ rfl
  have g_b3_2 : w10.cell? ⟨w4.heap.size, 2, none⟩ = some (.int .u8 0) := b3_10.out.r 2 _ rfl
  have g_b3_3 : w10.cell? ⟨w4.heap.size, 3, none⟩ = some (.int .u8 0) := b3_10.out.r 3 _ rfl
  have g_b3_4 : w10.cell? ⟨w4.heap.size, 4, none⟩ = some (.int .u8 0) := b3_10.out.r 4 _ rfl
  have g_b3_5 : w10.cell? ⟨w4.heap.size, 5, none⟩ = some (.int .u8 0) := b3_10.out.r 5 _ rfl
  have g_b3_6 : w10.cell? ⟨w4.heap.size, 6, none⟩ = some (.int .u8 0) := b3_10.out.r 6 _ rfl
  have g_b3_7 : w10.cell? ⟨w4.heap.size, 7, none⟩ = some (.int .u8 0) := b3_10.out.r 7 _ rfl
  have g_b3_8 : w10.cell? ⟨w4.heap.size, 8, none⟩ = some (.int .u8 0) := b3_10.out.r 8 _ rfl
  repeat (first | go_values | go_skip | go_guarded | (simp only [List.append_eq, List.cons_append, List.nil_append]) | go_step | go_upon | (simp only [Int.not_lt, Int.not_le] at *; go_simp))
  go_ret
  exact ⟨rfl, (HB10.out.trans (by repeat (first | exact Below.refl _ _ | refine Below.alloc ?_ (by first | omega | (simp; done) | (simp; omega)) _)))⟩
set_option maxHeartbeats 4000000 in
set_option maxRecDepth 100000 in
theorem only_001 (s : ByteArray) (k : Int) (b0 b1 b2 b3 b4 b5 b6 b7 : UInt8) (w : World) (h : s.size ≤ 100) (hr : robRead s = false) (ht : tasRead s = false) (R3 : Hid (∀ w, Calls Tryd.prog 23 #[.string s] w fun e w' => e = .returned (.tuple #[.agg (alCs k b0 b1 b2 b3 b4 b5 b6 b7), .nilIface]) ∧ Below w.heap.size w w')) (L3 : Hid (∀ w, Calls Tryd.prog 21 #[.agg (alCs k b0 b1 b2 b3 b4 b5 b6 b7)] w fun e w' => e = .returned (.tuple #[.string s, .nilIface]) ∧ Below w.heap.size w w')) (tied : Tied w) : Calls Tryd.prog 6 #[.string s] w fun e w' => e = .returned (.bool true) ∧ Below w.heap.size w w' := by
  have hd : decide (100 < (s.size : Int)) = false := by simp; omega
  have R1 := Lib.hid (fun w => rob_read_no s (by omega) hr w)
  have L1 := Lib.hid (fun w => lay_rob_ok ⟨0, 0, 0, 0, 0, 0, 0⟩ (by decide) w)
  have hbr := build_rz
  clear hr
  have R2 := Lib.hid (fun w => tas_read_no s (by omega) ht w)
  have L2 := Lib.hid (fun w => lay_task_ok ⟨0, 0, 0⟩ (by decide) w)
  have hbt := build_tz
  clear ht
  clear h
  have HB0 := Lib.hid (Below.refl w.heap.size w)
  have T0 := Lib.hid tied
  clear tied
  go_enter Tryd.func6, Tryd.ntmps6
  go_wp2_with fail
  refine (rec_awake _).mono ?_
  rintro e w1 ⟨rfl, hb⟩
  have hk : Below w.heap.size w w1 := Below.trans (by repeat (first | exact Below.refl _ _ | refine Below.alloc ?_ (by first | omega | (simp; done) | (simp; omega)) _)) (hb.mono (by first | omega | (simp; done) | (simp; omega)))
  have HB1 := Lib.hid (HB0.out.trans (hk.mono HB0.out.size))
  have T1 := Lib.hid (T0.out.under T0.out.lt hk)
  clear T0
  clear hk hb
  go_wp2_with fail
  refine (R1.out _).mono ?_
  rintro e w2 ⟨v1, rfl, he, hb⟩
  have hk : Below w1.heap.size w1 w2 := Below.trans (by repeat (first | exact Below.refl _ _ | refine Below.alloc ?_ (by first | omega | (simp; done) | (simp; omega)) _)) (hb.mono (by first | omega | (simp; done) | (simp; omega)))
  have HB2 := Lib.hid (HB1.out.trans (hk.mono HB1.out.size))
  have T2 := Lib.hid (T1.out.under T1.out.lt hk)
  clear T1
  have E1_2 := Lib.hid he
  clear he
  clear hk hb
  go_wp2_with (first | ((with_reducible refine at_st 30 (.tmp 3) (.tmp 26) ?_); refine st_last rfl 30 _ _ rfl _ _ _ rfl rfl _ rfl rfl (by kernel_rfl) (by simp [Value.oneCell']) ?_))
  refine (R2.out _).mono ?_
  rintro e w3 ⟨v2, rfl, he, hb⟩
  have hat_b1 := (At.new w2 (⟨0, 0, 0, 0, 0, 0, 0⟩ : Rob).cs 30)
  have hk : Below w2.heap.size w2 w3 := Below.trans (by repeat (first | exact Below.refl _ _ | refine Below.alloc ?_ (by first | omega | (simp; done) | (simp; omega)) _)) (hb.mono (by first | omega | (simp; done) | (simp; omega)))
  have E1_3 := Lib.hid (E1_2.out.under hk)
  clear E1_2
  have b1_3 := Lib.hid (hat_b1.under hb)
  clear hat_b1
  have HB3 := Lib.hid (HB2.out.trans (hk.mono HB2.out.size))
  have T3 := Lib.hid (T2.out.under T2.out.lt hk)
  clear T2
  have E2_3 := Lib.hid he
  clear he
  clear hk hb
  go_wp2_with (first | ((with_reducible refine at_st 43 (.tmp 5) (.tmp 31) ?_); refine st_last rfl 43 _ _ rfl _ _ _ rfl rfl _ rfl rfl (by kernel_rfl) (by simp [Value.oneCell']) ?_))
  refine (R3.out _).mono ?_
  rintro e w4 ⟨rfl, hb⟩
  have hat_b2 := (At.new w3 (⟨0, 0, 0⟩ : Tas).cs 43)
  have hk : Below w3.heap.size w3 w4 := Below.trans (by repeat (first | exact Below.refl _ _ | refine Below.alloc ?_ (by first | omega | (simp; done) | (simp; omega)) _)) (hb.mono (by first | omega | (simp; done) | (simp; omega)))
  have E1_4 := Lib.hid (E1_3.out.under hk)
  clear E1_3
  have b1_4 := Lib.hid (b1_3.out.under hk)
  clear b1_3
  have E2_4 := Lib.hid (E2_3.out.under hk)
  clear E2_3
  have b2_4 := Lib.hid (hat_b2.under hb)
  clear hat_b2
  have HB4 := Lib.hid (HB3.out.trans (hk.mono HB3.out.size))
  have T4 := Lib.hid (T3.out.under T3.out.lt hk)
  clear T3
  clear hk hb
  have g_b1_l : w2.heap.size < w4.heap.size := b1_4.out.l
  have g_b1_0 : w4.cell? ⟨w2.heap.size, 0, none⟩ = some (.int .i64 0) := b1_4.out.r 0 _ rfl
  have g_b1_1 : w4.cell? ⟨w2.heap.size, 1, none⟩ = some (.int .i64 0) := b1_4.out.r 1 _ rfl
  have g_b1_2 : w4.cell? ⟨w2.heap.size, 2, none⟩ = some (.int .i64 0) := b1_4.out.r 2 _ rfl
  have g_b1_3 : w4.cell? ⟨w2.heap.size, 3, none⟩ = some (.int .i64 0) := b1_4.out.r 3 _ rfl
  have g_b1_4 : w4.cell? ⟨w2.heap.size, 4, none⟩ = some (.int .i64 0) := b1_4.out.r 4 _ rfl
  have g_b1_5 : w4.cell? ⟨w2.heap.size, 5, none⟩ = some (.int .i64 0) := b1_4.out.r 5 _ rfl
  have g_b1_6 : w4.cell? ⟨w2.heap.size, 6, none⟩ = some (.int .i64 0) := b1_4.out.r 6 _ rfl
  go_wp2_with (first | ((with_reducible refine at_st 45 (.tmp 7) (.tmp 36) ?_); refine st_last rfl 45 _ _ rfl _ _ _ rfl rfl _ rfl rfl (by kernel_rfl) (by simp [Value.oneCell']) ?_))
  refine (L1.out _).mono ?_
  rintro e w5 ⟨rfl, hb⟩
  have hat_b3 := (At.new w4 (alCs k b0 b1 b2 b3 b4 b5 b6 b7) 45)
  have hk : Below w4.heap.size w4 w5 := Below.trans (by repeat (first | exact Below.refl _ _ | refine Below.alloc ?_ (by first | omega | (simp; done) | (simp; omega)) _)) (hb.mono (by first | omega | (simp; done) | (simp; omega)))
  have E1_5 := Lib.hid (E1_4.out.under hk)
  clear E1_4
  have b1_5 := Lib.hid (b1_4.out.under hk)
  clear b1_4
  have E2_5 := Lib.hid (E2_4.out.under hk)
  clear E2_4
  have b2_5 := Lib.hid (b2_4.out.under hk)
  clear b2_4
  have b3_5 := Lib.hid (hat_b3.under hb)
  clear hat_b3
  have HB5 := Lib.hid (HB4.out.trans (hk.mono HB4.out.size))
  have T5 := Lib.hid (T4.out.under T4.out.lt hk)
  clear T4
  clear hk hb
  clear g_b1_l g_b1_0 g_b1_1 g_b1_2 g_b1_3 g_b1_4 g_b1_5 g_b1_6
  have g_b2_l : w3.heap.size < w5.heap.size := b2_5.out.l
  have g_b2_0 : w5.cell? ⟨w3.heap.size, 0, none⟩ = some (.int .i64 0) := b2_5.out.r 0 _ rfl
  have g_b2_1 : w5.cell? ⟨w3.heap.size, 1, none⟩ = some (.int .i64 0) := b2_5.out.r 1 _ rfl
  have g_b2_2 : w5.cell? ⟨w3.heap.size, 2, none⟩ = some (.int .i64 0) := b2_5.out.r 2 _ rfl
  go_wp2_with fail
  refine (L2.out _).mono ?_
  rintro e w6 ⟨rfl, hb⟩
  have hk : Below w5.heap.size w5 w6 := Below.trans (by repeat (first | exact Below.refl _ _ | refine Below.alloc ?_ (by first | omega | (simp; done) | (simp; omega)) _)) (hb.mono (by first | omega | (simp; done) | (simp; omega)))
  have E1_6 := Lib.hid (E1_5.out.under hk)
  clear E1_5
  have b1_6 := Lib.hid (b1_5.out.under hk)
  clear b1_5
  have E2_6 := Lib.hid (E2_5.out.under hk)
  clear E2_5
  have b2_6 := Lib.hid (b2_5.out.under hk)
  clear b2_5
  have b3_6 := Lib.hid (b3_5.out.under hk)
  clear b3_5
  have HB6 := Lib.hid (HB5.out.trans (hk.mono HB5.out.size))
  have T6 := Lib.hid (T5.out.under T5.out.lt hk)
  clear T5
  clear hk hb
  clear g_b2_l g_b2_0 g_b2_1 g_b2_2
  have g_b3_l : w4.heap.size < w6.heap.size := b3_6.out.l
  have g_b3_0 : w6.cell? ⟨w4.heap.size, 0, none⟩ = some (.int .i64 k) := b3_6.out.r 0 _ rfl
  have g_b3_1 : w6.cell? ⟨w4.heap.size, 1, none⟩ = some (.int .u8 (b0.toNat : Int)) := b3_6.out.r 1 _ rfl
  have g_b3_2 : w6.cell? ⟨w4.heap.size, 2, none⟩ = some (.int .u8 (b1.toNat : Int)) := b3_6.out.r 2 _ rfl
  have g_b3_3 : w6.cell? ⟨w4.heap.size, 3, none⟩ = some (.int .u8 (b2.toNat : Int)) := b3_6.out.r 3 _ rfl
  have g_b3_4 : w6.cell? ⟨w4.heap.size, 4, none⟩ = some (.int .u8 (b3.toNat : Int)) := b3_6.out.r 4 _ rfl
  have g_b3_5 : w6.cell? ⟨w4.heap.size, 5, none⟩ = some (.int .u8 (b4.toNat : Int)) := b3_6.out.r 5 _ rfl
  have g_b3_6 : w6.cell? ⟨w4.heap.size, 6, none⟩ = some (.int .u8 (b5.toNat : Int)) := b3_6.out.r 6 _ rfl
  have g_b3_7 : w6.cell? ⟨w4.heap.size, 7, none⟩ = some (.int .u8 (b6.toNat : Int)) := b3_6.out.r 7 _ rfl
  have g_b3_8 : w6.cell? ⟨w4.heap.size, 8, none⟩ = some (.int .u8 (b7.toNat : Int)) := b3_6.out.r 8 _ rfl
  go_wp2_with fail
  refine (L3.out _).mono ?_
  rintro e w7 ⟨rfl, hb⟩
  have hk : Below w6.heap.size w6 w7 := Below.trans (by repeat (first | exact Below.refl _ _ | refine Below.alloc ?_ (by first | omega | (simp; done) | (simp; omega)) _)) (hb.mono (by first | omega | (simp; done) | (simp; omega)))
  have E1_7 := Lib.hid (E1_6.out.under hk)
  clear E1_6
  have b1_7 := Lib.hid (b1_6.out.under hk)
  clear b1_6
  have E2_7 := Lib.hid (E2_6.out.under hk)
  clear E2_6
  have b2_7 := Lib.hid (b2_6.out.under hk)
  clear b2_6
  have b3_7 := Lib.hid (b3_6.out.under hk)
  clear b3_6
  have HB7 := Lib.hid (HB6.out.trans (hk.mono HB6.out.size))
  have T7 := Lib.hid (T6.out.under T6.out.lt hk)
  clear T6
  clear hk hb
  clear g_b3_l g_b3_0 g_b3_1 g_b3_2 g_b3_3 g_b3_4 g_b3_5 g_b3_6 g_b3_7 g_b3_8
  repeat (first | go_values | go_skip | go_guarded | (simp only [List.append_eq, List.cons_append, List.nil_append]) | go_step | go_upon | (simp only [Int.not_lt, Int.not_le] at *; go_simp))
  refine (Num_c _ v1 2 (ErrC.under E1_7.out (by repeat (first | exact Below.refl _ _ | refine Below.alloc ?_ (by first | omega | (simp; done) | (simp; omega)) _))) (T7.out.under T7.out.lt (by repeat (first | exact Below.refl _ _ | refine Below.alloc ?_ (by first | omega | (simp; done) | (simp; omega)) _)))).mono ?_
  rintro e w8 ⟨rfl, hb⟩
  have hk : Below w7.heap.size w7 w8 := Below.trans (by repeat (first | exact Below.refl _ _ | refine Below.alloc ?_ (by first | omega | (simp; done) | (simp; omega)) _)) (hb.mono (by first | omega | (simp; done) | (simp; omega)))
  have E1_8 := Lib.hid (E1_7.out.under hk)
  clear E1_7
  have b1_8 := Lib.hid (b1_7.out.under hk)
  clear b1_7
  have E2_8 := Lib.hid (E2_7.out.under hk)
  clear E2_7
  have b2_8 := Lib.hid (b2_7.out.under hk)
  clear b2_7
  have b3_8 := Lib.hid (b3_7.out.under hk)
  clear b3_7
  have HB8 := Lib.hid (HB7.out.trans (hk.mono HB7.out.size))
  have T8 := Lib.hid (T7.out.under T7.out.lt hk)
  clear T7
  clear hk hb
  have g_b1_l : w2.heap.size < w8.heap.size := b1_8.out.l
  have g_b1_0 : w8.cell? ⟨w2.heap.size, 0, none⟩ = some (.int .i64 0) := b1_8.out.r 0 _ rfl
  have g_b1_1 : w8.cell? ⟨w2.heap.size, 1, none⟩ = some (.int .i64 0) := b1_8.out.r 1 _ rfl
  have g_b1_2 : w8.cell? ⟨w2.heap.size, 2, none⟩ = some (.int .i64 0) := b1_8.out.r 2 _ rfl
  have g_b1_3 : w8.cell? ⟨w2.heap.size, 3, none⟩ = some (.int .i64 0) := b1_8.out.r 3 _ rfl
  have g_b1_4 : w8.cell? ⟨w2.heap.size, 4, none⟩ = some (.int .i64 0) := b1_8.out.r 4 _ rfl
  have g_b1_5 : w8.cell? ⟨w2.heap.size, 5, none⟩ = some (.int .i64 0) := b1_8.out.r 5 _ rfl
  have g_b1_6 : w8.cell? ⟨w2.heap.size, 6, none⟩ = some (.int .i64 0) := b1_8.out.r 6 _ rfl
  repeat (first | go_values | go_skip | go_guarded | (simp only [List.append_eq, List.cons_append, List.nil_append]) | go_step | go_upon | (simp only [Int.not_lt, Int.not_le] at *; go_simp))
  refine (Num_c _ v2 2 (ErrC.under E2_8.out (by repeat (first | exact Below.refl _ _ | refine Below.alloc ?_ (by first | omega | (simp; done) | (simp; omega)) _))) (T8.out.under T8.out.lt (by repeat (first | exact Below.refl _ _ | refine Below.alloc ?_ (by first | omega | (simp; done) | (simp; omega)) _)))).mono ?_
  rintro e w9 ⟨rfl, hb⟩
  have hk : Below w8.heap.size w8 w9 := Below.trans (by repeat (first | exact Below.refl _ _ | refine Below.alloc ?_ (by first | omega | (simp; done) | (simp; omega)) _)) (hb.mono (by first | omega | (simp; done) | (simp; omega)))
  have E1_9 := Lib.hid (E1_8.out.under hk)
  clear E1_8
  have b1_9 := Lib.hid (b1_8.out.under hk)
  clear b1_8
  have E2_9 := Lib.hid (E2_8.out.under hk)
  clear E2_8
  have b2_9 := Lib.hid (b2_8.out.under hk)
  clear b2_8
  have b3_9 := Lib.hid (b3_8.out.under hk)
  clear b3_8
  have HB9 := Lib.hid (HB8.out.trans (hk.mono HB8.out.size))
  have T9 := Lib.hid (T8.out.under T8.out.lt hk)
  clear T8
  clear hk hb
  have g_b2_l : w3.heap.size < w9.heap.size := b2_9.out.l
  have g_b2_0 : w9.cell? ⟨w3.heap.size, 0, none⟩ = some (.int .i64 0) := b2_9.out.r 0 _ rfl
  have g_b2_1 : w9.cell? ⟨w3.heap.size, 1, none⟩ = some (.int .i64 0) := b2_9.out.r 1 _ rfl
  have g_b2_2 : w9.cell? ⟨w3.heap.size, 2, none⟩ = some (.int .i64 0) := b2_9.out.r 2 _ rfl
  repeat (first | go_values | go_skip | go_guarded | (simp only [List.append_eq, List.cons_append, List.nil_append]) | go_step | go_upon | (simp only [Int.not_lt, Int.not_le] at *; go_simp))
  refine (Num_nil _).mono ?_
  rintro e _ ⟨rfl, rfl⟩
  repeat (first | go_values | go_skip | go_guarded | (simp only [List.append_eq, List.cons_append, List.nil_append]) | go_step | go_upon | (simp only [Int.not_lt, Int.not_le] at *; go_simp))
  refine (Num_nil _).mono ?_
  rintro e _ ⟨rfl, rfl⟩
  repeat (first | go_values | go_skip | go_guarded | (simp only [List.append_eq, List.cons_append, List.nil_append]) | go_step | go_upon | (simp only [Int.not_lt, Int.not_le] at *; go_simp))
  refine (Num_nil _).mono ?_
  rintro e _ ⟨rfl, rfl⟩
  repeat (first | go_values | go_skip | go_guarded | (simp only [List.append_eq, List.cons_append, List.nil_append]) | go_step | go_upon | (simp only [Int.not_lt, Int.not_le] at *; go_simp))
  go_ret
  exact ⟨rfl, (HB9.out.trans (by repeat (first | exact Below.refl _ _ | refine Below.alloc ?_ (by first | omega | (simp; done) | (simp; omega)) _)))⟩
set_option maxHeartbeats 4000000 in
set_option maxRecDepth 100000 in
theorem only_010 (s : ByteArray) (y : Tas) (w : World) (h : s.size ≤ 100) (hr : robRead s = false) (R2 : Hid (∀ w, Calls Tryd.prog 22 #[.string s] w fun e w' => e = .returned (.tuple #[.agg y.cs, .nilIface]) ∧ Below w.heap.size w w')) (L2 : Hid (∀ w, Calls Tryd.prog 20 #[.agg y.cs] w fun e w' => e = .returned (.tuple #[.string s, .nilIface]) ∧ Below w.heap.size w w')) (ha : alRead s = false) (tied : Tied w) : Calls Tryd.prog 6 #[.string s] w fun e w' => e = .returned (.bool true) ∧ Below w.heap.size w w' := by
  have hd : decide (100 < (s.size : Int)) = false := by simp; omega
  have R1 := Lib.hid (fun w => rob_read_no s (by omega) hr w)
  have L1 := Lib.hid (fun w => lay_rob_ok ⟨0, 0, 0, 0, 0, 0, 0⟩ (by decide) w)
  have hbr := build_rz
  clear hr
  have R3 := Lib.hid (fun w => al_read_no s (by omega) ha w)
  have L3 := Lib.hid (fun w => lay_all_zero w)
  have hba := build_zero
  have hqo := eq_oct
  clear ha
  clear h
  have HB0 := Lib.hid (Below.refl w.heap.size w)
  have T0 := Lib.hid tied
  clear tied
  go_enter Tryd.func6, Tryd.ntmps6
  go_wp2_with fail
  refine (rec_awake _).mono ?_
  rintro e w1 ⟨rfl, hb⟩
  have hk : Below w.heap.size w w1 := Below.trans (by repeat (first | exact Below.refl _ _ | refine Below.alloc ?_ (by first | omega | (simp; done) | (simp; omega)) _)) (hb.mono (by first | omega | (simp; done) | (simp; omega)))
  have HB1 := Lib.hid (HB0.out.trans (hk.mono HB0.out.size))
  have T1 := Lib.hid (T0.out.under T0.out.lt hk)
  clear T0
  clear hk hb
  go_wp2_with fail
  refine (R1.out _).mono ?_
  rintro e w2 ⟨v1, rfl, he, hb⟩
  have hk : Below w1.heap.size w1 w2 := Below.trans (by repeat (first | exact Below.refl _ _ | refine Below.alloc ?_ (by first | omega | (simp; done) | (simp; omega)) _)) (hb.mono (by first | omega | (simp; done) | (simp; omega)))
  have HB2 := Lib.hid (HB1.out.trans (hk.mono HB1.out.size))
  have T2 := Lib.hid (T1.out.under T1.out.lt hk)
  clear T1
  have E1_2 := Lib.hid he
  clear he
  clear hk hb
  go_wp2_with (first | ((with_reducible refine at_st 30 (.tmp 3) (.tmp 26) ?_); refine st_last rfl 30 _ _ rfl _ _ _ rfl rfl _ rfl rfl (by kernel_rfl) (by simp [Value.oneCell']) ?_))
  refine (R2.out _).mono ?_
  rintro e w3 ⟨rfl, hb⟩
  have hat_b1 := (At.new w2 (⟨0, 0, 0, 0, 0, 0, 0⟩ : Rob).cs 30)
  have hk : Below w2.heap.size w2 w3 := Below.trans (by repeat (first | exact Below.refl _ _ | refine Below.alloc ?_ (by first | omega | (simp; done) | (simp; omega)) _)) (hb.mono (by first | omega | (simp; done) | (simp; omega)))
  have E1_3 := Lib.hid (E1_2.out.under hk)
  clear E1_2
  have b1_3 := Lib.hid (hat_b1.under hb)
  clear hat_b1
  have HB3 := Lib.hid (HB2.out.trans (hk.mono HB2.out.size))
  have T3 := Lib.hid (T2.out.under T2.out.lt hk)
  clear T2
  clear hk hb
  go_wp2_with (first | ((with_reducible refine at_st 43 (.tmp 5) (.tmp 31) ?_); refine st_last rfl 43 _ _ rfl _ _ _ rfl rfl _ rfl rfl (by kernel_rfl) (by simp [Value.oneCell']) ?_))
  refine (R3.out _).mono ?_
  rintro e w4 ⟨v3, rfl, he, hb⟩
  have hat_b2 := (At.new w3 y.cs 43)
  have hk : Below w3.heap.size w3 w4 := Below.trans (by repeat (first | exact Below.refl _ _ | refine Below.alloc ?_ (by first | omega | (simp; done) | (simp; omega)) _)) (hb.mono (by first | omega | (simp; done) | (simp; omega)))
  have E1_4 := Lib.hid (E1_3.out.under hk)
  clear E1_3
  have b1_4 := Lib.hid (b1_3.out.under hk)
  clear b1_3
  have b2_4 := Lib.hid (hat_b2.under hb)
  clear hat_b2
  have HB4 := Lib.hid (HB3.out.trans (hk.mono HB3.out.size))
  have T4 := Lib.hid (T3.out.under T3.out.lt hk)
  clear T3
  have E3_4 := Lib.hid he
  clear he
  clear hk hb
  have g_b1_l : w2.heap.size < w4.heap.size := b1_4.out.l
  have g_b1_0 : w4.cell? ⟨w2.heap.size, 0, none⟩ = some (.int .i64 0) := b1_4.out.r 0 _ rfl
  have g_b1_1 : w4.cell? ⟨w2.heap.size, 1, none⟩ = some (.int .i64 0) := b1_4.out.r 1 _ rfl
  have g_b1_2 : w4.cell? ⟨w2.heap.size, 2, none⟩ = some (.int .i64 0) := b1_4.out.r 2 _ rfl
  have g_b1_3 : w4.cell? ⟨w2.heap.size, 3, none⟩ = some (.int .i64 0) := b1_4.out.r 3 _ rfl
  have g_b1_4 : w4.cell? ⟨w2.heap.size, 4, none⟩ = some (.int .i64 0) := b1_4.out.r 4 _ rfl
  have g_b1_5 : w4.cell? ⟨w2.heap.size, 5, none⟩ = some (.int .i64 0) := b1_4.out.r 5 _ rfl
  have g_b1_6 : w4.cell? ⟨w2.heap.size, 6, none⟩ = some (.int .i64 0) := b1_4.out.r 6 _ rfl
  go_wp2_with (first | ((with_reducible refine at_st 45 (.tmp 7) (.tmp 36) ?_); refine st_last rfl 45 _ _ rfl _ _ _ rfl rfl _ rfl rfl (by kernel_rfl) (by simp [Value.oneCell']) ?_))
  refine (L1.out _).mono ?_
  rintro e w5 ⟨rfl, hb⟩
  have hat_b3 := (At.new w4 alZ 45)
  have hk : Below w4.heap.size w4 w5 := Below.trans (by repeat (first | exact Below.refl _ _ | refine Below.alloc ?_ (by first | omega | (simp; done) | (simp; omega)) _)) (hb.mono (by first | omega | (simp; done) | (simp; omega)))
  have E1_5 := Lib.hid (E1_4.out.under hk)
  clear E1_4
  have b1_5 := Lib.hid (b1_4.out.under hk)
  clear b1_4
  have b2_5 := Lib.hid (b2_4.out.under hk)
  clear b2_4
  have E3_5 := Lib.hid (E3_4.out.under hk)
  clear E3_4
  have b3_5 := Lib.hid (hat_b3.under hb)
  clear hat_b3
  have HB5 := Lib.hid (HB4.out.trans (hk.mono HB4.out.size))
  have T5 := Lib.hid (T4.out.under T4.out.lt hk)
  clear T4
  clear hk hb
  clear g_b1_l g_b1_0 g_b1_1 g_b1_2 g_b1_3 g_b1_4 g_b1_5 g_b1_6
  have g_b2_l : w3.heap.size < w5.heap.size := b2_5.out.l
  have g_b2_0 : w5.cell? ⟨w3.heap.size, 0, none⟩ = some (.int .i64 y.f) := b2_5.out.r 0 _ rfl
  have g_b2_1 : w5.cell? ⟨w3.heap.size, 1, none⟩ = some (.int .i64 y.t) := b2_5.out.r 1 _ rfl
  have g_b2_2 : w5.cell? ⟨w3.heap.size, 2, none⟩ = some (.int .i64 y.s) := b2_5.out.r 2 _ rfl
  go_wp2_with fail
  refine (L2.out _).mono ?_
  rintro e w6 ⟨rfl, hb⟩
  have hk : Below w5.heap.size w5 w6 := Below.trans (by repeat (first | exact Below.refl _ _ | refine Below.alloc ?_ (by first | omega | (simp; done) | (simp; omega)) _)) (hb.mono (by first | omega | (simp; done) | (simp; omega)))
  have E1_6 := Lib.hid (E1_5.out.under hk)
  clear E1_5
  have b1_6 := Lib.hid (b1_5.out.under hk)
  clear b1_5
  have b2_6 := Lib.hid (b2_5.out.under hk)
  clear b2_5
  have E3_6 := Lib.hid (E3_5.out.under hk)
  clear E3_5
  have b3_6 := Lib.hid (b3_5.out.under hk)
  clear b3_5
  have HB6 := Lib.hid (HB5.out.trans (hk.mono HB5.out.size))
  have T6 := Lib.hid (T5.out.under T5.out.lt hk)
  clear T5
  clear hk hb
  clear g_b2_l g_b2_0 g_b2_1 g_b2_2
  have g_b3_l : w4.heap.size < w6.heap.size := b3_6.out.l
  have g_b3_0 : w6.cell? ⟨w4.heap.size, 0, none⟩ = some (.int .i64 0) := b3_6.out.r 0 _ rfl
  have g_b3_1 : w6.cell? ⟨w4.heap.size, 1, none⟩ = some (.int .u8 0) := b3_6.out.r 1 _ rfl
  have g_b3_2 : w6.cell? ⟨w4.heap.size, 2, none⟩ = some (.int .u8 0) := b3_6.out.r 2 _ rfl
  have g_b3_3 : w6.cell? ⟨w4.heap.size, 3, none⟩ = some (.int .u8 0) := b3_6.out.r 3 _ rfl
  have g_b3_4 : w6.cell? ⟨w4.heap.size, 4, none⟩ = some (.int .u8 0) := b3_6.out.r 4 _ rfl
  have g_b3_5 : w6.cell? ⟨w4.heap.size, 5, none⟩ = some (.int .u8 0) := b3_6.out.r 5 _ rfl
  have g_b3_6 : w6.cell? ⟨w4.heap.size, 6, none⟩ = some (.int .u8 0) := b3_6.out.r 6 _ rfl
  have g_b3_7 : w6.cell? ⟨w4.heap.size, 7, none⟩ = some (.int .u8 0) := b3_6.out.r 7 _ rfl
  have g_b3_8 : w6.cell? ⟨w4.heap.size, 8, none⟩ = some (.int .u8 0) := b3_6.out.r 8 _ rfl
  go_wp2_with fail
  refine (L3.out _).mono ?_
  rintro e w7 ⟨rfl, hb⟩
  have hk : Below w6.heap.size w6 w7 := Below.trans (by repeat (first | exact Below.refl _ _ | refine Below.alloc ?_ (by first | omega | (simp; done) | (simp; omega)) _)) (hb.mono (by first | omega | (simp; done) | (simp; omega)))
  have E1_7 := Lib.hid (E1_6.out.under hk)
  clear E1_6
  have b1_7 := Lib.hid (b1_6.out.under hk)
  clear b1_6
  have b2_7 := Lib.hid (b2_6.out.under hk)
  clear b2_6
  have E3_7 := Lib.hid (E3_6.out.under hk)
  clear E3_6
  have b3_7 := Lib.hid (b3_6.out.under hk)
  clear b3_6
  have HB7 := Lib.hid (HB6.out.trans (hk.mono HB6.out.size))
  have T7 := Lib.hid (T6.out.under T6.out.lt hk)
  clear T6
  clear hk hb
  clear g_b3_l g_b3_0 g_b3_1 g_b3_2 g_b3_3 g_b3_4 g_b3_5 g_b3_6 g_b3_7 g_b3_8
  repeat (first | go_values | go_skip | go_guarded | (simp only [List.append_eq, List.cons_append, List.nil_append]) | go_step | go_upon | (simp only [Int.not_lt, Int.not_le] at *; go_simp))
  refine (Num_c _ v1 2 (ErrC.under E1_7.out (by repeat (first | exact Below.refl _ _ | refine Below.alloc ?_ (by first | omega | (simp; done) | (simp; omega)) _))) (T7.out.under T7.out.lt (by repeat (first | exact Below.refl _ _ | refine Below.alloc ?_ (by first | omega | (simp; done) | (simp; omega)) _)))).mono ?_
  rintro e w8 ⟨rfl, hb⟩
  have hk : Below w7.heap.size w7 w8 := Below.trans (by repeat (first | exact Below.refl _ _ | refine Below.alloc ?_ (by first | omega | (simp; done) | (simp; omega)) _)) (hb.mono (by first | omega | (simp; done) | (simp; omega)))
  have E1_8 := Lib.hid (E1_7.out.under hk)
  clear E1_7
  have b1_8 := Lib.hid (b1_7.out.under hk)
  clear b1_7
  have b2_8 := Lib.hid (b2_7.out.under hk)
  clear b2_7
  have E3_8 := Lib.hid (E3_7.out.under hk)
  clear E3_7
  have b3_8 := Lib.hid (b3_7.out.under hk)
  clear b3_7
  have HB8 := Lib.hid (HB7.out.trans (hk.mono HB7.out.size))
  have T8 := Lib.hid (T7.out.under T7.out.lt hk)
  clear T7
  clear hk hb
  have g_b1_l : w2.heap.size < w8.heap.size := b1_8.out.l
  have g_b1_0 : w8.cell? ⟨w2.heap.size, 0, none⟩ = some (.int .i64 0) := b1_8.out.r 0 _ rfl
  have g_b1_1 : w8.cell? ⟨w2.heap.size, 1, none⟩ = some (.int .i64 0) := b1_8.out.r 1 _ rfl
  have g_b1_2 : w8.cell? ⟨w2.heap.size, 2, none⟩ = some (.int .i64 0) := b1_8.out.r 2 _ rfl
  have g_b1_3 : w8.cell? ⟨w2.heap.size, 3, none⟩ = some (.int .i64 0) := b1_8.out.r 3 _ rfl
  have g_b1_4 : w8.cell? ⟨w2.heap.size, 4, none⟩ = some (.int .i64 0) := b1_8.out.r 4 _ rfl
  have g_b1_5 : w8.cell? ⟨w2.heap.size, 5, none⟩ = some (.int .i64 0) := b1_8.out.r 5 _ rfl
  have g_b1_6 : w8.cell? ⟨w2.heap.size, 6, none⟩ = some (.int .i64 0) := b1_8.out.r 6 _ rfl
  repeat (first | go_values | go_skip | go_guarded | (simp only [List.append_eq, List.cons_append, List.nil_append]) | go_step | go_upon | (simp only [Int.not_lt, Int.not_le] at *; go_simp))
  refine (Num_nil _).mono ?_
  rintro e _ ⟨rfl, rfl⟩
  repeat (first | go_values | go_skip | go_guarded | (simp only [List.append_eq, List.cons_append, List.nil_append]) | go_step | go_upon | (simp only [Int.not_lt, Int.not_le] at *; go_simp))
  refine (Num_nil _).mono ?_
  rintro e _ ⟨rfl, rfl⟩
  repeat (first | go_values | go_skip | go_guarded | (simp only [List.append_eq, List.cons_append, List.nil_append]) | go_step | go_upon | (simp only [Int.not_lt, Int.not_le] at *; go_simp))
  refine (Num_nil _).mono ?_
  rintro e _ ⟨rfl, rfl⟩
  repeat (first | go_values | go_skip | go_guarded | (simp only [List.append_eq, List.cons_append, List.nil_append]) | go_step | go_upon | (simp only [Int.not_lt, Int.not_le] at *; go_simp))
  refine (Num_c _ v3 2 (ErrC.under E3_8.out (by repeat (first | exact Below.refl _ _ | refine Below.alloc ?_ (by first | omega | (simp; done) | (simp; omega)) _))) (T8.out.under T8.out.lt (by repeat (first | exact Below.refl _ _ | refine Below.alloc ?_ (by first | omega | (simp; done) | (simp; omega)) _)))).mono ?_
  rintro e w9 ⟨rfl, hb⟩
  have hk : Below w8.heap.size w8 w9 := Below.trans (by repeat (first | exact Below.refl _ _ | refine Below.alloc ?_ (by first | omega | (simp; done) | (simp; omega)) _)) (hb.mono (by first | omega | (simp; done) | (simp; omega)))
  have E1_9 := Lib.hid (E1_8.out.under hk)
  clear E1_8
  have b1_9 := Lib.hid (b1_8.out.under hk)
  clear b1_8
  have b2_9 := Lib.hid (b2_8.out.under hk)
  clear b2_8
  have E3_9 := Lib.hid (E3_8.out.under hk)
  clear E3_8
  have b3_9 := Lib.hid (b3_8.out.under hk)
  clear b3_8
  have HB9 := Lib.hid (HB8.out.trans (hk.mono HB8.out.size))
  have T9 := Lib.hid (T8.out.under T8.out.lt hk)
  clear T8
  clear hk hb
  have g_b3_l : w4.heap.size < w9.heap.size := b3_9.out.l
  have g_b3_0 : w9.cell? ⟨w4.heap.size, 0, none⟩ = some (.int .i64 0) := b3_9.out.r 0 _ rfl
  have g_b3_1 : w9.cell? ⟨w4.heap.size, 1, none⟩ = some (.int .u8 0) := b3_9.out.r 1 _ rfl
  have g_b3_2 : w9.cell? ⟨w4.heap.size, 2, none⟩ = some (.int .u8 0) := b3_9.out.r 2 _ rfl
  have g_b3_3 : w9.cell? ⟨w4.heap.size, 3, none⟩ = some (.int .u8 0) := b3_9.out.r 3 _ rfl
  have g_b3_4 : w9.cell? ⟨w4.heap.size, 4, none⟩ = some (.int .u8 0) := b3_9.out.r 4 _ rfl
  have g_b3_5 : w9.cell? ⟨w4.heap.size, 5, none⟩ = some (.int .u8 0) := b3_9.out.r 5 _ rfl
  have g_b3_6 : w9.cell? ⟨w4.heap.size, 6, none⟩ = some (.int .u8 0) := b3_9.out.r 6 _ rfl
  have g_b3_7 : w9.cell? ⟨w4.heap.size, 7, none⟩ = some (.int .u8 0) := b3_9.out.r 7 _ rfl
  have g_b3_8 : w9.cell? ⟨w4.heap.size, 8, none⟩ = some (.int .u8 0) := b3_9.out.r 8 _ rfl
  repeat (first | go_values | go_skip | go_guarded | (simp only [List.append_eq, List.cons_append, List.nil_append]) | go_step | go_upon | (simp only [Int.not_lt, Int.not_le] at *; go_simp))
  go_ret
  exact ⟨rfl, (HB9.out.trans (by repeat (first | exact Below.refl _ _ | refine Below.alloc ?_ (by first | omega | (simp; done) | (simp; omega)) _)))⟩
set_option maxHeartbeats 4000000 in
set_option maxRecDepth 100000 in
theorem only_011 (s : ByteArray) (y : Tas) (k : Int) (b0 b1 b2 b3 b4 b5 b6 b7 : UInt8) (w : World) (h : s.size ≤ 100) (hr : robRead s = false) (R2 : Hid (∀ w, Calls Tryd.prog 22 #[.string s] w fun e w' => e = .returned (.tuple #[.agg y.cs, .nilIface]) ∧ Below w.heap.size w w')) (L2 : Hid (∀ w, Calls Tryd.prog 20 #[.agg y.cs] w fun e w' => e = .returned (.tuple #[.string s, .nilIface]) ∧ Below w.heap.size w w')) (R3 : Hid (∀ w, Calls Tryd.prog 23 #[.string s] w fun e w' => e = .returned (.tuple #[.agg (alCs k b0 b1 b2 b3 b4 b5 b6 b7), .nilIface]) ∧ Below w.heap.size w w')) (L3 : Hid (∀ w, Calls Tryd.prog 21 #[.agg (alCs k b0 b1 b2 b3 b4 b5 b6 b7)] w fun e w' => e = .returned (.tuple #[.string s, .nilIface]) ∧ Below w.heap.size w w')) (tied : Tied w) : Calls Tryd.prog 6 #[.string s] w fun e w' => e = .returned (.bool true) ∧ Below w.heap.size w w' := by
  have hd : decide (100 < (s.size : Int)) = false := by simp; omega
  have R1 := Lib.hid (fun w => rob_read_no s (by omega) hr w)
  have L1 := Lib.hid (fun w => lay_rob_ok ⟨0, 0, 0, 0, 0, 0, 0⟩ (by decide) w)
  have hbr := build_rz
  clear hr
  clear h
  have HB0 := Lib.hid (Below.refl w.heap.size w)
  have T0 := Lib.hid tied
  clear tied
  go_enter Tryd.func6, Tryd.ntmps6
  go_wp2_with fail
  refine (rec_awake _).mono ?_
  rintro e w1 ⟨rfl, hb⟩
  have hk : Below w.heap.size w w1 := Below.trans (by repeat (first | exact Below.refl _ _ | refine Below.alloc ?_ (by first | omega | (simp; done) | (simp; omega)) _)) (hb.mono (by first | omega | (simp; done) | (simp; omega)))
  have HB1 := Lib.hid (HB0.out.trans (hk.mono HB0.out.size))
  have T1 := Lib.hid (T0.out.under T0.out.lt hk)
  clear T0
  clear hk hb
  go_wp2_with fail
  refine (R1.out _).mono ?_
  rintro e w2 ⟨v1, rfl, he, hb⟩
  have hk : Below w1.heap.size w1 w2 := Below.trans (by repeat (first | exact Below.refl _ _ | refine Below.alloc ?_ (by first | omega | (simp; done) | (simp; omega)) _)) (hb.mono (by first | omega | (simp; done) | (simp; omega)))
  have HB2 := Lib.hid (HB1.out.trans (hk.mono HB1.out.size))
  have T2 := Lib.hid (T1.out.under T1.out.lt hk)
  clear T1
  have E1_2 := Lib.hid he
  clear he
  clear hk hb
  go_wp2_with (first | ((with_reducible refine at_st 30 (.tmp 3) (.tmp 26) ?_); refine st_last rfl 30 _ _ rfl _ _ _ rfl rfl _ rfl rfl (by kernel_rfl) (by simp [Value.oneCell']) ?_))
  refine (R2.out _).mono ?_
  rintro e w3 ⟨rfl, hb⟩
  have hat_b1 := (At.new w2 (⟨0, 0, 0, 0, 0, 0, 0⟩ : Rob).cs 30)
  have hk : Below w2.heap.size w2 w3 := Below.trans (by repeat (first | exact Below.refl _ _ | refine Below.alloc ?_ (by first | omega | (simp; done) | (simp; omega)) _)) (hb.mono (by first | omega | (simp; done) | (simp; omega)))
  have E1_3 := Lib.hid (E1_2.out.under hk)
  clear E1_2
  have b1_3 := Lib.hid (hat_b1.under hb)
  clear hat_b1
  have HB3 := Lib.hid (HB2.out.trans (hk.mono HB2.out.size))
  have T3 := Lib.hid (T2.out.under T2.out.lt hk)
  clear T2
  clear hk hb
  go_wp2_with (first | ((with_reducible refine at_st 43 (.tmp 5) (.tmp 31) ?_); refine st_last rfl 43 _ _ rfl _ _ _ rfl rfl _ rfl rfl (by kernel_rfl) (by simp [Value.oneCell']) ?_))
  refine (R3.out _).mono ?_
  rintro e w4 ⟨rfl, hb⟩
  have hat_b2 := (At.new w3 y.cs 43)
  have hk : Below w3.heap.size w3 w4 := Below.trans (by repeat (first | exact Below.refl _ _ | refine Below.alloc ?_ (by first | omega | (simp; done) | (simp; omega)) _)) (hb.mono (by first | omega | (simp; done) | (simp; omega)))
  have E1_4 := Lib.hid (E1_3.out.under hk)
  clear E1_3
  have b1_4 := Lib.hid (b1_3.out.under hk)
  clear b1_3
  have b2_4 := Lib.hid (hat_b2.under hb)
  clear hat_b2
  have HB4 := Lib.hid (HB3.out.trans (hk.mono HB3.out.size))
  have T4 := Lib.hid (T3.out.under T3.out.lt hk)
  clear T3
  clear hk hb
  have g_b1_l : w2.heap.size < w4.heap.size := b1_4.out.l
  have g_b1_0 : w4.cell? ⟨w2.heap.size, 0, none⟩ = some (.int .i64 0) := b1_4.out.r 0 _ rfl
  have g_b1_1 : w4.cell? ⟨w2.heap.size, 1, none⟩ = some (.int .i64 0) := b1_4.out.r 1 _ rfl
  have g_b1_2 : w4.cell? ⟨w2.heap.size, 2, none⟩ = some (.int .i64 0) := b1_4.out.r 2 _ rfl
  have g_b1_3 : w4.cell? ⟨w2.heap.size, 3, none⟩ = some (.int .i64 0) := b1_4.out.r 3 _ rfl
  have g_b1_4 : w4.cell? ⟨w2.heap.size, 4, none⟩ = some (.int .i64 0) := b1_4.out.r 4 _ rfl
  have g_b1_5 : w4.cell? ⟨w2.heap.size, 5, none⟩ = some (.int .i64 0) := b1_4.out.r 5 _ rfl
  have g_b1_6 : w4.cell? ⟨w2.heap.size, 6, none⟩ = some (.int .i64 0) := b1_4.out.r 6 _ rfl
  go_wp2_with (first | ((with_reducible refine at_st 45 (.tmp 7) (.tmp 36) ?_); refine st_last rfl 45 _ _ rfl _ _ _ rfl rfl _ rfl rfl (by kernel_rfl) (by simp [Value.oneCell']) ?_))
  refine (L1.out _).mono ?_
  rintro e w5 ⟨rfl, hb⟩
  have hat_b3 := (At.new w4 (alCs k b0 b1 b2 b3 b4 b5 b6 b7) 45)
  have hk : Below w4.heap.size w4 w5 := Below.trans (by repeat (first | exact Below.refl _ _ | refine Below.alloc ?_ (by first | omega | (simp; done) | (simp; omega)) _)) (hb.mono (by first | omega | (simp; done) | (simp; omega)))
  have E1_5 := Lib.hid (E1_4.out.under hk)
  clear E1_4
  have b1_5 := Lib.hid (b1_4.out.under hk)
  clear b1_4
  have b2_5 := Lib.hid (b2_4.out.under hk)
  clear b2_4
  have b3_5 := Lib.hid (hat_b3.under hb)
  clear hat_b3
  have HB5 := Lib.hid (HB4.out.trans (hk.mono HB4.out.size))
  have T5 := Lib.hid (T4.out.under T4.out.lt hk)
  clear T4
  clear hk hb
  clear g_b1_l g_b1_0 g_b1_1 g_b1_2 g_b1_3 g_b1_4 g_b1_5 g_b1_6
  have g_b2_l : w3.heap.size < w5.heap.size := b2_5.out.l
  have g_b2_0 : w5.cell? ⟨w3.heap.size, 0, none⟩ = some (.int .i64 y.f) := b2_5.out.r 0 _ rfl
  have g_b2_1 : w5.cell? ⟨w3.heap.size, 1, none⟩ = some (.int .i64 y.t) := b2_5.out.r 1 _ rfl
  have g_b2_2 : w5.cell? ⟨w3.heap.size, 2, none⟩ = some (.int .i64 y.s) := b2_5.out.r 2 _ rfl
  go_wp2_with fail
  refine (L2.out _).mono ?_
  rintro e w6 ⟨rfl, hb⟩
  have hk : Below w5.heap.size w5 w6 := Below.trans (by repeat (first | exact Below.refl _ _ | refine Below.alloc ?_ (by first | omega | (simp; done) | (simp; omega)) _)) (hb.mono (by first | omega | (simp; done) | (simp; omega)))
  have E1_6 := Lib.hid (E1_5.out.under hk)
  clear E1_5
  have b1_6 := Lib.hid (b1_5.out.under hk)
  clear b1_5
  have b2_6 := Lib.hid (b2_5.out.under hk)
  clear b2_5
  have b3_6 := Lib.hid (b3_5.out.under hk)
  clear b3_5
  have HB6 := Lib.hid (HB5.out.trans (hk.mono HB5.out.size))
  have T6 := Lib.hid (T5.out.under T5.out.lt hk)
  clear T5
  clear hk hb
  clear g_b2_l g_b2_0 g_b2_1 g_b2_2
  have g_b3_l : w4.heap.size < w6.heap.size := b3_6.out.l
  have g_b3_0 : w6.cell? ⟨w4.heap.size, 0, none⟩ = some (.int .i64 k) := b3_6.out.r 0 _ rfl
  have g_b3_1 : w6.cell? ⟨w4.heap.size, 1, none⟩ = some (.int .u8 (b0.toNat : Int)) := b3_6.out.r 1 _ rfl
  have g_b3_2 : w6.cell? ⟨w4.heap.size, 2, none⟩ = some (.int .u8 (b1.toNat : Int)) := b3_6.out.r 2 _ rfl
  have g_b3_3 : w6.cell? ⟨w4.heap.size, 3, none⟩ = some (.int .u8 (b2.toNat : Int)) := b3_6.out.r 3 _ rfl
  have g_b3_4 : w6.cell? ⟨w4.heap.size, 4, none⟩ = some (.int .u8 (b3.toNat : Int)) := b3_6.out.r 4 _ rfl
  have g_b3_5 : w6.cell? ⟨w4.heap.size, 5, none⟩ = some (.int .u8 (b4.toNat : Int)) := b3_6.out.r 5 _ rfl
  have g_b3_6 : w6.cell? ⟨w4.heap.size, 6, none⟩ = some (.int .u8 (b5.toNat : Int)) := b3_6.out.r 6 _ rfl
  have g_b3_7 : w6.cell? ⟨w4.heap.size, 7, none⟩ = some (.int .u8 (b6.toNat : Int)) := b3_6.out.r 7 _ rfl
  have g_b3_8 : w6.cell? ⟨w4.heap.size, 8, none⟩ = some (.int .u8 (b7.toNat : Int)) := b3_6.out.r 8 _ rfl
  go_wp2_with fail
  refine (L3.out _).mono ?_
  rintro e w7 ⟨rfl, hb⟩
  have hk : Below w6.heap.size w6 w7 := Below.trans (by repeat (first | exact Below.refl _ _ | refine Below.alloc ?_ (by first | omega | (simp; done) | (simp; omega)) _)) (hb.mono (by first | omega | (simp; done) | (simp; omega)))
  have E1_7 := Lib.hid (E1_6.out.under hk)
  clear E1_6
  have b1_7 := Lib.hid (b1_6.out.under hk)
  clear b1_6
  have b2_7 := Lib.hid (b2_6.out.under hk)
  clear b2_6
  have b3_7 := Lib.hid (b3_6.out.under hk)
  clear b3_6
  have HB7 := Lib.hid (HB6.out.trans (hk.mono HB6.out.size))
  have T7 := Lib.hid (T6.out.under T6.out.lt hk)
  clear T6
  clear hk hb
  clear g_b3_l g_b3_0 g_b3_1 g_b3_2 g_b3_3 g_b3_4 g_b3_5 g_b3_6 g_b3_7 g_b3_8
  repeat (first | go_values | go_skip | go_guarded | (simp only [List.append_eq, List.cons_append, List.nil_append]) | go_step | go_upon | (simp only [Int.not_lt, Int.not_le] at *; go_simp))
  refine (Num_c _ v1 2 (ErrC.under E1_7.out (by repeat (first | exact Below.refl _ _ | refine Below.alloc ?_ (by first | omega | (simp; done) | (simp; omega)) _))) (T7.out.under T7.out.lt (by repeat (first | exact Below.refl _ _ | refine Below.alloc ?_ (by first | omega | (simp; done) | (simp; omega)) _)))).mono ?_
  rintro e w8 ⟨rfl, hb⟩
  have hk : Below w7.heap.size w7 w8 := Below.trans (by repeat (first | exact Below.refl _ _ | refine Below.alloc ?_ (by first | omega | (simp; done) | (simp; omega)) _)) (hb.mono (by first | omega | (simp; done) | (simp; omega)))
  have E1_8 := Lib.hid (E1_7.out.under hk)
  clear E1_7
  have b1_8 := Lib.hid (b1_7.out.under hk)
  clear b1_7
  have b2_8 := Lib.hid (b2_7.out.under hk)
  clear b2_7
  have b3_8 := Lib.hid (b3_7.out.under hk)
  clear b3_7
  have HB8 := Lib.hid (HB7.out.trans (hk.mono HB7.out.size))
  have T8 := Lib.hid (T7.out.under T7.out.lt hk)
  clear T7
  clear hk hb
  have g_b1_l : w2.heap.size < w8.heap.size := b1_8.out.l
  have g_b1_0 : w8.cell? ⟨w2.heap.size, 0, none⟩ = some (.int .i64 0) := b1_8.out.r 0 _ rfl
  have g_b1_1 : w8.cell? ⟨w2.heap.size, 1, none⟩ = some (.int .i64 0) := b1_8.out.r 1 _ rfl
  have g_b1_2 : w8.cell? ⟨w2.heap.size, 2, none⟩ = some (.int .i64 0) := b1_8.out.r 2 _ rfl
  have g_b1_3 : w8.cell? ⟨w2.heap.size, 3, none⟩ = some (.int .i64 0) := b1_8.out.r 3 _ rfl
  have g_b1_4 : w8.cell? ⟨w2.heap.size, 4, none⟩ = some (.int .i64 0) := b1_8.out.r 4 _ rfl
  have g_b1_5 : w8.cell? ⟨w2.heap.size, 5, none⟩ = some (.int .i64 0) := b1_8.out.r 5 _ rfl
  have g_b1_6 : w8.cell? ⟨w2.heap.size, 6, none⟩ = some (.int .i64 0) := b1_8.out.r 6 _ rfl
  repeat (first | go_values | go_skip | go_guarded | (simp only [List.append_eq, List.cons_append, List.nil_append]) | go_step | go_upon | (simp only [Int.not_lt, Int.not_le] at *; go_simp))
  refine (Num_nil _).mono ?_
  rintro e _ ⟨rfl, rfl⟩
  repeat (first | go_values | go_skip | go_guarded | (simp only [List.append_eq, List.cons_append, List.nil_append]) | go_step | go_upon | (simp only [Int.not_lt, Int.not_le] at *; go_simp))
  refine (Num_nil _).mono ?_
  rintro e _ ⟨rfl, rfl⟩
  repeat (first | go_values | go_skip | go_guarded | (simp only [List.append_eq, List.cons_append, List.nil_append]) | go_step | go_upon | (simp only [Int.not_lt, Int.not_le] at *; go_simp))
  refine (Num_nil _).mono ?_
  rintro e _ ⟨rfl, rfl⟩
  repeat (first | go_values | go_skip | go_guarded | (simp only [List.append_eq, List.cons_append, List.nil_append]) | go_step | go_upon | (simp only [Int.not_lt, Int.not_le] at *; go_simp))
  refine (Num_nil _).mono ?_
  rintro e _ ⟨rfl, rfl⟩
  repeat (first | go_values | go_skip | go_guarded | (simp only [List.append_eq, List.cons_append, List.nil_append]) | go_step | go_upon | (simp only [Int.not_lt, Int.not_le] at *; go_simp))
  refine (Num_nil _).mono ?_
  rintro e _ ⟨rfl, rfl⟩
  repeat (first | go_values | go_skip | go_guarded | (simp only [List.append_eq, List.cons_append, List.nil_append]) | go_step | go_upon | (simp only [Int.not_lt, Int.not_le] at *; go_simp))
  refine (Num_nil _).mono ?_
  rintro e _ ⟨rfl, rfl⟩
  repeat (first | go_values | go_skip | go_guarded | (simp only [List.append_eq, List.cons_append, List.nil_append]) | go_step | go_upon | (simp only [Int.not_lt, Int.not_le] at *; go_simp))
  go_ret
  exact ⟨rfl, (HB8.out.trans (by repeat (first | exact Below.refl _ _ | refine Below.alloc ?_ (by first | omega | (simp; done) | (simp; omega)) _)))⟩
set_option maxHeartbeats 4000000 in
set_option maxRecDepth 100000 in
theorem only_100 (s : ByteArray) (x : Rob) (w : World) (h : s.size ≤ 100) (R1 : Hid (∀ w, Calls Tryd.prog 18 #[.string s] w fun e w' => e = .returned (.tuple #[.agg x.cs, .nilIface]) ∧ Below w.heap.size w w')) (L1 : Hid (∀ w, Calls Tryd.prog 15 #[.agg x.cs] w fun e w' => e = .returned (.tuple #[.string s, .nilIface]) ∧ Below w.heap.size w w')) (ht : tasRead s = false) (ha : alRead s = false) (tied : Tied w) : Calls Tryd.prog 6 #[.string s] w fun e w' => e = .returned (.bool true) ∧ Below w.heap.size w w' := by
  have hd : decide (100 < (s.size : Int)) = false := by simp; omega
  have R2 := Lib.hid (fun w => tas_read_no s (by omega) ht w)
  have L2 := Lib.hid (fun w => lay_task_ok ⟨0, 0, 0⟩ (by decide) w)
  have hbt := build_tz
  clear ht
  have R3 := Lib.hid (fun w => al_read_no s (by omega) ha w)
  have L3 := Lib.hid (fun w => lay_all_zero w)
  have hba := build_zero
  have hqo := eq_oct
  clear ha
  clear h
  have HB0 := Lib.hid (Below.refl w.heap.size w)
  have T0 := Lib.hid tied
  clear tied
  go_enter Tryd.func6, Tryd.ntmps6
  go_wp2_with fail
  refine (rec_awake _).mono ?_
  rintro e w1 ⟨rfl, hb⟩
  have hk : Below w.heap.size w w1 := Below.trans (by repeat (first | exact Below.refl _ _ | refine Below.alloc ?_ (by first | omega | (simp; done) | (simp; omega)) _)) (hb.mono (by first | omega | (simp; done) | (simp; omega)))
  have HB1 := Lib.hid (HB0.out.trans (hk.mono HB0.out.size))
  have T1 := Lib.hid (T0.out.under T0.out.lt hk)
  clear T0
  clear hk hb
  go_wp2_with fail
  refine (R1.out _).mono ?_
  rintro e w2 ⟨rfl, hb⟩
  have hk : Below w1.heap.size w1 w2 := Below.trans (by repeat (first | exact Below.refl _ _ | refine Below.alloc ?_ (by first | omega | (simp; done) | (simp; omega)) _)) (hb.mono (by first | omega | (simp; done) | (simp; omega)))
  have HB2 := Lib.hid (HB1.out.trans (hk.mono HB1.out.size))
  have T2 := Lib.hid (T1.out.under T1.out.lt hk)
  clear T1
  clear hk hb
  go_wp2_with (first | ((with_reducible refine at_st 30 (.tmp 3) (.tmp 26) ?_); refine st_last rfl 30 _ _ rfl _ _ _ rfl rfl _ rfl rfl (by kernel_rfl) (by simp [Value.oneCell']) ?_))
  refine (R2.out _).mono ?_
  rintro e w3 ⟨v2, rfl, he, hb⟩
  have hat_b1 := (At.new w2 x.cs 30)
  have hk : Below w2.heap.size w2 w3 := Below.trans (by repeat (first | exact Below.refl _ _ | refine Below.alloc ?_ (by first | omega | (simp; done) | (simp; omega)) _)) (hb.mono (by first | omega | (simp; done) | (simp; omega)))
  have b1_3 := Lib.hid (hat_b1.under hb)
  clear hat_b1
  have HB3 := Lib.hid (HB2.out.trans (hk.mono HB2.out.size))
  have T3 := Lib.hid (T2.out.under T2.out.lt hk)
  clear T2
  have E2_3 := Lib.hid he
  clear he
  clear hk hb
  go_wp2_with (first | ((with_reducible refine at_st 43 (.tmp 5) (.tmp 31) ?_); refine st_last rfl 43 _ _ rfl _ _ _ rfl rfl _ rfl rfl (by kernel_rfl) (by simp [Value.oneCell']) ?_))
  refine (R3.out _).mono ?_
  rintro e w4 ⟨v3, rfl, he, hb⟩
  have hat_b2 := (At.new w3 (⟨0, 0, 0⟩ : Tas).cs 43)
  have hk : Below w3.heap.size w3 w4 := Below.trans (by repeat (first | exact Below.refl _ _ | refine Below.alloc ?_ (by first | omega | (simp; done) | (simp; omega)) _)) (hb.mono (by first | omega | (simp; done) | (simp; omega)))
  have b1_4 := Lib.hid (b1_3.out.under hk)
  clear b1_3
  have E2_4 := Lib.hid (E2_3.out.under hk)
  clear E2_3
  have b2_4 := Lib.hid (hat_b2.under hb)
  clear hat_b2
  have HB4 := Lib.hid (HB3.out.trans (hk.mono HB3.out.size))
  have T4 := Lib.hid (T3.out.under T3.out.lt hk)
  clear T3
  have E3_4 := Lib.hid he
  clear he
  clear hk hb
  have g_b1_l : w2.heap.size < w4.heap.size := b1_4.out.l
  have g_b1_0 : w4.cell? ⟨w2.heap.size, 0, none⟩ = some (.int .i64 x.c) := b1_4.out.r 0 _ rfl
  have g_b1_1 : w4.cell? ⟨w2.heap.size, 1, none⟩ = some (.int .i64 x.h) := b1_4.out.r 1 _ rfl
  have g_b1_2 : w4.cell? ⟨w2.heap.size, 2, none⟩ = some (.int .i64 x.p) := b1_4.out.r 2 _ rfl
  have g_b1_3 : w4.cell? ⟨w2.heap.size, 3, none⟩ = some (.int .i64 x.t) := b1_4.out.r 3 _ rfl
  have g_b1_4 : w4.cell? ⟨w2.heap.size, 4, none⟩ = some (.int .i64 x.m) := b1_4.out.r 4 _ rfl
  have g_b1_5 : w4.cell? ⟨w2.heap.size, 5, none⟩ = some (.int .i64 x.g) := b1_4.out.r 5 _ rfl
  have g_b1_6 : w4.cell? ⟨w2.heap.size, 6, none⟩ = some (.int .i64 x.a) := b1_4.out.r 6 _ rfl
  go_wp2_with (first | ((with_reducible refine at_st 45 (.tmp 7) (.tmp 36) ?_); refine st_last rfl 45 _ _ rfl _ _ _ rfl rfl _ rfl rfl (by kernel_rfl) (by simp [Value.oneCell']) ?_))
  refine (L1.out _).mono ?_
  rintro e w5 ⟨rfl, hb⟩
  have hat_b3 := (At.new w4 alZ 45)
  have hk : Below w4.heap.size w4 w5 := Below.trans (by repeat (first | exact Below.refl _ _ | refine Below.alloc ?_ (by first | omega | (simp; done) | (simp; omega)) _)) (hb.mono (by first | omega | (simp; done) | (simp; omega)))
  have b1_5 := Lib.hid (b1_4.out.under hk)
  clear b1_4
  have E2_5 := Lib.hid (E2_4.out.under hk)
  clear E2_4
  have b2_5 := Lib.hid (b2_4.out.under hk)
  clear b2_4
  have E3_5 := Lib.hid (E3_4.out.under hk)
  clear E3_4
  have b3_5 := Lib.hid (hat_b3.under hb)
  clear hat_b3
  have HB5 := Lib.hid (HB4.out.trans (hk.mono HB4.out.size))
  have T5 := Lib.hid (T4.out.under T4.out.lt hk)
  clear T4
  clear hk hb
  clear g_b1_l g_b1_0 g_b1_1 g_b1_2 g_b1_3 g_b1_4 g_b1_5 g_b1_6
  have g_b2_l : w3.heap.size < w5.heap.size := b2_5.out.l
  have g_b2_0 : w5.cell? ⟨w3.heap.size, 0, none⟩ = some (.int .i64 0) := b2_5.out.r 0 _ rfl
  have g_b2_1 : w5.cell? ⟨w3.heap.size, 1, none⟩ = some (.int .i64 0) := b2_5.out.r 1 _ rfl
  have g_b2_2 : w5.cell? ⟨w3.heap.size, 2, none⟩ = some (.int .i64 0) := b2_5.out.r 2 _ rfl
  go_wp2_with fail
  refine (L2.out _).mono ?_
  rintro e w6 ⟨rfl, hb⟩
  have hk : Below w5.heap.size w5 w6 := Below.trans (by repeat (first | exact Below.refl _ _ | refine Below.alloc ?_ (by first | omega | (simp; done) | (simp; omega)) _)) (hb.mono (by first | omega | (simp; done) | (simp; omega)))
  have b1_6 := Lib.hid (b1_5.out.under hk)
  clear b1_5
  have E2_6 := Lib.hid (E2_5.out.under hk)
  clear E2_5
  have b2_6 := Lib.hid (b2_5.out.under hk)
  clear b2_5
  have E3_6 := Lib.hid (E3_5.out.under hk)
  clear E3_5
  have b3_6 := Lib.hid (b3_5.out.under hk)
  clear b3_5
  have HB6 := Lib.hid (HB5.out.trans (hk.mono HB5.out.size))
  have T6 := Lib.hid (T5.out.under T5.out.lt hk)
  clear T5
  clear hk hb
  clear g_b2_l g_b2_0 g_b2_1 g_b2_2
  have g_b3_l : w4.heap.size < w6.heap.size := b3_6.out.l
  have g_b3_0 : w6.cell? ⟨w4.heap.size, 0, none⟩ = some (.int .i64 0) := b3_6.out.r 0 _ rfl
  have g_b3_1 : w6.cell? ⟨w4.heap.size, 1, none⟩ = some (.int .u8 0) := b3_6.out.r 1 _ rfl
  have g_b3_2 : w6.cell? ⟨w4.heap.size, 2, none⟩ = some (.int .u8 0) := b3_6.out.r 2 _ rfl
  have g_b3_3 : w6.cell? ⟨w4.heap.size, 3, none⟩ = some (.int .u8 0) := b3_6.out.r 3 _ rfl
  have g_b3_4 : w6.cell? ⟨w4.heap.size, 4, none⟩ = some (.int .u8 0) := b3_6.out.r 4 _ rfl
  have g_b3_5 : w6.cell? ⟨w4.heap.size, 5, none⟩ = some (.int .u8 0) := b3_6.out.r 5 _ rfl
  have g_b3_6 : w6.cell? ⟨w4.heap.size, 6, none⟩ = some (.int .u8 0) := b3_6.out.r 6 _ rfl
  have g_b3_7 : w6.cell? ⟨w4.heap.size, 7, none⟩ = some (.int .u8 0) := b3_6.out.r 7 _ rfl
  have g_b3_8 : w6.cell? ⟨w4.heap.size, 8, none⟩ = some (.int .u8 0) := b3_6.out.r 8 _ rfl
  go_wp2_with fail
  refine (L3.out _).mono ?_
  rintro e w7 ⟨rfl, hb⟩
  have hk : Below w6.heap.size w6 w7 := Below.trans (by repeat (first | exact Below.refl _ _ | refine Below.alloc ?_ (by first | omega | (simp; done) | (simp; omega)) _)) (hb.mono (by first | omega | (simp; done) | (simp; omega)))
  have b1_7 := Lib.hid (b1_6.out.under hk)
  clear b1_6
  have E2_7 := Lib.hid (E2_6.out.under hk)
  clear E2_6
  have b2_7 := Lib.hid (b2_6.out.under hk)
  clear b2_6
  have E3_7 := Lib.hid (E3_6.out.under hk)
  clear E3_6
  have b3_7 := Lib.hid (b3_6.out.under hk)
  clear b3_6
  have HB7 := Lib.hid (HB6.out.trans (hk.mono HB6.out.size))
  have T7 := Lib.hid (T6.out.under T6.out.lt hk)
  clear T6
  clear hk hb
  clear g_b3_l g_b3_0 g_b3_1 g_b3_2 g_b3_3 g_b3_4 g_b3_5 g_b3_6 g_b3_7 g_b3_8
  repeat (first | go_values | go_skip | go_guarded | (simp only [List.append_eq, List.cons_append, List.nil_append]) | go_step | go_upon | (simp only [Int.not_lt, Int.not_le] at *; go_simp))
  refine (Num_nil _).mono ?_
  rintro e _ ⟨rfl, rfl⟩
  repeat (first | go_values | go_skip | go_guarded | (simp only [List.append_eq, List.cons_append, List.nil_append]) | go_step | go_upon | (simp only [Int.not_lt, Int.not_le] at *; go_simp))
  refine (Num_nil _).mono ?_
  rintro e _ ⟨rfl, rfl⟩
  repeat (first | go_values | go_skip | go_guarded | (simp only [List.append_eq, List.cons_append, List.nil_append]) | go_step | go_upon | (simp only [Int.not_lt, Int.not_le] at *; go_simp))
  refine (Num_nil _).mono ?_
  rintro e _ ⟨rfl, rfl⟩
  repeat (first | go_values | go_skip | go_guarded | (simp only [List.append_eq, List.cons_append, List.nil_append]) | go_step | go_upon | (simp only [Int.not_lt, Int.not_le] at *; go_simp))
  refine (Num_c _ v2 2 (ErrC.under E2_7.out (by repeat (first | exact Below.refl _ _ | refine Below.alloc ?_ (by first | omega | (simp; done) | (simp; omega)) _))) (T7.out.under T7.out.lt (by repeat (first | exact Below.refl _ _ | refine Below.alloc ?_ (by first | omega | (simp; done) | (simp; omega)) _)))).mono ?_
  rintro e w8 ⟨rfl, hb⟩
  have hk : Below w7.heap.size w7 w8 := Below.trans (by repeat (first | exact Below.refl _ _ | refine Below.alloc ?_ (by first | omega | (simp; done) | (simp; omega)) _)) (hb.mono (by first | omega | (simp; done) | (simp; omega)))
  have b1_8 := Lib.hid (b1_7.out.under hk)
  clear b1_7
  have E2_8 := Lib.hid (E2_7.out.under hk)
  clear E2_7
  have b2_8 := Lib.hid (b2_7.out.under hk)
  clear b2_7
  have E3_8 := Lib.hid (E3_7.out.under hk)
  clear E3_7
  have b3_8 := Lib.hid (b3_7.out.under hk)
  clear b3_7
  have HB8 := Lib.hid (HB7.out.trans (hk.mono HB7.out.size))
  have T8 := Lib.hid (T7.out.under T7.out.lt hk)
  clear T7
  clear hk hb
  have g_b2_l : w3.heap.size < w8.heap.size := b2_8.out.l
  have g_b2_0 : w8.cell? ⟨w3.heap.size, 0, none⟩ = some (.int .i64 0) := b2_8.out.r 0 _ rfl
  have g_b2_1 : w8.cell? ⟨w3.heap.size, 1, none⟩ = some (.int .i64 0) := b2_8.out.r 1 _ rfl
  have g_b2_2 : w8.cell? ⟨w3.heap.size, 2, none⟩ = some (.int .i64 0) := b2_8.out.r 2 _ rfl
  repeat (first | go_values | go_skip | go_guarded | (simp only [List.append_eq, List.cons_append, List.nil_append]) | go_step | go_upon | (simp only [Int.not_lt, Int.not_le] at *; go_simp))
  refine (Num_c _ v3 2 (ErrC.under E3_8.out (by repeat (first | exact Below.refl _ _ | refine Below.alloc ?_ (by first | omega | (simp; done) | (simp; omega)) _))) (T8.out.under T8.out.lt (by repeat (first | exact Below.refl _ _ | refine Below.alloc ?_ (by first | omega | (simp; done) | (simp; omega)) _)))).mono ?_
  rintro e w9 ⟨rfl, hb⟩
  have hk : Below w8.heap.size w8 w9 := Below.trans (by repeat (first | exact Below.refl _ _ | refine Below.alloc ?_ (by first | omega | (simp; done) | (simp; omega)) _)) (hb.mono (by first | omega | (simp; done) | (simp; omega)))
  have b1_9 := Lib.hid (b1_8.out.under hk)
  clear b1_8
  have E2_9 := Lib.hid (E2_8.out.under hk)
  clear E2_8
  have b2_9 := Lib.hid (b2_8.out.under hk)
  clear b2_8
  have E3_9 := Lib.hid (E3_8.out.under hk)
  clear E3_8
  have b3_9 := Lib.hid (b3_8.out.under hk)
  clear b3_8
  have HB9 := Lib.hid (HB8.out.trans (hk.mono HB8.out.size))
  have T9 := Lib.hid (T8.out.under T8.out.lt hk)
  clear T8
  clear hk hb
  have g_b3_l : w4.heap.size < w9.heap.size := b3_9.out.l
  have g_b3_0 : w9.cell? ⟨w4.heap.size, 0, none⟩ = some (.int .i64 0) := b3_9.out.r 0 _ rfl
  have g_b3_1 : w9.cell? ⟨w4.heap.size, 1, none⟩ = some (.int .u8 0) := b3_9.out.r 1 _ rfl
  have g_b3_2 : w9.cell? ⟨w4.heap.size, 2, none⟩ = some (.int .u8 0) := b3_9.out.r 2 _ rfl
  have g_b3_3 : w9.cell? ⟨w4.heap.size, 3, none⟩ = some (.int .u8 0) := b3_9.out.r 3 _ rfl
  have g_b3_4 : w9.cell? ⟨w4.heap.size, 4, none⟩ = some (.int .u8 0) := b3_9.out.r 4 _ rfl
  have g_b3_5 : w9.cell? ⟨w4.heap.size, 5, none⟩ = some (.int .u8 0) := b3_9.out.r 5 _ rfl
  have g_b3_6 : w9.cell? ⟨w4.heap.size, 6, none⟩ = some (.int .u8 0) := b3_9.out.r 6 _ rfl
  have g_b3_7 : w9.cell? ⟨w4.heap.size, 7, none⟩ = some (.int .u8 0) := b3_9.out.r 7 _ rfl
  have g_b3_8 : w9.cell? ⟨w4.heap.size, 8, none⟩ = some (.int .u8 0) := b3_9.out.r 8 _ rfl
  repeat (first | go_values | go_skip | go_guarded | (simp only [List.append_eq, List.cons_append, List.nil_append]) | go_step | go_upon | (simp only [Int.not_lt, Int.not_le] at *; go_simp))
  go_ret
  exact ⟨rfl, (HB9.out.trans (by repeat (first | exact Below.refl _ _ | refine Below.alloc ?_ (by first | omega | (simp; done) | (simp; omega)) _)))⟩
set_option maxHeartbeats 4000000 in
set_option maxRecDepth 100000 in
theorem only_101 (s : ByteArray) (x : Rob) (k : Int) (b0 b1 b2 b3 b4 b5 b6 b7 : UInt8) (w : World) (h : s.size ≤ 100) (R1 : Hid (∀ w, Calls Tryd.prog 18 #[.string s] w fun e w' => e = .returned (.tuple #[.agg x.cs, .nilIface]) ∧ Below w.heap.size w w')) (L1 : Hid (∀ w, Calls Tryd.prog 15 #[.agg x.cs] w fun e w' => e = .returned (.tuple #[.string s, .nilIface]) ∧ Below w.heap.size w w')) (ht : tasRead s = false) (R3 : Hid (∀ w, Calls Tryd.prog 23 #[.string s] w fun e w' => e = .returned (.tuple #[.agg (alCs k b0 b1 b2 b3 b4 b5 b6 b7), .nilIface]) ∧ Below w.heap.size w w')) (L3 : Hid (∀ w, Calls Tryd.prog 21 #[.agg (alCs k b0 b1 b2 b3 b4 b5 b6 b7)] w fun e w' => e = .returned (.tuple #[.string s, .nilIface]) ∧ Below w.heap.size w w')) (tied : Tied w) : Calls Tryd.prog 6 #[.string s] w fun e w' => e = .returned (.bool true) ∧ Below w.heap.size w w' := by
  have hd : decide (100 < (s.size : Int)) = false := by simp; omega
  have R2 := Lib.hid (fun w => tas_read_no s (by omega) ht w)
  have L2 := Lib.hid (fun w => lay_task_ok ⟨0, 0, 0⟩ (by decide) w)
  have hbt := build_tz
  clear ht
  clear h
  have HB0 := Lib.hid (Below.refl w.heap.size w)
  have T0 := Lib.hid tied
  clear tied
  go_enter Tryd.func6, Tryd.ntmps6
  go_wp2_with fail
  refine (rec_awake _).mono ?_
  rintro e w1 ⟨rfl, hb⟩
  have hk : Below w.heap.size w w1 := Below.trans (by repeat (first | exact Below.refl _ _ | refine Below.alloc ?_ (by first | omega | (simp; done) | (simp; omega)) _)) (hb.mono (by first | omega | (simp; done) | (simp; omega)))
  have HB1 := Lib.hid (HB0.out.trans (hk.mono HB0.out.size))
  have T1 := Lib.hid (T0.out.under T0.out.lt hk)
  clear T0
  clear hk hb
  go_wp2_with fail
  refine (R1.out _).mono ?_
  rintro e w2 ⟨rfl, hb⟩
  have hk : Below w1.heap.size w1 w2 := Below.trans (by repeat (first | exact Below.refl _ _ | refine Below.alloc ?_ (by first | omega | (simp; done) | (simp; omega)) _)) (hb.mono (by first | omega | (simp; done) | (simp; omega)))
  have HB2 := Lib.hid (HB1.out.trans (hk.mono HB1.out.size))
  have T2 := Lib.hid (T1.out.under T1.out.lt hk)
  clear T1
  clear hk hb
  go_wp2_with (first | ((with_reducible refine at_st 30 (.tmp 3) (.tmp 26) ?_); refine st_last rfl 30 _ _ rfl _ _ _ rfl rfl _ rfl rfl (by kernel_rfl) (by simp [Value.oneCell']) ?_))
  refine (R2.out _).mono ?_
  rintro e w3 ⟨v2, rfl, he, hb⟩
  have hat_b1 := (At.new w2 x.cs 30)
  have hk : Below w2.heap.size w2 w3 := Below.trans (by repeat (first | exact Below.refl _ _ | refine Below.alloc ?_ (by first | omega | (simp; done) | (simp; omega)) _)) (hb.mono (by first | omega | (simp; done) | (simp; omega)))
  have b1_3 := Lib.hid (hat_b1.under hb)
  clear hat_b1
  have HB3 := Lib.hid (HB2.out.trans (hk.mono HB2.out.size))
  have T3 := Lib.hid (T2.out.under T2.out.lt hk)
  clear T2
  have E2_3 := Lib.hid he
  clear he
  clear hk hb
  go_wp2_with (first | ((with_reducible refine at_st 43 (.tmp 5) (.tmp 31) ?_); refine st_last rfl 43 _ _ rfl _ _ _ rfl rfl _ rfl rfl (by kernel_rfl) (by simp [Value.oneCell']) ?_))
  refine (R3.out _).mono ?_
  rintro e w4 ⟨rfl, hb⟩
  have hat_b2 := (At.new w3 (⟨0, 0, 0⟩ : Tas).cs 43)
  have hk : Below w3.heap.size w3 w4 := Below.trans (by repeat (first | exact Below.refl _ _ | refine Below.alloc ?_ (by first | omega | (simp; done) | (simp; omega)) _)) (hb.mono (by first | omega | (simp; done) | (simp; omega)))
  have b1_4 := Lib.hid (b1_3.out.under hk)
  clear b1_3
  have E2_4 := Lib.hid (E2_3.out.under hk)
  clear E2_3
  have b2_4 := Lib.hid (hat_b2.under hb)
  clear hat_b2
  have HB4 := Lib.hid (HB3.out.trans (hk.mono HB3.out.size))
  have T4 := Lib.hid (T3.out.under T3.out.lt hk)
  clear T3
  clear hk hb
  have g_b1_l : w2.heap.size < w4.heap.size := b1_4.out.l
  have g_b1_0 : w4.cell? ⟨w2.heap.size, 0, none⟩ = some (.int .i64 x.c) := b1_4.out.r 0 _ rfl
  have g_b1_1 : w4.cell? ⟨w2.heap.size, 1, none⟩ = some (.int .i64 x.h) := b1_4.out.r 1 _ rfl
  have g_b1_2 : w4.cell? ⟨w2.heap.size, 2, none⟩ = some (.int .i64 x.p) := b1_4.out.r 2 _ rfl
  have g_b1_3 : w4.cell? ⟨w2.heap.size, 3, none⟩ = some (.int .i64 x.t) := b1_4.out.r 3 _ rfl
  have g_b1_4 : w4.cell? ⟨w2.heap.size, 4, none⟩ = some (.int .i64 x.m) := b1_4.out.r 4 _ rfl
  have g_b1_5 : w4.cell? ⟨w2.heap.size, 5, none⟩ = some (.int .i64 x.g) := b1_4.out.r 5 _ rfl
  have g_b1_6 : w4.cell? ⟨w2.heap.size, 6, none⟩ = some (.int .i64 x.a) := b1_4.out.r 6 _ rfl
  go_wp2_with (first | ((with_reducible refine at_st 45 (.tmp 7) (.tmp 36) ?_); refine st_last rfl 45 _ _ rfl _ _ _ rfl rfl _ rfl rfl (by kernel_rfl) (by simp [Value.oneCell']) ?_))
  refine (L1.out _).mono ?_
  rintro e w5 ⟨rfl, hb⟩
  have hat_b3 := (At.new w4 (alCs k b0 b1 b2 b3 b4 b5 b6 b7) 45)
  have hk : Below w4.heap.size w4 w5 := Below.trans (by repeat (first | exact Below.refl _ _ | refine Below.alloc ?_ (by first | omega | (simp; done) | (simp; omega)) _)) (hb.mono (by first | omega | (simp; done) | (simp; omega)))
  have b1_5 := Lib.hid (b1_4.out.under hk)
  clear b1_4
  have E2_5 := Lib.hid (E2_4.out.under hk)
  clear E2_4
  have b2_5 := Lib.hid (b2_4.out.under hk)
  clear b2_4
  have b3_5 := Lib.hid (hat_b3.under hb)
  clear hat_b3
  have HB5 := Lib.hid (HB4.out.trans (hk.mono HB4.out.size))
  have T5 := Lib.hid (T4.out.under T4.out.lt hk)
  clear T4
  clear hk hb
  clear g_b1_l g_b1_0 g_b1_1 g_b1_2 g_b1_3 g_b1_4 g_b1_5 g_b1_6
  have g_b2_l : w3.heap.size < w5.heap.size := b2_5.out.l
  have g_b2_0 : w5.cell? ⟨w3.heap.size, 0, none⟩ = some (.int .i64 0) := b2_5.out.r 0 _ rfl
  have g_b2_1 : w5.cell? ⟨w3.heap.size, 1, none⟩ = some (.int .i64 0) := b2_5.out.r 1 _ rfl
  have g_b2_2 : w5.cell? ⟨w3.heap.size, 2, none⟩ = some (.int .i64 0) := b2_5.out.r 2 _ rfl
  go_wp2_with fail
  refine (L2.out _).mono ?_
  rintro e w6 ⟨rfl, hb⟩
  have hk : Below w5.heap.size w5 w6 := Below.trans (by repeat (first | exact Below.refl _ _ | refine Below.alloc ?_ (by first | omega | (simp; done) | (simp; omega)) _)) (hb.mono (by first | omega | (simp; done) | (simp; omega)))
  have b1_6 := Lib.hid (b1_5.out.under hk)
  clear b1_5
  have E2_6 := Lib.hid (E2_5.out.under hk)
  clear E2_5
  have b2_6 := Lib.hid (b2_5.out.under hk)
  clear b2_5
  have b3_6 := Lib.hid (b3_5.out.under hk)
  clear b3_5
  have HB6 := Lib.hid (HB5.out.trans (hk.mono HB5.out.size))
  have T6 := Lib.hid (T5.out.under T5.out.lt hk)
  clear T5
  clear hk hb
  clear g_b2_l g_b2_0 g_b2_1 g_b2_2
  have g_b3_l : w4.heap.size < w6.heap.size := b3_6.out.l
  have g_b3_0 : w6.cell? ⟨w4.heap.size, 0, none⟩ = some (.int .i64 k) := b3_6.out.r 0 _ rfl
  have g_b3_1 : w6.cell? ⟨w4.heap.size, 1, none⟩ = some (.int .u8 (b0.toNat : Int)) := b3_6.out.r 1 _ rfl
  have g_b3_2 : w6.cell? ⟨w4.heap.size, 2, none⟩ = some (.int .u8 (b1.toNat : Int)) := b3_6.out.r 2 _ rfl
  have g_b3_3 : w6.cell? ⟨w4.heap.size, 3, none⟩ = some (.int .u8 (b2.toNat : Int)) := b3_6.out.r 3 _ rfl
  have g_b3_4 : w6.cell? ⟨w4.heap.size, 4, none⟩ = some (.int .u8 (b3.toNat : Int)) := b3_6.out.r 4 _ rfl
  have g_b3_5 : w6.cell? ⟨w4.heap.size, 5, none⟩ = some (.int .u8 (b4.toNat : Int)) := b3_6.out.r 5 _ rfl
  have g_b3_6 : w6.cell? ⟨w4.heap.size, 6, none⟩ = some (.int .u8 (b5.toNat : Int)) := b3_6.out.r 6 _ rfl
  have g_b3_7 : w6.cell? ⟨w4.heap.size, 7, none⟩ = some (.int .u8 (b6.toNat : Int)) := b3_6.out.r 7 _ rfl
  have g_b3_8 : w6.cell? ⟨w4.heap.size, 8, none⟩ = some (.int .u8 (b7.toNat : Int)) := b3_6.out.r 8 _ rfl
  go_wp2_with fail
  refine (L3.out _).mono ?_
  rintro e w7 ⟨rfl, hb⟩
  have hk : Below w6.heap.size w6 w7 := Below.trans (by repeat (first | exact Below.refl _ _ | refine Below.alloc ?_ (by first | omega | (simp; done) | (simp; omega)) _)) (hb.mono (by first | omega | (simp; done) | (simp; omega)))
  have b1_7 := Lib.hid (b1_6.out.under hk)
  clear b1_6
  have E2_7 := Lib.hid (E2_6.out.under hk)
  clear E2_6
  have b2_7 := Lib.hid (b2_6.out.under hk)
  clear b2_6
  have b3_7 := Lib.hid (b3_6.out.under hk)
  clear b3_6
  have HB7 := Lib.hid (HB6.out.trans (hk.mono HB6.out.size))
  have T7 := Lib.hid (T6.out.under T6.out.lt hk)
  clear T6
  clear hk hb
  clear g_b3_l g_b3_0 g_b3_1 g_b3_2 g_b3_3 g_b3_4 g_b3_5 g_b3_6 g_b3_7 g_b3_8
  repeat (first | go_values | go_skip | go_guarded | (simp only [List.append_eq, List.cons_append, List.nil_append]) | go_step | go_upon | (simp only [Int.not_lt, Int.not_le] at *; go_simp))
  refine (Num_nil _).mono ?_
  rintro e _ ⟨rfl, rfl⟩
  repeat (first | go_values | go_skip | go_guarded | (simp only [List.append_eq, List.cons_append, List.nil_append]) | go_step | go_upon | (simp only [Int.not_lt, Int.not_le] at *; go_simp))
  refine (Num_nil _).mono ?_
  rintro e _ ⟨rfl, rfl⟩
  repeat (first | go_values | go_skip | go_guarded | (simp only [List.append_eq, List.cons_append, List.nil_append]) | go_step | go_upon | (simp only [Int.not_lt, Int.not_le] at *; go_simp))
  refine (Num_nil _).mono ?_
  rintro e _ ⟨rfl, rfl⟩
  repeat (first | go_values | go_skip | go_guarded | (simp only [List.append_eq, List.cons_append, List.nil_append]) | go_step | go_upon | (simp only [Int.not_lt, Int.not_le] at *; go_simp))
  refine (Num_c _ v2 2 (ErrC.under E2_7.out (by repeat (first | exact Below.refl _ _ | refine Below.alloc ?_ (by first | omega | (simp; done) | (simp; omega)) _))) (T7.out.under T7.out.lt (by repeat (first | exact Below.refl _ _ | refine Below.alloc ?_ (by first | omega | (simp; done) | (simp; omega)) _)))).mono ?_
  rintro e w8 ⟨rfl, hb⟩
  have hk : Below w7.heap.size w7 w8 := Below.trans (by repeat (first | exact Below.refl _ _ | refine Below.alloc ?_ (by first | omega | (simp; done) | (simp; omega)) _)) (hb.mono (by first | omega | (simp; done) | (simp; omega)))
  have b1_8 := Lib.hid (b1_7.out.under hk)
  clear b1_7
  have E2_8 := Lib.hid (E2_7.out.under hk)
  clear E2_7
  have b2_8 := Lib.hid (b2_7.out.under hk)
  clear b2_7
  have b3_8 := Lib.hid (b3_7.out.under hk)
  clear b3_7
  have HB8 := Lib.hid (HB7.out.trans (hk.mono HB7.out.size))
  have T8 := Lib.hid (T7.out.under T7.out.lt hk)
  clear T7
  clear hk hb
  have g_b2_l : w3.heap.size < w8.heap.size := b2_8.out.l
  have g_b2_0 : w8.cell? ⟨w3.heap.size, 0, none⟩ = some (.int .i64 0) := b2_8.out.r 0 _ rfl
  have g_b2_1 : w8.cell? ⟨w3.heap.size, 1, none⟩ = some (.int .i64 0) := b2_8.out.r 1 _ rfl
  have g_b2_2 : w8.cell? ⟨w3.heap.size, 2, none⟩ = some (.int .i64 0) := b2_8.out.r 2 _ rfl
  repeat (first | go_values | go_skip | go_guarded | (simp only [List.append_eq, List.cons_append, List.nil_append]) | go_step | go_upon | (simp only [Int.not_lt, Int.not_le] at *; go_simp))
  refine (Num_nil _).mono ?_
  rintro e _ ⟨rfl, rfl⟩
  repeat (first | go_values | go_skip | go_guarded | (simp only [List.append_eq, List.cons_append, List.nil_append]) | go_step | go_upon | (simp only [Int.not_lt, Int.not_le] at *; go_simp))
  refine (Num_nil _).mono ?_
  rintro e _ ⟨rfl, rfl⟩
  repeat (first | go_values | go_skip | go_guarded | (simp only [List.append_eq, List.cons_append, List.nil_append]) | go_step | go_upon | (simp only [Int.not_lt, Int.not_le] at *; go_simp))
  refine (Num_nil _).mono ?_
  rintro e _ ⟨rfl, rfl⟩
  repeat (first | go_values | go_skip | go_guarded | (simp only [List.append_eq, List.cons_append, List.nil_append]) | go_step | go_upon | (simp only [Int.not_lt, Int.not_le] at *; go_simp))
  go_ret
  exact ⟨rfl, (HB8.out.trans (by repeat (first | exact Below.refl _ _ | refine Below.alloc ?_ (by first | omega | (simp; done) | (simp; omega)) _)))⟩
set_option maxHeartbeats 4000000 in
set_option maxRecDepth 100000 in
theorem only_110 (s : ByteArray) (x : Rob) (y : Tas) (w : World) (h : s.size ≤ 100) (R1 : Hid (∀ w, Calls Tryd.prog 18 #[.string s] w fun e w' => e = .returned (.tuple #[.agg x.cs, .nilIface]) ∧ Below w.heap.size w w')) (L1 : Hid (∀ w, Calls Tryd.prog 15 #[.agg x.cs] w fun e w' => e = .returned (.tuple #[.string s, .nilIface]) ∧ Below w.heap.size w w')) (R2 : Hid (∀ w, Calls Tryd.prog 22 #[.string s] w fun e w' => e = .returned (.tuple #[.agg y.cs, .nilIface]) ∧ Below w.heap.size w w')) (L2 : Hid (∀ w, Calls Tryd.prog 20 #[.agg y.cs] w fun e w' => e = .returned (.tuple #[.string s, .nilIface]) ∧ Below w.heap.size w w')) (ha : alRead s = false) (tied : Tied w) : Calls Tryd.prog 6 #[.string s] w fun e w' => e = .returned (.bool true) ∧ Below w.heap.size w w' := by
  have hd : decide (100 < (s.size : Int)) = false := by simp; omega
  have R3 := Lib.hid (fun w => al_read_no s (by omega) ha w)
  have L3 := Lib.hid (fun w => lay_all_zero w)
  have hba := build_zero
  have hqo := eq_oct
  clear ha
  clear h
  have HB0 := Lib.hid (Below.refl w.heap.size w)
  have T0 := Lib.hid tied
  clear tied
  go_enter Tryd.func6, Tryd.ntmps6
  go_wp2_with fail
  refine (rec_awake _).mono ?_
  rintro e w1 ⟨rfl, hb⟩
  have hk : Below w.heap.size w w1 := Below.trans (by repeat (first | exact Below.refl _ _ | refine Below.alloc ?_ (by first | omega | (simp; done) | (simp; omega)) _)) (hb.mono (by first | omega | (simp; done) | (simp; omega)))
  have HB1 := Lib.hid (HB0.out.trans (hk.mono HB0.out.size))
  have T1 := Lib.hid (T0.out.under T0.out.lt hk)
  clear T0
  clear hk hb
  go_wp2_with fail
  refine (R1.out _).mono ?_
  rintro e w2 ⟨rfl, hb⟩
  have hk : Below w1.heap.size w1 w2 := Below.trans (by repeat (first | exact Below.refl _ _ | refine Below.alloc ?_ (by first | omega | (simp; done) | (simp; omega)) _)) (hb.mono (by first | omega | (simp; done) | (simp; omega)))
  have HB2 := Lib.hid (HB1.out.trans (hk.mono HB1.out.size))
  have T2 := Lib.hid (T1.out.under T1.out.lt hk)
  clear T1
  clear hk hb
  go_wp2_with (first | ((with_reducible refine at_st 30 (.tmp 3) (.tmp 26) ?_); refine st_last rfl 30 _ _ rfl _ _ _ rfl rfl _ rfl rfl (by kernel_rfl) (by simp [Value.oneCell']) ?_))
  refine (R2.out _).mono ?_
  rintro e w3 ⟨rfl, hb⟩
  have hat_b1 := (At.new w2 x.cs 30)
  have hk : Below w2.heap.size w2 w3 := Below.trans (by repeat (first | exact Below.refl _ _ | refine Below.alloc ?_ (by first | omega | (simp; done) | (simp; omega)) _)) (hb.mono (by first | omega | (simp; done) | (simp; omega)))
  have b1_3 := Lib.hid (hat_b1.under hb)
  clear hat_b1
  have HB3 := Lib.hid (HB2.out.trans (hk.mono HB2.out.size))
  have T3 := Lib.hid (T2.out.under T2.out.lt hk)
  clear T2
  clear hk hb
  go_wp2_with (first | ((with_reducible refine at_st 43 (.tmp 5) (.tmp 31) ?_); refine st_last rfl 43 _ _ rfl _ _ _ rfl rfl _ rfl rfl (by kernel_rfl) (by simp [Value.oneCell']) ?_))
  refine (R3.out _).mono ?_
  rintro e w4 ⟨v3, rfl, he, hb⟩
  have hat_b2 := (At.new w3 y.cs 43)
  have hk : Below w3.heap.size w3 w4 := Below.trans (by repeat (first | exact Below.refl _ _ | refine Below.alloc ?_ (by first | omega | (simp; done) | (simp; omega)) _)) (hb.mono (by first | omega | (simp; done) | (simp; omega)))
  have b1_4 := Lib.hid (b1_3.out.under hk)
  clear b1_3
  have b2_4 := Lib.hid (hat_b2.under hb)
  clear hat_b2
  have HB4 := Lib.hid (HB3.out.trans (hk.mono HB3.out.size))
  have T4 := Lib.hid (T3.out.under T3.out.lt hk)
  clear T3
  have E3_4 := Lib.hid he
  clear he
  clear hk hb
  have g_b1_l : w2.heap.size < w4.heap.size := b1_4.out.l
  have g_b1_0 : w4.cell? ⟨w2.heap.size, 0, none⟩ = some (.int .i64 x.c) := b1_4.out.r 0 _ rfl
  have g_b1_1 : w4.cell? ⟨w2.heap.size, 1, none⟩ = some (.int .i64 x.h) := b1_4.out.r 1 _ rfl
  have g_b1_2 : w4.cell? ⟨w2.heap.size, 2, none⟩ = some (.int .i64 x.p) := b1_4.out.r 2 _ rfl
  have g_b1_3 : w4.cell? ⟨w2.heap.size, 3, none⟩ = some (.int .i64 x.t) := b1_4.out.r 3 _ rfl
  have g_b1_4 : w4.cell? ⟨w2.heap.size, 4, none⟩ = some (.int .i64 x.m) := b1_4.out.r 4 _ rfl
  have g_b1_5 : w4.cell? ⟨w2.heap.size, 5, none⟩ = some (.int .i64 x.g) := b1_4.out.r 5 _ rfl
  have g_b1_6 : w4.cell? ⟨w2.heap.size, 6, none⟩ = some (.int .i64 x.a) := b1_4.out.r 6 _ rfl
  go_wp2_with (first | ((with_reducible refine at_st 45 (.tmp 7) (.tmp 36) ?_); refine st_last rfl 45 _ _ rfl _ _ _ rfl rfl _ rfl rfl (by kernel_rfl) (by simp [Value.oneCell']) ?_))
  refine (L1.out _).mono ?_
  rintro e w5 ⟨rfl, hb⟩
  have hat_b3 := (At.new w4 alZ 45)
  have hk : Below w4.heap.size w4 w5 := Below.trans (by repeat (first | exact Below.refl _ _ | refine Below.alloc ?_ (by first | omega | (simp; done) | (simp; omega)) _)) (hb.mono (by first | omega | (simp; done) | (simp; omega)))
  have b1_5 := Lib.hid (b1_4.out.under hk)
  clear b1_4
  have b2_5 := Lib.hid (b2_4.out.under hk)
  clear b2_4
  have E3_5 := Lib.hid (E3_4.out.under hk)
  clear E3_4
  have b3_5 := Lib.hid (hat_b3.under hb)
  clear hat_b3
  have HB5 := Lib.hid (HB4.out.trans (hk.mono HB4.out.size))
  have T5 := Lib.hid (T4.out.under T4.out.lt hk)
  clear T4
  clear hk hb
  clear g_b1_l g_b1_0 g_b1_1 g_b1_2 g_b1_3 g_b1_4 g_b1_5 g_b1_6
  have g_b2_l : w3.heap.size < w5.heap.size := b2_5.out.l
  have g_b2_0 : w5.cell? ⟨w3.heap.size, 0, none⟩ = some (.int .i64 y.f) := b2_5.out.r 0 _ rfl
  have g_b2_1 : w5.cell? ⟨w3.heap.size, 1, none⟩ = some (.int .i64 y.t) := b2_5.out.r 1 _ rfl
  have g_b2_2 : w5.cell? ⟨w3.heap.size, 2, none⟩ = some (.int .i64 y.s) := b2_5.out.r 2 _ rfl
  go_wp2_with fail
  refine (L2.out _).mono ?_
  rintro e w6 ⟨rfl, hb⟩
  have hk : Below w5.heap.size w5 w6 := Below.trans (by repeat (first | exact Below.refl _ _ | refine Below.alloc ?_ (by first | omega | (simp; done) | (simp; omega)) _)) (hb.mono (by first | omega | (simp; done) | (simp; omega)))
  have b1_6 := Lib.hid (b1_5.out.under hk)
  clear b1_5
  have b2_6 := Lib.hid (b2_5.out.under hk)
  clear b2_5
  have E3_6 := Lib.hid (E3_5.out.under hk)
  clear E3_5
  have b3_6 := Lib.hid (b3_5.out.under hk)
  clear b3_5
  have HB6 := Lib.hid (HB5.out.trans (hk.mono HB5.out.size))
  have T6 := Lib.hid (T5.out.under T5.out.lt hk)
  clear T5
  clear hk hb
  clear g_b2_l g_b2_0 g_b2_1 g_b2_2
  have g_b3_l : w4.heap.size < w6.heap.size := b3_6.out.l
  have g_b3_0 : w6.cell? ⟨w4.heap.size, 0, none⟩ = some (.int .i64 0) := b3_6.out.r 0 _ rfl
  have g_b3_1 : w6.cell? ⟨w4.heap.size, 1, none⟩ = some (.int .u8 0) := b3_6.out.r 1 _ rfl
  have g_b3_2 : w6.cell? ⟨w4.heap.size, 2, none⟩ = some (.int .u8 0) := b3_6.out.r 2 _ rfl
  have g_b3_3 : w6.cell? ⟨w4.heap.size, 3, none⟩ = some (.int .u8 0) := b3_6.out.r 3 _ rfl
  have g_b3_4 : w6.cell? ⟨w4.heap.size, 4, none⟩ = some (.int .u8 0) := b3_6.out.r 4 _ rfl
  have g_b3_5 : w6.cell? ⟨w4.heap.size, 5, none⟩ = some (.int .u8 0) := b3_6.out.r 5 _ rfl
  have g_b3_6 : w6.cell? ⟨w4.heap.size, 6, none⟩ = some (.int .u8 0) := b3_6.out.r 6 _ rfl
  have g_b3_7 : w6.cell? ⟨w4.heap.size, 7, none⟩ = some (.int .u8 0) := b3_6.out.r 7 _ rfl
  have g_b3_8 : w6.cell? ⟨w4.heap.size, 8, none⟩ = some (.int .u8 0) := b3_6.out.r 8 _ rfl
  go_wp2_with fail
  refine (L3.out _).mono ?_
  rintro e w7 ⟨rfl, hb⟩
  have hk : Below w6.heap.size w6 w7 := Below.trans (by repeat (first | exact Below.refl _ _ | refine Below.alloc ?_ (by first | omega | (simp; done) | (simp; omega)) _)) (hb.mono (by first | omega | (simp; done) | (simp; omega)))
  have b1_7 := Lib.hid (b1_6.out.under hk)
  clear b1_6
  have b2_7 := Lib.hid (b2_6.out.under hk)
  clear b2_6
  have E3_7 := Lib.hid (E3_6.out.under hk)
  clear E3_6
  have b3_7 := Lib.hid (b3_6.out.under hk)
  clear b3_6
  have HB7 := Lib.hid (HB6.out.trans (hk.mono HB6.out.size))
  have T7 := Lib.hid (T6.out.under T6.out.lt hk)
  clear T6
  clear hk hb
  clear g_b3_l g_b3_0 g_b3_1 g_b3_2 g_b3_3 g_b3_4 g_b3_5 g_b3_6 g_b3_7 g_b3_8
  repeat (first | go_values | go_skip | go_guarded | (simp only [List.append_eq, List.cons_append, List.nil_append]) | go_step | go_upon | (simp only [Int.not_lt, Int.not_le] at *; go_simp))
  refine (Num_nil _).mono ?_
  rintro e _ ⟨rfl, rfl⟩
  repeat (first | go_values | go_skip | go_guarded | (simp only [List.append_eq, List.cons_append, List.nil_append]) | go_step | go_upon | (simp only [Int.not_lt, Int.not_le] at *; go_simp))
  refine (Num_nil _).mono ?_
  rintro e _ ⟨rfl, rfl⟩
  repeat (first | go_values | go_skip | go_guarded | (simp only [List.append_eq, List.cons_append, List.nil_append]) | go_step | go_upon | (simp only [Int.not_lt, Int.not_le] at *; go_simp))
  refine (Num_nil _).mono ?_
  rintro e _ ⟨rfl, rfl⟩
  repeat (first | go_values | go_skip | go_guarded | (simp only [List.append_eq, List.cons_append, List.nil_append]) | go_step | go_upon | (simp only [Int.not_lt, Int.not_le] at *; go_simp))
  refine (Num_nil _).mono ?_
  rintro e _ ⟨rfl, rfl⟩
  repeat (first | go_values | go_skip | go_guarded | (simp only [List.append_eq, List.cons_append, List.nil_append]) | go_step | go_upon | (simp only [Int.not_lt, Int.not_le] at *; go_simp))
  refine (Num_nil _).mono ?_
  rintro e _ ⟨rfl, rfl⟩
  repeat (first | go_values | go_skip | go_guarded | (simp only [List.append_eq, List.cons_append, List.nil_append]) | go_step | go_upon | (simp only [Int.not_lt, Int.not_le] at *; go_simp))
  refine (Num_nil _).mono ?_
  rintro e _ ⟨rfl, rfl⟩
  repeat (first | go_values | go_skip | go_guarded | (simp only [List.append_eq, List.cons_append, List.nil_append]) | go_step | go_upon | (simp only [Int.not_lt, Int.not_le] at *; go_simp))
  refine (Num_c _ v3 2 (ErrC.under E3_7.out (by repeat (first | exact Below.refl _ _ | refine Below.alloc ?_ (by first | omega | (simp; done) | (simp; omega)) _))) (T7.out.under T7.out.lt (by repeat (first | exact Below.refl _ _ | refine Below.alloc ?_ (by first | omega | (simp; done) | (simp; omega)) _)))).mono ?_
  rintro e w8 ⟨rfl, hb⟩
  have hk : Below w7.heap.size w7 w8 := Below.trans (by repeat (first | exact Below.refl _ _ | refine Below.alloc ?_ (by first | omega | (simp; done) | (simp; omega)) _)) (hb.mono (by first | omega | (simp; done) | (simp; omega)))
  have b1_8 := Lib.hid (b1_7.out.under hk)
  clear b1_7
  have b2_8 := Lib.hid (b2_7.out.under hk)
  clear b2_7
  have E3_8 := Lib.hid (E3_7.out.under hk)
  clear E3_7
  have b3_8 := Lib.hid (b3_7.out.under hk)
  clear b3_7
  have HB8 := Lib.hid (HB7.out.trans (hk.mono HB7.out.size))
  have T8 := Lib.hid (T7.out.under T7.out.lt hk)
  clear T7
  clear hk hb
  have g_b3_l : w4.heap.size < w8.heap.size := b3_8.out.l
  have g_b3_0 : w8.cell? ⟨w4.heap.size, 0, none⟩ = some (.int .i64 0) := b3_8.out.r 0 _ rfl
  have g_b3_1 : w8.cell? ⟨w4.heap.size, 1, none⟩ = some (.int .u8 0) := b3_8.out.r 1 _ rfl
  have g_b3_2 : w8.cell? ⟨w4.heap.size, 2, none⟩ = some (.int .u8 0) := b3_8.out.r 2 _ rfl
  have g_b3_3 : w8.cell? ⟨w4.heap.size, 3, none⟩ = some (.int .u8 0) := b3_8.out.r 3 _ rfl
  have g_b3_4 : w8.cell? ⟨w4.heap.size, 4, none⟩ = some (.int .u8 0) := b3_8.out.r 4 _ rfl
  have g_b3_5 : w8.cell? ⟨w4.heap.size, 5, none⟩ = some (.int .u8 0) := b3_8.out.r 5 _ rfl
  have g_b3_6 : w8.cell? ⟨w4.heap.size, 6, none⟩ = some (.int .u8 0) := b3_8.out.r 6 _ rfl
  have g_b3_7 : w8.cell? ⟨w4.heap.size, 7, none⟩ = some (.int .u8 0) := b3_8.out.r 7 _ rfl
  have g_b3_8 : w8.cell? ⟨w4.heap.size, 8, none⟩ = some (.int .u8 0) := b3_8.out.r 8 _ rfl
  repeat (first | go_values | go_skip | go_guarded | (simp only [List.append_eq, List.cons_append, List.nil_append]) | go_step | go_upon | (simp only [Int.not_lt, Int.not_le] at *; go_simp))
  go_ret
  exact ⟨rfl, (HB8.out.trans (by repeat (first | exact Below.refl _ _ | refine Below.alloc ?_ (by first | omega | (simp; done) | (simp; omega)) _)))⟩
set_option maxHeartbeats 4000000 in
set_option maxRecDepth 100000 in
theorem only_111 (s : ByteArray) (x : Rob) (y : Tas) (k : Int) (b0 b1 b2 b3 b4 b5 b6 b7 : UInt8) (w : World) (h : s.size ≤ 100) (R1 : Hid (∀ w, Calls Tryd.prog 18 #[.string s] w fun e w' => e = .returned (.tuple #[.agg x.cs, .nilIface]) ∧ Below w.heap.size w w')) (L1 : Hid (∀ w, Calls Tryd.prog 15 #[.agg x.cs] w fun e w' => e = .returned (.tuple #[.string s, .nilIface]) ∧ Below w.heap.size w w')) (R2 : Hid (∀ w, Calls Tryd.prog 22 #[.string s] w fun e w' => e = .returned (.tuple #[.agg y.cs, .nilIface]) ∧ Below w.heap.size w w')) (L2 : Hid (∀ w, Calls Tryd.prog 20 #[.agg y.cs] w fun e w' => e = .returned (.tuple #[.string s, .nilIface]) ∧ Below w.heap.size w w')) (R3 : Hid (∀ w, Calls Tryd.prog 23 #[.string s] w fun e w' => e = .returned (.tuple #[.agg (alCs k b0 b1 b2 b3 b4 b5 b6 b7), .nilIface]) ∧ Below w.heap.size w w')) (L3 : Hid (∀ w, Calls Tryd.prog 21 #[.agg (alCs k b0 b1 b2 b3 b4 b5 b6 b7)] w fun e w' => e = .returned (.tuple #[.string s, .nilIface]) ∧ Below w.heap.size w w')) (tied : Tied w) : Calls Tryd.prog 6 #[.string s] w fun e w' => e = .returned (.bool true) ∧ Below w.heap.size w w' := by
  have hd : decide (100 < (s.size : Int)) = false := by simp; omega
  clear h
  have HB0 := Lib.hid (Below.refl w.heap.size w)
  have T0 := Lib.hid tied
  clear tied
  go_enter Tryd.func6, Tryd.ntmps6
  go_wp2_with fail
  refine (rec_awake _).mono ?_
  rintro e w1 ⟨rfl, hb⟩
  have hk : Below w.heap.size w w1 := Below.trans (by repeat (first | exact Below.refl _ _ | refine Below.alloc ?_ (by first | omega | (simp; done) | (simp; omega)) _)) (hb.mono (by first | omega | (simp; done) | (simp; omega)))
  have HB1 := Lib.hid (HB0.out.trans (hk.mono HB0.out.size))
  have T1 := Lib.hid (T0.out.under T0.out.lt hk)
  clear T0
  clear hk hb
  go_wp2_with fail
  refine (R1.out _).mono ?_
  rintro e w2 ⟨rfl, hb⟩
  have hk : Below w1.heap.size w1 w2 := Below.trans (by repeat (first | exact Below.refl _ _ | refine Below.alloc ?_ (by first | omega | (simp; done) | (simp; omega)) _)) (hb.mono (by first | omega | (simp; done) | (simp; omega)))
  have HB2 := Lib.hid (HB1.out.trans (hk.mono HB1.out.size))
  have T2 := Lib.hid (T1.out.under T1.out.lt hk)
  clear T1
  clear hk hb
  go_wp2_with (first | ((with_reducible refine at_st 30 (.tmp 3) (.tmp 26) ?_); refine st_last rfl 30 _ _ rfl _ _ _ rfl rfl _ rfl rfl (by kernel_rfl) (by simp [Value.oneCell']) ?_))
  refine (R2.out _).mono ?_
  rintro e w3 ⟨rfl, hb⟩
  have hat_b1 := (At.new w2 x.cs 30)
  have hk : Below w2.heap.size w2 w3 := Below.trans (by repeat (first | exact Below.refl _ _ | refine Below.alloc ?_ (by first | omega | (simp; done) | (simp; omega)) _)) (hb.mono (by first | omega | (simp; done) | (simp; omega)))
  have b1_3 := Lib.hid (hat_b1.under hb)
  clear hat_b1
  have HB3 := Lib.hid (HB2.out.trans (hk.mono HB2.out.size))
  have T3 := Lib.hid (T2.out.under T2.out.lt hk)
  clear T2
  clear hk hb
  go_wp2_with (first | ((with_reducible refine at_st 43 (.tmp 5) (.tmp 31) ?_); refine st_last rfl 43 _ _ rfl _ _ _ rfl rfl _ rfl rfl (by kernel_rfl) (by simp [Value.oneCell']) ?_))
  refine (R3.out _).mono ?_
  rintro e w4 ⟨rfl, hb⟩
  have hat_b2 := (At.new w3 y.cs 43)
  have hk : Below w3.heap.size w3 w4 := Below.trans (by repeat (first | exact Below.refl _ _ | refine Below.alloc ?_ (by first | omega | (simp; done) | (simp; omega)) _)) (hb.mono (by first | omega | (simp; done) | (simp; omega)))
  have b1_4 := Lib.hid (b1_3.out.under hk)
  clear b1_3
  have b2_4 := Lib.hid (hat_b2.under hb)
  clear hat_b2
  have HB4 := Lib.hid (HB3.out.trans (hk.mono HB3.out.size))
  have T4 := Lib.hid (T3.out.under T3.out.lt hk)
  clear T3
  clear hk hb
  have g_b1_l : w2.heap.size < w4.heap.size := b1_4.out.l
  have g_b1_0 : w4.cell? ⟨w2.heap.size, 0, none⟩ = some (.int .i64 x.c) := b1_4.out.r 0 _ rfl
  have g_b1_1 : w4.cell? ⟨w2.heap.size, 1, none⟩ = some (.int .i64 x.h) := b1_4.out.r 1 _ rfl
  have g_b1_2 : w4.cell? ⟨w2.heap.size, 2, none⟩ = some (.int .i64 x.p) := b1_4.out.r 2 _ rfl
  have g_b1_3 : w4.cell? ⟨w2.heap.size, 3, none⟩ = some (.int .i64 x.t) := b1_4.out.r 3 _ rfl
  have g_b1_4 : w4.cell? ⟨w2.heap.size, 4, none⟩ = some (.int .i64 x.m) := b1_4.out.r 4 _ rfl
  have g_b1_5 : w4.cell? ⟨w2.heap.size, 5, none⟩ = some (.int .i64 x.g) := b1_4.out.r 5 _ rfl
  have g_b1_6 : w4.cell? ⟨w2.heap.size, 6, none⟩ = some (.int .i64 x.a) := b1_4.out.r 6 _ rfl
  go_wp2_with (first | ((with_reducible refine at_st 45 (.tmp 7) (.tmp 36) ?_); refine st_last rfl 45 _ _ rfl _ _ _ rfl rfl _ rfl rfl (by kernel_rfl) (by simp [Value.oneCell']) ?_))
  refine (L1.out _).mono ?_
  rintro e w5 ⟨rfl, hb⟩
  have hat_b3 := (At.new w4 (alCs k b0 b1 b2 b3 b4 b5 b6 b7) 45)
  have hk : Below w4.heap.size w4 w5 := Below.trans (by repeat (first | exact Below.refl _ _ | refine Below.alloc ?_ (by first | omega | (simp; done) | (simp; omega)) _)) (hb.mono (by first | omega | (simp; done) | (simp; omega)))
  have b1_5 := Lib.hid (b1_4.out.under hk)
  clear b1_4
  have b2_5 := Lib.hid (b2_4.out.under hk)
  clear b2_4
  have b3_5 := Lib.hid (hat_b3.under hb)
  clear hat_b3
  have HB5 := Lib.hid (HB4.out.trans (hk.mono HB4.out.size))
  have T5 := Lib.hid (T4.out.under T4.out.lt hk)
  clear T4
  clear hk hb
  clear g_b1_l g_b1_0 g_b1_1 g_b1_2 g_b1_3 g_b1_4 g_b1_5 g_b1_6
  have g_b2_l : w3.heap.size < w5.heap.size := b2_5.out.l
  have g_b2_0 : w5.cell? ⟨w3.heap.size, 0, none⟩ = some (.int .i64 y.f) := b2_5.out.r 0 _ rfl
  have g_b2_1 : w5.cell? ⟨w3.heap.size, 1, none⟩ = some (.int .i64 y.t) := b2_5.out.r 1 _ rfl
  have g_b2_2 : w5.cell? ⟨w3.heap.size, 2, none⟩ = some (.int .i64 y.s) := b2_5.out.r 2 _ rfl
  go_wp2_with fail
  refine (L2.out _).mono ?_
  rintro e w6 ⟨rfl, hb⟩
  have hk : Below w5.heap.size w5 w6 := Below.trans (by repeat (first | exact Below.refl _ _ | refine Below.alloc ?_ (by first | omega | (simp; done) | (simp; omega)) _)) (hb.mono (by first | omega | (simp; done) | (simp; omega)))
  have b1_6 := Lib.hid (b1_5.out.under hk)
  clear b1_5
  have b2_6 := Lib.hid (b2_5.out.under hk)
  clear b2_5
  have b3_6 := Lib.hid (b3_5.out.under hk)
  clear b3_5
  have HB6 := Lib.hid (HB5.out.trans (hk.mono HB5.out.size))
  have T6 := Lib.hid (T5.out.under T5.out.lt hk)
  clear T5
  clear hk hb
  clear g_b2_l g_b2_0 g_b2_1 g_b2_2
  have g_b3_l : w4.heap.size < w6.heap.size := b3_6.out.l
  have g_b3_0 : w6.cell? ⟨w4.heap.size, 0, none⟩ = some (.int .i64 k) := b3_6.out.r 0 _ rfl
  have g_b3_1 : w6.cell? ⟨w4.heap.size, 1, none⟩ = some (.int .u8 (b0.toNat : Int)) := b3_6.out.r 1 _ rfl
  have g_b3_2 : w6.cell? ⟨w4.heap.size, 2, none⟩ = some (.int .u8 (b1.toNat : Int)) := b3_6.out.r 2 _ rfl
  have g_b3_3 : w6.cell? ⟨w4.heap.size, 3, none⟩ = some (.int .u8 (b2.toNat : Int)) := b3_6.out.r 3 _ rfl
  have g_b3_4 : w6.cell? ⟨w4.heap.size, 4, none⟩ = some (.int .u8 (b3.toNat : Int)) := b3_6.out.r 4 _ rfl
  have g_b3_5 : w6.cell? ⟨w4.heap.size, 5, none⟩ = some (.int .u8 (b4.toNat : Int)) := b3_6.out.r 5 _ rfl
  have g_b3_6 : w6.cell? ⟨w4.heap.size, 6, none⟩ = some (.int .u8 (b5.toNat : Int)) := b3_6.out.r 6 _ rfl
  have g_b3_7 : w6.cell? ⟨w4.heap.size, 7, none⟩ = some (.int .u8 (b6.toNat : Int)) := b3_6.out.r 7 _ rfl
  have g_b3_8 : w6.cell? ⟨w4.heap.size, 8, none⟩ = some (.int .u8 (b7.toNat : Int)) := b3_6.out.r 8 _ rfl
  go_wp2_with fail
  refine (L3.out _).mono ?_
  rintro e w7 ⟨rfl, hb⟩
  have hk : Below w6.heap.size w6 w7 := Below.trans (by repeat (first | exact Below.refl _ _ | refine Below.alloc ?_ (by first | omega | (simp; done) | (simp; omega)) _)) (hb.mono (by first | omega | (simp; done) | (simp; omega)))
  have b1_7 := Lib.hid (b1_6.out.under hk)
  clear b1_6
  have b2_7 := Lib.hid (b2_6.out.under hk)
  clear b2_6
  have b3_7 := Lib.hid (b3_6.out.under hk)
  clear b3_6
  have HB7 := Lib.hid (HB6.out.trans (hk.mono HB6.out.size))
  have T7 := Lib.hid (T6.out.under T6.out.lt hk)
  clear T6
  clear hk hb
  clear g_b3_l g_b3_0 g_b3_1 g_b3_2 g_b3_3 g_b3_4 g_b3_5 g_b3_6 g_b3_7 g_b3_8
  repeat (first | go_values | go_skip | go_guarded | (simp only [List.append_eq, List.cons_append, List.nil_append]) | go_step | go_upon | (simp only [Int.not_lt, Int.not_le] at *; go_simp))
  refine (Num_nil _).mono ?_
  rintro e _ ⟨rfl, rfl⟩
  repeat (first | go_values | go_skip | go_guarded | (simp only [List.append_eq, List.cons_append, List.nil_append]) | go_step | go_upon | (simp only [Int.not_lt, Int.not_le] at *; go_simp))
  refine (Num_nil _).mono ?_
  rintro e _ ⟨rfl, rfl⟩
  repeat (first | go_values | go_skip | go_guarded | (simp only [List.append_eq, List.cons_append, List.nil_append]) | go_step | go_upon | (simp only [Int.not_lt, Int.not_le] at *; go_simp))
  refine (Num_nil _).mono ?_
  rintro e _ ⟨rfl, rfl⟩
  repeat (first | go_values | go_skip | go_guarded | (simp only [List.append_eq, List.cons_append, List.nil_append]) | go_step | go_upon | (simp only [Int.not_lt, Int.not_le] at *; go_simp))
  refine (Num_nil _).mono ?_
  rintro e _ ⟨rfl, rfl⟩
  repeat (first | go_values | go_skip | go_guarded | (simp only [List.append_eq, List.cons_append, List.nil_append]) | go_step | go_upon | (simp only [Int.not_lt, Int.not_le] at *; go_simp))
  refine (Num_nil _).mono ?_
  rintro e _ ⟨rfl, rfl⟩
  repeat (first | go_values | go_skip | go_guarded | (simp only [List.append_eq, List.cons_append, List.nil_append]) | go_step | go_upon | (simp only [Int.not_lt, Int.not_le] at *; go_simp))
  refine (Num_nil _).mono ?_
  rintro e _ ⟨rfl, rfl⟩
  repeat (first | go_values | go_skip | go_guarded | (simp only [List.append_eq, List.cons_append, List.nil_append]) | go_step | go_upon | (simp only [Int.not_lt, Int.not_le] at *; go_simp))
  refine (Num_nil _).mono ?_
  rintro e _ ⟨rfl, rfl⟩
  repeat (first | go_values | go_skip | go_guarded | (simp only [List.append_eq, List.cons_append, List.nil_append]) | go_step | go_upon | (simp only [Int.not_lt, Int.not_le] at *; go_simp))
  refine (Num_nil _).mono ?_
  rintro e _ ⟨rfl, rfl⟩
  repeat (first | go_values | go_skip | go_guarded | (simp only [List.append_eq, List.cons_append, List.nil_append]) | go_step | go_upon | (simp only [Int.not_lt, Int.not_le] at *; go_simp))
  refine (Num_nil _).mono ?_
  rintro e _ ⟨rfl, rfl⟩
  repeat (first | go_values | go_skip | go_guarded | (simp only [List.append_eq, List.cons_append, List.nil_append]) | go_step | go_upon | (simp only [Int.not_lt, Int.not_le] at *; go_simp))
  go_ret
  exact ⟨rfl, (HB7.out.trans (by repeat (first | exact Below.refl _ _ | refine Below.alloc ?_ (by first | omega | (simp; done) | (simp; omega)) _)))⟩
theorem only_walk (s : ByteArray) (w : World) (hs : s.size ≤ 140737488351232) (tied : Tied w) : Calls Tryd.prog 6 #[.string s] w fun e w' => e = .returned (.bool true) ∧ Below w.heap.size w w' := by
  by_cases h : 100 < s.size
  · exact only_big s w h tied
  have hz : s.size ≤ 100 := by omega
  have RR : robRead s = true → ∃ x : Rob, Hid (∀ w, Calls Tryd.prog 18 #[.string s] w fun e w' => e = .returned (.tuple #[.agg x.cs, .nilIface]) ∧ Below w.heap.size w w') ∧ Hid (∀ w, Calls Tryd.prog 15 #[.agg x.cs] w fun e w' => e = .returned (.tuple #[.string s, .nilIface]) ∧ Below w.heap.size w w') := fun hr => by
    have h2 := hr
    unfold robRead at h2
    rw [decide_eq_true_eq] at h2
    exact ⟨_, Lib.hid (fun w => rob_read_ok s (by omega) hr w), Lib.hid (fun w => by have k := lay_rob_ok _ h2.1 w; rw [h2.2] at k; exact k)⟩
  have TT : tasRead s = true → ∃ x : Tas, Hid (∀ w, Calls Tryd.prog 22 #[.string s] w fun e w' => e = .returned (.tuple #[.agg x.cs, .nilIface]) ∧ Below w.heap.size w w') ∧ Hid (∀ w, Calls Tryd.prog 20 #[.agg x.cs] w fun e w' => e = .returned (.tuple #[.string s, .nilIface]) ∧ Below w.heap.size w w') := fun hr => by
    have h2 := hr
    unfold tasRead at h2
    rw [decide_eq_true_eq] at h2
    exact ⟨_, Lib.hid (fun w => tas_read_ok s (by omega) hr w), Lib.hid (fun w => by have k := lay_task_ok _ h2.1 w; rw [h2.2] at k; exact k)⟩
  have AA : alRead s = true → ∃ k b0 b1 b2 b3 b4 b5 b6 b7, Hid (∀ w, Calls Tryd.prog 23 #[.string s] w fun e w' => e = .returned (.tuple #[.agg (alCs k b0 b1 b2 b3 b4 b5 b6 b7), .nilIface]) ∧ Below w.heap.size w w') ∧ Hid (∀ w, Calls Tryd.prog 21 #[.agg (alCs k b0 b1 b2 b3 b4 b5 b6 b7)] w fun e w' => e = .returned (.tuple #[.string s, .nilIface]) ∧ Below w.heap.size w w') := fun hr => by
    obtain ⟨b0, b1, b2, b3, b4, b5, b6, b7, h1, h2, _, h3⟩ := al_read_ok s hr
    exact ⟨_, b0, b1, b2, b3, b4, b5, b6, b7, Lib.hid h3, Lib.hid (fun w => by have k := lay_all_ok _ _ _ _ _ _ _ _ _ h1 w; rw [h2] at k; exact k)⟩
  cases hr : robRead s <;> cases ht : tasRead s <;> cases ha : alRead s
  · exact only_000 s w hz hr ht ha tied
  · obtain ⟨k, b0, b1, b2, b3, b4, b5, b6, b7, R3, L3⟩ := AA ha
    exact only_001 s k b0 b1 b2 b3 b4 b5 b6 b7 w hz hr ht R3 L3 tied
  · obtain ⟨y, R2, L2⟩ := TT ht
    exact only_010 s y w hz hr R2 L2 ha tied
  · obtain ⟨y, R2, L2⟩ := TT ht
    obtain ⟨k, b0, b1, b2, b3, b4, b5, b6, b7, R3, L3⟩ := AA ha
    exact only_011 s y k b0 b1 b2 b3 b4 b5 b6 b7 w hz hr R2 L2 R3 L3 tied
  · obtain ⟨x, R1, L1⟩ := RR hr
    exact only_100 s x w hz R1 L1 ht ha tied
  · obtain ⟨x, R1, L1⟩ := RR hr
    obtain ⟨k, b0, b1, b2, b3, b4, b5, b6, b7, R3, L3⟩ := AA ha
    exact only_101 s x k b0 b1 b2 b3 b4 b5 b6 b7 w hz R1 L1 ht R3 L3 tied
  · obtain ⟨x, R1, L1⟩ := RR hr
    obtain ⟨y, R2, L2⟩ := TT ht
    exact only_110 s x y w hz R1 L1 R2 L2 ha tied
  · obtain ⟨x, R1, L1⟩ := RR hr
    obtain ⟨y, R2, L2⟩ := TT ht
    obtain ⟨k, b0, b1, b2, b3, b4, b5, b6, b7, R3, L3⟩ := AA ha
    exact only_111 s x y k b0 b1 b2 b3 b4 b5 b6 b7 w hz R1 L1 R2 L2 R3 L3 tied
end Go.Proofs.YtlcnhagcomljnaaDoor
