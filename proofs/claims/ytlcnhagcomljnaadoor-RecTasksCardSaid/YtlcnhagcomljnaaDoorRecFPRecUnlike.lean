/- rec: what is read, by contracts; RecSizes, RecOnly: the walks. -/
import Derived.Test.YtlcnhagcomljnaaDoorRecEPRecUnlike
namespace Go.Proofs.YtlcnhagcomljnaaDoor
open Go.RowKit Go.Extern.Stop Go.Stop Go.Extern Go.Proofs.YtlcnhagcomljnaaDoorW.PrintWords Go.Proofs.YtlcnhagcomljnaaDoorW.PrintLast Go.Proofs.YtlcnhagcomljnaaDoorW.PrintMore Go.Proofs.YtlcnhagcomljnaaDoor.PRecUnlike
set_option linter.unusedVariables false
set_option linter.unusedSimpArgs false

theorem rwid_may : rwid.all mayB = true := by decide
theorem twid_may : twid.all mayB = true := by decide
theorem rob_of7 (a b c d e f g : Int) : robOf [a, b, c, d, e, f, g] = ⟨a, b, c, d - 1, e, f, g - 32768⟩ := by simp [robOf, rd]
theorem tas_of6 (a b c d e f : Int) : tasOf [a, b, c, d, e, f] = ⟨a, b, c⟩ := by simp [tasOf, rd]
theorem list8 {l : List UInt8} (h : l.length = 8) : ∃ b0 b1 b2 b3 b4 b5 b6 b7, l = [b0, b1, b2, b3, b4, b5, b6, b7] := by
  match l, h with
  | [b0, b1, b2, b3, b4, b5, b6, b7], _ => exact ⟨b0, b1, b2, b3, b4, b5, b6, b7, rfl⟩
/-- a robot's cells, a task's, all's -/
abbrev Rob.cs (x : Rob) : Array Value := #[.int .i64 x.c, .int .i64 x.h, .int .i64 x.p, .int .i64 x.t, .int .i64 x.m, .int .i64 x.g, .int .i64 x.a]
abbrev Tas.cs (x : Tas) : Array Value := #[.int .i64 x.f, .int .i64 x.t, .int .i64 x.s]
theorem rob_read_ok (s : ByteArray) (hs : s.size ≤ 9223372036854775807) (h : robRead s = true) (w : World) :
    Calls Tryd.prog 18 #[.string s] w fun e w' => e = .returned (.tuple #[.agg (robOf (numbersR rwid s)).cs, .nilIface]) ∧ Below w.heap.size w w' := by
  obtain ⟨a, b, c, d, e, f, g, hn⟩ := list7 (numbersR_length rwid s)
  have hr := numbersR_range rwid s rwid_may
  unfold robRead at h
  rw [decide_eq_true_eq] at h
  rw [hn, rob_of7] at h ⊢
  have := read_r_ok_ a b c d e f g s hs (Lib.hid hn) (Lib.hid hr) w (Lib.hid fun w => same_r_ok _ _ _ _ _ _ _ s w (Lib.hid fun W => by have k := lay_rob_ok _ h.1 W; rw [h.2] at k; exact k))
  exact this
theorem rob_read_no (s : ByteArray) (hs : s.size ≤ 9223372036854775807) (h : robRead s = false) (w : World) :
    Calls Tryd.prog 18 #[.string s] w fun e w' => ∃ v, e = .returned (.tuple #[.agg (⟨0, 0, 0, 0, 0, 0, 0⟩ : Rob).cs, v]) ∧ ErrC w.heap.size w' v 2 ∧ Below w.heap.size w w' := by
  obtain ⟨a, b, c, d, e, f, g, hn⟩ := list7 (numbersR_length rwid s)
  have hr := numbersR_range rwid s rwid_may
  unfold robRead at h
  rw [decide_eq_false_iff_not] at h
  rw [hn, rob_of7] at h
  refine read_r_no_ a b c d e f g s hs (Lib.hid hn) (Lib.hid hr) w (Lib.hid fun w => ?_)
  by_cases h1 : Rob.right ⟨a, b, c, d - 1, e, f, g - 32768⟩ = true
  · exact same_r_ne _ _ _ _ _ _ _ s _ (fun e => h ⟨h1, e⟩) w (Lib.hid fun W => lay_rob_ok _ h1 W)
  · exact same_r_no _ _ _ _ _ _ _ s w (Lib.hid fun W => lay_rob_no ⟨a, b, c, d - 1, e, f, g - 32768⟩ (by simpa using h1) W)
theorem tas_read_ok (s : ByteArray) (hs : s.size ≤ 9223372036854775807) (h : tasRead s = true) (w : World) :
    Calls Tryd.prog 22 #[.string s] w fun e w' => e = .returned (.tuple #[.agg (tasOf (numbersR twid s)).cs, .nilIface]) ∧ Below w.heap.size w w' := by
  obtain ⟨a, b, c, d, e, f, hn⟩ := list6 (numbersR_length twid s)
  have hr := numbersR_range twid s twid_may
  unfold tasRead at h
  rw [decide_eq_true_eq] at h
  rw [hn, tas_of6] at h ⊢
  exact read_t_ok_ a b c d e f s hs (Lib.hid hn) (Lib.hid hr) w (Lib.hid fun w => same_t_ok _ _ _ s w (Lib.hid fun W => by have k := lay_task_ok _ h.1 W; rw [h.2] at k; exact k))
theorem tas_read_no (s : ByteArray) (hs : s.size ≤ 9223372036854775807) (h : tasRead s = false) (w : World) :
    Calls Tryd.prog 22 #[.string s] w fun e w' => ∃ v, e = .returned (.tuple #[.agg (⟨0, 0, 0⟩ : Tas).cs, v]) ∧ ErrC w.heap.size w' v 2 ∧ Below w.heap.size w w' := by
  obtain ⟨a, b, c, d, e, f, hn⟩ := list6 (numbersR_length twid s)
  have hr := numbersR_range twid s twid_may
  unfold tasRead at h
  rw [decide_eq_false_iff_not] at h
  rw [hn, tas_of6] at h
  refine read_t_no_ a b c d e f s hs (Lib.hid hn) (Lib.hid hr) w (Lib.hid fun w => ?_)
  by_cases h1 : Tas.right ⟨a, b, c⟩ = true
  · exact same_t_ne _ _ _ s _ (fun e => h ⟨h1, e⟩) w (Lib.hid fun W => lay_task_ok _ h1 W)
  · exact same_t_no _ _ _ s w (Lib.hid fun W => lay_task_no ⟨a, b, c⟩ (by simpa using h1) W)
/-- eight bytes and a number as cells -/
abbrev alCs (k : Int) (b0 b1 b2 b3 b4 b5 b6 b7 : UInt8) : Array Value := #[.int .i64 k, .int .u8 (b0.toNat : Int), .int .u8 (b1.toNat : Int), .int .u8 (b2.toNat : Int), .int .u8 (b3.toNat : Int), .int .u8 (b4.toNat : Int), .int .u8 (b5.toNat : Int), .int .u8 (b6.toNat : Int), .int .u8 (b7.toNat : Int)]
abbrev alZ : Array Value := #[.int .i64 0, .int .u8 0, .int .u8 0, .int .u8 0, .int .u8 0, .int .u8 0, .int .u8 0, .int .u8 0, .int .u8 0]
theorem al_eight (s : ByteArray) (h : s.size = 12) : ∃ b0 b1 b2 b3 b4 b5 b6 b7, s.extract 4 12 = strL [b0, b1, b2, b3, b4, b5, b6, b7] ∧ alOf s = ⟨getK s 4, [b0, b1, b2, b3, b4, b5, b6, b7]⟩ := by
  have hz : (s.extract 4 12).data.toList.length = 8 := by
    have : (s.extract 4 12).size = 8 := by rw [ByteArray.size_extract, h]; rfl
    rw [Array.length_toList]; exact this
  obtain ⟨b0, b1, b2, b3, b4, b5, b6, b7, e⟩ := list8 hz
  refine ⟨b0, b1, b2, b3, b4, b5, b6, b7, ?_, ?_⟩
  · rw [← e, strL_put]
  · unfold alOf; rw [h, e]
theorem al_read_ok (s : ByteArray) (h : alRead s = true) : ∃ b0 b1 b2 b3 b4 b5 b6 b7, Al.right ⟨getK s 4, [b0, b1, b2, b3, b4, b5, b6, b7]⟩ = true ∧ Al.lay ⟨getK s 4, [b0, b1, b2, b3, b4, b5, b6, b7]⟩ = s ∧ alOf s = ⟨getK s 4, [b0, b1, b2, b3, b4, b5, b6, b7]⟩ ∧ ∀ w,
    Calls Tryd.prog 23 #[.string s] w fun e w' => e = .returned (.tuple #[.agg (alCs (getK s 4) b0 b1 b2 b3 b4 b5 b6 b7), .nilIface]) ∧ Below w.heap.size w w' := by
  unfold alRead at h
  rw [decide_eq_true_eq] at h
  obtain ⟨h12, hr, hl⟩ := h
  obtain ⟨b0, b1, b2, b3, b4, b5, b6, b7, hx, he⟩ := al_eight s h12
  rw [he] at hr hl
  exact ⟨b0, b1, b2, b3, b4, b5, b6, b7, hr, hl, he, fun w => read_all_ok_ s b0 b1 b2 b3 b4 b5 b6 b7 h12 hx w (Lib.hid fun w => same_a_ok _ _ _ _ _ _ _ _ _ s w (Lib.hid fun W => by have k := lay_all_ok _ _ _ _ _ _ _ _ _ hr W; rw [hl] at k; exact k))⟩
theorem al_read_no (s : ByteArray) (hs : s.size ≤ 9223372036854775807) (h : alRead s = false) (w : World) :
    Calls Tryd.prog 23 #[.string s] w fun e w' => ∃ v, e = .returned (.tuple #[.agg alZ, v]) ∧ ErrC w.heap.size w' v 2 ∧ Below w.heap.size w w' := by
  by_cases h12 : s.size = 12
  · obtain ⟨b0, b1, b2, b3, b4, b5, b6, b7, hx, he⟩ := al_eight s h12
    unfold alRead at h
    rw [decide_eq_false_iff_not, he] at h
    refine read_all_no_ s b0 b1 b2 b3 b4 b5 b6 b7 h12 hx w (Lib.hid fun w => ?_)
    by_cases h1 : Al.right ⟨getK s 4, [b0, b1, b2, b3, b4, b5, b6, b7]⟩ = true
    · exact same_a_ne _ _ _ _ _ _ _ _ _ s _ (fun e => h ⟨h12, h1, e⟩) w (Lib.hid fun W => lay_all_ok _ _ _ _ _ _ _ _ _ h1 W)
    · exact same_a_no _ _ _ _ _ _ _ _ _ s w (Lib.hid fun W => lay_all_no _ _ _ _ _ _ _ _ _ (by simpa using h1) W)
  · exact read_all_short s hs h12 w
/-- cells of a variable -/
structure At (W : World) (b : Nat) (cs : Array Value) : Prop where
  r : ∀ i v, cs[i]? = some v → W.cell? ⟨b, i, none⟩ = some v
  l : b < W.heap.size
theorem At.under {W W' : World} {b : Nat} {cs : Array Value} (h : At W b cs) (hb : Below W.heap.size W W') : At W' b cs := ⟨fun i v hv => (hb.cell h.l).trans (h.r i v hv), Nat.lt_of_lt_of_le h.l hb.size⟩
theorem At.new (W : World) (cs : Array Value) (t : TypeId) : At (W.alloc (.cells cs t)) W.heap.size cs := ⟨fun i v hv => by rw [cell_of_row _ _ i _ t (0, 0) (heap_alloc_last W _)]; exact hv, by simp⟩
section
variable {P : Program} {ops : Array Oper} {rest : List Oper} {op : Oper} {a : Act} {w : World} {Q : Exit → Act → World → Prop}
/-- a struct into the variable that was made last -/
theorem st_last (hgd : op.guard = none) (ty : TypeId) (x y : Operand) (ho : op.op = .store ty x y) (w0 : World) (c : Array Value) (t : TypeId) (hw : w = w0.alloc (.cells c t)) (hx : a.eval x = .pointer (some ⟨w0.heap.size, 0, none⟩)) (cells : Array Value) (hy : a.eval y = .agg cells) (hc : c.size = cells.size)
    (hi : (P.info? ty).map (·.size) = some cells.size) (h1 : cells.all (·.oneCell') = true) (h : wpList P ops Q rest (a.put op.dst undef) (w0.alloc (.cells cells t))) : wpList P ops Q (op :: rest) a w := by
  subst hw
  refine wpList_plain hgd fun K hK => ?_
  unfold Oper.wp execOp
  simp only [ho, hx, hy, Instr.storeAt, Instr.sureAddr, Sem.run_bind, Sem.run_pure, Result.andThen_ok]
  rw [run_storeVar_row _ w0.heap.size t ty c cells (heap_alloc_last w0 _) hi (by omega) h1, World.setRow_alloc_new]
  exact hK _ _ h
end
set_option maxHeartbeats 4000000 in
set_option maxRecDepth 100000 in
theorem sizes_big (s : ByteArray) (w : World) (h : 100 < s.size) (tied : Tied w) : Calls Tryd.prog 7 #[.string s] w fun e w' => e = .returned (.bool true) ∧ Below w.heap.size w w' := by
  have hd : decide (100 < (s.size : Int)) = true := by simp; omega
  clear h
  have HB0 := Lib.hid (Below.refl w.heap.size w)
  have T0 := Lib.hid tied
  clear tied
  go_enter Tryd.func7, Tryd.ntmps7
  go_wp2_with fail
  refine (rec_awake _).mono ?_
  rintro e w1 ⟨rfl, hb⟩
  have hk : Below w.heap.size w w1 := Below.trans (by repeat (first | exact Below.refl _ _ | refine Below.alloc ?_ (by first | omega | (simp; done) | (simp; omega)) _)) (hb.mono (by first | omega | (simp; done) | (simp; omega)))
  have HB1 := Lib.hid (HB0.out.trans (hk.mono HB0.out.size))
  have T1 := Lib.hid (T0.out.under T0.out.lt hk)
  clear T0
  clear hk hb
  go_wp2_with fail
  refine (rec_awake _).mono ?_
  rintro e w2 ⟨rfl, hb⟩
  have hk : Below w1.heap.size w1 w2 := Below.trans (by repeat (first | exact Below.refl _ _ | refine Below.alloc ?_ (by first | omega | (simp; done) | (simp; omega)) _)) (hb.mono (by first | omega | (simp; done) | (simp; omega)))
  have HB2 := Lib.hid (HB1.out.trans (hk.mono HB1.out.size))
  have T2 := Lib.hid (T1.out.under T1.out.lt hk)
  clear T1
  clear hk hb
  go_wp2_with fail
  go_ret
  exact ⟨rfl, (HB2.out.trans (by repeat (first | exact Below.refl _ _ | refine Below.alloc ?_ (by first | omega | (simp; done) | (simp; omega)) _)))⟩
set_option maxHeartbeats 4000000 in
set_option maxRecDepth 100000 in
theorem sizes_twelve (s : ByteArray) (w : World) (h : s.size = 12) (tied : Tied w) : Calls Tryd.prog 7 #[.string s] w fun e w' => e = .returned (.bool true) ∧ Below w.heap.size w w' := by
  have hd : decide (100 < (s.size : Int)) = false := by simp; omega
  have hd2 : ((s.size : Int) == 12) = true := by simp; omega
  clear h
  have HB0 := Lib.hid (Below.refl w.heap.size w)
  have T0 := Lib.hid tied
  clear tied
  go_enter Tryd.func7, Tryd.ntmps7
  go_wp2_with fail
  refine (rec_awake _).mono ?_
  rintro e w1 ⟨rfl, hb⟩
  have hk : Below w.heap.size w w1 := Below.trans (by repeat (first | exact Below.refl _ _ | refine Below.alloc ?_ (by first | omega | (simp; done) | (simp; omega)) _)) (hb.mono (by first | omega | (simp; done) | (simp; omega)))
  have HB1 := Lib.hid (HB0.out.trans (hk.mono HB0.out.size))
  have T1 := Lib.hid (T0.out.under T0.out.lt hk)
  clear T0
  clear hk hb
  go_wp2_with fail
  refine (rec_awake _).mono ?_
  rintro e w2 ⟨rfl, hb⟩
  have hk : Below w1.heap.size w1 w2 := Below.trans (by repeat (first | exact Below.refl _ _ | refine Below.alloc ?_ (by first | omega | (simp; done) | (simp; omega)) _)) (hb.mono (by first | omega | (simp; done) | (simp; omega)))
  have HB2 := Lib.hid (HB1.out.trans (hk.mono HB1.out.size))
  have T2 := Lib.hid (T1.out.under T1.out.lt hk)
  clear T1
  clear hk hb
  go_wp2_with fail
  go_ret
  exact ⟨rfl, (HB2.out.trans (by repeat (first | exact Below.refl _ _ | refine Below.alloc ?_ (by first | omega | (simp; done) | (simp; omega)) _)))⟩
set_option maxHeartbeats 4000000 in
set_option maxRecDepth 100000 in
theorem sizes_rest (s : ByteArray) (w : World) (h : s.size ≤ 100) (hn : s.size ≠ 12) (tied : Tied w) : Calls Tryd.prog 7 #[.string s] w fun e w' => e = .returned (.bool true) ∧ Below w.heap.size w w' := by
  have hd : decide (100 < (s.size : Int)) = false := by simp; omega
  have hd2 : ((s.size : Int) == 12) = false := by simp; omega
  have R1 := Lib.hid (fun w => rob_read_no s (by omega) (robRead_size hn) w)
  have R2 := Lib.hid (fun w => tas_read_no s (by omega) (tasRead_size hn) w)
  have R3 := Lib.hid (fun w => al_read_no s (by omega) (alRead_size hn) w)
  clear h hn
  have HB0 := Lib.hid (Below.refl w.heap.size w)
  have T0 := Lib.hid tied
  clear tied
  go_enter Tryd.func7, Tryd.ntmps7
  go_wp2_with fail
  refine (rec_awake _).mono ?_
  rintro e w1 ⟨rfl, hb⟩
  have hk : Below w.heap.size w w1 := Below.trans (by repeat (first | exact Below.refl _ _ | refine Below.alloc ?_ (by first | omega | (simp; done) | (simp; omega)) _)) (hb.mono (by first | omega | (simp; done) | (simp; omega)))
  have HB1 := Lib.hid (HB0.out.trans (hk.mono HB0.out.size))
  have T1 := Lib.hid (T0.out.under T0.out.lt hk)
  clear T0
  clear hk hb
  go_wp2_with fail
  refine (R1.out _).mono ?_
  rintro e w2 ⟨v1, rfl, he, hb⟩
  have hk : Below w1.heap.size w1 w2 := Below.trans (by repeat (first | exact Below.refl _ _ | refine Below.alloc ?_ (by first | omega | (simp; done) | (simp; omega)) _)) (hb.mono (by first | omega | (simp; done) | (simp; omega)))
  have HB2 := Lib.hid (HB1.out.trans (hk.mono HB1.out.size))
  have T2 := Lib.hid (T1.out.under T1.out.lt hk)
  clear T1
  have E1_2 := Lib.hid he
  clear he
  clear hk hb
  go_wp2_with (first | ((with_reducible refine at_st 30 (.tmp 3) (.tmp 25) ?_); refine st_last rfl 30 _ _ rfl _ _ _ rfl rfl _ rfl rfl (by kernel_rfl) (by simp [Value.oneCell']) ?_))
  refine (R2.out _).mono ?_
  rintro e w3 ⟨v2, rfl, he, hb⟩
  have hat_b1 := (At.new w2 (⟨0, 0, 0, 0, 0, 0, 0⟩ : Rob).cs 30)
  have hk : Below w2.heap.size w2 w3 := Below.trans (by repeat (first | exact Below.refl _ _ | refine Below.alloc ?_ (by first | omega | (simp; done) | (simp; omega)) _)) (hb.mono (by first | omega | (simp; done) | (simp; omega)))
  have E1_3 := Lib.hid (E1_2.out.under hk)
  clear E1_2
  have b1_3 := Lib.hid (hat_b1.under hb)
  clear hat_b1
  have HB3 := Lib.hid (HB2.out.trans (hk.mono HB2.out.size))
  have T3 := Lib.hid (T2.out.under T2.out.lt hk)
  clear T2
  have E2_3 := Lib.hid he
  clear he
  clear hk hb
  go_wp2_with (first | ((with_reducible refine at_st 43 (.tmp 5) (.tmp 30) ?_); refine st_last rfl 43 _ _ rfl _ _ _ rfl rfl _ rfl rfl (by kernel_rfl) (by simp [Value.oneCell']) ?_))
  refine (R3.out _).mono ?_
  rintro e w4 ⟨v3, rfl, he, hb⟩
  have hat_b2 := (At.new w3 (⟨0, 0, 0⟩ : Tas).cs 43)
  have hk : Below w3.heap.size w3 w4 := Below.trans (by repeat (first | exact Below.refl _ _ | refine Below.alloc ?_ (by first | omega | (simp; done) | (simp; omega)) _)) (hb.mono (by first | omega | (simp; done) | (simp; omega)))
  have E1_4 := Lib.hid (E1_3.out.under hk)
  clear E1_3
  have b1_4 := Lib.hid (b1_3.out.under hk)
  clear b1_3
  have E2_4 := Lib.hid (E2_3.out.under hk)
  clear E2_3
  have b2_4 := Lib.hid (hat_b2.under hb)
  clear hat_b2
  have HB4 := Lib.hid (HB3.out.trans (hk.mono HB3.out.size))
  have T4 := Lib.hid (T3.out.under T3.out.lt hk)
  clear T3
  have E3_4 := Lib.hid he
  clear he
  clear hk hb
  go_wp2_with (first | ((with_reducible refine at_st 45 (.tmp 7) (.tmp 35) ?_); refine st_last rfl 45 _ _ rfl _ _ _ rfl rfl _ rfl rfl (by kernel_rfl) (by simp [Value.oneCell']) ?_))
  refine (Num_c _ v1 2 (ErrC.under E1_4.out (by repeat (first | exact Below.refl _ _ | refine Below.alloc ?_ (by first | omega | (simp; done) | (simp; omega)) _))) (T4.out.under T4.out.lt (by repeat (first | exact Below.refl _ _ | refine Below.alloc ?_ (by first | omega | (simp; done) | (simp; omega)) _)))).mono ?_
  rintro e w5 ⟨rfl, hb⟩
  have hat_b3 := (At.new w4 alZ 45)
  have hk : Below w4.heap.size w4 w5 := Below.trans (by repeat (first | exact Below.refl _ _ | refine Below.alloc ?_ (by first | omega | (simp; done) | (simp; omega)) _)) (hb.mono (by first | omega | (simp; done) | (simp; omega)))
  have E1_5 := Lib.hid (E1_4.out.under hk)
  clear E1_4
  have b1_5 := Lib.hid (b1_4.out.under hk)
  clear b1_4
  have E2_5 := Lib.hid (E2_4.out.under hk)
  clear E2_4
  have b2_5 := Lib.hid (b2_4.out.under hk)
  clear b2_4
  have E3_5 := Lib.hid (E3_4.out.under hk)
  clear E3_4
  have b3_5 := Lib.hid (hat_b3.under hb)
  clear hat_b3
  have HB5 := Lib.hid (HB4.out.trans (hk.mono HB4.out.size))
  have T5 := Lib.hid (T4.out.under T4.out.lt hk)
  clear T4
  clear hk hb
  go_wp2_with fail
  refine (Num_c _ v2 2 (ErrC.under E2_5.out (by repeat (first | exact Below.refl _ _ | refine Below.alloc ?_ (by first | omega | (simp; done) | (simp; omega)) _))) (T5.out.under T5.out.lt (by repeat (first | exact Below.refl _ _ | refine Below.alloc ?_ (by first | omega | (simp; done) | (simp; omega)) _)))).mono ?_
  rintro e w6 ⟨rfl, hb⟩
  have hk : Below w5.heap.size w5 w6 := Below.trans (by repeat (first | exact Below.refl _ _ | refine Below.alloc ?_ (by first | omega | (simp; done) | (simp; omega)) _)) (hb.mono (by first | omega | (simp; done) | (simp; omega)))
  have E1_6 := Lib.hid (E1_5.out.under hk)
  clear E1_5
  have b1_6 := Lib.hid (b1_5.out.under hk)
  clear b1_5
  have E2_6 := Lib.hid (E2_5.out.under hk)
  clear E2_5
  have b2_6 := Lib.hid (b2_5.out.under hk)
  clear b2_5
  have E3_6 := Lib.hid (E3_5.out.under hk)
  clear E3_5
  have b3_6 := Lib.hid (b3_5.out.under hk)
  clear b3_5
  have HB6 := Lib.hid (HB5.out.trans (hk.mono HB5.out.size))
  have T6 := Lib.hid (T5.out.under T5.out.lt hk)
  clear T5
  clear hk hb
  go_wp2_with fail
  refine (Num_c _ v3 2 (ErrC.under E3_6.out (by repeat (first | exact Below.refl _ _ | refine Below.alloc ?_ (by first | omega | (simp; done) | (simp; omega)) _))) (T6.out.under T6.out.lt (by repeat (first | exact Below.refl _ _ | refine Below.alloc ?_ (by first | omega | (simp; done) | (simp; omega)) _)))).mono ?_
  rintro e w7 ⟨rfl, hb⟩
  have hk : Below w6.heap.size w6 w7 := Below.trans (by repeat (first | exact Below.refl _ _ | refine Below.alloc ?_ (by first | omega | (simp; done) | (simp; omega)) _)) (hb.mono (by first | omega | (simp; done) | (simp; omega)))
  have E1_7 := Lib.hid (E1_6.out.under hk)
  clear E1_6
  have b1_7 := Lib.hid (b1_6.out.under hk)
  clear b1_6
  have E2_7 := Lib.hid (E2_6.out.under hk)
  clear E2_6
  have b2_7 := Lib.hid (b2_6.out.under hk)
  clear b2_6
  have E3_7 := Lib.hid (E3_6.out.under hk)
  clear E3_6
  have b3_7 := Lib.hid (b3_6.out.under hk)
  clear b3_6
  have HB7 := Lib.hid (HB6.out.trans (hk.mono HB6.out.size))
  have T7 := Lib.hid (T6.out.under T6.out.lt hk)
  clear T6
  clear hk hb
  go_wp2_with fail
  go_ret
  exact ⟨rfl, (HB7.out.trans (by repeat (first | exact Below.refl _ _ | refine Below.alloc ?_ (by first | omega | (simp; done) | (simp; omega)) _)))⟩
theorem sizes_walk (s : ByteArray) (w : World) (hs : s.size ≤ 140737488351232) (tied : Tied w) : Calls Tryd.prog 7 #[.string s] w fun e w' => e = .returned (.bool true) ∧ Below w.heap.size w w' := by
  by_cases h : 100 < s.size
  · exact sizes_big s w h tied
  · by_cases h2 : s.size = 12
    · exact sizes_twelve s w h2 tied
    · exact sizes_rest s w (by omega) h2 tied
end Go.Proofs.YtlcnhagcomljnaaDoor
