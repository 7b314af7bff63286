/- dynamolaw12.RecTasks: the walk. -/
import Derived.Test.YtlcnhagcomljnaaDoorRecFPRecUnlike
import Derived.Test.YtlcnhagcomljnaaDoorPLayRobotx1
import Derived.Test.YtlcnhagcomljnaaDoorPLayTaskx1
import Derived.Test.YtlcnhagcomljnaaDoorPRightTaskx1
import Derived.Deep.RegionHeld3
import Derived.Stop.BytesEq
namespace Go.Proofs.YtlcnhagcomljnaaDoor.RP
open Go.RowKit Go.Proofs.YtlcnhagcomljnaaDoorW.PrintWords Go.Proofs.YtlcnhagcomljnaaDoorW.PrintLast Go.Proofs.YtlcnhagcomljnaaDoorW.PrintMore Go.Proofs.YtlcnhagcomljnaaDoor.PLayRobot
set_option linter.unusedVariables false
set_option linter.unusedSimpArgs false

theorem strOf_append (a b : List Int) : strOfNums (a ++ b) = strOfNums a ++ strOfNums b := by
  apply ByteArray.ext
  simp [strOfNums]
theorem strOf_nil : strOfNums [] = ⟨#[]⟩ := rfl
theorem strOf_snoc_empty (a : List Int) : strOfNums a ++ (⟨#[]⟩ : ByteArray) = strOfNums a := by rw [← strOf_nil, ← strOf_append, List.append_nil]
theorem wrap_div {x : Int} (h0 : 0 ≤ x) (h1 : x ≤ 9223372036854775807) : wrap64 (Int.tdiv x 256) = x / 256 := by
  rw [Int.tdiv_eq_ediv_of_nonneg h0]; unfold wrap64; omega
theorem wrap_up {i : Int} (h0 : 0 ≤ i) (h1 : i ≤ 100) : wrap64 (i + 1) = i + 1 := by unfold wrap64; omega
theorem rput_step (k : Nat) (w x i : Int) (s : ByteArray) (h0 : 0 ≤ x) (h1 : x ≤ 9223372036854775807) (hi0 : 0 ≤ i) (hi : i < w) (hi1 : i ≤ 100) (hs : s.size ≤ 100) : dynamoref03_Put.l0 (k + 1) w x s i = dynamoref03_Put.l0 k w (x / 256) (strOfNums [x % 256] ++ s) (i + 1) := by
  have e : Int.tmod x 256 % 256 = x % 256 := by rw [Int.tmod_eq_emod_of_nonneg h0]; omega
  rw [dynamoref03_Put.l0, if_pos hi, e]
  simp only [Option.bind_some]
  rw [if_pos (by rw [strOf_size]; simp; omega), wrap_div h0 h1, wrap_up hi0 hi1]
theorem rput_end (k : Nat) (w x i : Int) (s : ByteArray) (hi : ¬ i < w) : dynamoref03_Put.l0 (k + 1) w x s i = some s := by
  rw [dynamoref03_Put.l0, if_neg hi]
theorem rput_f (w n : Int) (hn : n ≤ 9223372036854775807) (hf : fitsB w n = true) : dynamoref03_Put.f 7 w n = some (putB w n) := by
  unfold dynamoref03_Put.f putB
  rw [if_pos hf]
  simp only [fitsB, decide_eq_true_eq] at hf
  obtain ⟨h1, h4, g0, _⟩ := hf
  have g1 : 0 ≤ n / 256 ∧ n / 256 ≤ 9223372036854775807 := by omega
  have g2 : 0 ≤ n / 256 / 256 ∧ n / 256 / 256 ≤ 9223372036854775807 := by omega
  have g3 : 0 ≤ n / 256 / 256 / 256 ∧ n / 256 / 256 / 256 ≤ 9223372036854775807 := by omega
  have z0 : (⟨#[]⟩ : ByteArray).size ≤ 100 := by show 0 ≤ 100; omega
  rcases four h1 h4 with rfl | rfl | rfl | rfl
  · rw [rput_step _ _ _ _ _ g0 hn (by omega) (by omega) (by omega) z0, rput_end _ _ _ _ _ (by omega), strOf_snoc_empty]
    rfl
  · rw [rput_step _ _ _ _ _ g0 hn (by omega) (by omega) (by omega) z0, strOf_snoc_empty, rput_step _ _ _ _ _ g1.1 g1.2 (by omega) (by omega) (by omega) (by rw [strOf_size]; simp), ← strOf_append, rput_end _ _ _ _ _ (by omega)]
    rfl
  · rw [rput_step _ _ _ _ _ g0 hn (by omega) (by omega) (by omega) z0, strOf_snoc_empty, rput_step _ _ _ _ _ g1.1 g1.2 (by omega) (by omega) (by omega) (by rw [strOf_size]; simp), ← strOf_append, rput_step _ _ _ _ _ g2.1 g2.2 (by omega) (by omega) (by omega) (by rw [strOf_size]; simp), ← strOf_append, rput_end _ _ _ _ _ (by omega)]
    simp [putL, Int.ediv_ediv]
  · rw [rput_step _ _ _ _ _ g0 hn (by omega) (by omega) (by omega) z0, strOf_snoc_empty, rput_step _ _ _ _ _ g1.1 g1.2 (by omega) (by omega) (by omega) (by rw [strOf_size]; simp), ← strOf_append, rput_step _ _ _ _ _ g2.1 g2.2 (by omega) (by omega) (by omega) (by rw [strOf_size]; simp), ← strOf_append, rput_step _ _ _ _ _ g3.1 g3.2 (by omega) (by omega) (by omega) (by rw [strOf_size]; simp), ← strOf_append, rput_end _ _ _ _ _ (by omega)]
    simp [putL, Int.ediv_ediv]
/-- one byte -/
theorem put_one (n : Int) (h : fitsB 1 n = true) : putB 1 n = strOfNums [n % 256] := by
  unfold putB; rw [if_pos h]; rfl
theorem fields_s (ws ns : List Int) (k : Nat) : strL (fieldsTo ws ns (k + 1)) = strL (fieldsTo ws ns k) ++ putB (rd ws k) (rd ns k) := by
  rw [← strL_put (putB (rd ws k) (rd ns k)), ← strL_append]; rfl
theorem cat_nil (s : ByteArray) : strL (fieldsTo ([] : List Int) [] 0) ++ s = s := by
  apply ByteArray.ext; simp [strL, fieldsTo]
theorem strL_nil_cat (ws ns : List Int) (s : ByteArray) : strL (fieldsTo ws ns 0) ++ s = s := by
  apply ByteArray.ext; simp [strL, fieldsTo]
theorem rob_bytes (x : Rob) (h : x.right = true) : x.lay = strOfNums [x.c % 256, x.h % 256, x.p % 256, (x.t + 1) % 256] ++ putB 3 x.m ++ putB 3 x.g ++ putB 2 (x.a + 32768) := by
  have hz := (rob_code x (Rob.right_in h)).2 h
  have hr := h
  simp only [Rob.right, Rob.in, decide_eq_true_eq] at hr
  have f1 : ∀ n, 0 ≤ n → n ≤ 255 → fitsB 1 n = true := fun n h0 h1 => by simp only [fitsB, decide_eq_true_eq, pw1]; omega
  unfold Rob.lay; rw [if_pos h]
  have e : fieldsB rwid x.nums = strL (fieldsTo rwid x.nums 7) := by unfold fieldsB; rw [if_pos hz]; rfl
  rw [e, fields_s, fields_s, fields_s, fields_s, fields_s, fields_s, fields_s, strL_nil_cat]
  show putB 1 x.c ++ putB 1 x.h ++ putB 1 x.p ++ putB 1 (x.t + 1) ++ putB 3 x.m ++ putB 3 x.g ++ putB 2 (x.a + 32768) = _
  rw [put_one _ (f1 _ (by omega) (by omega)), put_one _ (f1 _ (by omega) (by omega)), put_one _ (f1 _ (by omega) (by omega)), put_one _ (f1 _ (by omega) (by omega)), ← strOf_append, ← strOf_append, ← strOf_append]
  rfl
end Go.Proofs.YtlcnhagcomljnaaDoor.RP
namespace Go.Proofs.YtlcnhagcomljnaaDoor.RP
open Go.RowKit Go.Proofs.YtlcnhagcomljnaaDoorW.PrintWords Go.Proofs.YtlcnhagcomljnaaDoorW.PrintLast Go.Proofs.YtlcnhagcomljnaaDoorW.PrintMore Go.Proofs.YtlcnhagcomljnaaDoor.PLayRobot
set_option linter.unusedVariables false
set_option linter.unusedSimpArgs false
theorem tas_ref (x : Tas) (h : x.right = true) : PLayTask.dynamoref12_LayTask.f x.f x.t x.s = some x.lay := by
  have hz := tas_code x h
  have hr := h
  simp only [Tas.right, decide_eq_true_eq] at hr
  have f1 : ∀ n, 0 ≤ n → n ≤ 255 → fitsB 1 n = true := fun n h0 h1 => by simp only [fitsB, decide_eq_true_eq, pw1]; omega
  unfold PLayTask.dynamoref12_LayTask.f Tas.lay; rw [if_pos h]
  have e : fieldsB twid x.nums = strL (fieldsTo twid x.nums 6) := by unfold fieldsB; rw [if_pos hz]; rfl
  rw [e, fields_s, fields_s, fields_s, fields_s, fields_s, fields_s, strL_nil_cat]
  show _ = some (putB 1 x.f ++ putB 1 x.t ++ putB 1 x.s ++ putB 4 0 ++ putB 4 0 ++ putB 1 0)
  have z4 : putB 4 0 = strOfNums [0, 0, 0, 0] := by kernel_rfl
  have z1 : putB 1 0 = strOfNums [0] := by kernel_rfl
  rw [put_one _ (f1 _ (by omega) (by omega)), put_one _ (f1 _ (by omega) (by omega)), put_one _ (f1 _ (by omega) (by omega)), z4, z1, ← strOf_append, ← strOf_append, ← strOf_append, ← strOf_append, ← strOf_append]
  rfl
end Go.Proofs.YtlcnhagcomljnaaDoor.RP
namespace Go.Proofs.YtlcnhagcomljnaaDoor
open Go.RowKit Go.Extern.Stop Go.Stop Go.Extern Go.Proofs.YtlcnhagcomljnaaDoorW.PrintWords Go.Proofs.YtlcnhagcomljnaaDoorW.PrintLast Go.Proofs.YtlcnhagcomljnaaDoorW.PrintMore Go.Proofs.YtlcnhagcomljnaaDoor.PRecUnlike
set_option linter.unusedVariables false
set_option linter.unusedSimpArgs false

theorem ref_tas (y : Tas) (h : y.right = true) (W : World) : Calls Tryd.prog 26 #[.agg #[.int .i64 y.f, .int .i64 y.t, .int .i64 y.s]] W fun e w' => e = .returned (.string y.lay) ∧ Below W.heap.size W w' :=
  (PLayTask.dynamoref12_LayTask.calls _ _ _ _ W (RP.tas_ref y h)).mono fun _ _ ⟨he, hb⟩ => ⟨he, hb⟩
theorem rtask_f (y : Tas) : PRightTask.dynamoref12_RightTask.f y.f y.t y.s = some y.right := by
  have ite_b : ∀ {p : Prop} [Decidable p] (b : Bool), (if p then some b else some false) = some (decide p && b) := fun {p} _ b => by by_cases h : p <;> simp [h]
  unfold PRightTask.dynamoref12_RightTask.f
  have e : y.right = decide (0 ≤ y.f ∧ y.f ≤ 63 ∧ 0 ≤ y.t ∧ y.t ≤ 63 ∧ 0 ≤ y.s ∧ y.s ≤ 3) := rfl
  rw [e]
  simp only [ite_b, ← Bool.decide_and, ge_iff_le]
theorem right_tas (y : Tas) (r : Bool) (hr : y.right = r) (W : World) : Calls Tryd.prog 24 #[.agg #[.int .i64 y.f, .int .i64 y.t, .int .i64 y.s]] W fun e w' => e = .returned (.bool r) ∧ Below W.heap.size W w' :=
  (PRightTask.dynamoref12_RightTask.calls _ _ _ r W (by rw [rtask_f, hr])).mono fun _ _ ⟨he, hb⟩ => ⟨he, hb⟩
set_option maxRecDepth 100000 in
theorem right_all (k : Int) (b0 b1 b2 b3 b4 b5 b6 b7 : UInt8) (r : Bool) (hr : Al.right ⟨k, [b0, b1, b2, b3, b4, b5, b6, b7]⟩ = r) (w : World) : Calls Tryd.prog 25 #[.agg #[.int .i64 k, .int .u8 (b0.toNat : Int), .int .u8 (b1.toNat : Int), .int .u8 (b2.toNat : Int), .int .u8 (b3.toNat : Int), .int .u8 (b4.toNat : Int), .int .u8 (b5.toNat : Int), .int .u8 (b6.toNat : Int), .int .u8 (b7.toNat : Int)]] w fun e w' => e = .returned (.bool r) ∧ Below w.heap.size w w' := by
  have e : Al.right ⟨k, [b0, b1, b2, b3, b4, b5, b6, b7]⟩ = decide (0 ≤ k ∧ k ≤ 2147483647) := rfl
  rw [e] at hr
  subst hr
  by_cases h1 : 0 ≤ k
  · have d1 : decide (0 ≤ k) = true := decide_eq_true h1
    by_cases h2 : k ≤ 2147483647
    · have d2 : decide (k ≤ 2147483647) = true := decide_eq_true h2
      go_enter Tryd.func25, Tryd.ntmps25
      go_wp2_with fail
      go_ret
      exact ⟨by simp [h1, h2], (Below.refl _ _).alloc (Nat.le_refl _) _⟩
    · have d2 : decide (k ≤ 2147483647) = false := decide_eq_false h2
      go_enter Tryd.func25, Tryd.ntmps25
      go_wp2_with fail
      go_ret
      exact ⟨by simp [h1, h2], (Below.refl _ _).alloc (Nat.le_refl _) _⟩
  · have d1 : decide (0 ≤ k) = false := decide_eq_false h1
    go_enter Tryd.func25, Tryd.ntmps25
    go_wp2_with fail
    go_ret
    exact ⟨by simp [h1], (Below.refl _ _).alloc (Nat.le_refl _) _⟩
theorem tas_read_back (y : Tas) (h : y.right = true) (W : World) : Calls Tryd.prog 22 #[.string y.lay] W fun e w' => e = .returned (.tuple #[.agg y.cs, .nilIface]) ∧ Below W.heap.size W w' := by
  have k := tas_read_ok y.lay (by rw [tas_size y h]; omega) (tasRead_lay h) W
  rw [tas_back y h] at k
  exact k
theorem al_read_back (k : Int) (b0 b1 b2 b3 b4 b5 b6 b7 : UInt8) (h : Al.right ⟨k, [b0, b1, b2, b3, b4, b5, b6, b7]⟩ = true) (W : World) : Calls Tryd.prog 23 #[.string (Al.lay ⟨k, [b0, b1, b2, b3, b4, b5, b6, b7]⟩)] W fun e w' => e = .returned (.tuple #[.agg (alCs k b0 b1 b2 b3 b4 b5 b6 b7), .nilIface]) ∧ Below W.heap.size W w' := by
  obtain ⟨c0, c1, c2, c3, c4, c5, c6, c7, _, _, he, H⟩ := al_read_ok _ (alRead_lay h rfl)
  rw [al_back _ h] at he
  simp only [Al.mk.injEq, List.cons.injEq, and_true] at he
  obtain ⟨h0, rfl, rfl, rfl, rfl, rfl, rfl, rfl, rfl⟩ := he
  rw [← h0] at H
  exact H W
theorem tas_read_empty (W : World) : Calls Tryd.prog 22 #[.string ⟨#[]⟩] W fun e w' => ∃ v, e = .returned (.tuple #[.agg (⟨0, 0, 0⟩ : Tas).cs, v]) ∧ ErrC W.heap.size w' v 2 ∧ Below W.heap.size W w' :=
  tas_read_no ⟨#[]⟩ (by decide) tasRead_empty W
theorem al_read_empty (W : World) : Calls Tryd.prog 23 #[.string ⟨#[]⟩] W fun e w' => ∃ v, e = .returned (.tuple #[.agg alZ, v]) ∧ ErrC W.heap.size w' v 2 ∧ Below W.heap.size W w' :=
  al_read_no ⟨#[]⟩ (by decide) alRead_empty W
set_option maxRecDepth 100000 in
theorem oct_same (b0 b1 b2 b3 b4 b5 b6 b7 : UInt8) (w : World) : (Op.equalIn 9999 39 (.agg #[.int .u8 (b0.toNat : Int), .int .u8 (b1.toNat : Int), .int .u8 (b2.toNat : Int), .int .u8 (b3.toNat : Int), .int .u8 (b4.toNat : Int), .int .u8 (b5.toNat : Int), .int .u8 (b6.toNat : Int), .int .u8 (b7.toNat : Int)]) (.agg #[.int .u8 (b0.toNat : Int), .int .u8 (b1.toNat : Int), .int .u8 (b2.toNat : Int), .int .u8 (b3.toNat : Int), .int .u8 (b4.toNat : Int), .int .u8 (b5.toNat : Int), .int .u8 (b6.toNat : Int), .int .u8 (b7.toNat : Int)])).run Tryd.prog w = .ok true w := by
  have h := run_equalIn_bytes (P := Tryd.prog) w 9997 39 5 8 Tryd.underlying39 Tryd.underlying5 (fun w => by kernel_rfl) [b0, b1, b2, b3, b4, b5, b6, b7] [b0, b1, b2, b3, b4, b5, b6, b7] rfl rfl
  have e : (([b0, b1, b2, b3, b4, b5, b6, b7] : List UInt8) == [b0, b1, b2, b3, b4, b5, b6, b7]) = true := beq_self_eq_true _
  rw [e] at h
  exact h
set_option maxHeartbeats 2000000 in
set_option maxRecDepth 100000 in
theorem ref_all (k : Int) (b0 b1 b2 b3 b4 b5 b6 b7 : UInt8) (hr : Al.right ⟨k, [b0, b1, b2, b3, b4, b5, b6, b7]⟩ = true) (w : World) : Calls Tryd.prog 27 #[.agg #[.int .i64 k, .int .u8 (b0.toNat : Int), .int .u8 (b1.toNat : Int), .int .u8 (b2.toNat : Int), .int .u8 (b3.toNat : Int), .int .u8 (b4.toNat : Int), .int .u8 (b5.toNat : Int), .int .u8 (b6.toNat : Int), .int .u8 (b7.toNat : Int)]] w fun e w' => e = .returned (.string (Al.lay ⟨k, [b0, b1, b2, b3, b4, b5, b6, b7]⟩)) ∧ Below w.heap.size w w' := by
  have HL := Lib.hid (show putB 4 k ++ strL [b0, b1, b2, b3, b4, b5, b6, b7] = Al.lay ⟨k, [b0, b1, b2, b3, b4, b5, b6, b7]⟩ by unfold Al.lay; rw [if_pos hr])
  have HF := Lib.hid (fun W => PLayRobot.dynamoref03_Put.calls 7 4 k _ W (RP.rput_f 4 k (by have := hr; simp only [Al.right, decide_eq_true_eq] at this; omega) (al_fits hr)))
  have HB0 : Hid (Below w.heap.size w (w.alloc (.cells #[.int .i64 k, .int .u8 (b0.toNat : Int), .int .u8 (b1.toNat : Int), .int .u8 (b2.toNat : Int), .int .u8 (b3.toNat : Int), .int .u8 (b4.toNat : Int), .int .u8 (b5.toNat : Int), .int .u8 (b6.toNat : Int), .int .u8 (b7.toNat : Int)] 41))) := Lib.hid ((Below.refl _ _).alloc (Nat.le_refl _) _)
  have hcat : ¬ (9223372036854775807 < (putB 4 k).size + (strL [b0, b1, b2, b3, b4, b5, b6, b7]).size) := by have := putB_le 4 k; have e : (strL [b0, b1, b2, b3, b4, b5, b6, b7]).size = 8 := rfl; omega
  clear hr
  go_enter Tryd.func27, Tryd.ntmps27
  go_wp2_with fail
  have hS0 : ((w.alloc (.cells #[.int .i64 k, .int .u8 (b0.toNat : Int), .int .u8 (b1.toNat : Int), .int .u8 (b2.toNat : Int), .int .u8 (b3.toNat : Int), .int .u8 (b4.toNat : Int), .int .u8 (b5.toNat : Int), .int .u8 (b6.toNat : Int), .int .u8 (b7.toNat : Int)] 41)).drew).cell? ⟨w.heap.size, 0, none⟩ = some (.int .i64 k) ∧ ((w.alloc (.cells #[.int .i64 k, .int .u8 (b0.toNat : Int), .int .u8 (b1.toNat : Int), .int .u8 (b2.toNat : Int), .int .u8 (b3.toNat : Int), .int .u8 (b4.toNat : Int), .int .u8 (b5.toNat : Int), .int .u8 (b6.toNat : Int), .int .u8 (b7.toNat : Int)] 41)).drew).cell? ⟨w.heap.size, 1, none⟩ = some (.int .u8 (b0.toNat : Int)) ∧ ((w.alloc (.cells #[.int .i64 k, .int .u8 (b0.toNat : Int), .int .u8 (b1.toNat : Int), .int .u8 (b2.toNat : Int), .int .u8 (b3.toNat : Int), .int .u8 (b4.toNat : Int), .int .u8 (b5.toNat : Int), .int .u8 (b6.toNat : Int), .int .u8 (b7.toNat : Int)] 41)).drew).cell? ⟨w.heap.size, 2, none⟩ = some (.int .u8 (b1.toNat : Int)) ∧ ((w.alloc (.cells #[.int .i64 k, .int .u8 (b0.toNat : Int), .int .u8 (b1.toNat : Int), .int .u8 (b2.toNat : Int), .int .u8 (b3.toNat : Int), .int .u8 (b4.toNat : Int), .int .u8 (b5.toNat : Int), .int .u8 (b6.toNat : Int), .int .u8 (b7.toNat : Int)] 41)).drew).cell? ⟨w.heap.size, 3, none⟩ = some (.int .u8 (b2.toNat : Int)) ∧ ((w.alloc (.cells #[.int .i64 k, .int .u8 (b0.toNat : Int), .int .u8 (b1.toNat : Int), .int .u8 (b2.toNat : Int), .int .u8 (b3.toNat : Int), .int .u8 (b4.toNat : Int), .int .u8 (b5.toNat : Int), .int .u8 (b6.toNat : Int), .int .u8 (b7.toNat : Int)] 41)).drew).cell? ⟨w.heap.size, 4, none⟩ = some (.int .u8 (b3.toNat : Int)) ∧ ((w.alloc (.cells #[.int .i64 k, .int .u8 (b0.toNat : Int), .int .u8 (b1.toNat : Int), .int .u8 (b2.toNat : Int), .int .u8 (b3.toNat : Int), .int .u8 (b4.toNat : Int), .int .u8 (b5.toNat : Int), .int .u8 (b6.toNat : Int), .int .u8 (b7.toNat : Int)] 41)).drew).cell? ⟨w.heap.size, 5, none⟩ = some (.int .u8 (b4.toNat : Int)) ∧ ((w.alloc (.cells #[.int .i64 k, .int .u8 (b0.toNat : Int), .int .u8 (b1.toNat : Int), .int .u8 (b2.toNat : Int), .int .u8 (b3.toNat : Int), .int .u8 (b4.toNat : Int), .int .u8 (b5.toNat : Int), .int .u8 (b6.toNat : Int), .int .u8 (b7.toNat : Int)] 41)).drew).cell? ⟨w.heap.size, 6, none⟩ = some (.int .u8 (b5.toNat : Int)) ∧ ((w.alloc (.cells #[.int .i64 k, .int .u8 (b0.toNat : Int), .int .u8 (b1.toNat : Int), .int .u8 (b2.toNat : Int), .int .u8 (b3.toNat : Int), .int .u8 (b4.toNat : Int), .int .u8 (b5.toNat : Int), .int .u8 (b6.toNat : Int), .int .u8 (b7.toNat : Int)] 41)).drew).cell? ⟨w.heap.size, 7, none⟩ = some (.int .u8 (b6.toNat : Int)) ∧ ((w.alloc (.cells #[.int .i64 k, .int .u8 (b0.toNat : Int), .int .u8 (b1.toNat : Int), .int .u8 (b2.toNat : Int), .int .u8 (b3.toNat : Int), .int .u8 (b4.toNat : Int), .int .u8 (b5.toNat : Int), .int .u8 (b6.toNat : Int), .int .u8 (b7.toNat : Int)] 41)).drew).cell? ⟨w.heap.size, 8, none⟩ = some (.int .u8 (b7.toNat : Int)) := ⟨by simp [go_sem], by simp [go_sem], by simp [go_sem], by simp [go_sem], by simp [go_sem], by simp [go_sem], by simp [go_sem], by simp [go_sem], by simp [go_sem]⟩
  refine wp_region_held_drew (S := fun w' => (w').cell? ⟨w.heap.size, 0, none⟩ = some (.int .i64 k) ∧ (w').cell? ⟨w.heap.size, 1, none⟩ = some (.int .u8 (b0.toNat : Int)) ∧ (w').cell? ⟨w.heap.size, 2, none⟩ = some (.int .u8 (b1.toNat : Int)) ∧ (w').cell? ⟨w.heap.size, 3, none⟩ = some (.int .u8 (b2.toNat : Int)) ∧ (w').cell? ⟨w.heap.size, 4, none⟩ = some (.int .u8 (b3.toNat : Int)) ∧ (w').cell? ⟨w.heap.size, 5, none⟩ = some (.int .u8 (b4.toNat : Int)) ∧ (w').cell? ⟨w.heap.size, 6, none⟩ = some (.int .u8 (b5.toNat : Int)) ∧ (w').cell? ⟨w.heap.size, 7, none⟩ = some (.int .u8 (b6.toNat : Int)) ∧ (w').cell? ⟨w.heap.size, 8, none⟩ = some (.int .u8 (b7.toNat : Int))) (by kernel_rfl) ?_ (fun hHeld => ?_)
  · exact hS0
  refine wpAnyH_take (i := 0) (oi := { dst := Option.some 3, op := Go.Op.fieldAddr 41 (Go.Operand.tmp 1) 0, type := 0, pos := "ref.go:38", after := #[], guard := Option.none }) (v := ?_) rfl (by kernel_rfl) (by kernel_rfl) (by kernel_rfl) (fun _ _ _ h => h) (Or.inl ⟨by rfl, ?_⟩) (by assumption) ?_
  rotate_left
  · intro w hSw; (try dsimp only at hSw); go_simp; (try with_reducible rfl)
  simp only [Act.put, List.setIfInBounds_toArray, List.set_cons_zero, List.set_cons_succ]
  refine wpAnyH_take (i := 1) (oi := { dst := Option.some 4, op := Go.Op.load 3 (Go.Operand.tmp 3), type := 3, pos := "ref.go:38", after := #[{ on := 0, ground := Go.Ground.data }], guard := Option.none }) (v := ?_) rfl (by kernel_rfl) (by kernel_rfl) (by kernel_rfl) (fun _ _ _ h => h) (Or.inl ⟨by rfl, ?_⟩) (by assumption) ?_
  rotate_left
  · intro w hSw; (try dsimp only at hSw); go_simp; (try with_reducible rfl)
  simp only [Act.put, List.setIfInBounds_toArray, List.set_cons_zero, List.set_cons_succ]
  refine wpAnyH_take (i := 3) (oi := { dst := Option.some 6, op := Go.Op.fieldAddr 41 (Go.Operand.tmp 1) 1, type := 0, pos := "ref.go:38", after := #[], guard := Option.none }) (v := ?_) rfl (by kernel_rfl) (by kernel_rfl) (by kernel_rfl) (fun _ _ _ h => h) (Or.inl ⟨by rfl, ?_⟩) (by assumption) ?_
  rotate_left
  · intro w hSw; (try dsimp only at hSw); go_simp; (try with_reducible rfl)
  simp only [Act.put, List.setIfInBounds_toArray, List.set_cons_zero, List.set_cons_succ]
  refine wpAnyH_take (i := 4) (oi := { dst := Option.some 7, op := Go.Op.slice 39 (Go.Operand.tmp 6) Option.none Option.none Option.none, type := 100, pos := "ref.go:38", after := #[{ on := 3, ground := Go.Ground.data }], guard := Option.none }) (v := ?_) rfl (by kernel_rfl) (by kernel_rfl) (by kernel_rfl) (fun _ _ _ h => h) (Or.inl ⟨by rfl, ?_⟩) (by assumption) ?_
  rotate_left
  · intro w hSw; (try dsimp only at hSw); go_simp; (try with_reducible rfl)
  simp only [Act.put, List.setIfInBounds_toArray, List.set_cons_zero, List.set_cons_succ]
  refine wpAnyH_take (i := 5) (oi := { dst := Option.some 8, op := Go.Op.convert 100 9 (Go.Operand.tmp 7), type := 9, pos := "ref.go:38", after := #[{ on := 4, ground := Go.Ground.data }], guard := Option.none }) (v := ?_) rfl (by kernel_rfl) (by kernel_rfl) (by kernel_rfl) (fun _ _ _ h => h) (Or.inl ⟨by rfl, ?_⟩) (by assumption) ?_
  rotate_left
  · intro w hSw; (try dsimp only at hSw); obtain ⟨_, g0, g1, g2, g3, g4, g5, g6, g7⟩ := hSw; have hcv := read8 w _ 1 b0 b1 b2 b3 b4 b5 b6 b7 (fun j hj => by have hj2 : j = 0 ∨ j = 1 ∨ j = 2 ∨ j = 3 ∨ j = 4 ∨ j = 5 ∨ j = 6 ∨ j = 7 := (by omega); rcases hj2 with rfl | rfl | rfl | rfl | rfl | rfl | rfl | rfl <;> assumption); go_simp; (try with_reducible rfl)
  simp only [Act.put, List.setIfInBounds_toArray, List.set_cons_zero, List.set_cons_succ]
  refine wpAnyH_ready (rs := [2]) (by kernel_rfl) (by simp) ?_
  refine AllReadyH.cons (o := { dst := Option.some 5, op := Go.Op.call { callee := Go.Callee.value (Go.Operand.func 52), args := #[Go.Operand.const (Go.Value.int Go.IntKind.i64 4), Go.Operand.tmp 4], argTypes := #[3, 3] }, type := 9, pos := "ref.go:38", after := #[{ on := 1, ground := Go.Ground.data }], guard := Option.none }) rfl (fun K hK => ?_) AllReadyH.nil
  go_simp
  refine (HF.out _).mono ?_
  rintro e wn ⟨rfl, hb⟩
  have hKn : (wn).cell? ⟨w.heap.size, 0, none⟩ = some (.int .i64 k) ∧ (wn).cell? ⟨w.heap.size, 1, none⟩ = some (.int .u8 (b0.toNat : Int)) ∧ (wn).cell? ⟨w.heap.size, 2, none⟩ = some (.int .u8 (b1.toNat : Int)) ∧ (wn).cell? ⟨w.heap.size, 3, none⟩ = some (.int .u8 (b2.toNat : Int)) ∧ (wn).cell? ⟨w.heap.size, 4, none⟩ = some (.int .u8 (b3.toNat : Int)) ∧ (wn).cell? ⟨w.heap.size, 5, none⟩ = some (.int .u8 (b4.toNat : Int)) ∧ (wn).cell? ⟨w.heap.size, 6, none⟩ = some (.int .u8 (b5.toNat : Int)) ∧ (wn).cell? ⟨w.heap.size, 7, none⟩ = some (.int .u8 (b6.toNat : Int)) ∧ (wn).cell? ⟨w.heap.size, 8, none⟩ = some (.int .u8 (b7.toNat : Int)) := ⟨(hb.cell (p := ⟨w.heap.size, 0, none⟩) (by simp [World.drew])).trans (by simp [go_sem]), (hb.cell (p := ⟨w.heap.size, 1, none⟩) (by simp [World.drew])).trans (by simp [go_sem]), (hb.cell (p := ⟨w.heap.size, 2, none⟩) (by simp [World.drew])).trans (by simp [go_sem]), (hb.cell (p := ⟨w.heap.size, 3, none⟩) (by simp [World.drew])).trans (by simp [go_sem]), (hb.cell (p := ⟨w.heap.size, 4, none⟩) (by simp [World.drew])).trans (by simp [go_sem]), (hb.cell (p := ⟨w.heap.size, 5, none⟩) (by simp [World.drew])).trans (by simp [go_sem]), (hb.cell (p := ⟨w.heap.size, 6, none⟩) (by simp [World.drew])).trans (by simp [go_sem]), (hb.cell (p := ⟨w.heap.size, 7, none⟩) (by simp [World.drew])).trans (by simp [go_sem]), (hb.cell (p := ⟨w.heap.size, 8, none⟩) (by simp [World.drew])).trans (by simp [go_sem])⟩
  have HBn := Lib.hid (show Below w.heap.size w wn from HB0.out.trans (((Below.drew (Below.refl _ _)).trans hb).mono HB0.out.size))
  clear hb
  go_wp2_with fail
  refine hK.out _ _ hKn (fun hHeld2 => ?_)
  clear hK K
  try simp only [Act.put, List.setIfInBounds_toArray, List.set_cons_zero, List.set_cons_succ]
  refine wpAnyH_take (i := 6) (oi := { dst := Option.some 9, op := Go.Op.binOp Go.BinOp.add 9 (Go.Operand.tmp 5) (Go.Operand.tmp 8) 9, type := 9, pos := "ref.go:38", after := #[{ on := 2, ground := Go.Ground.data }, { on := 5, ground := Go.Ground.data }], guard := Option.none }) (v := ?_) rfl (by kernel_rfl) (by kernel_rfl) (by kernel_rfl) (fun _ _ _ h => h) (Or.inl ⟨by rfl, ?_⟩) (by assumption) ?_
  rotate_left
  · intro w hSw; (try dsimp only at hSw); go_simp; (try with_reducible rfl)
  simp only [Act.put, List.setIfInBounds_toArray, List.set_cons_zero, List.set_cons_succ]
  refine wpAnyH_take (i := 7) (oi := { dst := Option.some 2, op := Go.Op.assign (Go.Operand.tmp 9), type := 9, pos := "ref.go:38", after := #[{ on := 6, ground := Go.Ground.data }, { on := 2, ground := Go.Ground.chain }, { on := 0, ground := Go.Ground.phase }, { on := 1, ground := Go.Ground.phase }, { on := 2, ground := Go.Ground.phase }, { on := 3, ground := Go.Ground.phase }, { on := 4, ground := Go.Ground.phase }, { on := 5, ground := Go.Ground.phase }, { on := 6, ground := Go.Ground.phase }], guard := Option.none }) (v := ?_) rfl (by kernel_rfl) (by kernel_rfl) (by kernel_rfl) (fun _ _ _ h => h) (Or.inl ⟨by rfl, ?_⟩) (by assumption) ?_
  rotate_left
  · intro w hSw; (try dsimp only at hSw); go_simp; (try with_reducible rfl)
  simp only [Act.put, List.setIfInBounds_toArray, List.set_cons_zero, List.set_cons_succ]
  refine wpAnyH_done (by kernel_rfl) ?_ _
  go_wp2_with fail
  go_ret
  exact ⟨by rw [HL.out]; rfl, HBn.out⟩
set_option maxHeartbeats 4000000 in
set_option maxRecDepth 100000 in
theorem tasks_00 (y : Tas) (k : Int) (b0 b1 b2 b3 b4 b5 b6 b7 : UInt8) (w : World) (hy : y.right = false) (ha : Al.right ⟨k, [b0, b1, b2, b3, b4, b5, b6, b7]⟩ = false) (tied : Tied w) : Calls Tryd.prog 5 #[.agg #[.int .i64 y.f, .int .i64 y.t, .int .i64 y.s], .agg #[.int .i64 k, .int .u8 (b0.toNat : Int), .int .u8 (b1.toNat : Int), .int .u8 (b2.toNat : Int), .int .u8 (b3.toNat : Int), .int .u8 (b4.toNat : Int), .int .u8 (b5.toNat : Int), .int .u8 (b6.toNat : Int), .int .u8 (b7.toNat : Int)]] w fun e w' => e = .returned (.bool true) ∧ Below w.heap.size w w' := by
  have HY := Lib.hid hy
  have HA := Lib.hid ha
  have L1 := Lib.hid (fun w => lay_task_no y HY.out w)
  have L2 := Lib.hid (fun w => lay_all_no k b0 b1 b2 b3 b4 b5 b6 b7 HA.out w)
  have hbd := build_all k b0 b1 b2 b3 b4 b5 b6 b7
  have hqo := oct_same b0 b1 b2 b3 b4 b5 b6 b7
  clear hy ha
  have HB0 := Lib.hid (Below.refl w.heap.size w)
  have T0 := Lib.hid tied
  clear tied
  go_enter Tryd.func5, Tryd.ntmps5
  go_wp2_with fail
  refine (rec_awake _).mono ?_
  rintro e w1 ⟨rfl, hb⟩
  have e1 : (w.alloc (.cells y.cs 38)).heap.size = w.heap.size + 1 := by simp
  have h0 := (At.new w y.cs 38).under ((Below.refl _ _).alloc (Nat.le_refl _) (.cells (alCs k b0 b1 b2 b3 b4 b5 b6 b7) 41))
  have h1 := At.new (w.alloc (.cells y.cs 38)) (alCs k b0 b1 b2 b3 b4 b5 b6 b7) 41
  have q0_1 := Lib.hid (h0.under hb)
  have h1 := h1.under hb
  rw [e1] at h1
  have q1_1 := Lib.hid h1
  have hk : Below w.heap.size w w1 := Below.trans (by repeat (first | exact Below.refl _ _ | refine Below.alloc ?_ (by first | omega | (simp; done) | (simp; omega)) _)) (hb.mono (by first | omega | (simp; done) | (simp; omega)))
  have HB1 := Lib.hid (HB0.out.trans (hk.mono HB0.out.size))
  have T1 := Lib.hid (T0.out.under T0.out.lt hk)
  clear T0 hk hb h0 h1 e1
  have g_q0_l : w.heap.size < w1.heap.size := q0_1.out.l
  have g_q0_0 : w1.cell? ⟨w.heap.size, 0, none⟩ = some (.int .i64 y.f) := q0_1.out.r 0 _ rfl
  have g_q0_1 : w1.cell? ⟨w.heap.size, 1, none⟩ = some (.int .i64 y.t) := q0_1.out.r 1 _ rfl
  have g_q0_2 : w1.cell? ⟨w.heap.size, 2, none⟩ = some (.int .i64 y.s) := q0_1.out.r 2 _ rfl
  go_wp2_with fail
  refine (L1.out _).mono ?_
  rintro e w2 ⟨v1, rfl, he, hb⟩
  have hk : Below w1.heap.size w1 w2 := Below.trans (by repeat (first | exact Below.refl _ _ | refine Below.alloc ?_ (by first | omega | (simp; done) | (simp; omega)) _)) (hb.mono (by first | omega | (simp; done) | (simp; omega)))
  have q0_2 := Lib.hid (q0_1.out.under hk)
  clear q0_1
  have q1_2 := Lib.hid (q1_1.out.under hk)
  clear q1_1
  have HB2 := Lib.hid (HB1.out.trans (hk.mono HB1.out.size))
  have T2 := Lib.hid (T1.out.under T1.out.lt hk)
  clear T1
  have E1_2 := Lib.hid he
  clear he
  clear hk hb
  clear g_q0_l g_q0_0 g_q0_1 g_q0_2
  have g_q1_l : w.heap.size + 1 < w2.heap.size := q1_2.out.l
  have g_q1_0 : w2.cell? ⟨w.heap.size + 1, 0, none⟩ = some (.int .i64 k) := q1_2.out.r 0 _ rfl
  have g_q1_1 : w2.cell? ⟨w.heap.size + 1, 1, none⟩ = some (.int .u8 (b0.toNat : Int)) := q1_2.out.r 1 _ rfl
  have g_q1_2 : w2.cell? ⟨w.heap.size + 1, 2, none⟩ = some (.int .u8 (b1.toNat : Int)) := q1_2.out.r 2 _ rfl
  have g_q1_3 : w2.cell? ⟨w.heap.size + 1, 3, none⟩ = some (.int .u8 (b2.toNat : Int)) := q1_2.out.r 3 _ rfl
  have g_q1_4 : w2.cell? ⟨w.heap.size + 1, 4, none⟩ = some (.int .u8 (b3.toNat : Int)) := q1_2.out.r 4 _ rfl
  have g_q1_5 : w2.cell? ⟨w.heap.size + 1, 5, none⟩ = some (.int .u8 (b4.toNat : Int)) := q1_2.out.r 5 _ rfl
  have g_q1_6 : w2.cell? ⟨w.heap.size + 1, 6, none⟩ = some (.int .u8 (b5.toNat : Int)) := q1_2.out.r 6 _ rfl
  have g_q1_7 : w2.cell? ⟨w.heap.size + 1, 7, none⟩ = some (.int .u8 (b6.toNat : Int)) := q1_2.out.r 7 _ rfl
  have g_q1_8 : w2.cell? ⟨w.heap.size + 1, 8, none⟩ = some (.int .u8 (b7.toNat : Int)) := q1_2.out.r 8 _ rfl
  go_wp2_with fail
  refine (L2.out _).mono ?_
  rintro e w3 ⟨v2, rfl, he, hb⟩
  have hk : Below w2.heap.size w2 w3 := Below.trans (by repeat (first | exact Below.refl _ _ | refine Below.alloc ?_ (by first | omega | (simp; done) | (simp; omega)) _)) (hb.mono (by first | omega | (simp; done) | (simp; omega)))
  have q0_3 := Lib.hid (q0_2.out.under hk)
  clear q0_2
  have q1_3 := Lib.hid (q1_2.out.under hk)
  clear q1_2
  have E1_3 := Lib.hid (E1_2.out.under hk)
  clear E1_2
  have HB3 := Lib.hid (HB2.out.trans (hk.mono HB2.out.size))
  have T3 := Lib.hid (T2.out.under T2.out.lt hk)
  clear T2
  have E2_3 := Lib.hid he
  clear he
  clear hk hb
  clear g_q1_l g_q1_0 g_q1_1 g_q1_2 g_q1_3 g_q1_4 g_q1_5 g_q1_6 g_q1_7 g_q1_8
  go_wp2_with fail
  refine (tas_read_empty _).mono ?_
  rintro e w4 ⟨v3, rfl, he, hb⟩
  have hk : Below w3.heap.size w3 w4 := Below.trans (by repeat (first | exact Below.refl _ _ | refine Below.alloc ?_ (by first | omega | (simp; done) | (simp; omega)) _)) (hb.mono (by first | omega | (simp; done) | (simp; omega)))
  have q0_4 := Lib.hid (q0_3.out.under hk)
  clear q0_3
  have q1_4 := Lib.hid (q1_3.out.under hk)
  clear q1_3
  have E1_4 := Lib.hid (E1_3.out.under hk)
  clear E1_3
  have E2_4 := Lib.hid (E2_3.out.under hk)
  clear E2_3
  have HB4 := Lib.hid (HB3.out.trans (hk.mono HB3.out.size))
  have T4 := Lib.hid (T3.out.under T3.out.lt hk)
  clear T3
  have E3_4 := Lib.hid he
  clear he
  clear hk hb
  go_wp2_with (first | ((with_reducible refine at_st 43 (.tmp 9) (.tmp 38) ?_); refine st_last rfl 43 _ _ rfl _ _ _ rfl rfl _ rfl rfl (by kernel_rfl) (by simp [Value.oneCell']) ?_))
  refine (al_read_empty _).mono ?_
  rintro e w5 ⟨v4, rfl, he, hb⟩
  have hat_q2 := (At.new w4 (⟨0, 0, 0⟩ : Tas).cs 43)
  have hk : Below w4.heap.size w4 w5 := Below.trans (by repeat (first | exact Below.refl _ _ | refine Below.alloc ?_ (by first | omega | (simp; done) | (simp; omega)) _)) (hb.mono (by first | omega | (simp; done) | (simp; omega)))
  have q0_5 := Lib.hid (q0_4.out.under hk)
  clear q0_4
  have q1_5 := Lib.hid (q1_4.out.under hk)
  clear q1_4
  have E1_5 := Lib.hid (E1_4.out.under hk)
  clear E1_4
  have E2_5 := Lib.hid (E2_4.out.under hk)
  clear E2_4
  have E3_5 := Lib.hid (E3_4.out.under hk)
  clear E3_4
  have q2_5 := Lib.hid (hat_q2.under hb)
  clear hat_q2
  have HB5 := Lib.hid (HB4.out.trans (hk.mono HB4.out.size))
  have T5 := Lib.hid (T4.out.under T4.out.lt hk)
  clear T4
  have E4_5 := Lib.hid he
  clear he
  clear hk hb
  have g_q0_l : w.heap.size < w5.heap.size := q0_5.out.l
  have g_q0_0 : w5.cell? ⟨w.heap.size, 0, none⟩ = some (.int .i64 y.f) := q0_5.out.r 0 _ rfl
  have g_q0_1 : w5.cell? ⟨w.heap.size, 1, none⟩ = some (.int .i64 y.t) := q0_5.out.r 1 _ rfl
  have g_q0_2 : w5.cell? ⟨w.heap.size, 2, none⟩ = some (.int .i64 y.s) := q0_5.out.r 2 _ rfl
  go_wp2_with (first | ((with_reducible refine at_st 45 (.tmp 11) (.tmp 43) ?_); refine st_last rfl 45 _ _ rfl _ _ _ rfl rfl _ rfl rfl (by kernel_rfl) (by simp [Value.oneCell']) ?_))
  refine (right_tas y false HY.out _).mono ?_
  rintro e w6 ⟨rfl, hb⟩
  have hat_q3 := (At.new w5 alZ 45)
  have hk : Below w5.heap.size w5 w6 := Below.trans (by repeat (first | exact Below.refl _ _ | refine Below.alloc ?_ (by first | omega | (simp; done) | (simp; omega)) _)) (hb.mono (by first | omega | (simp; done) | (simp; omega)))
  have q0_6 := Lib.hid (q0_5.out.under hk)
  clear q0_5
  have q1_6 := Lib.hid (q1_5.out.under hk)
  clear q1_5
  have E1_6 := Lib.hid (E1_5.out.under hk)
  clear E1_5
  have E2_6 := Lib.hid (E2_5.out.under hk)
  clear E2_5
  have E3_6 := Lib.hid (E3_5.out.under hk)
  clear E3_5
  have q2_6 := Lib.hid (q2_5.out.under hk)
  clear q2_5
  have E4_6 := Lib.hid (E4_5.out.under hk)
  clear E4_5
  have q3_6 := Lib.hid (hat_q3.under hb)
  clear hat_q3
  have HB6 := Lib.hid (HB5.out.trans (hk.mono HB5.out.size))
  have T6 := Lib.hid (T5.out.under T5.out.lt hk)
  clear T5
  clear hk hb
  clear g_q0_l g_q0_0 g_q0_1 g_q0_2
  repeat (first | go_values | go_skip | go_guarded | (simp only [List.append_eq, List.cons_append, List.nil_append]) | go_step | go_upon | (simp only [Int.not_lt, Int.not_le] at *; go_simp))
  refine (Num_c _ v1 8 (ErrC.under E1_6.out (by repeat (first | exact Below.refl _ _ | refine Below.alloc ?_ (by first | omega | (simp; done) | (simp; omega)) _))) (T6.out.under T6.out.lt (by repeat (first | exact Below.refl _ _ | refine Below.alloc ?_ (by first | omega | (simp; done) | (simp; omega)) _)))).mono ?_
  rintro e w7 ⟨rfl, hb⟩
  have hk : Below w6.heap.size w6 w7 := Below.trans (by repeat (first | exact Below.refl _ _ | refine Below.alloc ?_ (by first | omega | (simp; done) | (simp; omega)) _)) (hb.mono (by first | omega | (simp; done) | (simp; omega)))
  have q0_7 := Lib.hid (q0_6.out.under hk)
  clear q0_6
  have q1_7 := Lib.hid (q1_6.out.under hk)
  clear q1_6
  have E1_7 := Lib.hid (E1_6.out.under hk)
  clear E1_6
  have E2_7 := Lib.hid (E2_6.out.under hk)
  clear E2_6
  have E3_7 := Lib.hid (E3_6.out.under hk)
  clear E3_6
  have q2_7 := Lib.hid (q2_6.out.under hk)
  clear q2_6
  have E4_7 := Lib.hid (E4_6.out.under hk)
  clear E4_6
  have q3_7 := Lib.hid (q3_6.out.under hk)
  clear q3_6
  have HB7 := Lib.hid (HB6.out.trans (hk.mono HB6.out.size))
  have T7 := Lib.hid (T6.out.under T6.out.lt hk)
  clear T6
  clear hk hb
  have g_q1_l : w.heap.size + 1 < w7.heap.size := q1_7.out.l
  have g_q1_0 : w7.cell? ⟨w.heap.size + 1, 0, none⟩ = some (.int .i64 k) := q1_7.out.r 0 _ rfl
  have g_q1_1 : w7.cell? ⟨w.heap.size + 1, 1, none⟩ = some (.int .u8 (b0.toNat : Int)) := q1_7.out.r 1 _ rfl
  have g_q1_2 : w7.cell? ⟨w.heap.size + 1, 2, none⟩ = some (.int .u8 (b1.toNat : Int)) := q1_7.out.r 2 _ rfl
  have g_q1_3 : w7.cell? ⟨w.heap.size + 1, 3, none⟩ = some (.int .u8 (b2.toNat : Int)) := q1_7.out.r 3 _ rfl
  have g_q1_4 : w7.cell? ⟨w.heap.size + 1, 4, none⟩ = some (.int .u8 (b3.toNat : Int)) := q1_7.out.r 4 _ rfl
  have g_q1_5 : w7.cell? ⟨w.heap.size + 1, 5, none⟩ = some (.int .u8 (b4.toNat : Int)) := q1_7.out.r 5 _ rfl
  have g_q1_6 : w7.cell? ⟨w.heap.size + 1, 6, none⟩ = some (.int .u8 (b5.toNat : Int)) := q1_7.out.r 6 _ rfl
  have g_q1_7 : w7.cell? ⟨w.heap.size + 1, 7, none⟩ = some (.int .u8 (b6.toNat : Int)) := q1_7.out.r 7 _ rfl
  have g_q1_8 : w7.cell? ⟨w.heap.size + 1, 8, none⟩ = some (.int .u8 (b7.toNat : Int)) := q1_7.out.r 8 _ rfl
  repeat (first | go_values | go_skip | go_guarded | (simp only [List.append_eq, List.cons_append, List.nil_append]) | go_step | go_upon | (simp only [Int.not_lt, Int.not_le] at *; go_simp))
  refine (right_all k b0 b1 b2 b3 b4 b5 b6 b7 false HA.out _).mono ?_
  rintro e w8 ⟨rfl, hb⟩
  have hk : Below w7.heap.size w7 w8 := Below.trans (by repeat (first | exact Below.refl _ _ | refine Below.alloc ?_ (by first | omega | (simp; done) | (simp; omega)) _)) (hb.mono (by first | omega | (simp; done) | (simp; omega)))
  have q0_8 := Lib.hid (q0_7.out.under hk)
  clear q0_7
  have q1_8 := Lib.hid (q1_7.out.under hk)
  clear q1_7
  have E1_8 := Lib.hid (E1_7.out.under hk)
  clear E1_7
  have E2_8 := Lib.hid (E2_7.out.under hk)
  clear E2_7
  have E3_8 := Lib.hid (E3_7.out.under hk)
  clear E3_7
  have q2_8 := Lib.hid (q2_7.out.under hk)
  clear q2_7
  have E4_8 := Lib.hid (E4_7.out.under hk)
  clear E4_7
  have q3_8 := Lib.hid (q3_7.out.under hk)
  clear q3_7
  have HB8 := Lib.hid (HB7.out.trans (hk.mono HB7.out.size))
  have T8 := Lib.hid (T7.out.under T7.out.lt hk)
  clear T7
  clear hk hb
  clear g_q1_l g_q1_0 g_q1_1 g_q1_2 g_q1_3 g_q1_4 g_q1_5 g_q1_6 g_q1_7 g_q1_8
  repeat (first | go_values | go_skip | go_guarded | (simp only [List.append_eq, List.cons_append, List.nil_append]) | go_step | go_upon | (simp only [Int.not_lt, Int.not_le] at *; go_simp))
  refine (Num_c _ v2 8 (ErrC.under E2_8.out (by repeat (first | exact Below.refl _ _ | refine Below.alloc ?_ (by first | omega | (simp; done) | (simp; omega)) _))) (T8.out.under T8.out.lt (by repeat (first | exact Below.refl _ _ | refine Below.alloc ?_ (by first | omega | (simp; done) | (simp; omega)) _)))).mono ?_
  rintro e w9 ⟨rfl, hb⟩
  have hk : Below w8.heap.size w8 w9 := Below.trans (by repeat (first | exact Below.refl _ _ | refine Below.alloc ?_ (by first | omega | (simp; done) | (simp; omega)) _)) (hb.mono (by first | omega | (simp; done) | (simp; omega)))
  have q0_9 := Lib.hid (q0_8.out.under hk)
  clear q0_8
  have q1_9 := Lib.hid (q1_8.out.under hk)
  clear q1_8
  have E1_9 := Lib.hid (E1_8.out.under hk)
  clear E1_8
  have E2_9 := Lib.hid (E2_8.out.under hk)
  clear E2_8
  have E3_9 := Lib.hid (E3_8.out.under hk)
  clear E3_8
  have q2_9 := Lib.hid (q2_8.out.under hk)
  clear q2_8
  have E4_9 := Lib.hid (E4_8.out.under hk)
  clear E4_8
  have q3_9 := Lib.hid (q3_8.out.under hk)
  clear q3_8
  have HB9 := Lib.hid (HB8.out.trans (hk.mono HB8.out.size))
  have T9 := Lib.hid (T8.out.under T8.out.lt hk)
  clear T8
  clear hk hb
  repeat (first | go_values | go_skip | go_guarded | (simp only [List.append_eq, List.cons_append, List.nil_append]) | go_step | go_upon | (simp only [Int.not_lt, Int.not_le] at *; go_simp))
  refine (Num_c _ v1 8 (ErrC.under E1_9.out (by repeat (first | exact Below.refl _ _ | refine Below.alloc ?_ (by first | omega | (simp; done) | (simp; omega)) _))) (T9.out.under T9.out.lt (by repeat (first | exact Below.refl _ _ | refine Below.alloc ?_ (by first | omega | (simp; done) | (simp; omega)) _)))).mono ?_
  rintro e w10 ⟨rfl, hb⟩
  have hk : Below w9.heap.size w9 w10 := Below.trans (by repeat (first | exact Below.refl _ _ | refine Below.alloc ?_ (by first | omega | (simp; done) | (simp; omega)) _)) (hb.mono (by first | omega | (simp; done) | (simp; omega)))
  have q0_10 := Lib.hid (q0_9.out.under hk)
  clear q0_9
  have q1_10 := Lib.hid (q1_9.out.under hk)
  clear q1_9
  have E1_10 := Lib.hid (E1_9.out.under hk)
  clear E1_9
  have E2_10 := Lib.hid (E2_9.out.under hk)
  clear E2_9
  have E3_10 := Lib.hid (E3_9.out.under hk)
  clear E3_9
  have q2_10 := Lib.hid (q2_9.out.under hk)
  clear q2_9
  have E4_10 := Lib.hid (E4_9.out.under hk)
  clear E4_9
  have q3_10 := Lib.hid (q3_9.out.under hk)
  clear q3_9
  have HB10 := Lib.hid (HB9.out.trans (hk.mono HB9.out.size))
  have T10 := Lib.hid (T9.out.under T9.out.lt hk)
  clear T9
  clear hk hb
  repeat (first | go_values | go_skip | go_guarded | (simp only [List.append_eq, List.cons_append, List.nil_append]) | go_step | go_upon | (simp only [Int.not_lt, Int.not_le] at *; go_simp))
  refine (Num_c _ v2 8 (ErrC.under E2_10.out (by repeat (first | exact Below.refl _ _ | refine Below.alloc ?_ (by first | omega | (simp; done) | (simp; omega)) _))) (T10.out.under T10.out.lt (by repeat (first | exact Below.refl _ _ | refine Below.alloc ?_ (by first | omega | (simp; done) | (simp; omega)) _)))).mono ?_
  rintro e w11 ⟨rfl, hb⟩
  have hk : Below w10.heap.size w10 w11 := Below.trans (by repeat (first | exact Below.refl _ _ | refine Below.alloc ?_ (by first | omega | (simp; done) | (simp; omega)) _)) (hb.mono (by first | omega | (simp; done) | (simp; omega)))
  have q0_11 := Lib.hid (q0_10.out.under hk)
  clear q0_10
  have q1_11 := Lib.hid (q1_10.out.under hk)
  clear q1_10
  have E1_11 := Lib.hid (E1_10.out.under hk)
  clear E1_10
  have E2_11 := Lib.hid (E2_10.out.under hk)
  clear E2_10
  have E3_11 := Lib.hid (E3_10.out.under hk)
  clear E3_10
  have q2_11 := Lib.hid (q2_10.out.under hk)
  clear q2_10
  have E4_11 := Lib.hid (E4_10.out.under hk)
  clear E4_10
  have q3_11 := Lib.hid (q3_10.out.under hk)
  clear q3_10
  have HB11 := Lib.hid (HB10.out.trans (hk.mono HB10.out.size))
  have T11 := Lib.hid (T10.out.under T10.out.lt hk)
  clear T10
  clear hk hb
  repeat (first | go_values | go_skip | go_guarded | (simp only [List.append_eq, List.cons_append, List.nil_append]) | go_step | go_upon | (simp only [Int.not_lt, Int.not_le] at *; go_simp))
  refine (Num_c _ v1 8 (ErrC.under E1_11.out (by repeat (first | exact Below.refl _ _ | refine Below.alloc ?_ (by first | omega | (simp; done) | (simp; omega)) _))) (T11.out.under T11.out.lt (by repeat (first | exact Below.refl _ _ | refine Below.alloc ?_ (by first | omega | (simp; done) | (simp; omega)) _)))).mono ?_
  rintro e w12 ⟨rfl, hb⟩
  have hk : Below w11.heap.size w11 w12 := Below.trans (by repeat (first | exact Below.refl _ _ | refine Below.alloc ?_ (by first | omega | (simp; done) | (simp; omega)) _)) (hb.mono (by first | omega | (simp; done) | (simp; omega)))
  have q0_12 := Lib.hid (q0_11.out.under hk)
  clear q0_11
  have q1_12 := Lib.hid (q1_11.out.under hk)
  clear q1_11
  have E1_12 := Lib.hid (E1_11.out.under hk)
  clear E1_11
  have E2_12 := Lib.hid (E2_11.out.under hk)
  clear E2_11
  have E3_12 := Lib.hid (E3_11.out.under hk)
  clear E3_11
  have q2_12 := Lib.hid (q2_11.out.under hk)
  clear q2_11
  have E4_12 := Lib.hid (E4_11.out.under hk)
  clear E4_11
  have q3_12 := Lib.hid (q3_11.out.under hk)
  clear q3_11
  have HB12 := Lib.hid (HB11.out.trans (hk.mono HB11.out.size))
  have T12 := Lib.hid (T11.out.under T11.out.lt hk)
  clear T11
  clear hk hb
  repeat (first | go_values | go_skip | go_guarded | (simp only [List.append_eq, List.cons_append, List.nil_append]) | go_step | go_upon | (simp only [Int.not_lt, Int.not_le] at *; go_simp))
  refine (Num_c _ v1 8 (ErrC.under E1_12.out (by repeat (first | exact Below.refl _ _ | refine Below.alloc ?_ (by first | omega | (simp; done) | (simp; omega)) _))) (T12.out.under T12.out.lt (by repeat (first | exact Below.refl _ _ | refine Below.alloc ?_ (by first | omega | (simp; done) | (simp; omega)) _)))).mono ?_
  rintro e w13 ⟨rfl, hb⟩
  have hk : Below w12.heap.size w12 w13 := Below.trans (by repeat (first | exact Below.refl _ _ | refine Below.alloc ?_ (by first | omega | (simp; done) | (simp; omega)) _)) (hb.mono (by first | omega | (simp; done) | (simp; omega)))
  have q0_13 := Lib.hid (q0_12.out.under hk)
  clear q0_12
  have q1_13 := Lib.hid (q1_12.out.under hk)
  clear q1_12
  have E1_13 := Lib.hid (E1_12.out.under hk)
  clear E1_12
  have E2_13 := Lib.hid (E2_12.out.under hk)
  clear E2_12
  have E3_13 := Lib.hid (E3_12.out.under hk)
  clear E3_12
  have q2_13 := Lib.hid (q2_12.out.under hk)
  clear q2_12
  have E4_13 := Lib.hid (E4_12.out.under hk)
  clear E4_12
  have q3_13 := Lib.hid (q3_12.out.under hk)
  clear q3_12
  have HB13 := Lib.hid (HB12.out.trans (hk.mono HB12.out.size))
  have T13 := Lib.hid (T12.out.under T12.out.lt hk)
  clear T12
  clear hk hb
  repeat (first | go_values | go_skip | go_guarded | (simp only [List.append_eq, List.cons_append, List.nil_append]) | go_step | go_upon | (simp only [Int.not_lt, Int.not_le] at *; go_simp))
  refine (Num_c _ v3 2 (ErrC.under E3_13.out (by repeat (first | exact Below.refl _ _ | refine Below.alloc ?_ (by first | omega | (simp; done) | (simp; omega)) _))) (T13.out.under T13.out.lt (by repeat (first | exact Below.refl _ _ | refine Below.alloc ?_ (by first | omega | (simp; done) | (simp; omega)) _)))).mono ?_
  rintro e w14 ⟨rfl, hb⟩
  have hk : Below w13.heap.size w13 w14 := Below.trans (by repeat (first | exact Below.refl _ _ | refine Below.alloc ?_ (by first | omega | (simp; done) | (simp; omega)) _)) (hb.mono (by first | omega | (simp; done) | (simp; omega)))
  have q0_14 := Lib.hid (q0_13.out.under hk)
  clear q0_13
  have q1_14 := Lib.hid (q1_13.out.under hk)
  clear q1_13
  have E1_14 := Lib.hid (E1_13.out.under hk)
  clear E1_13
  have E2_14 := Lib.hid (E2_13.out.under hk)
  clear E2_13
  have E3_14 := Lib.hid (E3_13.out.under hk)
  clear E3_13
  have q2_14 := Lib.hid (q2_13.out.under hk)
  clear q2_13
  have E4_14 := Lib.hid (E4_13.out.under hk)
  clear E4_13
  have q3_14 := Lib.hid (q3_13.out.under hk)
  clear q3_13
  have HB14 := Lib.hid (HB13.out.trans (hk.mono HB13.out.size))
  have T14 := Lib.hid (T13.out.under T13.out.lt hk)
  clear T13
  clear hk hb
  repeat (first | go_values | go_skip | go_guarded | (simp only [List.append_eq, List.cons_append, List.nil_append]) | go_step | go_upon | (simp only [Int.not_lt, Int.not_le] at *; go_simp))
  refine (Num_c _ v2 8 (ErrC.under E2_14.out (by repeat (first | exact Below.refl _ _ | refine Below.alloc ?_ (by first | omega | (simp; done) | (simp; omega)) _))) (T14.out.under T14.out.lt (by repeat (first | exact Below.refl _ _ | refine Below.alloc ?_ (by first | omega | (simp; done) | (simp; omega)) _)))).mono ?_
  rintro e w15 ⟨rfl, hb⟩
  have hk : Below w14.heap.size w14 w15 := Below.trans (by repeat (first | exact Below.refl _ _ | refine Below.alloc ?_ (by first | omega | (simp; done) | (simp; omega)) _)) (hb.mono (by first | omega | (simp; done) | (simp; omega)))
  have q0_15 := Lib.hid (q0_14.out.under hk)
  clear q0_14
  have q1_15 := Lib.hid (q1_14.out.under hk)
  clear q1_14
  have E1_15 := Lib.hid (E1_14.out.under hk)
  clear E1_14
  have E2_15 := Lib.hid (E2_14.out.under hk)
  clear E2_14
  have E3_15 := Lib.hid (E3_14.out.under hk)
  clear E3_14
  have q2_15 := Lib.hid (q2_14.out.under hk)
  clear q2_14
  have E4_15 := Lib.hid (E4_14.out.under hk)
  clear E4_14
  have q3_15 := Lib.hid (q3_14.out.under hk)
  clear q3_14
  have HB15 := Lib.hid (HB14.out.trans (hk.mono HB14.out.size))
  have T15 := Lib.hid (T14.out.under T14.out.lt hk)
  clear T14
  clear hk hb
  repeat (first | go_values | go_skip | go_guarded | (simp only [List.append_eq, List.cons_append, List.nil_append]) | go_step | go_upon | (simp only [Int.not_lt, Int.not_le] at *; go_simp))
  refine (Num_c _ v2 8 (ErrC.under E2_15.out (by repeat (first | exact Below.refl _ _ | refine Below.alloc ?_ (by first | omega | (simp; done) | (simp; omega)) _))) (T15.out.under T15.out.lt (by repeat (first | exact Below.refl _ _ | refine Below.alloc ?_ (by first | omega | (simp; done) | (simp; omega)) _)))).mono ?_
  rintro e w16 ⟨rfl, hb⟩
  have hk : Below w15.heap.size w15 w16 := Below.trans (by repeat (first | exact Below.refl _ _ | refine Below.alloc ?_ (by first | omega | (simp; done) | (simp; omega)) _)) (hb.mono (by first | omega | (simp; done) | (simp; omega)))
  have q0_16 := Lib.hid (q0_15.out.under hk)
  clear q0_15
  have q1_16 := Lib.hid (q1_15.out.under hk)
  clear q1_15
  have E1_16 := Lib.hid (E1_15.out.under hk)
  clear E1_15
  have E2_16 := Lib.hid (E2_15.out.under hk)
  clear E2_15
  have E3_16 := Lib.hid (E3_15.out.under hk)
  clear E3_15
  have q2_16 := Lib.hid (q2_15.out.under hk)
  clear q2_15
  have E4_16 := Lib.hid (E4_15.out.under hk)
  clear E4_15
  have q3_16 := Lib.hid (q3_15.out.under hk)
  clear q3_15
  have HB16 := Lib.hid (HB15.out.trans (hk.mono HB15.out.size))
  have T16 := Lib.hid (T15.out.under T15.out.lt hk)
  clear T15
  clear hk hb
  repeat (first | go_values | go_skip | go_guarded | (simp only [List.append_eq, List.cons_append, List.nil_append]) | go_step | go_upon | (simp only [Int.not_lt, Int.not_le] at *; go_simp))
  refine (Num_c _ v4 2 (ErrC.under E4_16.out (by repeat (first | exact Below.refl _ _ | refine Below.alloc ?_ (by first | omega | (simp; done) | (simp; omega)) _))) (T16.out.under T16.out.lt (by repeat (first | exact Below.refl _ _ | refine Below.alloc ?_ (by first | omega | (simp; done) | (simp; omega)) _)))).mono ?_
  rintro e w17 ⟨rfl, hb⟩
  have hk : Below w16.heap.size w16 w17 := Below.trans (by repeat (first | exact Below.refl _ _ | refine Below.alloc ?_ (by first | omega | (simp; done) | (simp; omega)) _)) (hb.mono (by first | omega | (simp; done) | (simp; omega)))
  have q0_17 := Lib.hid (q0_16.out.under hk)
  clear q0_16
  have q1_17 := Lib.hid (q1_16.out.under hk)
  clear q1_16
  have E1_17 := Lib.hid (E1_16.out.under hk)
  clear E1_16
  have E2_17 := Lib.hid (E2_16.out.under hk)
  clear E2_16
  have E3_17 := Lib.hid (E3_16.out.under hk)
  clear E3_16
  have q2_17 := Lib.hid (q2_16.out.under hk)
  clear q2_16
  have E4_17 := Lib.hid (E4_16.out.under hk)
  clear E4_16
  have q3_17 := Lib.hid (q3_16.out.under hk)
  clear q3_16
  have HB17 := Lib.hid (HB16.out.trans (hk.mono HB16.out.size))
  have T17 := Lib.hid (T16.out.under T16.out.lt hk)
  clear T16
  clear hk hb
  repeat (first | go_values | go_skip | go_guarded | (simp only [List.append_eq, List.cons_append, List.nil_append]) | go_step | go_upon | (simp only [Int.not_lt, Int.not_le] at *; go_simp))
  go_ret
  exact ⟨rfl, (HB17.out.trans (by repeat (first | exact Below.refl _ _ | refine Below.alloc ?_ (by first | omega | (simp; done) | (simp; omega)) _)))⟩
set_option maxHeartbeats 4000000 in
set_option maxRecDepth 100000 in
theorem tasks_01 (y : Tas) (k : Int) (b0 b1 b2 b3 b4 b5 b6 b7 : UInt8) (w : World) (hy : y.right = false) (ha : Al.right ⟨k, [b0, b1, b2, b3, b4, b5, b6, b7]⟩ = true) (tied : Tied w) : Calls Tryd.prog 5 #[.agg #[.int .i64 y.f, .int .i64 y.t, .int .i64 y.s], .agg #[.int .i64 k, .int .u8 (b0.toNat : Int), .int .u8 (b1.toNat : Int), .int .u8 (b2.toNat : Int), .int .u8 (b3.toNat : Int), .int .u8 (b4.toNat : Int), .int .u8 (b5.toNat : Int), .int .u8 (b6.toNat : Int), .int .u8 (b7.toNat : Int)]] w fun e w' => e = .returned (.bool true) ∧ Below w.heap.size w w' := by
  have HY := Lib.hid hy
  have HA := Lib.hid ha
  have L1 := Lib.hid (fun w => lay_task_no y HY.out w)
  have L2 := Lib.hid (fun w => lay_all_ok k b0 b1 b2 b3 b4 b5 b6 b7 HA.out w)
  have hbd := build_all k b0 b1 b2 b3 b4 b5 b6 b7
  have hqo := oct_same b0 b1 b2 b3 b4 b5 b6 b7
  clear hy ha
  have HB0 := Lib.hid (Below.refl w.heap.size w)
  have T0 := Lib.hid tied
  clear tied
  go_enter Tryd.func5, Tryd.ntmps5
  go_wp2_with fail
  refine (rec_awake _).mono ?_
  rintro e w1 ⟨rfl, hb⟩
  have e1 : (w.alloc (.cells y.cs 38)).heap.size = w.heap.size + 1 := by simp
  have h0 := (At.new w y.cs 38).under ((Below.refl _ _).alloc (Nat.le_refl _) (.cells (alCs k b0 b1 b2 b3 b4 b5 b6 b7) 41))
  have h1 := At.new (w.alloc (.cells y.cs 38)) (alCs k b0 b1 b2 b3 b4 b5 b6 b7) 41
  have q0_1 := Lib.hid (h0.under hb)
  have h1 := h1.under hb
  rw [e1] at h1
  have q1_1 := Lib.hid h1
  have hk : Below w.heap.size w w1 := Below.trans (by repeat (first | exact Below.refl _ _ | refine Below.alloc ?_ (by first | omega | (simp; done) | (simp; omega)) _)) (hb.mono (by first | omega | (simp; done) | (simp; omega)))
  have HB1 := Lib.hid (HB0.out.trans (hk.mono HB0.out.size))
  have T1 := Lib.hid (T0.out.under T0.out.lt hk)
  clear T0 hk hb h0 h1 e1
  have g_q0_l : w.heap.size < w1.heap.size := q0_1.out.l
  have g_q0_0 : w1.cell? ⟨w.heap.size, 0, none⟩ = some (.int .i64 y.f) := q0_1.out.r 0 _ rfl
  have g_q0_1 : w1.cell? ⟨w.heap.size, 1, none⟩ = some (.int .i64 y.t) := q0_1.out.r 1 _ rfl
  have g_q0_2 : w1.cell? ⟨w.heap.size, 2, none⟩ = some (.int .i64 y.s) := q0_1.out.r 2 _ rfl
  go_wp2_with fail
  refine (L1.out _).mono ?_
  rintro e w2 ⟨v1, rfl, he, hb⟩
  have hk : Below w1.heap.size w1 w2 := Below.trans (by repeat (first | exact Below.refl _ _ | refine Below.alloc ?_ (by first | omega | (simp; done) | (simp; omega)) _)) (hb.mono (by first | omega | (simp; done) | (simp; omega)))
  have q0_2 := Lib.hid (q0_1.out.under hk)
  clear q0_1
  have q1_2 := Lib.hid (q1_1.out.under hk)
  clear q1_1
  have HB2 := Lib.hid (HB1.out.trans (hk.mono HB1.out.size))
  have T2 := Lib.hid (T1.out.under T1.out.lt hk)
  clear T1
  have E1_2 := Lib.hid he
  clear he
  clear hk hb
  clear g_q0_l g_q0_0 g_q0_1 g_q0_2
  have g_q1_l : w.heap.size + 1 < w2.heap.size := q1_2.out.l
  have g_q1_0 : w2.cell? ⟨w.heap.size + 1, 0, none⟩ = some (.int .i64 k) := q1_2.out.r 0 _ rfl
  have g_q1_1 : w2.cell? ⟨w.heap.size + 1, 1, none⟩ = some (.int .u8 (b0.toNat : Int)) := q1_2.out.r 1 _ rfl
  have g_q1_2 : w2.cell? ⟨w.heap.size + 1, 2, none⟩ = some (.int .u8 (b1.toNat : Int)) := q1_2.out.r 2 _ rfl
  have g_q1_3 : w2.cell? ⟨w.heap.size + 1, 3, none⟩ = some (.int .u8 (b2.toNat : Int)) := q1_2.out.r 3 _ rfl
  have g_q1_4 : w2.cell? ⟨w.heap.size + 1, 4, none⟩ = some (.int .u8 (b3.toNat : Int)) := q1_2.out.r 4 _ rfl
  have g_q1_5 : w2.cell? ⟨w.heap.size + 1, 5, none⟩ = some (.int .u8 (b4.toNat : Int)) := q1_2.out.r 5 _ rfl
  have g_q1_6 : w2.cell? ⟨w.heap.size + 1, 6, none⟩ = some (.int .u8 (b5.toNat : Int)) := q1_2.out.r 6 _ rfl
  have g_q1_7 : w2.cell? ⟨w.heap.size + 1, 7, none⟩ = some (.int .u8 (b6.toNat : Int)) := q1_2.out.r 7 _ rfl
  have g_q1_8 : w2.cell? ⟨w.heap.size + 1, 8, none⟩ = some (.int .u8 (b7.toNat : Int)) := q1_2.out.r 8 _ rfl
  go_wp2_with fail
  refine (L2.out _).mono ?_
  rintro e w3 ⟨rfl, hb⟩
  have hk : Below w2.heap.size w2 w3 := Below.trans (by repeat (first | exact Below.refl _ _ | refine Below.alloc ?_ (by first | omega | (simp; done) | (simp; omega)) _)) (hb.mono (by first | omega | (simp; done) | (simp; omega)))
  have q0_3 := Lib.hid (q0_2.out.under hk)
  clear q0_2
  have q1_3 := Lib.hid (q1_2.out.under hk)
  clear q1_2
  have E1_3 := Lib.hid (E1_2.out.under hk)
  clear E1_2
  have HB3 := Lib.hid (HB2.out.trans (hk.mono HB2.out.size))
  have T3 := Lib.hid (T2.out.under T2.out.lt hk)
  clear T2
  clear hk hb
  clear g_q1_l g_q1_0 g_q1_1 g_q1_2 g_q1_3 g_q1_4 g_q1_5 g_q1_6 g_q1_7 g_q1_8
  go_wp2_with fail
  refine (tas_read_empty _).mono ?_
  rintro e w4 ⟨v3, rfl, he, hb⟩
  have hk : Below w3.heap.size w3 w4 := Below.trans (by repeat (first | exact Below.refl _ _ | refine Below.alloc ?_ (by first | omega | (simp; done) | (simp; omega)) _)) (hb.mono (by first | omega | (simp; done) | (simp; omega)))
  have q0_4 := Lib.hid (q0_3.out.under hk)
  clear q0_3
  have q1_4 := Lib.hid (q1_3.out.under hk)
  clear q1_3
  have E1_4 := Lib.hid (E1_3.out.under hk)
  clear E1_3
  have HB4 := Lib.hid (HB3.out.trans (hk.mono HB3.out.size))
  have T4 := Lib.hid (T3.out.under T3.out.lt hk)
  clear T3
  have E3_4 := Lib.hid he
  clear he
  clear hk hb
  go_wp2_with (first | ((with_reducible refine at_st 43 (.tmp 9) (.tmp 38) ?_); refine st_last rfl 43 _ _ rfl _ _ _ rfl rfl _ rfl rfl (by kernel_rfl) (by simp [Value.oneCell']) ?_))
  refine (al_read_back k b0 b1 b2 b3 b4 b5 b6 b7 HA.out _).mono ?_
  rintro e w5 ⟨rfl, hb⟩
  have hat_q2 := (At.new w4 (⟨0, 0, 0⟩ : Tas).cs 43)
  have hk : Below w4.heap.size w4 w5 := Below.trans (by repeat (first | exact Below.refl _ _ | refine Below.alloc ?_ (by first | omega | (simp; done) | (simp; omega)) _)) (hb.mono (by first | omega | (simp; done) | (simp; omega)))
  have q0_5 := Lib.hid (q0_4.out.under hk)
  clear q0_4
  have q1_5 := Lib.hid (q1_4.out.under hk)
  clear q1_4
  have E1_5 := Lib.hid (E1_4.out.under hk)
  clear E1_4
  have E3_5 := Lib.hid (E3_4.out.under hk)
  clear E3_4
  have q2_5 := Lib.hid (hat_q2.under hb)
  clear hat_q2
  have HB5 := Lib.hid (HB4.out.trans (hk.mono HB4.out.size))
  have T5 := Lib.hid (T4.out.under T4.out.lt hk)
  clear T4
  clear hk hb
  have g_q0_l : w.heap.size < w5.heap.size := q0_5.out.l
  have g_q0_0 : w5.cell? ⟨w.heap.size, 0, none⟩ = some (.int .i64 y.f) := q0_5.out.r 0 _ rfl
  have g_q0_1 : w5.cell? ⟨w.heap.size, 1, none⟩ = some (.int .i64 y.t) := q0_5.out.r 1 _ rfl
  have g_q0_2 : w5.cell? ⟨w.heap.size, 2, none⟩ = some (.int .i64 y.s) := q0_5.out.r 2 _ rfl
  go_wp2_with (first | ((with_reducible refine at_st 45 (.tmp 11) (.tmp 43) ?_); refine st_last rfl 45 _ _ rfl _ _ _ rfl rfl _ rfl rfl (by kernel_rfl) (by simp [Value.oneCell']) ?_))
  refine (right_tas y false HY.out _).mono ?_
  rintro e w6 ⟨rfl, hb⟩
  have hat_q3 := (At.new w5 (alCs k b0 b1 b2 b3 b4 b5 b6 b7) 45)
  have hk : Below w5.heap.size w5 w6 := Below.trans (by repeat (first | exact Below.refl _ _ | refine Below.alloc ?_ (by first | omega | (simp; done) | (simp; omega)) _)) (hb.mono (by first | omega | (simp; done) | (simp; omega)))
  have q0_6 := Lib.hid (q0_5.out.under hk)
  clear q0_5
  have q1_6 := Lib.hid (q1_5.out.under hk)
  clear q1_5
  have E1_6 := Lib.hid (E1_5.out.under hk)
  clear E1_5
  have E3_6 := Lib.hid (E3_5.out.under hk)
  clear E3_5
  have q2_6 := Lib.hid (q2_5.out.under hk)
  clear q2_5
  have q3_6 := Lib.hid (hat_q3.under hb)
  clear hat_q3
  have HB6 := Lib.hid (HB5.out.trans (hk.mono HB5.out.size))
  have T6 := Lib.hid (T5.out.under T5.out.lt hk)
  clear T5
  clear hk hb
  clear g_q0_l g_q0_0 g_q0_1 g_q0_2
  repeat (first | go_values | go_skip | go_guarded | (simp only [List.append_eq, List.cons_append, List.nil_append]) | go_step | go_upon | (simp only [Int.not_lt, Int.not_le] at *; go_simp))
  refine (Num_c _ v1 8 (ErrC.under E1_6.out (by repeat (first | exact Below.refl _ _ | refine Below.alloc ?_ (by first | omega | (simp; done) | (simp; omega)) _))) (T6.out.under T6.out.lt (by repeat (first | exact Below.refl _ _ | refine Below.alloc ?_ (by first | omega | (simp; done) | (simp; omega)) _)))).mono ?_
  rintro e w7 ⟨rfl, hb⟩
  have hk : Below w6.heap.size w6 w7 := Below.trans (by repeat (first | exact Below.refl _ _ | refine Below.alloc ?_ (by first | omega | (simp; done) | (simp; omega)) _)) (hb.mono (by first | omega | (simp; done) | (simp; omega)))
  have q0_7 := Lib.hid (q0_6.out.under hk)
  clear q0_6
  have q1_7 := Lib.hid (q1_6.out.under hk)
  clear q1_6
  have E1_7 := Lib.hid (E1_6.out.under hk)
  clear E1_6
  have E3_7 := Lib.hid (E3_6.out.under hk)
  clear E3_6
  have q2_7 := Lib.hid (q2_6.out.under hk)
  clear q2_6
  have q3_7 := Lib.hid (q3_6.out.under hk)
  clear q3_6
  have HB7 := Lib.hid (HB6.out.trans (hk.mono HB6.out.size))
  have T7 := Lib.hid (T6.out.under T6.out.lt hk)
  clear T6
  clear hk hb
  have g_q1_l : w.heap.size + 1 < w7.heap.size := q1_7.out.l
  have g_q1_0 : w7.cell? ⟨w.heap.size + 1, 0, none⟩ = some (.int .i64 k) := q1_7.out.r 0 _ rfl
  have g_q1_1 : w7.cell? ⟨w.heap.size + 1, 1, none⟩ = some (.int .u8 (b0.toNat : Int)) := q1_7.out.r 1 _ rfl
  have g_q1_2 : w7.cell? ⟨w.heap.size + 1, 2, none⟩ = some (.int .u8 (b1.toNat : Int)) := q1_7.out.r 2 _ rfl
  have g_q1_3 : w7.cell? ⟨w.heap.size + 1, 3, none⟩ = some (.int .u8 (b2.toNat : Int)) := q1_7.out.r 3 _ rfl
  have g_q1_4 : w7.cell? ⟨w.heap.size + 1, 4, none⟩ = some (.int .u8 (b3.toNat : Int)) := q1_7.out.r 4 _ rfl
  have g_q1_5 : w7.cell? ⟨w.heap.size + 1, 5, none⟩ = some (.int .u8 (b4.toNat : Int)) := q1_7.out.r 5 _ rfl
  have g_q1_6 : w7.cell? ⟨w.heap.size + 1, 6, none⟩ = some (.int .u8 (b5.toNat : Int)) := q1_7.out.r 6 _ rfl
  have g_q1_7 : w7.cell? ⟨w.heap.size + 1, 7, none⟩ = some (.int .u8 (b6.toNat : Int)) := q1_7.out.r 7 _ rfl
  have g_q1_8 : w7.cell? ⟨w.heap.size + 1, 8, none⟩ = some (.int .u8 (b7.toNat : Int)) := q1_7.out.r 8 _ rfl
  repeat (first | go_values | go_skip | go_guarded | (simp only [List.append_eq, List.cons_append, List.nil_append]) | go_step | go_upon | (simp only [Int.not_lt, Int.not_le] at *; go_simp))
  refine (right_all k b0 b1 b2 b3 b4 b5 b6 b7 true HA.out _).mono ?_
  rintro e w8 ⟨rfl, hb⟩
  have hk : Below w7.heap.size w7 w8 := Below.trans (by repeat (first | exact Below.refl _ _ | refine Below.alloc ?_ (by first | omega | (simp; done) | (simp; omega)) _)) (hb.mono (by first | omega | (simp; done) | (simp; omega)))
  have q0_8 := Lib.hid (q0_7.out.under hk)
  clear q0_7
  have q1_8 := Lib.hid (q1_7.out.under hk)
  clear q1_7
  have E1_8 := Lib.hid (E1_7.out.under hk)
  clear E1_7
  have E3_8 := Lib.hid (E3_7.out.under hk)
  clear E3_7
  have q2_8 := Lib.hid (q2_7.out.under hk)
  clear q2_7
  have q3_8 := Lib.hid (q3_7.out.under hk)
  clear q3_7
  have HB8 := Lib.hid (HB7.out.trans (hk.mono HB7.out.size))
  have T8 := Lib.hid (T7.out.under T7.out.lt hk)
  clear T7
  clear hk hb
  clear g_q1_l g_q1_0 g_q1_1 g_q1_2 g_q1_3 g_q1_4 g_q1_5 g_q1_6 g_q1_7 g_q1_8
  repeat (first | go_values | go_skip | go_guarded | (simp only [List.append_eq, List.cons_append, List.nil_append]) | go_step | go_upon | (simp only [Int.not_lt, Int.not_le] at *; go_simp))
  refine (Num_nil _).mono ?_
  rintro e _ ⟨rfl, rfl⟩
  repeat (first | go_values | go_skip | go_guarded | (simp only [List.append_eq, List.cons_append, List.nil_append]) | go_step | go_upon | (simp only [Int.not_lt, Int.not_le] at *; go_simp))
  refine (Num_c _ v1 8 (ErrC.under E1_8.out (by repeat (first | exact Below.refl _ _ | refine Below.alloc ?_ (by first | omega | (simp; done) | (simp; omega)) _))) (T8.out.under T8.out.lt (by repeat (first | exact Below.refl _ _ | refine Below.alloc ?_ (by first | omega | (simp; done) | (simp; omega)) _)))).mono ?_
  rintro e w9 ⟨rfl, hb⟩
  have hk : Below w8.heap.size w8 w9 := Below.trans (by repeat (first | exact Below.refl _ _ | refine Below.alloc ?_ (by first | omega | (simp; done) | (simp; omega)) _)) (hb.mono (by first | omega | (simp; done) | (simp; omega)))
  have q0_9 := Lib.hid (q0_8.out.under hk)
  clear q0_8
  have q1_9 := Lib.hid (q1_8.out.under hk)
  clear q1_8
  have E1_9 := Lib.hid (E1_8.out.under hk)
  clear E1_8
  have E3_9 := Lib.hid (E3_8.out.under hk)
  clear E3_8
  have q2_9 := Lib.hid (q2_8.out.under hk)
  clear q2_8
  have q3_9 := Lib.hid (q3_8.out.under hk)
  clear q3_8
  have HB9 := Lib.hid (HB8.out.trans (hk.mono HB8.out.size))
  have T9 := Lib.hid (T8.out.under T8.out.lt hk)
  clear T8
  clear hk hb
  repeat (first | go_values | go_skip | go_guarded | (simp only [List.append_eq, List.cons_append, List.nil_append]) | go_step | go_upon | (simp only [Int.not_lt, Int.not_le] at *; go_simp))
  refine (Num_nil _).mono ?_
  rintro e _ ⟨rfl, rfl⟩
  have g_q1_l : w.heap.size + 1 < w9.heap.size := q1_9.out.l
  have g_q1_0 : w9.cell? ⟨w.heap.size + 1, 0, none⟩ = some (.int .i64 k) := q1_9.out.r 0 _ rfl
  have g_q1_1 : w9.cell? ⟨w.heap.size + 1, 1, none⟩ = some (.int .u8 (b0.toNat : Int)) := q1_9.out.r 1 _ rfl
  have g_q1_2 : w9.cell? ⟨w.heap.size + 1, 2, none⟩ = some (.int .u8 (b1.toNat : Int)) := q1_9.out.r 2 _ rfl
  have g_q1_3 : w9.cell? ⟨w.heap.size + 1, 3, none⟩ = some (.int .u8 (b2.toNat : Int)) := q1_9.out.r 3 _ rfl
  have g_q1_4 : w9.cell? ⟨w.heap.size + 1, 4, none⟩ = some (.int .u8 (b3.toNat : Int)) := q1_9.out.r 4 _ rfl
  have g_q1_5 : w9.cell? ⟨w.heap.size + 1, 5, none⟩ = some (.int .u8 (b4.toNat : Int)) := q1_9.out.r 5 _ rfl
  have g_q1_6 : w9.cell? ⟨w.heap.size + 1, 6, none⟩ = some (.int .u8 (b5.toNat : Int)) := q1_9.out.r 6 _ rfl
  have g_q1_7 : w9.cell? ⟨w.heap.size + 1, 7, none⟩ = some (.int .u8 (b6.toNat : Int)) := q1_9.out.r 7 _ rfl
  have g_q1_8 : w9.cell? ⟨w.heap.size + 1, 8, none⟩ = some (.int .u8 (b7.toNat : Int)) := q1_9.out.r 8 _ rfl
  repeat (first | go_values | go_skip | go_guarded | (simp only [List.append_eq, List.cons_append, List.nil_append]) | go_step | go_upon | (simp only [Int.not_lt, Int.not_le] at *; go_simp))
  refine (ref_all k b0 b1 b2 b3 b4 b5 b6 b7 HA.out _).mono ?_
  rintro e w10 ⟨rfl, hb⟩
  have hk : Below w9.heap.size w9 w10 := Below.trans (by repeat (first | exact Below.refl _ _ | refine Below.alloc ?_ (by first | omega | (simp; done) | (simp; omega)) _)) (hb.mono (by first | omega | (simp; done) | (simp; omega)))
  have q0_10 := Lib.hid (q0_9.out.under hk)
  clear q0_9
  have q1_10 := Lib.hid (q1_9.out.under hk)
  clear q1_9
  have E1_10 := Lib.hid (E1_9.out.under hk)
  clear E1_9
  have E3_10 := Lib.hid (E3_9.out.under hk)
  clear E3_9
  have q2_10 := Lib.hid (q2_9.out.under hk)
  clear q2_9
  have q3_10 := Lib.hid (q3_9.out.under hk)
  clear q3_9
  have HB10 := Lib.hid (HB9.out.trans (hk.mono HB9.out.size))
  have T10 := Lib.hid (T9.out.under T9.out.lt hk)
  clear T9
  clear hk hb
  clear g_q1_l g_q1_0 g_q1_1 g_q1_2 g_q1_3 g_q1_4 g_q1_5 g_q1_6 g_q1_7 g_q1_8
  repeat (first | go_values | go_skip | go_guarded | (simp only [List.append_eq, List.cons_append, List.nil_append]) | go_step | go_upon | (simp only [Int.not_lt, Int.not_le] at *; go_simp))
  refine (Num_nil _).mono ?_
  rintro e _ ⟨rfl, rfl⟩
  have g_q1_l : w.heap.size + 1 < w10.heap.size := q1_10.out.l
  have g_q1_0 : w10.cell? ⟨w.heap.size + 1, 0, none⟩ = some (.int .i64 k) := q1_10.out.r 0 _ rfl
  have g_q1_1 : w10.cell? ⟨w.heap.size + 1, 1, none⟩ = some (.int .u8 (b0.toNat : Int)) := q1_10.out.r 1 _ rfl
  have g_q1_2 : w10.cell? ⟨w.heap.size + 1, 2, none⟩ = some (.int .u8 (b1.toNat : Int)) := q1_10.out.r 2 _ rfl
  have g_q1_3 : w10.cell? ⟨w.heap.size + 1, 3, none⟩ = some (.int .u8 (b2.toNat : Int)) := q1_10.out.r 3 _ rfl
  have g_q1_4 : w10.cell? ⟨w.heap.size + 1, 4, none⟩ = some (.int .u8 (b3.toNat : Int)) := q1_10.out.r 4 _ rfl
  have g_q1_5 : w10.cell? ⟨w.heap.size + 1, 5, none⟩ = some (.int .u8 (b4.toNat : Int)) := q1_10.out.r 5 _ rfl
  have g_q1_6 : w10.cell? ⟨w.heap.size + 1, 6, none⟩ = some (.int .u8 (b5.toNat : Int)) := q1_10.out.r 6 _ rfl
  have g_q1_7 : w10.cell? ⟨w.heap.size + 1, 7, none⟩ = some (.int .u8 (b6.toNat : Int)) := q1_10.out.r 7 _ rfl
  have g_q1_8 : w10.cell? ⟨w.heap.size + 1, 8, none⟩ = some (.int .u8 (b7.toNat : Int)) := q1_10.out.r 8 _ rfl
  have g_q3_l : w5.heap.size < w10.heap.size := q3_10.out.l
  have g_q3_0 : w10.cell? ⟨w5.heap.size, 0, none⟩ = some (.int .i64 k) := q3_10.out.r 0 _ rfl
  have g_q3_1 : w10.cell? ⟨w5.heap.size, 1, none⟩ = some (.int .u8 (b0.toNat : Int)) := q3_10.out.r 1 _ rfl
  have g_q3_2 : w10.cell? ⟨w5.heap.size, 2, none⟩ = some (.int .u8 (b1.toNat : Int)) := q3_10.out.r 2 _ rfl
  have g_q3_3 : w10.cell? ⟨w5.heap.size, 3, none⟩ = some (.int .u8 (b2.toNat : Int)) := q3_10.out.r 3 _ rfl
  have g_q3_4 : w10.cell? ⟨w5.heap.size, 4, none⟩ = some (.int .u8 (b3.toNat : Int)) := q3_10.out.r 4 _ rfl
  have g_q3_5 : w10.cell? ⟨w5.heap.size, 5, none⟩ = some (.int .u8 (b4.toNat : Int)) := q3_10.out.r 5 _ rfl
  have g_q3_6 : w10.cell? ⟨w5.heap.size, 6, none⟩ = some (.int .u8 (b5.toNat : Int)) := q3_10.out.r 6 _ rfl
  have g_q3_7 : w10.cell? ⟨w5.heap.size, 7, none⟩ = some (.int .u8 (b6.toNat : Int)) := q3_10.out.r 7 _ rfl
  have g_q3_8 : w10.cell? ⟨w5.heap.size, 8, none⟩ = some (.int .u8 (b7.toNat : Int)) := q3_10.out.r 8 _ rfl
  repeat (first | go_values | go_skip | go_guarded | (simp only [List.append_eq, List.cons_append, List.nil_append]) | go_step | go_upon | (simp only [Int.not_lt, Int.not_le] at *; go_simp))
  refine (Num_c _ v1 8 (ErrC.under E1_10.out (by repeat (first | exact Below.refl _ _ | refine Below.alloc ?_ (by first | omega | (simp; done) | (simp; omega)) _))) (T10.out.under T10.out.lt (by repeat (first | exact Below.refl _ _ | refine Below.alloc ?_ (by first | omega | (simp; done) | (simp; omega)) _)))).mono ?_
  rintro e w11 ⟨rfl, hb⟩
  have hk : Below w10.heap.size w10 w11 := Below.trans (by repeat (first | exact Below.refl _ _ | refine Below.alloc ?_ (by first | omega | (simp; done) | (simp; omega)) _)) (hb.mono (by first | omega | (simp; done) | (simp; omega)))
  have q0_11 := Lib.hid (q0_10.out.under hk)
  clear q0_10
  have q1_11 := Lib.hid (q1_10.out.under hk)
  clear q1_10
  have E1_11 := Lib.hid (E1_10.out.under hk)
  clear E1_10
  have E3_11 := Lib.hid (E3_10.out.under hk)
  clear E3_10
  have q2_11 := Lib.hid (q2_10.out.under hk)
  clear q2_10
  have q3_11 := Lib.hid (q3_10.out.under hk)
  clear q3_10
  have HB11 := Lib.hid (HB10.out.trans (hk.mono HB10.out.size))
  have T11 := Lib.hid (T10.out.under T10.out.lt hk)
  clear T10
  clear hk hb
  clear g_q1_l g_q1_0 g_q1_1 g_q1_2 g_q1_3 g_q1_4 g_q1_5 g_q1_6 g_q1_7 g_q1_8 g_q3_l g_q3_0 g_q3_1 g_q3_2 g_q3_3 g_q3_4 g_q3_5 g_q3_6 g_q3_7 g_q3_8
  repeat (first | go_values | go_skip | go_guarded | (simp only [List.append_eq, List.cons_append, List.nil_append]) | go_step | go_upon | (simp only [Int.not_lt, Int.not_le] at *; go_simp))
  refine (Num_c _ v1 8 (ErrC.under E1_11.out (by repeat (first | exact Below.refl _ _ | refine Below.alloc ?_ (by first | omega | (simp; done) | (simp; omega)) _))) (T11.out.under T11.out.lt (by repeat (first | exact Below.refl _ _ | refine Below.alloc ?_ (by first | omega | (simp; done) | (simp; omega)) _)))).mono ?_
  rintro e w12 ⟨rfl, hb⟩
  have hk : Below w11.heap.size w11 w12 := Below.trans (by repeat (first | exact Below.refl _ _ | refine Below.alloc ?_ (by first | omega | (simp; done) | (simp; omega)) _)) (hb.mono (by first | omega | (simp; done) | (simp; omega)))
  have q0_12 := Lib.hid (q0_11.out.under hk)
  clear q0_11
  have q1_12 := Lib.hid (q1_11.out.under hk)
  clear q1_11
  have E1_12 := Lib.hid (E1_11.out.under hk)
  clear E1_11
  have E3_12 := Lib.hid (E3_11.out.under hk)
  clear E3_11
  have q2_12 := Lib.hid (q2_11.out.under hk)
  clear q2_11
  have q3_12 := Lib.hid (q3_11.out.under hk)
  clear q3_11
  have HB12 := Lib.hid (HB11.out.trans (hk.mono HB11.out.size))
  have T12 := Lib.hid (T11.out.under T11.out.lt hk)
  clear T11
  clear hk hb
  repeat (first | go_values | go_skip | go_guarded | (simp only [List.append_eq, List.cons_append, List.nil_append]) | go_step | go_upon | (simp only [Int.not_lt, Int.not_le] at *; go_simp))
  refine (Num_c _ v3 2 (ErrC.under E3_12.out (by repeat (first | exact Below.refl _ _ | refine Below.alloc ?_ (by first | omega | (simp; done) | (simp; omega)) _))) (T12.out.under T12.out.lt (by repeat (first | exact Below.refl _ _ | refine Below.alloc ?_ (by first | omega | (simp; done) | (simp; omega)) _)))).mono ?_
  rintro e w13 ⟨rfl, hb⟩
  have hk : Below w12.heap.size w12 w13 := Below.trans (by repeat (first | exact Below.refl _ _ | refine Below.alloc ?_ (by first | omega | (simp; done) | (simp; omega)) _)) (hb.mono (by first | omega | (simp; done) | (simp; omega)))
  have q0_13 := Lib.hid (q0_12.out.under hk)
  clear q0_12
  have q1_13 := Lib.hid (q1_12.out.under hk)
  clear q1_12
  have E1_13 := Lib.hid (E1_12.out.under hk)
  clear E1_12
  have E3_13 := Lib.hid (E3_12.out.under hk)
  clear E3_12
  have q2_13 := Lib.hid (q2_12.out.under hk)
  clear q2_12
  have q3_13 := Lib.hid (q3_12.out.under hk)
  clear q3_12
  have HB13 := Lib.hid (HB12.out.trans (hk.mono HB12.out.size))
  have T13 := Lib.hid (T12.out.under T12.out.lt hk)
  clear T12
  clear hk hb
  repeat (first | go_values | go_skip | go_guarded | (simp only [List.append_eq, List.cons_append, List.nil_append]) | go_step | go_upon | (simp only [Int.not_lt, Int.not_le] at *; go_simp))
  refine (Num_nil _).mono ?_
  rintro e _ ⟨rfl, rfl⟩
  repeat (first | go_values | go_skip | go_guarded | (simp only [List.append_eq, List.cons_append, List.nil_append]) | go_step | go_upon | (simp only [Int.not_lt, Int.not_le] at *; go_simp))
  go_ret
  exact ⟨rfl, (HB13.out.trans (by repeat (first | exact Below.refl _ _ | refine Below.alloc ?_ (by first | omega | (simp; done) | (simp; omega)) _)))⟩
set_option maxHeartbeats 4000000 in
set_option maxRecDepth 100000 in
theorem tasks_10 (y : Tas) (k : Int) (b0 b1 b2 b3 b4 b5 b6 b7 : UInt8) (w : World) (hy : y.right = true) (ha : Al.right ⟨k, [b0, b1, b2, b3, b4, b5, b6, b7]⟩ = false) (tied : Tied w) : Calls Tryd.prog 5 #[.agg #[.int .i64 y.f, .int .i64 y.t, .int .i64 y.s], .agg #[.int .i64 k, .int .u8 (b0.toNat : Int), .int .u8 (b1.toNat : Int), .int .u8 (b2.toNat : Int), .int .u8 (b3.toNat : Int), .int .u8 (b4.toNat : Int), .int .u8 (b5.toNat : Int), .int .u8 (b6.toNat : Int), .int .u8 (b7.toNat : Int)]] w fun e w' => e = .returned (.bool true) ∧ Below w.heap.size w w' := by
  have HY := Lib.hid hy
  have HA := Lib.hid ha
  have L1 := Lib.hid (fun w => lay_task_ok y HY.out w)
  have L2 := Lib.hid (fun w => lay_all_no k b0 b1 b2 b3 b4 b5 b6 b7 HA.out w)
  have hbd := build_all k b0 b1 b2 b3 b4 b5 b6 b7
  have hqo := oct_same b0 b1 b2 b3 b4 b5 b6 b7
  clear hy ha
  have HB0 := Lib.hid (Below.refl w.heap.size w)
  have T0 := Lib.hid tied
  clear tied
  go_enter Tryd.func5, Tryd.ntmps5
  go_wp2_with fail
  refine (rec_awake _).mono ?_
  rintro e w1 ⟨rfl, hb⟩
  have e1 : (w.alloc (.cells y.cs 38)).heap.size = w.heap.size + 1 := by simp
  have h0 := (At.new w y.cs 38).under ((Below.refl _ _).alloc (Nat.le_refl _) (.cells (alCs k b0 b1 b2 b3 b4 b5 b6 b7) 41))
  have h1 := At.new (w.alloc (.cells y.cs 38)) (alCs k b0 b1 b2 b3 b4 b5 b6 b7) 41
  have q0_1 := Lib.hid (h0.under hb)
  have h1 := h1.under hb
  rw [e1] at h1
  have q1_1 := Lib.hid h1
  have hk : Below w.heap.size w w1 := Below.trans (by repeat (first | exact Below.refl _ _ | refine Below.alloc ?_ (by first | omega | (simp; done) | (simp; omega)) _)) (hb.mono (by first | omega | (simp; done) | (simp; omega)))
  have HB1 := Lib.hid (HB0.out.trans (hk.mono HB0.out.size))
  have T1 := Lib.hid (T0.out.under T0.out.lt hk)
  clear T0 hk hb h0 h1 e1
  have g_q0_l : w.heap.size < w1.heap.size := q0_1.out.l
  have g_q0_0 : w1.cell? ⟨w.heap.size, 0, none⟩ = some (.int .i64 y.f) := q0_1.out.r 0 _ rfl
  have g_q0_1 : w1.cell? ⟨w.heap.size, 1, none⟩ = some (.int .i64 y.t) := q0_1.out.r 1 _ rfl
  have g_q0_2 : w1.cell? ⟨w.heap.size, 2, none⟩ = some (.int .i64 y.s) := q0_1.out.r 2 _ rfl
  go_wp2_with fail
  refine (L1.out _).mono ?_
  rintro e w2 ⟨rfl, hb⟩
  have hk : Below w1.heap.size w1 w2 := Below.trans (by repeat (first | exact Below.refl _ _ | refine Below.alloc ?_ (by first | omega | (simp; done) | (simp; omega)) _)) (hb.mono (by first | omega | (simp; done) | (simp; omega)))
  have q0_2 := Lib.hid (q0_1.out.under hk)
  clear q0_1
  have q1_2 := Lib.hid (q1_1.out.under hk)
  clear q1_1
  have HB2 := Lib.hid (HB1.out.trans (hk.mono HB1.out.size))
  have T2 := Lib.hid (T1.out.under T1.out.lt hk)
  clear T1
  clear hk hb
  clear g_q0_l g_q0_0 g_q0_1 g_q0_2
  have g_q1_l : w.heap.size + 1 < w2.heap.size := q1_2.out.l
  have g_q1_0 : w2.cell? ⟨w.heap.size + 1, 0, none⟩ = some (.int .i64 k) := q1_2.out.r 0 _ rfl
  have g_q1_1 : w2.cell? ⟨w.heap.size + 1, 1, none⟩ = some (.int .u8 (b0.toNat : Int)) := q1_2.out.r 1 _ rfl
  have g_q1_2 : w2.cell? ⟨w.heap.size + 1, 2, none⟩ = some (.int .u8 (b1.toNat : Int)) := q1_2.out.r 2 _ rfl
  have g_q1_3 : w2.cell? ⟨w.heap.size + 1, 3, none⟩ = some (.int .u8 (b2.toNat : Int)) := q1_2.out.r 3 _ rfl
  have g_q1_4 : w2.cell? ⟨w.heap.size + 1, 4, none⟩ = some (.int .u8 (b3.toNat : Int)) := q1_2.out.r 4 _ rfl
  have g_q1_5 : w2.cell? ⟨w.heap.size + 1, 5, none⟩ = some (.int .u8 (b4.toNat : Int)) := q1_2.out.r 5 _ rfl
  have g_q1_6 : w2.cell? ⟨w.heap.size + 1, 6, none⟩ = some (.int .u8 (b5.toNat : Int)) := q1_2.out.r 6 _ rfl
  have g_q1_7 : w2.cell? ⟨w.heap.size + 1, 7, none⟩ = some (.int .u8 (b6.toNat : Int)) := q1_2.out.r 7 _ rfl
  have g_q1_8 : w2.cell? ⟨w.heap.size + 1, 8, none⟩ = some (.int .u8 (b7.toNat : Int)) := q1_2.out.r 8 _ rfl
  go_wp2_with fail
  refine (L2.out _).mono ?_
  rintro e w3 ⟨v2, rfl, he, hb⟩
  have hk : Below w2.heap.size w2 w3 := Below.trans (by repeat (first | exact Below.refl _ _ | refine Below.alloc ?_ (by first | omega | (simp; done) | (simp; omega)) _)) (hb.mono (by first | omega | (simp; done) | (simp; omega)))
  have q0_3 := Lib.hid (q0_2.out.under hk)
  clear q0_2
  have q1_3 := Lib.hid (q1_2.out.under hk)
  clear q1_2
  have HB3 := Lib.hid (HB2.out.trans (hk.mono HB2.out.size))
  have T3 := Lib.hid (T2.out.under T2.out.lt hk)
  clear T2
  have E2_3 := Lib.hid he
  clear he
  clear hk hb
  clear g_q1_l g_q1_0 g_q1_1 g_q1_2 g_q1_3 g_q1_4 g_q1_5 g_q1_6 g_q1_7 g_q1_8
  go_wp2_with fail
  refine (tas_read_back y HY.out _).mono ?_
  rintro e w4 ⟨rfl, hb⟩
  have hk : Below w3.heap.size w3 w4 := Below.trans (by repeat (first | exact Below.refl _ _ | refine Below.alloc ?_ (by first | omega | (simp; done) | (simp; omega)) _)) (hb.mono (by first | omega | (simp; done) | (simp; omega)))
  have q0_4 := Lib.hid (q0_3.out.under hk)
  clear q0_3
  have q1_4 := Lib.hid (q1_3.out.under hk)
  clear q1_3
  have E2_4 := Lib.hid (E2_3.out.under hk)
  clear E2_3
  have HB4 := Lib.hid (HB3.out.trans (hk.mono HB3.out.size))
  have T4 := Lib.hid (T3.out.under T3.out.lt hk)
  clear T3
  clear hk hb
  go_wp2_with (first | ((with_reducible refine at_st 43 (.tmp 9) (.tmp 38) ?_); refine st_last rfl 43 _ _ rfl _ _ _ rfl rfl _ rfl rfl (by kernel_rfl) (by simp [Value.oneCell']) ?_))
  refine (al_read_empty _).mono ?_
  rintro e w5 ⟨v4, rfl, he, hb⟩
  have hat_q2 := (At.new w4 y.cs 43)
  have hk : Below w4.heap.size w4 w5 := Below.trans (by repeat (first | exact Below.refl _ _ | refine Below.alloc ?_ (by first | omega | (simp; done) | (simp; omega)) _)) (hb.mono (by first | omega | (simp; done) | (simp; omega)))
  have q0_5 := Lib.hid (q0_4.out.under hk)
  clear q0_4
  have q1_5 := Lib.hid (q1_4.out.under hk)
  clear q1_4
  have E2_5 := Lib.hid (E2_4.out.under hk)
  clear E2_4
  have q2_5 := Lib.hid (hat_q2.under hb)
  clear hat_q2
  have HB5 := Lib.hid (HB4.out.trans (hk.mono HB4.out.size))
  have T5 := Lib.hid (T4.out.under T4.out.lt hk)
  clear T4
  have E4_5 := Lib.hid he
  clear he
  clear hk hb
  have g_q0_l : w.heap.size < w5.heap.size := q0_5.out.l
  have g_q0_0 : w5.cell? ⟨w.heap.size, 0, none⟩ = some (.int .i64 y.f) := q0_5.out.r 0 _ rfl
  have g_q0_1 : w5.cell? ⟨w.heap.size, 1, none⟩ = some (.int .i64 y.t) := q0_5.out.r 1 _ rfl
  have g_q0_2 : w5.cell? ⟨w.heap.size, 2, none⟩ = some (.int .i64 y.s) := q0_5.out.r 2 _ rfl
  go_wp2_with (first | ((with_reducible refine at_st 45 (.tmp 11) (.tmp 43) ?_); refine st_last rfl 45 _ _ rfl _ _ _ rfl rfl _ rfl rfl (by kernel_rfl) (by simp [Value.oneCell']) ?_))
  refine (right_tas y true HY.out _).mono ?_
  rintro e w6 ⟨rfl, hb⟩
  have hat_q3 := (At.new w5 alZ 45)
  have hk : Below w5.heap.size w5 w6 := Below.trans (by repeat (first | exact Below.refl _ _ | refine Below.alloc ?_ (by first | omega | (simp; done) | (simp; omega)) _)) (hb.mono (by first | omega | (simp; done) | (simp; omega)))
  have q0_6 := Lib.hid (q0_5.out.under hk)
  clear q0_5
  have q1_6 := Lib.hid (q1_5.out.under hk)
  clear q1_5
  have E2_6 := Lib.hid (E2_5.out.under hk)
  clear E2_5
  have q2_6 := Lib.hid (q2_5.out.under hk)
  clear q2_5
  have E4_6 := Lib.hid (E4_5.out.under hk)
  clear E4_5
  have q3_6 := Lib.hid (hat_q3.under hb)
  clear hat_q3
  have HB6 := Lib.hid (HB5.out.trans (hk.mono HB5.out.size))
  have T6 := Lib.hid (T5.out.under T5.out.lt hk)
  clear T5
  clear hk hb
  clear g_q0_l g_q0_0 g_q0_1 g_q0_2
  repeat (first | go_values | go_skip | go_guarded | (simp only [List.append_eq, List.cons_append, List.nil_append]) | go_step | go_upon | (simp only [Int.not_lt, Int.not_le] at *; go_simp))
  refine (Num_nil _).mono ?_
  rintro e _ ⟨rfl, rfl⟩
  have g_q1_l : w.heap.size + 1 < w6.heap.size := q1_6.out.l
  have g_q1_0 : w6.cell? ⟨w.heap.size + 1, 0, none⟩ = some (.int .i64 k) := q1_6.out.r 0 _ rfl
  have g_q1_1 : w6.cell? ⟨w.heap.size + 1, 1, none⟩ = some (.int .u8 (b0.toNat : Int)) := q1_6.out.r 1 _ rfl
  have g_q1_2 : w6.cell? ⟨w.heap.size + 1, 2, none⟩ = some (.int .u8 (b1.toNat : Int)) := q1_6.out.r 2 _ rfl
  have g_q1_3 : w6.cell? ⟨w.heap.size + 1, 3, none⟩ = some (.int .u8 (b2.toNat : Int)) := q1_6.out.r 3 _ rfl
  have g_q1_4 : w6.cell? ⟨w.heap.size + 1, 4, none⟩ = some (.int .u8 (b3.toNat : Int)) := q1_6.out.r 4 _ rfl
  have g_q1_5 : w6.cell? ⟨w.heap.size + 1, 5, none⟩ = some (.int .u8 (b4.toNat : Int)) := q1_6.out.r 5 _ rfl
  have g_q1_6 : w6.cell? ⟨w.heap.size + 1, 6, none⟩ = some (.int .u8 (b5.toNat : Int)) := q1_6.out.r 6 _ rfl
  have g_q1_7 : w6.cell? ⟨w.heap.size + 1, 7, none⟩ = some (.int .u8 (b6.toNat : Int)) := q1_6.out.r 7 _ rfl
  have g_q1_8 : w6.cell? ⟨w.heap.size + 1, 8, none⟩ = some (.int .u8 (b7.toNat : Int)) := q1_6.out.r 8 _ rfl
  repeat (first | go_values | go_skip | go_guarded | (simp only [List.append_eq, List.cons_append, List.nil_append]) | go_step | go_upon | (simp only [Int.not_lt, Int.not_le] at *; go_simp))
  refine (right_all k b0 b1 b2 b3 b4 b5 b6 b7 false HA.out _).mono ?_
  rintro e w7 ⟨rfl, hb⟩
  have hk : Below w6.heap.size w6 w7 := Below.trans (by repeat (first | exact Below.refl _ _ | refine Below.alloc ?_ (by first | omega | (simp; done) | (simp; omega)) _)) (hb.mono (by first | omega | (simp; done) | (simp; omega)))
  have q0_7 := Lib.hid (q0_6.out.under hk)
  clear q0_6
  have q1_7 := Lib.hid (q1_6.out.under hk)
  clear q1_6
  have E2_7 := Lib.hid (E2_6.out.under hk)
  clear E2_6
  have q2_7 := Lib.hid (q2_6.out.under hk)
  clear q2_6
  have E4_7 := Lib.hid (E4_6.out.under hk)
  clear E4_6
  have q3_7 := Lib.hid (q3_6.out.under hk)
  clear q3_6
  have HB7 := Lib.hid (HB6.out.trans (hk.mono HB6.out.size))
  have T7 := Lib.hid (T6.out.under T6.out.lt hk)
  clear T6
  clear hk hb
  clear g_q1_l g_q1_0 g_q1_1 g_q1_2 g_q1_3 g_q1_4 g_q1_5 g_q1_6 g_q1_7 g_q1_8
  repeat (first | go_values | go_skip | go_guarded | (simp only [List.append_eq, List.cons_append, List.nil_append]) | go_step | go_upon | (simp only [Int.not_lt, Int.not_le] at *; go_simp))
  refine (Num_c _ v2 8 (ErrC.under E2_7.out (by repeat (first | exact Below.refl _ _ | refine Below.alloc ?_ (by first | omega | (simp; done) | (simp; omega)) _))) (T7.out.under T7.out.lt (by repeat (first | exact Below.refl _ _ | refine Below.alloc ?_ (by first | omega | (simp; done) | (simp; omega)) _)))).mono ?_
  rintro e w8 ⟨rfl, hb⟩
  have hk : Below w7.heap.size w7 w8 := Below.trans (by repeat (first | exact Below.refl _ _ | refine Below.alloc ?_ (by first | omega | (simp; done) | (simp; omega)) _)) (hb.mono (by first | omega | (simp; done) | (simp; omega)))
  have q0_8 := Lib.hid (q0_7.out.under hk)
  clear q0_7
  have q1_8 := Lib.hid (q1_7.out.under hk)
  clear q1_7
  have E2_8 := Lib.hid (E2_7.out.under hk)
  clear E2_7
  have q2_8 := Lib.hid (q2_7.out.under hk)
  clear q2_7
  have E4_8 := Lib.hid (E4_7.out.under hk)
  clear E4_7
  have q3_8 := Lib.hid (q3_7.out.under hk)
  clear q3_7
  have HB8 := Lib.hid (HB7.out.trans (hk.mono HB7.out.size))
  have T8 := Lib.hid (T7.out.under T7.out.lt hk)
  clear T7
  clear hk hb
  repeat (first | go_values | go_skip | go_guarded | (simp only [List.append_eq, List.cons_append, List.nil_append]) | go_step | go_upon | (simp only [Int.not_lt, Int.not_le] at *; go_simp))
  refine (Num_nil _).mono ?_
  rintro e _ ⟨rfl, rfl⟩
  have g_q0_l : w.heap.size < w8.heap.size := q0_8.out.l
  have g_q0_0 : w8.cell? ⟨w.heap.size, 0, none⟩ = some (.int .i64 y.f) := q0_8.out.r 0 _ rfl
  have g_q0_1 : w8.cell? ⟨w.heap.size, 1, none⟩ = some (.int .i64 y.t) := q0_8.out.r 1 _ rfl
  have g_q0_2 : w8.cell? ⟨w.heap.size, 2, none⟩ = some (.int .i64 y.s) := q0_8.out.r 2 _ rfl
  repeat (first | go_values | go_skip | go_guarded | (simp only [List.append_eq, List.cons_append, List.nil_append]) | go_step | go_upon | (simp only [Int.not_lt, Int.not_le] at *; go_simp))
  refine (ref_tas y HY.out _).mono ?_
  rintro e w9 ⟨rfl, hb⟩
  have hk : Below w8.heap.size w8 w9 := Below.trans (by repeat (first | exact Below.refl _ _ | refine Below.alloc ?_ (by first | omega | (simp; done) | (simp; omega)) _)) (hb.mono (by first | omega | (simp; done) | (simp; omega)))
  have q0_9 := Lib.hid (q0_8.out.under hk)
  clear q0_8
  have q1_9 := Lib.hid (q1_8.out.under hk)
  clear q1_8
  have E2_9 := Lib.hid (E2_8.out.under hk)
  clear E2_8
  have q2_9 := Lib.hid (q2_8.out.under hk)
  clear q2_8
  have E4_9 := Lib.hid (E4_8.out.under hk)
  clear E4_8
  have q3_9 := Lib.hid (q3_8.out.under hk)
  clear q3_8
  have HB9 := Lib.hid (HB8.out.trans (hk.mono HB8.out.size))
  have T9 := Lib.hid (T8.out.under T8.out.lt hk)
  clear T8
  clear hk hb
  clear g_q0_l g_q0_0 g_q0_1 g_q0_2
  repeat (first | go_values | go_skip | go_guarded | (simp only [List.append_eq, List.cons_append, List.nil_append]) | go_step | go_upon | (simp only [Int.not_lt, Int.not_le] at *; go_simp))
  refine (Num_nil _).mono ?_
  rintro e _ ⟨rfl, rfl⟩
  have g_q0_l : w.heap.size < w9.heap.size := q0_9.out.l
  have g_q0_0 : w9.cell? ⟨w.heap.size, 0, none⟩ = some (.int .i64 y.f) := q0_9.out.r 0 _ rfl
  have g_q0_1 : w9.cell? ⟨w.heap.size, 1, none⟩ = some (.int .i64 y.t) := q0_9.out.r 1 _ rfl
  have g_q0_2 : w9.cell? ⟨w.heap.size, 2, none⟩ = some (.int .i64 y.s) := q0_9.out.r 2 _ rfl
  have g_q2_l : w4.heap.size < w9.heap.size := q2_9.out.l
  have g_q2_0 : w9.cell? ⟨w4.heap.size, 0, none⟩ = some (.int .i64 y.f) := q2_9.out.r 0 _ rfl
  have g_q2_1 : w9.cell? ⟨w4.heap.size, 1, none⟩ = some (.int .i64 y.t) := q2_9.out.r 1 _ rfl
  have g_q2_2 : w9.cell? ⟨w4.heap.size, 2, none⟩ = some (.int .i64 y.s) := q2_9.out.r 2 _ rfl
  repeat (first | go_values | go_skip | go_guarded | (simp only [List.append_eq, List.cons_append, List.nil_append]) | go_step | go_upon | (simp only [Int.not_lt, Int.not_le] at *; go_simp))
  refine (Num_c _ v2 8 (ErrC.under E2_9.out (by repeat (first | exact Below.refl _ _ | refine Below.alloc ?_ (by first | omega | (simp; done) | (simp; omega)) _))) (T9.out.under T9.out.lt (by repeat (first | exact Below.refl _ _ | refine Below.alloc ?_ (by first | omega | (simp; done) | (simp; omega)) _)))).mono ?_
  rintro e w10 ⟨rfl, hb⟩
  have hk : Below w9.heap.size w9 w10 := Below.trans (by repeat (first | exact Below.refl _ _ | refine Below.alloc ?_ (by first | omega | (simp; done) | (simp; omega)) _)) (hb.mono (by first | omega | (simp; done) | (simp; omega)))
  have q0_10 := Lib.hid (q0_9.out.under hk)
  clear q0_9
  have q1_10 := Lib.hid (q1_9.out.under hk)
  clear q1_9
  have E2_10 := Lib.hid (E2_9.out.under hk)
  clear E2_9
  have q2_10 := Lib.hid (q2_9.out.under hk)
  clear q2_9
  have E4_10 := Lib.hid (E4_9.out.under hk)
  clear E4_9
  have q3_10 := Lib.hid (q3_9.out.under hk)
  clear q3_9
  have HB10 := Lib.hid (HB9.out.trans (hk.mono HB9.out.size))
  have T10 := Lib.hid (T9.out.under T9.out.lt hk)
  clear T9
  clear hk hb
  clear g_q0_l g_q0_0 g_q0_1 g_q0_2 g_q2_l g_q2_0 g_q2_1 g_q2_2
  repeat (first | go_values | go_skip | go_guarded | (simp only [List.append_eq, List.cons_append, List.nil_append]) | go_step | go_upon | (simp only [Int.not_lt, Int.not_le] at *; go_simp))
  refine (Num_nil _).mono ?_
  rintro e _ ⟨rfl, rfl⟩
  repeat (first | go_values | go_skip | go_guarded | (simp only [List.append_eq, List.cons_append, List.nil_append]) | go_step | go_upon | (simp only [Int.not_lt, Int.not_le] at *; go_simp))
  refine (Num_c _ v2 8 (ErrC.under E2_10.out (by repeat (first | exact Below.refl _ _ | refine Below.alloc ?_ (by first | omega | (simp; done) | (simp; omega)) _))) (T10.out.under T10.out.lt (by repeat (first | exact Below.refl _ _ | refine Below.alloc ?_ (by first | omega | (simp; done) | (simp; omega)) _)))).mono ?_
  rintro e w11 ⟨rfl, hb⟩
  have hk : Below w10.heap.size w10 w11 := Below.trans (by repeat (first | exact Below.refl _ _ | refine Below.alloc ?_ (by first | omega | (simp; done) | (simp; omega)) _)) (hb.mono (by first | omega | (simp; done) | (simp; omega)))
  have q0_11 := Lib.hid (q0_10.out.under hk)
  clear q0_10
  have q1_11 := Lib.hid (q1_10.out.under hk)
  clear q1_10
  have E2_11 := Lib.hid (E2_10.out.under hk)
  clear E2_10
  have q2_11 := Lib.hid (q2_10.out.under hk)
  clear q2_10
  have E4_11 := Lib.hid (E4_10.out.under hk)
  clear E4_10
  have q3_11 := Lib.hid (q3_10.out.under hk)
  clear q3_10
  have HB11 := Lib.hid (HB10.out.trans (hk.mono HB10.out.size))
  have T11 := Lib.hid (T10.out.under T10.out.lt hk)
  clear T10
  clear hk hb
  repeat (first | go_values | go_skip | go_guarded | (simp only [List.append_eq, List.cons_append, List.nil_append]) | go_step | go_upon | (simp only [Int.not_lt, Int.not_le] at *; go_simp))
  refine (Num_c _ v2 8 (ErrC.under E2_11.out (by repeat (first | exact Below.refl _ _ | refine Below.alloc ?_ (by first | omega | (simp; done) | (simp; omega)) _))) (T11.out.under T11.out.lt (by repeat (first | exact Below.refl _ _ | refine Below.alloc ?_ (by first | omega | (simp; done) | (simp; omega)) _)))).mono ?_
  rintro e w12 ⟨rfl, hb⟩
  have hk : Below w11.heap.size w11 w12 := Below.trans (by repeat (first | exact Below.refl _ _ | refine Below.alloc ?_ (by first | omega | (simp; done) | (simp; omega)) _)) (hb.mono (by first | omega | (simp; done) | (simp; omega)))
  have q0_12 := Lib.hid (q0_11.out.under hk)
  clear q0_11
  have q1_12 := Lib.hid (q1_11.out.under hk)
  clear q1_11
  have E2_12 := Lib.hid (E2_11.out.under hk)
  clear E2_11
  have q2_12 := Lib.hid (q2_11.out.under hk)
  clear q2_11
  have E4_12 := Lib.hid (E4_11.out.under hk)
  clear E4_11
  have q3_12 := Lib.hid (q3_11.out.under hk)
  clear q3_11
  have HB12 := Lib.hid (HB11.out.trans (hk.mono HB11.out.size))
  have T12 := Lib.hid (T11.out.under T11.out.lt hk)
  clear T11
  clear hk hb
  repeat (first | go_values | go_skip | go_guarded | (simp only [List.append_eq, List.cons_append, List.nil_append]) | go_step | go_upon | (simp only [Int.not_lt, Int.not_le] at *; go_simp))
  refine (Num_c _ v4 2 (ErrC.under E4_12.out (by repeat (first | exact Below.refl _ _ | refine Below.alloc ?_ (by first | omega | (simp; done) | (simp; omega)) _))) (T12.out.under T12.out.lt (by repeat (first | exact Below.refl _ _ | refine Below.alloc ?_ (by first | omega | (simp; done) | (simp; omega)) _)))).mono ?_
  rintro e w13 ⟨rfl, hb⟩
  have hk : Below w12.heap.size w12 w13 := Below.trans (by repeat (first | exact Below.refl _ _ | refine Below.alloc ?_ (by first | omega | (simp; done) | (simp; omega)) _)) (hb.mono (by first | omega | (simp; done) | (simp; omega)))
  have q0_13 := Lib.hid (q0_12.out.under hk)
  clear q0_12
  have q1_13 := Lib.hid (q1_12.out.under hk)
  clear q1_12
  have E2_13 := Lib.hid (E2_12.out.under hk)
  clear E2_12
  have q2_13 := Lib.hid (q2_12.out.under hk)
  clear q2_12
  have E4_13 := Lib.hid (E4_12.out.under hk)
  clear E4_12
  have q3_13 := Lib.hid (q3_12.out.under hk)
  clear q3_12
  have HB13 := Lib.hid (HB12.out.trans (hk.mono HB12.out.size))
  have T13 := Lib.hid (T12.out.under T12.out.lt hk)
  clear T12
  clear hk hb
  repeat (first | go_values | go_skip | go_guarded | (simp only [List.append_eq, List.cons_append, List.nil_append]) | go_step | go_upon | (simp only [Int.not_lt, Int.not_le] at *; go_simp))
  go_ret
  exact ⟨rfl, (HB13.out.trans (by repeat (first | exact Below.refl _ _ | refine Below.alloc ?_ (by first | omega | (simp; done) | (simp; omega)) _)))⟩
set_option maxHeartbeats 4000000 in
set_option maxRecDepth 100000 in
theorem tasks_11 (y : Tas) (k : Int) (b0 b1 b2 b3 b4 b5 b6 b7 : UInt8) (w : World) (hy : y.right = true) (ha : Al.right ⟨k, [b0, b1, b2, b3, b4, b5, b6, b7]⟩ = true) (tied : Tied w) : Calls Tryd.prog 5 #[.agg #[.int .i64 y.f, .int .i64 y.t, .int .i64 y.s], .agg #[.int .i64 k, .int .u8 (b0.toNat : Int), .int .u8 (b1.toNat : Int), .int .u8 (b2.toNat : Int), .int .u8 (b3.toNat : Int), .int .u8 (b4.toNat : Int), .int .u8 (b5.toNat : Int), .int .u8 (b6.toNat : Int), .int .u8 (b7.toNat : Int)]] w fun e w' => e = .returned (.bool true) ∧ Below w.heap.size w w' := by
  have HY := Lib.hid hy
  have HA := Lib.hid ha
  have L1 := Lib.hid (fun w => lay_task_ok y HY.out w)
  have L2 := Lib.hid (fun w => lay_all_ok k b0 b1 b2 b3 b4 b5 b6 b7 HA.out w)
  have hbd := build_all k b0 b1 b2 b3 b4 b5 b6 b7
  have hqo := oct_same b0 b1 b2 b3 b4 b5 b6 b7
  clear hy ha
  have HB0 := Lib.hid (Below.refl w.heap.size w)
  have T0 := Lib.hid tied
  clear tied
  go_enter Tryd.func5, Tryd.ntmps5
  go_wp2_with fail
  refine (rec_awake _).mono ?_
  rintro e w1 ⟨rfl, hb⟩
  have e1 : (w.alloc (.cells y.cs 38)).heap.size = w.heap.size + 1 := by simp
  have h0 := (At.new w y.cs 38).under ((Below.refl _ _).alloc (Nat.le_refl _) (.cells (alCs k b0 b1 b2 b3 b4 b5 b6 b7) 41))
  have h1 := At.new (w.alloc (.cells y.cs 38)) (alCs k b0 b1 b2 b3 b4 b5 b6 b7) 41
  have q0_1 := Lib.hid (h0.under hb)
  have h1 := h1.under hb
  rw [e1] at h1
  have q1_1 := Lib.hid h1
  have hk : Below w.heap.size w w1 := Below.trans (by repeat (first | exact Below.refl _ _ | refine Below.alloc ?_ (by first | omega | (simp; done) | (simp; omega)) _)) (hb.mono (by first | omega | (simp; done) | (simp; omega)))
  have HB1 := Lib.hid (HB0.out.trans (hk.mono HB0.out.size))
  have T1 := Lib.hid (T0.out.under T0.out.lt hk)
  clear T0 hk hb h0 h1 e1
  have g_q0_l : w.heap.size < w1.heap.size := q0_1.out.l
  have g_q0_0 : w1.cell? ⟨w.heap.size, 0, none⟩ = some (.int .i64 y.f) := q0_1.out.r 0 _ rfl
  have g_q0_1 : w1.cell? ⟨w.heap.size, 1, none⟩ = some (.int .i64 y.t) := q0_1.out.r 1 _ rfl
  have g_q0_2 : w1.cell? ⟨w.heap.size, 2, none⟩ = some (.int .i64 y.s) := q0_1.out.r 2 _ rfl
  go_wp2_with fail
  refine (L1.out _).mono ?_
  rintro e w2 ⟨rfl, hb⟩
  have hk : Below w1.heap.size w1 w2 := Below.trans (by repeat (first | exact Below.refl _ _ | refine Below.alloc ?_ (by first | omega | (simp; done) | (simp; omega)) _)) (hb.mono (by first | omega | (simp; done) | (simp; omega)))
  have q0_2 := Lib.hid (q0_1.out.under hk)
  clear q0_1
  have q1_2 := Lib.hid (q1_1.out.under hk)
  clear q1_1
  have HB2 := Lib.hid (HB1.out.trans (hk.mono HB1.out.size))
  have T2 := Lib.hid (T1.out.under T1.out.lt hk)
  clear T1
  clear hk hb
  clear g_q0_l g_q0_0 g_q0_1 g_q0_2
  have g_q1_l : w.heap.size + 1 < w2.heap.size := q1_2.out.l
  have g_q1_0 : w2.cell? ⟨w.heap.size + 1, 0, none⟩ = some (.int .i64 k) := q1_2.out.r 0 _ rfl
  have g_q1_1 : w2.cell? ⟨w.heap.size + 1, 1, none⟩ = some (.int .u8 (b0.toNat : Int)) := q1_2.out.r 1 _ rfl
  have g_q1_2 : w2.cell? ⟨w.heap.size + 1, 2, none⟩ = some (.int .u8 (b1.toNat : Int)) := q1_2.out.r 2 _ rfl
  have g_q1_3 : w2.cell? ⟨w.heap.size + 1, 3, none⟩ = some (.int .u8 (b2.toNat : Int)) := q1_2.out.r 3 _ rfl
  have g_q1_4 : w2.cell? ⟨w.heap.size + 1, 4, none⟩ = some (.int .u8 (b3.toNat : Int)) := q1_2.out.r 4 _ rfl
  have g_q1_5 : w2.cell? ⟨w.heap.size + 1, 5, none⟩ = some (.int .u8 (b4.toNat : Int)) := q1_2.out.r 5 _ rfl
  have g_q1_6 : w2.cell? ⟨w.heap.size + 1, 6, none⟩ = some (.int .u8 (b5.toNat : Int)) := q1_2.out.r 6 _ rfl
  have g_q1_7 : w2.cell? ⟨w.heap.size + 1, 7, none⟩ = some (.int .u8 (b6.toNat : Int)) := q1_2.out.r 7 _ rfl
  have g_q1_8 : w2.cell? ⟨w.heap.size + 1, 8, none⟩ = some (.int .u8 (b7.toNat : Int)) := q1_2.out.r 8 _ rfl
  go_wp2_with fail
  refine (L2.out _).mono ?_
  rintro e w3 ⟨rfl, hb⟩
  have hk : Below w2.heap.size w2 w3 := Below.trans (by repeat (first | exact Below.refl _ _ | refine Below.alloc ?_ (by first | omega | (simp; done) | (simp; omega)) _)) (hb.mono (by first | omega | (simp; done) | (simp; omega)))
  have q0_3 := Lib.hid (q0_2.out.under hk)
  clear q0_2
  have q1_3 := Lib.hid (q1_2.out.under hk)
  clear q1_2
  have HB3 := Lib.hid (HB2.out.trans (hk.mono HB2.out.size))
  have T3 := Lib.hid (T2.out.under T2.out.lt hk)
  clear T2
  clear hk hb
  clear g_q1_l g_q1_0 g_q1_1 g_q1_2 g_q1_3 g_q1_4 g_q1_5 g_q1_6 g_q1_7 g_q1_8
  go_wp2_with fail
  refine (tas_read_back y HY.out _).mono ?_
  rintro e w4 ⟨rfl, hb⟩
  have hk : Below w3.heap.size w3 w4 := Below.trans (by repeat (first | exact Below.refl _ _ | refine Below.alloc ?_ (by first | omega | (simp; done) | (simp; omega)) _)) (hb.mono (by first | omega | (simp; done) | (simp; omega)))
  have q0_4 := Lib.hid (q0_3.out.under hk)
  clear q0_3
  have q1_4 := Lib.hid (q1_3.out.under hk)
  clear q1_3
  have HB4 := Lib.hid (HB3.out.trans (hk.mono HB3.out.size))
  have T4 := Lib.hid (T3.out.under T3.out.lt hk)
  clear T3
  clear hk hb
  go_wp2_with (first | ((with_reducible refine at_st 43 (.tmp 9) (.tmp 38) ?_); refine st_last rfl 43 _ _ rfl _ _ _ rfl rfl _ rfl rfl (by kernel_rfl) (by simp [Value.oneCell']) ?_))
  refine (al_read_back k b0 b1 b2 b3 b4 b5 b6 b7 HA.out _).mono ?_
  rintro e w5 ⟨rfl, hb⟩
  have hat_q2 := (At.new w4 y.cs 43)
  have hk : Below w4.heap.size w4 w5 := Below.trans (by repeat (first | exact Below.refl _ _ | refine Below.alloc ?_ (by first | omega | (simp; done) | (simp; omega)) _)) (hb.mono (by first | omega | (simp; done) | (simp; omega)))
  have q0_5 := Lib.hid (q0_4.out.under hk)
  clear q0_4
  have q1_5 := Lib.hid (q1_4.out.under hk)
  clear q1_4
  have q2_5 := Lib.hid (hat_q2.under hb)
  clear hat_q2
  have HB5 := Lib.hid (HB4.out.trans (hk.mono HB4.out.size))
  have T5 := Lib.hid (T4.out.under T4.out.lt hk)
  clear T4
  clear hk hb
  have g_q0_l : w.heap.size < w5.heap.size := q0_5.out.l
  have g_q0_0 : w5.cell? ⟨w.heap.size, 0, none⟩ = some (.int .i64 y.f) := q0_5.out.r 0 _ rfl
  have g_q0_1 : w5.cell? ⟨w.heap.size, 1, none⟩ = some (.int .i64 y.t) := q0_5.out.r 1 _ rfl
  have g_q0_2 : w5.cell? ⟨w.heap.size, 2, none⟩ = some (.int .i64 y.s) := q0_5.out.r 2 _ rfl
  go_wp2_with (first | ((with_reducible refine at_st 45 (.tmp 11) (.tmp 43) ?_); refine st_last rfl 45 _ _ rfl _ _ _ rfl rfl _ rfl rfl (by kernel_rfl) (by simp [Value.oneCell']) ?_))
  refine (right_tas y true HY.out _).mono ?_
  rintro e w6 ⟨rfl, hb⟩
  have hat_q3 := (At.new w5 (alCs k b0 b1 b2 b3 b4 b5 b6 b7) 45)
  have hk : Below w5.heap.size w5 w6 := Below.trans (by repeat (first | exact Below.refl _ _ | refine Below.alloc ?_ (by first | omega | (simp; done) | (simp; omega)) _)) (hb.mono (by first | omega | (simp; done) | (simp; omega)))
  have q0_6 := Lib.hid (q0_5.out.under hk)
  clear q0_5
  have q1_6 := Lib.hid (q1_5.out.under hk)
  clear q1_5
  have q2_6 := Lib.hid (q2_5.out.under hk)
  clear q2_5
  have q3_6 := Lib.hid (hat_q3.under hb)
  clear hat_q3
  have HB6 := Lib.hid (HB5.out.trans (hk.mono HB5.out.size))
  have T6 := Lib.hid (T5.out.under T5.out.lt hk)
  clear T5
  clear hk hb
  clear g_q0_l g_q0_0 g_q0_1 g_q0_2
  repeat (first | go_values | go_skip | go_guarded | (simp only [List.append_eq, List.cons_append, List.nil_append]) | go_step | go_upon | (simp only [Int.not_lt, Int.not_le] at *; go_simp))
  refine (Num_nil _).mono ?_
  rintro e _ ⟨rfl, rfl⟩
  have g_q1_l : w.heap.size + 1 < w6.heap.size := q1_6.out.l
  have g_q1_0 : w6.cell? ⟨w.heap.size + 1, 0, none⟩ = some (.int .i64 k) := q1_6.out.r 0 _ rfl
  have g_q1_1 : w6.cell? ⟨w.heap.size + 1, 1, none⟩ = some (.int .u8 (b0.toNat : Int)) := q1_6.out.r 1 _ rfl
  have g_q1_2 : w6.cell? ⟨w.heap.size + 1, 2, none⟩ = some (.int .u8 (b1.toNat : Int)) := q1_6.out.r 2 _ rfl
  have g_q1_3 : w6.cell? ⟨w.heap.size + 1, 3, none⟩ = some (.int .u8 (b2.toNat : Int)) := q1_6.out.r 3 _ rfl
  have g_q1_4 : w6.cell? ⟨w.heap.size + 1, 4, none⟩ = some (.int .u8 (b3.toNat : Int)) := q1_6.out.r 4 _ rfl
  have g_q1_5 : w6.cell? ⟨w.heap.size + 1, 5, none⟩ = some (.int .u8 (b4.toNat : Int)) := q1_6.out.r 5 _ rfl
  have g_q1_6 : w6.cell? ⟨w.heap.size + 1, 6, none⟩ = some (.int .u8 (b5.toNat : Int)) := q1_6.out.r 6 _ rfl
  have g_q1_7 : w6.cell? ⟨w.heap.size + 1, 7, none⟩ = some (.int .u8 (b6.toNat : Int)) := q1_6.out.r 7 _ rfl
  have g_q1_8 : w6.cell? ⟨w.heap.size + 1, 8, none⟩ = some (.int .u8 (b7.toNat : Int)) := q1_6.out.r 8 _ rfl
  repeat (first | go_values | go_skip | go_guarded | (simp only [List.append_eq, List.cons_append, List.nil_append]) | go_step | go_upon | (simp only [Int.not_lt, Int.not_le] at *; go_simp))
  refine (right_all k b0 b1 b2 b3 b4 b5 b6 b7 true HA.out _).mono ?_
  rintro e w7 ⟨rfl, hb⟩
  have hk : Below w6.heap.size w6 w7 := Below.trans (by repeat (first | exact Below.refl _ _ | refine Below.alloc ?_ (by first | omega | (simp; done) | (simp; omega)) _)) (hb.mono (by first | omega | (simp; done) | (simp; omega)))
  have q0_7 := Lib.hid (q0_6.out.under hk)
  clear q0_6
  have q1_7 := Lib.hid (q1_6.out.under hk)
  clear q1_6
  have q2_7 := Lib.hid (q2_6.out.under hk)
  clear q2_6
  have q3_7 := Lib.hid (q3_6.out.under hk)
  clear q3_6
  have HB7 := Lib.hid (HB6.out.trans (hk.mono HB6.out.size))
  have T7 := Lib.hid (T6.out.under T6.out.lt hk)
  clear T6
  clear hk hb
  clear g_q1_l g_q1_0 g_q1_1 g_q1_2 g_q1_3 g_q1_4 g_q1_5 g_q1_6 g_q1_7 g_q1_8
  repeat (first | go_values | go_skip | go_guarded | (simp only [List.append_eq, List.cons_append, List.nil_append]) | go_step | go_upon | (simp only [Int.not_lt, Int.not_le] at *; go_simp))
  refine (Num_nil _).mono ?_
  rintro e _ ⟨rfl, rfl⟩
  repeat (first | go_values | go_skip | go_guarded | (simp only [List.append_eq, List.cons_append, List.nil_append]) | go_step | go_upon | (simp only [Int.not_lt, Int.not_le] at *; go_simp))
  refine (Num_nil _).mono ?_
  rintro e _ ⟨rfl, rfl⟩
  have g_q0_l : w.heap.size < w7.heap.size := q0_7.out.l
  have g_q0_0 : w7.cell? ⟨w.heap.size, 0, none⟩ = some (.int .i64 y.f) := q0_7.out.r 0 _ rfl
  have g_q0_1 : w7.cell? ⟨w.heap.size, 1, none⟩ = some (.int .i64 y.t) := q0_7.out.r 1 _ rfl
  have g_q0_2 : w7.cell? ⟨w.heap.size, 2, none⟩ = some (.int .i64 y.s) := q0_7.out.r 2 _ rfl
  repeat (first | go_values | go_skip | go_guarded | (simp only [List.append_eq, List.cons_append, List.nil_append]) | go_step | go_upon | (simp only [Int.not_lt, Int.not_le] at *; go_simp))
  refine (ref_tas y HY.out _).mono ?_
  rintro e w8 ⟨rfl, hb⟩
  have hk : Below w7.heap.size w7 w8 := Below.trans (by repeat (first | exact Below.refl _ _ | refine Below.alloc ?_ (by first | omega | (simp; done) | (simp; omega)) _)) (hb.mono (by first | omega | (simp; done) | (simp; omega)))
  have q0_8 := Lib.hid (q0_7.out.under hk)
  clear q0_7
  have q1_8 := Lib.hid (q1_7.out.under hk)
  clear q1_7
  have q2_8 := Lib.hid (q2_7.out.under hk)
  clear q2_7
  have q3_8 := Lib.hid (q3_7.out.under hk)
  clear q3_7
  have HB8 := Lib.hid (HB7.out.trans (hk.mono HB7.out.size))
  have T8 := Lib.hid (T7.out.under T7.out.lt hk)
  clear T7
  clear hk hb
  clear g_q0_l g_q0_0 g_q0_1 g_q0_2
  repeat (first | go_values | go_skip | go_guarded | (simp only [List.append_eq, List.cons_append, List.nil_append]) | go_step | go_upon | (simp only [Int.not_lt, Int.not_le] at *; go_simp))
  refine (Num_nil _).mono ?_
  rintro e _ ⟨rfl, rfl⟩
  have g_q0_l : w.heap.size < w8.heap.size := q0_8.out.l
  have g_q0_0 : w8.cell? ⟨w.heap.size, 0, none⟩ = some (.int .i64 y.f) := q0_8.out.r 0 _ rfl
  have g_q0_1 : w8.cell? ⟨w.heap.size, 1, none⟩ = some (.int .i64 y.t) := q0_8.out.r 1 _ rfl
  have g_q0_2 : w8.cell? ⟨w.heap.size, 2, none⟩ = some (.int .i64 y.s) := q0_8.out.r 2 _ rfl
  have g_q2_l : w4.heap.size < w8.heap.size := q2_8.out.l
  have g_q2_0 : w8.cell? ⟨w4.heap.size, 0, none⟩ = some (.int .i64 y.f) := q2_8.out.r 0 _ rfl
  have g_q2_1 : w8.cell? ⟨w4.heap.size, 1, none⟩ = some (.int .i64 y.t) := q2_8.out.r 1 _ rfl
  have g_q2_2 : w8.cell? ⟨w4.heap.size, 2, none⟩ = some (.int .i64 y.s) := q2_8.out.r 2 _ rfl
  repeat (first | go_values | go_skip | go_guarded | (simp only [List.append_eq, List.cons_append, List.nil_append]) | go_step | go_upon | (simp only [Int.not_lt, Int.not_le] at *; go_simp))
  refine (Num_nil _).mono ?_
  rintro e _ ⟨rfl, rfl⟩
  clear g_q0_l g_q0_0 g_q0_1 g_q0_2 g_q2_l g_q2_0 g_q2_1 g_q2_2
  have g_q1_l : w.heap.size + 1 < w8.heap.size := q1_8.out.l
  have g_q1_0 : w8.cell? ⟨w.heap.size + 1, 0, none⟩ = some (.int .i64 k) := q1_8.out.r 0 _ rfl
  have g_q1_1 : w8.cell? ⟨w.heap.size + 1, 1, none⟩ = some (.int .u8 (b0.toNat : Int)) := q1_8.out.r 1 _ rfl
  have g_q1_2 : w8.cell? ⟨w.heap.size + 1, 2, none⟩ = some (.int .u8 (b1.toNat : Int)) := q1_8.out.r 2 _ rfl
  have g_q1_3 : w8.cell? ⟨w.heap.size + 1, 3, none⟩ = some (.int .u8 (b2.toNat : Int)) := q1_8.out.r 3 _ rfl
  have g_q1_4 : w8.cell? ⟨w.heap.size + 1, 4, none⟩ = some (.int .u8 (b3.toNat : Int)) := q1_8.out.r 4 _ rfl
  have g_q1_5 : w8.cell? ⟨w.heap.size + 1, 5, none⟩ = some (.int .u8 (b4.toNat : Int)) := q1_8.out.r 5 _ rfl
  have g_q1_6 : w8.cell? ⟨w.heap.size + 1, 6, none⟩ = some (.int .u8 (b5.toNat : Int)) := q1_8.out.r 6 _ rfl
  have g_q1_7 : w8.cell? ⟨w.heap.size + 1, 7, none⟩ = some (.int .u8 (b6.toNat : Int)) := q1_8.out.r 7 _ rfl
  have g_q1_8 : w8.cell? ⟨w.heap.size + 1, 8, none⟩ = some (.int .u8 (b7.toNat : Int)) := q1_8.out.r 8 _ rfl
  repeat (first | go_values | go_skip | go_guarded | (simp only [List.append_eq, List.cons_append, List.nil_append]) | go_step | go_upon | (simp only [Int.not_lt, Int.not_le] at *; go_simp))
  refine (ref_all k b0 b1 b2 b3 b4 b5 b6 b7 HA.out _).mono ?_
  rintro e w9 ⟨rfl, hb⟩
  have hk : Below w8.heap.size w8 w9 := Below.trans (by repeat (first | exact Below.refl _ _ | refine Below.alloc ?_ (by first | omega | (simp; done) | (simp; omega)) _)) (hb.mono (by first | omega | (simp; done) | (simp; omega)))
  have q0_9 := Lib.hid (q0_8.out.under hk)
  clear q0_8
  have q1_9 := Lib.hid (q1_8.out.under hk)
  clear q1_8
  have q2_9 := Lib.hid (q2_8.out.under hk)
  clear q2_8
  have q3_9 := Lib.hid (q3_8.out.under hk)
  clear q3_8
  have HB9 := Lib.hid (HB8.out.trans (hk.mono HB8.out.size))
  have T9 := Lib.hid (T8.out.under T8.out.lt hk)
  clear T8
  clear hk hb
  clear g_q1_l g_q1_0 g_q1_1 g_q1_2 g_q1_3 g_q1_4 g_q1_5 g_q1_6 g_q1_7 g_q1_8
  repeat (first | go_values | go_skip | go_guarded | (simp only [List.append_eq, List.cons_append, List.nil_append]) | go_step | go_upon | (simp only [Int.not_lt, Int.not_le] at *; go_simp))
  refine (Num_nil _).mono ?_
  rintro e _ ⟨rfl, rfl⟩
  have g_q1_l : w.heap.size + 1 < w9.heap.size := q1_9.out.l
  have g_q1_0 : w9.cell? ⟨w.heap.size + 1, 0, none⟩ = some (.int .i64 k) := q1_9.out.r 0 _ rfl
  have g_q1_1 : w9.cell? ⟨w.heap.size + 1, 1, none⟩ = some (.int .u8 (b0.toNat : Int)) := q1_9.out.r 1 _ rfl
  have g_q1_2 : w9.cell? ⟨w.heap.size + 1, 2, none⟩ = some (.int .u8 (b1.toNat : Int)) := q1_9.out.r 2 _ rfl
  have g_q1_3 : w9.cell? ⟨w.heap.size + 1, 3, none⟩ = some (.int .u8 (b2.toNat : Int)) := q1_9.out.r 3 _ rfl
  have g_q1_4 : w9.cell? ⟨w.heap.size + 1, 4, none⟩ = some (.int .u8 (b3.toNat : Int)) := q1_9.out.r 4 _ rfl
  have g_q1_5 : w9.cell? ⟨w.heap.size + 1, 5, none⟩ = some (.int .u8 (b4.toNat : Int)) := q1_9.out.r 5 _ rfl
  have g_q1_6 : w9.cell? ⟨w.heap.size + 1, 6, none⟩ = some (.int .u8 (b5.toNat : Int)) := q1_9.out.r 6 _ rfl
  have g_q1_7 : w9.cell? ⟨w.heap.size + 1, 7, none⟩ = some (.int .u8 (b6.toNat : Int)) := q1_9.out.r 7 _ rfl
  have g_q1_8 : w9.cell? ⟨w.heap.size + 1, 8, none⟩ = some (.int .u8 (b7.toNat : Int)) := q1_9.out.r 8 _ rfl
  have g_q3_l : w5.heap.size < w9.heap.size := q3_9.out.l
  have g_q3_0 : w9.cell? ⟨w5.heap.size, 0, none⟩ = some (.int .i64 k) := q3_9.out.r 0 _ rfl
  have g_q3_1 : w9.cell? ⟨w5.heap.size, 1, none⟩ = some (.int .u8 (b0.toNat : Int)) := q3_9.out.r 1 _ rfl
  have g_q3_2 : w9.cell? ⟨w5.heap.size, 2, none⟩ = some (.int .u8 (b1.toNat : Int)) := q3_9.out.r 2 _ rfl
  have g_q3_3 : w9.cell? ⟨w5.heap.size, 3, none⟩ = some (.int .u8 (b2.toNat : Int)) := q3_9.out.r 3 _ rfl
  have g_q3_4 : w9.cell? ⟨w5.heap.size, 4, none⟩ = some (.int .u8 (b3.toNat : Int)) := q3_9.out.r 4 _ rfl
  have g_q3_5 : w9.cell? ⟨w5.heap.size, 5, none⟩ = some (.int .u8 (b4.toNat : Int)) := q3_9.out.r 5 _ rfl
  have g_q3_6 : w9.cell? ⟨w5.heap.size, 6, none⟩ = some (.int .u8 (b5.toNat : Int)) := q3_9.out.r 6 _ rfl
  have g_q3_7 : w9.cell? ⟨w5.heap.size, 7, none⟩ = some (.int .u8 (b6.toNat : Int)) := q3_9.out.r 7 _ rfl
  have g_q3_8 : w9.cell? ⟨w5.heap.size, 8, none⟩ = some (.int .u8 (b7.toNat : Int)) := q3_9.out.r 8 _ rfl
  repeat (first | go_values | go_skip | go_guarded | (simp only [List.append_eq, List.cons_append, List.nil_append]) | go_step | go_upon | (simp only [Int.not_lt, Int.not_le] at *; go_simp))
  refine (Num_nil _).mono ?_
  rintro e _ ⟨rfl, rfl⟩
  clear g_q1_l g_q1_0 g_q1_1 g_q1_2 g_q1_3 g_q1_4 g_q1_5 g_q1_6 g_q1_7 g_q1_8 g_q3_l g_q3_0 g_q3_1 g_q3_2 g_q3_3 g_q3_4 g_q3_5 g_q3_6 g_q3_7 g_q3_8
  repeat (first | go_values | go_skip | go_guarded | (simp only [List.append_eq, List.cons_append, List.nil_append]) | go_step | go_upon | (simp only [Int.not_lt, Int.not_le] at *; go_simp))
  refine (Num_nil _).mono ?_
  rintro e _ ⟨rfl, rfl⟩
  repeat (first | go_values | go_skip | go_guarded | (simp only [List.append_eq, List.cons_append, List.nil_append]) | go_step | go_upon | (simp only [Int.not_lt, Int.not_le] at *; go_simp))
  go_ret
  exact ⟨rfl, (HB9.out.trans (by repeat (first | exact Below.refl _ _ | refine Below.alloc ?_ (by first | omega | (simp; done) | (simp; omega)) _)))⟩
theorem tasks_walk (y : Tas) (k : Int) (b0 b1 b2 b3 b4 b5 b6 b7 : UInt8) (w : World) (tied : Tied w) : Calls Tryd.prog 5 #[.agg #[.int .i64 y.f, .int .i64 y.t, .int .i64 y.s], .agg #[.int .i64 k, .int .u8 (b0.toNat : Int), .int .u8 (b1.toNat : Int), .int .u8 (b2.toNat : Int), .int .u8 (b3.toNat : Int), .int .u8 (b4.toNat : Int), .int .u8 (b5.toNat : Int), .int .u8 (b6.toNat : Int), .int .u8 (b7.toNat : Int)]] w fun e w' => e = .returned (.bool true) ∧ Below w.heap.size w w' := by
  cases hy : y.right <;> cases ha : Al.right ⟨k, [b0, b1, b2, b3, b4, b5, b6, b7]⟩
  · exact tasks_00 y k b0 b1 b2 b3 b4 b5 b6 b7 w hy ha tied
  · exact tasks_01 y k b0 b1 b2 b3 b4 b5 b6 b7 w hy ha tied
  · exact tasks_10 y k b0 b1 b2 b3 b4 b5 b6 b7 w hy ha tied
  · exact tasks_11 y k b0 b1 b2 b3 b4 b5 b6 b7 w hy ha tied
end Go.Proofs.YtlcnhagcomljnaaDoor
