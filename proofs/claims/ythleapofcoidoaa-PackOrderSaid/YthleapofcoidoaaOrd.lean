/- PackOrder: the walk. -/
import Derived.Test.YthleapofcoidoaaOrdP
import Derived.Lib.Hide
import Derived.IntWalk
import Derived.Deep.QuietTactic
import Derived.BigQuiet
namespace Go.Proofs.Ythleapofcoidoaa
open Go.RowKit Go.Proofs.YthleapofcoidoaaW.PrintWords Go.Proofs.YthleapofcoidoaaW.PrintLast Go.Proofs.YthleapofcoidoaaW.PrintMore Go.Proofs.Ythleapofcoidoaa.Pawake
set_option linter.unusedVariables false
set_option linter.unusedSimpArgs false

theorem Put_eq {w n : Int} {s : ByteArray} (h : putB w n = s) (W : World) : Calls Try.prog 5 #[.int .i64 w, .int .i64 n] W fun e w' => e = .returned (.string s) ∧ Below W.heap.size W w' := by
  rw [← h]; exact Put_any w n W
theorem sh8 (w : World) : (Op.shift BinOp.shl IntKind.i64 1 IntKind.i64 (IntKind.i64.wrap 8)).run Try.prog w = .ok (.int .i64 256) w := by kernel_rfl
theorem sh16 (w : World) : (Op.shift BinOp.shl IntKind.i64 1 IntKind.i64 (IntKind.i64.wrap 16)).run Try.prog w = .ok (.int .i64 65536) w := by kernel_rfl
theorem sh24 (w : World) : (Op.shift BinOp.shl IntKind.i64 1 IntKind.i64 (IntKind.i64.wrap 24)).run Try.prog w = .ok (.int .i64 16777216) w := by kernel_rfl
theorem sh32 (w : World) : (Op.shift BinOp.shl IntKind.i64 1 IntKind.i64 (IntKind.i64.wrap 32)).run Try.prog w = .ok (.int .i64 4294967296) w := by kernel_rfl
set_option maxHeartbeats 1000000 in
theorem order_1 (w a b : Int) (hj : w % 4 = 0) (w0 : 0 ≤ w) (w1 : w ≤ 255) (a0 : 0 ≤ a) (a1 : a ≤ 4294967295) (b0 : 0 ≤ b) (b1 : b ≤ 4294967295) (W : World) :
    Calls Try.prog 3 #[.int .u8 w, .int .u32 a, .int .u32 b] W fun e w' => e = .returned (.bool true) ∧ Below W.heap.size W w' := by
  obtain ⟨x, hx⟩ : ∃ x, x = a % 256 := ⟨_, rfl⟩
  obtain ⟨y, hy⟩ : ∃ y, y = b % 256 := ⟨_, rfl⟩
  have fx : fitsB 1 x = true := by simp [fitsB]; omega
  have fy : fitsB 1 y = true := by simp [fitsB]; omega
  have hl := put_less fx fy
  have hz := putB_len fx 1 rfl
  have he : putB 1 256 = ⟨#[]⟩ := by unfold putB; rw [if_neg (by simp [fitsB])]
  obtain ⟨s, hs⟩ : ∃ s, s = putB 1 x := ⟨_, rfl⟩
  obtain ⟨t, ht⟩ : ∃ t, t = putB 1 y := ⟨_, rfl⟩
  rw [← hs, ← ht] at hl
  rw [← hs] at hz
  have HS := Lib.hid hs.symm
  have HT := Lib.hid ht.symm
  have HE := Lib.hid he
  have hzb : ((s.size : Int) == 1) = true := by simp [hz]
  have hxt : Int.tmod a 256 = x := by rw [hx]; exact Int.tmod_eq_emod_of_nonneg a0
  have hyt : Int.tmod b 256 = y := by rw [hy]; exact Int.tmod_eq_emod_of_nonneg b0
  have hwa : IntKind.i64.wrap a = a := IntWalk.i64_in _ (by omega)
  have hwb : IntKind.i64.wrap b = b := IntWalk.i64_in _ (by omega)
  have hzi : (s.size : Int) = 1 := by omega
  have s8 := sh8
  have s16 := sh16
  have s24 := sh24
  have s32 := sh32
  clear hs ht hx hy he hz
  go_enter Try.func3, Try.ntmps3
  go_wp2_with fail
  go_quiet (fail)
  go_wp2_with fail
  refine (pack_awake _).mono ?_
  rintro e w2 ⟨rfl, hb⟩
  have HB2 := Lib.hid (bstep (Drawn0.below ⟨⟨nq, rfl⟩⟩) hb)
  clear hb
  go_wp2_with fail
  refine (Put_eq HS.out _).mono ?_
  rintro e w3 ⟨rfl, hb⟩
  have HB3 := Lib.hid (bstep HB2.out hb)
  clear hb
  go_wp2_with fail
  refine (Put_eq HS.out _).mono ?_
  rintro e w4 ⟨rfl, hb⟩
  have HB4 := Lib.hid (bstep HB3.out hb)
  clear hb
  go_wp2_with fail
  refine (Put_eq HT.out _).mono ?_
  rintro e w5 ⟨rfl, hb⟩
  have HB5 := Lib.hid (bstep HB4.out hb)
  clear hb
  go_wp2_with fail
  refine (Put_eq HE.out _).mono ?_
  rintro e w6 ⟨rfl, hb⟩
  have HB6 := Lib.hid (bstep HB5.out hb)
  clear hb
  go_wp2_with fail
  go_ret
  exact ⟨rfl, HB6.out⟩
set_option maxHeartbeats 1000000 in
theorem order_2 (w a b : Int) (hj : w % 4 = 1) (w0 : 0 ≤ w) (w1 : w ≤ 255) (a0 : 0 ≤ a) (a1 : a ≤ 4294967295) (b0 : 0 ≤ b) (b1 : b ≤ 4294967295) (W : World) :
    Calls Try.prog 3 #[.int .u8 w, .int .u32 a, .int .u32 b] W fun e w' => e = .returned (.bool true) ∧ Below W.heap.size W w' := by
  obtain ⟨x, hx⟩ : ∃ x, x = a % 65536 := ⟨_, rfl⟩
  obtain ⟨y, hy⟩ : ∃ y, y = b % 65536 := ⟨_, rfl⟩
  have fx : fitsB 2 x = true := by simp [fitsB]; omega
  have fy : fitsB 2 y = true := by simp [fitsB]; omega
  have hl := put_less fx fy
  have hz := putB_len fx 2 rfl
  have he : putB 2 65536 = ⟨#[]⟩ := by unfold putB; rw [if_neg (by simp [fitsB])]
  obtain ⟨s, hs⟩ : ∃ s, s = putB 2 x := ⟨_, rfl⟩
  obtain ⟨t, ht⟩ : ∃ t, t = putB 2 y := ⟨_, rfl⟩
  rw [← hs, ← ht] at hl
  rw [← hs] at hz
  have HS := Lib.hid hs.symm
  have HT := Lib.hid ht.symm
  have HE := Lib.hid he
  have hzb : ((s.size : Int) == 2) = true := by simp [hz]
  have hxt : Int.tmod a 65536 = x := by rw [hx]; exact Int.tmod_eq_emod_of_nonneg a0
  have hyt : Int.tmod b 65536 = y := by rw [hy]; exact Int.tmod_eq_emod_of_nonneg b0
  have hwa : IntKind.i64.wrap a = a := IntWalk.i64_in _ (by omega)
  have hwb : IntKind.i64.wrap b = b := IntWalk.i64_in _ (by omega)
  have hzi : (s.size : Int) = 2 := by omega
  have s8 := sh8
  have s16 := sh16
  have s24 := sh24
  have s32 := sh32
  clear hs ht hx hy he hz
  go_enter Try.func3, Try.ntmps3
  go_wp2_with fail
  go_quiet (fail)
  go_wp2_with fail
  refine (pack_awake _).mono ?_
  rintro e w2 ⟨rfl, hb⟩
  have HB2 := Lib.hid (bstep (Drawn0.below ⟨⟨nq, rfl⟩⟩) hb)
  clear hb
  go_wp2_with fail
  refine (Put_eq HS.out _).mono ?_
  rintro e w3 ⟨rfl, hb⟩
  have HB3 := Lib.hid (bstep HB2.out hb)
  clear hb
  go_wp2_with fail
  refine (Put_eq HS.out _).mono ?_
  rintro e w4 ⟨rfl, hb⟩
  have HB4 := Lib.hid (bstep HB3.out hb)
  clear hb
  go_wp2_with fail
  refine (Put_eq HT.out _).mono ?_
  rintro e w5 ⟨rfl, hb⟩
  have HB5 := Lib.hid (bstep HB4.out hb)
  clear hb
  go_wp2_with fail
  refine (Put_eq HE.out _).mono ?_
  rintro e w6 ⟨rfl, hb⟩
  have HB6 := Lib.hid (bstep HB5.out hb)
  clear hb
  go_wp2_with fail
  go_ret
  exact ⟨rfl, HB6.out⟩
set_option maxHeartbeats 1000000 in
theorem order_3 (w a b : Int) (hj : w % 4 = 2) (w0 : 0 ≤ w) (w1 : w ≤ 255) (a0 : 0 ≤ a) (a1 : a ≤ 4294967295) (b0 : 0 ≤ b) (b1 : b ≤ 4294967295) (W : World) :
    Calls Try.prog 3 #[.int .u8 w, .int .u32 a, .int .u32 b] W fun e w' => e = .returned (.bool true) ∧ Below W.heap.size W w' := by
  obtain ⟨x, hx⟩ : ∃ x, x = a % 16777216 := ⟨_, rfl⟩
  obtain ⟨y, hy⟩ : ∃ y, y = b % 16777216 := ⟨_, rfl⟩
  have fx : fitsB 3 x = true := by simp [fitsB]; omega
  have fy : fitsB 3 y = true := by simp [fitsB]; omega
  have hl := put_less fx fy
  have hz := putB_len fx 3 rfl
  have he : putB 3 16777216 = ⟨#[]⟩ := by unfold putB; rw [if_neg (by simp [fitsB])]
  obtain ⟨s, hs⟩ : ∃ s, s = putB 3 x := ⟨_, rfl⟩
  obtain ⟨t, ht⟩ : ∃ t, t = putB 3 y := ⟨_, rfl⟩
  rw [← hs, ← ht] at hl
  rw [← hs] at hz
  have HS := Lib.hid hs.symm
  have HT := Lib.hid ht.symm
  have HE := Lib.hid he
  have hzb : ((s.size : Int) == 3) = true := by simp [hz]
  have hxt : Int.tmod a 16777216 = x := by rw [hx]; exact Int.tmod_eq_emod_of_nonneg a0
  have hyt : Int.tmod b 16777216 = y := by rw [hy]; exact Int.tmod_eq_emod_of_nonneg b0
  have hwa : IntKind.i64.wrap a = a := IntWalk.i64_in _ (by omega)
  have hwb : IntKind.i64.wrap b = b := IntWalk.i64_in _ (by omega)
  have hzi : (s.size : Int) = 3 := by omega
  have s8 := sh8
  have s16 := sh16
  have s24 := sh24
  have s32 := sh32
  clear hs ht hx hy he hz
  go_enter Try.func3, Try.ntmps3
  go_wp2_with fail
  go_quiet (fail)
  go_wp2_with fail
  refine (pack_awake _).mono ?_
  rintro e w2 ⟨rfl, hb⟩
  have HB2 := Lib.hid (bstep (Drawn0.below ⟨⟨nq, rfl⟩⟩) hb)
  clear hb
  go_wp2_with fail
  refine (Put_eq HS.out _).mono ?_
  rintro e w3 ⟨rfl, hb⟩
  have HB3 := Lib.hid (bstep HB2.out hb)
  clear hb
  go_wp2_with fail
  refine (Put_eq HS.out _).mono ?_
  rintro e w4 ⟨rfl, hb⟩
  have HB4 := Lib.hid (bstep HB3.out hb)
  clear hb
  go_wp2_with fail
  refine (Put_eq HT.out _).mono ?_
  rintro e w5 ⟨rfl, hb⟩
  have HB5 := Lib.hid (bstep HB4.out hb)
  clear hb
  go_wp2_with fail
  refine (Put_eq HE.out _).mono ?_
  rintro e w6 ⟨rfl, hb⟩
  have HB6 := Lib.hid (bstep HB5.out hb)
  clear hb
  go_wp2_with fail
  go_ret
  exact ⟨rfl, HB6.out⟩
set_option maxHeartbeats 1000000 in
theorem order_4 (w a b : Int) (hj : w % 4 = 3) (w0 : 0 ≤ w) (w1 : w ≤ 255) (a0 : 0 ≤ a) (a1 : a ≤ 4294967295) (b0 : 0 ≤ b) (b1 : b ≤ 4294967295) (W : World) :
    Calls Try.prog 3 #[.int .u8 w, .int .u32 a, .int .u32 b] W fun e w' => e = .returned (.bool true) ∧ Below W.heap.size W w' := by
  obtain ⟨x, hx⟩ : ∃ x, x = a % 4294967296 := ⟨_, rfl⟩
  obtain ⟨y, hy⟩ : ∃ y, y = b % 4294967296 := ⟨_, rfl⟩
  have fx : fitsB 4 x = true := by simp [fitsB]; omega
  have fy : fitsB 4 y = true := by simp [fitsB]; omega
  have hl := put_less fx fy
  have hz := putB_len fx 4 rfl
  have he : putB 4 4294967296 = ⟨#[]⟩ := by unfold putB; rw [if_neg (by simp [fitsB])]
  obtain ⟨s, hs⟩ : ∃ s, s = putB 4 x := ⟨_, rfl⟩
  obtain ⟨t, ht⟩ : ∃ t, t = putB 4 y := ⟨_, rfl⟩
  rw [← hs, ← ht] at hl
  rw [← hs] at hz
  have HS := Lib.hid hs.symm
  have HT := Lib.hid ht.symm
  have HE := Lib.hid he
  have hzb : ((s.size : Int) == 4) = true := by simp [hz]
  have hxt : Int.tmod a 4294967296 = x := by rw [hx]; exact Int.tmod_eq_emod_of_nonneg a0
  have hyt : Int.tmod b 4294967296 = y := by rw [hy]; exact Int.tmod_eq_emod_of_nonneg b0
  have hwa : IntKind.i64.wrap a = a := IntWalk.i64_in _ (by omega)
  have hwb : IntKind.i64.wrap b = b := IntWalk.i64_in _ (by omega)
  have hzi : (s.size : Int) = 4 := by omega
  have s8 := sh8
  have s16 := sh16
  have s24 := sh24
  have s32 := sh32
  clear hs ht hx hy he hz
  go_enter Try.func3, Try.ntmps3
  go_wp2_with fail
  go_quiet (fail)
  go_wp2_with fail
  refine (pack_awake _).mono ?_
  rintro e w2 ⟨rfl, hb⟩
  have HB2 := Lib.hid (bstep (Drawn0.below ⟨⟨nq, rfl⟩⟩) hb)
  clear hb
  go_wp2_with fail
  refine (Put_eq HS.out _).mono ?_
  rintro e w3 ⟨rfl, hb⟩
  have HB3 := Lib.hid (bstep HB2.out hb)
  clear hb
  go_wp2_with fail
  refine (Put_eq HS.out _).mono ?_
  rintro e w4 ⟨rfl, hb⟩
  have HB4 := Lib.hid (bstep HB3.out hb)
  clear hb
  go_wp2_with fail
  refine (Put_eq HT.out _).mono ?_
  rintro e w5 ⟨rfl, hb⟩
  have HB5 := Lib.hid (bstep HB4.out hb)
  clear hb
  go_wp2_with fail
  refine (Put_eq HE.out _).mono ?_
  rintro e w6 ⟨rfl, hb⟩
  have HB6 := Lib.hid (bstep HB5.out hb)
  clear hb
  go_wp2_with fail
  go_ret
  exact ⟨rfl, HB6.out⟩
theorem order_walk (w a b : Int) (W : World) (w0 : (Lit.int .u8 w).wf = true) (w1 : (Lit.int .u32 a).wf = true) (w2 : (Lit.int .u32 b).wf = true) :
    Calls Try.prog 3 #[.int .u8 w, .int .u32 a, .int .u32 b] W fun e w' => e = .returned (.bool true) ∧ Below W.heap.size W w' := by
  have h0 : 0 ≤ w ∧ w ≤ 255 := by simpa [Lit.wf, IntKind.min, IntKind.max, IntKind.signed, IntKind.bits] using w0
  have h1 : 0 ≤ a ∧ a ≤ 4294967295 := by simpa [Lit.wf, IntKind.min, IntKind.max, IntKind.signed, IntKind.bits] using w1
  have h2 : 0 ≤ b ∧ b ≤ 4294967295 := by simpa [Lit.wf, IntKind.min, IntKind.max, IntKind.signed, IntKind.bits] using w2
  rcases (show w % 4 = 0 ∨ w % 4 = 1 ∨ w % 4 = 2 ∨ w % 4 = 3 by omega) with h | h | h | h
  · exact order_1 w a b h h0.1 h0.2 h1.1 h1.2 h2.1 h2.2 W
  · exact order_2 w a b h h0.1 h0.2 h1.1 h1.2 h2.1 h2.2 W
  · exact order_3 w a b h h0.1 h0.2 h1.1 h1.2 h2.1 h2.2 W
  · exact order_4 w a b h h0.1 h0.2 h1.1 h1.2 h2.1 h2.2 W
end Go.Proofs.Ythleapofcoidoaa
