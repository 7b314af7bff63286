/- PackGets: the walk. -/
import Derived.Test.YthleapofcoidoaaDoorPackA
namespace Go.Proofs.YthleapofcoidoaaDoor
open Go.RowKit Go.Extern.Stop Go.Stop Go.Extern Go.Proofs.YthleapofcoidoaaDoorW.PrintWords Go.Proofs.YthleapofcoidoaaDoorW.PrintLast Go.Proofs.YthleapofcoidoaaDoorW.PrintMore Go.Proofs.YthleapofcoidoaaDoor.PPackPlays
set_option linter.unusedVariables false
set_option linter.unusedSimpArgs false

theorem Get_some {s : ByteArray} {w x : Int} (hm : mayB w = true) (hs : w ≤ s.size) (hz : s.size ≤ 9223372036854775807) (hx : getK s w.toNat = x) (W : World) :
    Calls Tryd.prog 14 #[.string s, .int .i64 w] W fun e w' => e = .returned (.tuple #[.int .i64 x, .nilIface]) ∧ Below W.heap.size W w' := by
  rw [← hx]; exact Get_ok s w W hm hs hz
theorem gets_out (w n : Int) (more : ByteArray) (hm : 300 < more.size) (W : World) :
    Calls Tryd.prog 3 #[.int .u8 w, .int .u32 n, .string more] W fun e w' => e = .returned (.bool true) ∧ Below W.heap.size W w' := by
  have hd : decide ((300 : Int) < (more.size : Int)) = true := by simp; omega
  go_enter Tryd.func3, Tryd.ntmps3
  go_wp2_with fail
  refine (pack_awake _).mono ?_
  rintro e w1 ⟨rfl, hb⟩
  have HB1 := Lib.hid hb
  clear hb
  go_wp2_with fail
  refine (pack_awake _).mono ?_
  rintro e w2 ⟨rfl, hb⟩
  have HB2 := Lib.hid (bstep HB1.out hb)
  clear hb
  go_wp2_with fail
  go_ret
  exact ⟨rfl, HB2.out⟩
set_option maxHeartbeats 400000 in
theorem gets_1 (w n : Int) (more : ByteArray) (hj : w % 4 = 0) (w0 : 0 ≤ w) (w1 : w ≤ 255) (n0 : 0 ≤ n) (n1 : n ≤ 4294967295) (hm : more.size ≤ 300) (W : World) (tied : Tied W) :
    Calls Tryd.prog 3 #[.int .u8 w, .int .u32 n, .string more] W fun e w' => e = .returned (.bool true) ∧ Below W.heap.size W w' := by
  have T := Lib.hid tied
  clear tied
  have hd : decide ((300 : Int) < (more.size : Int)) = false := by simp; omega
  obtain ⟨s, hs⟩ : ∃ s, s = putB 1 (n % 256) := ⟨_, rfl⟩
  have hf : fitsB 1 (n % 256) = true := by simp [fitsB]; omega
  have hz : s.size = 1 := by have := putB_size hf; rw [← hs] at this; omega
  have hput := Put_any 1 (n % 256) 
  rw [← hs] at hput
  have HP := Lib.hid hput
  have hg : getK (s ++ more) 1 = n % 256 := by rw [hs]; exact getK_put hf more
  have HG := Lib.hid hg
  have HC : Hid ((s.extract 0 0).size < 1) := by show _ < _; rw [ByteArray.size_extract]; omega
  have HZ : Hid ((s ++ more).size ≤ 9223372036854775807 ∧ 1 ≤ (s ++ more).size) := by show _ ∧ _; rw [ByteArray.size_append]; omega
  have hsl : s.size + more.size ≤ 9223372036854775807 := by omega
  have hk1 : 0 ≤ s.size := by omega
  have hlen : ((s.size : Int) == 1) = true := by simp [hz]
  have hi : (s.size : Int) = 1 := by omega
  clear hput hg hs hf hz
  go_enter Tryd.func3, Tryd.ntmps3
  go_wp2_with fail
  refine (pack_awake _).mono ?_
  rintro e w1 ⟨rfl, hb⟩
  have HB1 := Lib.hid hb
  clear hb
  go_wp2_with fail
  refine (HP.out _).mono ?_
  rintro e w2 ⟨rfl, hb⟩
  have HB2 := Lib.hid (bstep HB1.out hb)
  clear hb
  go_wp2_with fail
  refine (Get_some (w := 1) (x := n % 256) (by decide) (by have := HZ.out; omega) HZ.out.1 HG.out _).mono ?_
  rintro e w3 ⟨rfl, hb⟩
  have HB3 := Lib.hid (bstep HB2.out hb)
  clear hb
  go_wp2_with fail
  refine (Get_form _ _ _ (by decide) (by first | (have := HC.out; omega) | simp)).mono ?_
  rintro e w4 ⟨v, rfl, he, hb⟩
  have HE4 := Lib.hid he
  have HB4 := Lib.hid (bstep HB3.out hb)
  clear he hb
  go_wp2_with fail
  refine (Num_nil _).mono ?_
  rintro e w5 ⟨rfl, rfl⟩
  go_wp2_with fail
  refine (Num_c (B := w3.heap.size) _ v 2 HE4.out (T.out.under T.out.lt HB4.out)).mono ?_
  rintro e w6 ⟨rfl, hb⟩
  have HB6 := Lib.hid (bstep HB4.out hb)
  clear hb
  go_wp2_with fail
  go_ret
  exact ⟨rfl, HB6.out⟩
set_option maxHeartbeats 400000 in
theorem gets_2 (w n : Int) (more : ByteArray) (hj : w % 4 = 1) (w0 : 0 ≤ w) (w1 : w ≤ 255) (n0 : 0 ≤ n) (n1 : n ≤ 4294967295) (hm : more.size ≤ 300) (W : World) (tied : Tied W) :
    Calls Tryd.prog 3 #[.int .u8 w, .int .u32 n, .string more] W fun e w' => e = .returned (.bool true) ∧ Below W.heap.size W w' := by
  have T := Lib.hid tied
  clear tied
  have hd : decide ((300 : Int) < (more.size : Int)) = false := by simp; omega
  obtain ⟨s, hs⟩ : ∃ s, s = putB 2 (n % 65536) := ⟨_, rfl⟩
  have hf : fitsB 2 (n % 65536) = true := by simp [fitsB]; omega
  have hz : s.size = 2 := by have := putB_size hf; rw [← hs] at this; omega
  have hput := Put_any 2 (n % 65536) 
  rw [← hs] at hput
  have HP := Lib.hid hput
  have hg : getK (s ++ more) 2 = n % 65536 := by rw [hs]; exact getK_put hf more
  have HG := Lib.hid hg
  have HC : Hid ((s.extract 0 1).size < 2) := by show _ < _; rw [ByteArray.size_extract]; omega
  have HZ : Hid ((s ++ more).size ≤ 9223372036854775807 ∧ 2 ≤ (s ++ more).size) := by show _ ∧ _; rw [ByteArray.size_append]; omega
  have hsl : s.size + more.size ≤ 9223372036854775807 := by omega
  have hk1 : 1 ≤ s.size := by omega
  have hlen : ((s.size : Int) == 2) = true := by simp [hz]
  have hi : (s.size : Int) = 2 := by omega
  clear hput hg hs hf hz
  go_enter Tryd.func3, Tryd.ntmps3
  go_wp2_with fail
  refine (pack_awake _).mono ?_
  rintro e w1 ⟨rfl, hb⟩
  have HB1 := Lib.hid hb
  clear hb
  go_wp2_with fail
  refine (HP.out _).mono ?_
  rintro e w2 ⟨rfl, hb⟩
  have HB2 := Lib.hid (bstep HB1.out hb)
  clear hb
  go_wp2_with fail
  refine (Get_some (w := 2) (x := n % 65536) (by decide) (by have := HZ.out; omega) HZ.out.1 HG.out _).mono ?_
  rintro e w3 ⟨rfl, hb⟩
  have HB3 := Lib.hid (bstep HB2.out hb)
  clear hb
  go_wp2_with fail
  refine (Get_form _ _ _ (by decide) (by first | (have := HC.out; omega) | simp)).mono ?_
  rintro e w4 ⟨v, rfl, he, hb⟩
  have HE4 := Lib.hid he
  have HB4 := Lib.hid (bstep HB3.out hb)
  clear he hb
  go_wp2_with fail
  refine (Num_nil _).mono ?_
  rintro e w5 ⟨rfl, rfl⟩
  go_wp2_with fail
  refine (Num_c (B := w3.heap.size) _ v 2 HE4.out (T.out.under T.out.lt HB4.out)).mono ?_
  rintro e w6 ⟨rfl, hb⟩
  have HB6 := Lib.hid (bstep HB4.out hb)
  clear hb
  go_wp2_with fail
  go_ret
  exact ⟨rfl, HB6.out⟩
set_option maxHeartbeats 400000 in
theorem gets_3 (w n : Int) (more : ByteArray) (hj : w % 4 = 2) (w0 : 0 ≤ w) (w1 : w ≤ 255) (n0 : 0 ≤ n) (n1 : n ≤ 4294967295) (hm : more.size ≤ 300) (W : World) (tied : Tied W) :
    Calls Tryd.prog 3 #[.int .u8 w, .int .u32 n, .string more] W fun e w' => e = .returned (.bool true) ∧ Below W.heap.size W w' := by
  have T := Lib.hid tied
  clear tied
  have hd : decide ((300 : Int) < (more.size : Int)) = false := by simp; omega
  obtain ⟨s, hs⟩ : ∃ s, s = putB 3 (n % 16777216) := ⟨_, rfl⟩
  have hf : fitsB 3 (n % 16777216) = true := by simp [fitsB]; omega
  have hz : s.size = 3 := by have := putB_size hf; rw [← hs] at this; omega
  have hput := Put_any 3 (n % 16777216) 
  rw [← hs] at hput
  have HP := Lib.hid hput
  have hg : getK (s ++ more) 3 = n % 16777216 := by rw [hs]; exact getK_put hf more
  have HG := Lib.hid hg
  have HC : Hid ((s.extract 0 2).size < 3) := by show _ < _; rw [ByteArray.size_extract]; omega
  have HZ : Hid ((s ++ more).size ≤ 9223372036854775807 ∧ 3 ≤ (s ++ more).size) := by show _ ∧ _; rw [ByteArray.size_append]; omega
  have hsl : s.size + more.size ≤ 9223372036854775807 := by omega
  have hk1 : 2 ≤ s.size := by omega
  have hlen : ((s.size : Int) == 3) = true := by simp [hz]
  have hi : (s.size : Int) = 3 := by omega
  clear hput hg hs hf hz
  go_enter Tryd.func3, Tryd.ntmps3
  go_wp2_with fail
  refine (pack_awake _).mono ?_
  rintro e w1 ⟨rfl, hb⟩
  have HB1 := Lib.hid hb
  clear hb
  go_wp2_with fail
  refine (HP.out _).mono ?_
  rintro e w2 ⟨rfl, hb⟩
  have HB2 := Lib.hid (bstep HB1.out hb)
  clear hb
  go_wp2_with fail
  refine (Get_some (w := 3) (x := n % 16777216) (by decide) (by have := HZ.out; omega) HZ.out.1 HG.out _).mono ?_
  rintro e w3 ⟨rfl, hb⟩
  have HB3 := Lib.hid (bstep HB2.out hb)
  clear hb
  go_wp2_with fail
  refine (Get_form _ _ _ (by decide) (by first | (have := HC.out; omega) | simp)).mono ?_
  rintro e w4 ⟨v, rfl, he, hb⟩
  have HE4 := Lib.hid he
  have HB4 := Lib.hid (bstep HB3.out hb)
  clear he hb
  go_wp2_with fail
  refine (Num_nil _).mono ?_
  rintro e w5 ⟨rfl, rfl⟩
  go_wp2_with fail
  refine (Num_c (B := w3.heap.size) _ v 2 HE4.out (T.out.under T.out.lt HB4.out)).mono ?_
  rintro e w6 ⟨rfl, hb⟩
  have HB6 := Lib.hid (bstep HB4.out hb)
  clear hb
  go_wp2_with fail
  go_ret
  exact ⟨rfl, HB6.out⟩
set_option maxHeartbeats 400000 in
theorem gets_4 (w n : Int) (more : ByteArray) (hj : w % 4 = 3) (w0 : 0 ≤ w) (w1 : w ≤ 255) (n0 : 0 ≤ n) (n1 : n ≤ 4294967295) (hm : more.size ≤ 300) (W : World) (tied : Tied W) :
    Calls Tryd.prog 3 #[.int .u8 w, .int .u32 n, .string more] W fun e w' => e = .returned (.bool true) ∧ Below W.heap.size W w' := by
  have T := Lib.hid tied
  clear tied
  have hd : decide ((300 : Int) < (more.size : Int)) = false := by simp; omega
  obtain ⟨s, hs⟩ : ∃ s, s = putB 4 (n % 4294967296) := ⟨_, rfl⟩
  have hf : fitsB 4 (n % 4294967296) = true := by simp [fitsB]; omega
  have hz : s.size = 4 := by have := putB_size hf; rw [← hs] at this; omega
  have hput := Put_any 4 (n % 4294967296) 
  rw [← hs] at hput
  have HP := Lib.hid hput
  have hg : getK (s ++ more) 4 = n % 4294967296 := by rw [hs]; exact getK_put hf more
  have HG := Lib.hid hg
  have HC : Hid ((s.extract 0 3).size < 4) := by show _ < _; rw [ByteArray.size_extract]; omega
  have HZ : Hid ((s ++ more).size ≤ 9223372036854775807 ∧ 4 ≤ (s ++ more).size) := by show _ ∧ _; rw [ByteArray.size_append]; omega
  have hsl : s.size + more.size ≤ 9223372036854775807 := by omega
  have hk1 : 3 ≤ s.size := by omega
  have hlen : ((s.size : Int) == 4) = true := by simp [hz]
  have hi : (s.size : Int) = 4 := by omega
  clear hput hg hs hf hz
  go_enter Tryd.func3, Tryd.ntmps3
  go_wp2_with fail
  refine (pack_awake _).mono ?_
  rintro e w1 ⟨rfl, hb⟩
  have HB1 := Lib.hid hb
  clear hb
  go_wp2_with fail
  refine (HP.out _).mono ?_
  rintro e w2 ⟨rfl, hb⟩
  have HB2 := Lib.hid (bstep HB1.out hb)
  clear hb
  go_wp2_with fail
  refine (Get_some (w := 4) (x := n % 4294967296) (by decide) (by have := HZ.out; omega) HZ.out.1 HG.out _).mono ?_
  rintro e w3 ⟨rfl, hb⟩
  have HB3 := Lib.hid (bstep HB2.out hb)
  clear hb
  go_wp2_with fail
  refine (Get_form _ _ _ (by decide) (by first | (have := HC.out; omega) | simp)).mono ?_
  rintro e w4 ⟨v, rfl, he, hb⟩
  have HE4 := Lib.hid he
  have HB4 := Lib.hid (bstep HB3.out hb)
  clear he hb
  go_wp2_with fail
  refine (Num_nil _).mono ?_
  rintro e w5 ⟨rfl, rfl⟩
  go_wp2_with fail
  refine (Num_c (B := w3.heap.size) _ v 2 HE4.out (T.out.under T.out.lt HB4.out)).mono ?_
  rintro e w6 ⟨rfl, hb⟩
  have HB6 := Lib.hid (bstep HB4.out hb)
  clear hb
  go_wp2_with fail
  go_ret
  exact ⟨rfl, HB6.out⟩
theorem gets_walk (w n : Int) (more : ByteArray) (W : World) (w0 : (Lit.int .u8 w).wf = true) (w1 : (Lit.int .u32 n).wf = true) (w2 : more.size ≤ 140737488351232) (tied : Tied W) :
    Calls Tryd.prog 3 #[.int .u8 w, .int .u32 n, .string more] W fun e w' => e = .returned (.bool true) ∧ Below W.heap.size W w' := by
  have h0 : 0 ≤ w ∧ w ≤ 255 := by simpa [Lit.wf, IntKind.min, IntKind.max, IntKind.signed, IntKind.bits] using w0
  have h1 : 0 ≤ n ∧ n ≤ 4294967295 := by simpa [Lit.wf, IntKind.min, IntKind.max, IntKind.signed, IntKind.bits] using w1
  by_cases hm : more.size ≤ 300
  · rcases (show w % 4 = 0 ∨ w % 4 = 1 ∨ w % 4 = 2 ∨ w % 4 = 3 by omega) with h | h | h | h
    · exact gets_1 w n more h h0.1 h0.2 h1.1 h1.2 hm W tied
    · exact gets_2 w n more h h0.1 h0.2 h1.1 h1.2 hm W tied
    · exact gets_3 w n more h h0.1 h0.2 h1.1 h1.2 hm W tied
    · exact gets_4 w n more h h0.1 h0.2 h1.1 h1.2 hm W tied
  · exact gets_out w n more (by omega) W
end Go.Proofs.YthleapofcoidoaaDoor
