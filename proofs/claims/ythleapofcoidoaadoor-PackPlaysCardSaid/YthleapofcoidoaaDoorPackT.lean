/- PackPlays: the ways out; the walk by cases. -/
import Derived.Test.YthleapofcoidoaaDoorPackS
import Derived.Test.YthleapofcoidoaaDoorArgsK
namespace Go.Proofs.YthleapofcoidoaaDoor
open Go.RowKit Go.Extern.Stop Go.Stop Go.Extern Go.Proofs.YthleapofcoidoaaDoorW.PrintWords Go.Proofs.YthleapofcoidoaaDoorW.PrintLast Go.Proofs.YthleapofcoidoaaDoorW.PrintMore Go.Proofs.YthleapofcoidoaaDoor.PPackPlays
set_option linter.unusedVariables false
set_option linter.unusedSimpArgs false

set_option maxRecDepth 100000 in
theorem plays_out (w n : Int) (s : ByteArray) (A B : Option Addr) (l m : List Int) (c d : Nat) (ho : 400 < s.size ∨ 60 < l.length ∨ 60 < m.length) (W : World) :
    Calls Tryd.prog 11 #[.int .i64 w, .int .i64 n, .string s, .slice A l.length c, .slice B m.length d] W fun e w' => e = .returned (.bool true) ∧ Below W.heap.size W w' := by
  rcases (show 400 < s.size ∨ (s.size ≤ 400 ∧ 60 < l.length) ∨ (s.size ≤ 400 ∧ l.length ≤ 60 ∧ 60 < m.length) by omega) with h1 | ⟨h1, h2⟩ | ⟨h1, h2, h3⟩
  · have hd1 : decide ((400 : Int) < (s.size : Int)) = true := by simp; omega
    clear ho
    go_enter Tryd.func11, Tryd.ntmps11
    go_wp2_with fail
    refine (pack_awake _).mono ?_
    rintro e w1 ⟨rfl, hb⟩
    have HB1 := Lib.hid hb
    clear hb
    go_wp2_with fail
    refine (pack_awake _).mono ?_
    rintro e w2 ⟨rfl, hb⟩
    have HB2 := Lib.hid (bstep HB1.out hb)
    clear hb
    go_wp2_with fail
    go_ret
    exact ⟨rfl, HB2.out⟩
  · have hd1 : decide ((400 : Int) < (s.size : Int)) = false := by simp; omega
    have hd2 : decide ((60 : Int) < (l.length : Int)) = true := by simp; omega
    clear ho
    go_enter Tryd.func11, Tryd.ntmps11
    go_wp2_with fail
    refine (pack_awake _).mono ?_
    rintro e w1 ⟨rfl, hb⟩
    have HB1 := Lib.hid hb
    clear hb
    go_wp2_with fail
    refine (pack_awake _).mono ?_
    rintro e w2 ⟨rfl, hb⟩
    have HB2 := Lib.hid (bstep HB1.out hb)
    clear hb
    go_wp2_with fail
    go_ret
    exact ⟨rfl, HB2.out⟩
  · have hd1 : decide ((400 : Int) < (s.size : Int)) = false := by simp; omega
    have hd2 : decide ((60 : Int) < (l.length : Int)) = false := by simp; omega
    have hd3 : decide ((60 : Int) < (m.length : Int)) = true := by simp; omega
    clear ho
    go_enter Tryd.func11, Tryd.ntmps11
    go_wp2_with fail
    refine (pack_awake _).mono ?_
    rintro e w1 ⟨rfl, hb⟩
    have HB1 := Lib.hid hb
    clear hb
    go_wp2_with fail
    refine (pack_awake _).mono ?_
    rintro e w2 ⟨rfl, hb⟩
    have HB2 := Lib.hid (bstep HB1.out hb)
    clear hb
    go_wp2_with fail
    go_ret
    exact ⟨rfl, HB2.out⟩
theorem wf_i64 {n : Int} (h : (Lit.int .i64 n).wf = true) : -9223372036854775808 ≤ n ∧ n ≤ 9223372036854775807 := by
  simpa [Lit.wf, IntKind.min, IntKind.max, IntKind.signed, IntKind.bits] using h
theorem plays_walk (w n : Int) (s : ByteArray) (A : Option Addr) (c : Nat) (l : List Int) (B : Option Addr) (d : Nat) (m : List Int) (W : World) (w0 : (Lit.int .i64 w).wf = true) (w1 : (Lit.int .i64 n).wf = true) (w2 : s.size ≤ 140737488351232)
    (h1 : IntsK .i64 W A l c) (u1 : ∀ n ∈ l, (Lit.int .i64 n).wf = true) (h2 : IntsK .i64 W B m d) (u2 : ∀ n ∈ m, (Lit.int .i64 n).wf = true) (tied : Tied W) :
    Calls Tryd.prog 11 #[.int .i64 w, .int .i64 n, .string s, .slice A l.length c, .slice B m.length d] W fun e w' => e = .returned (.bool true) ∧ Below W.heap.size W w' := by
  by_cases ho : 400 < s.size ∨ 60 < l.length ∨ 60 < m.length
  · exact plays_out w n s A B l m c d ho W
  · exact plays_go w n s A B l m c d (wf_i64 w1).2 (by omega) (by omega) (by omega) W tied h1 h2 (fun j hj => (wf_i64 (u2 _ (rd_mem hj))).2)
end Go.Proofs.YthleapofcoidoaaDoor
