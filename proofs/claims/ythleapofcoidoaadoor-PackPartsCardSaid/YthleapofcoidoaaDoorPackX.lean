/- PackBack, PackParts: the ways out; the walks by cases. -/
import Derived.Test.YthleapofcoidoaaDoorPackV
namespace Go.Proofs.YthleapofcoidoaaDoor
open Go.RowKit Go.Extern.Stop Go.Stop Go.Extern Go.Proofs.YthleapofcoidoaaDoorW.PrintWords Go.Proofs.YthleapofcoidoaaDoorW.PrintLast Go.Proofs.YthleapofcoidoaaDoorW.PrintMore Go.Proofs.YthleapofcoidoaaDoor.PPackPlays
set_option linter.unusedVariables false
set_option linter.unusedSimpArgs false

theorem wf_u8 {n : Int} (h : (Lit.int .u8 n).wf = true) : 0 ≤ n ∧ n ≤ 255 := by
  simpa [Lit.wf, IntKind.min, IntKind.max, IntKind.signed, IntKind.bits] using h
theorem wf_u32 {n : Int} (h : (Lit.int .u32 n).wf = true) : 0 ≤ n ∧ n ≤ 4294967295 := by
  simpa [Lit.wf, IntKind.min, IntKind.max, IntKind.signed, IntKind.bits] using h
set_option maxRecDepth 100000 in
theorem back_out (A B : Option Addr) (zs ns : List Int) (c d : Nat) (ho : 40 < zs.length ∨ ns.length < zs.length) (W : World) :
    Calls Tryd.prog 10 #[.slice A zs.length c, .slice B ns.length d] W fun e w' => e = .returned (.bool true) ∧ Below W.heap.size W w' := by
  by_cases h1 : 40 < zs.length
  · have hd1 : decide ((40 : Int) < (zs.length : Int)) = true := by simp; omega
    clear ho
    go_enter Tryd.func10, Tryd.ntmps10
    go_wp2_with fail
    refine (pack_awake _).mono ?_
    rintro e w1 ⟨rfl, hb⟩
    have HB1 := Lib.hid hb
    clear hb
    go_wp2_with fail
    refine (pack_awake _).mono ?_
    rintro e w2 ⟨rfl, hb⟩
    have HB2 := Lib.hid (bstep HB1.out hb)
    clear hb
    go_wp2_with fail
    go_ret
    exact ⟨rfl, HB2.out⟩
  · have hd1 : decide ((40 : Int) < (zs.length : Int)) = false := by simp; omega
    have hd2 : decide (ns.length < zs.length) = true := by simp; omega
    clear ho
    go_enter Tryd.func10, Tryd.ntmps10
    go_wp2_with fail
    refine (pack_awake _).mono ?_
    rintro e w1 ⟨rfl, hb⟩
    have HB1 := Lib.hid hb
    clear hb
    go_wp2_with fail
    refine (pack_awake _).mono ?_
    rintro e w2 ⟨rfl, hb⟩
    have HB2 := Lib.hid (bstep HB1.out hb)
    clear hb
    go_wp2_with fail
    go_ret
    exact ⟨rfl, HB2.out⟩
theorem back_walk (A : Option Addr) (c : Nat) (zs : List Int) (B : Option Addr) (d : Nat) (ns : List Int) (W : World) (h1 : IntsK .u8 W A zs c) (u1 : ∀ n ∈ zs, (Lit.int .u8 n).wf = true) (h2 : IntsK .u32 W B ns d) (u2 : ∀ n ∈ ns, (Lit.int .u32 n).wf = true) (tied : Tied W) :
    Calls Tryd.prog 10 #[.slice A zs.length c, .slice B ns.length d] W fun e w' => e = .returned (.bool true) ∧ Below W.heap.size W w' := by
  by_cases ho : 40 < zs.length ∨ ns.length < zs.length
  · exact back_out A B zs ns c d ho W
  · exact back_go A B zs ns c d (by omega) (by omega) W tied h1 h2 (fun j hj => wf_u8 (u1 _ (rd_mem hj))) (fun j hj => wf_u32 (u2 _ (rd_mem (by omega))))
end Go.Proofs.YthleapofcoidoaaDoor
