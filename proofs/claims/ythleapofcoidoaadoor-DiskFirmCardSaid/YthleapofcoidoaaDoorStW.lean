/- A region's reads, one by one, behind a structure: the goal's head is never unfolded (an unwanted operation would unfold the whole rest of the function). -/
import Derived.Test.YthleapofcoidoaaDoorTwiceW
namespace Go.Proofs.YthleapofcoidoaaDoor
open Go.RowKit Go.Extern.Stop Go.Stop Go.Extern
set_option linter.unusedVariables false
set_option linter.unusedSimpArgs false

structure WS (P : Program) (ops : Array Oper) (w : World) (Q : Act → Prop) (l : List Oper) (a : Act) : Prop where
  out : wpStill P ops w Q l a
section
variable {P : Program} {ops : Array Oper} {rest : List Oper} {op : Oper} {a : Act} {w : World} {Q : Act → Prop}
theorem ws_step (h : ∀ K : Act → Prop, (∀ a, WS P ops w Q rest a → K a) → if Region.wanted op (yielded ops a.tmps) then op.still P a w K else K (a.put op.dst undef)) : WS P ops w Q (op :: rest) a :=
  ⟨wpStill_step fun K hK => h K fun a h => hK a h.out⟩
theorem ws_nil (h : Q a) : WS P ops w Q [] a := ⟨wpStill_nil h⟩
theorem ws_pg (hw : Region.wanted op (yielded ops a.tmps) = true) (x : Operand) (ho : op.op = .load 36 x) (b o : Nat) (hx : a.eval x = .pointer (some ⟨b, o, none⟩)) (p : Pg) (hp : p.length = 128) (hc : w.rangeAt b o (pv p))
    (h : WS Tryd.prog ops w Q rest (a.put op.dst (.agg (pv p).toArray))) : WS Tryd.prog ops w Q (op :: rest) a :=
  ⟨stillw_pg hw x ho b o hx p hp hc h.out⟩
theorem ws_ne (hw : Region.wanted op (yielded ops a.tmps) = true) (x y : Operand) (ho : op.op = .binOp .neq 36 x y 36) (p : Pg) (hx : a.eval x = .agg (pv p).toArray) (hy : a.eval y = .agg (pv p).toArray) (hp : p.length = 128)
    (h : WS Tryd.prog ops w Q rest (a.put op.dst (.bool false))) : WS Tryd.prog ops w Q (op :: rest) a :=
  ⟨stillw_ne hw x y ho p hx hy hp h.out⟩
end
end Go.Proofs.YthleapofcoidoaaDoor
