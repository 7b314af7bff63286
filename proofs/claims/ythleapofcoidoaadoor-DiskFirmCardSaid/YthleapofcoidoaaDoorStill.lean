/- Regions that draw and end in a store: what comes first, in the text's order, pages whole; a slice of one write. -/
import Derived.Test.YthleapofcoidoaaDoorDiskR
import Derived.StillTailTactics
import Derived.Laws.AppendOwn
namespace Go.Proofs.YthleapofcoidoaaDoor
open Go.RowKit Go.Extern.Stop Go.Stop Go.Extern
set_option linter.unusedVariables false
set_option linter.unusedSimpArgs false

section
variable {ops : Array Oper} {rest : List Oper} {op : Oper} {a : Act} {w : World}
theorem still_val {P : Program} {Q : Act → Prop} (hg : op.guard = none) (v : Value) (hrun : (execOp a.eval op).run P w = .ok (.value v) w) (h : wpStill P ops w Q rest (a.put op.dst v)) : wpStill P ops w Q (op :: rest) a := by
  refine wpStill_step fun K hK => ?_
  rw [if_pos (by simp [Region.wanted, hg])]
  unfold Oper.still
  rw [hrun, Oper.stillUpon_value]
  exact hK _ h
theorem still_pg {Q : Act → Prop} (hg : op.guard = none) (x : Operand) (ho : op.op = .load 36 x) (b o : Nat) (hx : a.eval x = .pointer (some ⟨b, o, none⟩)) (p : Pg) (hp : p.length = 128) (hc : w.rangeAt b o (pv p))
    (h : wpStill Tryd.prog ops w Q rest (a.put op.dst (.agg (pv p).toArray))) : wpStill Tryd.prog ops w Q (op :: rest) a := by
  refine still_val hg (.agg (pv p).toArray) ?_ h
  unfold execOp
  simp only [ho, hx, Instr.loadAt, Instr.sureAddr, Sem.run_bind, Sem.run_pure, Result.andThen_ok, run_loadVar_mid w b o 36 (pv p) _ hc Tryd.underlying36 rfl (size_of hp)]
theorem still_ls {Q : Act → Prop} (hg : op.guard = none) (x y : Operand) (ho : op.op = .build 83 #[(0, x), (1, y)]) (i : Int) (hx : a.eval x = .int .i64 i) (p : Pg) (hp : p.length = 128) (hy : a.eval y = .agg (pv p).toArray)
    (h : wpStill Tryd.prog ops w Q rest (a.put op.dst (.agg (lv i p).toArray))) : wpStill Tryd.prog ops w Q (op :: rest) a := by
  refine still_val hg (.agg (lv i p).toArray) ?_ h
  have hb := run_build (P := Tryd.prog) w 83 #[(0, .int .i64 i), (1, .agg (pv p).toArray)] _ (built_ls i p hp)
  unfold execOp
  simp only [ho, Sem.run_bind, List.map_toArray, List.map_cons, List.map_nil, hx, hy, hb, Result.andThen_ok, Sem.run_pure]
/-- a slice of one write -/
theorem bs_ls {Q : Exit → Act → World → Prop} (hg : op.guard = none) (x : Operand) (ho : op.op = .buildSlice 78 1 #[(0, x)]) (i : Int) (p : Pg) (hp : p.length = 128) (hx : a.eval x = .agg (lv i p).toArray)
    (h : wpList Tryd.prog ops Q rest (a.put op.dst (.slice (some ⟨w.heap.size, 0, none⟩) 1 1)) (w.alloc (.cells (lv i p).toArray 83))) : wpList Tryd.prog ops Q (op :: rest) a w := by
  obtain ⟨ie, hie, hz, hs, _⟩ := info_parts info_ls
  have hf := Go.Great.fill_whole (s := 129) (by omega) [.agg (lv i p).toArray] ((Array.range (1 * ie.size)).map ((Value.agg (lv 0 zp).toArray).cells[· % (Value.agg (lv 0 zp).toArray).cells.size]!)) (fun v hv => by rw [List.mem_singleton.1 hv]; simp [Value.cells, lv_length, hp]) (by simp [hs])
  refine wpList_buildSlice hg 78 83 1 #[(0, x)] ho (lv i p).toArray ie _ Tryd.underlying78 hie hz (by rw [hs]; omega) (by rw [hs]; omega) ?_ h
  rw [hs] at hf ⊢
  have e : (#[(0, x)] : Array (Nat × Operand)).map (fun y => (y.1, a.eval y.2)) = #[(0, .agg (lv i p).toArray)] := by simp [hx]
  show Instr.fill _ _ ((#[(0, x)] : Array (Nat × Operand)).map (fun y => (y.1, a.eval y.2))).toList = _
  rw [e]
  simpa [Value.cells] using hf
/-- a slice of one write, at the operation -/
theorem wp_bs {K : Act → World → Prop} {Q : Exit → Act → World → Prop} (x : Operand) (ho : op.op = .buildSlice 78 1 #[(0, x)]) (i : Int) (p : Pg) (hp : p.length = 128) (hx : a.eval x = .agg (lv i p).toArray)
    (h : K (a.put op.dst (.slice (some ⟨w.heap.size, 0, none⟩) 1 1)) (w.alloc (.cells (lv i p).toArray 83))) : op.wp Tryd.prog a w K Q := by
  obtain ⟨ie, hie, hz, hs, _⟩ := info_parts info_ls
  have hf := Go.Great.fill_whole (s := 129) (by omega) [.agg (lv i p).toArray] ((Array.range (1 * ie.size)).map ((Value.agg (lv 0 zp).toArray).cells[· % (Value.agg (lv 0 zp).toArray).cells.size]!)) (fun v hv => by rw [List.mem_singleton.1 hv]; simp [Value.cells, lv_length, hp]) (by simp [hs])
  refine wp_buildSlice 78 83 1 #[(0, x)] ho (lv i p).toArray ie _ Tryd.underlying78 hie hz (by rw [hs]; omega) (by rw [hs]; omega) ?_ h
  rw [hs] at hf ⊢
  have e : (#[(0, x)] : Array (Nat × Operand)).map (fun y => (y.1, a.eval y.2)) = #[(0, .agg (lv i p).toArray)] := by simp [hx]
  show Instr.fill _ _ ((#[(0, x)] : Array (Nat × Operand)).map (fun y => (y.1, a.eval y.2))).toList = _
  rw [e]
  simpa [Value.cells] using hf
theorem run_ls_build (x y : Operand) (ho : op.op = .build 83 #[(0, x), (1, y)]) (i : Int) (hx : a.eval x = .int .i64 i) (p : Pg) (hp : p.length = 128) (hy : a.eval y = .agg (pv p).toArray) (w : World) :
    (execOp a.eval op).run Tryd.prog w = .ok (.value (.agg (lv i p).toArray)) w := by
  have hb := run_build (P := Tryd.prog) w 83 #[(0, .int .i64 i), (1, .agg (pv p).toArray)] _ (built_ls i p hp)
  unfold execOp
  simp only [ho, Sem.run_bind, List.map_toArray, List.map_cons, List.map_nil, hx, hy, hb, Result.andThen_ok, Sem.run_pure]
theorem at_bs {P : Program} (ty : TypeId) {Q : Exit → Act → World → Prop} {n : Nat} {ps : Array (Nat × Operand)} {d : Option Tmp} {t : TypeId} {s : String} {f : Array Edge} {g : Option (Nat × Bool)} (h : wpList P ops Q (⟨d, .buildSlice ty n ps, t, s, f, g⟩ :: rest) a w) : wpList P ops Q (⟨d, .buildSlice ty n ps, t, s, f, g⟩ :: rest) a w := h
end
end Go.Proofs.YthleapofcoidoaaDoor
