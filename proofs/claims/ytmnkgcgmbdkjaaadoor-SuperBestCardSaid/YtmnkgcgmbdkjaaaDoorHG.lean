/- Superblocks: 32 cells; what loads, stores and builds them. Superblocks: right ones, their data, the superblock of data: plain. super.Right, dynamoref07.Right by contracts; Of, Plain. super.Lay, dynamoref07.Lay by contracts. super.Read by contract. dynamoref07.Read by contract. -/
import Derived.Test.YtmnkgcgmbdkjaaaDoorHF
import Derived.Great.BuildSlice
import Derived.Test.YtmnkgcgmbdkjaaaDoorHB
import Derived.Laws.IdiomStrings
set_option linter.unusedVariables false
set_option linter.unusedSimpArgs false
namespace Go.Proofs.YtmnkgcgmbdkjaaaDoor
open Go.RowKit Go.Extern.Stop Go.Stop Go.Extern Go.Proofs.YtmnkgcgmbdkjaaaDoorW.PrintWords Go.Proofs.YtmnkgcgmbdkjaaaDoorW.PrintLast Go.Proofs.YtmnkgcgmbdkjaaaDoorW.PrintMore Go.Proofs.YtmnkgcgmbdkjaaaDoor.PSuperPlays
set_option linter.unusedVariables false
set_option linter.unusedSimpArgs false
structure Sup where
  g : Int
  r : Int
  u : Pg
/-- a superblock's cells -/
def sv (s : Sup) : List Value := .int .u32 s.g :: .int .i64 s.r :: pv s.u
def sup0 : Sup := ⟨0, 0, List.replicate 30 0⟩
theorem sup0_l : sup0.u.length = 30 := List.length_replicate
theorem sv_length {s : Sup} (h : s.u.length = 30) : (sv s).length = 32 := by simp [sv, pv_length, h]
theorem sv_one (s : Sup) : ∀ v ∈ sv s, v.oneCell' = true := fun v hv => by
  rcases List.mem_cons.1 hv with rfl | hv
  · rfl
  · rcases List.mem_cons.1 hv with rfl | hv
    · rfl
    · exact pv_one _ v hv
theorem sv_all {s : Sup} : (sv s).toArray.all (·.oneCell') = true := all_oneCell_toArray (sv_one s)
theorem ssz : (sv sup0).toArray.size = 32 := by rw [List.size_toArray, sv_length sup0_l]
structure SupAt (W : World) (b : Nat) (s : Sup) : Prop where
  r : W.rangeAt b 0 (sv s)
  t : W.there b 0 32
  l : s.u.length = 30
theorem SupAt.lt {W : World} {b : Nat} {s : Sup} (h : SupAt W b s) : b < W.heap.size := by
  obtain ⟨u, hu⟩ := Option.isSome_iff_exists.1 (h.t 0 (by omega)).1
  exact cell_lt hu
theorem SupAt.touch {S : Bs} {w w' : World} {b : Nat} {s : Sup} (h : SupAt w b s) (t : Touch S w w') (hs : ¬ S b) : SupAt w' b s := ⟨t.range h.r hs, t.there h.t hs, h.l⟩
theorem SupAt.under {W W' : World} {b n : Nat} {s : Sup} (h : SupAt W b s) (hb : Below n W W') (hn : b < n) : SupAt W' b s :=
  ⟨fun j v hv => (hb.cell (p := ⟨b, 0 + j, none⟩) hn).trans (h.r j v hv), fun j hj => ⟨by rw [hb.cell (p := ⟨b, 0 + j, none⟩) hn]; exact (h.t j hj).1, by rw [hb.frozen (p := ⟨b, 0 + j, none⟩) hn]; exact (h.t j hj).2⟩, h.l⟩
theorem sv_range_new (w : World) (s : Sup) (t : TypeId) : (w.alloc (.cells (sv s).toArray t)).rangeAt w.heap.size 0 (sv s) := fun j v hv => by
  rw [Nat.zero_add, cell_of_row _ _ j _ t (0, 0) (heap_alloc_last w _)]; simpa using hv
theorem SupAt.new (W : World) (t : TypeId) (s : Sup) (hs : s.u.length = 30) : SupAt (W.alloc (.cells (sv s).toArray t)) W.heap.size s :=
  ⟨sv_range_new W s t, there_new W _ t 32 (by rw [List.size_toArray, sv_length hs]; exact Nat.le_refl _), hs⟩
theorem SupAt.gen {W : World} {b : Nat} {s : Sup} (h : SupAt W b s) : W.cell? ⟨b, 0, none⟩ = some (.int .u32 s.g) := h.r 0 _ rfl
theorem SupAt.root {W : World} {b : Nat} {s : Sup} (h : SupAt W b s) : W.cell? ⟨b, 1, none⟩ = some (.int .i64 s.r) := h.r 1 _ rfl
theorem SupAt.used {W : World} {b : Nat} {s : Sup} (h : SupAt W b s) : W.rangeAt b 2 (pv s.u) := fun j v hv => by
  have := h.r (2 + j) v (by rw [sv, Nat.add_comm, List.getElem?_cons_succ, List.getElem?_cons_succ]; exact hv)
  rwa [Nat.zero_add] at this
theorem SupAt.set {W : World} {b : Nat} {s q : Sup} (h : SupAt W b s) (hq : q.u.length = 30) : SupAt (W.setCells b 0 (sv q)) b q :=
  ⟨World.rangeAt_setCells_same _ _ _ _ (by rw [sv_length hq]; exact h.t), World.there_setCells h.t _ _ _, hq⟩
theorem Stays.sup {S : Bs} {w : World} {b : Nat} {s : Sup} (h : SupAt w b s) (hs : ¬ S b) : Stays S w (fun W => SupAt W b s) := fun w2 t => h.touch t hs
theorem Stays.boxS {S : Bs} {w w' : World} {s : Sup} {t : TypeId} (hp : s.u.length = 30) (hw : Wi S w) (h : w' = w.alloc (.cells (sv s).toArray t)) : Stays S w' (fun W => SupAt W w.heap.size s) := by
  subst h
  exact Stays.sup (SupAt.new w t s hp) (fun q => by have := hw _ q; omega)
theorem fold_one' (v : Value) (hv : v.cells = #[v]) (o : Nat) (C : Array Value) : v.cells.zipIdx.foldl (fun cs (x : Value × Nat) => cs.setIfInBounds (o + x.2) x.1) C = C.setIfInBounds o v := by
  simp [hv]
theorem fill_sup (g r : Int) (u : Pg) (hu : u.length = 30) : Instr.fill (#[(0, 1), (1, 1), (2, 30)][·]?) (sv sup0).toArray [(0, .int .u32 g), (1, .int .i64 r), (2, .agg (pv u).toArray)] = some (sv ⟨g, r, u⟩).toArray := by
  obtain ⟨g1, g2⟩ := Go.Great.foldl_set 2 (pv u) 0 (((sv sup0).toArray.setIfInBounds 0 (.int .u32 g)).setIfInBounds 1 (.int .i64 r))
  have hz : (sv sup0).length = 32 := sv_length sup0_l
  have hpl : (pv u).length = 30 := by rw [pv_length, hu]
  simp only [Instr.fill]
  have e0 : (#[(0, 1), (1, 1), (2, 30)] : Array (Nat × Nat))[0]? = some (0, 1) := rfl
  have e1 : (#[(0, 1), (1, 1), (2, 30)] : Array (Nat × Nat))[1]? = some (1, 1) := rfl
  have e2 : (#[(0, 1), (1, 1), (2, 30)] : Array (Nat × Nat))[2]? = some (2, 30) := rfl
  simp only [e0, e1, e2]
  rw [if_neg (by simp [Value.cells, hz]), if_neg (by simp [Value.cells, hz]), if_neg (by simp [Value.cells, hz, hpl])]
  congr 1
  have hc : ∀ C : Array Value, (Value.agg (pv u).toArray).cells.zipIdx.foldl (fun cs (x : Value × Nat) => cs.setIfInBounds (2 + x.2) x.1) C = ((pv u).zipIdx 0).foldl (fun cs (x : Value × Nat) => cs.setIfInBounds (2 + x.2) x.1) C := fun C => by
    show ((pv u).toArray.zipIdx).foldl _ _ = _
    rw [← Array.foldl_toList, Array.toList_zipIdx]
  apply Array.ext_getElem?
  intro k
  rw [fold_one' (.int .u32 g) rfl 0, fold_one' (.int .i64 r) rfl 1, hc, g2 k]
  have hs : (((sv sup0).toArray.setIfInBounds 0 (.int .u32 g)).setIfInBounds 1 (.int .i64 r)).size = 32 := by simp [hz]
  rw [hs, hpl]
  have hl : (sv ⟨g, r, u⟩).length = 32 := sv_length hu
  match k with
  | 0 => rw [if_neg (by omega)]; simp [sv, hz]
  | 1 => rw [if_neg (by omega)]; simp [sv, hz]
  | k + 2 =>
    by_cases hk : k < 30
    · rw [if_pos ⟨by omega, by omega, by omega⟩]; simp [sv]
    · rw [if_neg (by omega), Array.getElem?_eq_none (by omega), Array.getElem?_eq_none (by simp [hl]; omega)]
theorem info_sp : (Tryd.prog.info? 72).map (fun i => (i.zero, i.size)) = some (some (.agg (sv sup0).toArray), 32) := by kernel_rfl
theorem zero_sp : ∀ w, (zeroValue 72).run Tryd.prog w = .ok (.agg (sv sup0).toArray) w := (zero_of_info info_sp).1
theorem size_sp : (Tryd.prog.info? 72).map (·.size) = some 32 := (zero_of_info info_sp).2
theorem build_sp0 (w : World) : (Instr.build 72 #[]).run Tryd.prog w = .ok (.agg (sv sup0).toArray) w := by kernel_rfl
theorem built_sp (parts : List (Nat × Value)) : Tryd.prog.built 72 parts = Instr.fill (#[(0, 1), (1, 1), (2, 30)][·]?) (sv sup0).toArray parts := by kernel_rfl
theorem szof_sp {s : Sup} (hp : s.u.length = 30) : (Tryd.prog.info? 72).map (·.size) = some (sv s).length := by rw [size_sp, sv_length hp]
section
variable {ops : Array Oper} {rest : List Oper} {op : Oper} {a : Act} {w : World} {Q : Exit → Act → World → Prop}
theorem ld_sp (hgd : op.guard = none) (x : Operand) (ho : op.op = .load 72 x) (b o : Nat) (hx : a.eval x = .pointer (some ⟨b, o, none⟩)) (p : Sup) (hp : p.u.length = 30) (hc : w.rangeAt b o (sv p))
    (h : wpList Tryd.prog ops Q rest (a.put op.dst (.agg (sv p).toArray)) w) : wpList Tryd.prog ops Q (op :: rest) a w :=
  wpList_load_mid hgd 72 x ho b o hx (sv p) _ hc Tryd.underlying72 rfl (szof_sp hp) h
theorem st_sp (hgd : op.guard = none) (x y : Operand) (ho : op.op = .store 72 x y) (b o : Nat) (hx : a.eval x = .pointer (some ⟨b, o, none⟩)) (p : Sup) (hp : p.u.length = 30) (hy : a.eval y = .agg (sv p).toArray) (ht : w.there b o 32)
    (h : wpList Tryd.prog ops Q rest (a.put op.dst undef) (w.setCells b o (sv p))) : wpList Tryd.prog ops Q (op :: rest) a w := by
  refine wpList_store_mid hgd 72 x y ho b o (sv p).toArray hx hy (by simpa [sv_length hp] using ht) (by simpa using szof_sp hp) sv_all ?_
  simpa using h
theorem stn_sp (hgd : op.guard = none) (x y : Operand) (ho : op.op = .store 72 x y) (w0 : World) (c : Array Value) (t : TypeId) (hw : w = w0.alloc (.cells c t)) (hx : a.eval x = .pointer (some ⟨w0.heap.size, 0, none⟩)) (p : Sup) (hp : p.u.length = 30) (hy : a.eval y = .agg (sv p).toArray) (hc : c.size = 32)
    (h : wpList Tryd.prog ops Q rest (a.put op.dst undef) (w0.alloc (.cells (sv p).toArray t))) : wpList Tryd.prog ops Q (op :: rest) a w := by
  subst hw
  refine wpList_plain hgd fun K hK => ?_
  unfold Oper.wp execOp
  simp only [ho, hx, hy, Instr.storeAt, Instr.sureAddr, Sem.run_bind, Sem.run_pure, Result.andThen_ok]
  rw [run_storeVar_row _ w0.heap.size t 72 c (sv p).toArray (heap_alloc_last w0 _) (by rw [size_sp, List.size_toArray, sv_length hp]) (by simp [sv_length hp, hc]) sv_all, World.setRow_alloc_new]
  exact hK _ _ h
theorem al_sp (hgd : op.guard = none) (ho : op.op = .alloc 72) (h : wpList Tryd.prog ops Q rest (a.put op.dst (.pointer (some ⟨w.heap.size, 0, none⟩))) (w.alloc (.cells (sv sup0).toArray 72))) : wpList Tryd.prog ops Q (op :: rest) a w := by
  refine wpList_plain hgd fun K hK => ?_
  unfold Oper.wp execOp
  simp only [ho, Instr.alloc, Sem.run_bind, zero_sp, Result.andThen_ok]
  exact hK _ _ h
theorem ldw_sp (hw : Region.wanted op (yielded ops a.tmps) = true) (x : Operand) (ho : op.op = .load 72 x) (b o : Nat) (hx : a.eval x = .pointer (some ⟨b, o, none⟩)) (p : Sup) (hp : p.u.length = 30) (hc : w.rangeAt b o (sv p))
    (h : wpList Tryd.prog ops Q rest (a.put op.dst (.agg (sv p).toArray)) w) : wpList Tryd.prog ops Q (op :: rest) a w :=
  wpList_want hw fun _ hK => wp_load_mid 72 x ho b o hx (sv p) _ hc Tryd.underlying72 rfl (szof_sp hp) (hK _ _ h)
end
theorem info_rp : (Tryd.prog.info? 68).map (fun i => (i.zero, i.size)) = some (some (.agg (sv sup0).toArray), 32) := by kernel_rfl
theorem zero_rp : ∀ w, (zeroValue 68).run Tryd.prog w = .ok (.agg (sv sup0).toArray) w := (zero_of_info info_rp).1
theorem size_rp : (Tryd.prog.info? 68).map (·.size) = some 32 := (zero_of_info info_rp).2
theorem build_rp0 (w : World) : (Instr.build 68 #[]).run Tryd.prog w = .ok (.agg (sv sup0).toArray) w := by kernel_rfl
theorem built_rp (parts : List (Nat × Value)) : Tryd.prog.built 68 parts = Instr.fill (#[(0, 1), (1, 1), (2, 30)][·]?) (sv sup0).toArray parts := by kernel_rfl
theorem szof_rp {s : Sup} (hp : s.u.length = 30) : (Tryd.prog.info? 68).map (·.size) = some (sv s).length := by rw [size_rp, sv_length hp]
section
variable {ops : Array Oper} {rest : List Oper} {op : Oper} {a : Act} {w : World} {Q : Exit → Act → World → Prop}
theorem ld_rp (hgd : op.guard = none) (x : Operand) (ho : op.op = .load 68 x) (b o : Nat) (hx : a.eval x = .pointer (some ⟨b, o, none⟩)) (p : Sup) (hp : p.u.length = 30) (hc : w.rangeAt b o (sv p))
    (h : wpList Tryd.prog ops Q rest (a.put op.dst (.agg (sv p).toArray)) w) : wpList Tryd.prog ops Q (op :: rest) a w :=
  wpList_load_mid hgd 68 x ho b o hx (sv p) _ hc Tryd.underlying68 rfl (szof_rp hp) h
theorem st_rp (hgd : op.guard = none) (x y : Operand) (ho : op.op = .store 68 x y) (b o : Nat) (hx : a.eval x = .pointer (some ⟨b, o, none⟩)) (p : Sup) (hp : p.u.length = 30) (hy : a.eval y = .agg (sv p).toArray) (ht : w.there b o 32)
    (h : wpList Tryd.prog ops Q rest (a.put op.dst undef) (w.setCells b o (sv p))) : wpList Tryd.prog ops Q (op :: rest) a w := by
  refine wpList_store_mid hgd 68 x y ho b o (sv p).toArray hx hy (by simpa [sv_length hp] using ht) (by simpa using szof_rp hp) sv_all ?_
  simpa using h
theorem stn_rp (hgd : op.guard = none) (x y : Operand) (ho : op.op = .store 68 x y) (w0 : World) (c : Array Value) (t : TypeId) (hw : w = w0.alloc (.cells c t)) (hx : a.eval x = .pointer (some ⟨w0.heap.size, 0, none⟩)) (p : Sup) (hp : p.u.length = 30) (hy : a.eval y = .agg (sv p).toArray) (hc : c.size = 32)
    (h : wpList Tryd.prog ops Q rest (a.put op.dst undef) (w0.alloc (.cells (sv p).toArray t))) : wpList Tryd.prog ops Q (op :: rest) a w := by
  subst hw
  refine wpList_plain hgd fun K hK => ?_
  unfold Oper.wp execOp
  simp only [ho, hx, hy, Instr.storeAt, Instr.sureAddr, Sem.run_bind, Sem.run_pure, Result.andThen_ok]
  rw [run_storeVar_row _ w0.heap.size t 68 c (sv p).toArray (heap_alloc_last w0 _) (by rw [size_rp, List.size_toArray, sv_length hp]) (by simp [sv_length hp, hc]) sv_all, World.setRow_alloc_new]
  exact hK _ _ h
theorem al_rp (hgd : op.guard = none) (ho : op.op = .alloc 68) (h : wpList Tryd.prog ops Q rest (a.put op.dst (.pointer (some ⟨w.heap.size, 0, none⟩))) (w.alloc (.cells (sv sup0).toArray 68))) : wpList Tryd.prog ops Q (op :: rest) a w := by
  refine wpList_plain hgd fun K hK => ?_
  unfold Oper.wp execOp
  simp only [ho, Instr.alloc, Sem.run_bind, zero_rp, Result.andThen_ok]
  exact hK _ _ h
theorem ldw_rp (hw : Region.wanted op (yielded ops a.tmps) = true) (x : Operand) (ho : op.op = .load 68 x) (b o : Nat) (hx : a.eval x = .pointer (some ⟨b, o, none⟩)) (p : Sup) (hp : p.u.length = 30) (hc : w.rangeAt b o (sv p))
    (h : wpList Tryd.prog ops Q rest (a.put op.dst (.agg (sv p).toArray)) w) : wpList Tryd.prog ops Q (op :: rest) a w :=
  wpList_want hw fun _ hK => wp_load_mid 68 x ho b o hx (sv p) _ hc Tryd.underlying68 rfl (szof_rp hp) (hK _ _ h)
end
theorem build_sp (g r : Int) (u : Pg) (hu : u.length = 30) (w : World) : (Instr.build 72 #[(0, .int .u32 g), (1, .int .i64 r), (2, .agg (pv u).toArray)]).run Tryd.prog w = .ok (.agg (sv ⟨g, r, u⟩).toArray) w := by
  exact run_build (P := Tryd.prog) w 72 #[(0, .int .u32 g), (1, .int .i64 r), (2, .agg (pv u).toArray)] _ (by rw [built_sp]; exact fill_sup g r u hu)
theorem build_rp (g r : Int) (u : Pg) (hu : u.length = 30) (w : World) : (Instr.build 68 #[(0, .int .u32 g), (1, .int .i64 r), (2, .agg (pv u).toArray)]).run Tryd.prog w = .ok (.agg (sv ⟨g, r, u⟩).toArray) w :=
  run_build (P := Tryd.prog) w 68 #[(0, .int .u32 g), (1, .int .i64 r), (2, .agg (pv u).toArray)] _ (by rw [built_rp]; exact fill_sup g r u hu)
theorem blt_sp (g r : Int) (u : Pg) (hu : u.length = 30) : Tryd.prog.built 72 [(0, .int .u32 g), (1, .int .i64 r), (2, .agg (pv u).toArray)] = some (sv ⟨g, r, u⟩).toArray := by rw [built_sp]; exact fill_sup g r u hu
theorem blt_rp (g r : Int) (u : Pg) (hu : u.length = 30) : Tryd.prog.built 68 [(0, .int .u32 g), (1, .int .i64 r), (2, .agg (pv u).toArray)] = some (sv ⟨g, r, u⟩).toArray := by rw [built_rp]; exact fill_sup g r u hu
theorem at_bd {P : Program} {ops : Array Oper} {rest : List Oper} {a : Act} {w : World} (ty : TypeId) {ps : Array (Nat × Operand)} {Q : Exit → Act → World → Prop} {d : Option Tmp} {t : TypeId} {s : String} {f : Array Edge} {g : Option (Nat × Bool)} (h : wpList P ops Q (⟨d, .build ty ps, t, s, f, g⟩ :: rest) a w) : wpList P ops Q (⟨d, .build ty ps, t, s, f, g⟩ :: rest) a w := h
theorem run_bd_sp {op : Oper} {a : Act} (x y z : Operand) (ho : op.op = .build 72 #[(0, x), (1, y), (2, z)]) (g r : Int) (u : Pg) (hu : u.length = 30) (hx : a.eval x = .int .u32 g) (hy : a.eval y = .int .i64 r) (hz : a.eval z = .agg (pv u).toArray) (w : World) :
    (execOp a.eval op).run Tryd.prog w = .ok (.value (.agg (sv ⟨g, r, u⟩).toArray)) w := by
  have hb := build_sp g r u hu w
  unfold execOp
  simp only [ho, Sem.run_bind, List.map_toArray, List.map_cons, List.map_nil, hx, hy, hz, hb, Result.andThen_ok, Sem.run_pure]
theorem bd_sp {ops : Array Oper} {rest : List Oper} {op : Oper} {a : Act} {w : World} {Q : Exit → Act → World → Prop} (hgd : op.guard = none) (x y z : Operand) (ho : op.op = .build 72 #[(0, x), (1, y), (2, z)]) (g r : Int) (u : Pg) (hu : u.length = 30) (hx : a.eval x = .int .u32 g) (hy : a.eval y = .int .i64 r) (hz : a.eval z = .agg (pv u).toArray)
    (h : wpList Tryd.prog ops Q rest (a.put op.dst (.agg (sv ⟨g, r, u⟩).toArray)) w) : wpList Tryd.prog ops Q (op :: rest) a w := by
  refine wpList_plain hgd fun K hK => ?_
  unfold Oper.wp
  rw [run_bd_sp x y z ho g r u hu hx hy hz w]
  exact hK _ _ h
theorem run_bd_rp {op : Oper} {a : Act} (x y z : Operand) (ho : op.op = .build 68 #[(0, x), (1, y), (2, z)]) (g r : Int) (u : Pg) (hu : u.length = 30) (hx : a.eval x = .int .u32 g) (hy : a.eval y = .int .i64 r) (hz : a.eval z = .agg (pv u).toArray) (w : World) :
    (execOp a.eval op).run Tryd.prog w = .ok (.value (.agg (sv ⟨g, r, u⟩).toArray)) w := by
  have hb := build_rp g r u hu w
  unfold execOp
  simp only [ho, Sem.run_bind, List.map_toArray, List.map_cons, List.map_nil, hx, hy, hz, hb, Result.andThen_ok, Sem.run_pure]
theorem bd_rp {ops : Array Oper} {rest : List Oper} {op : Oper} {a : Act} {w : World} {Q : Exit → Act → World → Prop} (hgd : op.guard = none) (x y z : Operand) (ho : op.op = .build 68 #[(0, x), (1, y), (2, z)]) (g r : Int) (u : Pg) (hu : u.length = 30) (hx : a.eval x = .int .u32 g) (hy : a.eval y = .int .i64 r) (hz : a.eval z = .agg (pv u).toArray)
    (h : wpList Tryd.prog ops Q rest (a.put op.dst (.agg (sv ⟨g, r, u⟩).toArray)) w) : wpList Tryd.prog ops Q (op :: rest) a w := by
  refine wpList_plain hgd fun K hK => ?_
  unfold Oper.wp
  rw [run_bd_rp x y z ho g r u hu hx hy hz w]
  exact hK _ _ h
end Go.Proofs.YtmnkgcgmbdkjaaaDoor
namespace Go.Proofs.YtmnkgcgmbdkjaaaDoor
open Go.RowKit Go.Extern.Stop Go.Stop Go.Extern Go.Proofs.YtmnkgcgmbdkjaaaDoorW.PrintWords Go.Proofs.YtmnkgcgmbdkjaaaDoorW.PrintLast Go.Proofs.YtmnkgcgmbdkjaaaDoorW.PrintMore Go.Proofs.YtmnkgcgmbdkjaaaDoor.PSuperPlays
set_option linter.unusedVariables false
set_option linter.unusedSimpArgs false

/-- is the root one that may be? -/
def rootB (s : Sup) : Bool := decide (s.r = 0) || (decide (2 ≤ s.r) && hasB s.u s.r)
def rightB (s : Sup) : Bool := decide (0 < s.g) && rootB s && !hasB s.u 0 && !hasB s.u 1
/-- a superblock's data -/
def layU (s : Sup) : ByteArray := putB 4 s.g ++ putB 1 s.r ++ strP s.u
/-- the superblock of 35 bytes -/
def supOf (d : ByteArray) : Sup := ⟨getK d 4, bt d 4, d.data.toList.drop 5⟩
def okU (d : ByteArray) : Bool := decide (d.size = 35) && rightB (supOf d)
def readU (d : ByteArray) : Sup := if okU d = true then supOf d else sup0
/-- numbers that a superblock can have -/
structure Sup.Fits (s : Sup) : Prop where
  l : s.u.length = 30
  g0 : 0 ≤ s.g
  g1 : s.g ≤ 4294967295
theorem right_root {s : Sup} (h : rightB s = true) : 0 ≤ s.r ∧ s.r < 240 := by
  unfold rightB rootB at h
  simp only [Bool.and_eq_true, Bool.or_eq_true, decide_eq_true_eq] at h
  obtain ⟨⟨⟨_, h⟩, _⟩, _⟩ := h
  rcases h with h | ⟨_, h⟩
  · omega
  · exact hasB_may h
theorem right_gen {s : Sup} (h : rightB s = true) : 0 < s.g := by
  unfold rightB at h
  simp only [Bool.and_eq_true, decide_eq_true_eq] at h
  exact h.1.1.1
theorem put1 (n : Int) (h0 : 0 ≤ n) (h1 : n ≤ 255) : putB 1 n = strP [b8 n] := by
  have hf : fitsB 1 n = true := by
    simp only [fitsB, decide_eq_true_eq]
    have e : (256 : Int) ^ (1 : Int).toNat = 256 := by decide
    rw [e]; omega
  unfold putB; rw [if_pos hf]
  unfold putL; rw [if_pos rfl]
  apply ByteArray.ext
  have e : n % 256 % 256 = n % 256 := by omega
  simp [strOfNums, strP, b8, e]
theorem gen_fits {s : Sup} (h : s.Fits) : fitsB 4 s.g = true := by
  have := h.g0; have := h.g1
  simp only [fitsB, decide_eq_true_eq]
  have e : (256 : Int) ^ (4 : Int).toNat = 4294967296 := by decide
  rw [e]; omega
theorem root_fits {s : Sup} (h : rightB s = true) : fitsB 1 s.r = true := by
  have := right_root h
  simp only [fitsB, decide_eq_true_eq]
  have e : (256 : Int) ^ (1 : Int).toNat = 256 := by decide
  rw [e]; omega
theorem gen_size {s : Sup} (h : s.Fits) : (putB 4 s.g).size = 4 := by have := putB_size (gen_fits h); omega
theorem root_size {s : Sup} (h : rightB s = true) : (putB 1 s.r).size = 1 := by have := putB_size (root_fits h); omega
theorem layU_list {s : Sup} (h : s.Fits) (hr : rightB s = true) : (layU s).data.toList = (putB 4 s.g).data.toList ++ b8 s.r :: s.u := by
  have := right_root hr
  unfold layU; rw [put1 s.r (by omega) (by omega)]
  simp [strP]
theorem layU_size {s : Sup} (h : s.Fits) (hr : rightB s = true) : (layU s).size = 35 := by
  have hz := gen_size h
  have hl := h.l
  rw [← list_size, layU_list h hr, List.length_append, list_size, hz]
  simp; omega
theorem supOf_lay {s : Sup} (h : s.Fits) (hr : rightB s = true) : supOf (layU s) = s := by
  have hz := gen_size h
  have hz2 := layU_size h hr
  have hrt := right_root hr
  have hll := layU_list h hr
  have hgl : (putB 4 s.g).data.toList.length = 4 := by rw [list_size, hz]
  have e1 : getK (layU s) 4 = s.g := by
    unfold layU
    rw [ByteArray.append_assoc]
    exact getK_put (gen_fits h) _
  have e2 : bt (layU s) 4 = s.r := by
    have := bt_list (layU s).data.toList 4 (b8 s.r) (by rw [hll, List.getElem?_append_right (by omega), hgl]; rfl)
    rw [strP_data] at this
    have k : ((b8 s.r).toNat : Int) = s.r := b8_nat (by omega) (by omega)
    rw [← k]; exact this
  have e3 : (layU s).data.toList.drop 5 = s.u := by
    rw [hll, List.drop_append, List.drop_of_length_le (by omega), hgl]
    rfl
  unfold supOf
  rw [e1, e2, e3]
theorem okU_lay {s : Sup} (h : s.Fits) (hr : rightB s = true) : okU (layU s) = true := by
  unfold okU; rw [layU_size h hr, supOf_lay h hr, hr]; rfl
theorem readU_lay {s : Sup} (h : s.Fits) (hr : rightB s = true) : readU (layU s) = s := by
  unfold readU; rw [if_pos (okU_lay h hr), supOf_lay h hr]
theorem layU_inj {s t : Sup} (h : s.Fits) (hr : rightB s = true) (h2 : t.Fits) (hr2 : rightB t = true) : layU s = layU t ↔ s = t :=
  ⟨fun e => by rw [← supOf_lay h hr, e, supOf_lay h2 hr2], fun e => by rw [e]⟩
theorem supOf_fits {d : ByteArray} (h : d.size = 35) : (supOf d).Fits := by
  have hr := getK_range d 4
  refine ⟨?_, hr.1, ?_⟩
  · show (d.data.toList.drop 5).length = 30
    rw [List.length_drop, list_size, h]
  · have e : (256 : Int) ^ 4 = 4294967296 := by decide
    have := hr.2
    rw [e] at this
    show getK d 4 ≤ 4294967295
    omega
theorem sup0_fits : sup0.Fits := ⟨sup0_l, Int.le_refl _, by decide⟩
theorem okU_iff {d : ByteArray} : okU d = true ↔ d.size = 35 ∧ rightB (supOf d) = true := by
  unfold okU; rw [Bool.and_eq_true, decide_eq_true_eq]
theorem readU_fits (d : ByteArray) : (readU d).Fits := by
  unfold readU
  split
  · rename_i h; exact supOf_fits (okU_iff.1 h).1
  · exact sup0_fits
theorem readU_right {d : ByteArray} (h : okU d = true) : rightB (readU d) = true := by
  unfold readU; rw [if_pos h]; exact (okU_iff.1 h).2
theorem readU_bad {d : ByteArray} (h : okU d = false) : readU d = sup0 := by unfold readU; rw [if_neg (by rw [h]; decide)]
end Go.Proofs.YtmnkgcgmbdkjaaaDoor
namespace Go.Proofs.YtmnkgcgmbdkjaaaDoor
open Go.RowKit Go.Extern.Stop Go.Stop Go.Extern Go.Proofs.YtmnkgcgmbdkjaaaDoorW.PrintWords Go.Proofs.YtmnkgcgmbdkjaaaDoorW.PrintLast Go.Proofs.YtmnkgcgmbdkjaaaDoorW.PrintMore Go.Proofs.YtmnkgcgmbdkjaaaDoor.PSuperPlays
set_option linter.unusedVariables false
set_option linter.unusedSimpArgs false
set_option maxHeartbeats 2000000 in
set_option maxRecDepth 100000 in
theorem right_t_f (s : Sup) (hl : s.u.length = 30) (a : decide (s.r = 0) = true) (d : decide (0 < s.g) = false)  (w : World) : Calls Tryd.prog 44 #[.agg (sv s).toArray] w fun e w' => e = .returned (.bool (rightB s)) ∧ Below w.heap.size w w' := by
  have HRES : Hid (rightB s = false) := Lib.hid (by unfold rightB rootB; rw [d, a]; rfl)
  have ha : (s.r == 0) = true := by simpa using a
  clear a
  have HL := Lib.hid hl
  clear hl
  have hs1 := SupAt.new w 72 s HL.out
  have hb1 : Below w.heap.size w (w.alloc (.cells (sv s).toArray 72)) := (Below.refl _ _).alloc (Nat.le_refl _) _
  go_enter Tryd.func44, Tryd.ntmps44
  go_upto_region 1 with fail
  obtain ⟨w1, hw1⟩ : ∃ q, q = w.alloc (.cells (sv s).toArray 72) := ⟨_, rfl⟩
  rw [← hw1] at hs1 hb1 ⊢
  clear hw1
  have HS1 := Lib.hid hs1
  have HB1 := Lib.hid hb1
  clear hs1 hb1
  have cg := HS1.out.gen
  have cr := HS1.out.root
  go_wp2_with fail
  go_ret
  exact ⟨by rw [HRES.out]; rfl, HB1.out⟩
set_option maxHeartbeats 2000000 in
set_option maxRecDepth 100000 in
theorem right_t_tt (s : Sup) (hl : s.u.length = 30) (a : decide (s.r = 0) = true) (d : decide (0 < s.g) = true) (h0 : hasB s.u 0 = true)  (w : World) : Calls Tryd.prog 44 #[.agg (sv s).toArray] w fun e w' => e = .returned (.bool (rightB s)) ∧ Below w.heap.size w w' := by
  have HRES : Hid (rightB s = false) := Lib.hid (by unfold rightB rootB; rw [d, a, h0]; rfl)
  have ha : (s.r == 0) = true := by simpa using a
  have HH0 := Lib.hid h0
  clear a h0
  have HL := Lib.hid hl
  clear hl
  have hs1 := SupAt.new w 72 s HL.out
  have hb1 : Below w.heap.size w (w.alloc (.cells (sv s).toArray 72)) := (Below.refl _ _).alloc (Nat.le_refl _) _
  go_enter Tryd.func44, Tryd.ntmps44
  go_upto_region 1 with fail
  obtain ⟨w1, hw1⟩ : ∃ q, q = w.alloc (.cells (sv s).toArray 72) := ⟨_, rfl⟩
  rw [← hw1] at hs1 hb1 ⊢
  clear hw1
  have HS1 := Lib.hid hs1
  have HB1 := Lib.hid hb1
  clear hs1 hb1
  have cg := HS1.out.gen
  have cr := HS1.out.root
  go_wp2_with (first | ((with_reducible refine at_ld 70 (.tmp 26) ?_); refine ldw_bs (by first | rfl | go_simp) (.tmp 26) rfl w.heap.size (2) rfl s.u ?_ ?_ ?_; exact HL.out; exact HS1.out.used))
  refine (has_any s.u HL.out 0 _).mono ?_
  rintro e w2 ⟨rfl, hb⟩
  rw [HH0.out]
  have HS2 := Lib.hid (HS1.out.under hb HS1.out.lt)
  have HB2 := Lib.hid (HB1.out.trans (hb.mono HB1.out.size))
  clear hb
  clear cg cr
  have cg := HS2.out.gen
  have cr := HS2.out.root
  go_wp2_with fail
  go_ret
  exact ⟨by rw [HRES.out]; rfl, HB2.out⟩
set_option maxHeartbeats 2000000 in
set_option maxRecDepth 100000 in
theorem right_t_tf (s : Sup) (hl : s.u.length = 30) (a : decide (s.r = 0) = true) (d : decide (0 < s.g) = true) (h0 : hasB s.u 0 = false)  (w : World) : Calls Tryd.prog 44 #[.agg (sv s).toArray] w fun e w' => e = .returned (.bool (rightB s)) ∧ Below w.heap.size w w' := by
  have HRES : Hid (rightB s = !hasB s.u 1) := Lib.hid (by unfold rightB rootB; rw [d, a, h0]; simp)
  have ha : (s.r == 0) = true := by simpa using a
  have HH0 := Lib.hid h0
  clear a h0
  have HL := Lib.hid hl
  clear hl
  have hs1 := SupAt.new w 72 s HL.out
  have hb1 : Below w.heap.size w (w.alloc (.cells (sv s).toArray 72)) := (Below.refl _ _).alloc (Nat.le_refl _) _
  go_enter Tryd.func44, Tryd.ntmps44
  go_upto_region 1 with fail
  obtain ⟨w1, hw1⟩ : ∃ q, q = w.alloc (.cells (sv s).toArray 72) := ⟨_, rfl⟩
  rw [← hw1] at hs1 hb1 ⊢
  clear hw1
  have HS1 := Lib.hid hs1
  have HB1 := Lib.hid hb1
  clear hs1 hb1
  have cg := HS1.out.gen
  have cr := HS1.out.root
  go_wp2_with (first | ((with_reducible refine at_ld 70 (.tmp 26) ?_); refine ldw_bs (by first | rfl | go_simp) (.tmp 26) rfl w.heap.size (2) rfl s.u ?_ ?_ ?_; exact HL.out; exact HS1.out.used))
  refine (has_any s.u HL.out 0 _).mono ?_
  rintro e w2 ⟨rfl, hb⟩
  rw [HH0.out]
  have HS2 := Lib.hid (HS1.out.under hb HS1.out.lt)
  have HB2 := Lib.hid (HB1.out.trans (hb.mono HB1.out.size))
  clear hb
  clear cg cr
  have cg := HS2.out.gen
  have cr := HS2.out.root
  go_wp2_with (first | ((with_reducible refine at_ld 70 (.tmp 32) ?_); refine ldw_bs (by first | rfl | go_simp) (.tmp 32) rfl w.heap.size (2) rfl s.u ?_ ?_ ?_; exact HL.out; exact HS2.out.used))
  refine (has_any s.u HL.out 1 _).mono ?_
  rintro e w3 ⟨rfl, hb⟩
  have HS3 := Lib.hid (HS2.out.under hb HS2.out.lt)
  have HB3 := Lib.hid (HB2.out.trans (hb.mono HB2.out.size))
  clear hb
  clear cg cr
  have cg := HS3.out.gen
  have cr := HS3.out.root
  go_wp2_with fail
  go_ret
  exact ⟨by rw [HRES.out]; rfl, HB3.out⟩
set_option maxHeartbeats 2000000 in
set_option maxRecDepth 100000 in
theorem right_ftt_f (s : Sup) (hl : s.u.length = 30) (a : decide (s.r = 0) = false) (b : decide (2 ≤ s.r) = true) (c : hasB s.u s.r = true) (d : decide (0 < s.g) = false)  (w : World) : Calls Tryd.prog 44 #[.agg (sv s).toArray] w fun e w' => e = .returned (.bool (rightB s)) ∧ Below w.heap.size w w' := by
  have HRES : Hid (rightB s = false) := Lib.hid (by unfold rightB rootB; rw [d, a, b, c]; rfl)
  have ha : (s.r == 0) = false := by simpa using a
  have HC := Lib.hid c
  clear a c
  have HL := Lib.hid hl
  clear hl
  have hs1 := SupAt.new w 72 s HL.out
  have hb1 : Below w.heap.size w (w.alloc (.cells (sv s).toArray 72)) := (Below.refl _ _).alloc (Nat.le_refl _) _
  go_enter Tryd.func44, Tryd.ntmps44
  go_upto_region 1 with fail
  obtain ⟨w1, hw1⟩ : ∃ q, q = w.alloc (.cells (sv s).toArray 72) := ⟨_, rfl⟩
  rw [← hw1] at hs1 hb1 ⊢
  clear hw1
  have HS1 := Lib.hid hs1
  have HB1 := Lib.hid hb1
  clear hs1 hb1
  have cg := HS1.out.gen
  have cr := HS1.out.root
  go_wp2_with (first | ((with_reducible refine at_ld 70 (.tmp 12) ?_); refine ldw_bs (by first | rfl | go_simp) (.tmp 12) rfl w.heap.size (2) rfl s.u ?_ ?_ ?_; exact HL.out; exact HS1.out.used))
  refine (has_any s.u HL.out _ _).mono ?_
  rintro e w2 ⟨rfl, hb⟩
  rw [HC.out]
  have HS2 := Lib.hid (HS1.out.under hb HS1.out.lt)
  have HB2 := Lib.hid (HB1.out.trans (hb.mono HB1.out.size))
  clear hb
  clear cg cr
  have cg := HS2.out.gen
  have cr := HS2.out.root
  go_wp2_with fail
  go_ret
  exact ⟨by rw [HRES.out]; rfl, HB2.out⟩
set_option maxHeartbeats 2000000 in
set_option maxRecDepth 100000 in
theorem right_ftt_tt (s : Sup) (hl : s.u.length = 30) (a : decide (s.r = 0) = false) (b : decide (2 ≤ s.r) = true) (c : hasB s.u s.r = true) (d : decide (0 < s.g) = true) (h0 : hasB s.u 0 = true)  (w : World) : Calls Tryd.prog 44 #[.agg (sv s).toArray] w fun e w' => e = .returned (.bool (rightB s)) ∧ Below w.heap.size w w' := by
  have HRES : Hid (rightB s = false) := Lib.hid (by unfold rightB rootB; rw [d, a, b, c, h0]; rfl)
  have ha : (s.r == 0) = false := by simpa using a
  have HC := Lib.hid c
  have HH0 := Lib.hid h0
  clear a c h0
  have HL := Lib.hid hl
  clear hl
  have hs1 := SupAt.new w 72 s HL.out
  have hb1 : Below w.heap.size w (w.alloc (.cells (sv s).toArray 72)) := (Below.refl _ _).alloc (Nat.le_refl _) _
  go_enter Tryd.func44, Tryd.ntmps44
  go_upto_region 1 with fail
  obtain ⟨w1, hw1⟩ : ∃ q, q = w.alloc (.cells (sv s).toArray 72) := ⟨_, rfl⟩
  rw [← hw1] at hs1 hb1 ⊢
  clear hw1
  have HS1 := Lib.hid hs1
  have HB1 := Lib.hid hb1
  clear hs1 hb1
  have cg := HS1.out.gen
  have cr := HS1.out.root
  go_wp2_with (first | ((with_reducible refine at_ld 70 (.tmp 12) ?_); refine ldw_bs (by first | rfl | go_simp) (.tmp 12) rfl w.heap.size (2) rfl s.u ?_ ?_ ?_; exact HL.out; exact HS1.out.used))
  refine (has_any s.u HL.out _ _).mono ?_
  rintro e w2 ⟨rfl, hb⟩
  rw [HC.out]
  have HS2 := Lib.hid (HS1.out.under hb HS1.out.lt)
  have HB2 := Lib.hid (HB1.out.trans (hb.mono HB1.out.size))
  clear hb
  clear cg cr
  have cg := HS2.out.gen
  have cr := HS2.out.root
  go_wp2_with (first | ((with_reducible refine at_ld 70 (.tmp 26) ?_); refine ldw_bs (by first | rfl | go_simp) (.tmp 26) rfl w.heap.size (2) rfl s.u ?_ ?_ ?_; exact HL.out; exact HS2.out.used))
  refine (has_any s.u HL.out 0 _).mono ?_
  rintro e w3 ⟨rfl, hb⟩
  rw [HH0.out]
  have HS3 := Lib.hid (HS2.out.under hb HS2.out.lt)
  have HB3 := Lib.hid (HB2.out.trans (hb.mono HB2.out.size))
  clear hb
  clear cg cr
  have cg := HS3.out.gen
  have cr := HS3.out.root
  go_wp2_with fail
  go_ret
  exact ⟨by rw [HRES.out]; rfl, HB3.out⟩
set_option maxHeartbeats 2000000 in
set_option maxRecDepth 100000 in
theorem right_ftt_tf (s : Sup) (hl : s.u.length = 30) (a : decide (s.r = 0) = false) (b : decide (2 ≤ s.r) = true) (c : hasB s.u s.r = true) (d : decide (0 < s.g) = true) (h0 : hasB s.u 0 = false)  (w : World) : Calls Tryd.prog 44 #[.agg (sv s).toArray] w fun e w' => e = .returned (.bool (rightB s)) ∧ Below w.heap.size w w' := by
  have HRES : Hid (rightB s = !hasB s.u 1) := Lib.hid (by unfold rightB rootB; rw [d, a, b, c, h0]; simp)
  have ha : (s.r == 0) = false := by simpa using a
  have HC := Lib.hid c
  have HH0 := Lib.hid h0
  clear a c h0
  have HL := Lib.hid hl
  clear hl
  have hs1 := SupAt.new w 72 s HL.out
  have hb1 : Below w.heap.size w (w.alloc (.cells (sv s).toArray 72)) := (Below.refl _ _).alloc (Nat.le_refl _) _
  go_enter Tryd.func44, Tryd.ntmps44
  go_upto_region 1 with fail
  obtain ⟨w1, hw1⟩ : ∃ q, q = w.alloc (.cells (sv s).toArray 72) := ⟨_, rfl⟩
  rw [← hw1] at hs1 hb1 ⊢
  clear hw1
  have HS1 := Lib.hid hs1
  have HB1 := Lib.hid hb1
  clear hs1 hb1
  have cg := HS1.out.gen
  have cr := HS1.out.root
  go_wp2_with (first | ((with_reducible refine at_ld 70 (.tmp 12) ?_); refine ldw_bs (by first | rfl | go_simp) (.tmp 12) rfl w.heap.size (2) rfl s.u ?_ ?_ ?_; exact HL.out; exact HS1.out.used))
  refine (has_any s.u HL.out _ _).mono ?_
  rintro e w2 ⟨rfl, hb⟩
  rw [HC.out]
  have HS2 := Lib.hid (HS1.out.under hb HS1.out.lt)
  have HB2 := Lib.hid (HB1.out.trans (hb.mono HB1.out.size))
  clear hb
  clear cg cr
  have cg := HS2.out.gen
  have cr := HS2.out.root
  go_wp2_with (first | ((with_reducible refine at_ld 70 (.tmp 26) ?_); refine ldw_bs (by first | rfl | go_simp) (.tmp 26) rfl w.heap.size (2) rfl s.u ?_ ?_ ?_; exact HL.out; exact HS2.out.used))
  refine (has_any s.u HL.out 0 _).mono ?_
  rintro e w3 ⟨rfl, hb⟩
  rw [HH0.out]
  have HS3 := Lib.hid (HS2.out.under hb HS2.out.lt)
  have HB3 := Lib.hid (HB2.out.trans (hb.mono HB2.out.size))
  clear hb
  clear cg cr
  have cg := HS3.out.gen
  have cr := HS3.out.root
  go_wp2_with (first | ((with_reducible refine at_ld 70 (.tmp 32) ?_); refine ldw_bs (by first | rfl | go_simp) (.tmp 32) rfl w.heap.size (2) rfl s.u ?_ ?_ ?_; exact HL.out; exact HS3.out.used))
  refine (has_any s.u HL.out 1 _).mono ?_
  rintro e w4 ⟨rfl, hb⟩
  have HS4 := Lib.hid (HS3.out.under hb HS3.out.lt)
  have HB4 := Lib.hid (HB3.out.trans (hb.mono HB3.out.size))
  clear hb
  clear cg cr
  have cg := HS4.out.gen
  have cr := HS4.out.root
  go_wp2_with fail
  go_ret
  exact ⟨by rw [HRES.out]; rfl, HB4.out⟩
set_option maxHeartbeats 2000000 in
set_option maxRecDepth 100000 in
theorem right_ftf_f (s : Sup) (hl : s.u.length = 30) (a : decide (s.r = 0) = false) (b : decide (2 ≤ s.r) = true) (c : hasB s.u s.r = false) (d : decide (0 < s.g) = false)  (w : World) : Calls Tryd.prog 44 #[.agg (sv s).toArray] w fun e w' => e = .returned (.bool (rightB s)) ∧ Below w.heap.size w w' := by
  have HRES : Hid (rightB s = false) := Lib.hid (by unfold rightB rootB; rw [d, a, b, c]; rfl)
  have ha : (s.r == 0) = false := by simpa using a
  have HC := Lib.hid c
  clear a c
  have HL := Lib.hid hl
  clear hl
  have hs1 := SupAt.new w 72 s HL.out
  have hb1 : Below w.heap.size w (w.alloc (.cells (sv s).toArray 72)) := (Below.refl _ _).alloc (Nat.le_refl _) _
  go_enter Tryd.func44, Tryd.ntmps44
  go_upto_region 1 with fail
  obtain ⟨w1, hw1⟩ : ∃ q, q = w.alloc (.cells (sv s).toArray 72) := ⟨_, rfl⟩
  rw [← hw1] at hs1 hb1 ⊢
  clear hw1
  have HS1 := Lib.hid hs1
  have HB1 := Lib.hid hb1
  clear hs1 hb1
  have cg := HS1.out.gen
  have cr := HS1.out.root
  go_wp2_with (first | ((with_reducible refine at_ld 70 (.tmp 12) ?_); refine ldw_bs (by first | rfl | go_simp) (.tmp 12) rfl w.heap.size (2) rfl s.u ?_ ?_ ?_; exact HL.out; exact HS1.out.used))
  refine (has_any s.u HL.out _ _).mono ?_
  rintro e w2 ⟨rfl, hb⟩
  rw [HC.out]
  have HS2 := Lib.hid (HS1.out.under hb HS1.out.lt)
  have HB2 := Lib.hid (HB1.out.trans (hb.mono HB1.out.size))
  clear hb
  clear cg cr
  have cg := HS2.out.gen
  have cr := HS2.out.root
  go_wp2_with fail
  go_ret
  exact ⟨by rw [HRES.out]; rfl, HB2.out⟩
set_option maxHeartbeats 2000000 in
set_option maxRecDepth 100000 in
theorem right_ftf_t (s : Sup) (hl : s.u.length = 30) (a : decide (s.r = 0) = false) (b : decide (2 ≤ s.r) = true) (c : hasB s.u s.r = false) (d : decide (0 < s.g) = true)  (w : World) : Calls Tryd.prog 44 #[.agg (sv s).toArray] w fun e w' => e = .returned (.bool (rightB s)) ∧ Below w.heap.size w w' := by
  have HRES : Hid (rightB s = false) := Lib.hid (by unfold rightB rootB; rw [d, a, b, c]; rfl)
  have ha : (s.r == 0) = false := by simpa using a
  have HC := Lib.hid c
  clear a c
  have HL := Lib.hid hl
  clear hl
  have hs1 := SupAt.new w 72 s HL.out
  have hb1 : Below w.heap.size w (w.alloc (.cells (sv s).toArray 72)) := (Below.refl _ _).alloc (Nat.le_refl _) _
  go_enter Tryd.func44, Tryd.ntmps44
  go_upto_region 1 with fail
  obtain ⟨w1, hw1⟩ : ∃ q, q = w.alloc (.cells (sv s).toArray 72) := ⟨_, rfl⟩
  rw [← hw1] at hs1 hb1 ⊢
  clear hw1
  have HS1 := Lib.hid hs1
  have HB1 := Lib.hid hb1
  clear hs1 hb1
  have cg := HS1.out.gen
  have cr := HS1.out.root
  go_wp2_with (first | ((with_reducible refine at_ld 70 (.tmp 12) ?_); refine ldw_bs (by first | rfl | go_simp) (.tmp 12) rfl w.heap.size (2) rfl s.u ?_ ?_ ?_; exact HL.out; exact HS1.out.used))
  refine (has_any s.u HL.out _ _).mono ?_
  rintro e w2 ⟨rfl, hb⟩
  rw [HC.out]
  have HS2 := Lib.hid (HS1.out.under hb HS1.out.lt)
  have HB2 := Lib.hid (HB1.out.trans (hb.mono HB1.out.size))
  clear hb
  clear cg cr
  have cg := HS2.out.gen
  have cr := HS2.out.root
  go_wp2_with fail
  go_ret
  exact ⟨by rw [HRES.out]; rfl, HB2.out⟩
set_option maxHeartbeats 2000000 in
set_option maxRecDepth 100000 in
theorem right_ff_f (s : Sup) (hl : s.u.length = 30) (a : decide (s.r = 0) = false) (b : decide (2 ≤ s.r) = false) (d : decide (0 < s.g) = false)  (w : World) : Calls Tryd.prog 44 #[.agg (sv s).toArray] w fun e w' => e = .returned (.bool (rightB s)) ∧ Below w.heap.size w w' := by
  have HRES : Hid (rightB s = false) := Lib.hid (by unfold rightB rootB; rw [d, a, b]; rfl)
  have ha : (s.r == 0) = false := by simpa using a
  clear a
  have HL := Lib.hid hl
  clear hl
  have hs1 := SupAt.new w 72 s HL.out
  have hb1 : Below w.heap.size w (w.alloc (.cells (sv s).toArray 72)) := (Below.refl _ _).alloc (Nat.le_refl _) _
  go_enter Tryd.func44, Tryd.ntmps44
  go_upto_region 1 with fail
  obtain ⟨w1, hw1⟩ : ∃ q, q = w.alloc (.cells (sv s).toArray 72) := ⟨_, rfl⟩
  rw [← hw1] at hs1 hb1 ⊢
  clear hw1
  have HS1 := Lib.hid hs1
  have HB1 := Lib.hid hb1
  clear hs1 hb1
  have cg := HS1.out.gen
  have cr := HS1.out.root
  go_wp2_with fail
  go_ret
  exact ⟨by rw [HRES.out]; rfl, HB1.out⟩
set_option maxHeartbeats 2000000 in
set_option maxRecDepth 100000 in
theorem right_ff_t (s : Sup) (hl : s.u.length = 30) (a : decide (s.r = 0) = false) (b : decide (2 ≤ s.r) = false) (d : decide (0 < s.g) = true)  (w : World) : Calls Tryd.prog 44 #[.agg (sv s).toArray] w fun e w' => e = .returned (.bool (rightB s)) ∧ Below w.heap.size w w' := by
  have HRES : Hid (rightB s = false) := Lib.hid (by unfold rightB rootB; rw [d, a, b]; rfl)
  have ha : (s.r == 0) = false := by simpa using a
  clear a
  have HL := Lib.hid hl
  clear hl
  have hs1 := SupAt.new w 72 s HL.out
  have hb1 : Below w.heap.size w (w.alloc (.cells (sv s).toArray 72)) := (Below.refl _ _).alloc (Nat.le_refl _) _
  go_enter Tryd.func44, Tryd.ntmps44
  go_upto_region 1 with fail
  obtain ⟨w1, hw1⟩ : ∃ q, q = w.alloc (.cells (sv s).toArray 72) := ⟨_, rfl⟩
  rw [← hw1] at hs1 hb1 ⊢
  clear hw1
  have HS1 := Lib.hid hs1
  have HB1 := Lib.hid hb1
  clear hs1 hb1
  have cg := HS1.out.gen
  have cr := HS1.out.root
  go_wp2_with fail
  go_ret
  exact ⟨by rw [HRES.out]; rfl, HB1.out⟩
theorem right_any (s : Sup) (hl : s.u.length = 30) (w : World) : Calls Tryd.prog 44 #[.agg (sv s).toArray] w fun e w' => e = .returned (.bool (rightB s)) ∧ Below w.heap.size w w' := by
  cases a : decide (s.r = 0)
  · cases b : decide (2 ≤ s.r)
    · cases d : decide (0 < s.g)
      · exact right_ff_f s hl a b d w
      · exact right_ff_t s hl a b d w
    · cases c : hasB s.u s.r
      · cases d : decide (0 < s.g)
        · exact right_ftf_f s hl a b c d w
        · exact right_ftf_t s hl a b c d w
      · cases d : decide (0 < s.g)
        · exact right_ftt_f s hl a b c d w
        · cases h0 : hasB s.u 0
          · exact right_ftt_tf s hl a b c d h0 w
          · exact right_ftt_tt s hl a b c d h0 w
  · cases d : decide (0 < s.g)
    · exact right_t_f s hl a d w
    · cases h0 : hasB s.u 0
      · exact right_t_tf s hl a d h0 w
      · exact right_t_tt s hl a d h0 w
set_option maxHeartbeats 2000000 in
set_option maxRecDepth 100000 in
theorem rright_t (s : Sup) (hl : s.u.length = 30) (g0 : 0 ≤ s.g) (g : decide (s.g = 0) = true)  (w : World) : Calls Tryd.prog 47 #[.agg (sv s).toArray] w fun e w' => e = .returned (.bool (rightB s)) ∧ Below w.heap.size w w' := by
  have hg : decide (0 < s.g) = false := by have := of_decide_eq_true g; simp; omega
  have HRES : Hid (rightB s = false) := Lib.hid (by unfold rightB rootB; rw [hg]; simp)
  have hgb : (s.g == 0) = true := by simpa using g
  clear g hg
  have HL := Lib.hid hl
  clear hl
  have hs1 := SupAt.new w 68 s HL.out
  have hb1 : Below w.heap.size w (w.alloc (.cells (sv s).toArray 68)) := (Below.refl _ _).alloc (Nat.le_refl _) _
  go_enter Tryd.func47, Tryd.ntmps47
  go_upto_region 1 with fail
  obtain ⟨w1, hw1⟩ : ∃ q, q = w.alloc (.cells (sv s).toArray 68) := ⟨_, rfl⟩
  rw [← hw1] at hs1 hb1 ⊢
  clear hw1
  have HS1 := Lib.hid hs1
  have HB1 := Lib.hid hb1
  clear hs1 hb1
  have cg := HS1.out.gen
  have cr := HS1.out.root
  go_wp2_with fail
  go_ret
  exact ⟨by rw [HRES.out]; rfl, HB1.out⟩
set_option maxHeartbeats 2000000 in
set_option maxRecDepth 100000 in
theorem rright_ft (s : Sup) (hl : s.u.length = 30) (g0 : 0 ≤ s.g) (g : decide (s.g = 0) = false) (h0 : hasB s.u 0 = true)  (w : World) : Calls Tryd.prog 47 #[.agg (sv s).toArray] w fun e w' => e = .returned (.bool (rightB s)) ∧ Below w.heap.size w w' := by
  have hg : decide (0 < s.g) = true := by have := of_decide_eq_false g; simp; omega
  have HRES : Hid (rightB s = false) := Lib.hid (by unfold rightB rootB; rw [hg, h0]; simp)
  have hgb : (s.g == 0) = false := by simpa using g
  have HH0 := Lib.hid h0
  clear g hg h0
  have HL := Lib.hid hl
  clear hl
  have hs1 := SupAt.new w 68 s HL.out
  have hb1 : Below w.heap.size w (w.alloc (.cells (sv s).toArray 68)) := (Below.refl _ _).alloc (Nat.le_refl _) _
  go_enter Tryd.func47, Tryd.ntmps47
  go_upto_region 1 with fail
  obtain ⟨w1, hw1⟩ : ∃ q, q = w.alloc (.cells (sv s).toArray 68) := ⟨_, rfl⟩
  rw [← hw1] at hs1 hb1 ⊢
  clear hw1
  have HS1 := Lib.hid hs1
  have HB1 := Lib.hid hb1
  clear hs1 hb1
  have cg := HS1.out.gen
  have cr := HS1.out.root
  go_wp2_with (first | ((with_reducible refine at_ld 66 (.tmp 7) ?_); refine ldw_b3 (by first | rfl | go_simp) (.tmp 7) rfl w.heap.size (2) rfl s.u ?_ ?_ ?_; exact HL.out; exact HS1.out.used))
  refine (rhas_any s.u HL.out 0 _).mono ?_
  rintro e w2 ⟨rfl, hb⟩
  rw [HH0.out]
  have HS2 := Lib.hid (HS1.out.under hb HS1.out.lt)
  have HB2 := Lib.hid (HB1.out.trans (hb.mono HB1.out.size))
  clear hb
  clear cg cr
  have cg := HS2.out.gen
  have cr := HS2.out.root
  go_wp2_with fail
  go_ret
  exact ⟨by rw [HRES.out]; rfl, HB2.out⟩
set_option maxHeartbeats 2000000 in
set_option maxRecDepth 100000 in
theorem rright_fft (s : Sup) (hl : s.u.length = 30) (g0 : 0 ≤ s.g) (g : decide (s.g = 0) = false) (h0 : hasB s.u 0 = false) (h1 : hasB s.u 1 = true)  (w : World) : Calls Tryd.prog 47 #[.agg (sv s).toArray] w fun e w' => e = .returned (.bool (rightB s)) ∧ Below w.heap.size w w' := by
  have hg : decide (0 < s.g) = true := by have := of_decide_eq_false g; simp; omega
  have HRES : Hid (rightB s = false) := Lib.hid (by unfold rightB rootB; rw [hg, h0, h1]; simp)
  have hgb : (s.g == 0) = false := by simpa using g
  have HH0 := Lib.hid h0
  have HH1 := Lib.hid h1
  clear g hg h0 h1
  have HL := Lib.hid hl
  clear hl
  have hs1 := SupAt.new w 68 s HL.out
  have hb1 : Below w.heap.size w (w.alloc (.cells (sv s).toArray 68)) := (Below.refl _ _).alloc (Nat.le_refl _) _
  go_enter Tryd.func47, Tryd.ntmps47
  go_upto_region 1 with fail
  obtain ⟨w1, hw1⟩ : ∃ q, q = w.alloc (.cells (sv s).toArray 68) := ⟨_, rfl⟩
  rw [← hw1] at hs1 hb1 ⊢
  clear hw1
  have HS1 := Lib.hid hs1
  have HB1 := Lib.hid hb1
  clear hs1 hb1
  have cg := HS1.out.gen
  have cr := HS1.out.root
  go_wp2_with (first | ((with_reducible refine at_ld 66 (.tmp 7) ?_); refine ldw_b3 (by first | rfl | go_simp) (.tmp 7) rfl w.heap.size (2) rfl s.u ?_ ?_ ?_; exact HL.out; exact HS1.out.used))
  refine (rhas_any s.u HL.out 0 _).mono ?_
  rintro e w2 ⟨rfl, hb⟩
  rw [HH0.out]
  have HS2 := Lib.hid (HS1.out.under hb HS1.out.lt)
  have HB2 := Lib.hid (HB1.out.trans (hb.mono HB1.out.size))
  clear hb
  clear cg cr
  have cg := HS2.out.gen
  have cr := HS2.out.root
  go_wp2_with (first | ((with_reducible refine at_ld 66 (.tmp 12) ?_); refine ldw_b3 (by first | rfl | go_simp) (.tmp 12) rfl w.heap.size (2) rfl s.u ?_ ?_ ?_; exact HL.out; exact HS2.out.used))
  refine (rhas_any s.u HL.out 1 _).mono ?_
  rintro e w3 ⟨rfl, hb⟩
  rw [HH1.out]
  have HS3 := Lib.hid (HS2.out.under hb HS2.out.lt)
  have HB3 := Lib.hid (HB2.out.trans (hb.mono HB2.out.size))
  clear hb
  clear cg cr
  have cg := HS3.out.gen
  have cr := HS3.out.root
  go_wp2_with fail
  go_ret
  exact ⟨by rw [HRES.out]; rfl, HB3.out⟩
set_option maxHeartbeats 2000000 in
set_option maxRecDepth 100000 in
theorem rright_ffft (s : Sup) (hl : s.u.length = 30) (g0 : 0 ≤ s.g) (g : decide (s.g = 0) = false) (h0 : hasB s.u 0 = false) (h1 : hasB s.u 1 = false) (a : decide (s.r = 0) = true)  (w : World) : Calls Tryd.prog 47 #[.agg (sv s).toArray] w fun e w' => e = .returned (.bool (rightB s)) ∧ Below w.heap.size w w' := by
  have hg : decide (0 < s.g) = true := by have := of_decide_eq_false g; simp; omega
  have HRES : Hid (rightB s = true) := Lib.hid (by unfold rightB rootB; rw [hg, h0, h1, a]; simp)
  have hgb : (s.g == 0) = false := by simpa using g
  have HH0 := Lib.hid h0
  have HH1 := Lib.hid h1
  have hab : (s.r == 0) = true := by simpa using a
  clear g hg h0 h1 a
  have HL := Lib.hid hl
  clear hl
  have hs1 := SupAt.new w 68 s HL.out
  have hb1 : Below w.heap.size w (w.alloc (.cells (sv s).toArray 68)) := (Below.refl _ _).alloc (Nat.le_refl _) _
  go_enter Tryd.func47, Tryd.ntmps47
  go_upto_region 1 with fail
  obtain ⟨w1, hw1⟩ : ∃ q, q = w.alloc (.cells (sv s).toArray 68) := ⟨_, rfl⟩
  rw [← hw1] at hs1 hb1 ⊢
  clear hw1
  have HS1 := Lib.hid hs1
  have HB1 := Lib.hid hb1
  clear hs1 hb1
  have cg := HS1.out.gen
  have cr := HS1.out.root
  go_wp2_with (first | ((with_reducible refine at_ld 66 (.tmp 7) ?_); refine ldw_b3 (by first | rfl | go_simp) (.tmp 7) rfl w.heap.size (2) rfl s.u ?_ ?_ ?_; exact HL.out; exact HS1.out.used))
  refine (rhas_any s.u HL.out 0 _).mono ?_
  rintro e w2 ⟨rfl, hb⟩
  rw [HH0.out]
  have HS2 := Lib.hid (HS1.out.under hb HS1.out.lt)
  have HB2 := Lib.hid (HB1.out.trans (hb.mono HB1.out.size))
  clear hb
  clear cg cr
  have cg := HS2.out.gen
  have cr := HS2.out.root
  go_wp2_with (first | ((with_reducible refine at_ld 66 (.tmp 12) ?_); refine ldw_b3 (by first | rfl | go_simp) (.tmp 12) rfl w.heap.size (2) rfl s.u ?_ ?_ ?_; exact HL.out; exact HS2.out.used))
  refine (rhas_any s.u HL.out 1 _).mono ?_
  rintro e w3 ⟨rfl, hb⟩
  rw [HH1.out]
  have HS3 := Lib.hid (HS2.out.under hb HS2.out.lt)
  have HB3 := Lib.hid (HB2.out.trans (hb.mono HB2.out.size))
  clear hb
  clear cg cr
  have cg := HS3.out.gen
  have cr := HS3.out.root
  go_wp2_with fail
  go_ret
  exact ⟨by rw [HRES.out]; rfl, HB3.out⟩
set_option maxHeartbeats 2000000 in
set_option maxRecDepth 100000 in
theorem rright_fffft (s : Sup) (hl : s.u.length = 30) (g0 : 0 ≤ s.g) (g : decide (s.g = 0) = false) (h0 : hasB s.u 0 = false) (h1 : hasB s.u 1 = false) (a : decide (s.r = 0) = false) (b : decide (2 ≤ s.r) = true)  (w : World) : Calls Tryd.prog 47 #[.agg (sv s).toArray] w fun e w' => e = .returned (.bool (rightB s)) ∧ Below w.heap.size w w' := by
  have hg : decide (0 < s.g) = true := by have := of_decide_eq_false g; simp; omega
  have HRES : Hid (rightB s = hasB s.u s.r) := Lib.hid (by unfold rightB rootB; rw [hg, h0, h1, a, b]; simp)
  have hgb : (s.g == 0) = false := by simpa using g
  have HH0 := Lib.hid h0
  have HH1 := Lib.hid h1
  have hab : (s.r == 0) = false := by simpa using a
  clear g hg h0 h1 a
  have HL := Lib.hid hl
  clear hl
  have hs1 := SupAt.new w 68 s HL.out
  have hb1 : Below w.heap.size w (w.alloc (.cells (sv s).toArray 68)) := (Below.refl _ _).alloc (Nat.le_refl _) _
  go_enter Tryd.func47, Tryd.ntmps47
  go_upto_region 1 with fail
  obtain ⟨w1, hw1⟩ : ∃ q, q = w.alloc (.cells (sv s).toArray 68) := ⟨_, rfl⟩
  rw [← hw1] at hs1 hb1 ⊢
  clear hw1
  have HS1 := Lib.hid hs1
  have HB1 := Lib.hid hb1
  clear hs1 hb1
  have cg := HS1.out.gen
  have cr := HS1.out.root
  go_wp2_with (first | ((with_reducible refine at_ld 66 (.tmp 7) ?_); refine ldw_b3 (by first | rfl | go_simp) (.tmp 7) rfl w.heap.size (2) rfl s.u ?_ ?_ ?_; exact HL.out; exact HS1.out.used))
  refine (rhas_any s.u HL.out 0 _).mono ?_
  rintro e w2 ⟨rfl, hb⟩
  rw [HH0.out]
  have HS2 := Lib.hid (HS1.out.under hb HS1.out.lt)
  have HB2 := Lib.hid (HB1.out.trans (hb.mono HB1.out.size))
  clear hb
  clear cg cr
  have cg := HS2.out.gen
  have cr := HS2.out.root
  go_wp2_with (first | ((with_reducible refine at_ld 66 (.tmp 12) ?_); refine ldw_b3 (by first | rfl | go_simp) (.tmp 12) rfl w.heap.size (2) rfl s.u ?_ ?_ ?_; exact HL.out; exact HS2.out.used))
  refine (rhas_any s.u HL.out 1 _).mono ?_
  rintro e w3 ⟨rfl, hb⟩
  rw [HH1.out]
  have HS3 := Lib.hid (HS2.out.under hb HS2.out.lt)
  have HB3 := Lib.hid (HB2.out.trans (hb.mono HB2.out.size))
  clear hb
  clear cg cr
  have cg := HS3.out.gen
  have cr := HS3.out.root
  go_wp2_with (first | ((with_reducible refine at_ld 66 (.tmp 24) ?_); refine ldw_b3 (by first | rfl | go_simp) (.tmp 24) rfl w.heap.size (2) rfl s.u ?_ ?_ ?_; exact HL.out; exact HS3.out.used))
  refine (rhas_any s.u HL.out _ _).mono ?_
  rintro e w4 ⟨rfl, hb⟩
  have HS4 := Lib.hid (HS3.out.under hb HS3.out.lt)
  have HB4 := Lib.hid (HB3.out.trans (hb.mono HB3.out.size))
  clear hb
  clear cg cr
  have cg := HS4.out.gen
  have cr := HS4.out.root
  go_wp2_with fail
  go_ret
  exact ⟨by rw [HRES.out]; rfl, HB4.out⟩
set_option maxHeartbeats 2000000 in
set_option maxRecDepth 100000 in
theorem rright_fffff (s : Sup) (hl : s.u.length = 30) (g0 : 0 ≤ s.g) (g : decide (s.g = 0) = false) (h0 : hasB s.u 0 = false) (h1 : hasB s.u 1 = false) (a : decide (s.r = 0) = false) (b : decide (2 ≤ s.r) = false)  (w : World) : Calls Tryd.prog 47 #[.agg (sv s).toArray] w fun e w' => e = .returned (.bool (rightB s)) ∧ Below w.heap.size w w' := by
  have hg : decide (0 < s.g) = true := by have := of_decide_eq_false g; simp; omega
  have HRES : Hid (rightB s = false) := Lib.hid (by unfold rightB rootB; rw [hg, h0, h1, a, b]; simp)
  have hgb : (s.g == 0) = false := by simpa using g
  have HH0 := Lib.hid h0
  have HH1 := Lib.hid h1
  have hab : (s.r == 0) = false := by simpa using a
  clear g hg h0 h1 a
  have HL := Lib.hid hl
  clear hl
  have hs1 := SupAt.new w 68 s HL.out
  have hb1 : Below w.heap.size w (w.alloc (.cells (sv s).toArray 68)) := (Below.refl _ _).alloc (Nat.le_refl _) _
  go_enter Tryd.func47, Tryd.ntmps47
  go_upto_region 1 with fail
  obtain ⟨w1, hw1⟩ : ∃ q, q = w.alloc (.cells (sv s).toArray 68) := ⟨_, rfl⟩
  rw [← hw1] at hs1 hb1 ⊢
  clear hw1
  have HS1 := Lib.hid hs1
  have HB1 := Lib.hid hb1
  clear hs1 hb1
  have cg := HS1.out.gen
  have cr := HS1.out.root
  go_wp2_with (first | ((with_reducible refine at_ld 66 (.tmp 7) ?_); refine ldw_b3 (by first | rfl | go_simp) (.tmp 7) rfl w.heap.size (2) rfl s.u ?_ ?_ ?_; exact HL.out; exact HS1.out.used))
  refine (rhas_any s.u HL.out 0 _).mono ?_
  rintro e w2 ⟨rfl, hb⟩
  rw [HH0.out]
  have HS2 := Lib.hid (HS1.out.under hb HS1.out.lt)
  have HB2 := Lib.hid (HB1.out.trans (hb.mono HB1.out.size))
  clear hb
  clear cg cr
  have cg := HS2.out.gen
  have cr := HS2.out.root
  go_wp2_with (first | ((with_reducible refine at_ld 66 (.tmp 12) ?_); refine ldw_b3 (by first | rfl | go_simp) (.tmp 12) rfl w.heap.size (2) rfl s.u ?_ ?_ ?_; exact HL.out; exact HS2.out.used))
  refine (rhas_any s.u HL.out 1 _).mono ?_
  rintro e w3 ⟨rfl, hb⟩
  rw [HH1.out]
  have HS3 := Lib.hid (HS2.out.under hb HS2.out.lt)
  have HB3 := Lib.hid (HB2.out.trans (hb.mono HB2.out.size))
  clear hb
  clear cg cr
  have cg := HS3.out.gen
  have cr := HS3.out.root
  go_wp2_with fail
  go_ret
  exact ⟨by rw [HRES.out]; rfl, HB3.out⟩
theorem rright_any (s : Sup) (hl : s.u.length = 30) (g0 : 0 ≤ s.g) (w : World) : Calls Tryd.prog 47 #[.agg (sv s).toArray] w fun e w' => e = .returned (.bool (rightB s)) ∧ Below w.heap.size w w' := by
  cases g : decide (s.g = 0)
  · cases h0 : hasB s.u 0
    · cases h1 : hasB s.u 1
      · cases a : decide (s.r = 0)
        · cases b : decide (2 ≤ s.r)
          · exact rright_fffff s hl g0 g h0 h1 a b w
          · exact rright_fffft s hl g0 g h0 h1 a b w
        · exact rright_ffft s hl g0 g h0 h1 a w
      · exact rright_fft s hl g0 g h0 h1 w
    · exact rright_ft s hl g0 g h0 w
  · exact rright_t s hl g0 g w
set_option maxHeartbeats 2000000 in
set_option maxRecDepth 100000 in
theorem of_any (s : Sup) (hl : s.u.length = 30) (w : World) : Calls Tryd.prog 43 #[.agg (sv s).toArray] w fun e w' => e = .returned (.agg (sv s).toArray) ∧ Below w.heap.size w w' := by
  have HL := Lib.hid hl
  have hbl := blt_sp s.g s.r s.u hl
  have hs1 := (SupAt.new w 68 s HL.out).under ((Below.refl _ _).alloc (Nat.le_refl _) (.cells (sv sup0).toArray 72)) (SupAt.new w 68 s HL.out).lt
  have hr1 := there_new (w.alloc (.cells (sv s).toArray 68)) (sv sup0).toArray 72 32 (by rw [ssz]; exact Nat.le_refl _)
  rw [show (w.alloc (.cells (sv s).toArray 68)).heap.size = w.heap.size + 1 by simp] at hr1
  have hb1 : Below w.heap.size w ((w.alloc (.cells (sv s).toArray 68)).alloc (.cells (sv sup0).toArray 72)) := ((Below.refl _ _).alloc (Nat.le_refl _) _).alloc (by simp) _
  go_enter Tryd.func43, Tryd.ntmps43
  go_upto_region 1 with (first | ((with_reducible refine at_al 72 ?_); refine al_sp rfl rfl ?_))
  obtain ⟨w1, hw1⟩ : ∃ q, q = (w.alloc (.cells (sv s).toArray 68)).alloc (.cells (sv sup0).toArray 72) := ⟨_, rfl⟩
  rw [← hw1] at hs1 hr1 hb1 ⊢
  clear hw1
  have HS1 := Lib.hid hs1
  have HR1 := Lib.hid hr1
  have HB1 := Lib.hid hb1
  have cg := hs1.gen
  have cr := hs1.root
  clear hs1 hr1 hb1 hl
  go_wp2_with (first | ((with_reducible refine at_bd 72 ?_); refine bd_sp rfl (.tmp 4) (.tmp 6) (.tmp 8) rfl s.g s.r s.u ?_ rfl rfl rfl ?_; exact HL.out) | ((with_reducible refine at_ld 66 (.tmp 7) ?_); refine ld_b3 rfl _ rfl w.heap.size (2) rfl s.u ?_ ?_ ?_; exact HL.out; exact HS1.out.used) | ((with_reducible refine at_st 72 (.tmp 2) (.tmp 9) ?_); refine st_sp rfl _ _ rfl (w.heap.size + 1) 0 rfl s ?_ rfl ?_ ?_; exact HL.out; exact HR1.out))
  have hld := run_loadVar_mid (P := Tryd.prog) (w1.setCells (w.heap.size + 1) 0 (sv s)) (w.heap.size + 1) 0 72 (sv s) _ (World.rangeAt_setCells_same w1 _ _ _ (by rw [sv_length HL.out]; exact HR1.out)) Tryd.underlying72 rfl (szof_sp HL.out)
  exact bodyPost_ret (v := .agg (sv s).toArray) (results_one Tryd.results43 _ _ _ _ rfl hld) rfl ⟨rfl, HB1.out.trans (setCells_below _ _ _ _ _ (by omega))⟩
set_option maxHeartbeats 2000000 in
set_option maxRecDepth 100000 in
theorem plain_any (s : Sup) (hl : s.u.length = 30) (w : World) : Calls Tryd.prog 46 #[.agg (sv s).toArray] w fun e w' => e = .returned (.agg (sv s).toArray) ∧ Below w.heap.size w w' := by
  have HL := Lib.hid hl
  have hbl := blt_rp s.g s.r s.u hl
  have hs1 := (SupAt.new w 72 s HL.out).under ((Below.refl _ _).alloc (Nat.le_refl _) (.cells (sv sup0).toArray 68)) (SupAt.new w 72 s HL.out).lt
  have hr1 := there_new (w.alloc (.cells (sv s).toArray 72)) (sv sup0).toArray 68 32 (by rw [ssz]; exact Nat.le_refl _)
  rw [show (w.alloc (.cells (sv s).toArray 72)).heap.size = w.heap.size + 1 by simp] at hr1
  have hb1 : Below w.heap.size w ((w.alloc (.cells (sv s).toArray 72)).alloc (.cells (sv sup0).toArray 68)) := ((Below.refl _ _).alloc (Nat.le_refl _) _).alloc (by simp) _
  go_enter Tryd.func46, Tryd.ntmps46
  go_upto_region 1 with (first | ((with_reducible refine at_al 68 ?_); refine al_rp rfl rfl ?_))
  obtain ⟨w1, hw1⟩ : ∃ q, q = (w.alloc (.cells (sv s).toArray 72)).alloc (.cells (sv sup0).toArray 68) := ⟨_, rfl⟩
  rw [← hw1] at hs1 hr1 hb1 ⊢
  clear hw1
  have HS1 := Lib.hid hs1
  have HR1 := Lib.hid hr1
  have HB1 := Lib.hid hb1
  have cg := hs1.gen
  have cr := hs1.root
  clear hs1 hr1 hb1 hl
  go_wp2_with (first | ((with_reducible refine at_bd 68 ?_); refine bd_rp rfl (.tmp 4) (.tmp 6) (.tmp 8) rfl s.g s.r s.u ?_ rfl rfl rfl ?_; exact HL.out) | ((with_reducible refine at_ld 70 (.tmp 7) ?_); refine ld_bs rfl _ rfl w.heap.size (2) rfl s.u ?_ ?_ ?_; exact HL.out; exact HS1.out.used) | ((with_reducible refine at_st 68 (.tmp 2) (.tmp 9) ?_); refine st_rp rfl _ _ rfl (w.heap.size + 1) 0 rfl s ?_ rfl ?_ ?_; exact HL.out; exact HR1.out))
  have hld := run_loadVar_mid (P := Tryd.prog) (w1.setCells (w.heap.size + 1) 0 (sv s)) (w.heap.size + 1) 0 68 (sv s) _ (World.rangeAt_setCells_same w1 _ _ _ (by rw [sv_length HL.out]; exact HR1.out)) Tryd.underlying68 rfl (szof_rp HL.out)
  exact bodyPost_ret (v := .agg (sv s).toArray) (results_one Tryd.results46 _ _ _ _ rfl hld) rfl ⟨rfl, HB1.out.trans (setCells_below _ _ _ _ _ (by omega))⟩
end Go.Proofs.YtmnkgcgmbdkjaaaDoor
namespace Go.Proofs.YtmnkgcgmbdkjaaaDoor
open Go.RowKit Go.Extern.Stop Go.Stop Go.Extern Go.Proofs.YtmnkgcgmbdkjaaaDoorW.PrintWords Go.Proofs.YtmnkgcgmbdkjaaaDoorW.PrintLast Go.Proofs.YtmnkgcgmbdkjaaaDoorW.PrintMore Go.Proofs.YtmnkgcgmbdkjaaaDoor.PSuperPlays
set_option linter.unusedVariables false
set_option linter.unusedSimpArgs false
/-- what super.Lay answers -/
def slayS (s : Sup) : ByteArray := if rightB s = true then layU s else ⟨#[]⟩
def slayC (s : Sup) : Int := if rightB s = true then 0 else 1
theorem slice30 (b : Nat) (W : World) : (Instr.sliceAt 70 (.pointer (some ⟨b, 2, none⟩)) none none none).run Tryd.prog W = .ok (.slice (some ⟨b, 2, none⟩) 30 30) W := by kernel_rfl
theorem slice30r (b : Nat) (W : World) : (Instr.sliceAt 66 (.pointer (some ⟨b, 2, none⟩)) none none none).run Tryd.prog W = .ok (.slice (some ⟨b, 2, none⟩) 30 30) W := by kernel_rfl
theorem conv30 {W : World} {b : Nat} {s : Sup} (h : SupAt W b s) : (convert 56 9 (.slice (some ⟨b, 2, none⟩) 30 30)).run Tryd.prog W = .ok (.string (strP s.u)) W := read_part 30 30 h.l h.used
theorem strP_cat (a b : Pg) : strP a ++ strP b = strP (a ++ b) := by apply ByteArray.ext; simp [strP]
set_option maxHeartbeats 2000000 in
set_option maxRecDepth 100000 in
theorem slay_no (s : Sup) (hl : s.u.length = 30) (hr : rightB s = false) (w : World) : Calls Tryd.prog 42 #[.agg (sv s).toArray] w fun e w' => ∃ v, e = .returned (.tuple #[.string ⟨#[]⟩, v]) ∧ ErrC w.heap.size w' v 1 ∧ Below w.heap.size w w' := by
  have HR := Lib.hid hr
  clear hr
  have HL := Lib.hid hl
  clear hl
  have hs1 := SupAt.new w 72 s HL.out
  have hb1 : Below w.heap.size w (w.alloc (.cells (sv s).toArray 72)) := (Below.refl _ _).alloc (Nat.le_refl _) _
  go_enter Tryd.func42, Tryd.ntmps42
  go_upto_region 1 with fail
  obtain ⟨w1, hw1⟩ : ∃ q, q = w.alloc (.cells (sv s).toArray 72) := ⟨_, rfl⟩
  rw [← hw1] at hs1 hb1 ⊢
  clear hw1
  have HS1 := Lib.hid hs1
  have HB1 := Lib.hid hb1
  clear hs1 hb1
  have cg := HS1.out.gen
  have cr := HS1.out.root
  go_wp2_with (first | ((with_reducible refine at_ld 72 (.tmp 1) ?_); refine ld_sp rfl _ rfl w.heap.size (0) rfl s ?_ ?_ ?_; exact HL.out; exact HS1.out.r))
  refine (right_any s HL.out _).mono ?_
  rintro e w2 ⟨rfl, hb⟩
  rw [HR.out]
  have HB2 := Lib.hid (HB1.out.trans (hb.mono HB1.out.size))
  clear hb cg cr
  go_wp2_with fail
  refine (Tag_err _ 1 _).mono ?_
  rintro e w3 ⟨v, rfl, he, hb⟩
  have HE := Lib.hid he
  have HB3 := Lib.hid (HB2.out.trans (hb.mono HB2.out.size))
  clear he hb
  go_wp2_with fail
  go_ret2
  exact ⟨v, rfl, HE.out.mono HB2.out.size, HB3.out⟩
set_option maxHeartbeats 2000000 in
set_option maxRecDepth 100000 in
theorem slay_ok (s : Sup) (hf : s.Fits) (hr : rightB s = true) (w : World) : Calls Tryd.prog 42 #[.agg (sv s).toArray] w fun e w' => e = .returned (.tuple #[.string (layU s), .nilIface]) ∧ Below w.heap.size w w' := by
  have hl := hf.l
  have hz4 := gen_size hf
  have hz1 := root_size hr
  have hzu : (strP s.u).size = 30 := by rw [strP_size]; exact hf.l
  have HLY : Hid (putB 4 s.g ++ putB 1 s.r ++ strP s.u = layU s) := Lib.hid rfl
  have hw4 : IntKind.i64.wrap s.g = s.g := IntWalk.i64_in _ (by have := hf.g0; have := hf.g1; omega)
  have HR := Lib.hid hr
  obtain ⟨s4, hs4⟩ : ∃ q, q = putB 4 s.g := ⟨_, rfl⟩
  obtain ⟨s1, hs1⟩ : ∃ q, q = putB 1 s.r := ⟨_, rfl⟩
  obtain ⟨su, hsu⟩ : ∃ q, q = strP s.u := ⟨_, rfl⟩
  rw [← hs4, ← hs1, ← hsu] at HLY
  rw [← hs4] at hz4
  rw [← hs1] at hz1
  rw [← hsu] at hzu
  have H4 := Lib.hid hs4
  have H1 := Lib.hid hs1
  have HU := Lib.hid hsu
  have hcat : (s4 ++ s1).size = 5 := by rw [ByteArray.size_append, hz4, hz1]
  have hsl30 := slice30
  clear hr hf hs4 hs1 hsu
  have HL := Lib.hid hl
  clear hl
  have hs1 := SupAt.new w 72 s HL.out
  have hb1 : Below w.heap.size w (w.alloc (.cells (sv s).toArray 72)) := (Below.refl _ _).alloc (Nat.le_refl _) _
  go_enter Tryd.func42, Tryd.ntmps42
  go_upto_region 1 with fail
  obtain ⟨w1, hw1⟩ : ∃ q, q = w.alloc (.cells (sv s).toArray 72) := ⟨_, rfl⟩
  rw [← hw1] at hs1 hb1 ⊢
  clear hw1
  have HS1 := Lib.hid hs1
  have HB1 := Lib.hid hb1
  clear hs1 hb1
  have cg := HS1.out.gen
  have cr := HS1.out.root
  go_wp2_with (first | ((with_reducible refine at_ld 72 (.tmp 1) ?_); refine ld_sp rfl _ rfl w.heap.size (0) rfl s ?_ ?_ ?_; exact HL.out; exact HS1.out.r))
  refine (right_any s HL.out _).mono ?_
  rintro e w2 ⟨rfl, hb⟩
  rw [HR.out]
  have HS2 := Lib.hid (HS1.out.under hb HS1.out.lt)
  have HB2 := Lib.hid (HB1.out.trans (hb.mono HB1.out.size))
  clear hb cg cr
  have HM2 := Lib.hid (Mv.refl No w2)
  have WI2 := Lib.hid (Wi.no w2)
  go_upto_region 3 with fail
  have hg2 := HS2.out.gen
  have hr2 := HS2.out.root
  have HSx : Hid (∀ wz, KF w2 wz → (fun wz => wz.cell? ⟨w.heap.size, 0, none⟩ = some (.int .u32 s.g) ∧ wz.cell? ⟨w.heap.size, 1, none⟩ = some (.int .i64 s.r) ∧ KF w2 wz) wz) := Lib.hid (fun wz h => ⟨h.cell (hg2), h.cell (hr2), h⟩)
  refine wp_region_held_drew (S := fun wz => wz.cell? ⟨w.heap.size, 0, none⟩ = some (.int .u32 s.g) ∧ wz.cell? ⟨w.heap.size, 1, none⟩ = some (.int .i64 s.r) ∧ KF w2 wz) (by kernel_rfl) ?_ (fun hHeld => ?_)
  · exact HSx.out _ (KF.drew (KF.refl _))
  have hKF0 : KF w2 w2.drew := KF.drew (KF.refl _)
  refine wpAnyH_take (i := 0) (oi := { dst := Option.some 9, op := Go.Op.fieldAddr 72 (Go.Operand.tmp 1) 0, type := 0, pos := "super.go:41", after := #[], guard := Option.none }) (v := ?_) rfl (by kernel_rfl) (by kernel_rfl) (by kernel_rfl) (fun _ _ _ h => h) (Or.inl ⟨by rfl, ?_⟩) (by assumption) ?_
  rotate_left
  · intro w hSw; (try dsimp only at hSw); obtain ⟨hc0, hc1, _⟩ := hSw; go_simp; (try with_reducible rfl)
  simp only [Act.put, List.setIfInBounds_toArray, List.set_cons_zero, List.set_cons_succ]
  refine wpAnyH_take (i := 1) (oi := { dst := Option.some 10, op := Go.Op.load 37 (Go.Operand.tmp 9), type := 37, pos := "super.go:41", after := #[{ on := 0, ground := Go.Ground.data }], guard := Option.none }) (v := ?_) rfl (by kernel_rfl) (by kernel_rfl) (by kernel_rfl) (fun _ _ _ h => h) (Or.inl ⟨by rfl, ?_⟩) (by assumption) ?_
  rotate_left
  · intro w hSw; (try dsimp only at hSw); obtain ⟨hc0, hc1, _⟩ := hSw; go_simp; (try with_reducible rfl)
  simp only [Act.put, List.setIfInBounds_toArray, List.set_cons_zero, List.set_cons_succ]
  refine wpAnyH_take (i := 2) (oi := { dst := Option.some 11, op := Go.Op.convert 37 3 (Go.Operand.tmp 10), type := 3, pos := "super.go:41", after := #[{ on := 1, ground := Go.Ground.data }], guard := Option.none }) (v := ?_) rfl (by kernel_rfl) (by kernel_rfl) (by kernel_rfl) (fun _ _ _ h => h) (Or.inl ⟨by rfl, ?_⟩) (by assumption) ?_
  rotate_left
  · intro w hSw; (try dsimp only at hSw); obtain ⟨hc0, hc1, _⟩ := hSw; go_simp; (try with_reducible rfl)
  simp only [Act.put, List.setIfInBounds_toArray, List.set_cons_zero, List.set_cons_succ]
  refine wpAnyH_take (i := 4) (oi := { dst := Option.some 13, op := Go.Op.fieldAddr 72 (Go.Operand.tmp 1) 1, type := 0, pos := "super.go:41", after := #[], guard := Option.none }) (v := ?_) rfl (by kernel_rfl) (by kernel_rfl) (by kernel_rfl) (fun _ _ _ h => h) (Or.inl ⟨by rfl, ?_⟩) (by assumption) ?_
  rotate_left
  · intro w hSw; (try dsimp only at hSw); obtain ⟨hc0, hc1, _⟩ := hSw; go_simp; (try with_reducible rfl)
  simp only [Act.put, List.setIfInBounds_toArray, List.set_cons_zero, List.set_cons_succ]
  refine wpAnyH_take (i := 5) (oi := { dst := Option.some 14, op := Go.Op.load 3 (Go.Operand.tmp 13), type := 3, pos := "super.go:41", after := #[{ on := 4, ground := Go.Ground.data }], guard := Option.none }) (v := ?_) rfl (by kernel_rfl) (by kernel_rfl) (by kernel_rfl) (fun _ _ _ h => h) (Or.inl ⟨by rfl, ?_⟩) (by assumption) ?_
  rotate_left
  · intro w hSw; (try dsimp only at hSw); obtain ⟨hc0, hc1, _⟩ := hSw; go_simp; (try with_reducible rfl)
  simp only [Act.put, List.setIfInBounds_toArray, List.set_cons_zero, List.set_cons_succ]
  refine wpAnyH_take (i := 8) (oi := { dst := Option.some 17, op := Go.Op.fieldAddr 72 (Go.Operand.tmp 1) 2, type := 0, pos := "super.go:41", after := #[], guard := Option.none }) (v := ?_) rfl (by kernel_rfl) (by kernel_rfl) (by kernel_rfl) (fun _ _ _ h => h) (Or.inl ⟨by rfl, ?_⟩) (by assumption) ?_
  rotate_left
  · intro w hSw; (try dsimp only at hSw); obtain ⟨hc0, hc1, _⟩ := hSw; go_simp; (try with_reducible rfl)
  simp only [Act.put, List.setIfInBounds_toArray, List.set_cons_zero, List.set_cons_succ]
  refine wpAnyH_take (i := 9) (oi := { dst := Option.some 18, op := Go.Op.slice 70 (Go.Operand.tmp 17) Option.none Option.none Option.none, type := 56, pos := "super.go:41", after := #[{ on := 8, ground := Go.Ground.data }], guard := Option.none }) (v := ?_) rfl (by kernel_rfl) (by kernel_rfl) (by kernel_rfl) (fun _ _ _ h => h) (Or.inl ⟨by rfl, ?_⟩) (by assumption) ?_
  rotate_left
  · intro w hSw; (try dsimp only at hSw); obtain ⟨hc0, hc1, _⟩ := hSw; go_simp; (try with_reducible rfl)
  simp only [Act.put, List.setIfInBounds_toArray, List.set_cons_zero, List.set_cons_succ]
  refine wpAnyH_take (i := 10) (oi := { dst := Option.some 19, op := Go.Op.convert 56 9 (Go.Operand.tmp 18), type := 9, pos := "super.go:41", after := #[{ on := 9, ground := Go.Ground.data }], guard := Option.none }) (v := ?_) rfl (by kernel_rfl) (by kernel_rfl) (by kernel_rfl) (fun _ _ _ h => h) (Or.inl ⟨by rfl, ?_⟩) (by assumption) ?_
  rotate_left
  · intro w hSw; (try dsimp only at hSw); obtain ⟨hc0, hc1, hKw⟩ := hSw; have hcv := conv30 (HS2.out.under hKw HS2.out.lt); rw [← HU.out] at hcv; go_simp; (try with_reducible rfl)
  simp only [Act.put, List.setIfInBounds_toArray, List.set_cons_zero, List.set_cons_succ]
  refine wpAnyH_ready (rs := [3]) (by kernel_rfl) (by simp) ?_
  refine AllReadyH.cons (o := { dst := Option.some 12, op := Go.Op.call { callee := Go.Callee.value (Go.Operand.func 80), args := #[Go.Operand.const (Go.Value.int Go.IntKind.i64 4), Go.Operand.tmp 11], argTypes := #[3, 3] }, type := 9, pos := "super.go:41", after := #[{ on := 2, ground := Go.Ground.data }], guard := Option.none }) rfl (fun K hK => ?_) AllReadyH.nil
  go_simp
  refine (Put_any 4 s.g _).mono ?_
  rintro e w3 ⟨rfl, hb⟩
  have hKF1 : KF w2 w3 := KF.step hKF0 hb
  clear hb
  rw [← H4.out]
  dsimp only
  refine hK.out _ _ (HSx.out _ hKF1) (fun hHeld1 => ?_)
  clear hK K
  try simp only [Act.put, List.setIfInBounds_toArray, List.set_cons_zero, List.set_cons_succ]
  refine wpAnyH_ready (rs := [6]) (by kernel_rfl) (by simp) ?_
  refine AllReadyH.cons (o := { dst := Option.some 15, op := Go.Op.call { callee := Go.Callee.value (Go.Operand.func 80), args := #[Go.Operand.const (Go.Value.int Go.IntKind.i64 1), Go.Operand.tmp 14], argTypes := #[3, 3] }, type := 9, pos := "super.go:41", after := #[{ on := 5, ground := Go.Ground.data }, { on := 3, ground := Go.Ground.chain }], guard := Option.none }) rfl (fun K hK => ?_) AllReadyH.nil
  go_simp
  refine (Put_any 1 s.r _).mono ?_
  rintro e w4 ⟨rfl, hb⟩
  have hKF2 : KF w2 w4 := KF.step hKF1 hb
  clear hb
  rw [← H1.out]
  dsimp only
  refine hK.out _ _ (HSx.out _ hKF2) (fun hHeld2 => ?_)
  clear hK K
  try simp only [Act.put, List.setIfInBounds_toArray, List.set_cons_zero, List.set_cons_succ]
  refine wpAnyH_take (i := 7) (oi := { dst := Option.some 16, op := Go.Op.binOp Go.BinOp.add 9 (Go.Operand.tmp 12) (Go.Operand.tmp 15) 9, type := 9, pos := "super.go:41", after := #[{ on := 3, ground := Go.Ground.data }, { on := 6, ground := Go.Ground.data }], guard := Option.none }) (v := ?_) rfl (by kernel_rfl) (by kernel_rfl) (by kernel_rfl) (fun _ _ _ h => h) (Or.inl ⟨by rfl, ?_⟩) (by assumption) ?_
  rotate_left
  · intro w hSw; (try dsimp only at hSw); obtain ⟨hc0, hc1, _⟩ := hSw; go_simp; (try with_reducible rfl)
  simp only [Act.put, List.setIfInBounds_toArray, List.set_cons_zero, List.set_cons_succ]
  refine wpAnyH_take (i := 11) (oi := { dst := Option.some 20, op := Go.Op.binOp Go.BinOp.add 9 (Go.Operand.tmp 16) (Go.Operand.tmp 19) 9, type := 9, pos := "super.go:41", after := #[{ on := 7, ground := Go.Ground.data }, { on := 10, ground := Go.Ground.data }], guard := Option.none }) (v := ?_) rfl (by kernel_rfl) (by kernel_rfl) (by kernel_rfl) (fun _ _ _ h => h) (Or.inl ⟨by rfl, ?_⟩) (by assumption) ?_
  rotate_left
  · intro w hSw; (try dsimp only at hSw); obtain ⟨hc0, hc1, _⟩ := hSw; go_simp; (try with_reducible rfl)
  simp only [Act.put, List.setIfInBounds_toArray, List.set_cons_zero, List.set_cons_succ]
  refine wpAnyH_take (i := 12) (oi := { dst := Option.some 2, op := Go.Op.assign (Go.Operand.tmp 20), type := 9, pos := "super.go:41", after := #[{ on := 11, ground := Go.Ground.data }, { on := 6, ground := Go.Ground.chain }, { on := 0, ground := Go.Ground.phase }, { on := 1, ground := Go.Ground.phase }, { on := 2, ground := Go.Ground.phase }, { on := 3, ground := Go.Ground.phase }, { on := 4, ground := Go.Ground.phase }, { on := 5, ground := Go.Ground.phase }, { on := 6, ground := Go.Ground.phase }, { on := 7, ground := Go.Ground.phase }, { on := 8, ground := Go.Ground.phase }, { on := 9, ground := Go.Ground.phase }, { on := 10, ground := Go.Ground.phase }, { on := 11, ground := Go.Ground.phase }], guard := Option.none }) (v := ?_) rfl (by kernel_rfl) (by kernel_rfl) (by kernel_rfl) (fun _ _ _ h => h) (Or.inl ⟨by rfl, ?_⟩) (by assumption) ?_
  rotate_left
  · intro w hSw; (try dsimp only at hSw); obtain ⟨hc0, hc1, _⟩ := hSw; go_simp; (try with_reducible rfl)
  simp only [Act.put, List.setIfInBounds_toArray, List.set_cons_zero, List.set_cons_succ]
  refine wpAnyH_take (i := 13) (oi := { dst := Option.some 3, op := Go.Op.assign (Go.Operand.const Go.Value.nilIface), type := 26, pos := "super.go:41", after := #[{ on := 12, ground := Go.Ground.chain }, { on := 0, ground := Go.Ground.phase }, { on := 1, ground := Go.Ground.phase }, { on := 2, ground := Go.Ground.phase }, { on := 3, ground := Go.Ground.phase }, { on := 4, ground := Go.Ground.phase }, { on := 5, ground := Go.Ground.phase }, { on := 6, ground := Go.Ground.phase }, { on := 7, ground := Go.Ground.phase }, { on := 8, ground := Go.Ground.phase }, { on := 9, ground := Go.Ground.phase }, { on := 10, ground := Go.Ground.phase }, { on := 11, ground := Go.Ground.phase }, { on := 12, ground := Go.Ground.phase }], guard := Option.none }) (v := ?_) rfl (by kernel_rfl) (by kernel_rfl) (by kernel_rfl) (fun _ _ _ h => h) (Or.inl ⟨by rfl, ?_⟩) (by assumption) ?_
  rotate_left
  · intro w hSw; (try dsimp only at hSw); obtain ⟨hc0, hc1, _⟩ := hSw; go_simp; (try with_reducible rfl)
  simp only [Act.put, List.setIfInBounds_toArray, List.set_cons_zero, List.set_cons_succ]
  refine wpAnyH_done (by kernel_rfl) ?_ _
  have hbm : Below w2.heap.size w2 w4 := hKF2
  have hm : Mv No No w2 w4 := Mv.of_below hbm
  have HM_1 := Lib.hid (HM2.out.trans hm)
  clear HM2
  have WI_1 := Lib.hid (WI2.out.mono hm.size)
  clear WI2
  clear hm
  clear hbm HSx hKF0 hKF1 hKF2
  clear hg2 hr2
  go_wp2_with fail
  go_ret2
  exact ⟨by rw [← HLY.out]; rfl, HB2.out.trans (HM_1.out.below.mono HB2.out.size)⟩
theorem slay_any (s : Sup) (hf : s.Fits) (w : World) : Calls Tryd.prog 42 #[.agg (sv s).toArray] w fun e w' => ∃ v, e = .returned (.tuple #[.string (slayS s), v]) ∧ ErrC w.heap.size w' v (slayC s) ∧ Below w.heap.size w w' := by
  unfold slayS slayC
  cases h : rightB s
  · rw [if_neg (by decide), if_neg (by decide)]; exact slay_no s hf.l h w
  · rw [if_pos rfl, if_pos rfl]
    refine (slay_ok s hf h w).mono ?_
    rintro e w' ⟨rfl, hb⟩
    exact ⟨_, rfl, ErrC.nil _ _, hb⟩
theorem put1n (n : Int) (h0 : 0 ≤ n) (h1 : n ≤ 255) : putB 1 n = strOfNums [n] := by
  have hf : fitsB 1 n = true := by
    simp only [fitsB, decide_eq_true_eq]
    have e : (256 : Int) ^ (1 : Int).toNat = 256 := by decide
    rw [e]; omega
  unfold putB; rw [if_pos hf]
  unfold putL; rw [if_pos rfl, show n % 256 = n by omega]
theorem conv1 {W : World} {N : Nat} {r : Int} (h : W.cell? ⟨N, 0, none⟩ = some (.int .u8 r)) : (convert 56 9 (.slice (some ⟨N, 0, none⟩) 1 1)).run Tryd.prog W = .ok (.string (strOfNums [r])) W :=
  run_convert_bytes_arg (P := Tryd.prog) (w := W) 56 5 Tryd.underlying56 Tryd.underlying5 N 0 1 1 [r] rfl (fun i hi => by rw [show i = 0 by omega]; exact h) 9 Tryd.underlying9
set_option maxHeartbeats 4000000 in
set_option maxRecDepth 100000 in
theorem rlay_sup (s : Sup) (hf : s.Fits) (hr : rightB s = true) (w : World) : Calls Tryd.prog 48 #[.agg (sv s).toArray] w fun e w' => e = .returned (.string (layU s)) ∧ Below w.heap.size w w' := by
  have hl := hf.l
  have hz4 := gen_size hf
  have hz1 := root_size hr
  have hzu : (strP s.u).size = 30 := by rw [strP_size]; exact hf.l
  have HLY : Hid (putB 4 s.g ++ putB 1 s.r ++ strP s.u = layU s) := Lib.hid rfl
  have hw4 : IntKind.i64.wrap s.g = s.g := IntWalk.i64_in _ (by have := hf.g0; have := hf.g1; omega)
  have hrr := right_root hr
  have hp1 := put1n s.r (by omega) (by omega)
  have hw8 : IntKind.u8.wrap s.r = s.r := by simp [IntKind.wrap, IntKind.bits, IntKind.signed]; omega
  have hm8 : s.r % 256 = s.r := by omega
  obtain ⟨s4, hs4⟩ : ∃ q, q = putB 4 s.g := ⟨_, rfl⟩
  obtain ⟨s1, hs1⟩ : ∃ q, q = putB 1 s.r := ⟨_, rfl⟩
  obtain ⟨su, hsu⟩ : ∃ q, q = strP s.u := ⟨_, rfl⟩
  rw [← hs4, ← hs1, ← hsu] at HLY
  rw [← hs4] at hz4
  rw [← hs1] at hz1 hp1
  rw [← hsu] at hzu
  have H4 := Lib.hid hs4
  have H1 : Hid (strOfNums [s.r] = s1) := Lib.hid hp1.symm
  have HU := Lib.hid hsu
  have hcat : (s4 ++ s1).size = 5 := by rw [ByteArray.size_append, hz4, hz1]
  have hsl30 := slice30r
  have HF4 := Lib.hid (gen_fits hf)
  have HG := Lib.hid (show s.g ≤ 9223372036854775807 by have := hf.g1; omega)
  clear hr hf hs4 hs1 hsu hp1 hrr
  have HL := Lib.hid hl
  clear hl
  have hs1 := SupAt.new w 68 s HL.out
  have hb1 : Below w.heap.size w (w.alloc (.cells (sv s).toArray 68)) := (Below.refl _ _).alloc (Nat.le_refl _) _
  go_enter Tryd.func48, Tryd.ntmps48
  go_upto_region 1 with fail
  obtain ⟨w1, hw1⟩ : ∃ q, q = w.alloc (.cells (sv s).toArray 68) := ⟨_, rfl⟩
  rw [← hw1] at hs1 hb1 ⊢
  clear hw1
  have HS1 := Lib.hid hs1
  have HB1 := Lib.hid hb1
  clear hs1 hb1
  have cg := HS1.out.gen
  have cr := HS1.out.root
  clear cg cr
  have hg1 := HS1.out.gen
  have hr1 := HS1.out.root
  have HSx : Hid (∀ wz, KF w1 wz → (fun wz => wz.cell? ⟨w.heap.size, 0, none⟩ = some (.int .u32 s.g) ∧ wz.cell? ⟨w.heap.size, 1, none⟩ = some (.int .i64 s.r) ∧ KF w1 wz) wz) := Lib.hid (fun wz h => ⟨h.cell hg1, h.cell hr1, h⟩)
  refine wp_region_held_drew (S := fun wz => wz.cell? ⟨w.heap.size, 0, none⟩ = some (.int .u32 s.g) ∧ wz.cell? ⟨w.heap.size, 1, none⟩ = some (.int .i64 s.r) ∧ KF w1 wz) (by kernel_rfl) ?_ (fun hHeld => ?_)
  · exact HSx.out _ (KF.drew (KF.refl _))
  have hKF0 : KF w1 w1.drew := KF.drew (KF.refl _)
  clear hg1 hr1
  obtain ⟨W0, hW0⟩ : ∃ q, q = w1.drew := ⟨_, rfl⟩
  rw [← hW0] at hKF0 hHeld ⊢
  clear hW0
  refine wpAnyH_take (i := 0) (oi := { dst := Option.some 3, op := Go.Op.fieldAddr 68 (Go.Operand.tmp 1) 0, type := 0, pos := "ref.go:27", after := #[], guard := Option.none }) (v := ?_) rfl (by kernel_rfl) (by kernel_rfl) (by kernel_rfl) (fun _ _ _ h => h) (Or.inl ⟨by rfl, ?_⟩) (by assumption) ?_
  rotate_left
  · intro w hSw; (try dsimp only at hSw); obtain ⟨hc0, hc1, hKw⟩ := hSw; go_simp; (try with_reducible rfl)
  simp only [Act.put, List.setIfInBounds_toArray, List.set_cons_zero, List.set_cons_succ]
  refine wpAnyH_take (i := 1) (oi := { dst := Option.some 4, op := Go.Op.load 37 (Go.Operand.tmp 3), type := 37, pos := "ref.go:27", after := #[{ on := 0, ground := Go.Ground.data }], guard := Option.none }) (v := ?_) rfl (by kernel_rfl) (by kernel_rfl) (by kernel_rfl) (fun _ _ _ h => h) (Or.inl ⟨by rfl, ?_⟩) (by assumption) ?_
  rotate_left
  · intro w hSw; (try dsimp only at hSw); obtain ⟨hc0, hc1, hKw⟩ := hSw; go_simp; (try with_reducible rfl)
  simp only [Act.put, List.setIfInBounds_toArray, List.set_cons_zero, List.set_cons_succ]
  refine wpAnyH_take (i := 2) (oi := { dst := Option.some 5, op := Go.Op.convert 37 3 (Go.Operand.tmp 4), type := 3, pos := "ref.go:27", after := #[{ on := 1, ground := Go.Ground.data }], guard := Option.none }) (v := ?_) rfl (by kernel_rfl) (by kernel_rfl) (by kernel_rfl) (fun _ _ _ h => h) (Or.inl ⟨by rfl, ?_⟩) (by assumption) ?_
  rotate_left
  · intro w hSw; (try dsimp only at hSw); obtain ⟨hc0, hc1, hKw⟩ := hSw; go_simp; (try with_reducible rfl)
  simp only [Act.put, List.setIfInBounds_toArray, List.set_cons_zero, List.set_cons_succ]
  refine wpAnyH_take (i := 4) (oi := { dst := Option.some 7, op := Go.Op.fieldAddr 68 (Go.Operand.tmp 1) 1, type := 0, pos := "ref.go:27", after := #[], guard := Option.none }) (v := ?_) rfl (by kernel_rfl) (by kernel_rfl) (by kernel_rfl) (fun _ _ _ h => h) (Or.inl ⟨by rfl, ?_⟩) (by assumption) ?_
  rotate_left
  · intro w hSw; (try dsimp only at hSw); obtain ⟨hc0, hc1, hKw⟩ := hSw; go_simp; (try with_reducible rfl)
  simp only [Act.put, List.setIfInBounds_toArray, List.set_cons_zero, List.set_cons_succ]
  refine wpAnyH_take (i := 5) (oi := { dst := Option.some 8, op := Go.Op.load 3 (Go.Operand.tmp 7), type := 3, pos := "ref.go:27", after := #[{ on := 4, ground := Go.Ground.data }], guard := Option.none }) (v := ?_) rfl (by kernel_rfl) (by kernel_rfl) (by kernel_rfl) (fun _ _ _ h => h) (Or.inl ⟨by rfl, ?_⟩) (by assumption) ?_
  rotate_left
  · intro w hSw; (try dsimp only at hSw); obtain ⟨hc0, hc1, hKw⟩ := hSw; go_simp; (try with_reducible rfl)
  simp only [Act.put, List.setIfInBounds_toArray, List.set_cons_zero, List.set_cons_succ]
  refine wpAnyH_take (i := 6) (oi := { dst := Option.some 9, op := Go.Op.convert 3 5 (Go.Operand.tmp 8), type := 5, pos := "ref.go:27", after := #[{ on := 5, ground := Go.Ground.data }], guard := Option.none }) (v := ?_) rfl (by kernel_rfl) (by kernel_rfl) (by kernel_rfl) (fun _ _ _ h => h) (Or.inl ⟨by rfl, ?_⟩) (by assumption) ?_
  rotate_left
  · intro w hSw; (try dsimp only at hSw); obtain ⟨hc0, hc1, hKw⟩ := hSw; go_simp; (try with_reducible rfl)
  simp only [Act.put, List.setIfInBounds_toArray, List.set_cons_zero, List.set_cons_succ]
  refine wpAnyH_take (i := 10) (oi := { dst := Option.some 13, op := Go.Op.fieldAddr 68 (Go.Operand.tmp 1) 2, type := 0, pos := "ref.go:27", after := #[], guard := Option.none }) (v := ?_) rfl (by kernel_rfl) (by kernel_rfl) (by kernel_rfl) (fun _ _ _ h => h) (Or.inl ⟨by rfl, ?_⟩) (by assumption) ?_
  rotate_left
  · intro w hSw; (try dsimp only at hSw); obtain ⟨hc0, hc1, hKw⟩ := hSw; go_simp; (try with_reducible rfl)
  simp only [Act.put, List.setIfInBounds_toArray, List.set_cons_zero, List.set_cons_succ]
  refine wpAnyH_take (i := 11) (oi := { dst := Option.some 14, op := Go.Op.slice 66 (Go.Operand.tmp 13) Option.none Option.none Option.none, type := 56, pos := "ref.go:27", after := #[{ on := 10, ground := Go.Ground.data }], guard := Option.none }) (v := ?_) rfl (by kernel_rfl) (by kernel_rfl) (by kernel_rfl) (fun _ _ _ h => h) (Or.inl ⟨by rfl, ?_⟩) (by assumption) ?_
  rotate_left
  · intro w hSw; (try dsimp only at hSw); obtain ⟨hc0, hc1, hKw⟩ := hSw; go_simp; (try with_reducible rfl)
  simp only [Act.put, List.setIfInBounds_toArray, List.set_cons_zero, List.set_cons_succ]
  refine wpAnyH_take (i := 12) (oi := { dst := Option.some 15, op := Go.Op.convert 56 9 (Go.Operand.tmp 14), type := 9, pos := "ref.go:27", after := #[{ on := 11, ground := Go.Ground.data }], guard := Option.none }) (v := ?_) rfl (by kernel_rfl) (by kernel_rfl) (by kernel_rfl) (fun _ _ _ h => h) (Or.inl ⟨by rfl, ?_⟩) (by assumption) ?_
  rotate_left
  · intro w hSw; (try dsimp only at hSw); obtain ⟨hc0, hc1, hKw⟩ := hSw; have hcv := conv30 (HS1.out.under hKw HS1.out.lt); rw [← HU.out] at hcv; go_simp; (try with_reducible rfl)
  simp only [Act.put, List.setIfInBounds_toArray, List.set_cons_zero, List.set_cons_succ]
  refine wpAnyH_ready (rs := [3, 7]) (by kernel_rfl) (by simp) ?_
  refine AllReadyH.cons (o := { dst := Option.some 6, op := Go.Op.call { callee := Go.Callee.value (Go.Operand.func 36), args := #[Go.Operand.const (Go.Value.int Go.IntKind.i64 4), Go.Operand.tmp 5], argTypes := #[3, 3] }, type := 9, pos := "ref.go:27", after := #[{ on := 2, ground := Go.Ground.data }], guard := Option.none }) rfl (fun K hK => ?_) (AllReadyH.cons (o := { dst := Option.some 10, op := Go.Op.buildSlice 56 1 #[(0, Go.Operand.tmp 9)], type := 56, pos := "ref.go:27", after := #[{ on := 6, ground := Go.Ground.data }], guard := Option.none }) rfl (fun K hK => ?_) AllReadyH.nil)
  · go_simp
    refine (rput_any s.g _ HG.out HF4.out).mono ?_
    rintro e W1 ⟨rfl, hb⟩
    have hW1 : KF w1 W1 := KF.step hKF0 hb
    rw [← H4.out]
    clear hb
    try dsimp only
    refine hK.out _ _ (HSx.out _ hW1) (fun hHeld1 => ?_)
    clear hK K
    try simp only [Act.put, List.setIfInBounds_toArray, List.set_cons_zero, List.set_cons_succ]
    refine wpAnyH_ready (rs := [7]) (by kernel_rfl) (by simp) ?_
    refine (AllReadyH.cons (o := { dst := Option.some 10, op := Go.Op.buildSlice 56 1 #[(0, Go.Operand.tmp 9)], type := 56, pos := "ref.go:27", after := #[{ on := 6, ground := Go.Ground.data }], guard := Option.none }) rfl (fun K hK => ?_) AllReadyH.nil)
    go_simp
    obtain ⟨W2, hwW2⟩ : ∃ q, q = W1.alloc (.cells #[.int .u8 s.r] 5) := ⟨_, rfl⟩
    have hW2 : KF w1 W2 := by rw [hwW2]; exact hW1.alloc _
    have hN : W2.cell? ⟨W1.heap.size, 0, none⟩ = some (.int .u8 s.r) := by rw [hwW2, cell_of_row _ _ 0 _ _ (0, 0) (heap_alloc_last W1 _)]; rfl
    try rw [← hwW2]
    clear hwW2
    try dsimp only
    refine hK.out _ _ (HSx.out _ hW2) (fun hHeld2 => ?_)
    clear hK K
    try simp only [Act.put, List.setIfInBounds_toArray, List.set_cons_zero, List.set_cons_succ]
    refine wpAnyH_ready (rs := [8]) (by kernel_rfl) (by simp) ?_
    refine (AllReadyH.cons (o := { dst := Option.some 11, op := Go.Op.convert 56 9 (Go.Operand.tmp 10), type := 9, pos := "ref.go:27", after := #[{ on := 7, ground := Go.Ground.data }], guard := Option.none }) rfl (fun K hK => ?_) AllReadyH.nil)
    have hcv1 := conv1 hN
    rw [H1.out] at hcv1
    go_simp
    refine hK.out _ _ (HSx.out _ hW2) (fun hHeld3 => ?_)
    clear hK K hcv1 hN
    try simp only [Act.put, List.setIfInBounds_toArray, List.set_cons_zero, List.set_cons_succ]
    refine wpAnyH_take (i := 9) (oi := { dst := Option.some 12, op := Go.Op.binOp Go.BinOp.add 9 (Go.Operand.tmp 6) (Go.Operand.tmp 11) 9, type := 9, pos := "ref.go:27", after := #[{ on := 3, ground := Go.Ground.data }, { on := 8, ground := Go.Ground.data }], guard := Option.none }) (v := ?_) rfl (by kernel_rfl) (by kernel_rfl) (by kernel_rfl) (fun _ _ _ h => h) (Or.inl ⟨by rfl, ?_⟩) (by assumption) ?_
    rotate_left
    · intro w hSw; (try dsimp only at hSw); obtain ⟨hc0, hc1, hKw⟩ := hSw; go_simp; (try with_reducible rfl)
    simp only [Act.put, List.setIfInBounds_toArray, List.set_cons_zero, List.set_cons_succ]
    refine wpAnyH_take (i := 13) (oi := { dst := Option.some 16, op := Go.Op.binOp Go.BinOp.add 9 (Go.Operand.tmp 12) (Go.Operand.tmp 15) 9, type := 9, pos := "ref.go:27", after := #[{ on := 9, ground := Go.Ground.data }, { on := 12, ground := Go.Ground.data }], guard := Option.none }) (v := ?_) rfl (by kernel_rfl) (by kernel_rfl) (by kernel_rfl) (fun _ _ _ h => h) (Or.inl ⟨by rfl, ?_⟩) (by assumption) ?_
    rotate_left
    · intro w hSw; (try dsimp only at hSw); obtain ⟨hc0, hc1, hKw⟩ := hSw; go_simp; (try with_reducible rfl)
    simp only [Act.put, List.setIfInBounds_toArray, List.set_cons_zero, List.set_cons_succ]
    refine wpAnyH_take (i := 14) (oi := { dst := Option.some 2, op := Go.Op.assign (Go.Operand.tmp 16), type := 9, pos := "ref.go:27", after := #[{ on := 13, ground := Go.Ground.data }, { on := 3, ground := Go.Ground.chain }, { on := 0, ground := Go.Ground.phase }, { on := 1, ground := Go.Ground.phase }, { on := 2, ground := Go.Ground.phase }, { on := 3, ground := Go.Ground.phase }, { on := 4, ground := Go.Ground.phase }, { on := 5, ground := Go.Ground.phase }, { on := 6, ground := Go.Ground.phase }, { on := 7, ground := Go.Ground.phase }, { on := 8, ground := Go.Ground.phase }, { on := 9, ground := Go.Ground.phase }, { on := 10, ground := Go.Ground.phase }, { on := 11, ground := Go.Ground.phase }, { on := 12, ground := Go.Ground.phase }, { on := 13, ground := Go.Ground.phase }], guard := Option.none }) (v := ?_) rfl (by kernel_rfl) (by kernel_rfl) (by kernel_rfl) (fun _ _ _ h => h) (Or.inl ⟨by rfl, ?_⟩) (by assumption) ?_
    rotate_left
    · intro w hSw; (try dsimp only at hSw); obtain ⟨hc0, hc1, hKw⟩ := hSw; go_simp; (try with_reducible rfl)
    simp only [Act.put, List.setIfInBounds_toArray, List.set_cons_zero, List.set_cons_succ]
    refine wpAnyH_done (by kernel_rfl) ?_ _
    go_wp2_with fail
    go_ret
    exact ⟨by rw [← HLY.out]; rfl, HB1.out.trans (Below.mono hW2 HB1.out.size)⟩
  · go_simp
    obtain ⟨W1, hwW1⟩ : ∃ q, q = W0.alloc (.cells #[.int .u8 s.r] 5) := ⟨_, rfl⟩
    have hW1 : KF w1 W1 := by rw [hwW1]; exact hKF0.alloc _
    have hN : W1.cell? ⟨W0.heap.size, 0, none⟩ = some (.int .u8 s.r) := by rw [hwW1, cell_of_row _ _ 0 _ _ (0, 0) (heap_alloc_last W0 _)]; rfl
    try rw [← hwW1]
    clear hwW1
    try dsimp only
    refine hK.out _ _ (HSx.out _ hW1) (fun hHeld1 => ?_)
    clear hK K
    try simp only [Act.put, List.setIfInBounds_toArray, List.set_cons_zero, List.set_cons_succ]
    refine wpAnyH_ready (rs := [3, 8]) (by kernel_rfl) (by simp) ?_
    refine (AllReadyH.cons (o := { dst := Option.some 6, op := Go.Op.call { callee := Go.Callee.value (Go.Operand.func 36), args := #[Go.Operand.const (Go.Value.int Go.IntKind.i64 4), Go.Operand.tmp 5], argTypes := #[3, 3] }, type := 9, pos := "ref.go:27", after := #[{ on := 2, ground := Go.Ground.data }], guard := Option.none }) rfl (fun K hK => ?_) (AllReadyH.cons (o := { dst := Option.some 11, op := Go.Op.convert 56 9 (Go.Operand.tmp 10), type := 9, pos := "ref.go:27", after := #[{ on := 7, ground := Go.Ground.data }], guard := Option.none }) rfl (fun K hK => ?_) AllReadyH.nil))
    · go_simp
      refine (rput_any s.g _ HG.out HF4.out).mono ?_
      rintro e W2 ⟨rfl, hb⟩
      have hW2 : KF w1 W2 := KF.step hW1 hb
      rw [← H4.out]
      have hN2 := (hb.cell (p := ⟨W0.heap.size, 0, none⟩) (cell_lt hN)).trans hN
      clear hb hN
      have hN := hN2
      clear hN2
      try dsimp only
      refine hK.out _ _ (HSx.out _ hW2) (fun hHeld2 => ?_)
      clear hK K
      try simp only [Act.put, List.setIfInBounds_toArray, List.set_cons_zero, List.set_cons_succ]
      refine wpAnyH_ready (rs := [8]) (by kernel_rfl) (by simp) ?_
      refine (AllReadyH.cons (o := { dst := Option.some 11, op := Go.Op.convert 56 9 (Go.Operand.tmp 10), type := 9, pos := "ref.go:27", after := #[{ on := 7, ground := Go.Ground.data }], guard := Option.none }) rfl (fun K hK => ?_) AllReadyH.nil)
      have hcv1 := conv1 hN
      rw [H1.out] at hcv1
      go_simp
      refine hK.out _ _ (HSx.out _ hW2) (fun hHeld3 => ?_)
      clear hK K hcv1 hN
      try simp only [Act.put, List.setIfInBounds_toArray, List.set_cons_zero, List.set_cons_succ]
      refine wpAnyH_take (i := 9) (oi := { dst := Option.some 12, op := Go.Op.binOp Go.BinOp.add 9 (Go.Operand.tmp 6) (Go.Operand.tmp 11) 9, type := 9, pos := "ref.go:27", after := #[{ on := 3, ground := Go.Ground.data }, { on := 8, ground := Go.Ground.data }], guard := Option.none }) (v := ?_) rfl (by kernel_rfl) (by kernel_rfl) (by kernel_rfl) (fun _ _ _ h => h) (Or.inl ⟨by rfl, ?_⟩) (by assumption) ?_
      rotate_left
      · intro w hSw; (try dsimp only at hSw); obtain ⟨hc0, hc1, hKw⟩ := hSw; go_simp; (try with_reducible rfl)
      simp only [Act.put, List.setIfInBounds_toArray, List.set_cons_zero, List.set_cons_succ]
      refine wpAnyH_take (i := 13) (oi := { dst := Option.some 16, op := Go.Op.binOp Go.BinOp.add 9 (Go.Operand.tmp 12) (Go.Operand.tmp 15) 9, type := 9, pos := "ref.go:27", after := #[{ on := 9, ground := Go.Ground.data }, { on := 12, ground := Go.Ground.data }], guard := Option.none }) (v := ?_) rfl (by kernel_rfl) (by kernel_rfl) (by kernel_rfl) (fun _ _ _ h => h) (Or.inl ⟨by rfl, ?_⟩) (by assumption) ?_
      rotate_left
      · intro w hSw; (try dsimp only at hSw); obtain ⟨hc0, hc1, hKw⟩ := hSw; go_simp; (try with_reducible rfl)
      simp only [Act.put, List.setIfInBounds_toArray, List.set_cons_zero, List.set_cons_succ]
      refine wpAnyH_take (i := 14) (oi := { dst := Option.some 2, op := Go.Op.assign (Go.Operand.tmp 16), type := 9, pos := "ref.go:27", after := #[{ on := 13, ground := Go.Ground.data }, { on := 3, ground := Go.Ground.chain }, { on := 0, ground := Go.Ground.phase }, { on := 1, ground := Go.Ground.phase }, { on := 2, ground := Go.Ground.phase }, { on := 3, ground := Go.Ground.phase }, { on := 4, ground := Go.Ground.phase }, { on := 5, ground := Go.Ground.phase }, { on := 6, ground := Go.Ground.phase }, { on := 7, ground := Go.Ground.phase }, { on := 8, ground := Go.Ground.phase }, { on := 9, ground := Go.Ground.phase }, { on := 10, ground := Go.Ground.phase }, { on := 11, ground := Go.Ground.phase }, { on := 12, ground := Go.Ground.phase }, { on := 13, ground := Go.Ground.phase }], guard := Option.none }) (v := ?_) rfl (by kernel_rfl) (by kernel_rfl) (by kernel_rfl) (fun _ _ _ h => h) (Or.inl ⟨by rfl, ?_⟩) (by assumption) ?_
      rotate_left
      · intro w hSw; (try dsimp only at hSw); obtain ⟨hc0, hc1, hKw⟩ := hSw; go_simp; (try with_reducible rfl)
      simp only [Act.put, List.setIfInBounds_toArray, List.set_cons_zero, List.set_cons_succ]
      refine wpAnyH_done (by kernel_rfl) ?_ _
      go_wp2_with fail
      go_ret
      exact ⟨by rw [← HLY.out]; rfl, HB1.out.trans (Below.mono hW2 HB1.out.size)⟩
    · have hcv1 := conv1 hN
      rw [H1.out] at hcv1
      go_simp
      refine hK.out _ _ (HSx.out _ hW1) (fun hHeld2 => ?_)
      clear hK K hcv1 hN
      try simp only [Act.put, List.setIfInBounds_toArray, List.set_cons_zero, List.set_cons_succ]
      refine wpAnyH_ready (rs := [3]) (by kernel_rfl) (by simp) ?_
      refine (AllReadyH.cons (o := { dst := Option.some 6, op := Go.Op.call { callee := Go.Callee.value (Go.Operand.func 36), args := #[Go.Operand.const (Go.Value.int Go.IntKind.i64 4), Go.Operand.tmp 5], argTypes := #[3, 3] }, type := 9, pos := "ref.go:27", after := #[{ on := 2, ground := Go.Ground.data }], guard := Option.none }) rfl (fun K hK => ?_) AllReadyH.nil)
      go_simp
      refine (rput_any s.g _ HG.out HF4.out).mono ?_
      rintro e W2 ⟨rfl, hb⟩
      have hW2 : KF w1 W2 := KF.step hW1 hb
      rw [← H4.out]
      clear hb
      try dsimp only
      refine hK.out _ _ (HSx.out _ hW2) (fun hHeld3 => ?_)
      clear hK K
      try simp only [Act.put, List.setIfInBounds_toArray, List.set_cons_zero, List.set_cons_succ]
      refine wpAnyH_take (i := 9) (oi := { dst := Option.some 12, op := Go.Op.binOp Go.BinOp.add 9 (Go.Operand.tmp 6) (Go.Operand.tmp 11) 9, type := 9, pos := "ref.go:27", after := #[{ on := 3, ground := Go.Ground.data }, { on := 8, ground := Go.Ground.data }], guard := Option.none }) (v := ?_) rfl (by kernel_rfl) (by kernel_rfl) (by kernel_rfl) (fun _ _ _ h => h) (Or.inl ⟨by rfl, ?_⟩) (by assumption) ?_
      rotate_left
      · intro w hSw; (try dsimp only at hSw); obtain ⟨hc0, hc1, hKw⟩ := hSw; go_simp; (try with_reducible rfl)
      simp only [Act.put, List.setIfInBounds_toArray, List.set_cons_zero, List.set_cons_succ]
      refine wpAnyH_take (i := 13) (oi := { dst := Option.some 16, op := Go.Op.binOp Go.BinOp.add 9 (Go.Operand.tmp 12) (Go.Operand.tmp 15) 9, type := 9, pos := "ref.go:27", after := #[{ on := 9, ground := Go.Ground.data }, { on := 12, ground := Go.Ground.data }], guard := Option.none }) (v := ?_) rfl (by kernel_rfl) (by kernel_rfl) (by kernel_rfl) (fun _ _ _ h => h) (Or.inl ⟨by rfl, ?_⟩) (by assumption) ?_
      rotate_left
      · intro w hSw; (try dsimp only at hSw); obtain ⟨hc0, hc1, hKw⟩ := hSw; go_simp; (try with_reducible rfl)
      simp only [Act.put, List.setIfInBounds_toArray, List.set_cons_zero, List.set_cons_succ]
      refine wpAnyH_take (i := 14) (oi := { dst := Option.some 2, op := Go.Op.assign (Go.Operand.tmp 16), type := 9, pos := "ref.go:27", after := #[{ on := 13, ground := Go.Ground.data }, { on := 3, ground := Go.Ground.chain }, { on := 0, ground := Go.Ground.phase }, { on := 1, ground := Go.Ground.phase }, { on := 2, ground := Go.Ground.phase }, { on := 3, ground := Go.Ground.phase }, { on := 4, ground := Go.Ground.phase }, { on := 5, ground := Go.Ground.phase }, { on := 6, ground := Go.Ground.phase }, { on := 7, ground := Go.Ground.phase }, { on := 8, ground := Go.Ground.phase }, { on := 9, ground := Go.Ground.phase }, { on := 10, ground := Go.Ground.phase }, { on := 11, ground := Go.Ground.phase }, { on := 12, ground := Go.Ground.phase }, { on := 13, ground := Go.Ground.phase }], guard := Option.none }) (v := ?_) rfl (by kernel_rfl) (by kernel_rfl) (by kernel_rfl) (fun _ _ _ h => h) (Or.inl ⟨by rfl, ?_⟩) (by assumption) ?_
      rotate_left
      · intro w hSw; (try dsimp only at hSw); obtain ⟨hc0, hc1, hKw⟩ := hSw; go_simp; (try with_reducible rfl)
      simp only [Act.put, List.setIfInBounds_toArray, List.set_cons_zero, List.set_cons_succ]
      refine wpAnyH_done (by kernel_rfl) ?_ _
      go_wp2_with fail
      go_ret
      exact ⟨by rw [← HLY.out]; rfl, HB1.out.trans (Below.mono hW2 HB1.out.size)⟩
end Go.Proofs.YtmnkgcgmbdkjaaaDoor
namespace Go.Proofs.YtmnkgcgmbdkjaaaDoor
open Go.RowKit Go.Extern.Stop Go.Stop Go.Extern Go.Proofs.YtmnkgcgmbdkjaaaDoorW.PrintWords Go.Proofs.YtmnkgcgmbdkjaaaDoorW.PrintLast Go.Proofs.YtmnkgcgmbdkjaaaDoorW.PrintMore Go.Proofs.YtmnkgcgmbdkjaaaDoor.PSuperPlays
set_option linter.unusedVariables false
set_option linter.unusedSimpArgs false
theorem array_at30 (b c : Nat) (w : World) : (Instr.arrayAt 70 (.slice (some ⟨b, 0, none⟩) 30 c)).run Tryd.prog w = .ok (.pointer (some ⟨b, 0, none⟩)) w := by kernel_rfl
theorem bytes_new (U : Pg) (hU : U.length = 30) (w : World) : (convert 9 56 (.string (strP U))).run Tryd.prog w = .ok (.slice (some ⟨w.heap.size, 0, none⟩) 30 (grownCap w 30 0 5))
      (w.drew.alloc (.cells (bytesRow (strP U) (grownCap w 30 0 5)) 5 ((bytesRow (strP U) (grownCap w 30 0 5)).size, (bytesRow (strP U) (grownCap w 30 0 5)).size + 1))) := by
  have h := run_bytes_of_string (P := Tryd.prog) w 9 56 5 (strP U) Tryd.underlying9 Tryd.underlying56 Tryd.underlying5
  rw [strP_size, hU] at h
  exact h
theorem bytes_range (U : Pg) (w : World) (c : Nat) (t : TypeId) (fr : Nat × Nat) : (w.alloc (.cells (bytesRow (strP U) c) t fr)).rangeAt w.heap.size 0 (pv U) := fun j v hv => by
  rw [Nat.zero_add, cell_of_row _ _ j _ t fr (heap_alloc_last w _)]
  have hj : j < U.length := by
    have := (List.getElem?_eq_some_iff.1 hv).1
    rwa [pv_length] at this
  have e : (bytesRow (strP U) c)[j]? = (pv U)[j]? := by
    unfold bytesRow
    rw [Array.getElem?_append_left (by simpa [strP] using hj)]
    simp [strP, pv]
    rfl
  rw [e]; exact hv
theorem alloc_lt (Z : World) (o : Obj) : Z.heap.size < (Z.alloc o).heap.size := by simp
theorem drew_size (w : World) : w.drew.heap.size = w.heap.size := rfl
theorem wp_bytes {op : Oper} {a : Act} {w : World} {K : Act → World → Prop} {Q : Exit → Act → World → Prop} (x : Operand) (ho : op.op = .convert 9 56 x) (U : Pg) (hU : U.length = 30) (hx : a.eval x = .string (strP U))
    (h : K (a.put op.dst (.slice (some ⟨w.heap.size, 0, none⟩) 30 (grownCap w 30 0 5))) (w.drew.alloc (.cells (bytesRow (strP U) (grownCap w 30 0 5)) 5 ((bytesRow (strP U) (grownCap w 30 0 5)).size, (bytesRow (strP U) (grownCap w 30 0 5)).size + 1)))) : op.wp Tryd.prog a w K Q := by
  unfold Oper.wp execOp
  simp only [ho, hx, Sem.run_bind, bytes_new U hU w, Result.andThen_ok, Sem.run_pure]
  exact h
theorem wp_al_sp {op : Oper} {a : Act} {w : World} {K : Act → World → Prop} {Q : Exit → Act → World → Prop} (ho : op.op = .alloc 72)
    (h : K (a.put op.dst (.pointer (some ⟨w.heap.size, 0, none⟩))) (w.alloc (.cells (sv sup0).toArray 72))) : op.wp Tryd.prog a w K Q := by
  unfold Oper.wp execOp
  simp only [ho, Instr.alloc, Sem.run_bind, zero_sp, Result.andThen_ok]
  exact h
theorem there_under {w w' : World} {b o n B : Nat} (h : w.there b o n) (hb : Below B w w') (hn : b < B) : w'.there b o n := fun j hj =>
  ⟨by rw [hb.cell (p := ⟨b, o + j, none⟩) hn]; exact (h j hj).1, by rw [hb.frozen (p := ⟨b, o + j, none⟩) hn]; exact (h j hj).2⟩
theorem range_under {w w' : World} {b o B : Nat} {cs : List Value} (h : w.rangeAt b o cs) (hb : Below B w w') (hn : b < B) : w'.rangeAt b o cs := fun j v hv => (hb.cell (p := ⟨b, o + j, none⟩) hn).trans (h j v hv)
set_option maxHeartbeats 2000000 in
set_option maxRecDepth 100000 in
theorem sread_short (d : ByteArray) (h : d.size ≠ 35) (w : World) : Calls Tryd.prog 45 #[.string d] w fun e w' => ∃ v, e = .returned (.tuple #[.agg (sv sup0).toArray, v]) ∧ ErrC w.heap.size w' v 2 ∧ Below w.heap.size w w' := by
  have hne : ((d.size : Int) != 35) = true := by simp; omega
  have hbz := build_sp0
  clear h
  have HB1 : Hid (Below w.heap.size w (w.alloc (.cells (sv sup0).toArray 72))) := Lib.hid ((Below.refl _ _).alloc (Nat.le_refl _) _)
  have HR1 : Hid ((w.alloc (.cells (sv sup0).toArray 72)).there w.heap.size 0 32) := Lib.hid (there_new _ _ _ 32 (by rw [ssz]; exact Nat.le_refl _))
  have HW1 : Hid (w.heap.size < (w.alloc (.cells (sv sup0).toArray 72)).heap.size) := Lib.hid (by simp)
  go_enter Tryd.func45, Tryd.ntmps45
  go_upto_region 1 with (first | ((with_reducible refine at_al 72 ?_); refine al_sp rfl rfl ?_))
  obtain ⟨w1, hw1⟩ : ∃ q, q = w.alloc (.cells (sv sup0).toArray 72) := ⟨_, rfl⟩
  rw [← hw1] at HB1 HR1 HW1 ⊢
  clear hw1
  go_wp2_with fail
  refine (Tag_err _ 2 _).mono ?_
  rintro e w9 ⟨v, rfl, he, hb⟩
  obtain ⟨ty, xx, rfl⟩ := he.iface (by decide)
  have HE := Lib.hid he
  have HB9 := Lib.hid (HB1.out.trans (hb.mono HB1.out.size))
  have HR9 := Lib.hid (there_under HR1.out hb HW1.out)
  clear he hb
  go_wp2_with (first | ((with_reducible refine at_st 72 (.tmp 2) (.tmp 10) ?_); refine st_sp rfl _ _ rfl w.heap.size 0 rfl sup0 ?_ rfl ?_ ?_; exact sup0_l; exact HR9.out))
  have hld := run_loadVar_mid (P := Tryd.prog) (w9.setCells w.heap.size 0 (sv sup0)) w.heap.size 0 72 (sv sup0) _ (World.rangeAt_setCells_same w9 _ _ _ (by rw [sv_length sup0_l]; exact HR9.out)) Tryd.underlying72 rfl (szof_sp sup0_l)
  refine bodyPost_ret (v := .tuple #[.agg (sv sup0).toArray, .iface ty xx]) (results_pg Tryd.results45 _ _ _ _ _ rfl rfl hld) rfl ⟨_, rfl, ?_, HB9.out.trans (setCells_below _ _ _ _ _ (Nat.le_refl _))⟩
  exact (err_touch (HE.out.mono (Nat.le_refl _)) (Touch.setCells (S := fun k => k = w.heap.size) (Touch.refl _ w9) w.heap.size (.inl rfl) (sv sup0) 0 w9 (Touch.refl _ _)) (fun k hk hs => by have := HW1.out; omega)).mono (Nat.le_of_lt HW1.out)
set_option maxHeartbeats 4000000 in
set_option maxRecDepth 100000 in
theorem sread_ok (d : ByteArray) (h : d.size = 35) (hr : rightB (supOf d) = true) (w : World) : Calls Tryd.prog 45 #[.string d] w fun e w' => e = .returned (.tuple #[.agg (sv (supOf d)).toArray, .nilIface]) ∧ Below w.heap.size w w' := by
  have hne : ((d.size : Int) != 35) = false := by simp; omega
  have hbz := build_sp0
  have hrg := (supOf_fits h).g0
  have hrg1 := (supOf_fits h).g1
  have hul := (supOf_fits h).l
  have HG := Lib.hid (fun W => Get_ok d 4 W (by decide) (by omega) (by omega))
  obtain ⟨g, hg⟩ : ∃ q, q = getK d 4 := ⟨_, rfl⟩
  have hgs : (supOf d).g = g := by rw [hg]; rfl
  have eg : (4 : Int).toNat = 4 := rfl
  rw [eg, ← hg] at HG
  rw [hgs] at hrg hrg1
  have hw32 : IntKind.u32.wrap g = g := by simp [IntKind.wrap, IntKind.bits, IntKind.signed]; omega
  have hm32 : g % 4294967296 = g := by omega
  obtain ⟨U, hU⟩ : ∃ q, q = d.data.toList.drop 5 := ⟨_, rfl⟩
  have hus : (supOf d).u = U := by rw [hU]; rfl
  rw [hus] at hul
  have hex : d.extract 5 35 = strP U := by have k := strP_drop d.data.toList 5 (by rw [list_size]; omega); rw [strP_data, h] at k; rw [hU]; exact k
  obtain ⟨x, hx⟩ : ∃ x, d.data.toList[4]? = some x := ⟨_, List.getElem?_eq_getElem (by rw [list_size]; omega)⟩
  have hb4 := byte_of d.data.toList 4 x hx
  rw [strP_data] at hb4
  obtain ⟨hl4, hxe⟩ := hb4
  have hb5 := bt_list d.data.toList 4 x hx
  rw [strP_data] at hb5
  have hrs : (supOf d).r = (x.toNat : Int) := hb5
  have hwx := (byte_wraps x).2
  have hx256 := x.toNat_lt
  have hse : supOf d = ⟨g, (x.toNat : Int), U⟩ := by unfold supOf; rw [← hg, ← hU]; congr 1
  rw [hse] at hr ⊢
  obtain ⟨s, hs⟩ : ∃ q : Sup, q = ⟨g, (x.toNat : Int), U⟩ := ⟨_, rfl⟩
  rw [← hs] at hr ⊢
  have HS := Lib.hid hs
  have HRT := Lib.hid hr
  have HUL := Lib.hid hul
  have HSL : Hid (s.u.length = 30) := Lib.hid (by rw [hs]; exact hul)
  have hbn := bytes_new U hul
  have hz72 := zero_sp
  have haa := array_at30
  clear hr hul hs hse hrs hx hg hU hus hgs hb5 eg
  have HB1 : Hid (Below w.heap.size w (w.alloc (.cells (sv sup0).toArray 72))) := Lib.hid ((Below.refl _ _).alloc (Nat.le_refl _) _)
  have HR1 : Hid ((w.alloc (.cells (sv sup0).toArray 72)).there w.heap.size 0 32) := Lib.hid (there_new _ _ _ 32 (by rw [ssz]; exact Nat.le_refl _))
  have HW1 : Hid (w.heap.size < (w.alloc (.cells (sv sup0).toArray 72)).heap.size) := Lib.hid (by simp)
  go_enter Tryd.func45, Tryd.ntmps45
  go_upto_region 1 with (first | ((with_reducible refine at_al 72 ?_); refine al_sp rfl rfl ?_))
  obtain ⟨w1, hw1⟩ : ∃ q, q = w.alloc (.cells (sv sup0).toArray 72) := ⟨_, rfl⟩
  rw [← hw1] at HB1 HR1 HW1 ⊢
  clear hw1
  go_wp2_with fail
  refine (HG.out _).mono ?_
  rintro e w2 ⟨rfl, hb⟩
  have HB2 := Lib.hid (HB1.out.trans (hb.mono HB1.out.size))
  have HR2 := Lib.hid (there_under HR1.out hb HW1.out)
  have HW2 : Hid (w.heap.size < w2.heap.size) := Lib.hid (Nat.lt_of_lt_of_le HW1.out hb.size)
  clear hb
  go_upto_region 4 with fail
  refine wp_region_held_drew (S := fun _ => True) (by kernel_rfl) trivial (fun hHeld => ?_)
  have hdr : Below w2.heap.size w2 w2.drew := Below.drew (Below.refl _ _)
  have HB3 := Lib.hid (HB2.out.trans (hdr.mono HB2.out.size))
  have HR3 := Lib.hid (there_under HR2.out hdr HW2.out)
  have HW3 : Hid (w.heap.size < w2.drew.heap.size) := Lib.hid HW2.out
  obtain ⟨w3, hw3⟩ : ∃ q, q = w2.drew := ⟨_, rfl⟩
  rw [← hw3] at HB3 HR3 HW3 ⊢
  clear hw3 hdr
  refine wpAnyH_take (i := 0) (oi := { dst := Option.some 18, op := Go.Op.move (Go.Operand.tmp 4), type := 3, pos := "super.go:50", after := #[], guard := Option.none }) (v := ?_) rfl (by kernel_rfl) (by kernel_rfl) (by kernel_rfl) (fun _ _ _ h => h) (Or.inl ⟨by rfl, ?_⟩) (by assumption) ?_
  rotate_left
  · intro w hSw; go_simp; (try with_reducible rfl)
  simp only [Act.put, List.setIfInBounds_toArray, List.set_cons_zero, List.set_cons_succ]
  refine wpAnyH_take (i := 1) (oi := { dst := Option.some 19, op := Go.Op.convert 3 37 (Go.Operand.tmp 18), type := 37, pos := "super.go:50", after := #[{ on := 0, ground := Go.Ground.data }], guard := Option.none }) (v := ?_) rfl (by kernel_rfl) (by kernel_rfl) (by kernel_rfl) (fun _ _ _ h => h) (Or.inl ⟨by rfl, ?_⟩) (by assumption) ?_
  rotate_left
  · intro w hSw; go_simp; (try with_reducible rfl)
  simp only [Act.put, List.setIfInBounds_toArray, List.set_cons_zero, List.set_cons_succ]
  refine wpAnyH_take (i := 2) (oi := { dst := Option.some 20, op := Go.Op.move (Go.Operand.tmp 0), type := 9, pos := "super.go:50", after := #[], guard := Option.none }) (v := ?_) rfl (by kernel_rfl) (by kernel_rfl) (by kernel_rfl) (fun _ _ _ h => h) (Or.inl ⟨by rfl, ?_⟩) (by assumption) ?_
  rotate_left
  · intro w hSw; go_simp; (try with_reducible rfl)
  simp only [Act.put, List.setIfInBounds_toArray, List.set_cons_zero, List.set_cons_succ]
  refine wpAnyH_take (i := 3) (oi := { dst := Option.some 21, op := Go.Op.index 9 (Go.Operand.tmp 20) (Go.Operand.const (Go.Value.int Go.IntKind.i64 4)), type := 5, pos := "super.go:50", after := #[{ on := 2, ground := Go.Ground.data }], guard := Option.none }) (v := ?_) rfl (by kernel_rfl) (by kernel_rfl) (by kernel_rfl) (fun _ _ _ h => h) (Or.inl ⟨by rfl, ?_⟩) (by assumption) ?_
  rotate_left
  · intro w hSw; go_simp; (try with_reducible rfl)
  simp only [Act.put, List.setIfInBounds_toArray, List.set_cons_zero, List.set_cons_succ]
  refine wpAnyH_take (i := 4) (oi := { dst := Option.some 22, op := Go.Op.convert 5 3 (Go.Operand.tmp 21), type := 3, pos := "super.go:50", after := #[{ on := 3, ground := Go.Ground.data }], guard := Option.none }) (v := ?_) rfl (by kernel_rfl) (by kernel_rfl) (by kernel_rfl) (fun _ _ _ h => h) (Or.inl ⟨by rfl, ?_⟩) (by assumption) ?_
  rotate_left
  · intro w hSw; go_simp; (try with_reducible rfl)
  simp only [Act.put, List.setIfInBounds_toArray, List.set_cons_zero, List.set_cons_succ]
  refine wpAnyH_take (i := 5) (oi := { dst := Option.some 23, op := Go.Op.move (Go.Operand.tmp 0), type := 9, pos := "super.go:50", after := #[], guard := Option.none }) (v := ?_) rfl (by kernel_rfl) (by kernel_rfl) (by kernel_rfl) (fun _ _ _ h => h) (Or.inl ⟨by rfl, ?_⟩) (by assumption) ?_
  rotate_left
  · intro w hSw; go_simp; (try with_reducible rfl)
  simp only [Act.put, List.setIfInBounds_toArray, List.set_cons_zero, List.set_cons_succ]
  refine wpAnyH_take (i := 6) (oi := { dst := Option.some 24, op := Go.Op.slice 9 (Go.Operand.tmp 23) (Option.some (Go.Operand.const (Go.Value.int Go.IntKind.i64 5))) Option.none Option.none, type := 9, pos := "super.go:50", after := #[{ on := 5, ground := Go.Ground.data }], guard := Option.none }) (v := ?_) rfl (by kernel_rfl) (by kernel_rfl) (by kernel_rfl) (fun _ _ _ h => h) (Or.inl ⟨by rfl, ?_⟩) (by assumption) ?_
  rotate_left
  · intro w hSw; go_simp; (try with_reducible rfl)
  simp only [Act.put, List.setIfInBounds_toArray, List.set_cons_zero, List.set_cons_succ]
  refine wpAnyH_ready (rs := [7, 11]) (by kernel_rfl) (by simp) ?_
  refine (AllReadyH.cons (o := { dst := Option.some 25, op := Go.Op.convert 9 56 (Go.Operand.tmp 24), type := 56, pos := "super.go:50", after := #[{ on := 6, ground := Go.Ground.data }], guard := Option.none }) rfl (fun K hK => ?_) (AllReadyH.cons (o := { dst := Option.some 6, op := Go.Op.alloc 72, type := 0, pos := "super.go:50", after := #[], guard := Option.none }) rfl (fun K hK => ?_) AllReadyH.nil))
  · first | rw [if_pos (by rfl)] | skip
    refine wp_bytes (.tmp 24) rfl U HUL.out rfl ?_
    have hbm : Below w3.heap.size w3 (w3.drew.alloc (.cells (bytesRow (strP U) (grownCap w3 30 0 5)) 5 ((bytesRow (strP U) (grownCap w3 30 0 5)).size, (bytesRow (strP U) (grownCap w3 30 0 5)).size + 1))) := (Below.drew (Below.refl _ _)).alloc (Nat.le_refl _) _
    have hrN : (w3.drew.alloc (.cells (bytesRow (strP U) (grownCap w3 30 0 5)) 5 ((bytesRow (strP U) (grownCap w3 30 0 5)).size, (bytesRow (strP U) (grownCap w3 30 0 5)).size + 1))).rangeAt w3.heap.size 0 (pv U) := bytes_range U w3.drew _ _ _
    have hsN : w3.heap.size < (w3.drew.alloc (.cells (bytesRow (strP U) (grownCap w3 30 0 5)) 5 ((bytesRow (strP U) (grownCap w3 30 0 5)).size, (bytesRow (strP U) (grownCap w3 30 0 5)).size + 1))).heap.size := alloc_lt w3.drew _
    obtain ⟨w4, hww4⟩ : ∃ q, q = (w3.drew.alloc (.cells (bytesRow (strP U) (grownCap w3 30 0 5)) 5 ((bytesRow (strP U) (grownCap w3 30 0 5)).size, (bytesRow (strP U) (grownCap w3 30 0 5)).size + 1))) := ⟨_, rfl⟩
    rw [← hww4] at hbm hrN hsN
    try rw [← hww4]
    obtain ⟨cp, hcp⟩ : ∃ q, q = grownCap w3 30 0 5 := ⟨_, rfl⟩
    try rw [← hcp]
    clear hww4 hcp
    have HN4 := Lib.hid hrN
    have HB4 := Lib.hid (HB3.out.trans (hbm.mono HB3.out.size))
    have HR4 := Lib.hid (there_under HR3.out hbm HW3.out)
    have HW4 : Hid (w.heap.size < w4.heap.size) := Lib.hid (Nat.lt_of_lt_of_le HW3.out hbm.size)
    have HNs := Lib.hid hsN
    obtain ⟨N, hNe⟩ : ∃ q, q = w3.heap.size := ⟨_, rfl⟩
    rw [← hNe] at HN4 HNs
    try rw [← hNe]
    have HNx := HN4
    clear hrN hbm hsN hNe
    try dsimp only
    refine hK.out _ _ trivial (fun hHeldc => wpAnyH_switch (S' := fun wz => wz.rangeAt N 0 (pv U)) (fun _ _ => trivial) _ _ _ _ ?_)
    have hHeldd := HNx.out
    clear hK K
    try simp only [Act.put, List.setIfInBounds_toArray, List.set_cons_zero, List.set_cons_succ]
    refine wpAnyH_take (i := 8) (oi := { dst := Option.some 26, op := Go.Op.sliceToArrayPointer 70 (Go.Operand.tmp 25), type := 0, pos := "super.go:50", after := #[{ on := 7, ground := Go.Ground.data }], guard := Option.none }) (v := ?_) rfl (by kernel_rfl) (by kernel_rfl) (by kernel_rfl) (fun _ _ _ h => h) (Or.inl ⟨by rfl, ?_⟩) (by assumption) ?_
    rotate_left
    · intro w hSw; go_simp; (try with_reducible rfl)
    simp only [Act.put, List.setIfInBounds_toArray, List.set_cons_zero, List.set_cons_succ]
    refine wpAnyH_take (i := 9) (oi := { dst := Option.some 27, op := Go.Op.load 70 (Go.Operand.tmp 26), type := 70, pos := "super.go:50", after := #[{ on := 8, ground := Go.Ground.data }], guard := Option.none }) rfl (by kernel_rfl) (by kernel_rfl) (by kernel_rfl) (fun _ _ _ h => h) (yieldsIf_load_mid (by rfl) 70 (.tmp 26) rfl N 0 rfl (pv U) _ (fun _ h => h) Tryd.underlying70 rfl (szof_bs HUL.out)) (by assumption) ?_
    simp only [Act.put, List.setIfInBounds_toArray, List.set_cons_zero, List.set_cons_succ]
    refine wpAnyH_take (i := 10) (oi := { dst := Option.some 28, op := Go.Op.build 72 #[(0, Go.Operand.tmp 19), (1, Go.Operand.tmp 22), (2, Go.Operand.tmp 27)], type := 72, pos := "super.go:50", after := #[{ on := 1, ground := Go.Ground.data }, { on := 4, ground := Go.Ground.data }, { on := 9, ground := Go.Ground.data }], guard := Option.none }) rfl (by kernel_rfl) (by kernel_rfl) (by kernel_rfl) (fun _ _ _ h => h) (.inl ⟨by rfl, fun w _ => run_bd_sp (.tmp 19) (.tmp 22) (.tmp 27) rfl g (x.toNat : Int) U HUL.out rfl rfl rfl w⟩) (by assumption) ?_
    simp only [Act.put, List.setIfInBounds_toArray, List.set_cons_zero, List.set_cons_succ]
    rw [← HS.out]
    refine wpAnyH_ready (rs := [11]) (by kernel_rfl) (by simp) ?_
    refine (AllReadyH.cons (o := { dst := Option.some 6, op := Go.Op.alloc 72, type := 0, pos := "super.go:50", after := #[], guard := Option.none }) rfl (fun K hK => ?_) AllReadyH.nil)
    first | rw [if_pos (by rfl)] | skip
    refine wp_al_sp rfl ?_
    have hbm : Below w4.heap.size w4 (w4.alloc (.cells (sv sup0).toArray 72)) := (Below.refl _ _).alloc (Nat.le_refl _) _
    have htM := there_new w4 (sv sup0).toArray 72 32 (by rw [ssz]; exact Nat.le_refl _)
    have hsM : w4.heap.size < (w4.alloc (.cells (sv sup0).toArray 72)).heap.size := by simp
    obtain ⟨w5, hww5⟩ : ∃ q, q = w4.alloc (.cells (sv sup0).toArray 72) := ⟨_, rfl⟩
    rw [← hww5] at hbm htM hsM
    try rw [← hww5]
    clear hww5
    have HB5 := Lib.hid (HB4.out.trans (hbm.mono HB4.out.size))
    have HR5 := Lib.hid (there_under HR4.out hbm HW4.out)
    have HW5 : Hid (w.heap.size < w5.heap.size) := Lib.hid (Nat.lt_of_lt_of_le HW4.out hbm.size)
    have HN := Lib.hid (range_under HN4.out hbm HNs.out)
    have HM := Lib.hid htM
    have HMR : Hid (w.heap.size < w4.heap.size) := HW4
    have HMN : Hid (w4.heap.size ≠ N) := Lib.hid (by have := HNs.out; omega)
    obtain ⟨M, hMe⟩ : ∃ q, q = w4.heap.size := ⟨_, rfl⟩
    rw [← hMe] at HM HMR HMN
    try rw [← hMe]
    clear htM hbm hsM hMe
    try dsimp only
    refine hK.out _ _ HN.out (fun hHeld2 => ?_)
    clear hK K
    try simp only [Act.put, List.setIfInBounds_toArray, List.set_cons_zero, List.set_cons_succ]
    refine wpAnyH_ready (rs := [12]) (by kernel_rfl) (by simp) ?_
    refine (AllReadyH.cons (o := { dst := Option.none, op := Go.Op.store 72 (Go.Operand.tmp 6) (Go.Operand.tmp 28), type := 0, pos := "super.go:50", after := #[{ on := 11, ground := Go.Ground.data }, { on := 10, ground := Go.Ground.data }, { on := 0, ground := Go.Ground.phase }, { on := 1, ground := Go.Ground.phase }, { on := 2, ground := Go.Ground.phase }, { on := 3, ground := Go.Ground.phase }, { on := 4, ground := Go.Ground.phase }, { on := 5, ground := Go.Ground.phase }, { on := 6, ground := Go.Ground.phase }, { on := 7, ground := Go.Ground.phase }, { on := 8, ground := Go.Ground.phase }, { on := 9, ground := Go.Ground.phase }, { on := 10, ground := Go.Ground.phase }, { on := 11, ground := Go.Ground.phase }], guard := Option.none }) rfl (fun K hK => ?_) AllReadyH.nil)
    refine wp_store_mid 72 (.tmp 6) (.tmp 28) rfl M 0 (sv s).toArray rfl rfl (by rw [List.size_toArray, sv_length HSL.out]; exact HM.out) (by rw [List.size_toArray]; exact szof_sp HSL.out) sv_all ?_
    skip
    have hsat : SupAt (w5.setCells M 0 (sv s)) M s := ⟨World.rangeAt_setCells_same _ _ _ _ (by rw [sv_length HSL.out]; exact HM.out), World.there_setCells HM.out _ _ _, HSL.out⟩
    have htt : Touch (fun k => k = M) w5 (w5.setCells M 0 (sv s)) := Touch.setCells (S := fun k => k = M) (Touch.refl _ w5) M (.inl rfl) (sv s) 0 w5 (Touch.refl _ _)
    have hr6 := htt.there HR5.out (fun e => by have := HMR.out; omega)
    have hb6 : Below w.heap.size w (w5.setCells M 0 (sv s)) := HB5.out.trans (htt.below HB5.out.size (fun k e => by have := HMR.out; omega))
    have hs6 : w.heap.size < (w5.setCells M 0 (sv s)).heap.size := Nat.lt_of_lt_of_le HW5.out htt.size
    obtain ⟨w6, hw6⟩ : ∃ q, q = w5.setCells M 0 (sv s) := ⟨_, rfl⟩
    have e6 : w5.setCells M 0 (sv s).toArray.toList = w6 := by rw [hw6]
    rw [e6]
    have hn6 := htt.range HN.out (fun e => HMN.out e.symm)
    rw [← hw6] at hsat hr6 hb6 hs6 hn6
    have HN6 := Lib.hid hn6
    clear hn6
    have HS6 := Lib.hid hsat
    have HR6 := Lib.hid hr6
    have HB6 := Lib.hid hb6
    have HW6 := Lib.hid hs6
    clear hsat hr6 hb6 hs6 htt hw6 e6
    have hr12 : w6.rangeAt N 0 (pv U) := HN6.out
    refine hK.out _ _ hr12 (fun hHeld12 => ?_)
    clear hK K
    try simp only [Act.put, List.setIfInBounds_toArray, List.set_cons_zero, List.set_cons_succ]
    refine wpAnyH_done (by kernel_rfl) ?_ _
    go_wp2_with (first | ((with_reducible refine at_ld 72 (.tmp 6) ?_); refine ld_sp rfl _ rfl M (0) rfl s ?_ ?_ ?_; exact HSL.out; exact HS6.out.r))
    refine (right_any s HSL.out _).mono ?_
    rintro e w7 ⟨rfl, hb⟩
    rw [HRT.out]
    have HS7 := Lib.hid (HS6.out.under hb HS6.out.lt)
    have HB7 := Lib.hid (HB6.out.trans (hb.mono HB6.out.size))
    have HR7 := Lib.hid (there_under HR6.out hb HW6.out)
    have HW7 : Hid (w.heap.size < w7.heap.size) := Lib.hid (Nat.lt_of_lt_of_le HW6.out hb.size)
    clear hb
    go_wp2_with (first | ((with_reducible refine at_ld 72 (.tmp 6) ?_); refine ld_sp rfl _ rfl M (0) rfl s ?_ ?_ ?_; exact HSL.out; exact HS7.out.r) | ((with_reducible refine at_st 72 (.tmp 2) (.tmp 35) ?_); refine st_sp rfl _ _ rfl w.heap.size 0 rfl s ?_ rfl ?_ ?_; exact HSL.out; exact HR7.out))
    have hld := run_loadVar_mid (P := Tryd.prog) (w7.setCells w.heap.size 0 (sv s)) w.heap.size 0 72 (sv s) _ (World.rangeAt_setCells_same w7 _ _ _ (by rw [sv_length HSL.out]; exact HR7.out)) Tryd.underlying72 rfl (szof_sp HSL.out)
    refine bodyPost_ret (v := .tuple #[.agg (sv s).toArray, .nilIface]) (results_pg Tryd.results45 _ _ _ _ _ rfl rfl hld) rfl ⟨by rfl, HB7.out.trans (setCells_below _ _ _ _ _ (Nat.le_refl _))⟩
  · first | rw [if_pos (by rfl)] | skip
    refine wp_al_sp rfl ?_
    have hbm : Below w3.heap.size w3 (w3.alloc (.cells (sv sup0).toArray 72)) := (Below.refl _ _).alloc (Nat.le_refl _) _
    have htM := there_new w3 (sv sup0).toArray 72 32 (by rw [ssz]; exact Nat.le_refl _)
    have hsM : w3.heap.size < (w3.alloc (.cells (sv sup0).toArray 72)).heap.size := by simp
    obtain ⟨w4, hww4⟩ : ∃ q, q = w3.alloc (.cells (sv sup0).toArray 72) := ⟨_, rfl⟩
    rw [← hww4] at hbm htM hsM
    try rw [← hww4]
    clear hww4
    have HM4 := Lib.hid htM
    have HB4 := Lib.hid (HB3.out.trans (hbm.mono HB3.out.size))
    have HR4 := Lib.hid (there_under HR3.out hbm HW3.out)
    have HW4 : Hid (w.heap.size < w4.heap.size) := Lib.hid (Nat.lt_of_lt_of_le HW3.out hbm.size)
    have HMs := Lib.hid hsM
    have HMR : Hid (w.heap.size < w3.heap.size) := HW3
    obtain ⟨M, hMe⟩ : ∃ q, q = w3.heap.size := ⟨_, rfl⟩
    rw [← hMe] at HM4 HMs HMR
    try rw [← hMe]
    clear htM hbm hsM hMe
    try dsimp only
    refine hK.out _ _ trivial (fun hHeld1 => ?_)
    clear hK K
    try simp only [Act.put, List.setIfInBounds_toArray, List.set_cons_zero, List.set_cons_succ]
    refine wpAnyH_ready (rs := [7]) (by kernel_rfl) (by simp) ?_
    refine (AllReadyH.cons (o := { dst := Option.some 25, op := Go.Op.convert 9 56 (Go.Operand.tmp 24), type := 56, pos := "super.go:50", after := #[{ on := 6, ground := Go.Ground.data }], guard := Option.none }) rfl (fun K hK => ?_) AllReadyH.nil)
    first | rw [if_pos (by rfl)] | skip
    refine wp_bytes (.tmp 24) rfl U HUL.out rfl ?_
    have hbm : Below w4.heap.size w4 (w4.drew.alloc (.cells (bytesRow (strP U) (grownCap w4 30 0 5)) 5 ((bytesRow (strP U) (grownCap w4 30 0 5)).size, (bytesRow (strP U) (grownCap w4 30 0 5)).size + 1))) := (Below.drew (Below.refl _ _)).alloc (Nat.le_refl _) _
    have hrN : (w4.drew.alloc (.cells (bytesRow (strP U) (grownCap w4 30 0 5)) 5 ((bytesRow (strP U) (grownCap w4 30 0 5)).size, (bytesRow (strP U) (grownCap w4 30 0 5)).size + 1))).rangeAt w4.heap.size 0 (pv U) := bytes_range U w4.drew _ _ _
    have hsN : w4.heap.size < (w4.drew.alloc (.cells (bytesRow (strP U) (grownCap w4 30 0 5)) 5 ((bytesRow (strP U) (grownCap w4 30 0 5)).size, (bytesRow (strP U) (grownCap w4 30 0 5)).size + 1))).heap.size := alloc_lt w4.drew _
    obtain ⟨w5, hww5⟩ : ∃ q, q = (w4.drew.alloc (.cells (bytesRow (strP U) (grownCap w4 30 0 5)) 5 ((bytesRow (strP U) (grownCap w4 30 0 5)).size, (bytesRow (strP U) (grownCap w4 30 0 5)).size + 1))) := ⟨_, rfl⟩
    rw [← hww5] at hbm hrN hsN
    try rw [← hww5]
    obtain ⟨cp, hcp⟩ : ∃ q, q = grownCap w4 30 0 5 := ⟨_, rfl⟩
    try rw [← hcp]
    clear hww5 hcp
    have HB5 := Lib.hid (HB4.out.trans (hbm.mono HB4.out.size))
    have HR5 := Lib.hid (there_under HR4.out hbm HW4.out)
    have HW5 : Hid (w.heap.size < w5.heap.size) := Lib.hid (Nat.lt_of_lt_of_le HW4.out hbm.size)
    have HN := Lib.hid hrN
    have HM := Lib.hid (there_under HM4.out hbm HMs.out)
    have HMN : Hid (M ≠ w4.heap.size) := Lib.hid (by have := HMs.out; omega)
    obtain ⟨N, hNe⟩ : ∃ q, q = w4.heap.size := ⟨_, rfl⟩
    rw [← hNe] at HN HMN
    try rw [← hNe]
    have HNx := HN
    clear hrN hbm hsN hNe
    try dsimp only
    refine hK.out _ _ trivial (fun hHeldc => wpAnyH_switch (S' := fun wz => wz.rangeAt N 0 (pv U)) (fun _ _ => trivial) _ _ _ _ ?_)
    have hHeldd := HNx.out
    clear hK K
    try simp only [Act.put, List.setIfInBounds_toArray, List.set_cons_zero, List.set_cons_succ]
    refine wpAnyH_take (i := 8) (oi := { dst := Option.some 26, op := Go.Op.sliceToArrayPointer 70 (Go.Operand.tmp 25), type := 0, pos := "super.go:50", after := #[{ on := 7, ground := Go.Ground.data }], guard := Option.none }) (v := ?_) rfl (by kernel_rfl) (by kernel_rfl) (by kernel_rfl) (fun _ _ _ h => h) (Or.inl ⟨by rfl, ?_⟩) (by assumption) ?_
    rotate_left
    · intro w hSw; go_simp; (try with_reducible rfl)
    simp only [Act.put, List.setIfInBounds_toArray, List.set_cons_zero, List.set_cons_succ]
    refine wpAnyH_take (i := 9) (oi := { dst := Option.some 27, op := Go.Op.load 70 (Go.Operand.tmp 26), type := 70, pos := "super.go:50", after := #[{ on := 8, ground := Go.Ground.data }], guard := Option.none }) rfl (by kernel_rfl) (by kernel_rfl) (by kernel_rfl) (fun _ _ _ h => h) (yieldsIf_load_mid (by rfl) 70 (.tmp 26) rfl N 0 rfl (pv U) _ (fun _ h => h) Tryd.underlying70 rfl (szof_bs HUL.out)) (by assumption) ?_
    simp only [Act.put, List.setIfInBounds_toArray, List.set_cons_zero, List.set_cons_succ]
    refine wpAnyH_take (i := 10) (oi := { dst := Option.some 28, op := Go.Op.build 72 #[(0, Go.Operand.tmp 19), (1, Go.Operand.tmp 22), (2, Go.Operand.tmp 27)], type := 72, pos := "super.go:50", after := #[{ on := 1, ground := Go.Ground.data }, { on := 4, ground := Go.Ground.data }, { on := 9, ground := Go.Ground.data }], guard := Option.none }) rfl (by kernel_rfl) (by kernel_rfl) (by kernel_rfl) (fun _ _ _ h => h) (.inl ⟨by rfl, fun w _ => run_bd_sp (.tmp 19) (.tmp 22) (.tmp 27) rfl g (x.toNat : Int) U HUL.out rfl rfl rfl w⟩) (by assumption) ?_
    simp only [Act.put, List.setIfInBounds_toArray, List.set_cons_zero, List.set_cons_succ]
    rw [← HS.out]
    refine wpAnyH_ready (rs := [12]) (by kernel_rfl) (by simp) ?_
    refine (AllReadyH.cons (o := { dst := Option.none, op := Go.Op.store 72 (Go.Operand.tmp 6) (Go.Operand.tmp 28), type := 0, pos := "super.go:50", after := #[{ on := 11, ground := Go.Ground.data }, { on := 10, ground := Go.Ground.data }, { on := 0, ground := Go.Ground.phase }, { on := 1, ground := Go.Ground.phase }, { on := 2, ground := Go.Ground.phase }, { on := 3, ground := Go.Ground.phase }, { on := 4, ground := Go.Ground.phase }, { on := 5, ground := Go.Ground.phase }, { on := 6, ground := Go.Ground.phase }, { on := 7, ground := Go.Ground.phase }, { on := 8, ground := Go.Ground.phase }, { on := 9, ground := Go.Ground.phase }, { on := 10, ground := Go.Ground.phase }, { on := 11, ground := Go.Ground.phase }], guard := Option.none }) rfl (fun K hK => ?_) AllReadyH.nil)
    refine wp_store_mid 72 (.tmp 6) (.tmp 28) rfl M 0 (sv s).toArray rfl rfl (by rw [List.size_toArray, sv_length HSL.out]; exact HM.out) (by rw [List.size_toArray]; exact szof_sp HSL.out) sv_all ?_
    skip
    have hsat : SupAt (w5.setCells M 0 (sv s)) M s := ⟨World.rangeAt_setCells_same _ _ _ _ (by rw [sv_length HSL.out]; exact HM.out), World.there_setCells HM.out _ _ _, HSL.out⟩
    have htt : Touch (fun k => k = M) w5 (w5.setCells M 0 (sv s)) := Touch.setCells (S := fun k => k = M) (Touch.refl _ w5) M (.inl rfl) (sv s) 0 w5 (Touch.refl _ _)
    have hr6 := htt.there HR5.out (fun e => by have := HMR.out; omega)
    have hb6 : Below w.heap.size w (w5.setCells M 0 (sv s)) := HB5.out.trans (htt.below HB5.out.size (fun k e => by have := HMR.out; omega))
    have hs6 : w.heap.size < (w5.setCells M 0 (sv s)).heap.size := Nat.lt_of_lt_of_le HW5.out htt.size
    obtain ⟨w6, hw6⟩ : ∃ q, q = w5.setCells M 0 (sv s) := ⟨_, rfl⟩
    have e6 : w5.setCells M 0 (sv s).toArray.toList = w6 := by rw [hw6]
    rw [e6]
    have hn6 := htt.range HN.out (fun e => HMN.out e.symm)
    rw [← hw6] at hsat hr6 hb6 hs6 hn6
    have HN6 := Lib.hid hn6
    clear hn6
    have HS6 := Lib.hid hsat
    have HR6 := Lib.hid hr6
    have HB6 := Lib.hid hb6
    have HW6 := Lib.hid hs6
    clear hsat hr6 hb6 hs6 htt hw6 e6
    have hr12 : w6.rangeAt N 0 (pv U) := HN6.out
    refine hK.out _ _ hr12 (fun hHeld12 => ?_)
    clear hK K
    try simp only [Act.put, List.setIfInBounds_toArray, List.set_cons_zero, List.set_cons_succ]
    refine wpAnyH_done (by kernel_rfl) ?_ _
    go_wp2_with (first | ((with_reducible refine at_ld 72 (.tmp 6) ?_); refine ld_sp rfl _ rfl M (0) rfl s ?_ ?_ ?_; exact HSL.out; exact HS6.out.r))
    refine (right_any s HSL.out _).mono ?_
    rintro e w7 ⟨rfl, hb⟩
    rw [HRT.out]
    have HS7 := Lib.hid (HS6.out.under hb HS6.out.lt)
    have HB7 := Lib.hid (HB6.out.trans (hb.mono HB6.out.size))
    have HR7 := Lib.hid (there_under HR6.out hb HW6.out)
    have HW7 : Hid (w.heap.size < w7.heap.size) := Lib.hid (Nat.lt_of_lt_of_le HW6.out hb.size)
    clear hb
    go_wp2_with (first | ((with_reducible refine at_ld 72 (.tmp 6) ?_); refine ld_sp rfl _ rfl M (0) rfl s ?_ ?_ ?_; exact HSL.out; exact HS7.out.r) | ((with_reducible refine at_st 72 (.tmp 2) (.tmp 35) ?_); refine st_sp rfl _ _ rfl w.heap.size 0 rfl s ?_ rfl ?_ ?_; exact HSL.out; exact HR7.out))
    have hld := run_loadVar_mid (P := Tryd.prog) (w7.setCells w.heap.size 0 (sv s)) w.heap.size 0 72 (sv s) _ (World.rangeAt_setCells_same w7 _ _ _ (by rw [sv_length HSL.out]; exact HR7.out)) Tryd.underlying72 rfl (szof_sp HSL.out)
    refine bodyPost_ret (v := .tuple #[.agg (sv s).toArray, .nilIface]) (results_pg Tryd.results45 _ _ _ _ _ rfl rfl hld) rfl ⟨by rfl, HB7.out.trans (setCells_below _ _ _ _ _ (Nat.le_refl _))⟩
set_option maxHeartbeats 4000000 in
set_option maxRecDepth 100000 in
theorem sread_no (d : ByteArray) (h : d.size = 35) (hr : rightB (supOf d) = false) (w : World) : Calls Tryd.prog 45 #[.string d] w fun e w' => ∃ v, e = .returned (.tuple #[.agg (sv sup0).toArray, v]) ∧ ErrC w.heap.size w' v 2 ∧ Below w.heap.size w w' := by
  have hne : ((d.size : Int) != 35) = false := by simp; omega
  have hbz := build_sp0
  have hrg := (supOf_fits h).g0
  have hrg1 := (supOf_fits h).g1
  have hul := (supOf_fits h).l
  have HG := Lib.hid (fun W => Get_ok d 4 W (by decide) (by omega) (by omega))
  obtain ⟨g, hg⟩ : ∃ q, q = getK d 4 := ⟨_, rfl⟩
  have hgs : (supOf d).g = g := by rw [hg]; rfl
  have eg : (4 : Int).toNat = 4 := rfl
  rw [eg, ← hg] at HG
  rw [hgs] at hrg hrg1
  have hw32 : IntKind.u32.wrap g = g := by simp [IntKind.wrap, IntKind.bits, IntKind.signed]; omega
  have hm32 : g % 4294967296 = g := by omega
  obtain ⟨U, hU⟩ : ∃ q, q = d.data.toList.drop 5 := ⟨_, rfl⟩
  have hus : (supOf d).u = U := by rw [hU]; rfl
  rw [hus] at hul
  have hex : d.extract 5 35 = strP U := by have k := strP_drop d.data.toList 5 (by rw [list_size]; omega); rw [strP_data, h] at k; rw [hU]; exact k
  obtain ⟨x, hx⟩ : ∃ x, d.data.toList[4]? = some x := ⟨_, List.getElem?_eq_getElem (by rw [list_size]; omega)⟩
  have hb4 := byte_of d.data.toList 4 x hx
  rw [strP_data] at hb4
  obtain ⟨hl4, hxe⟩ := hb4
  have hb5 := bt_list d.data.toList 4 x hx
  rw [strP_data] at hb5
  have hrs : (supOf d).r = (x.toNat : Int) := hb5
  have hwx := (byte_wraps x).2
  have hx256 := x.toNat_lt
  have hse : supOf d = ⟨g, (x.toNat : Int), U⟩ := by unfold supOf; rw [← hg, ← hU]; congr 1
  rw [hse] at hr
  obtain ⟨s, hs⟩ : ∃ q : Sup, q = ⟨g, (x.toNat : Int), U⟩ := ⟨_, rfl⟩
  rw [← hs] at hr
  have HS := Lib.hid hs
  have HRT := Lib.hid hr
  have HUL := Lib.hid hul
  have HSL : Hid (s.u.length = 30) := Lib.hid (by rw [hs]; exact hul)
  have hbn := bytes_new U hul
  have hz72 := zero_sp
  have haa := array_at30
  clear hr hul hs hse hrs hx hg hU hus hgs hb5 eg
  have HB1 : Hid (Below w.heap.size w (w.alloc (.cells (sv sup0).toArray 72))) := Lib.hid ((Below.refl _ _).alloc (Nat.le_refl _) _)
  have HR1 : Hid ((w.alloc (.cells (sv sup0).toArray 72)).there w.heap.size 0 32) := Lib.hid (there_new _ _ _ 32 (by rw [ssz]; exact Nat.le_refl _))
  have HW1 : Hid (w.heap.size < (w.alloc (.cells (sv sup0).toArray 72)).heap.size) := Lib.hid (by simp)
  go_enter Tryd.func45, Tryd.ntmps45
  go_upto_region 1 with (first | ((with_reducible refine at_al 72 ?_); refine al_sp rfl rfl ?_))
  obtain ⟨w1, hw1⟩ : ∃ q, q = w.alloc (.cells (sv sup0).toArray 72) := ⟨_, rfl⟩
  rw [← hw1] at HB1 HR1 HW1 ⊢
  clear hw1
  go_wp2_with fail
  refine (HG.out _).mono ?_
  rintro e w2 ⟨rfl, hb⟩
  have HB2 := Lib.hid (HB1.out.trans (hb.mono HB1.out.size))
  have HR2 := Lib.hid (there_under HR1.out hb HW1.out)
  have HW2 : Hid (w.heap.size < w2.heap.size) := Lib.hid (Nat.lt_of_lt_of_le HW1.out hb.size)
  clear hb
  go_upto_region 4 with fail
  refine wp_region_held_drew (S := fun _ => True) (by kernel_rfl) trivial (fun hHeld => ?_)
  have hdr : Below w2.heap.size w2 w2.drew := Below.drew (Below.refl _ _)
  have HB3 := Lib.hid (HB2.out.trans (hdr.mono HB2.out.size))
  have HR3 := Lib.hid (there_under HR2.out hdr HW2.out)
  have HW3 : Hid (w.heap.size < w2.drew.heap.size) := Lib.hid HW2.out
  obtain ⟨w3, hw3⟩ : ∃ q, q = w2.drew := ⟨_, rfl⟩
  rw [← hw3] at HB3 HR3 HW3 ⊢
  clear hw3 hdr
  refine wpAnyH_take (i := 0) (oi := { dst := Option.some 18, op := Go.Op.move (Go.Operand.tmp 4), type := 3, pos := "super.go:50", after := #[], guard := Option.none }) (v := ?_) rfl (by kernel_rfl) (by kernel_rfl) (by kernel_rfl) (fun _ _ _ h => h) (Or.inl ⟨by rfl, ?_⟩) (by assumption) ?_
  rotate_left
  · intro w hSw; go_simp; (try with_reducible rfl)
  simp only [Act.put, List.setIfInBounds_toArray, List.set_cons_zero, List.set_cons_succ]
  refine wpAnyH_take (i := 1) (oi := { dst := Option.some 19, op := Go.Op.convert 3 37 (Go.Operand.tmp 18), type := 37, pos := "super.go:50", after := #[{ on := 0, ground := Go.Ground.data }], guard := Option.none }) (v := ?_) rfl (by kernel_rfl) (by kernel_rfl) (by kernel_rfl) (fun _ _ _ h => h) (Or.inl ⟨by rfl, ?_⟩) (by assumption) ?_
  rotate_left
  · intro w hSw; go_simp; (try with_reducible rfl)
  simp only [Act.put, List.setIfInBounds_toArray, List.set_cons_zero, List.set_cons_succ]
  refine wpAnyH_take (i := 2) (oi := { dst := Option.some 20, op := Go.Op.move (Go.Operand.tmp 0), type := 9, pos := "super.go:50", after := #[], guard := Option.none }) (v := ?_) rfl (by kernel_rfl) (by kernel_rfl) (by kernel_rfl) (fun _ _ _ h => h) (Or.inl ⟨by rfl, ?_⟩) (by assumption) ?_
  rotate_left
  · intro w hSw; go_simp; (try with_reducible rfl)
  simp only [Act.put, List.setIfInBounds_toArray, List.set_cons_zero, List.set_cons_succ]
  refine wpAnyH_take (i := 3) (oi := { dst := Option.some 21, op := Go.Op.index 9 (Go.Operand.tmp 20) (Go.Operand.const (Go.Value.int Go.IntKind.i64 4)), type := 5, pos := "super.go:50", after := #[{ on := 2, ground := Go.Ground.data }], guard := Option.none }) (v := ?_) rfl (by kernel_rfl) (by kernel_rfl) (by kernel_rfl) (fun _ _ _ h => h) (Or.inl ⟨by rfl, ?_⟩) (by assumption) ?_
  rotate_left
  · intro w hSw; go_simp; (try with_reducible rfl)
  simp only [Act.put, List.setIfInBounds_toArray, List.set_cons_zero, List.set_cons_succ]
  refine wpAnyH_take (i := 4) (oi := { dst := Option.some 22, op := Go.Op.convert 5 3 (Go.Operand.tmp 21), type := 3, pos := "super.go:50", after := #[{ on := 3, ground := Go.Ground.data }], guard := Option.none }) (v := ?_) rfl (by kernel_rfl) (by kernel_rfl) (by kernel_rfl) (fun _ _ _ h => h) (Or.inl ⟨by rfl, ?_⟩) (by assumption) ?_
  rotate_left
  · intro w hSw; go_simp; (try with_reducible rfl)
  simp only [Act.put, List.setIfInBounds_toArray, List.set_cons_zero, List.set_cons_succ]
  refine wpAnyH_take (i := 5) (oi := { dst := Option.some 23, op := Go.Op.move (Go.Operand.tmp 0), type := 9, pos := "super.go:50", after := #[], guard := Option.none }) (v := ?_) rfl (by kernel_rfl) (by kernel_rfl) (by kernel_rfl) (fun _ _ _ h => h) (Or.inl ⟨by rfl, ?_⟩) (by assumption) ?_
  rotate_left
  · intro w hSw; go_simp; (try with_reducible rfl)
  simp only [Act.put, List.setIfInBounds_toArray, List.set_cons_zero, List.set_cons_succ]
  refine wpAnyH_take (i := 6) (oi := { dst := Option.some 24, op := Go.Op.slice 9 (Go.Operand.tmp 23) (Option.some (Go.Operand.const (Go.Value.int Go.IntKind.i64 5))) Option.none Option.none, type := 9, pos := "super.go:50", after := #[{ on := 5, ground := Go.Ground.data }], guard := Option.none }) (v := ?_) rfl (by kernel_rfl) (by kernel_rfl) (by kernel_rfl) (fun _ _ _ h => h) (Or.inl ⟨by rfl, ?_⟩) (by assumption) ?_
  rotate_left
  · intro w hSw; go_simp; (try with_reducible rfl)
  simp only [Act.put, List.setIfInBounds_toArray, List.set_cons_zero, List.set_cons_succ]
  refine wpAnyH_ready (rs := [7, 11]) (by kernel_rfl) (by simp) ?_
  refine (AllReadyH.cons (o := { dst := Option.some 25, op := Go.Op.convert 9 56 (Go.Operand.tmp 24), type := 56, pos := "super.go:50", after := #[{ on := 6, ground := Go.Ground.data }], guard := Option.none }) rfl (fun K hK => ?_) (AllReadyH.cons (o := { dst := Option.some 6, op := Go.Op.alloc 72, type := 0, pos := "super.go:50", after := #[], guard := Option.none }) rfl (fun K hK => ?_) AllReadyH.nil))
  · first | rw [if_pos (by rfl)] | skip
    refine wp_bytes (.tmp 24) rfl U HUL.out rfl ?_
    have hbm : Below w3.heap.size w3 (w3.drew.alloc (.cells (bytesRow (strP U) (grownCap w3 30 0 5)) 5 ((bytesRow (strP U) (grownCap w3 30 0 5)).size, (bytesRow (strP U) (grownCap w3 30 0 5)).size + 1))) := (Below.drew (Below.refl _ _)).alloc (Nat.le_refl _) _
    have hrN : (w3.drew.alloc (.cells (bytesRow (strP U) (grownCap w3 30 0 5)) 5 ((bytesRow (strP U) (grownCap w3 30 0 5)).size, (bytesRow (strP U) (grownCap w3 30 0 5)).size + 1))).rangeAt w3.heap.size 0 (pv U) := bytes_range U w3.drew _ _ _
    have hsN : w3.heap.size < (w3.drew.alloc (.cells (bytesRow (strP U) (grownCap w3 30 0 5)) 5 ((bytesRow (strP U) (grownCap w3 30 0 5)).size, (bytesRow (strP U) (grownCap w3 30 0 5)).size + 1))).heap.size := alloc_lt w3.drew _
    obtain ⟨w4, hww4⟩ : ∃ q, q = (w3.drew.alloc (.cells (bytesRow (strP U) (grownCap w3 30 0 5)) 5 ((bytesRow (strP U) (grownCap w3 30 0 5)).size, (bytesRow (strP U) (grownCap w3 30 0 5)).size + 1))) := ⟨_, rfl⟩
    rw [← hww4] at hbm hrN hsN
    try rw [← hww4]
    obtain ⟨cp, hcp⟩ : ∃ q, q = grownCap w3 30 0 5 := ⟨_, rfl⟩
    try rw [← hcp]
    clear hww4 hcp
    have HN4 := Lib.hid hrN
    have HB4 := Lib.hid (HB3.out.trans (hbm.mono HB3.out.size))
    have HR4 := Lib.hid (there_under HR3.out hbm HW3.out)
    have HW4 : Hid (w.heap.size < w4.heap.size) := Lib.hid (Nat.lt_of_lt_of_le HW3.out hbm.size)
    have HNs := Lib.hid hsN
    obtain ⟨N, hNe⟩ : ∃ q, q = w3.heap.size := ⟨_, rfl⟩
    rw [← hNe] at HN4 HNs
    try rw [← hNe]
    have HNx := HN4
    clear hrN hbm hsN hNe
    try dsimp only
    refine hK.out _ _ trivial (fun hHeldc => wpAnyH_switch (S' := fun wz => wz.rangeAt N 0 (pv U)) (fun _ _ => trivial) _ _ _ _ ?_)
    have hHeldd := HNx.out
    clear hK K
    try simp only [Act.put, List.setIfInBounds_toArray, List.set_cons_zero, List.set_cons_succ]
    refine wpAnyH_take (i := 8) (oi := { dst := Option.some 26, op := Go.Op.sliceToArrayPointer 70 (Go.Operand.tmp 25), type := 0, pos := "super.go:50", after := #[{ on := 7, ground := Go.Ground.data }], guard := Option.none }) (v := ?_) rfl (by kernel_rfl) (by kernel_rfl) (by kernel_rfl) (fun _ _ _ h => h) (Or.inl ⟨by rfl, ?_⟩) (by assumption) ?_
    rotate_left
    · intro w hSw; go_simp; (try with_reducible rfl)
    simp only [Act.put, List.setIfInBounds_toArray, List.set_cons_zero, List.set_cons_succ]
    refine wpAnyH_take (i := 9) (oi := { dst := Option.some 27, op := Go.Op.load 70 (Go.Operand.tmp 26), type := 70, pos := "super.go:50", after := #[{ on := 8, ground := Go.Ground.data }], guard := Option.none }) rfl (by kernel_rfl) (by kernel_rfl) (by kernel_rfl) (fun _ _ _ h => h) (yieldsIf_load_mid (by rfl) 70 (.tmp 26) rfl N 0 rfl (pv U) _ (fun _ h => h) Tryd.underlying70 rfl (szof_bs HUL.out)) (by assumption) ?_
    simp only [Act.put, List.setIfInBounds_toArray, List.set_cons_zero, List.set_cons_succ]
    refine wpAnyH_take (i := 10) (oi := { dst := Option.some 28, op := Go.Op.build 72 #[(0, Go.Operand.tmp 19), (1, Go.Operand.tmp 22), (2, Go.Operand.tmp 27)], type := 72, pos := "super.go:50", after := #[{ on := 1, ground := Go.Ground.data }, { on := 4, ground := Go.Ground.data }, { on := 9, ground := Go.Ground.data }], guard := Option.none }) rfl (by kernel_rfl) (by kernel_rfl) (by kernel_rfl) (fun _ _ _ h => h) (.inl ⟨by rfl, fun w _ => run_bd_sp (.tmp 19) (.tmp 22) (.tmp 27) rfl g (x.toNat : Int) U HUL.out rfl rfl rfl w⟩) (by assumption) ?_
    simp only [Act.put, List.setIfInBounds_toArray, List.set_cons_zero, List.set_cons_succ]
    rw [← HS.out]
    refine wpAnyH_ready (rs := [11]) (by kernel_rfl) (by simp) ?_
    refine (AllReadyH.cons (o := { dst := Option.some 6, op := Go.Op.alloc 72, type := 0, pos := "super.go:50", after := #[], guard := Option.none }) rfl (fun K hK => ?_) AllReadyH.nil)
    first | rw [if_pos (by rfl)] | skip
    refine wp_al_sp rfl ?_
    have hbm : Below w4.heap.size w4 (w4.alloc (.cells (sv sup0).toArray 72)) := (Below.refl _ _).alloc (Nat.le_refl _) _
    have htM := there_new w4 (sv sup0).toArray 72 32 (by rw [ssz]; exact Nat.le_refl _)
    have hsM : w4.heap.size < (w4.alloc (.cells (sv sup0).toArray 72)).heap.size := by simp
    obtain ⟨w5, hww5⟩ : ∃ q, q = w4.alloc (.cells (sv sup0).toArray 72) := ⟨_, rfl⟩
    rw [← hww5] at hbm htM hsM
    try rw [← hww5]
    clear hww5
    have HB5 := Lib.hid (HB4.out.trans (hbm.mono HB4.out.size))
    have HR5 := Lib.hid (there_under HR4.out hbm HW4.out)
    have HW5 : Hid (w.heap.size < w5.heap.size) := Lib.hid (Nat.lt_of_lt_of_le HW4.out hbm.size)
    have HN := Lib.hid (range_under HN4.out hbm HNs.out)
    have HM := Lib.hid htM
    have HMR : Hid (w.heap.size < w4.heap.size) := HW4
    have HMN : Hid (w4.heap.size ≠ N) := Lib.hid (by have := HNs.out; omega)
    obtain ⟨M, hMe⟩ : ∃ q, q = w4.heap.size := ⟨_, rfl⟩
    rw [← hMe] at HM HMR HMN
    try rw [← hMe]
    clear htM hbm hsM hMe
    try dsimp only
    refine hK.out _ _ HN.out (fun hHeld2 => ?_)
    clear hK K
    try simp only [Act.put, List.setIfInBounds_toArray, List.set_cons_zero, List.set_cons_succ]
    refine wpAnyH_ready (rs := [12]) (by kernel_rfl) (by simp) ?_
    refine (AllReadyH.cons (o := { dst := Option.none, op := Go.Op.store 72 (Go.Operand.tmp 6) (Go.Operand.tmp 28), type := 0, pos := "super.go:50", after := #[{ on := 11, ground := Go.Ground.data }, { on := 10, ground := Go.Ground.data }, { on := 0, ground := Go.Ground.phase }, { on := 1, ground := Go.Ground.phase }, { on := 2, ground := Go.Ground.phase }, { on := 3, ground := Go.Ground.phase }, { on := 4, ground := Go.Ground.phase }, { on := 5, ground := Go.Ground.phase }, { on := 6, ground := Go.Ground.phase }, { on := 7, ground := Go.Ground.phase }, { on := 8, ground := Go.Ground.phase }, { on := 9, ground := Go.Ground.phase }, { on := 10, ground := Go.Ground.phase }, { on := 11, ground := Go.Ground.phase }], guard := Option.none }) rfl (fun K hK => ?_) AllReadyH.nil)
    refine wp_store_mid 72 (.tmp 6) (.tmp 28) rfl M 0 (sv s).toArray rfl rfl (by rw [List.size_toArray, sv_length HSL.out]; exact HM.out) (by rw [List.size_toArray]; exact szof_sp HSL.out) sv_all ?_
    skip
    have hsat : SupAt (w5.setCells M 0 (sv s)) M s := ⟨World.rangeAt_setCells_same _ _ _ _ (by rw [sv_length HSL.out]; exact HM.out), World.there_setCells HM.out _ _ _, HSL.out⟩
    have htt : Touch (fun k => k = M) w5 (w5.setCells M 0 (sv s)) := Touch.setCells (S := fun k => k = M) (Touch.refl _ w5) M (.inl rfl) (sv s) 0 w5 (Touch.refl _ _)
    have hr6 := htt.there HR5.out (fun e => by have := HMR.out; omega)
    have hb6 : Below w.heap.size w (w5.setCells M 0 (sv s)) := HB5.out.trans (htt.below HB5.out.size (fun k e => by have := HMR.out; omega))
    have hs6 : w.heap.size < (w5.setCells M 0 (sv s)).heap.size := Nat.lt_of_lt_of_le HW5.out htt.size
    obtain ⟨w6, hw6⟩ : ∃ q, q = w5.setCells M 0 (sv s) := ⟨_, rfl⟩
    have e6 : w5.setCells M 0 (sv s).toArray.toList = w6 := by rw [hw6]
    rw [e6]
    have hn6 := htt.range HN.out (fun e => HMN.out e.symm)
    rw [← hw6] at hsat hr6 hb6 hs6 hn6
    have HN6 := Lib.hid hn6
    clear hn6
    have HS6 := Lib.hid hsat
    have HR6 := Lib.hid hr6
    have HB6 := Lib.hid hb6
    have HW6 := Lib.hid hs6
    clear hsat hr6 hb6 hs6 htt hw6 e6
    have hr12 : w6.rangeAt N 0 (pv U) := HN6.out
    refine hK.out _ _ hr12 (fun hHeld12 => ?_)
    clear hK K
    try simp only [Act.put, List.setIfInBounds_toArray, List.set_cons_zero, List.set_cons_succ]
    refine wpAnyH_done (by kernel_rfl) ?_ _
    go_wp2_with (first | ((with_reducible refine at_ld 72 (.tmp 6) ?_); refine ld_sp rfl _ rfl M (0) rfl s ?_ ?_ ?_; exact HSL.out; exact HS6.out.r))
    refine (right_any s HSL.out _).mono ?_
    rintro e w7 ⟨rfl, hb⟩
    rw [HRT.out]
    have HS7 := Lib.hid (HS6.out.under hb HS6.out.lt)
    have HB7 := Lib.hid (HB6.out.trans (hb.mono HB6.out.size))
    have HR7 := Lib.hid (there_under HR6.out hb HW6.out)
    have HW7 : Hid (w.heap.size < w7.heap.size) := Lib.hid (Nat.lt_of_lt_of_le HW6.out hb.size)
    clear hb
    go_wp2_with fail
    refine (Tag_err _ 2 _).mono ?_
    rintro e w9 ⟨v, rfl, he, hb⟩
    obtain ⟨ty, xx, rfl⟩ := he.iface (by decide)
    have HE := Lib.hid he
    have HB9 := Lib.hid (HB7.out.trans (hb.mono HB7.out.size))
    have HR9 := Lib.hid (there_under HR7.out hb HW7.out)
    clear he hb
    go_wp2_with (first | ((with_reducible refine at_st 72 (.tmp 2) (.tmp 32) ?_); refine st_sp rfl _ _ rfl w.heap.size 0 rfl sup0 ?_ rfl ?_ ?_; exact sup0_l; exact HR9.out))
    have hld := run_loadVar_mid (P := Tryd.prog) (w9.setCells w.heap.size 0 (sv sup0)) w.heap.size 0 72 (sv sup0) _ (World.rangeAt_setCells_same w9 _ _ _ (by rw [sv_length sup0_l]; exact HR9.out)) Tryd.underlying72 rfl (szof_sp sup0_l)
    refine bodyPost_ret (v := .tuple #[.agg (sv sup0).toArray, .iface ty xx]) (results_pg Tryd.results45 _ _ _ _ _ rfl rfl hld) rfl ⟨_, rfl, ?_, HB9.out.trans (setCells_below _ _ _ _ _ (Nat.le_refl _))⟩
    exact (err_touch (HE.out.mono (Nat.le_refl _)) (Touch.setCells (S := fun k => k = w.heap.size) (Touch.refl _ w9) w.heap.size (.inl rfl) (sv sup0) 0 w9 (Touch.refl _ _)) (fun k hk hs => by have := HW7.out; omega)).mono (Nat.le_of_lt HW7.out)
  · first | rw [if_pos (by rfl)] | skip
    refine wp_al_sp rfl ?_
    have hbm : Below w3.heap.size w3 (w3.alloc (.cells (sv sup0).toArray 72)) := (Below.refl _ _).alloc (Nat.le_refl _) _
    have htM := there_new w3 (sv sup0).toArray 72 32 (by rw [ssz]; exact Nat.le_refl _)
    have hsM : w3.heap.size < (w3.alloc (.cells (sv sup0).toArray 72)).heap.size := by simp
    obtain ⟨w4, hww4⟩ : ∃ q, q = w3.alloc (.cells (sv sup0).toArray 72) := ⟨_, rfl⟩
    rw [← hww4] at hbm htM hsM
    try rw [← hww4]
    clear hww4
    have HM4 := Lib.hid htM
    have HB4 := Lib.hid (HB3.out.trans (hbm.mono HB3.out.size))
    have HR4 := Lib.hid (there_under HR3.out hbm HW3.out)
    have HW4 : Hid (w.heap.size < w4.heap.size) := Lib.hid (Nat.lt_of_lt_of_le HW3.out hbm.size)
    have HMs := Lib.hid hsM
    have HMR : Hid (w.heap.size < w3.heap.size) := HW3
    obtain ⟨M, hMe⟩ : ∃ q, q = w3.heap.size := ⟨_, rfl⟩
    rw [← hMe] at HM4 HMs HMR
    try rw [← hMe]
    clear htM hbm hsM hMe
    try dsimp only
    refine hK.out _ _ trivial (fun hHeld1 => ?_)
    clear hK K
    try simp only [Act.put, List.setIfInBounds_toArray, List.set_cons_zero, List.set_cons_succ]
    refine wpAnyH_ready (rs := [7]) (by kernel_rfl) (by simp) ?_
    refine (AllReadyH.cons (o := { dst := Option.some 25, op := Go.Op.convert 9 56 (Go.Operand.tmp 24), type := 56, pos := "super.go:50", after := #[{ on := 6, ground := Go.Ground.data }], guard := Option.none }) rfl (fun K hK => ?_) AllReadyH.nil)
    first | rw [if_pos (by rfl)] | skip
    refine wp_bytes (.tmp 24) rfl U HUL.out rfl ?_
    have hbm : Below w4.heap.size w4 (w4.drew.alloc (.cells (bytesRow (strP U) (grownCap w4 30 0 5)) 5 ((bytesRow (strP U) (grownCap w4 30 0 5)).size, (bytesRow (strP U) (grownCap w4 30 0 5)).size + 1))) := (Below.drew (Below.refl _ _)).alloc (Nat.le_refl _) _
    have hrN : (w4.drew.alloc (.cells (bytesRow (strP U) (grownCap w4 30 0 5)) 5 ((bytesRow (strP U) (grownCap w4 30 0 5)).size, (bytesRow (strP U) (grownCap w4 30 0 5)).size + 1))).rangeAt w4.heap.size 0 (pv U) := bytes_range U w4.drew _ _ _
    have hsN : w4.heap.size < (w4.drew.alloc (.cells (bytesRow (strP U) (grownCap w4 30 0 5)) 5 ((bytesRow (strP U) (grownCap w4 30 0 5)).size, (bytesRow (strP U) (grownCap w4 30 0 5)).size + 1))).heap.size := alloc_lt w4.drew _
    obtain ⟨w5, hww5⟩ : ∃ q, q = (w4.drew.alloc (.cells (bytesRow (strP U) (grownCap w4 30 0 5)) 5 ((bytesRow (strP U) (grownCap w4 30 0 5)).size, (bytesRow (strP U) (grownCap w4 30 0 5)).size + 1))) := ⟨_, rfl⟩
    rw [← hww5] at hbm hrN hsN
    try rw [← hww5]
    obtain ⟨cp, hcp⟩ : ∃ q, q = grownCap w4 30 0 5 := ⟨_, rfl⟩
    try rw [← hcp]
    clear hww5 hcp
    have HB5 := Lib.hid (HB4.out.trans (hbm.mono HB4.out.size))
    have HR5 := Lib.hid (there_under HR4.out hbm HW4.out)
    have HW5 : Hid (w.heap.size < w5.heap.size) := Lib.hid (Nat.lt_of_lt_of_le HW4.out hbm.size)
    have HN := Lib.hid hrN
    have HM := Lib.hid (there_under HM4.out hbm HMs.out)
    have HMN : Hid (M ≠ w4.heap.size) := Lib.hid (by have := HMs.out; omega)
    obtain ⟨N, hNe⟩ : ∃ q, q = w4.heap.size := ⟨_, rfl⟩
    rw [← hNe] at HN HMN
    try rw [← hNe]
    have HNx := HN
    clear hrN hbm hsN hNe
    try dsimp only
    refine hK.out _ _ trivial (fun hHeldc => wpAnyH_switch (S' := fun wz => wz.rangeAt N 0 (pv U)) (fun _ _ => trivial) _ _ _ _ ?_)
    have hHeldd := HNx.out
    clear hK K
    try simp only [Act.put, List.setIfInBounds_toArray, List.set_cons_zero, List.set_cons_succ]
    refine wpAnyH_take (i := 8) (oi := { dst := Option.some 26, op := Go.Op.sliceToArrayPointer 70 (Go.Operand.tmp 25), type := 0, pos := "super.go:50", after := #[{ on := 7, ground := Go.Ground.data }], guard := Option.none }) (v := ?_) rfl (by kernel_rfl) (by kernel_rfl) (by kernel_rfl) (fun _ _ _ h => h) (Or.inl ⟨by rfl, ?_⟩) (by assumption) ?_
    rotate_left
    · intro w hSw; go_simp; (try with_reducible rfl)
    simp only [Act.put, List.setIfInBounds_toArray, List.set_cons_zero, List.set_cons_succ]
    refine wpAnyH_take (i := 9) (oi := { dst := Option.some 27, op := Go.Op.load 70 (Go.Operand.tmp 26), type := 70, pos := "super.go:50", after := #[{ on := 8, ground := Go.Ground.data }], guard := Option.none }) rfl (by kernel_rfl) (by kernel_rfl) (by kernel_rfl) (fun _ _ _ h => h) (yieldsIf_load_mid (by rfl) 70 (.tmp 26) rfl N 0 rfl (pv U) _ (fun _ h => h) Tryd.underlying70 rfl (szof_bs HUL.out)) (by assumption) ?_
    simp only [Act.put, List.setIfInBounds_toArray, List.set_cons_zero, List.set_cons_succ]
    refine wpAnyH_take (i := 10) (oi := { dst := Option.some 28, op := Go.Op.build 72 #[(0, Go.Operand.tmp 19), (1, Go.Operand.tmp 22), (2, Go.Operand.tmp 27)], type := 72, pos := "super.go:50", after := #[{ on := 1, ground := Go.Ground.data }, { on := 4, ground := Go.Ground.data }, { on := 9, ground := Go.Ground.data }], guard := Option.none }) rfl (by kernel_rfl) (by kernel_rfl) (by kernel_rfl) (fun _ _ _ h => h) (.inl ⟨by rfl, fun w _ => run_bd_sp (.tmp 19) (.tmp 22) (.tmp 27) rfl g (x.toNat : Int) U HUL.out rfl rfl rfl w⟩) (by assumption) ?_
    simp only [Act.put, List.setIfInBounds_toArray, List.set_cons_zero, List.set_cons_succ]
    rw [← HS.out]
    refine wpAnyH_ready (rs := [12]) (by kernel_rfl) (by simp) ?_
    refine (AllReadyH.cons (o := { dst := Option.none, op := Go.Op.store 72 (Go.Operand.tmp 6) (Go.Operand.tmp 28), type := 0, pos := "super.go:50", after := #[{ on := 11, ground := Go.Ground.data }, { on := 10, ground := Go.Ground.data }, { on := 0, ground := Go.Ground.phase }, { on := 1, ground := Go.Ground.phase }, { on := 2, ground := Go.Ground.phase }, { on := 3, ground := Go.Ground.phase }, { on := 4, ground := Go.Ground.phase }, { on := 5, ground := Go.Ground.phase }, { on := 6, ground := Go.Ground.phase }, { on := 7, ground := Go.Ground.phase }, { on := 8, ground := Go.Ground.phase }, { on := 9, ground := Go.Ground.phase }, { on := 10, ground := Go.Ground.phase }, { on := 11, ground := Go.Ground.phase }], guard := Option.none }) rfl (fun K hK => ?_) AllReadyH.nil)
    refine wp_store_mid 72 (.tmp 6) (.tmp 28) rfl M 0 (sv s).toArray rfl rfl (by rw [List.size_toArray, sv_length HSL.out]; exact HM.out) (by rw [List.size_toArray]; exact szof_sp HSL.out) sv_all ?_
    skip
    have hsat : SupAt (w5.setCells M 0 (sv s)) M s := ⟨World.rangeAt_setCells_same _ _ _ _ (by rw [sv_length HSL.out]; exact HM.out), World.there_setCells HM.out _ _ _, HSL.out⟩
    have htt : Touch (fun k => k = M) w5 (w5.setCells M 0 (sv s)) := Touch.setCells (S := fun k => k = M) (Touch.refl _ w5) M (.inl rfl) (sv s) 0 w5 (Touch.refl _ _)
    have hr6 := htt.there HR5.out (fun e => by have := HMR.out; omega)
    have hb6 : Below w.heap.size w (w5.setCells M 0 (sv s)) := HB5.out.trans (htt.below HB5.out.size (fun k e => by have := HMR.out; omega))
    have hs6 : w.heap.size < (w5.setCells M 0 (sv s)).heap.size := Nat.lt_of_lt_of_le HW5.out htt.size
    obtain ⟨w6, hw6⟩ : ∃ q, q = w5.setCells M 0 (sv s) := ⟨_, rfl⟩
    have e6 : w5.setCells M 0 (sv s).toArray.toList = w6 := by rw [hw6]
    rw [e6]
    have hn6 := htt.range HN.out (fun e => HMN.out e.symm)
    rw [← hw6] at hsat hr6 hb6 hs6 hn6
    have HN6 := Lib.hid hn6
    clear hn6
    have HS6 := Lib.hid hsat
    have HR6 := Lib.hid hr6
    have HB6 := Lib.hid hb6
    have HW6 := Lib.hid hs6
    clear hsat hr6 hb6 hs6 htt hw6 e6
    have hr12 : w6.rangeAt N 0 (pv U) := HN6.out
    refine hK.out _ _ hr12 (fun hHeld12 => ?_)
    clear hK K
    try simp only [Act.put, List.setIfInBounds_toArray, List.set_cons_zero, List.set_cons_succ]
    refine wpAnyH_done (by kernel_rfl) ?_ _
    go_wp2_with (first | ((with_reducible refine at_ld 72 (.tmp 6) ?_); refine ld_sp rfl _ rfl M (0) rfl s ?_ ?_ ?_; exact HSL.out; exact HS6.out.r))
    refine (right_any s HSL.out _).mono ?_
    rintro e w7 ⟨rfl, hb⟩
    rw [HRT.out]
    have HS7 := Lib.hid (HS6.out.under hb HS6.out.lt)
    have HB7 := Lib.hid (HB6.out.trans (hb.mono HB6.out.size))
    have HR7 := Lib.hid (there_under HR6.out hb HW6.out)
    have HW7 : Hid (w.heap.size < w7.heap.size) := Lib.hid (Nat.lt_of_lt_of_le HW6.out hb.size)
    clear hb
    go_wp2_with fail
    refine (Tag_err _ 2 _).mono ?_
    rintro e w9 ⟨v, rfl, he, hb⟩
    obtain ⟨ty, xx, rfl⟩ := he.iface (by decide)
    have HE := Lib.hid he
    have HB9 := Lib.hid (HB7.out.trans (hb.mono HB7.out.size))
    have HR9 := Lib.hid (there_under HR7.out hb HW7.out)
    clear he hb
    go_wp2_with (first | ((with_reducible refine at_st 72 (.tmp 2) (.tmp 32) ?_); refine st_sp rfl _ _ rfl w.heap.size 0 rfl sup0 ?_ rfl ?_ ?_; exact sup0_l; exact HR9.out))
    have hld := run_loadVar_mid (P := Tryd.prog) (w9.setCells w.heap.size 0 (sv sup0)) w.heap.size 0 72 (sv sup0) _ (World.rangeAt_setCells_same w9 _ _ _ (by rw [sv_length sup0_l]; exact HR9.out)) Tryd.underlying72 rfl (szof_sp sup0_l)
    refine bodyPost_ret (v := .tuple #[.agg (sv sup0).toArray, .iface ty xx]) (results_pg Tryd.results45 _ _ _ _ _ rfl rfl hld) rfl ⟨_, rfl, ?_, HB9.out.trans (setCells_below _ _ _ _ _ (Nat.le_refl _))⟩
    exact (err_touch (HE.out.mono (Nat.le_refl _)) (Touch.setCells (S := fun k => k = w.heap.size) (Touch.refl _ w9) w.heap.size (.inl rfl) (sv sup0) 0 w9 (Touch.refl _ _)) (fun k hk hs => by have := HW7.out; omega)).mono (Nat.le_of_lt HW7.out)
theorem sread_any (d : ByteArray) (w : World) : Calls Tryd.prog 45 #[.string d] w fun e w' => ∃ v, e = .returned (.tuple #[.agg (sv (readU d)).toArray, v]) ∧ ErrC w.heap.size w' v (if okU d = true then 0 else 2) ∧ Below w.heap.size w w' := by
  unfold readU
  by_cases h : d.size = 35
  · cases hr : rightB (supOf d)
    · have e : okU d = false := by unfold okU; rw [hr]; simp
      rw [e, if_neg (by decide), if_neg (by decide)]
      exact sread_no d h hr w
    · have e : okU d = true := okU_iff.2 ⟨h, hr⟩
      rw [e, if_pos rfl, if_pos rfl]
      refine (sread_ok d h hr w).mono ?_
      rintro e w' ⟨rfl, hb⟩
      exact ⟨_, rfl, ErrC.nil _ _, hb⟩
  · have e : okU d = false := by unfold okU; rw [decide_eq_false h]; rfl
    rw [e, if_neg (by decide), if_neg (by decide)]
    exact sread_short d h w
end Go.Proofs.YtmnkgcgmbdkjaaaDoor
namespace Go.Proofs.YtmnkgcgmbdkjaaaDoor
open Go.RowKit Go.Extern.Stop Go.Stop Go.Extern Go.Proofs.YtmnkgcgmbdkjaaaDoorW.PrintWords Go.Proofs.YtmnkgcgmbdkjaaaDoorW.PrintLast Go.Proofs.YtmnkgcgmbdkjaaaDoorW.PrintMore Go.Proofs.YtmnkgcgmbdkjaaaDoor.PSuperPlays
set_option linter.unusedVariables false
set_option linter.unusedSimpArgs false
theorem SupAt.cell {W : World} {b : Nat} {s q : Sup} (h : SupAt W b s) (k : Nat) (hk : k < 32) (v : Value) (hq : sv q = (sv s).set k v) (hl : q.u.length = 30) : SupAt (W.setCell ⟨b, k, none⟩ v) b q := by
  have hs : ∀ j, j < [v].length → (W.cell? ⟨b, k + j, none⟩).isSome = true := fun j hj => by
    have := (h.t (k + j) (by simp at hj; omega)).1
    rwa [Nat.zero_add] at this
  have hin := setCells_in [v] W b k
  have hlen := sv_length h.l
  refine ⟨fun j u hu => ?_, World.there_setCells h.t b k [v], hl⟩
  have hc : (W.setCell ⟨b, k, none⟩ v).cell? ⟨b, 0 + j, none⟩ = _ := hin (0 + j) hs
  rw [hc, Nat.zero_add]
  rw [hq] at hu
  by_cases e : k = j
  · subst e
    rw [List.getElem?_set_self (by omega)] at hu
    rw [if_neg (by omega), if_pos (by simp), Nat.sub_self]; exact hu
  · rw [List.getElem?_set_ne e] at hu
    have := h.r j u hu
    rw [Nat.zero_add] at this
    by_cases h1 : j < k
    · rw [if_pos h1]; exact this
    · rw [if_neg h1, if_neg (by simp; omega)]; exact this
theorem SupAt.putG {W : World} {b : Nat} {s : Sup} (h : SupAt W b s) (g : Int) : SupAt (W.setCell ⟨b, 0, none⟩ (.int .u32 g)) b ⟨g, s.r, s.u⟩ := h.cell 0 (by omega) _ rfl h.l
theorem SupAt.putR {W : World} {b : Nat} {s : Sup} (h : SupAt W b s) (r : Int) : SupAt (W.setCell ⟨b, 1, none⟩ (.int .i64 r)) b ⟨s.g, r, s.u⟩ := h.cell 1 (by omega) _ rfl h.l
theorem SupAt.putU {W : World} {b : Nat} {s : Sup} (h : SupAt W b s) (i : Nat) (hi : i < 30) (x : UInt8) : SupAt (W.setCell ⟨b, 2 + i, none⟩ (.int .u8 (x.toNat : Int))) b ⟨s.g, s.r, s.u.set i x⟩ := h.cell (2 + i) (by omega) _ (by
  show Value.int .u32 s.g :: Value.int .i64 s.r :: pv (s.u.set i x) = _
  rw [Nat.add_comm]
  show _ = Value.int .u32 s.g :: Value.int .i64 s.r :: (pv s.u).set i _
  congr 2
  unfold pv
  rw [List.map_set]; rfl) (by rw [List.length_set]; exact h.l)
theorem SupAt.free {W : World} {b : Nat} {s : Sup} (h : SupAt W b s) (k : Nat) (hk : k < 32) : W.frozen? ⟨b, k, none⟩ = false := by
  have := (h.t k hk).2
  rwa [Nat.zero_add] at this
theorem SupAt.byte {W : World} {b : Nat} {s : Sup} (h : SupAt W b s) (i : Nat) (x : UInt8) (hx : s.u[i]? = some x) : W.cell? ⟨b, 2 + i, none⟩ = some (.int .u8 (x.toNat : Int)) := h.used i _ (by rw [pv_get, hx]; rfl)
/-- a set as far as it is laid -/
def upS (U : Pg) (i : Nat) : Pg := U.take i ++ List.replicate (30 - i) 0
theorem upS_length (U : Pg) (hU : U.length = 30) (i : Nat) (h : i ≤ 30) : (upS U i).length = 30 := by simp [upS]; omega
theorem upS_step (U : Pg) (hU : U.length = 30) (i : Nat) (h : i < 30) (x : UInt8) (hx : U[i]? = some x) : (upS U i).set i x = upS U (i + 1) := by
  have hl := upS_length U hU i (by omega)
  have t1 : (U.take i).length = i := by rw [List.length_take]; omega
  have t2 : (U.take (i + 1)).length = i + 1 := by rw [List.length_take]; omega
  apply List.ext_getElem?; intro j
  by_cases e : i = j
  · subst e
    rw [List.getElem?_set_self (by omega)]
    unfold upS
    rw [List.getElem?_append_left (by omega), List.getElem?_take_of_lt (by omega), hx]
  · rw [List.getElem?_set_ne e]
    unfold upS
    by_cases h1 : j < i
    · rw [List.getElem?_append_left (by omega), List.getElem?_append_left (by omega), List.getElem?_take_of_lt h1, List.getElem?_take_of_lt (by omega)]
    · rw [List.getElem?_append_right (by omega), List.getElem?_append_right (by omega), t1, t2, List.getElem?_replicate, List.getElem?_replicate]
      by_cases h3 : j < 30
      · rw [if_pos (by omega), if_pos (by omega)]
      · rw [if_neg (by omega), if_neg (by omega)]
theorem upS_all (U : Pg) (hU : U.length = 30) : upS U 30 = U := by unfold upS; rw [List.take_of_length_le (by omega)]; simp
set_option maxHeartbeats 2000000 in
set_option maxRecDepth 100000 in
theorem rread_short (d : ByteArray) (h : d.size ≠ 35) (w : World) : Calls Tryd.prog 49 #[.string d] w fun e w' => e = .returned (.tuple #[.agg (sv sup0).toArray, .bool false]) ∧ Below w.heap.size w w' := by
  have hne : ((d.size : Int) != 35) = true := by simp; omega
  clear h
  have HB1 : Hid (Below w.heap.size w ((w.alloc (.cells (sv sup0).toArray 68)).alloc (.cells (sv sup0).toArray 68))) := Lib.hid (((Below.refl _ _).alloc (Nat.le_refl _) _).alloc (by simp) _)
  have HR1 : Hid (((w.alloc (.cells (sv sup0).toArray 68)).alloc (.cells (sv sup0).toArray 68)).there w.heap.size 0 32) := Lib.hid (World.there_alloc (there_new _ _ _ 32 (by rw [ssz]; exact Nat.le_refl _)) _)
  have HS1 : Hid (SupAt ((w.alloc (.cells (sv sup0).toArray 68)).alloc (.cells (sv sup0).toArray 68)) (w.heap.size + 1) sup0) := Lib.hid (by have k := SupAt.new (w.alloc (.cells (sv sup0).toArray 68)) 68 sup0 sup0_l; rw [show (w.alloc (.cells (sv sup0).toArray 68)).heap.size = w.heap.size + 1 by simp] at k; exact k)
  have HW1 : Hid (w.heap.size + 2 ≤ ((w.alloc (.cells (sv sup0).toArray 68)).alloc (.cells (sv sup0).toArray 68)).heap.size) := Lib.hid (by simp)
  go_enter Tryd.func49, Tryd.ntmps49
  go_upto_region 2 with (first | ((with_reducible refine at_al 68 ?_); refine al_rp rfl rfl ?_))
  obtain ⟨w1, hw1⟩ : ∃ q, q = ((w.alloc (.cells (sv sup0).toArray 68)).alloc (.cells (sv sup0).toArray 68)) := ⟨_, rfl⟩
  rw [← hw1] at HB1 HR1 HS1 HW1 ⊢
  clear hw1
  go_wp2_with (first | ((with_reducible refine at_ld 68 (.tmp 4) ?_); refine ld_rp rfl _ rfl (w.heap.size + 1) (0) rfl sup0 ?_ ?_ ?_; exact sup0_l; exact HS1.out.r) | ((with_reducible refine at_st 68 (.tmp 2) (.tmp 9) ?_); refine st_rp rfl _ _ rfl w.heap.size 0 rfl sup0 ?_ rfl ?_ ?_; exact sup0_l; exact HR1.out))
  have hld := run_loadVar_mid (P := Tryd.prog) (w1.setCells w.heap.size 0 (sv sup0)) w.heap.size 0 68 (sv sup0) _ (World.rangeAt_setCells_same w1 _ _ _ (by rw [sv_length sup0_l]; exact HR1.out)) Tryd.underlying68 rfl (szof_rp sup0_l)
  exact bodyPost_ret (v := .tuple #[.agg (sv sup0).toArray, .bool false]) (results_pg Tryd.results49 _ _ _ _ _ rfl rfl hld) rfl ⟨rfl, HB1.out.trans (setCells_below _ _ _ _ _ (Nat.le_refl _))⟩
set_option maxHeartbeats 4000000 in
set_option maxRecDepth 100000 in
theorem rread_ok (d : ByteArray) (h : d.size = 35) (hr : rightB (supOf d) = true) (w : World) : Calls Tryd.prog 49 #[.string d] w fun e w' => e = .returned (.tuple #[.agg (sv (supOf d)).toArray, .bool true]) ∧ Below w.heap.size w w' := by
  have hne : ((d.size : Int) != 35) = false := by simp; omega
  have hbz := build_rp0
  have hff := supOf_fits h
  have hrg := hff.g0
  have hrg1 := hff.g1
  have hul := hff.l
  have HG := Lib.hid (fun W => rget_any d W (by omega))
  obtain ⟨g, hg⟩ : ∃ q, q = getK d 4 := ⟨_, rfl⟩
  have hgs : (supOf d).g = g := by rw [hg]; rfl
  rw [← hg] at HG
  rw [hgs] at hrg hrg1
  have hw32 : IntKind.u32.wrap g = g := by simp [IntKind.wrap, IntKind.bits, IntKind.signed]; omega
  have hm32 : g % 4294967296 = g := by omega
  obtain ⟨U, hU⟩ : ∃ q, q = d.data.toList.drop 5 := ⟨_, rfl⟩
  have hus : (supOf d).u = U := by rw [hU]; rfl
  rw [hus] at hul
  obtain ⟨x, hx⟩ : ∃ x, d.data.toList[4]? = some x := ⟨_, List.getElem?_eq_getElem (by rw [list_size]; omega)⟩
  have hb4 := byte_of d.data.toList 4 x hx
  rw [strP_data] at hb4
  obtain ⟨hl4, hxe⟩ := hb4
  have hb5 := bt_list d.data.toList 4 x hx
  rw [strP_data] at hb5
  have hwx := (byte_wraps x).2
  have hse : supOf d = ⟨g, (x.toNat : Int), U⟩ := by unfold supOf; rw [← hg, ← hU]; congr 1
  rw [hse] at hr ⊢
  have HR0 := Lib.hid hr
  have HUL := Lib.hid hul
  have HUE : Hid (∀ i, i < 30 → ∃ y, U[i]? = some y ∧ d.data.toList[5 + i]? = some y) := Lib.hid (fun i hi => ⟨_, List.getElem?_eq_getElem (by omega), by rw [← List.getElem?_drop, ← hU]; exact List.getElem?_eq_getElem (by omega)⟩)
  have HD := Lib.hid h
  have HG0 := Lib.hid hrg
  clear hr hul hse hus hx hgs hb5 hg hU hff
  have HB1 : Hid (Below w.heap.size w ((w.alloc (.cells (sv sup0).toArray 68)).alloc (.cells (sv sup0).toArray 68))) := Lib.hid (((Below.refl _ _).alloc (Nat.le_refl _) _).alloc (by simp) _)
  have HR1 : Hid (((w.alloc (.cells (sv sup0).toArray 68)).alloc (.cells (sv sup0).toArray 68)).there w.heap.size 0 32) := Lib.hid (World.there_alloc (there_new _ _ _ 32 (by rw [ssz]; exact Nat.le_refl _)) _)
  have HS1 : Hid (SupAt ((w.alloc (.cells (sv sup0).toArray 68)).alloc (.cells (sv sup0).toArray 68)) (w.heap.size + 1) sup0) := Lib.hid (by have k := SupAt.new (w.alloc (.cells (sv sup0).toArray 68)) 68 sup0 sup0_l; rw [show (w.alloc (.cells (sv sup0).toArray 68)).heap.size = w.heap.size + 1 by simp] at k; exact k)
  have HW1 : Hid (w.heap.size + 2 ≤ ((w.alloc (.cells (sv sup0).toArray 68)).alloc (.cells (sv sup0).toArray 68)).heap.size) := Lib.hid (by simp)
  go_enter Tryd.func49, Tryd.ntmps49
  go_upto_region 2 with (first | ((with_reducible refine at_al 68 ?_); refine al_rp rfl rfl ?_))
  obtain ⟨w1, hw1⟩ : ∃ q, q = ((w.alloc (.cells (sv sup0).toArray 68)).alloc (.cells (sv sup0).toArray 68)) := ⟨_, rfl⟩
  rw [← hw1] at HB1 HR1 HS1 HW1 ⊢
  clear hw1
  go_wp2_with fail
  refine (HG.out _).mono ?_
  rintro e w2 ⟨rfl, hb⟩
  have HB2 := Lib.hid (HB1.out.trans (hb.mono HB1.out.size))
  have HR2 := Lib.hid (there_under HR1.out hb (by have := HW1.out; omega))
  have HS2 := Lib.hid (HS1.out.under hb HS1.out.lt)
  have HW2 : Hid (w.heap.size + 2 ≤ w2.heap.size) := Lib.hid (Nat.le_trans HW1.out hb.size)
  clear hb
  have c0 := HS2.out.gen
  have f0 := HS2.out.free 0 (by omega)
  have f1 := HS2.out.free 1 (by omega)
  have c1 := HS2.out.root
  go_upto_region 5 with fail
  have hs3 := HS2.out.putG g
  have ht3 := touch_set (S := fun k => k = w.heap.size + 1) w2 (w.heap.size + 1) 0 (.int .u32 g) rfl
  obtain ⟨w3, hw3⟩ : ∃ q, q = w2.setCell ⟨w.heap.size + 1, 0, none⟩ (.int .u32 g) := ⟨_, rfl⟩
  rw [← hw3] at hs3 ht3 ⊢
  have HS3 := Lib.hid hs3
  have HT3 := Lib.hid ht3
  clear hs3 ht3 hw3 c0 f0 f1 c1
  have f1 := HS3.out.free 1 (by omega)
  have c1 := HS3.out.root
  go_upto_region 6 with fail
  have hs4 := HS3.out.putR (x.toNat : Int)
  have ht4 := HT3.out.trans (touch_set (S := fun k => k = w.heap.size + 1) w3 (w.heap.size + 1) 1 (.int .i64 (x.toNat : Int)) rfl)
  obtain ⟨w4, hw4⟩ : ∃ q, q = w3.setCell ⟨w.heap.size + 1, 1, none⟩ (.int .i64 (x.toNat : Int)) := ⟨_, rfl⟩
  rw [← hw4] at hs4 ht4 ⊢
  have HS4 : Hid (SupAt w4 (w.heap.size + 1) ⟨g, (x.toNat : Int), upS U 0⟩) := Lib.hid hs4
  have HT4 := Lib.hid ht4
  clear hs4 ht4 hw4 f1 c1
  go_wp2_with fail
  go_loopg [5] 30 (fun gg s5 wr => ∃ i : Nat, i ≤ 30 ∧ 30 - i ≤ gg ∧ s5 = .int .i64 i ∧ Hid (SupAt wr (w.heap.size + 1) ⟨g, (x.toNat : Int), upS U i⟩ ∧ Touch (fun k => k = w.heap.size + 1) w2 wr))
  case atStart => exact ⟨0, by omega, by omega, rfl, Lib.hid ⟨HS4.out, HT4.out⟩⟩
  case round =>
    obtain ⟨i, hi, hg, rfl, HI⟩ := hrel
    by_cases hlt : i < 30
    · have hlz : (i : Int) < 30 := by omega
      obtain ⟨y, hy, hyd⟩ := HUE.out i hlt
      obtain ⟨z, hz⟩ : ∃ z, (upS U i)[i]? = some z := ⟨_, List.getElem?_eq_getElem (by rw [upS_length U HUL.out i (by omega)]; omega)⟩
      have cz := HI.out.1.byte i z hz
      have fz := HI.out.1.free (2 + i) (by omega)
      have hb6 := byte_of d.data.toList (5 + i) y hyd
      rw [strP_data] at hb6
      obtain ⟨hl6, hye⟩ := hb6
      have HY := Lib.hid hy
      clear hy hyd hz
      have hw5 : wrap64 (5 + (i : Int)) = ((5 + i : Nat) : Int) := by unfold wrap64; omega
      have hw5b : IntKind.i64.wrap (5 + (i : Int)) = 5 + (i : Int) := IntWalk.i64_in _ (by omega)
      have hn5 : (5 + (i : Int)).toNat = 5 + i := by omega
      have hp5 : 0 ≤ 5 + (i : Int) := by omega
      have hwi : IntKind.i64.wrap (i : Int) = (i : Int) := IntWalk.i64_in _ (by omega)
      go_wp2_with fail
      have hn1 := HI.out.1.putU i hlt y
      have hn2 : SupAt (wr.setCell ⟨w.heap.size + 1, 2 + i, none⟩ (.int .u8 (y.toNat : Int))) (w.heap.size + 1) ⟨g, (x.toNat : Int), upS U (i + 1)⟩ := by have e := upS_step U HUL.out i hlt y HY.out; rw [← e]; exact hn1
      have HN := Lib.hid (And.intro hn2 (HI.out.2.trans (touch_set (S := fun k => k = w.heap.size + 1) wr (w.heap.size + 1) (2 + i) (.int .u8 (y.toNat : Int)) rfl)))
      clear hn1 hn2 cz fz hye hw5 hw5b hn5 hp5
      go_roundg (30 - (i + 1))
      case measure => omega
      case rel => exact ⟨i + 1, by omega, by omega, by go_num, HN⟩
    · have hlz : ¬ (i : Int) < 30 := by omega
      obtain rfl : i = 30 := by omega
      have hs5 := HI.out.1
      rw [upS_all U HUL.out] at hs5
      have hr5 := HI.out.2.there HR2.out (fun e => by omega)
      have hb5 : Below w.heap.size w wr := HB2.out.trans (HI.out.2.below HB2.out.size (fun k e => by omega))
      have hz5 : w.heap.size + 2 ≤ wr.heap.size := Nat.le_trans HW2.out HI.out.2.size
      obtain ⟨s, hs⟩ : ∃ q : Sup, q = ⟨g, (x.toNat : Int), U⟩ := ⟨_, rfl⟩
      have HSE := Lib.hid hs
      rw [← hs] at hs5
      have HSL : Hid (s.u.length = 30) := Lib.hid (by rw [hs]; exact HUL.out)
      have HRT := Lib.hid (show rightB s = true by rw [hs]; exact HR0.out)
      have HGZ : Hid (0 ≤ s.g) := Lib.hid (by rw [hs]; exact HG0.out)
      have HS5 := Lib.hid hs5
      have HR5 := Lib.hid hr5
      have HB5 := Lib.hid hb5
      have HW5 := Lib.hid hz5
      clear hs hs5 hr5 hb5 hz5 HI
      go_wp2_with (first | ((with_reducible refine at_ld 68 (.tmp 4) ?_); refine ld_rp rfl _ rfl (w.heap.size + 1) (0) rfl s ?_ ?_ ?_; exact HSL.out; exact HS5.out.r))
      refine (rright_any s HSL.out HGZ.out _).mono ?_
      rintro e w7 ⟨rfl, hb⟩
      rw [HRT.out]
      have HS7 := Lib.hid (HS5.out.under hb HS5.out.lt)
      have HB7 := Lib.hid (HB5.out.trans (hb.mono HB5.out.size))
      have HR7 := Lib.hid (there_under HR5.out hb (by have := HW5.out; omega))
      clear hb
      go_wp2_with (first | ((with_reducible refine at_ld 68 (.tmp 4) ?_); refine ld_rp rfl _ rfl (w.heap.size + 1) (0) rfl s ?_ ?_ ?_; exact HSL.out; exact HS7.out.r) | ((with_reducible refine at_st 68 (.tmp 2) (.tmp 33) ?_); refine st_rp rfl _ _ rfl w.heap.size 0 rfl s ?_ rfl ?_ ?_; exact HSL.out; exact HR7.out))
      have hld := run_loadVar_mid (P := Tryd.prog) (w7.setCells w.heap.size 0 (sv s)) w.heap.size 0 68 (sv s) _ (World.rangeAt_setCells_same w7 _ _ _ (by rw [sv_length HSL.out]; exact HR7.out)) Tryd.underlying68 rfl (szof_rp HSL.out)
      exact bodyPost_ret (v := .tuple #[.agg (sv s).toArray, .bool true]) (results_pg Tryd.results49 _ _ _ _ _ rfl rfl hld) rfl ⟨by rw [HSE.out], HB7.out.trans (setCells_below _ _ _ _ _ (Nat.le_refl _))⟩
set_option maxHeartbeats 4000000 in
set_option maxRecDepth 100000 in
theorem rread_no (d : ByteArray) (h : d.size = 35) (hr : rightB (supOf d) = false) (w : World) : Calls Tryd.prog 49 #[.string d] w fun e w' => e = .returned (.tuple #[.agg (sv sup0).toArray, .bool false]) ∧ Below w.heap.size w w' := by
  have hne : ((d.size : Int) != 35) = false := by simp; omega
  have hbz := build_rp0
  have hff := supOf_fits h
  have hrg := hff.g0
  have hrg1 := hff.g1
  have hul := hff.l
  have HG := Lib.hid (fun W => rget_any d W (by omega))
  obtain ⟨g, hg⟩ : ∃ q, q = getK d 4 := ⟨_, rfl⟩
  have hgs : (supOf d).g = g := by rw [hg]; rfl
  rw [← hg] at HG
  rw [hgs] at hrg hrg1
  have hw32 : IntKind.u32.wrap g = g := by simp [IntKind.wrap, IntKind.bits, IntKind.signed]; omega
  have hm32 : g % 4294967296 = g := by omega
  obtain ⟨U, hU⟩ : ∃ q, q = d.data.toList.drop 5 := ⟨_, rfl⟩
  have hus : (supOf d).u = U := by rw [hU]; rfl
  rw [hus] at hul
  obtain ⟨x, hx⟩ : ∃ x, d.data.toList[4]? = some x := ⟨_, List.getElem?_eq_getElem (by rw [list_size]; omega)⟩
  have hb4 := byte_of d.data.toList 4 x hx
  rw [strP_data] at hb4
  obtain ⟨hl4, hxe⟩ := hb4
  have hb5 := bt_list d.data.toList 4 x hx
  rw [strP_data] at hb5
  have hwx := (byte_wraps x).2
  have hse : supOf d = ⟨g, (x.toNat : Int), U⟩ := by unfold supOf; rw [← hg, ← hU]; congr 1
  rw [hse] at hr
  have HR0 := Lib.hid hr
  have HUL := Lib.hid hul
  have HUE : Hid (∀ i, i < 30 → ∃ y, U[i]? = some y ∧ d.data.toList[5 + i]? = some y) := Lib.hid (fun i hi => ⟨_, List.getElem?_eq_getElem (by omega), by rw [← List.getElem?_drop, ← hU]; exact List.getElem?_eq_getElem (by omega)⟩)
  have HD := Lib.hid h
  have HG0 := Lib.hid hrg
  clear hr hul hse hus hx hgs hb5 hg hU hff
  have HB1 : Hid (Below w.heap.size w ((w.alloc (.cells (sv sup0).toArray 68)).alloc (.cells (sv sup0).toArray 68))) := Lib.hid (((Below.refl _ _).alloc (Nat.le_refl _) _).alloc (by simp) _)
  have HR1 : Hid (((w.alloc (.cells (sv sup0).toArray 68)).alloc (.cells (sv sup0).toArray 68)).there w.heap.size 0 32) := Lib.hid (World.there_alloc (there_new _ _ _ 32 (by rw [ssz]; exact Nat.le_refl _)) _)
  have HS1 : Hid (SupAt ((w.alloc (.cells (sv sup0).toArray 68)).alloc (.cells (sv sup0).toArray 68)) (w.heap.size + 1) sup0) := Lib.hid (by have k := SupAt.new (w.alloc (.cells (sv sup0).toArray 68)) 68 sup0 sup0_l; rw [show (w.alloc (.cells (sv sup0).toArray 68)).heap.size = w.heap.size + 1 by simp] at k; exact k)
  have HW1 : Hid (w.heap.size + 2 ≤ ((w.alloc (.cells (sv sup0).toArray 68)).alloc (.cells (sv sup0).toArray 68)).heap.size) := Lib.hid (by simp)
  go_enter Tryd.func49, Tryd.ntmps49
  go_upto_region 2 with (first | ((with_reducible refine at_al 68 ?_); refine al_rp rfl rfl ?_))
  obtain ⟨w1, hw1⟩ : ∃ q, q = ((w.alloc (.cells (sv sup0).toArray 68)).alloc (.cells (sv sup0).toArray 68)) := ⟨_, rfl⟩
  rw [← hw1] at HB1 HR1 HS1 HW1 ⊢
  clear hw1
  go_wp2_with fail
  refine (HG.out _).mono ?_
  rintro e w2 ⟨rfl, hb⟩
  have HB2 := Lib.hid (HB1.out.trans (hb.mono HB1.out.size))
  have HR2 := Lib.hid (there_under HR1.out hb (by have := HW1.out; omega))
  have HS2 := Lib.hid (HS1.out.under hb HS1.out.lt)
  have HW2 : Hid (w.heap.size + 2 ≤ w2.heap.size) := Lib.hid (Nat.le_trans HW1.out hb.size)
  clear hb
  have c0 := HS2.out.gen
  have f0 := HS2.out.free 0 (by omega)
  have f1 := HS2.out.free 1 (by omega)
  have c1 := HS2.out.root
  go_upto_region 5 with fail
  have hs3 := HS2.out.putG g
  have ht3 := touch_set (S := fun k => k = w.heap.size + 1) w2 (w.heap.size + 1) 0 (.int .u32 g) rfl
  obtain ⟨w3, hw3⟩ : ∃ q, q = w2.setCell ⟨w.heap.size + 1, 0, none⟩ (.int .u32 g) := ⟨_, rfl⟩
  rw [← hw3] at hs3 ht3 ⊢
  have HS3 := Lib.hid hs3
  have HT3 := Lib.hid ht3
  clear hs3 ht3 hw3 c0 f0 f1 c1
  have f1 := HS3.out.free 1 (by omega)
  have c1 := HS3.out.root
  go_upto_region 6 with fail
  have hs4 := HS3.out.putR (x.toNat : Int)
  have ht4 := HT3.out.trans (touch_set (S := fun k => k = w.heap.size + 1) w3 (w.heap.size + 1) 1 (.int .i64 (x.toNat : Int)) rfl)
  obtain ⟨w4, hw4⟩ : ∃ q, q = w3.setCell ⟨w.heap.size + 1, 1, none⟩ (.int .i64 (x.toNat : Int)) := ⟨_, rfl⟩
  rw [← hw4] at hs4 ht4 ⊢
  have HS4 : Hid (SupAt w4 (w.heap.size + 1) ⟨g, (x.toNat : Int), upS U 0⟩) := Lib.hid hs4
  have HT4 := Lib.hid ht4
  clear hs4 ht4 hw4 f1 c1
  go_wp2_with fail
  go_loopg [5] 30 (fun gg s5 wr => ∃ i : Nat, i ≤ 30 ∧ 30 - i ≤ gg ∧ s5 = .int .i64 i ∧ Hid (SupAt wr (w.heap.size + 1) ⟨g, (x.toNat : Int), upS U i⟩ ∧ Touch (fun k => k = w.heap.size + 1) w2 wr))
  case atStart => exact ⟨0, by omega, by omega, rfl, Lib.hid ⟨HS4.out, HT4.out⟩⟩
  case round =>
    obtain ⟨i, hi, hg, rfl, HI⟩ := hrel
    by_cases hlt : i < 30
    · have hlz : (i : Int) < 30 := by omega
      obtain ⟨y, hy, hyd⟩ := HUE.out i hlt
      obtain ⟨z, hz⟩ : ∃ z, (upS U i)[i]? = some z := ⟨_, List.getElem?_eq_getElem (by rw [upS_length U HUL.out i (by omega)]; omega)⟩
      have cz := HI.out.1.byte i z hz
      have fz := HI.out.1.free (2 + i) (by omega)
      have hb6 := byte_of d.data.toList (5 + i) y hyd
      rw [strP_data] at hb6
      obtain ⟨hl6, hye⟩ := hb6
      have HY := Lib.hid hy
      clear hy hyd hz
      have hw5 : wrap64 (5 + (i : Int)) = ((5 + i : Nat) : Int) := by unfold wrap64; omega
      have hw5b : IntKind.i64.wrap (5 + (i : Int)) = 5 + (i : Int) := IntWalk.i64_in _ (by omega)
      have hn5 : (5 + (i : Int)).toNat = 5 + i := by omega
      have hp5 : 0 ≤ 5 + (i : Int) := by omega
      have hwi : IntKind.i64.wrap (i : Int) = (i : Int) := IntWalk.i64_in _ (by omega)
      go_wp2_with fail
      have hn1 := HI.out.1.putU i hlt y
      have hn2 : SupAt (wr.setCell ⟨w.heap.size + 1, 2 + i, none⟩ (.int .u8 (y.toNat : Int))) (w.heap.size + 1) ⟨g, (x.toNat : Int), upS U (i + 1)⟩ := by have e := upS_step U HUL.out i hlt y HY.out; rw [← e]; exact hn1
      have HN := Lib.hid (And.intro hn2 (HI.out.2.trans (touch_set (S := fun k => k = w.heap.size + 1) wr (w.heap.size + 1) (2 + i) (.int .u8 (y.toNat : Int)) rfl)))
      clear hn1 hn2 cz fz hye hw5 hw5b hn5 hp5
      go_roundg (30 - (i + 1))
      case measure => omega
      case rel => exact ⟨i + 1, by omega, by omega, by go_num, HN⟩
    · have hlz : ¬ (i : Int) < 30 := by omega
      obtain rfl : i = 30 := by omega
      have hs5 := HI.out.1
      rw [upS_all U HUL.out] at hs5
      have hr5 := HI.out.2.there HR2.out (fun e => by omega)
      have hb5 : Below w.heap.size w wr := HB2.out.trans (HI.out.2.below HB2.out.size (fun k e => by omega))
      have hz5 : w.heap.size + 2 ≤ wr.heap.size := Nat.le_trans HW2.out HI.out.2.size
      obtain ⟨s, hs⟩ : ∃ q : Sup, q = ⟨g, (x.toNat : Int), U⟩ := ⟨_, rfl⟩
      have HSE := Lib.hid hs
      rw [← hs] at hs5
      have HSL : Hid (s.u.length = 30) := Lib.hid (by rw [hs]; exact HUL.out)
      have HRT := Lib.hid (show rightB s = false by rw [hs]; exact HR0.out)
      have HGZ : Hid (0 ≤ s.g) := Lib.hid (by rw [hs]; exact HG0.out)
      have HS5 := Lib.hid hs5
      have HR5 := Lib.hid hr5
      have HB5 := Lib.hid hb5
      have HW5 := Lib.hid hz5
      clear hs hs5 hr5 hb5 hz5 HI
      go_wp2_with (first | ((with_reducible refine at_ld 68 (.tmp 4) ?_); refine ld_rp rfl _ rfl (w.heap.size + 1) (0) rfl s ?_ ?_ ?_; exact HSL.out; exact HS5.out.r))
      refine (rright_any s HSL.out HGZ.out _).mono ?_
      rintro e w7 ⟨rfl, hb⟩
      rw [HRT.out]
      have HS7 := Lib.hid (HS5.out.under hb HS5.out.lt)
      have HB7 := Lib.hid (HB5.out.trans (hb.mono HB5.out.size))
      have HR7 := Lib.hid (there_under HR5.out hb (by have := HW5.out; omega))
      clear hb
      go_wp2_with (first | ((with_reducible refine at_st 68 (.tmp 2) (.tmp 32) ?_); refine st_rp rfl _ _ rfl w.heap.size 0 rfl sup0 ?_ rfl ?_ ?_; exact sup0_l; exact HR7.out))
      have hld := run_loadVar_mid (P := Tryd.prog) (w7.setCells w.heap.size 0 (sv sup0)) w.heap.size 0 68 (sv sup0) _ (World.rangeAt_setCells_same w7 _ _ _ (by rw [sv_length sup0_l]; exact HR7.out)) Tryd.underlying68 rfl (szof_rp sup0_l)
      exact bodyPost_ret (v := .tuple #[.agg (sv sup0).toArray, .bool false]) (results_pg Tryd.results49 _ _ _ _ _ rfl rfl hld) rfl ⟨rfl, HB7.out.trans (setCells_below _ _ _ _ _ (Nat.le_refl _))⟩
theorem rread_sup (d : ByteArray) (w : World) : Calls Tryd.prog 49 #[.string d] w fun e w' => e = .returned (.tuple #[.agg (sv (readU d)).toArray, .bool (okU d)]) ∧ Below w.heap.size w w' := by
  unfold readU
  by_cases h : d.size = 35
  · cases hr : rightB (supOf d)
    · have e : okU d = false := by unfold okU; rw [hr]; simp
      rw [e, if_neg (by decide)]
      exact rread_no d h hr w
    · have e : okU d = true := okU_iff.2 ⟨h, hr⟩
      rw [e, if_pos rfl]
      exact rread_ok d h hr w
  · have e : okU d = false := by unfold okU; rw [decide_eq_false h]; rfl
    rw [e, if_neg (by decide)]
    exact rread_short d h w
end Go.Proofs.YtmnkgcgmbdkjaaaDoor
