/- Writes that aren't firm: a number and a page, 129 cells. -/
import Derived.Test.YthleapofcoidoaaDoorPage
import Derived.Great.BuildSlice
namespace Go.Proofs.YthleapofcoidoaaDoor
open Go.RowKit Go.Extern.Stop Go.Stop Go.Extern
set_option linter.unusedVariables false
set_option linter.unusedSimpArgs false

def lv (i : Int) (p : Pg) : List Value := .int .i64 i :: pv p
theorem lv_length (i : Int) (p : Pg) : (lv i p).length = p.length + 1 := by simp [lv, pv_length]
theorem lv_one (i : Int) (p : Pg) : ∀ v ∈ lv i p, v.oneCell' = true := fun v hv => by
  rcases List.mem_cons.1 hv with rfl | hv
  · rfl
  · exact pv_one p v hv
theorem info_ls : (Tryd.prog.info? 83).map (fun i => (i.zero, i.size, i.bytes)) = some (some (.agg (lv 0 zp).toArray), 129, 136) := by kernel_rfl
theorem info_ls2 : (Tryd.prog.info? 83).map (fun i => (i.zero, i.size)) = some (some (.agg (lv 0 zp).toArray), 129) := by kernel_rfl
theorem zero_ls : ∀ w, (zeroValue 83).run Tryd.prog w = .ok (.agg (lv 0 zp).toArray) w := (zero_of_info info_ls2).1
theorem size_ls : (Tryd.prog.info? 83).map (·.size) = some 129 := (zero_of_info info_ls2).2
theorem built_eq (parts : List (Nat × Value)) : Tryd.prog.built 83 parts = Instr.fill (#[(0, 1), (1, 128)][·]?) (lv 0 zp).toArray parts := by kernel_rfl
theorem fold_one (i : Int) (C : Array Value) : (Value.int .i64 i).cells.zipIdx.foldl (fun cs (x : Value × Nat) => cs.setIfInBounds (0 + x.2) x.1) C = C.setIfInBounds 0 (.int .i64 i) := by
  simp [Value.cells]
theorem built_ls (i : Int) (p : Pg) (hp : p.length = 128) : Tryd.prog.built 83 [(0, .int .i64 i), (1, .agg (pv p).toArray)] = some (lv i p).toArray := by
  rw [built_eq]
  obtain ⟨g1, g2⟩ := Go.Great.foldl_set 1 (pv p) 0 ((lv 0 zp).toArray.setIfInBounds 0 (.int .i64 i))
  have hz : (lv 0 zp).length = 129 := by rw [lv_length, zp_length]
  have hpl : (pv p).length = 128 := by rw [pv_length, hp]
  simp only [Instr.fill]
  have e0 : (#[(0, 1), (1, 128)] : Array (Nat × Nat))[0]? = some (0, 1) := rfl
  have e1 : (#[(0, 1), (1, 128)] : Array (Nat × Nat))[1]? = some (1, 128) := rfl
  simp only [e0, e1]
  rw [if_neg (by simp [Value.cells, hz])]
  rw [if_neg (by simp [Value.cells, hz, hpl])]
  congr 1
  have hc : (Value.agg (pv p).toArray).cells.zipIdx.foldl (fun cs (x : Value × Nat) => cs.setIfInBounds (1 + x.2) x.1) ((lv 0 zp).toArray.setIfInBounds 0 (.int .i64 i)) = ((pv p).zipIdx 0).foldl (fun cs (x : Value × Nat) => cs.setIfInBounds (1 + x.2) x.1) ((lv 0 zp).toArray.setIfInBounds 0 (.int .i64 i)) := by
    show ((pv p).toArray.zipIdx).foldl _ _ = _
    rw [← Array.foldl_toList, Array.toList_zipIdx]
  apply Array.ext_getElem?
  intro k
  have h0 : (Value.int .i64 i).cells.zipIdx.foldl (fun cs (x : Value × Nat) => cs.setIfInBounds (0 + x.2) x.1) (lv 0 zp).toArray = (lv 0 zp).toArray.setIfInBounds 0 (.int .i64 i) := fold_one i _
  rw [h0, hc, g2 k]
  have hs : ((lv 0 zp).toArray.setIfInBounds 0 (.int .i64 i)).size = 129 := by simp [hz]
  rw [hs, hpl]
  have hl : (lv i p).length = 129 := by rw [lv_length, hp]
  match k with
  | 0 =>
    rw [if_neg (by omega)]
    simp [lv, hz]
  | k + 1 =>
    by_cases hk : k < 128
    · rw [if_pos ⟨by omega, by omega, by omega⟩]
      simp [lv]
    · rw [if_neg (by omega), Array.getElem?_eq_none (by omega), Array.getElem?_eq_none (by simp [hl]; omega)]
end Go.Proofs.YthleapofcoidoaaDoor
