/- errors.As at a chain of tags around a number or around nil; tag.Tag, tag.Num, and what they give at nil: by their contracts. -/
import Derived.Test.YtlcnhagcomljnaaDoorErr
namespace Go.Proofs.YtlcnhagcomljnaaDoor
open Go.RowKit Go.Extern.Stop Go.Stop Go.Extern

set_option maxRecDepth 1000000 in
set_option maxHeartbeats 4000000 in
theorem as_num {B : Nat} {W : World} (t : Addr) (old : Value) (vb : Nat) (E : Value) (l : List ByteArray) (n : Int) (hch : Chain B W E l (some n))
    (hv : W.cell? ⟨vb, 0, none⟩ = some (.pointer (some t))) (ht : W.cell? t = some old) (hf : W.frozen? t = false) :
    Calls Tryd.prog 75 #[E, .iface 97 (.pointer (some t)), .agg #[.pointer (some ⟨1, 97, none⟩), .pointer (some ⟨vb, 0, none⟩), .int .u64 150], .iface 156 (.agg #[.pointer (some ⟨1, 95, none⟩)])] W fun e w' =>
      e = .returned (.bool true) ∧ w' = ((W.alloc (.cells #[.pointer (some ⟨1, 97, none⟩), .pointer (some ⟨vb, 0, none⟩), .int .u64 150] 133)).alloc (.cells #[.int .i64 n] 95)).setCell t (.int .i64 n) := by
  have h44 := @run_callFunc_extern Tryd.prog 85 _ ReflectliteType.typeOf Tryd.func85 (by kernel_rfl) (by kernel_rfl) (by kernel_rfl) (by kernel_rfl)
  have h40 := @run_callFunc_extern Tryd.prog 72 _ (fun args => ReflectliteValue.unpack (args.getD 0 (.tuple #[]))) Tryd.func72 (by kernel_rfl) (by kernel_rfl) (by kernel_rfl) (by kernel_rfl)
  have h69 := @run_callFunc_extern Tryd.prog 124 _ (ReflectliteType.relation "AssignableTo" ReflectliteType.assignableTo) Tryd.func124 (by kernel_rfl) (by kernel_rfl) (by kernel_rfl) (by kernel_rfl)
  have h46 := @run_callFunc_extern Tryd.prog 86 _ (ReflectliteValue.method (ReflectliteValue.valueError "reflectlite.Value.Elem" 0) ReflectliteValue.elem) Tryd.func86 (by kernel_rfl) (by kernel_rfl) (by kernel_rfl) (by kernel_rfl)
  have h47 := @run_callFunc_extern Tryd.prog 87 _ ReflectliteValue.set Tryd.func87 (by kernel_rfl) (by kernel_rfl) (by kernel_rfl) (by kernel_rfl)
  have tN := reTypeOfN
  have tT := reTypeOfT
  have mA := reMethodAssignable
  have aN := reAssignableN
  have aT := reAssignableT
  have vN := reValueN
  have nA := reNoAs
  have hU := reHasUnwrap
  have mU := reMethodUnwrap
  have htl := cell_lt ht
  have hvl : vb < W.heap.size := cell_lt hv
  obtain ⟨W1, hW1⟩ : ∃ W1, W1 = W.alloc (.cells #[.pointer (some ⟨1, 97, none⟩), .pointer (some ⟨vb, 0, none⟩), .int .u64 150] 133) := ⟨_, rfl⟩
  have hv1 : W1.cell? ⟨vb, 0, none⟩ = some (.pointer (some t)) := by rw [hW1, World.cell?_alloc_lt _ _ ⟨vb, 0, none⟩ hvl]; exact hv
  have ht1 : W1.cell? t = some old := by rw [hW1, World.cell?_alloc_lt _ _ t htl]; exact ht
  have hf1 : W1.frozen? t = false := by rw [hW1, World.frozen?_alloc_old _ _ t (Nat.ne_of_lt htl)]; exact hf
  have hz : W1.heap.size = W.heap.size + 1 := by rw [hW1]; simp
  have ev := reElemVP ⟨vb, 0, none⟩ t W1 hv1
  have st := reSetN t ⟨W1.heap.size, 0, none⟩ n old (W1.alloc (.cells #[.int .i64 n] 95)) (by rw [World.cell?_alloc_at _ _ _ _ rfl]; rfl) (by rw [World.cell?_alloc_lt _ _ t (by omega)]; exact ht1) (by rw [World.frozen?_alloc_old _ _ t (by omega)]; exact hf1)
  have hch1 : Hid (Chain B W1 E l (some n)) := by rw [hW1]; exact hch.alloc _
  have HW := Lib.hid hW1
  have hc0 : W1.cell? ⟨W.heap.size, 0, none⟩ = some (.pointer (some ⟨1, 97, none⟩)) := by rw [hW1, World.cell?_alloc_at _ _ _ _ rfl]; rfl
  have hc1 : W1.cell? ⟨W.heap.size, 1, none⟩ = some (.pointer (some ⟨vb, 0, none⟩)) := by rw [hW1, World.cell?_alloc_at _ _ _ _ rfl]; rfl
  have hc2 : W1.cell? ⟨W.heap.size, 2, none⟩ = some (.int .u64 150) := by rw [hW1, World.cell?_alloc_at _ _ _ _ rfl]; rfl
  clear hv ht hf hz hch
  go_enter Tryd.func75, Tryd.ntmps75
  go_wp2
  rw [← hW1]
  clear hW1
  go_loopg [0] l.length (fun k E' wl => wl = W1 ∧ ∃ l', k = l'.length ∧ Chain B W1 E' l' (some n))
  case atStart => exact ⟨rfl, l, rfl, hch1.out⟩
  case round =>
    obtain ⟨rfl, l', rfl, hc'⟩ := hrel
    cases hc' with
    | num _ =>
      go_wp2
      go_ret
      exact ⟨rfl, by rw [HW.out]⟩
    | more b s E l2 _ _ h0 h1 h2 =>
      obtain ⟨u, v, rfl⟩ := h2.iface
      have H2 := Lib.hid h2
      clear h2
      go_wp2
      go_roundg l2.length
      case measure => simp
      case rel => exact ⟨rfl, l2, rfl, H2.out⟩

set_option maxRecDepth 1000000 in
set_option maxHeartbeats 4000000 in
theorem as_none {B : Nat} {W : World} (t : Addr) (old : Value) (vb : Nat) (E : Value) (l : List ByteArray) (hch : Chain B W E l none)
    (hv : W.cell? ⟨vb, 0, none⟩ = some (.pointer (some t))) (ht : W.cell? t = some old) (hf : W.frozen? t = false) :
    Calls Tryd.prog 75 #[E, .iface 97 (.pointer (some t)), .agg #[.pointer (some ⟨1, 97, none⟩), .pointer (some ⟨vb, 0, none⟩), .int .u64 150], .iface 156 (.agg #[.pointer (some ⟨1, 95, none⟩)])] W fun e w' =>
      e = .returned (.bool false) ∧ w' = W.alloc (.cells #[.pointer (some ⟨1, 97, none⟩), .pointer (some ⟨vb, 0, none⟩), .int .u64 150] 133) := by
  have h44 := @run_callFunc_extern Tryd.prog 85 _ ReflectliteType.typeOf Tryd.func85 (by kernel_rfl) (by kernel_rfl) (by kernel_rfl) (by kernel_rfl)
  have h40 := @run_callFunc_extern Tryd.prog 72 _ (fun args => ReflectliteValue.unpack (args.getD 0 (.tuple #[]))) Tryd.func72 (by kernel_rfl) (by kernel_rfl) (by kernel_rfl) (by kernel_rfl)
  have h69 := @run_callFunc_extern Tryd.prog 124 _ (ReflectliteType.relation "AssignableTo" ReflectliteType.assignableTo) Tryd.func124 (by kernel_rfl) (by kernel_rfl) (by kernel_rfl) (by kernel_rfl)
  have h46 := @run_callFunc_extern Tryd.prog 86 _ (ReflectliteValue.method (ReflectliteValue.valueError "reflectlite.Value.Elem" 0) ReflectliteValue.elem) Tryd.func86 (by kernel_rfl) (by kernel_rfl) (by kernel_rfl) (by kernel_rfl)
  have h47 := @run_callFunc_extern Tryd.prog 87 _ ReflectliteValue.set Tryd.func87 (by kernel_rfl) (by kernel_rfl) (by kernel_rfl) (by kernel_rfl)
  have tT := reTypeOfT
  have mA := reMethodAssignable
  have aT := reAssignableT
  have nA := reNoAs
  have hU := reHasUnwrap
  have mU := reMethodUnwrap
  have htl := cell_lt ht
  have hvl : vb < W.heap.size := cell_lt hv
  obtain ⟨W1, hW1⟩ : ∃ W1, W1 = W.alloc (.cells #[.pointer (some ⟨1, 97, none⟩), .pointer (some ⟨vb, 0, none⟩), .int .u64 150] 133) := ⟨_, rfl⟩
  have hv1 : W1.cell? ⟨vb, 0, none⟩ = some (.pointer (some t)) := by rw [hW1, World.cell?_alloc_lt _ _ ⟨vb, 0, none⟩ hvl]; exact hv
  have ht1 : W1.cell? t = some old := by rw [hW1, World.cell?_alloc_lt _ _ t htl]; exact ht
  have hf1 : W1.frozen? t = false := by rw [hW1, World.frozen?_alloc_old _ _ t (Nat.ne_of_lt htl)]; exact hf
  have hz : W1.heap.size = W.heap.size + 1 := by rw [hW1]; simp
  have ev := reElemVP ⟨vb, 0, none⟩ t W1 hv1
  have hch1 : Hid (Chain B W1 E l none) := by rw [hW1]; exact hch.alloc _
  have HW := Lib.hid hW1
  have hc0 : W1.cell? ⟨W.heap.size, 0, none⟩ = some (.pointer (some ⟨1, 97, none⟩)) := by rw [hW1, World.cell?_alloc_at _ _ _ _ rfl]; rfl
  have hc1 : W1.cell? ⟨W.heap.size, 1, none⟩ = some (.pointer (some ⟨vb, 0, none⟩)) := by rw [hW1, World.cell?_alloc_at _ _ _ _ rfl]; rfl
  have hc2 : W1.cell? ⟨W.heap.size, 2, none⟩ = some (.int .u64 150) := by rw [hW1, World.cell?_alloc_at _ _ _ _ rfl]; rfl
  clear hv ht hf hz hch
  go_enter Tryd.func75, Tryd.ntmps75
  go_wp2
  rw [← hW1]
  clear hW1
  go_loopg [0] l.length (fun k E' wl => wl = W1 ∧ ∃ l', k = l'.length ∧ Chain B W1 E' l' none)
  case atStart => exact ⟨rfl, l, rfl, hch1.out⟩
  case round =>
    obtain ⟨rfl, l', rfl, hc'⟩ := hrel
    cases hc' with
    | last b s _ h0 h1 =>
      go_wp2
      go_ret
      exact ⟨rfl, HW.out⟩
    | more b s E l2 _ _ h0 h1 h2 =>
      obtain ⟨u, v, rfl⟩ := h2.iface
      have H2 := Lib.hid h2
      clear h2
      go_wp2
      go_roundg l2.length
      case measure => simp
      case rel => exact ⟨rfl, l2, rfl, H2.out⟩
end Go.Proofs.YtlcnhagcomljnaaDoor
