/- errors.As at a chain; tag.Tag, tag.Num: by their contracts. -/
import Derived.Test.YtlcnhagcomljnaaDoorAs
import Derived.Deep.Draws
namespace Go.Proofs.YtlcnhagcomljnaaDoor
open Go.RowKit Go.Extern.Stop Go.Stop Go.Extern

def AsPost (W : World) (t : Addr) (n : Int) (w' : World) : Prop := w'.cell? t = some (.int .i64 n) ∧ Below t.block W w'

set_option maxHeartbeats 4000000 in
theorem As_num {B : Nat} {W : World} (t : Addr) (old : Value) (E : Value) (l : List ByteArray) (n : Int) (hch : Chain B W E l (some n))
    (hg : W.cell? ⟨0, 0, none⟩ = some (.iface 156 (.agg #[.pointer (some ⟨1, 27, none⟩)]))) (ht : W.cell? t = some old) (hf : W.frozen? t = false) :
    Calls Tryd.prog 49 #[E, .iface 97 (.pointer (some t))] W fun e w' => e = .returned (.bool true) ∧ AsPost W t n w' := by
  have h40 := @run_callFunc_extern Tryd.prog 72 _ (fun args => ReflectliteValue.unpack (args.getD 0 (.tuple #[]))) Tryd.func72 (by kernel_rfl) (by kernel_rfl) (by kernel_rfl) (by kernel_rfl)
  have h41 := @run_callFunc_extern Tryd.prog 73 _ (ReflectliteValue.methodAny (ReflectliteValue.valueError "reflectlite.Value.Type" 0) (fun t _ _ _ => ReflectliteType.toType t)) Tryd.func73 (by kernel_rfl) (by kernel_rfl) (by kernel_rfl) (by kernel_rfl)
  have h42 := @run_callFunc_extern Tryd.prog 74 _ (ReflectliteValue.method (ReflectliteValue.valueError "reflectlite.Value.IsNil" 0) ReflectliteValue.isNil) Tryd.func74 (by kernel_rfl) (by kernel_rfl) (by kernel_rfl) (by kernel_rfl)
  have h62 := @run_callFunc_extern Tryd.prog 112 _ (ReflectliteType.abiMethod fun t => do pure (.int .u8 (← Rtype.kind t))) Tryd.func112 (by kernel_rfl) (by kernel_rfl) (by kernel_rfl) (by kernel_rfl)
  have h71 := @run_callFunc_extern Tryd.prog 126 _ (ReflectliteType.method ReflectliteType.elem) Tryd.func126 (by kernel_rfl) (by kernel_rfl) (by kernel_rfl) (by kernel_rfl)
  have h72 := @run_callFunc_extern Tryd.prog 127 _ (ReflectliteType.relation "Implements" ReflectliteType.implements_) Tryd.func127 (by kernel_rfl) (by kernel_rfl) (by kernel_rfl) (by kernel_rfl)
  have f6 := reValueP
  have f7 := reTypeP
  have mK := reMethodKind
  have mE := reMethodElem
  have mI := reMethodImplements
  have kP := reKindP
  have kN := reKindN
  have eP := reElemP
  have iN := reImplementsN
  have htl := cell_lt ht
  have hgl : 0 < W.heap.size := cell_lt hg
  obtain ⟨u, v, rfl⟩ := hch.iface
  have hv2 : ((W.alloc (.cells #[.pointer (some t)] 97)).alloc (.cells #[.pointer (some ⟨1, 97, none⟩), .pointer (some ⟨W.heap.size, 0, none⟩), .int .u64 150] 133)).cell? ⟨W.heap.size, 0, none⟩ = some (.pointer (some t)) := by
    rw [World.cell?_alloc_lt _ _ _ (by simp), World.cell?_alloc_at _ _ _ _ rfl]; rfl
  have n8 := reIsNilP ⟨W.heap.size, 0, none⟩ t _ hv2
  have hg2 : ((W.alloc (.cells #[.pointer (some t)] 97)).alloc (.cells #[.pointer (some ⟨1, 97, none⟩), .pointer (some ⟨W.heap.size, 0, none⟩), .int .u64 150] 133)).cell? ⟨0, 0, none⟩ = some (.iface 156 (.agg #[.pointer (some ⟨1, 27, none⟩)])) := by
    rw [World.cell?_alloc_lt _ _ _ (by simp), World.cell?_alloc_lt _ _ _ hgl]; exact hg
  have ht2 : ((W.alloc (.cells #[.pointer (some t)] 97)).alloc (.cells #[.pointer (some ⟨1, 97, none⟩), .pointer (some ⟨W.heap.size, 0, none⟩), .int .u64 150] 133)).cell? t = some old := by
    rw [World.cell?_alloc_lt _ _ _ (by simp; omega), World.cell?_alloc_lt _ _ _ htl]; exact ht
  have hf2 : ((W.alloc (.cells #[.pointer (some t)] 97)).alloc (.cells #[.pointer (some ⟨1, 97, none⟩), .pointer (some ⟨W.heap.size, 0, none⟩), .int .u64 150] 133)).frozen? t = false := by
    rw [World.frozen?_alloc_old _ _ t (by simp; omega), World.frozen?_alloc_old _ _ t (Nat.ne_of_lt htl)]; exact hf
  have has := Lib.hid (as_num t old W.heap.size _ l n ((hch.alloc _).alloc _) hv2 ht2 hf2)
  have Hh := Lib.hid ht
  clear hf2 ht2 hch hf ht
  go_enter Tryd.func49, Tryd.ntmps49
  go_wp2_with fail
  refine has.out.mono ?_
  rintro e w1 ⟨rfl, rfl⟩
  go_wp2_with fail
  go_ret
  refine ⟨rfl, World.cell?_setCell_same _ _ _ (u := old) ?_, ?_⟩
  · rw [World.cell?_alloc_lt _ _ t (by simp; omega), World.cell?_alloc_lt _ _ t (by simp; omega), World.cell?_alloc_lt _ _ t (by simp; omega), World.cell?_alloc_lt _ _ t htl]
    exact Hh.out
  · exact (((((Below.refl _ _).alloc (by omega) _).alloc (by simp; omega) _).alloc (by simp; omega) _).alloc (by simp; omega) _).setCell (Nat.le_refl _) _

set_option maxHeartbeats 4000000 in
theorem As_none {B : Nat} {W : World} (t : Addr) (old : Value) (E : Value) (l : List ByteArray) (hch : Chain B W E l none)
    (hg : W.cell? ⟨0, 0, none⟩ = some (.iface 156 (.agg #[.pointer (some ⟨1, 27, none⟩)]))) (ht : W.cell? t = some old) (hf : W.frozen? t = false) :
    Calls Tryd.prog 49 #[E, .iface 97 (.pointer (some t))] W fun e w' => e = .returned (.bool false) ∧ Below W.heap.size W w' := by
  have h40 := @run_callFunc_extern Tryd.prog 72 _ (fun args => ReflectliteValue.unpack (args.getD 0 (.tuple #[]))) Tryd.func72 (by kernel_rfl) (by kernel_rfl) (by kernel_rfl) (by kernel_rfl)
  have h41 := @run_callFunc_extern Tryd.prog 73 _ (ReflectliteValue.methodAny (ReflectliteValue.valueError "reflectlite.Value.Type" 0) (fun t _ _ _ => ReflectliteType.toType t)) Tryd.func73 (by kernel_rfl) (by kernel_rfl) (by kernel_rfl) (by kernel_rfl)
  have h42 := @run_callFunc_extern Tryd.prog 74 _ (ReflectliteValue.method (ReflectliteValue.valueError "reflectlite.Value.IsNil" 0) ReflectliteValue.isNil) Tryd.func74 (by kernel_rfl) (by kernel_rfl) (by kernel_rfl) (by kernel_rfl)
  have h62 := @run_callFunc_extern Tryd.prog 112 _ (ReflectliteType.abiMethod fun t => do pure (.int .u8 (← Rtype.kind t))) Tryd.func112 (by kernel_rfl) (by kernel_rfl) (by kernel_rfl) (by kernel_rfl)
  have h71 := @run_callFunc_extern Tryd.prog 126 _ (ReflectliteType.method ReflectliteType.elem) Tryd.func126 (by kernel_rfl) (by kernel_rfl) (by kernel_rfl) (by kernel_rfl)
  have h72 := @run_callFunc_extern Tryd.prog 127 _ (ReflectliteType.relation "Implements" ReflectliteType.implements_) Tryd.func127 (by kernel_rfl) (by kernel_rfl) (by kernel_rfl) (by kernel_rfl)
  have f6 := reValueP
  have f7 := reTypeP
  have mK := reMethodKind
  have mE := reMethodElem
  have mI := reMethodImplements
  have kP := reKindP
  have kN := reKindN
  have eP := reElemP
  have iN := reImplementsN
  have htl := cell_lt ht
  have hgl : 0 < W.heap.size := cell_lt hg
  obtain ⟨u, v, rfl⟩ := hch.iface
  have hv2 : ((W.alloc (.cells #[.pointer (some t)] 97)).alloc (.cells #[.pointer (some ⟨1, 97, none⟩), .pointer (some ⟨W.heap.size, 0, none⟩), .int .u64 150] 133)).cell? ⟨W.heap.size, 0, none⟩ = some (.pointer (some t)) := by
    rw [World.cell?_alloc_lt _ _ _ (by simp), World.cell?_alloc_at _ _ _ _ rfl]; rfl
  have n8 := reIsNilP ⟨W.heap.size, 0, none⟩ t _ hv2
  have hg2 : ((W.alloc (.cells #[.pointer (some t)] 97)).alloc (.cells #[.pointer (some ⟨1, 97, none⟩), .pointer (some ⟨W.heap.size, 0, none⟩), .int .u64 150] 133)).cell? ⟨0, 0, none⟩ = some (.iface 156 (.agg #[.pointer (some ⟨1, 27, none⟩)])) := by
    rw [World.cell?_alloc_lt _ _ _ (by simp), World.cell?_alloc_lt _ _ _ hgl]; exact hg
  have ht2 : ((W.alloc (.cells #[.pointer (some t)] 97)).alloc (.cells #[.pointer (some ⟨1, 97, none⟩), .pointer (some ⟨W.heap.size, 0, none⟩), .int .u64 150] 133)).cell? t = some old := by
    rw [World.cell?_alloc_lt _ _ _ (by simp; omega), World.cell?_alloc_lt _ _ _ htl]; exact ht
  have hf2 : ((W.alloc (.cells #[.pointer (some t)] 97)).alloc (.cells #[.pointer (some ⟨1, 97, none⟩), .pointer (some ⟨W.heap.size, 0, none⟩), .int .u64 150] 133)).frozen? t = false := by
    rw [World.frozen?_alloc_old _ _ t (by simp; omega), World.frozen?_alloc_old _ _ t (Nat.ne_of_lt htl)]; exact hf
  have has := Lib.hid (as_none t old W.heap.size _ l ((hch.alloc _).alloc _) hv2 ht2 hf2)
  clear hf2 ht2 hch hf ht
  go_enter Tryd.func49, Tryd.ntmps49
  go_wp2_with fail
  refine has.out.mono ?_
  rintro e w1 ⟨rfl, rfl⟩
  go_wp2_with fail
  go_ret
  exact ⟨rfl, (((Below.refl _ _).alloc (by omega) _).alloc (by simp) _).alloc (by simp; omega) _⟩

/-! ### tag.Tag -/
theorem Tag_nil (s : ByteArray) (w : World) : Calls Tryd.prog 56 #[.string s, .nilIface] w fun e w' => e = .returned .nilIface ∧ w = w' := by
  go_enter Tryd.func56, Tryd.ntmps56
  go_wp2
  go_ret
  exact ⟨rfl, rfl⟩
theorem Tag_some (s : ByteArray) (t : TypeId) (v : Value) (w : World) : Calls Tryd.prog 56 #[.string s, .iface t v] w fun e w' => e = .returned (.iface 144 (.pointer (some ⟨w.heap.size, 0, none⟩))) ∧ w' = w.alloc (.cells #[.string s, .iface t v] 146) := by
  go_enter Tryd.func56, Tryd.ntmps56
  go_wp2
  go_ret
  exact ⟨rfl, rfl⟩

/-! ### the listed variable; an error's number in memory -/
/-- errors.errorType's cell holds the handle of the type 'error' -/
def Tied (W : World) : Prop := W.cell? ⟨0, 0, none⟩ = some (.iface 156 (.agg #[.pointer (some ⟨1, 27, none⟩)]))
theorem Tied.lt {W : World} (h : Tied W) : 0 < W.heap.size := cell_lt h
theorem Tied.under {W W' : World} {B : Nat} (h : Tied W) (hB : 0 < B) (hb : Below B W W') : Tied W' := (hb.cell (p := ⟨0, 0, none⟩) hB).trans h
/-- nil: 0; else a chain, from B on, that ends in that number -/
def ErrR (B : Nat) (W : World) (v : Value) (n : Int) : Prop := (v = .nilIface ∧ n = 0) ∨ ∃ l, Chain B W v l (some n)
theorem ErrR.nil (B : Nat) (W : World) : ErrR B W .nilIface 0 := .inl ⟨rfl, rfl⟩
theorem ErrR.under {B : Nat} {W W' : World} {v : Value} {n : Int} (h : ErrR B W v n) (hb : Below W.heap.size W W') : ErrR B W' v n := by
  rcases h with h | ⟨l, h⟩
  · exact .inl h
  · exact .inr ⟨l, h.under hb⟩
theorem ErrR.alloc {B : Nat} {W : World} {v : Value} {n : Int} (h : ErrR B W v n) (o : Obj) : ErrR B (W.alloc o) v n := h.under ((Below.refl _ _).alloc (Nat.le_refl _) o)
theorem ErrR.setCell {B : Nat} {W : World} {v : Value} {n : Int} (h : ErrR B W v n) {a : Addr} (ha : a.block < B) (u : Value) : ErrR B (W.setCell a u) v n := by
  rcases h with h | ⟨l, h⟩
  · exact .inl h
  · exact .inr ⟨l, h.setCell ha u⟩
theorem ErrR.mono {B B' : Nat} {W : World} {v : Value} {n : Int} (h : ErrR B W v n) (hB : B' ≤ B) : ErrR B' W v n := by
  rcases h with h | ⟨l, h⟩
  · exact .inl h
  · exact .inr ⟨l, h.mono hB⟩
theorem err_at {W w1 : World} {v : Value} {n : Int} (hr : ErrR W.heap.size w1 v n) : ∃ B, ErrR B w1 v n ∧ W.heap.size ≤ B := ⟨_, hr, Nat.le_refl _⟩
theorem ErrR.drewN {B : Nat} {W : World} {v : Value} {n : Int} (h : ErrR B W v n) (k : Nat) : ErrR B (W.drewN k) v n := by
  rcases h with h | ⟨l, h⟩
  · exact .inl h
  · exact .inr ⟨l, h.keep fun _ _ _ hc => hc⟩
/-- what tag.Tag makes of a number -/
theorem ErrR.tag (w : World) (s : ByteArray) (n : Int) : ErrR w.heap.size (w.alloc (.cells #[.string s, .iface 95 (.int .i64 n)] 146)) (.iface 144 (.pointer (some ⟨w.heap.size, 0, none⟩))) n :=
  .inr ⟨[s], .more _ _ _ _ _ (Nat.le_refl _) (by rw [World.cell?_alloc_at _ _ _ _ rfl]; rfl) (by rw [World.cell?_alloc_at _ _ _ _ rfl]; rfl) (.num n)⟩

/-- w' is W but for what is new -/
def KF (W w' : World) : Prop := Below W.heap.size W w'
theorem KF.size {W w' : World} (h : KF W w') : W.heap.size ≤ w'.heap.size := Below.size h
theorem KF.mono {W w' : World} {B : Nat} (h : KF W w') (hB : B ≤ W.heap.size) : Below B W w' := Below.mono h hB
theorem KF.step {W w' w'' : World} (h : KF W w') (hb : Below w'.heap.size w' w'') : KF W w'' := Below.trans h (hb.mono (Below.size h))
theorem KF.err {B : Nat} {W w' : World} {v : Value} {n : Int} (h : KF W w') (hr : ErrR B W v n) : ErrR B w' v n := hr.under h
theorem KF.tied {W w' : World} (h : KF W w') (ht : Tied W) : Tied w' := ht.under ht.lt h
theorem KF.cell {W w' : World} {p : Addr} {v : Value} (h : KF W w') (hc : W.cell? p = some v) : w'.cell? p = some v := (Below.cell h (cell_lt hc)).trans hc

/-! ### tag.Num -/
theorem Num_nil (w : World) : Calls Tryd.prog 17 #[.nilIface] w fun e w' => e = .returned (.int .i64 0) ∧ w = w' := by
  go_enter Tryd.func17, Tryd.ntmps17
  go_wp2
  go_ret
  exact ⟨rfl, rfl⟩
set_option maxHeartbeats 1000000 in
theorem Num_chain {B : Nat} (w : World) (E : Value) (l : List ByteArray) (n : Int) (hch : Chain B w E l (some n)) (hg : Tied w) :
    Calls Tryd.prog 17 #[E] w fun e w' => e = .returned (.int .i64 n) ∧ Below w.heap.size w w' := by
  obtain ⟨u, v, rfl⟩ := hch.iface
  have hg1 : Tied (w.alloc (.cells #[.int .i64 0] 95)) := hg.under hg.lt ((Below.refl _ _).alloc (Nat.le_refl _) _)
  have has := Lib.hid (As_num (W := w.alloc (.cells #[.int .i64 0] 95)) ⟨w.heap.size, 0, none⟩ (.int .i64 0) _ l n (hch.alloc _) hg1 (by rw [World.cell?_alloc_at _ _ _ _ rfl]; rfl) (by rw [World.frozen?_alloc_at _ _ _ _ rfl]))
  clear hch
  go_enter Tryd.func17, Tryd.ntmps17
  go_wp2_with fail
  refine has.out.mono ?_
  rintro e w1 ⟨rfl, hc, hb⟩
  have HB := Lib.hid hb
  clear hb
  go_wp2_with fail
  go_ret
  exact ⟨rfl, ((Below.refl _ _).alloc (Nat.le_refl _) _).trans HB.out⟩
set_option maxHeartbeats 1000000 in
theorem Num_none {B : Nat} (w : World) (E : Value) (l : List ByteArray) (hch : Chain B w E l none) (hg : Tied w) :
    Calls Tryd.prog 17 #[E] w fun e w' => e = .returned (.int .i64 (-1)) ∧ Below w.heap.size w w' := by
  obtain ⟨u, v, rfl⟩ := hch.iface
  have hg1 : Tied (w.alloc (.cells #[.int .i64 0] 95)) := hg.under hg.lt ((Below.refl _ _).alloc (Nat.le_refl _) _)
  have has := Lib.hid (As_none (W := w.alloc (.cells #[.int .i64 0] 95)) ⟨w.heap.size, 0, none⟩ (.int .i64 0) _ l (hch.alloc _) hg1 (by rw [World.cell?_alloc_at _ _ _ _ rfl]; rfl) (by rw [World.frozen?_alloc_at _ _ _ _ rfl]))
  clear hch
  go_enter Tryd.func17, Tryd.ntmps17
  go_wp2_with fail
  refine has.out.mono ?_
  rintro e w1 ⟨rfl, hb⟩
  have HB := Lib.hid hb
  clear hb
  go_wp2_with fail
  go_ret
  exact ⟨rfl, ((Below.refl _ _).alloc (Nat.le_refl _) _).trans (HB.out.mono (by simp))⟩
/-- tag.Num at nil, or at a chain that ends in a number -/
theorem Num_any {B : Nat} (w : World) (v : Value) (n : Int) (h : ErrR B w v n) (hg : Tied w) :
    Calls Tryd.prog 17 #[v] w fun e w' => e = .returned (.int .i64 n) ∧ Below w.heap.size w w' := by
  rcases h with ⟨rfl, rfl⟩ | ⟨l, h⟩
  · exact (Num_nil w).mono fun _ _ ⟨he, hw⟩ => ⟨he, hw ▸ Below.refl _ _⟩
  · exact Num_chain w v l n h hg
/-- tag.Tag around a number -/
theorem Tag_num (s : ByteArray) (n : Int) (w : World) : Calls Tryd.prog 56 #[.string s, .iface 95 (.int .i64 n)] w fun e w' => ∃ t v, e = .returned (.iface t v) ∧ ErrR w.heap.size w' (.iface t v) n ∧ Below w.heap.size w w' :=
  (Tag_some s _ _ w).mono fun _ _ ⟨he, hw⟩ => ⟨_, _, he, hw ▸ ErrR.tag w s n, hw ▸ (Below.refl _ _).alloc (Nat.le_refl _) _⟩
end Go.Proofs.YtlcnhagcomljnaaDoor
