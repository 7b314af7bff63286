/- The errors of this program in memory: a number (api.Errno), or a tag laid around nil or around another error; package errors' As at such a chain, by its contracts; tag.Tag and tag.Num by their contracts. errors.As at a chain of tags around a number or around nil; tag.Tag, tag.Num, and what they give at nil: by their contracts. errors.As at a chain; tag.Tag, tag.Num: by their contracts. More on a world that is another one but for what is new. An error's number in memory, told apart from nil; what tag.Tag makes; two steps of the world. errors.Is at a chain of tags around a number (or nil), the target a number; tag.Same. -/
import Derived.Test.YtmnkgcgmbdkjaaaDoorProg
import Derived.WalkKit
import Derived.LaidEql
import Derived.Stop.Asserts
import Derived.RowKitTokens
import Derived.Lib.Hide
import Derived.Deep.LoopGhost
import Derived.Deep.Draws
set_option linter.unusedVariables false
set_option linter.unusedSimpArgs false
namespace Go.Proofs.YtmnkgcgmbdkjaaaDoor
open Go.RowKit Go.Extern.Stop Go.Stop Go.Extern

/-! ### closed facts on reflectlite's entries at this translation's numbers -/
theorem reValueP (t : Addr) (w : World) : (ReflectliteValue.unpack (.iface 125 (.pointer (some t)))).run Tryd.prog w
    = .ok (.agg #[.pointer (some ⟨1, 125, none⟩), .pointer (some ⟨w.heap.size, 0, none⟩), .int .u64 150]) (w.alloc (.cells #[.pointer (some t)] 125)) := by kernel_rfl
theorem reTypeP (a : Addr) (w : World) : (ReflectliteValue.methodAny (ReflectliteValue.valueError "reflectlite.Value.Type" 0) (fun t _ _ _ => ReflectliteType.toType t) #[.agg #[.pointer (some ⟨1, 125, none⟩), .pointer (some a), .int .u64 150]]).run Tryd.prog w
    = .ok (.iface 164 (.agg #[.pointer (some ⟨1, 125, none⟩)])) w := by kernel_rfl
theorem reMethodKind (h : Value) (w : World) : (Go.method 311 164 (.agg #[h]) "Kind").run Tryd.prog w = .ok (120, h) w := by kernel_rfl
theorem reKindP (w : World) : ((ReflectliteType.abiMethod fun t => (fun a : Nat => Value.int IntKind.u8 (a : Int)) <$> Rtype.kind t) #[.pointer (some ⟨1, 125, none⟩)]).run Tryd.prog w = .ok (.int .u8 22) w := by kernel_rfl
theorem reKindN (w : World) : ((ReflectliteType.abiMethod fun t => (fun a : Nat => Value.int IntKind.u8 (a : Int)) <$> Rtype.kind t) #[.pointer (some ⟨1, 119, none⟩)]).run Tryd.prog w = .ok (.int .u8 2) w := by kernel_rfl
theorem rlm (z : Sem Value) (f : TypeId → Addr → Nat → Nat → Sem Value) (v : Value) :
    ReflectliteValue.method z f #[v] = (do match ← ReflectliteValue.parts v with | none => z | some (t, a, fl) => f t a fl (fl % 32)) := rfl
theorem rePartsP (a : Addr) (w : World) : (ReflectliteValue.parts (.agg #[.pointer (some ⟨1, 125, none⟩), .pointer (some a), .int .u64 150])).run Tryd.prog w = .ok (some (125, a, 150)) w := by kernel_rfl
theorem reIsNilP (a p : Addr) (W : World) (ha : W.cell? a = some (.pointer (some p))) :
    (ReflectliteValue.method (ReflectliteValue.valueError "reflectlite.Value.IsNil" 0) ReflectliteValue.isNil #[.agg #[.pointer (some ⟨1, 125, none⟩), .pointer (some a), .int .u64 150]]).run Tryd.prog W = .ok (.bool false) W := by
  rw [rlm]
  simp only [Sem.run_bind, rePartsP, Result.andThen]
  simp [ReflectliteValue.isNil, loadVar, isAgg, underlying, Tryd.underlying125, ha, Result.andThen]
theorem reMethodElem (h : Value) (w : World) : (Go.method 311 164 (.agg #[h]) "Elem").run Tryd.prog w = .ok (132, .agg #[h]) w := by kernel_rfl
theorem reMethodImplements (h : Value) (w : World) : (Go.method 311 164 (.agg #[h]) "Implements").run Tryd.prog w = .ok (133, .agg #[h]) w := by kernel_rfl
theorem reMethodAssignable (h : Value) (w : World) : (Go.method 311 164 (.agg #[h]) "AssignableTo").run Tryd.prog w = .ok (130, .agg #[h]) w := by kernel_rfl
theorem reElemP (w : World) : (ReflectliteType.method ReflectliteType.elem #[.agg #[.pointer (some ⟨1, 125, none⟩)]]).run Tryd.prog w = .ok (.iface 164 (.agg #[.pointer (some ⟨1, 119, none⟩)])) w := by kernel_rfl
theorem reImplementsN (w : World) : (ReflectliteType.relation "Implements" ReflectliteType.implements_ #[.agg #[.pointer (some ⟨1, 119, none⟩)], .iface 164 (.agg #[.pointer (some ⟨1, 26, none⟩)])]).run Tryd.prog w = .ok (.bool true) w := by kernel_rfl
theorem reTypeOfN (v : Value) (w : World) : (ReflectliteType.typeOf #[.iface 119 v]).run Tryd.prog w = .ok (.iface 164 (.agg #[.pointer (some ⟨1, 119, none⟩)])) w := by kernel_rfl
theorem reTypeOfT (v : Value) (w : World) : (ReflectliteType.typeOf #[.iface 144 v]).run Tryd.prog w = .ok (.iface 164 (.agg #[.pointer (some ⟨1, 144, none⟩)])) w := by kernel_rfl
theorem reAssignableN (w : World) : (ReflectliteType.relation "AssignableTo" ReflectliteType.assignableTo #[.agg #[.pointer (some ⟨1, 119, none⟩)], .iface 164 (.agg #[.pointer (some ⟨1, 119, none⟩)])]).run Tryd.prog w = .ok (.bool true) w := by kernel_rfl
theorem reAssignableT (w : World) : (ReflectliteType.relation "AssignableTo" ReflectliteType.assignableTo #[.agg #[.pointer (some ⟨1, 144, none⟩)], .iface 164 (.agg #[.pointer (some ⟨1, 119, none⟩)])]).run Tryd.prog w = .ok (.bool false) w := by kernel_rfl
theorem reValueN (n : Int) (w : World) : (ReflectliteValue.unpack (.iface 119 (.int .i64 n))).run Tryd.prog w
    = .ok (.agg #[.pointer (some ⟨1, 119, none⟩), .pointer (some ⟨w.heap.size, 0, none⟩), .int .u64 130]) (w.alloc (.cells #[.int .i64 n] 119)) := by kernel_rfl
theorem reElemOfP (w : World) : (Rtype.elem? 125).run Tryd.prog w = .ok (some 119) w := by kernel_rfl
theorem reMkN (p : Addr) (w : World) : (ReflectliteValue.mk 119 p ReflectliteValue.flagAddr).run Tryd.prog w = .ok (.agg #[.pointer (some ⟨1, 119, none⟩), .pointer (some p), .int .u64 386]) w := by kernel_rfl
theorem reElemVP (a p : Addr) (W : World) (ha : W.cell? a = some (.pointer (some p))) :
    (ReflectliteValue.method (ReflectliteValue.valueError "reflectlite.Value.Elem" 0) ReflectliteValue.elem #[.agg #[.pointer (some ⟨1, 125, none⟩), .pointer (some a), .int .u64 150]]).run Tryd.prog W
      = .ok (.agg #[.pointer (some ⟨1, 119, none⟩), .pointer (some p), .int .u64 386]) W := by
  rw [rlm]
  simp only [Sem.run_bind, rePartsP, Result.andThen]
  simp [ReflectliteValue.elem, loadVar, isAgg, underlying, Tryd.underlying125, ha, Result.andThen, reElemOfP, reMkN]
theorem rls (v x : Value) : ReflectliteValue.set #[v, x] = (do
    let (some (dst, a, fl), some (src, b, _)) := (← ReflectliteValue.parts v, ← ReflectliteValue.parts x)
      | unsupported (.noEntry "extern/(internal/reflectlite.Value).Set.zeroValue")
    if fl / ReflectliteValue.flagAddr % 2 == 0 then unsupported (.noEntry "extern/(internal/reflectlite.Value).Set.unaddressable")
    let val ← loadVar src b
    if ← Rtype.directlyAssignable dst src then storeVar dst a val
    else if ← Rtype.implements dst src then
      if (← Rtype.kind src) == 20 then
        match val with
        | .nilIface => unsupported (.noEntry "extern/reflectlite: a nil value of one interface type handed on as a value of another")
        | _ => storeVar dst a val
      else storeVar dst a (.iface src val)
    else panicString ("reflectlite.Set: value of type " ++ (← Rtype.spelt src) ++ " is not assignable to type " ++ (← Rtype.spelt dst))
    pure (.tuple #[])) := rfl
theorem rePartsNa (a : Addr) (w : World) : (ReflectliteValue.parts (.agg #[.pointer (some ⟨1, 119, none⟩), .pointer (some a), .int .u64 386])).run Tryd.prog w = .ok (some (119, a, 386)) w := by kernel_rfl
theorem rePartsN (a : Addr) (w : World) : (ReflectliteValue.parts (.agg #[.pointer (some ⟨1, 119, none⟩), .pointer (some a), .int .u64 130])).run Tryd.prog w = .ok (some (119, a, 130)) w := by kernel_rfl
theorem reDirectN (w : World) : (Rtype.directlyAssignable 119 119).run Tryd.prog w = .ok true w := by kernel_rfl
theorem reSizeN (w : World) : (sizeOf 119).run Tryd.prog w = .ok 1 w := by kernel_rfl
theorem reSetN (ta b : Addr) (n : Int) (old : Value) (W : World) (hb : W.cell? b = some (.int .i64 n)) (ht : W.cell? ta = some old) (hf : W.frozen? ta = false) :
    (ReflectliteValue.set #[.agg #[.pointer (some ⟨1, 119, none⟩), .pointer (some ta), .int .u64 386], .agg #[.pointer (some ⟨1, 119, none⟩), .pointer (some b), .int .u64 130]]).run Tryd.prog W
      = .ok (.tuple #[]) (W.setCell ta (.int .i64 n)) := by
  rw [rls]
  simp only [Sem.run_bind, rePartsNa, rePartsN, Result.andThen]
  simp [ReflectliteValue.flagAddr, loadVar, isAgg, underlying, Tryd.underlying119, hb, Result.andThen, reDirectN, storeVar, Value.cells, storeCells, Addr.add]
  rw [run_store Tryd.prog W ta _ _ (by rfl)]
  simp [ht, hf]

/-! ### what package errors' assertions find -/
theorem reNoAs (v : Value) (xT : TypeId) (w : World) : (Instr.typeAssert (.iface 144 v) xT 169 true).run Tryd.prog w = .ok (.tuple #[.nilIface, .bool false]) w := run_typeAssert_lacksB Tryd.underlying169 (by kernel_rfl) (by kernel_rfl) v xT w
theorem reHasUnwrap (v : Value) (xT : TypeId) (w : World) : (Instr.typeAssert (.iface 144 v) xT 172 true).run Tryd.prog w = .ok (.tuple #[.iface 144 v, .bool true]) w := run_typeAssert_hasB Tryd.underlying172 (by kernel_rfl) v xT w
theorem reMethodUnwrap (v : Value) (w : World) : (Go.method 311 144 v "Unwrap").run Tryd.prog w = .ok (125, v) w := by kernel_rfl

/-! ### a chain of errors in memory, all of it in blocks from B on -/
inductive Chain (B : Nat) (W : World) : Value → List ByteArray → Option Int → Prop
  | num (n : Int) : Chain B W (.iface 119 (.int .i64 n)) [] (some n)
  | last (b : Nat) (s : ByteArray) : B ≤ b → W.cell? ⟨b, 0, none⟩ = some (.string s) → W.cell? ⟨b, 1, none⟩ = some .nilIface → Chain B W (.iface 144 (.pointer (some ⟨b, 0, none⟩))) [s] none
  | more (b : Nat) (s : ByteArray) (E : Value) (l : List ByteArray) (r : Option Int) : B ≤ b → W.cell? ⟨b, 0, none⟩ = some (.string s) → W.cell? ⟨b, 1, none⟩ = some E → Chain B W E l r → Chain B W (.iface 144 (.pointer (some ⟨b, 0, none⟩))) (s :: l) r

theorem cell_lt {W : World} {p : Addr} {v : Value} (h : W.cell? p = some v) : p.block < W.heap.size := by
  rcases Nat.lt_or_ge p.block W.heap.size with h' | h'
  · exact h'
  · simp [World.cell?, Array.getElem?_eq_none h'] at h

/-- what keeps the cells from B on keeps the chain -/
theorem Chain.keep {B : Nat} {W W' : World} {E : Value} {l : List ByteArray} {r : Option Int} (h : Chain B W E l r) (hk : ∀ p v, B ≤ p.block → W.cell? p = some v → W'.cell? p = some v) : Chain B W' E l r := by
  induction h with
  | num n => exact .num n
  | last b s hB h0 h1 => exact .last b s hB (hk _ _ hB h0) (hk _ _ hB h1)
  | more b s E l r hB h0 h1 _ ih => exact .more b s E l r hB (hk _ _ hB h0) (hk _ _ hB h1) ih
theorem Chain.mono {B B' : Nat} {W : World} {E : Value} {l : List ByteArray} {r : Option Int} (h : Chain B W E l r) (hB' : B' ≤ B) : Chain B' W E l r := by
  induction h with
  | num n => exact .num n
  | last b s hB h0 h1 => exact .last b s (Nat.le_trans hB' hB) h0 h1
  | more b s E l r hB h0 h1 _ ih => exact .more b s E l r (Nat.le_trans hB' hB) h0 h1 ih
theorem Chain.under {B : Nat} {W W' : World} {E : Value} {l : List ByteArray} {r : Option Int} (h : Chain B W E l r) (hb : Below W.heap.size W W') : Chain B W' E l r :=
  h.keep fun _ _ _ hc => (hb.cell (cell_lt hc)).trans hc
theorem Chain.alloc {B : Nat} {W : World} {E : Value} {l : List ByteArray} {r : Option Int} (h : Chain B W E l r) (o : Obj) : Chain B (W.alloc o) E l r :=
  h.under ((Below.refl _ _).alloc (Nat.le_refl _) o)
theorem Chain.setCell {B : Nat} {W : World} {E : Value} {l : List ByteArray} {r : Option Int} (h : Chain B W E l r) {a : Addr} (ha : a.block < B) (u : Value) : Chain B (W.setCell a u) E l r :=
  h.keep fun p v hp hc => (World.cell?_setCell_other W a p u (fun e => by rw [e] at ha; omega)).trans hc
theorem Chain.iface {B : Nat} {W : World} {E : Value} {l : List ByteArray} {r : Option Int} (h : Chain B W E l r) : ∃ t v, E = .iface t v := by
  cases h <;> exact ⟨_, _, rfl⟩

/-- all old cells and all old marks read as before: two rules for the walk -/
theorem bcell {W w1 : World} (hb : Below W.heap.size W w1) : (∀ b o, b < W.heap.size → w1.cell? ⟨b, o, none⟩ = W.cell? ⟨b, o, none⟩) ∧ (∀ b o, b < W.heap.size → w1.frozen? ⟨b, o, none⟩ = W.frozen? ⟨b, o, none⟩) :=
  ⟨fun b o h => hb.cell (p := ⟨b, o, none⟩) h, fun b o h => hb.frozen (p := ⟨b, o, none⟩) h⟩
end Go.Proofs.YtmnkgcgmbdkjaaaDoor
namespace Go.Proofs.YtmnkgcgmbdkjaaaDoor
open Go.RowKit Go.Extern.Stop Go.Stop Go.Extern

set_option maxRecDepth 1000000 in
set_option maxHeartbeats 4000000 in
theorem as_num {B : Nat} {W : World} (t : Addr) (old : Value) (vb : Nat) (E : Value) (l : List ByteArray) (n : Int) (hch : Chain B W E l (some n))
    (hv : W.cell? ⟨vb, 0, none⟩ = some (.pointer (some t))) (ht : W.cell? t = some old) (hf : W.frozen? t = false) :
    Calls Tryd.prog 95 #[E, .iface 125 (.pointer (some t)), .agg #[.pointer (some ⟨1, 125, none⟩), .pointer (some ⟨vb, 0, none⟩), .int .u64 150], .iface 164 (.agg #[.pointer (some ⟨1, 119, none⟩)])] W fun e w' =>
      e = .returned (.bool true) ∧ w' = ((W.alloc (.cells #[.pointer (some ⟨1, 125, none⟩), .pointer (some ⟨vb, 0, none⟩), .int .u64 150] 150)).alloc (.cells #[.int .i64 n] 119)).setCell t (.int .i64 n) := by
  have h44 := @run_callFunc_extern Tryd.prog 100 _ ReflectliteType.typeOf Tryd.func100 (by kernel_rfl) (by kernel_rfl) (by kernel_rfl) (by kernel_rfl)
  have h40 := @run_callFunc_extern Tryd.prog 92 _ (fun args => ReflectliteValue.unpack (args.getD 0 (.tuple #[]))) Tryd.func92 (by kernel_rfl) (by kernel_rfl) (by kernel_rfl) (by kernel_rfl)
  have h69 := @run_callFunc_extern Tryd.prog 130 _ (ReflectliteType.relation "AssignableTo" ReflectliteType.assignableTo) Tryd.func130 (by kernel_rfl) (by kernel_rfl) (by kernel_rfl) (by kernel_rfl)
  have h46 := @run_callFunc_extern Tryd.prog 101 _ (ReflectliteValue.method (ReflectliteValue.valueError "reflectlite.Value.Elem" 0) ReflectliteValue.elem) Tryd.func101 (by kernel_rfl) (by kernel_rfl) (by kernel_rfl) (by kernel_rfl)
  have h47 := @run_callFunc_extern Tryd.prog 102 _ ReflectliteValue.set Tryd.func102 (by kernel_rfl) (by kernel_rfl) (by kernel_rfl) (by kernel_rfl)
  have tN := reTypeOfN
  have tT := reTypeOfT
  have mA := reMethodAssignable
  have aN := reAssignableN
  have aT := reAssignableT
  have vN := reValueN
  have nA := reNoAs
  have hU := reHasUnwrap
  have mU := reMethodUnwrap
  have htl := cell_lt ht
  have hvl : vb < W.heap.size := cell_lt hv
  obtain ⟨W1, hW1⟩ : ∃ W1, W1 = W.alloc (.cells #[.pointer (some ⟨1, 125, none⟩), .pointer (some ⟨vb, 0, none⟩), .int .u64 150] 150) := ⟨_, rfl⟩
  have hv1 : W1.cell? ⟨vb, 0, none⟩ = some (.pointer (some t)) := by rw [hW1, World.cell?_alloc_lt _ _ ⟨vb, 0, none⟩ hvl]; exact hv
  have ht1 : W1.cell? t = some old := by rw [hW1, World.cell?_alloc_lt _ _ t htl]; exact ht
  have hf1 : W1.frozen? t = false := by rw [hW1, World.frozen?_alloc_old _ _ t (Nat.ne_of_lt htl)]; exact hf
  have hz : W1.heap.size = W.heap.size + 1 := by rw [hW1]; simp
  have ev := reElemVP ⟨vb, 0, none⟩ t W1 hv1
  have st := reSetN t ⟨W1.heap.size, 0, none⟩ n old (W1.alloc (.cells #[.int .i64 n] 119)) (by rw [World.cell?_alloc_at _ _ _ _ rfl]; rfl) (by rw [World.cell?_alloc_lt _ _ t (by omega)]; exact ht1) (by rw [World.frozen?_alloc_old _ _ t (by omega)]; exact hf1)
  have hch1 : Hid (Chain B W1 E l (some n)) := by rw [hW1]; exact hch.alloc _
  have HW := Lib.hid hW1
  have hc0 : W1.cell? ⟨W.heap.size, 0, none⟩ = some (.pointer (some ⟨1, 125, none⟩)) := by rw [hW1, World.cell?_alloc_at _ _ _ _ rfl]; rfl
  have hc1 : W1.cell? ⟨W.heap.size, 1, none⟩ = some (.pointer (some ⟨vb, 0, none⟩)) := by rw [hW1, World.cell?_alloc_at _ _ _ _ rfl]; rfl
  have hc2 : W1.cell? ⟨W.heap.size, 2, none⟩ = some (.int .u64 150) := by rw [hW1, World.cell?_alloc_at _ _ _ _ rfl]; rfl
  clear hv ht hf hz hch
  go_enter Tryd.func95, Tryd.ntmps95
  go_wp2
  rw [← hW1]
  clear hW1
  go_loopg [0] l.length (fun k E' wl => wl = W1 ∧ ∃ l', k = l'.length ∧ Chain B W1 E' l' (some n))
  case atStart => exact ⟨rfl, l, rfl, hch1.out⟩
  case round =>
    obtain ⟨rfl, l', rfl, hc'⟩ := hrel
    cases hc' with
    | num _ =>
      go_wp2
      go_ret
      exact ⟨rfl, by rw [HW.out]⟩
    | more b s E l2 _ _ h0 h1 h2 =>
      obtain ⟨u, v, rfl⟩ := h2.iface
      have H2 := Lib.hid h2
      clear h2
      go_wp2
      go_roundg l2.length
      case measure => simp
      case rel => exact ⟨rfl, l2, rfl, H2.out⟩

set_option maxRecDepth 1000000 in
set_option maxHeartbeats 4000000 in
theorem as_none {B : Nat} {W : World} (t : Addr) (old : Value) (vb : Nat) (E : Value) (l : List ByteArray) (hch : Chain B W E l none)
    (hv : W.cell? ⟨vb, 0, none⟩ = some (.pointer (some t))) (ht : W.cell? t = some old) (hf : W.frozen? t = false) :
    Calls Tryd.prog 95 #[E, .iface 125 (.pointer (some t)), .agg #[.pointer (some ⟨1, 125, none⟩), .pointer (some ⟨vb, 0, none⟩), .int .u64 150], .iface 164 (.agg #[.pointer (some ⟨1, 119, none⟩)])] W fun e w' =>
      e = .returned (.bool false) ∧ w' = W.alloc (.cells #[.pointer (some ⟨1, 125, none⟩), .pointer (some ⟨vb, 0, none⟩), .int .u64 150] 150) := by
  have h44 := @run_callFunc_extern Tryd.prog 100 _ ReflectliteType.typeOf Tryd.func100 (by kernel_rfl) (by kernel_rfl) (by kernel_rfl) (by kernel_rfl)
  have h40 := @run_callFunc_extern Tryd.prog 92 _ (fun args => ReflectliteValue.unpack (args.getD 0 (.tuple #[]))) Tryd.func92 (by kernel_rfl) (by kernel_rfl) (by kernel_rfl) (by kernel_rfl)
  have h69 := @run_callFunc_extern Tryd.prog 130 _ (ReflectliteType.relation "AssignableTo" ReflectliteType.assignableTo) Tryd.func130 (by kernel_rfl) (by kernel_rfl) (by kernel_rfl) (by kernel_rfl)
  have h46 := @run_callFunc_extern Tryd.prog 101 _ (ReflectliteValue.method (ReflectliteValue.valueError "reflectlite.Value.Elem" 0) ReflectliteValue.elem) Tryd.func101 (by kernel_rfl) (by kernel_rfl) (by kernel_rfl) (by kernel_rfl)
  have h47 := @run_callFunc_extern Tryd.prog 102 _ ReflectliteValue.set Tryd.func102 (by kernel_rfl) (by kernel_rfl) (by kernel_rfl) (by kernel_rfl)
  have tT := reTypeOfT
  have mA := reMethodAssignable
  have aT := reAssignableT
  have nA := reNoAs
  have hU := reHasUnwrap
  have mU := reMethodUnwrap
  have htl := cell_lt ht
  have hvl : vb < W.heap.size := cell_lt hv
  obtain ⟨W1, hW1⟩ : ∃ W1, W1 = W.alloc (.cells #[.pointer (some ⟨1, 125, none⟩), .pointer (some ⟨vb, 0, none⟩), .int .u64 150] 150) := ⟨_, rfl⟩
  have hv1 : W1.cell? ⟨vb, 0, none⟩ = some (.pointer (some t)) := by rw [hW1, World.cell?_alloc_lt _ _ ⟨vb, 0, none⟩ hvl]; exact hv
  have ht1 : W1.cell? t = some old := by rw [hW1, World.cell?_alloc_lt _ _ t htl]; exact ht
  have hf1 : W1.frozen? t = false := by rw [hW1, World.frozen?_alloc_old _ _ t (Nat.ne_of_lt htl)]; exact hf
  have hz : W1.heap.size = W.heap.size + 1 := by rw [hW1]; simp
  have ev := reElemVP ⟨vb, 0, none⟩ t W1 hv1
  have hch1 : Hid (Chain B W1 E l none) := by rw [hW1]; exact hch.alloc _
  have HW := Lib.hid hW1
  have hc0 : W1.cell? ⟨W.heap.size, 0, none⟩ = some (.pointer (some ⟨1, 125, none⟩)) := by rw [hW1, World.cell?_alloc_at _ _ _ _ rfl]; rfl
  have hc1 : W1.cell? ⟨W.heap.size, 1, none⟩ = some (.pointer (some ⟨vb, 0, none⟩)) := by rw [hW1, World.cell?_alloc_at _ _ _ _ rfl]; rfl
  have hc2 : W1.cell? ⟨W.heap.size, 2, none⟩ = some (.int .u64 150) := by rw [hW1, World.cell?_alloc_at _ _ _ _ rfl]; rfl
  clear hv ht hf hz hch
  go_enter Tryd.func95, Tryd.ntmps95
  go_wp2
  rw [← hW1]
  clear hW1
  go_loopg [0] l.length (fun k E' wl => wl = W1 ∧ ∃ l', k = l'.length ∧ Chain B W1 E' l' none)
  case atStart => exact ⟨rfl, l, rfl, hch1.out⟩
  case round =>
    obtain ⟨rfl, l', rfl, hc'⟩ := hrel
    cases hc' with
    | last b s _ h0 h1 =>
      go_wp2
      go_ret
      exact ⟨rfl, HW.out⟩
    | more b s E l2 _ _ h0 h1 h2 =>
      obtain ⟨u, v, rfl⟩ := h2.iface
      have H2 := Lib.hid h2
      clear h2
      go_wp2
      go_roundg l2.length
      case measure => simp
      case rel => exact ⟨rfl, l2, rfl, H2.out⟩
end Go.Proofs.YtmnkgcgmbdkjaaaDoor
namespace Go.Proofs.YtmnkgcgmbdkjaaaDoor
open Go.RowKit Go.Extern.Stop Go.Stop Go.Extern

def AsPost (W : World) (t : Addr) (n : Int) (w' : World) : Prop := w'.cell? t = some (.int .i64 n) ∧ Below t.block W w'

set_option maxHeartbeats 4000000 in
theorem As_num {B : Nat} {W : World} (t : Addr) (old : Value) (E : Value) (l : List ByteArray) (n : Int) (hch : Chain B W E l (some n))
    (hg : W.cell? ⟨0, 0, none⟩ = some (.iface 164 (.agg #[.pointer (some ⟨1, 26, none⟩)]))) (ht : W.cell? t = some old) (hf : W.frozen? t = false) :
    Calls Tryd.prog 73 #[E, .iface 125 (.pointer (some t))] W fun e w' => e = .returned (.bool true) ∧ AsPost W t n w' := by
  have h40 := @run_callFunc_extern Tryd.prog 92 _ (fun args => ReflectliteValue.unpack (args.getD 0 (.tuple #[]))) Tryd.func92 (by kernel_rfl) (by kernel_rfl) (by kernel_rfl) (by kernel_rfl)
  have h41 := @run_callFunc_extern Tryd.prog 93 _ (ReflectliteValue.methodAny (ReflectliteValue.valueError "reflectlite.Value.Type" 0) (fun t _ _ _ => ReflectliteType.toType t)) Tryd.func93 (by kernel_rfl) (by kernel_rfl) (by kernel_rfl) (by kernel_rfl)
  have h42 := @run_callFunc_extern Tryd.prog 94 _ (ReflectliteValue.method (ReflectliteValue.valueError "reflectlite.Value.IsNil" 0) ReflectliteValue.isNil) Tryd.func94 (by kernel_rfl) (by kernel_rfl) (by kernel_rfl) (by kernel_rfl)
  have h62 := @run_callFunc_extern Tryd.prog 120 _ (ReflectliteType.abiMethod fun t => do pure (.int .u8 (← Rtype.kind t))) Tryd.func120 (by kernel_rfl) (by kernel_rfl) (by kernel_rfl) (by kernel_rfl)
  have h71 := @run_callFunc_extern Tryd.prog 132 _ (ReflectliteType.method ReflectliteType.elem) Tryd.func132 (by kernel_rfl) (by kernel_rfl) (by kernel_rfl) (by kernel_rfl)
  have h72 := @run_callFunc_extern Tryd.prog 133 _ (ReflectliteType.relation "Implements" ReflectliteType.implements_) Tryd.func133 (by kernel_rfl) (by kernel_rfl) (by kernel_rfl) (by kernel_rfl)
  have f6 := reValueP
  have f7 := reTypeP
  have mK := reMethodKind
  have mE := reMethodElem
  have mI := reMethodImplements
  have kP := reKindP
  have kN := reKindN
  have eP := reElemP
  have iN := reImplementsN
  have htl := cell_lt ht
  have hgl : 0 < W.heap.size := cell_lt hg
  obtain ⟨u, v, rfl⟩ := hch.iface
  have hv2 : ((W.alloc (.cells #[.pointer (some t)] 125)).alloc (.cells #[.pointer (some ⟨1, 125, none⟩), .pointer (some ⟨W.heap.size, 0, none⟩), .int .u64 150] 150)).cell? ⟨W.heap.size, 0, none⟩ = some (.pointer (some t)) := by
    rw [World.cell?_alloc_lt _ _ _ (by simp), World.cell?_alloc_at _ _ _ _ rfl]; rfl
  have n8 := reIsNilP ⟨W.heap.size, 0, none⟩ t _ hv2
  have hg2 : ((W.alloc (.cells #[.pointer (some t)] 125)).alloc (.cells #[.pointer (some ⟨1, 125, none⟩), .pointer (some ⟨W.heap.size, 0, none⟩), .int .u64 150] 150)).cell? ⟨0, 0, none⟩ = some (.iface 164 (.agg #[.pointer (some ⟨1, 26, none⟩)])) := by
    rw [World.cell?_alloc_lt _ _ _ (by simp), World.cell?_alloc_lt _ _ _ hgl]; exact hg
  have ht2 : ((W.alloc (.cells #[.pointer (some t)] 125)).alloc (.cells #[.pointer (some ⟨1, 125, none⟩), .pointer (some ⟨W.heap.size, 0, none⟩), .int .u64 150] 150)).cell? t = some old := by
    rw [World.cell?_alloc_lt _ _ _ (by simp; omega), World.cell?_alloc_lt _ _ _ htl]; exact ht
  have hf2 : ((W.alloc (.cells #[.pointer (some t)] 125)).alloc (.cells #[.pointer (some ⟨1, 125, none⟩), .pointer (some ⟨W.heap.size, 0, none⟩), .int .u64 150] 150)).frozen? t = false := by
    rw [World.frozen?_alloc_old _ _ t (by simp; omega), World.frozen?_alloc_old _ _ t (Nat.ne_of_lt htl)]; exact hf
  have has := Lib.hid (as_num t old W.heap.size _ l n ((hch.alloc _).alloc _) hv2 ht2 hf2)
  have Hh := Lib.hid ht
  clear hf2 ht2 hch hf ht
  go_enter Tryd.func73, Tryd.ntmps73
  go_wp2_with fail
  refine has.out.mono ?_
  rintro e w1 ⟨rfl, rfl⟩
  go_wp2_with fail
  go_ret
  refine ⟨rfl, World.cell?_setCell_same _ _ _ (u := old) ?_, ?_⟩
  · rw [World.cell?_alloc_lt _ _ t (by simp; omega), World.cell?_alloc_lt _ _ t (by simp; omega), World.cell?_alloc_lt _ _ t (by simp; omega), World.cell?_alloc_lt _ _ t htl]
    exact Hh.out
  · exact (((((Below.refl _ _).alloc (by omega) _).alloc (by simp; omega) _).alloc (by simp; omega) _).alloc (by simp; omega) _).setCell (Nat.le_refl _) _

set_option maxHeartbeats 4000000 in
theorem As_none {B : Nat} {W : World} (t : Addr) (old : Value) (E : Value) (l : List ByteArray) (hch : Chain B W E l none)
    (hg : W.cell? ⟨0, 0, none⟩ = some (.iface 164 (.agg #[.pointer (some ⟨1, 26, none⟩)]))) (ht : W.cell? t = some old) (hf : W.frozen? t = false) :
    Calls Tryd.prog 73 #[E, .iface 125 (.pointer (some t))] W fun e w' => e = .returned (.bool false) ∧ Below W.heap.size W w' := by
  have h40 := @run_callFunc_extern Tryd.prog 92 _ (fun args => ReflectliteValue.unpack (args.getD 0 (.tuple #[]))) Tryd.func92 (by kernel_rfl) (by kernel_rfl) (by kernel_rfl) (by kernel_rfl)
  have h41 := @run_callFunc_extern Tryd.prog 93 _ (ReflectliteValue.methodAny (ReflectliteValue.valueError "reflectlite.Value.Type" 0) (fun t _ _ _ => ReflectliteType.toType t)) Tryd.func93 (by kernel_rfl) (by kernel_rfl) (by kernel_rfl) (by kernel_rfl)
  have h42 := @run_callFunc_extern Tryd.prog 94 _ (ReflectliteValue.method (ReflectliteValue.valueError "reflectlite.Value.IsNil" 0) ReflectliteValue.isNil) Tryd.func94 (by kernel_rfl) (by kernel_rfl) (by kernel_rfl) (by kernel_rfl)
  have h62 := @run_callFunc_extern Tryd.prog 120 _ (ReflectliteType.abiMethod fun t => do pure (.int .u8 (← Rtype.kind t))) Tryd.func120 (by kernel_rfl) (by kernel_rfl) (by kernel_rfl) (by kernel_rfl)
  have h71 := @run_callFunc_extern Tryd.prog 132 _ (ReflectliteType.method ReflectliteType.elem) Tryd.func132 (by kernel_rfl) (by kernel_rfl) (by kernel_rfl) (by kernel_rfl)
  have h72 := @run_callFunc_extern Tryd.prog 133 _ (ReflectliteType.relation "Implements" ReflectliteType.implements_) Tryd.func133 (by kernel_rfl) (by kernel_rfl) (by kernel_rfl) (by kernel_rfl)
  have f6 := reValueP
  have f7 := reTypeP
  have mK := reMethodKind
  have mE := reMethodElem
  have mI := reMethodImplements
  have kP := reKindP
  have kN := reKindN
  have eP := reElemP
  have iN := reImplementsN
  have htl := cell_lt ht
  have hgl : 0 < W.heap.size := cell_lt hg
  obtain ⟨u, v, rfl⟩ := hch.iface
  have hv2 : ((W.alloc (.cells #[.pointer (some t)] 125)).alloc (.cells #[.pointer (some ⟨1, 125, none⟩), .pointer (some ⟨W.heap.size, 0, none⟩), .int .u64 150] 150)).cell? ⟨W.heap.size, 0, none⟩ = some (.pointer (some t)) := by
    rw [World.cell?_alloc_lt _ _ _ (by simp), World.cell?_alloc_at _ _ _ _ rfl]; rfl
  have n8 := reIsNilP ⟨W.heap.size, 0, none⟩ t _ hv2
  have hg2 : ((W.alloc (.cells #[.pointer (some t)] 125)).alloc (.cells #[.pointer (some ⟨1, 125, none⟩), .pointer (some ⟨W.heap.size, 0, none⟩), .int .u64 150] 150)).cell? ⟨0, 0, none⟩ = some (.iface 164 (.agg #[.pointer (some ⟨1, 26, none⟩)])) := by
    rw [World.cell?_alloc_lt _ _ _ (by simp), World.cell?_alloc_lt _ _ _ hgl]; exact hg
  have ht2 : ((W.alloc (.cells #[.pointer (some t)] 125)).alloc (.cells #[.pointer (some ⟨1, 125, none⟩), .pointer (some ⟨W.heap.size, 0, none⟩), .int .u64 150] 150)).cell? t = some old := by
    rw [World.cell?_alloc_lt _ _ _ (by simp; omega), World.cell?_alloc_lt _ _ _ htl]; exact ht
  have hf2 : ((W.alloc (.cells #[.pointer (some t)] 125)).alloc (.cells #[.pointer (some ⟨1, 125, none⟩), .pointer (some ⟨W.heap.size, 0, none⟩), .int .u64 150] 150)).frozen? t = false := by
    rw [World.frozen?_alloc_old _ _ t (by simp; omega), World.frozen?_alloc_old _ _ t (Nat.ne_of_lt htl)]; exact hf
  have has := Lib.hid (as_none t old W.heap.size _ l ((hch.alloc _).alloc _) hv2 ht2 hf2)
  clear hf2 ht2 hch hf ht
  go_enter Tryd.func73, Tryd.ntmps73
  go_wp2_with fail
  refine has.out.mono ?_
  rintro e w1 ⟨rfl, rfl⟩
  go_wp2_with fail
  go_ret
  exact ⟨rfl, (((Below.refl _ _).alloc (by omega) _).alloc (by simp) _).alloc (by simp; omega) _⟩

/-! ### tag.Tag -/
theorem Tag_nil (s : ByteArray) (w : World) : Calls Tryd.prog 72 #[.string s, .nilIface] w fun e w' => e = .returned .nilIface ∧ w = w' := by
  go_enter Tryd.func72, Tryd.ntmps72
  go_wp2
  go_ret
  exact ⟨rfl, rfl⟩
theorem Tag_some (s : ByteArray) (t : TypeId) (v : Value) (w : World) : Calls Tryd.prog 72 #[.string s, .iface t v] w fun e w' => e = .returned (.iface 144 (.pointer (some ⟨w.heap.size, 0, none⟩))) ∧ w' = w.alloc (.cells #[.string s, .iface t v] 146) := by
  go_enter Tryd.func72, Tryd.ntmps72
  go_wp2
  go_ret
  exact ⟨rfl, rfl⟩

/-! ### the listed variable; an error's number in memory -/
/-- errors.errorType's cell holds the handle of the type 'error' -/
def Tied (W : World) : Prop := W.cell? ⟨0, 0, none⟩ = some (.iface 164 (.agg #[.pointer (some ⟨1, 26, none⟩)]))
theorem Tied.lt {W : World} (h : Tied W) : 0 < W.heap.size := cell_lt h
theorem Tied.under {W W' : World} {B : Nat} (h : Tied W) (hB : 0 < B) (hb : Below B W W') : Tied W' := (hb.cell (p := ⟨0, 0, none⟩) hB).trans h
/-- nil: 0; else a chain, from B on, that ends in that number -/
def ErrR (B : Nat) (W : World) (v : Value) (n : Int) : Prop := (v = .nilIface ∧ n = 0) ∨ ∃ l, Chain B W v l (some n)
theorem ErrR.nil (B : Nat) (W : World) : ErrR B W .nilIface 0 := .inl ⟨rfl, rfl⟩
theorem ErrR.under {B : Nat} {W W' : World} {v : Value} {n : Int} (h : ErrR B W v n) (hb : Below W.heap.size W W') : ErrR B W' v n := by
  rcases h with h | ⟨l, h⟩
  · exact .inl h
  · exact .inr ⟨l, h.under hb⟩
theorem ErrR.alloc {B : Nat} {W : World} {v : Value} {n : Int} (h : ErrR B W v n) (o : Obj) : ErrR B (W.alloc o) v n := h.under ((Below.refl _ _).alloc (Nat.le_refl _) o)
theorem ErrR.setCell {B : Nat} {W : World} {v : Value} {n : Int} (h : ErrR B W v n) {a : Addr} (ha : a.block < B) (u : Value) : ErrR B (W.setCell a u) v n := by
  rcases h with h | ⟨l, h⟩
  · exact .inl h
  · exact .inr ⟨l, h.setCell ha u⟩
theorem ErrR.mono {B B' : Nat} {W : World} {v : Value} {n : Int} (h : ErrR B W v n) (hB : B' ≤ B) : ErrR B' W v n := by
  rcases h with h | ⟨l, h⟩
  · exact .inl h
  · exact .inr ⟨l, h.mono hB⟩
theorem err_at {W w1 : World} {v : Value} {n : Int} (hr : ErrR W.heap.size w1 v n) : ∃ B, ErrR B w1 v n ∧ W.heap.size ≤ B := ⟨_, hr, Nat.le_refl _⟩
theorem ErrR.drewN {B : Nat} {W : World} {v : Value} {n : Int} (h : ErrR B W v n) (k : Nat) : ErrR B (W.drewN k) v n := by
  rcases h with h | ⟨l, h⟩
  · exact .inl h
  · exact .inr ⟨l, h.keep fun _ _ _ hc => hc⟩
/-- what tag.Tag makes of a number -/
theorem ErrR.tag (w : World) (s : ByteArray) (n : Int) : ErrR w.heap.size (w.alloc (.cells #[.string s, .iface 119 (.int .i64 n)] 146)) (.iface 144 (.pointer (some ⟨w.heap.size, 0, none⟩))) n :=
  .inr ⟨[s], .more _ _ _ _ _ (Nat.le_refl _) (by rw [World.cell?_alloc_at _ _ _ _ rfl]; rfl) (by rw [World.cell?_alloc_at _ _ _ _ rfl]; rfl) (.num n)⟩

/-- w' is W but for what is new -/
def KF (W w' : World) : Prop := Below W.heap.size W w'
theorem KF.size {W w' : World} (h : KF W w') : W.heap.size ≤ w'.heap.size := Below.size h
theorem KF.mono {W w' : World} {B : Nat} (h : KF W w') (hB : B ≤ W.heap.size) : Below B W w' := Below.mono h hB
theorem KF.step {W w' w'' : World} (h : KF W w') (hb : Below w'.heap.size w' w'') : KF W w'' := Below.trans h (hb.mono (Below.size h))
theorem KF.err {B : Nat} {W w' : World} {v : Value} {n : Int} (h : KF W w') (hr : ErrR B W v n) : ErrR B w' v n := hr.under h
theorem KF.tied {W w' : World} (h : KF W w') (ht : Tied W) : Tied w' := ht.under ht.lt h
theorem KF.cell {W w' : World} {p : Addr} {v : Value} (h : KF W w') (hc : W.cell? p = some v) : w'.cell? p = some v := (Below.cell h (cell_lt hc)).trans hc

/-! ### tag.Num -/
theorem Num_nil (w : World) : Calls Tryd.prog 21 #[.nilIface] w fun e w' => e = .returned (.int .i64 0) ∧ w = w' := by
  go_enter Tryd.func21, Tryd.ntmps21
  go_wp2
  go_ret
  exact ⟨rfl, rfl⟩
set_option maxHeartbeats 1000000 in
theorem Num_chain {B : Nat} (w : World) (E : Value) (l : List ByteArray) (n : Int) (hch : Chain B w E l (some n)) (hg : Tied w) :
    Calls Tryd.prog 21 #[E] w fun e w' => e = .returned (.int .i64 n) ∧ Below w.heap.size w w' := by
  obtain ⟨u, v, rfl⟩ := hch.iface
  have hg1 : Tied (w.alloc (.cells #[.int .i64 0] 119)) := hg.under hg.lt ((Below.refl _ _).alloc (Nat.le_refl _) _)
  have has := Lib.hid (As_num (W := w.alloc (.cells #[.int .i64 0] 119)) ⟨w.heap.size, 0, none⟩ (.int .i64 0) _ l n (hch.alloc _) hg1 (by rw [World.cell?_alloc_at _ _ _ _ rfl]; rfl) (by rw [World.frozen?_alloc_at _ _ _ _ rfl]))
  clear hch
  go_enter Tryd.func21, Tryd.ntmps21
  go_wp2_with fail
  refine has.out.mono ?_
  rintro e w1 ⟨rfl, hc, hb⟩
  have HB := Lib.hid hb
  clear hb
  go_wp2_with fail
  go_ret
  exact ⟨rfl, ((Below.refl _ _).alloc (Nat.le_refl _) _).trans HB.out⟩
set_option maxHeartbeats 1000000 in
theorem Num_none {B : Nat} (w : World) (E : Value) (l : List ByteArray) (hch : Chain B w E l none) (hg : Tied w) :
    Calls Tryd.prog 21 #[E] w fun e w' => e = .returned (.int .i64 (-1)) ∧ Below w.heap.size w w' := by
  obtain ⟨u, v, rfl⟩ := hch.iface
  have hg1 : Tied (w.alloc (.cells #[.int .i64 0] 119)) := hg.under hg.lt ((Below.refl _ _).alloc (Nat.le_refl _) _)
  have has := Lib.hid (As_none (W := w.alloc (.cells #[.int .i64 0] 119)) ⟨w.heap.size, 0, none⟩ (.int .i64 0) _ l (hch.alloc _) hg1 (by rw [World.cell?_alloc_at _ _ _ _ rfl]; rfl) (by rw [World.frozen?_alloc_at _ _ _ _ rfl]))
  clear hch
  go_enter Tryd.func21, Tryd.ntmps21
  go_wp2_with fail
  refine has.out.mono ?_
  rintro e w1 ⟨rfl, hb⟩
  have HB := Lib.hid hb
  clear hb
  go_wp2_with fail
  go_ret
  exact ⟨rfl, ((Below.refl _ _).alloc (Nat.le_refl _) _).trans (HB.out.mono (by simp))⟩
/-- tag.Num at nil, or at a chain that ends in a number -/
theorem Num_any {B : Nat} (w : World) (v : Value) (n : Int) (h : ErrR B w v n) (hg : Tied w) :
    Calls Tryd.prog 21 #[v] w fun e w' => e = .returned (.int .i64 n) ∧ Below w.heap.size w w' := by
  rcases h with ⟨rfl, rfl⟩ | ⟨l, h⟩
  · exact (Num_nil w).mono fun _ _ ⟨he, hw⟩ => ⟨he, hw ▸ Below.refl _ _⟩
  · exact Num_chain w v l n h hg
/-- tag.Tag around a number -/
theorem Tag_num (s : ByteArray) (n : Int) (w : World) : Calls Tryd.prog 72 #[.string s, .iface 119 (.int .i64 n)] w fun e w' => ∃ t v, e = .returned (.iface t v) ∧ ErrR w.heap.size w' (.iface t v) n ∧ Below w.heap.size w w' :=
  (Tag_some s _ _ w).mono fun _ _ ⟨he, hw⟩ => ⟨_, _, he, hw ▸ ErrR.tag w s n, hw ▸ (Below.refl _ _).alloc (Nat.le_refl _) _⟩
end Go.Proofs.YtmnkgcgmbdkjaaaDoor
namespace Go.Proofs.YtmnkgcgmbdkjaaaDoor
open Go.RowKit
theorem KF.alloc {W w' : World} (h : KF W w') (o : Obj) : KF W (w'.alloc o) := Below.alloc h (Below.size h) o
theorem KF.refl (W : World) : KF W W := Below.refl _ _
theorem KF.drew {W w' : World} (h : KF W w') : KF W w'.drew := Below.drew h
theorem KF.setCell {W w' : World} (h : KF W w') {p : Addr} (hp : W.heap.size ≤ p.block) (u : Value) : KF W (w'.setCell p u) := Below.setCell h hp u
theorem KF.frozen {W w' : World} (h : KF W w') {p : Addr} (hp : p.block < W.heap.size) : w'.frozen? p = W.frozen? p := Below.frozen h hp
end Go.Proofs.YtmnkgcgmbdkjaaaDoor
namespace Go.Proofs.YtmnkgcgmbdkjaaaDoor
open Go.RowKit Go.Extern.Stop Go.Stop Go.Extern

/-- nil: 0; else a chain, from B on, that ends in that number, which isn't 0 -/
def ErrC (B : Nat) (W : World) (v : Value) (n : Int) : Prop := (n = 0 ∧ v = .nilIface) ∨ (n ≠ 0 ∧ ∃ l, Chain B W v l (some n))
theorem ErrC.r {B : Nat} {W : World} {v : Value} {n : Int} (h : ErrC B W v n) : ErrR B W v n := by
  rcases h with ⟨h, rfl⟩ | ⟨_, h⟩
  · exact .inl ⟨rfl, h⟩
  · exact .inr h
theorem ErrC.nil (B : Nat) (W : World) : ErrC B W .nilIface 0 := .inl ⟨rfl, rfl⟩
theorem ErrC.zero {B : Nat} {W : World} {v : Value} (h : ErrC B W v 0) : v = .nilIface := by
  rcases h with ⟨_, h⟩ | ⟨h, _⟩
  · exact h
  · exact absurd rfl h
theorem ErrC.some {B : Nat} {W : World} {v : Value} {n : Int} (h : ErrC B W v n) (hn : n ≠ 0) : ∃ l, Chain B W v l (Option.some n) := by
  rcases h with ⟨h, _⟩ | ⟨_, h⟩
  · exact absurd h hn
  · exact h
theorem ErrC.iface {B : Nat} {W : World} {v : Value} {n : Int} (h : ErrC B W v n) (hn : n ≠ 0) : ∃ t x, v = .iface t x := by
  obtain ⟨l, h⟩ := h.some hn; exact h.iface
theorem ErrC.under {B : Nat} {W W' : World} {v : Value} {n : Int} (h : ErrC B W v n) (hb : Below W.heap.size W W') : ErrC B W' v n := by
  rcases h with h | ⟨hn, l, h⟩
  · exact .inl h
  · exact .inr ⟨hn, l, h.under hb⟩
theorem ErrC.alloc {B : Nat} {W : World} {v : Value} {n : Int} (h : ErrC B W v n) (o : Obj) : ErrC B (W.alloc o) v n := h.under ((Below.refl _ _).alloc (Nat.le_refl _) o)
theorem ErrC.setCell {B : Nat} {W : World} {v : Value} {n : Int} (h : ErrC B W v n) {a : Addr} (ha : a.block < B) (u : Value) : ErrC B (W.setCell a u) v n := by
  rcases h with h | ⟨hn, l, h⟩
  · exact .inl h
  · exact .inr ⟨hn, l, h.setCell ha u⟩
theorem ErrC.mono {B B' : Nat} {W : World} {v : Value} {n : Int} (h : ErrC B W v n) (hB : B' ≤ B) : ErrC B' W v n := by
  rcases h with h | ⟨hn, l, h⟩
  · exact .inl h
  · exact .inr ⟨hn, l, h.mono hB⟩
theorem ErrC.drewN {B : Nat} {W : World} {v : Value} {n : Int} (h : ErrC B W v n) (k : Nat) : ErrC B (W.drewN k) v n := by
  rcases h with h | ⟨hn, l, h⟩
  · exact .inl h
  · exact .inr ⟨hn, l, h.keep fun _ _ _ hc => hc⟩
/-- one step behind another -/
theorem below_step {W w1 w2 : World} {B : Nat} (h : Below B W w1) (k : Below w1.heap.size w1 w2) (hB : B ≤ W.heap.size) : Below B W w2 := h.trans (k.mono (Nat.le_trans hB h.size))
theorem bstep {W w1 w2 : World} (h : Below W.heap.size W w1) (k : Below w1.heap.size w1 w2) : Below W.heap.size W w2 := below_step h k (Nat.le_refl _)
/-- tag.Tag around a number that isn't 0 -/
theorem Tag_err (s : ByteArray) (n : Int) (w : World) (hn : n ≠ 0 := by decide) : Calls Tryd.prog 72 #[.string s, .iface 119 (.int .i64 n)] w fun e w' => ∃ v, e = .returned v ∧ ErrC w.heap.size w' v n ∧ Below w.heap.size w w' := by
  refine (Tag_some s _ _ w).mono ?_
  rintro e w' ⟨rfl, rfl⟩
  exact ⟨_, rfl, .inr ⟨hn, [s], .more _ _ _ _ _ (Nat.le_refl _) (by rw [World.cell?_alloc_at _ _ _ _ rfl]; rfl) (by rw [World.cell?_alloc_at _ _ _ _ rfl]; rfl) (.num n)⟩, (Below.refl _ _).alloc (Nat.le_refl _) _⟩
/-- tag.Num of whatever number -/
theorem Num_c {B : Nat} (w : World) (E : Value) (n : Int) (h : ErrC B w E n) (hg : Tied w) :
    Calls Tryd.prog 21 #[E] w fun e w' => e = .returned (.int .i64 n) ∧ Below w.heap.size w w' := Num_any w E n h.r hg
end Go.Proofs.YtmnkgcgmbdkjaaaDoor
namespace Go.Proofs.YtmnkgcgmbdkjaaaDoor
open Go.RowKit Go.Extern.Stop Go.Stop Go.Extern
set_option linter.unusedVariables false
set_option linter.unusedSimpArgs false

theorem run_equalIn_iface_int {P : Program} (w : World) (d : Nat) {ti tn : TypeId} {ms : Array (String × TypeId)} {i : TypeInfo} {k : IntKind} (a b : Int)
    (hi : P.underlying ti = some (.interface ms)) (hn : P.underlying tn = some (.int k)) (hinfo : P.info? tn = some i) (hcomp : i.comparable = true) :
    (Op.equalIn (d + 2) ti (.iface tn (.int k a)) (.iface tn (.int k b))).run P w = .ok (a == b) w := by
  simp [Op.equalIn, run_underlying hi, run_underlying hn, typeInfo, hinfo, hcomp]
theorem run_eql_iface_int {P : Program} (w : World) {ti tn : TypeId} {ms : Array (String × TypeId)} {i : TypeInfo} {k : IntKind} (a b : Int)
    (hi : P.underlying ti = some (.interface ms)) (hn : P.underlying tn = some (.int k)) (hinfo : P.info? tn = some i) (hcomp : i.comparable = true) :
    (binOp .eql ti (.iface tn (.int k a)) (.iface tn (.int k b))).run P w = .ok (.bool (a == b)) w := by
  simp only [binOp]
  simp [Op.equal, Op.maxDepth, run_equalIn_iface_int w 9998 a b hi hn hinfo hcomp]

theorem isTypeOfN (v : Value) (w : World) : (Extern.ReflectliteType.typeOf #[.iface 119 v]).run Tryd.prog w = .ok (.iface 164 (.agg #[.pointer (some ⟨1, 119, none⟩)])) w := by kernel_rfl
/-- the model's entry for (rtype).Comparable, under a name of its own -/
noncomputable def cmpEntry : Array Value → Sem Value := ((find Tryd.f131).getD (fun _ => pure (.tuple #[])))
theorem cmpEntry_found : find Tryd.f131 = some cmpEntry := by kernel_rfl
theorem isComparableN (w : World) : (cmpEntry #[.agg #[.pointer (some ⟨1, 119, none⟩)]]).run Tryd.prog w = .ok (.bool true) w := by kernel_rfl
theorem isMethodComparable (v : Value) (w : World) : (Go.method 311 164 v "Comparable").run Tryd.prog w = .ok (131, v) w := by kernel_rfl
theorem isCompN : (Tryd.prog.info? 119).map (·.comparable) = some true := by kernel_rfl
theorem noIsN (v : Value) (xT : TypeId) (w : World) : (Instr.typeAssert (.iface 119 v) xT 180 true).run Tryd.prog w = .ok (.tuple #[.nilIface, .bool false]) w := run_typeAssert_lacksB Tryd.underlying180 (by kernel_rfl) (by kernel_rfl) v xT w
theorem noIsT (v : Value) (xT : TypeId) (w : World) : (Instr.typeAssert (.iface 144 v) xT 180 true).run Tryd.prog w = .ok (.tuple #[.nilIface, .bool false]) w := run_typeAssert_lacksB Tryd.underlying180 (by kernel_rfl) (by kernel_rfl) v xT w
theorem noUnwrapN (v : Value) (xT : TypeId) (w : World) : (Instr.typeAssert (.iface 119 v) xT 172 true).run Tryd.prog w = .ok (.tuple #[.nilIface, .bool false]) w := run_typeAssert_lacksB Tryd.underlying172 (by kernel_rfl) (by kernel_rfl) v xT w
theorem noUnwrapsN (v : Value) (xT : TypeId) (w : World) : (Instr.typeAssert (.iface 119 v) xT 173 true).run Tryd.prog w = .ok (.tuple #[.nilIface, .bool false]) w := run_typeAssert_lacksB Tryd.underlying173 (by kernel_rfl) (by kernel_rfl) v xT w

/-- is the number at a chain's end that one? -/
def sameB (r : Option Int) (m : Int) : Bool := match r with | some n => n == m | none => false

set_option maxRecDepth 1000000 in
set_option maxHeartbeats 1000000 in
theorem is_chain {B : Nat} {W : World} (m : Int) (E : Value) (l : List ByteArray) (r : Option Int) (hch : Chain B W E l r) :
    Calls Tryd.prog 104 #[E, .iface 119 (.int .i64 m), .bool true] W fun e w' => e = .returned (.bool (sameB r m)) ∧ W = w' := by
  obtain ⟨i, hi, hcmp⟩ := Option.map_eq_some_iff.1 isCompN
  have nN := noIsN
  have nT := noIsT
  have uT := reHasUnwrap
  have uN := noUnwrapN
  have vN := noUnwrapsN
  have mU := reMethodUnwrap
  have hch1 := Lib.hid hch
  clear hch
  go_enter Tryd.func104, Tryd.ntmps104
  go_wp2
  go_loopg [0] l.length (fun k E' wl => wl = W ∧ ∃ l', k = l'.length ∧ Chain B W E' l' r)
  case atStart => exact ⟨rfl, l, rfl, hch1.out⟩
  case round =>
    obtain ⟨rfl, l', rfl, hc'⟩ := hrel
    cases hc' with
    | num n =>
      by_cases hnm : n = m
      · subst hnm
        have heq := run_eql_iface_int (P := Tryd.prog) wr n n Tryd.underlying26 Tryd.underlying119 hi hcmp
        rw [beq_self_eq_true] at heq
        go_wp2
        go_ret
        exact ⟨by simp [sameB], rfl⟩
      · have heq := run_eql_iface_int (P := Tryd.prog) wr n m Tryd.underlying26 Tryd.underlying119 hi hcmp
        rw [show (n == m) = false by simpa using hnm] at heq
        have hb : (n == m) = false := by simpa using hnm
        go_wp2
        go_ret
        exact ⟨by simp [sameB, hnm], rfl⟩
    | last b s _ h0 h1 =>
      have hty := run_eql_iface_types (P := Tryd.prog) 144 119 (.pointer (some ⟨b, 0, none⟩)) (.int .i64 m) Tryd.underlying26 (by decide) wr
      go_wp2
      go_ret
      exact ⟨by simp [sameB], rfl⟩
    | more b s E l2 _ _ h0 h1 h2 =>
      have hty := run_eql_iface_types (P := Tryd.prog) 144 119 (.pointer (some ⟨b, 0, none⟩)) (.int .i64 m) Tryd.underlying26 (by decide) wr
      obtain ⟨u, v, rfl⟩ := h2.iface
      have H2 := Lib.hid h2
      clear h2
      go_wp2
      go_roundg l2.length
      case measure => simp
      case rel => exact ⟨rfl, l2, rfl, H2.out⟩

set_option maxHeartbeats 1000000 in
theorem Is_chain {B : Nat} {W : World} (m : Int) (E : Value) (l : List ByteArray) (r : Option Int) (hch : Chain B W E l r) :
    Calls Tryd.prog 99 #[E, .iface 119 (.int .i64 m)] W fun e w' => e = .returned (.bool (sameB r m)) ∧ W = w' := by
  have h8 := @run_callFunc_extern Tryd.prog 100 _ Extern.ReflectliteType.typeOf Tryd.func100 (by kernel_rfl) (by kernel_rfl) (by kernel_rfl) (by kernel_rfl)
  have h32 := @run_callFunc_extern Tryd.prog 131 _ cmpEntry Tryd.func131 (by kernel_rfl) (by kernel_rfl) (by kernel_rfl) cmpEntry_found
  have tT := isTypeOfN
  have cT := isComparableN
  have mR := isMethodComparable
  obtain ⟨u, v, rfl⟩ := hch.iface
  have his := Lib.hid (is_chain m _ l r hch)
  clear hch
  go_enter Tryd.func99, Tryd.ntmps99
  go_wp2_with fail
  refine his.out.mono ?_
  rintro e w1 ⟨rfl, rfl⟩
  go_wp2_with fail
  go_ret
  exact ⟨rfl, rfl⟩
theorem Is_nil (m : Int) (W : World) :
    Calls Tryd.prog 99 #[.nilIface, .iface 119 (.int .i64 m)] W fun e w' => e = .returned (.bool false) ∧ W = w' := by
  have hn := run_eql_iface_nil_left (P := Tryd.prog) W 119 (.int .i64 m) Tryd.underlying26
  go_enter Tryd.func99, Tryd.ntmps99
  go_wp2
  go_ret
  exact ⟨rfl, rfl⟩
/-- tag.Same at a chain -/
theorem Same_chain {B : Nat} {W : World} (m : Int) (E : Value) (l : List ByteArray) (r : Option Int) (hch : Chain B W E l r) :
    Calls Tryd.prog 83 #[E, .int .i64 m] W fun e w' => e = .returned (.bool (sameB r m)) ∧ W = w' := by
  obtain ⟨u, v, rfl⟩ := hch.iface
  have his := Lib.hid (Is_chain m _ l r hch)
  clear hch
  go_enter Tryd.func83, Tryd.ntmps83
  go_wp2_with fail
  refine his.out.mono ?_
  rintro e w1 ⟨rfl, rfl⟩
  go_wp2_with fail
  go_ret
  exact ⟨rfl, rfl⟩
theorem Same_nil (m : Int) (W : World) :
    Calls Tryd.prog 83 #[.nilIface, .int .i64 m] W fun e w' => e = .returned (.bool false) ∧ W = w' := by
  go_enter Tryd.func83, Tryd.ntmps83
  go_wp2_with fail
  refine (Is_nil m _).mono ?_
  rintro e w1 ⟨rfl, rfl⟩
  go_wp2_with fail
  go_ret
  exact ⟨rfl, rfl⟩
end Go.Proofs.YtmnkgcgmbdkjaaaDoor
