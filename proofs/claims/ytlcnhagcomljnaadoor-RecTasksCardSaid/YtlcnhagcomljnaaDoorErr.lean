/- The errors of this program in memory: a number (api.Errno), or a tag laid around nil or around another error; package errors' As at such a chain, by its contracts; tag.Tag and tag.Num by their contracts. -/
import Derived.Test.YtlcnhagcomljnaaDoorProg
import Derived.WalkKit
import Derived.LaidEql
import Derived.Stop.Asserts
import Derived.RowKitTokens
import Derived.Lib.Hide
import Derived.Deep.LoopGhost
namespace Go.Proofs.YtlcnhagcomljnaaDoor
open Go.RowKit Go.Extern.Stop Go.Stop Go.Extern

/-! ### closed facts on reflectlite's entries at this translation's numbers -/
theorem reValueP (t : Addr) (w : World) : (ReflectliteValue.unpack (.iface 97 (.pointer (some t)))).run Tryd.prog w
    = .ok (.agg #[.pointer (some ⟨1, 97, none⟩), .pointer (some ⟨w.heap.size, 0, none⟩), .int .u64 150]) (w.alloc (.cells #[.pointer (some t)] 97)) := by kernel_rfl
theorem reTypeP (a : Addr) (w : World) : (ReflectliteValue.methodAny (ReflectliteValue.valueError "reflectlite.Value.Type" 0) (fun t _ _ _ => ReflectliteType.toType t) #[.agg #[.pointer (some ⟨1, 97, none⟩), .pointer (some a), .int .u64 150]]).run Tryd.prog w
    = .ok (.iface 156 (.agg #[.pointer (some ⟨1, 97, none⟩)])) w := by kernel_rfl
theorem reMethodKind (h : Value) (w : World) : (Go.method 308 156 (.agg #[h]) "Kind").run Tryd.prog w = .ok (112, h) w := by kernel_rfl
theorem reKindP (w : World) : ((ReflectliteType.abiMethod fun t => (fun a : Nat => Value.int IntKind.u8 (a : Int)) <$> Rtype.kind t) #[.pointer (some ⟨1, 97, none⟩)]).run Tryd.prog w = .ok (.int .u8 22) w := by kernel_rfl
theorem reKindN (w : World) : ((ReflectliteType.abiMethod fun t => (fun a : Nat => Value.int IntKind.u8 (a : Int)) <$> Rtype.kind t) #[.pointer (some ⟨1, 95, none⟩)]).run Tryd.prog w = .ok (.int .u8 2) w := by kernel_rfl
theorem rlm (z : Sem Value) (f : TypeId → Addr → Nat → Nat → Sem Value) (v : Value) :
    ReflectliteValue.method z f #[v] = (do match ← ReflectliteValue.parts v with | none => z | some (t, a, fl) => f t a fl (fl % 32)) := rfl
theorem rePartsP (a : Addr) (w : World) : (ReflectliteValue.parts (.agg #[.pointer (some ⟨1, 97, none⟩), .pointer (some a), .int .u64 150])).run Tryd.prog w = .ok (some (97, a, 150)) w := by kernel_rfl
theorem reIsNilP (a p : Addr) (W : World) (ha : W.cell? a = some (.pointer (some p))) :
    (ReflectliteValue.method (ReflectliteValue.valueError "reflectlite.Value.IsNil" 0) ReflectliteValue.isNil #[.agg #[.pointer (some ⟨1, 97, none⟩), .pointer (some a), .int .u64 150]]).run Tryd.prog W = .ok (.bool false) W := by
  rw [rlm]
  simp only [Sem.run_bind, rePartsP, Result.andThen]
  simp [ReflectliteValue.isNil, loadVar, isAgg, underlying, Tryd.underlying97, ha, Result.andThen]
theorem reMethodElem (h : Value) (w : World) : (Go.method 308 156 (.agg #[h]) "Elem").run Tryd.prog w = .ok (126, .agg #[h]) w := by kernel_rfl
theorem reMethodImplements (h : Value) (w : World) : (Go.method 308 156 (.agg #[h]) "Implements").run Tryd.prog w = .ok (127, .agg #[h]) w := by kernel_rfl
theorem reMethodAssignable (h : Value) (w : World) : (Go.method 308 156 (.agg #[h]) "AssignableTo").run Tryd.prog w = .ok (124, .agg #[h]) w := by kernel_rfl
theorem reElemP (w : World) : (ReflectliteType.method ReflectliteType.elem #[.agg #[.pointer (some ⟨1, 97, none⟩)]]).run Tryd.prog w = .ok (.iface 156 (.agg #[.pointer (some ⟨1, 95, none⟩)])) w := by kernel_rfl
theorem reImplementsN (w : World) : (ReflectliteType.relation "Implements" ReflectliteType.implements_ #[.agg #[.pointer (some ⟨1, 95, none⟩)], .iface 156 (.agg #[.pointer (some ⟨1, 27, none⟩)])]).run Tryd.prog w = .ok (.bool true) w := by kernel_rfl
theorem reTypeOfN (v : Value) (w : World) : (ReflectliteType.typeOf #[.iface 95 v]).run Tryd.prog w = .ok (.iface 156 (.agg #[.pointer (some ⟨1, 95, none⟩)])) w := by kernel_rfl
theorem reTypeOfT (v : Value) (w : World) : (ReflectliteType.typeOf #[.iface 144 v]).run Tryd.prog w = .ok (.iface 156 (.agg #[.pointer (some ⟨1, 144, none⟩)])) w := by kernel_rfl
theorem reAssignableN (w : World) : (ReflectliteType.relation "AssignableTo" ReflectliteType.assignableTo #[.agg #[.pointer (some ⟨1, 95, none⟩)], .iface 156 (.agg #[.pointer (some ⟨1, 95, none⟩)])]).run Tryd.prog w = .ok (.bool true) w := by kernel_rfl
theorem reAssignableT (w : World) : (ReflectliteType.relation "AssignableTo" ReflectliteType.assignableTo #[.agg #[.pointer (some ⟨1, 144, none⟩)], .iface 156 (.agg #[.pointer (some ⟨1, 95, none⟩)])]).run Tryd.prog w = .ok (.bool false) w := by kernel_rfl
theorem reValueN (n : Int) (w : World) : (ReflectliteValue.unpack (.iface 95 (.int .i64 n))).run Tryd.prog w
    = .ok (.agg #[.pointer (some ⟨1, 95, none⟩), .pointer (some ⟨w.heap.size, 0, none⟩), .int .u64 130]) (w.alloc (.cells #[.int .i64 n] 95)) := by kernel_rfl
theorem reElemOfP (w : World) : (Rtype.elem? 97).run Tryd.prog w = .ok (some 95) w := by kernel_rfl
theorem reMkN (p : Addr) (w : World) : (ReflectliteValue.mk 95 p ReflectliteValue.flagAddr).run Tryd.prog w = .ok (.agg #[.pointer (some ⟨1, 95, none⟩), .pointer (some p), .int .u64 386]) w := by kernel_rfl
theorem reElemVP (a p : Addr) (W : World) (ha : W.cell? a = some (.pointer (some p))) :
    (ReflectliteValue.method (ReflectliteValue.valueError "reflectlite.Value.Elem" 0) ReflectliteValue.elem #[.agg #[.pointer (some ⟨1, 97, none⟩), .pointer (some a), .int .u64 150]]).run Tryd.prog W
      = .ok (.agg #[.pointer (some ⟨1, 95, none⟩), .pointer (some p), .int .u64 386]) W := by
  rw [rlm]
  simp only [Sem.run_bind, rePartsP, Result.andThen]
  simp [ReflectliteValue.elem, loadVar, isAgg, underlying, Tryd.underlying97, ha, Result.andThen, reElemOfP, reMkN]
theorem rls (v x : Value) : ReflectliteValue.set #[v, x] = (do
    let (some (dst, a, fl), some (src, b, _)) := (← ReflectliteValue.parts v, ← ReflectliteValue.parts x)
      | unsupported (.noEntry "extern/(internal/reflectlite.Value).Set.zeroValue")
    if fl / ReflectliteValue.flagAddr % 2 == 0 then unsupported (.noEntry "extern/(internal/reflectlite.Value).Set.unaddressable")
    let val ← loadVar src b
    if ← Rtype.directlyAssignable dst src then storeVar dst a val
    else if ← Rtype.implements dst src then
      if (← Rtype.kind src) == 20 then
        match val with
        | .nilIface => unsupported (.noEntry "extern/reflectlite: a nil value of one interface type handed on as a value of another")
        | _ => storeVar dst a val
      else storeVar dst a (.iface src val)
    else panicString ("reflectlite.Set: value of type " ++ (← Rtype.spelt src) ++ " is not assignable to type " ++ (← Rtype.spelt dst))
    pure (.tuple #[])) := rfl
theorem rePartsNa (a : Addr) (w : World) : (ReflectliteValue.parts (.agg #[.pointer (some ⟨1, 95, none⟩), .pointer (some a), .int .u64 386])).run Tryd.prog w = .ok (some (95, a, 386)) w := by kernel_rfl
theorem rePartsN (a : Addr) (w : World) : (ReflectliteValue.parts (.agg #[.pointer (some ⟨1, 95, none⟩), .pointer (some a), .int .u64 130])).run Tryd.prog w = .ok (some (95, a, 130)) w := by kernel_rfl
theorem reDirectN (w : World) : (Rtype.directlyAssignable 95 95).run Tryd.prog w = .ok true w := by kernel_rfl
theorem reSizeN (w : World) : (sizeOf 95).run Tryd.prog w = .ok 1 w := by kernel_rfl
theorem reSetN (ta b : Addr) (n : Int) (old : Value) (W : World) (hb : W.cell? b = some (.int .i64 n)) (ht : W.cell? ta = some old) (hf : W.frozen? ta = false) :
    (ReflectliteValue.set #[.agg #[.pointer (some ⟨1, 95, none⟩), .pointer (some ta), .int .u64 386], .agg #[.pointer (some ⟨1, 95, none⟩), .pointer (some b), .int .u64 130]]).run Tryd.prog W
      = .ok (.tuple #[]) (W.setCell ta (.int .i64 n)) := by
  rw [rls]
  simp only [Sem.run_bind, rePartsNa, rePartsN, Result.andThen]
  simp [ReflectliteValue.flagAddr, loadVar, isAgg, underlying, Tryd.underlying95, hb, Result.andThen, reDirectN, storeVar, Value.cells, storeCells, Addr.add]
  rw [run_store Tryd.prog W ta _ _ (by rfl)]
  simp [ht, hf]

/-! ### what package errors' assertions find -/
theorem reNoAs (v : Value) (xT : TypeId) (w : World) : (Instr.typeAssert (.iface 144 v) xT 161 true).run Tryd.prog w = .ok (.tuple #[.nilIface, .bool false]) w := run_typeAssert_lacksB Tryd.underlying161 (by kernel_rfl) (by kernel_rfl) v xT w
theorem reHasUnwrap (v : Value) (xT : TypeId) (w : World) : (Instr.typeAssert (.iface 144 v) xT 164 true).run Tryd.prog w = .ok (.tuple #[.iface 144 v, .bool true]) w := run_typeAssert_hasB Tryd.underlying164 (by kernel_rfl) v xT w
theorem reMethodUnwrap (v : Value) (w : World) : (Go.method 308 144 v "Unwrap").run Tryd.prog w = .ok (122, v) w := by kernel_rfl

/-! ### a chain of errors in memory, all of it in blocks from B on -/
inductive Chain (B : Nat) (W : World) : Value → List ByteArray → Option Int → Prop
  | num (n : Int) : Chain B W (.iface 95 (.int .i64 n)) [] (some n)
  | last (b : Nat) (s : ByteArray) : B ≤ b → W.cell? ⟨b, 0, none⟩ = some (.string s) → W.cell? ⟨b, 1, none⟩ = some .nilIface → Chain B W (.iface 144 (.pointer (some ⟨b, 0, none⟩))) [s] none
  | more (b : Nat) (s : ByteArray) (E : Value) (l : List ByteArray) (r : Option Int) : B ≤ b → W.cell? ⟨b, 0, none⟩ = some (.string s) → W.cell? ⟨b, 1, none⟩ = some E → Chain B W E l r → Chain B W (.iface 144 (.pointer (some ⟨b, 0, none⟩))) (s :: l) r

theorem cell_lt {W : World} {p : Addr} {v : Value} (h : W.cell? p = some v) : p.block < W.heap.size := by
  rcases Nat.lt_or_ge p.block W.heap.size with h' | h'
  · exact h'
  · simp [World.cell?, Array.getElem?_eq_none h'] at h

/-- what keeps the cells from B on keeps the chain -/
theorem Chain.keep {B : Nat} {W W' : World} {E : Value} {l : List ByteArray} {r : Option Int} (h : Chain B W E l r) (hk : ∀ p v, B ≤ p.block → W.cell? p = some v → W'.cell? p = some v) : Chain B W' E l r := by
  induction h with
  | num n => exact .num n
  | last b s hB h0 h1 => exact .last b s hB (hk _ _ hB h0) (hk _ _ hB h1)
  | more b s E l r hB h0 h1 _ ih => exact .more b s E l r hB (hk _ _ hB h0) (hk _ _ hB h1) ih
theorem Chain.mono {B B' : Nat} {W : World} {E : Value} {l : List ByteArray} {r : Option Int} (h : Chain B W E l r) (hB' : B' ≤ B) : Chain B' W E l r := by
  induction h with
  | num n => exact .num n
  | last b s hB h0 h1 => exact .last b s (Nat.le_trans hB' hB) h0 h1
  | more b s E l r hB h0 h1 _ ih => exact .more b s E l r (Nat.le_trans hB' hB) h0 h1 ih
theorem Chain.under {B : Nat} {W W' : World} {E : Value} {l : List ByteArray} {r : Option Int} (h : Chain B W E l r) (hb : Below W.heap.size W W') : Chain B W' E l r :=
  h.keep fun _ _ _ hc => (hb.cell (cell_lt hc)).trans hc
theorem Chain.alloc {B : Nat} {W : World} {E : Value} {l : List ByteArray} {r : Option Int} (h : Chain B W E l r) (o : Obj) : Chain B (W.alloc o) E l r :=
  h.under ((Below.refl _ _).alloc (Nat.le_refl _) o)
theorem Chain.setCell {B : Nat} {W : World} {E : Value} {l : List ByteArray} {r : Option Int} (h : Chain B W E l r) {a : Addr} (ha : a.block < B) (u : Value) : Chain B (W.setCell a u) E l r :=
  h.keep fun p v hp hc => (World.cell?_setCell_other W a p u (fun e => by rw [e] at ha; omega)).trans hc
theorem Chain.iface {B : Nat} {W : World} {E : Value} {l : List ByteArray} {r : Option Int} (h : Chain B W E l r) : ∃ t v, E = .iface t v := by
  cases h <;> exact ⟨_, _, rfl⟩

/-- all old cells and all old marks read as before: two rules for the walk -/
theorem bcell {W w1 : World} (hb : Below W.heap.size W w1) : (∀ b o, b < W.heap.size → w1.cell? ⟨b, o, none⟩ = W.cell? ⟨b, o, none⟩) ∧ (∀ b o, b < W.heap.size → w1.frozen? ⟨b, o, none⟩ = W.frozen? ⟨b, o, none⟩) :=
  ⟨fun b o h => hb.cell (p := ⟨b, o, none⟩) h, fun b o h => hb.frozen (p := ⟨b, o, none⟩) h⟩
end Go.Proofs.YtlcnhagcomljnaaDoor
