/- errors.Is at a chain of tags around a number (or nil), the target a number; tag.Same. -/
import Derived.Test.YtlapklghioinfaaDoorNum
import Derived.Test.YtlapklghioinfaaDoorKf
namespace Go.Proofs.YtlapklghioinfaaDoor
open Go.RowKit Go.Extern.Stop Go.Stop Go.Extern
set_option linter.unusedVariables false
set_option linter.unusedSimpArgs false

theorem run_equalIn_iface_int {P : Program} (w : World) (d : Nat) {ti tn : TypeId} {ms : Array (String × TypeId)} {i : TypeInfo} {k : IntKind} (a b : Int)
    (hi : P.underlying ti = some (.interface ms)) (hn : P.underlying tn = some (.int k)) (hinfo : P.info? tn = some i) (hcomp : i.comparable = true) :
    (Op.equalIn (d + 2) ti (.iface tn (.int k a)) (.iface tn (.int k b))).run P w = .ok (a == b) w := by
  simp [Op.equalIn, run_underlying hi, run_underlying hn, typeInfo, hinfo, hcomp]
theorem run_eql_iface_int {P : Program} (w : World) {ti tn : TypeId} {ms : Array (String × TypeId)} {i : TypeInfo} {k : IntKind} (a b : Int)
    (hi : P.underlying ti = some (.interface ms)) (hn : P.underlying tn = some (.int k)) (hinfo : P.info? tn = some i) (hcomp : i.comparable = true) :
    (binOp .eql ti (.iface tn (.int k a)) (.iface tn (.int k b))).run P w = .ok (.bool (a == b)) w := by
  simp only [binOp]
  simp [Op.equal, Op.maxDepth, run_equalIn_iface_int w 9998 a b hi hn hinfo hcomp]

theorem isTypeOfN (v : Value) (w : World) : (Extern.ReflectliteType.typeOf #[.iface 50 v]).run Tryd.prog w = .ok (.iface 86 (.agg #[.pointer (some ⟨1, 50, none⟩)])) w := by kernel_rfl
/-- the model's entry for (rtype).Comparable, under a name of its own -/
noncomputable def cmpEntry : Array Value → Sem Value := ((find Tryd.f70).getD (fun _ => pure (.tuple #[])))
theorem cmpEntry_found : find Tryd.f70 = some cmpEntry := by kernel_rfl
theorem isComparableN (w : World) : (cmpEntry #[.agg #[.pointer (some ⟨1, 50, none⟩)]]).run Tryd.prog w = .ok (.bool true) w := by kernel_rfl
theorem isMethodComparable (v : Value) (w : World) : (Go.method 228 86 v "Comparable").run Tryd.prog w = .ok (70, v) w := by kernel_rfl
theorem isCompN : (Tryd.prog.info? 50).map (·.comparable) = some true := by kernel_rfl
theorem noIsN (v : Value) (xT : TypeId) (w : World) : (Instr.typeAssert (.iface 50 v) xT 97 true).run Tryd.prog w = .ok (.tuple #[.nilIface, .bool false]) w := run_typeAssert_lacksB Tryd.underlying97 (by kernel_rfl) (by kernel_rfl) v xT w
theorem noIsT (v : Value) (xT : TypeId) (w : World) : (Instr.typeAssert (.iface 31 v) xT 97 true).run Tryd.prog w = .ok (.tuple #[.nilIface, .bool false]) w := run_typeAssert_lacksB Tryd.underlying97 (by kernel_rfl) (by kernel_rfl) v xT w
theorem noUnwrapN (v : Value) (xT : TypeId) (w : World) : (Instr.typeAssert (.iface 50 v) xT 93 true).run Tryd.prog w = .ok (.tuple #[.nilIface, .bool false]) w := run_typeAssert_lacksB Tryd.underlying93 (by kernel_rfl) (by kernel_rfl) v xT w
theorem noUnwrapsN (v : Value) (xT : TypeId) (w : World) : (Instr.typeAssert (.iface 50 v) xT 94 true).run Tryd.prog w = .ok (.tuple #[.nilIface, .bool false]) w := run_typeAssert_lacksB Tryd.underlying94 (by kernel_rfl) (by kernel_rfl) v xT w

/-- is the number at a chain's end that one? -/
def sameB (r : Option Int) (m : Int) : Bool := match r with | some n => n == m | none => false

set_option maxRecDepth 1000000 in
set_option maxHeartbeats 1000000 in
theorem is_chain {B : Nat} {W : World} (m : Int) (E : Value) (l : List ByteArray) (r : Option Int) (hch : Chain B W E l r) :
    Calls Tryd.prog 45 #[E, .iface 50 (.int .i64 m), .bool true] W fun e w' => e = .returned (.bool (sameB r m)) ∧ W = w' := by
  obtain ⟨i, hi, hcmp⟩ := Option.map_eq_some_iff.1 isCompN
  have nN := noIsN
  have nT := noIsT
  have uT := reHasUnwrap
  have uN := noUnwrapN
  have vN := noUnwrapsN
  have mU := reMethodUnwrap
  have hch1 := Lib.hid hch
  clear hch
  go_enter Tryd.func45, Tryd.ntmps45
  go_wp2
  go_loopg [0] l.length (fun k E' wl => wl = W ∧ ∃ l', k = l'.length ∧ Chain B W E' l' r)
  case atStart => exact ⟨rfl, l, rfl, hch1.out⟩
  case round =>
    obtain ⟨rfl, l', rfl, hc'⟩ := hrel
    cases hc' with
    | num n =>
      by_cases hnm : n = m
      · subst hnm
        have heq := run_eql_iface_int (P := Tryd.prog) wr n n Tryd.underlying25 Tryd.underlying50 hi hcmp
        rw [beq_self_eq_true] at heq
        go_wp2
        go_ret
        exact ⟨by simp [sameB], rfl⟩
      · have heq := run_eql_iface_int (P := Tryd.prog) wr n m Tryd.underlying25 Tryd.underlying50 hi hcmp
        rw [show (n == m) = false by simpa using hnm] at heq
        have hb : (n == m) = false := by simpa using hnm
        go_wp2
        go_ret
        exact ⟨by simp [sameB, hnm], rfl⟩
    | last b s _ h0 h1 =>
      have hty := run_eql_iface_types (P := Tryd.prog) 31 50 (.pointer (some ⟨b, 0, none⟩)) (.int .i64 m) Tryd.underlying25 (by decide) wr
      go_wp2
      go_ret
      exact ⟨by simp [sameB], rfl⟩
    | more b s E l2 _ _ h0 h1 h2 =>
      have hty := run_eql_iface_types (P := Tryd.prog) 31 50 (.pointer (some ⟨b, 0, none⟩)) (.int .i64 m) Tryd.underlying25 (by decide) wr
      obtain ⟨u, v, rfl⟩ := h2.iface
      have H2 := Lib.hid h2
      clear h2
      go_wp2
      go_roundg l2.length
      case measure => simp
      case rel => exact ⟨rfl, l2, rfl, H2.out⟩

set_option maxHeartbeats 1000000 in
theorem Is_chain {B : Nat} {W : World} (m : Int) (E : Value) (l : List ByteArray) (r : Option Int) (hch : Chain B W E l r) :
    Calls Tryd.prog 38 #[E, .iface 50 (.int .i64 m)] W fun e w' => e = .returned (.bool (sameB r m)) ∧ W = w' := by
  have h8 := @run_callFunc_extern Tryd.prog 44 _ Extern.ReflectliteType.typeOf Tryd.func44 (by kernel_rfl) (by kernel_rfl) (by kernel_rfl) (by kernel_rfl)
  have h32 := @run_callFunc_extern Tryd.prog 70 _ cmpEntry Tryd.func70 (by kernel_rfl) (by kernel_rfl) (by kernel_rfl) cmpEntry_found
  have tT := isTypeOfN
  have cT := isComparableN
  have mR := isMethodComparable
  obtain ⟨u, v, rfl⟩ := hch.iface
  have his := Lib.hid (is_chain m _ l r hch)
  clear hch
  go_enter Tryd.func38, Tryd.ntmps38
  go_wp2_with fail
  refine his.out.mono ?_
  rintro e w1 ⟨rfl, rfl⟩
  go_wp2_with fail
  go_ret
  exact ⟨rfl, rfl⟩
theorem Is_nil (m : Int) (W : World) :
    Calls Tryd.prog 38 #[.nilIface, .iface 50 (.int .i64 m)] W fun e w' => e = .returned (.bool false) ∧ W = w' := by
  have hn := run_eql_iface_nil_left (P := Tryd.prog) W 50 (.int .i64 m) Tryd.underlying25
  go_enter Tryd.func38, Tryd.ntmps38
  go_wp2
  go_ret
  exact ⟨rfl, rfl⟩
/-- tag.Same at a chain -/
theorem Same_chain {B : Nat} {W : World} (m : Int) (E : Value) (l : List ByteArray) (r : Option Int) (hch : Chain B W E l r) :
    Calls Tryd.prog 28 #[E, .int .i64 m] W fun e w' => e = .returned (.bool (sameB r m)) ∧ W = w' := by
  obtain ⟨u, v, rfl⟩ := hch.iface
  have his := Lib.hid (Is_chain m _ l r hch)
  clear hch
  go_enter Tryd.func28, Tryd.ntmps28
  go_wp2_with fail
  refine his.out.mono ?_
  rintro e w1 ⟨rfl, rfl⟩
  go_wp2_with fail
  go_ret
  exact ⟨rfl, rfl⟩
theorem Same_nil (m : Int) (W : World) :
    Calls Tryd.prog 28 #[.nilIface, .int .i64 m] W fun e w' => e = .returned (.bool false) ∧ W = w' := by
  go_enter Tryd.func28, Tryd.ntmps28
  go_wp2_with fail
  refine (Is_nil m _).mono ?_
  rintro e w1 ⟨rfl, rfl⟩
  go_wp2_with fail
  go_ret
  exact ⟨rfl, rfl⟩
end Go.Proofs.YtlapklghioinfaaDoor
