/- slices.IndexFunc, slices.ContainsFunc at Booking, over whatever predicate. -/
import Derived.Test.YtfgbnnmaooillaaDoorProg
import Derived.WalkKit
import Derived.OwnWalk
import Derived.Deep.LoopGhost
import Derived.Deep.Draws
import Derived.Below
import Derived.Lib.Hide
namespace Go.Proofs.YtfgbnnmaooillaaDoor
open Go.RowKit Go.Lib
set_option linter.unusedVariables false
set_option linter.unusedSimpArgs false

/-- the bookings' cells: m t is the cell t -/
def BCells (w : World) (b o n : Nat) (m : Nat → Int) : Prop := ∀ t, t < n * 3 → w.cell? ⟨b, o + t, none⟩ = some (.int .i64 (m t))
/-- the predicate's closure: in every world that is W below base -/
def PredB (g : Nat) (lb : Array Value) (p : Int → Int → Int → Bool) (base : Nat) (W : World) : Prop :=
  ∀ (w : World) (x y z : Int), Below base W w → Calls Tryd.prog g (#[.agg #[.int .i64 x, .int .i64 y, .int .i64 z]] ++ lb) w fun e w' => e = .returned (.bool (p x y z)) ∧ Below w.heap.size w w'
def Found (q : Nat → Bool) (n : Nat) (r : Int) : Prop := (r = -1 ∧ ∀ j, j < n → q j = false) ∨ ∃ k : Nat, k < n ∧ r = (k : Int) ∧ q k = true ∧ ∀ j, j < k → q j = false
def at3 (p : Int → Int → Int → Bool) (m : Nat → Int) (j : Nat) : Bool := p (m (j * 3)) (m (j * 3 + 1)) (m (j * 3 + 2))

theorem load3 {w : World} {b o n : Nat} {m : Nat → Int} (h : BCells w b o n m) (j : Nat) (hj : j < n) :
    w.cell? ⟨b, o + j * 3, none⟩ = some (.int .i64 (m (j * 3))) ∧ w.cell? ⟨b, o + j * 3 + 1, none⟩ = some (.int .i64 (m (j * 3 + 1))) ∧ w.cell? ⟨b, o + j * 3 + 2, none⟩ = some (.int .i64 (m (j * 3 + 2))) :=
  ⟨h (j * 3) (by omega), h (j * 3 + 1) (by omega), h (j * 3 + 2) (by omega)⟩

set_option maxHeartbeats 1000000 in
theorem index_add (A1 : Addr) (p : Int → Int → Int → Bool) (base b o n c : Nat) (m : Nat → Int) (W : World)
    (hp : PredB 39 #[.pointer (some A1)] p base W) (hbase : base ≤ W.heap.size) (hn : n ≤ 1000000) (hb : b < W.heap.size) (hc : BCells W b o n m) :
    Calls Tryd.prog 48 #[.slice (some ⟨b, o, none⟩) n c, .func (.func 39) #[] #[.pointer (some A1)]] W fun e w' => (∃ r, e = .returned (.int .i64 r) ∧ Found (at3 p m) n r) ∧ Below W.heap.size W w' := by
  have HP := Lib.hid hp
  have HC := Lib.hid hc
  clear hp hc
  go_enter Tryd.func48, Tryd.ntmps48
  go_wp2
  go_loopg [5, 8] n (fun gg _ s8 wr => ∃ kk : Nat, kk ≤ n ∧ n - kk ≤ gg ∧ s8 = .int .i64 kk ∧ Hid (Below W.heap.size W wr) ∧ Hid (∀ j, j < kk → at3 p m j = false))
  case atStart => exact ⟨0, Nat.zero_le _, by omega, rfl, Lib.hid (Below.refl _ W), Lib.hid (fun j hj => absurd hj (Nat.not_lt_zero _))⟩
  case round =>
    obtain ⟨kk, hkk, hg, rfl, BW, A⟩ := hrel
    by_cases hlt : kk < n
    · have hltz : (kk : Int) < (n : Int) := by omega
      obtain ⟨x0, x1, x2⟩ := load3 (fun t ht => (BW.out.cell (p := ⟨b, o + t, none⟩) hb).trans (HC.out t ht) : BCells wr b o n m) kk hlt
      have hcall := HP.out wr (m (kk * 3)) (m (kk * 3 + 1)) (m (kk * 3 + 2)) (BW.out.mono hbase)
      generalize hx : m (kk * 3) = x at x0 x1 x2 hcall
      generalize hy : m (kk * 3 + 1) = y at x0 x1 x2 hcall
      generalize hz : m (kk * 3 + 2) = z at x0 x1 x2 hcall
      have HQ := Lib.hid (show at3 p m kk = p x y z by unfold at3; rw [hx, hy, hz])
      clear hx hy hz
      cases hq : p x y z with
      | true =>
        rw [hq] at hcall HQ
        clear hq
        go_wp2_with (go_at_call 39; refine hcall.mono ?_; rintro e w' ⟨rfl, hb'⟩; have HB := Lib.hid (BW.out.trans (hb'.mono BW.out.size)); clear hb')
        go_ret
        exact ⟨⟨_, rfl, .inr ⟨kk, hlt, rfl, HQ.out, A.out⟩⟩, HB.out⟩
      | false =>
        rw [hq] at hcall HQ
        clear hq
        go_wp2_with (go_at_call 39; refine hcall.mono ?_; rintro e w' ⟨rfl, hb'⟩; have HB := Lib.hid (BW.out.trans (hb'.mono BW.out.size)); clear hb')
        go_roundg (n - (kk + 1))
        case measure => omega
        case rel =>
          refine ⟨kk + 1, by omega, by omega, by go_num, HB, Lib.hid fun j hj => ?_⟩
          by_cases e : j = kk
          · subst e; exact HQ.out
          · exact A.out j (by omega)
    · have hltz : ¬ (kk : Int) < (n : Int) := by omega
      have : kk = n := by omega
      subst this
      go_wp2
      go_ret
      exact ⟨⟨_, rfl, .inl ⟨rfl, A.out⟩⟩, BW.out⟩
set_option maxHeartbeats 1000000 in
theorem index_of (A1 A2 : Addr) (p : Int → Int → Int → Bool) (base b o n c : Nat) (m : Nat → Int) (W : World)
    (hp : PredB 41 #[.pointer (some A1), .pointer (some A2)] p base W) (hbase : base ≤ W.heap.size) (hn : n ≤ 1000000) (hb : b < W.heap.size) (hc : BCells W b o n m) :
    Calls Tryd.prog 48 #[.slice (some ⟨b, o, none⟩) n c, .func (.func 41) #[] #[.pointer (some A1), .pointer (some A2)]] W fun e w' => (∃ r, e = .returned (.int .i64 r) ∧ Found (at3 p m) n r) ∧ Below W.heap.size W w' := by
  have HP := Lib.hid hp
  have HC := Lib.hid hc
  clear hp hc
  go_enter Tryd.func48, Tryd.ntmps48
  go_wp2
  go_loopg [5, 8] n (fun gg _ s8 wr => ∃ kk : Nat, kk ≤ n ∧ n - kk ≤ gg ∧ s8 = .int .i64 kk ∧ Hid (Below W.heap.size W wr) ∧ Hid (∀ j, j < kk → at3 p m j = false))
  case atStart => exact ⟨0, Nat.zero_le _, by omega, rfl, Lib.hid (Below.refl _ W), Lib.hid (fun j hj => absurd hj (Nat.not_lt_zero _))⟩
  case round =>
    obtain ⟨kk, hkk, hg, rfl, BW, A⟩ := hrel
    by_cases hlt : kk < n
    · have hltz : (kk : Int) < (n : Int) := by omega
      obtain ⟨x0, x1, x2⟩ := load3 (fun t ht => (BW.out.cell (p := ⟨b, o + t, none⟩) hb).trans (HC.out t ht) : BCells wr b o n m) kk hlt
      have hcall := HP.out wr (m (kk * 3)) (m (kk * 3 + 1)) (m (kk * 3 + 2)) (BW.out.mono hbase)
      generalize hx : m (kk * 3) = x at x0 x1 x2 hcall
      generalize hy : m (kk * 3 + 1) = y at x0 x1 x2 hcall
      generalize hz : m (kk * 3 + 2) = z at x0 x1 x2 hcall
      have HQ := Lib.hid (show at3 p m kk = p x y z by unfold at3; rw [hx, hy, hz])
      clear hx hy hz
      cases hq : p x y z with
      | true =>
        rw [hq] at hcall HQ
        clear hq
        go_wp2_with (go_at_call 41; refine hcall.mono ?_; rintro e w' ⟨rfl, hb'⟩; have HB := Lib.hid (BW.out.trans (hb'.mono BW.out.size)); clear hb')
        go_ret
        exact ⟨⟨_, rfl, .inr ⟨kk, hlt, rfl, HQ.out, A.out⟩⟩, HB.out⟩
      | false =>
        rw [hq] at hcall HQ
        clear hq
        go_wp2_with (go_at_call 41; refine hcall.mono ?_; rintro e w' ⟨rfl, hb'⟩; have HB := Lib.hid (BW.out.trans (hb'.mono BW.out.size)); clear hb')
        go_roundg (n - (kk + 1))
        case measure => omega
        case rel =>
          refine ⟨kk + 1, by omega, by omega, by go_num, HB, Lib.hid fun j hj => ?_⟩
          by_cases e : j = kk
          · subst e; exact HQ.out
          · exact A.out j (by omega)
    · have hltz : ¬ (kk : Int) < (n : Int) := by omega
      have : kk = n := by omega
      subst this
      go_wp2
      go_ret
      exact ⟨⟨_, rfl, .inl ⟨rfl, A.out⟩⟩, BW.out⟩
end Go.Proofs.YtfgbnnmaooillaaDoor
