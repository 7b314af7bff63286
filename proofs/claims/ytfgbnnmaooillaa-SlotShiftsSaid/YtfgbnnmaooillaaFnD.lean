/- slot.Past, slot.Of by their contracts. -/
import Derived.Test.YtfgbnnmaooillaaFnC
namespace Go.Proofs.Ytfgbnnmaooillaa
open Go.RowKit Go.Lib
set_option linter.unusedVariables false
set_option linter.unusedSimpArgs false

def pastP (tick : Int) : Int → Int → Int → Bool := fun _ _ z => decide (z ≤ tick)
theorem past_pred (tick : Int) (a : Addr) (base : Nat) (W : World) (ha : a.block < base) (hc : W.cell? a = some (.int .i64 tick)) : PredB 16 #[.pointer (some a)] (pastP tick) base W := fun w x y z hb => by
  have hc2 : w.cell? a = some (.int .i64 tick) := (hb.cell ha).trans hc
  have hne : a.block < w.heap.size := by
    rcases Nat.lt_or_ge a.block w.heap.size with h | h
    · exact h
    · simp [World.cell?, Array.getElem?_eq_none h] at hc2
  have hc3 : (w.alloc (.cells #[.int .i64 x, .int .i64 y, .int .i64 z] 31)).cell? a = some (.int .i64 tick) := Lib.cell?_alloc_some _ hc2
  clear hb hc hc2
  show Calls Try.prog 16 #[.agg #[.int .i64 x, .int .i64 y, .int .i64 z], .pointer (some a)] w _
  go_enter Try.func16, Try.ntmps16
  go_wp2
  go_ret
  exact ⟨rfl, (Below.refl _ w).alloc (Nat.le_refl _) _⟩
theorem under_alloc {W w1 : World} {o : Obj} (hb : Below (W.alloc o).heap.size (W.alloc o) w1) : Below W.heap.size W w1 := ((Below.refl _ W).alloc (Nat.le_refl _) o).trans (hb.mono (by simp))
theorem index_none (f : Value) (c : Nat) (W : World) : Calls Try.prog 20 #[.slice none 0 c, f] W fun e w' => e = .returned (.int .i64 (-1)) ∧ w' = W := by
  go_enter Try.func20, Try.ntmps20
  go_wp2
  go_loopg [5, 8] 1 (fun gg _ s8 wr => s8 = .int .i64 0 ∧ wr = W)
  case atStart => exact ⟨rfl, rfl⟩
  case round =>
    obtain ⟨rfl, rfl⟩ := hrel
    go_wp2
    go_ret
    exact ⟨rfl, rfl⟩
theorem delete_none (f : Value) (c : Nat) (W : World) : Calls Try.prog 14 #[.slice none 0 c, f] W fun e w' => e = .returned (.slice none 0 c) ∧ w' = W := by
  go_enter Try.func14, Try.ntmps14
  go_wp2_with (go_at_call 20; refine (index_none f c W).mono ?_; rintro e w1 ⟨rfl, rfl⟩)
  go_ret
  exact ⟨rfl, rfl⟩
def PastPost (tick : Int) (n : Nat) (m : Nat → Int) (W : World) (e : Ending) (w' : World) : Prop :=
  (∃ A k c' m', e = .returned (.slice A k c') ∧ k ≤ n ∧ k ≤ c' ∧ (0 < k → ∃ g, A = some ⟨g, 0, none⟩ ∧ B0 w' g k m') ∧ rowsOf m' k = (rowsOf m n).filter (keep3 (pastP tick))) ∧ Below W.heap.size W w'
theorem past_some (b o n c : Nat) (m : Nat → Int) (tick : Int) (W : World) (hn : n ≤ 1000000) (hnc : n ≤ c) (hb : b < W.heap.size) (hc : BCells W b o n m) :
    Calls Try.prog 10 #[.slice (some ⟨b, o, none⟩) n c, .int .i64 tick] W (PastPost tick n m W) := by
  have hcl := clone_some b o n c m (W.alloc (.cells #[.int .i64 tick] 3)) hn hnc (fun t ht => Lib.cell?_alloc_some _ (hc t ht))
  have HCL := Lib.hid hcl
  clear hc hcl
  go_enter Try.func10, Try.ntmps10
  go_wp2_with fail
  refine HCL.out.mono ?_
  rintro e w1 ⟨v1, rfl, hv, hg6⟩
  rcases hv with ⟨rfl, rfl⟩ | ⟨g, c', rfl, hg1, hg2, hg3, hg4, hg5⟩
  · have H6 := Lib.hid hg6
    clear hg6
    go_wp2_with (go_at_call 14; refine (delete_none _ 0 _).mono ?_; rintro e w2 ⟨rfl, rfl⟩)
    go_ret
    exact ⟨⟨none, 0, 0, m, rfl, Nat.le_refl _, Nat.le_refl _, fun h => absurd h (Nat.lt_irrefl _), rfl⟩, under_alloc H6.out⟩
  · have hcap : w1.cell? ⟨W.heap.size, 0, none⟩ = some (.int .i64 tick) := (hg6.cell (by simp)).trans (by simp)
    have hd := delete_past ⟨W.heap.size, 0, none⟩ (pastP tick) g g n c' m w1 (past_pred tick _ g w1 (by show W.heap.size < g; simp at hg1; omega) hcap) (Nat.le_refl _) hg2 hn hg3 hg4 hg5
    have HD := Lib.hid hd
    have H6 := Lib.hid hg6
    have H1 := Lib.hid hg1
    clear hd hg1 hg2 hg3 hg4 hg5 hg6 hcap
    go_wp2_with fail
    refine HD.out.mono ?_
    rintro e w2 ⟨⟨k, m', rfl, hk, hkc, hB, hr⟩, hb2⟩
    have H2 := Lib.hid (And.intro hk (And.intro hkc (And.intro hB (And.intro hr hb2))))
    clear hk hkc hB hr hb2
    go_wp2_with fail
    go_ret
    obtain ⟨hk, hkc, hB, hr, hb2⟩ := H2.out
    refine ⟨⟨some ⟨g, 0, none⟩, k, c', m', rfl, hk, hkc, fun _ => ⟨g, rfl, hB⟩, hr⟩, ?_⟩
    have h1 : Below W.heap.size W w1 := under_alloc H6.out
    exact h1.trans (hb2.mono (by have := H1.out; simp at this; omega))
theorem past_none (c : Nat) (m : Nat → Int) (tick : Int) (W : World) :
    Calls Try.prog 10 #[.slice none 0 c, .int .i64 tick] W (PastPost tick 0 m W) := by
  go_enter Try.func10, Try.ntmps10
  go_wp2_with (first
    | (go_at_call 15; refine (clone_nil c _).mono ?_; rintro e w1 ⟨rfl, rfl⟩)
    | (go_at_call 14; refine (delete_none _ 0 _).mono ?_; rintro e w2 ⟨rfl, rfl⟩))
  go_ret
  exact ⟨⟨none, 0, 0, m, rfl, Nat.le_refl _, Nat.le_refl _, fun h => absurd h (Nat.lt_irrefl _), rfl⟩, (Below.refl _ W).alloc (Nat.le_refl _) _⟩
end Go.Proofs.Ytfgbnnmaooillaa
