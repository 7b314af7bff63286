/- slices.Clone at Booking; slot.Past. -/
import Derived.Test.YtfgbnnmaooillaaDoorGnB
import Derived.Laws.AppendOwn
import Derived.Laws.AppendOwnNone
import Derived.Laws.OwnMore
import Derived.Maps.AppendAt
import Derived.OpenShut
import Derived.Deep.AppendLies
namespace Go.Proofs.YtfgbnnmaooillaaDoor
open Go.RowKit Go.Lib
set_option linter.unusedVariables false
set_option linter.unusedSimpArgs false

theorem clone_nil (c : Nat) (W : World) : Calls Tryd.prog 38 #[.slice none 0 c] W fun e w' => e = .returned (.slice none 0 0) ∧ w' = W := by
  go_enter Tryd.func38, Tryd.ntmps38
  have e1 : (binOp .eql 46 (.slice none 0 c) (.slice none 0 0)).run Tryd.prog W = .ok (.bool true) W := Lib.run_eql_slice_nil W _ _ none 0 c 0 0 Tryd.underlying46
  go_wp2
  go_ret
  exact ⟨rfl, rfl⟩
theorem own_empty (W : World) (e : TypeId) (size : Nat) : (W.alloc (.cells #[] e)).ownsRow W.heap.size e size (.slice (some ⟨W.heap.size, 0, none⟩) 0 0) 0 [] :=
  ⟨(Nat.zero_mul _).symm, .inr ⟨W.heap.size, 0, #[], rfl, Nat.le_refl _, by unfold World.alloc; exact Array.getElem?_push_size, Nat.le_refl _, Nat.zero_le _, (Nat.zero_mul _).symm, by rw [Nat.zero_mul]; rfl⟩⟩
def flat (m : Nat → Int) (n : Nat) : List Value := (List.range (n * 3)).map fun t => .int .i64 (m t)
theorem flat_length (m : Nat → Int) (n : Nat) : (flat m n).length = n * 3 := by simp [flat]
theorem flat_at (m : Nat → Int) (n t : Nat) (h : t < n * 3) : (flat m n)[t]? = some (.int .i64 (m t)) := by
  unfold flat; rw [List.getElem?_map, List.getElem?_range h]; rfl
theorem flat_news {W : World} {b o n : Nat} {m : Nat → Int} (h : BCells W b o n m) : ∀ j u, (flat m n)[j]? = some u → W.cell? ((⟨b, o, none⟩ : Addr).add j) = some u := by
  intro j u hj
  have hjl : j < n * 3 := by have := (List.getElem?_eq_some_iff.1 hj).1; rwa [flat_length] at this
  rw [Go.WideShapes.add_plain, h j hjl, ← hj, flat_at m n j hjl]
theorem info_bk : (Tryd.prog.info? 42).map (fun i => (i.zero, i.size, i.bytes)) = some (some (.agg #[.int .i64 0, .int .i64 0, .int .i64 0]), 3, 24) := by kernel_rfl
theorem own_cap {w : World} {base n g cap : Nat} {e : TypeId} {size : Nat} {xs : List Value} (h : w.ownsRow base e size (.slice (some ⟨g, 0, none⟩) n cap) n xs) : n ≤ cap := by
  rcases h.2 with ⟨hv, _⟩ | ⟨g', cap', cur, hv, _, _, h1, _⟩
  · cases hv
  · simp only [Value.slice.injEq] at hv; omega
/-- what slices.Clone makes: a row of the call's own -/
def CloneOwn (n : Nat) (xs : List Value) (W : World) (e : Ending) (w' : World) : Prop :=
  ∃ v, e = .returned v ∧ w'.ownsRow W.heap.size 42 3 v n xs ∧ Below W.heap.size W w'
theorem clone_own (b o n c : Nat) (m : Nat → Int) (W : World) (hn : n ≤ 1000000) (hnc : n ≤ c) (hc : BCells W b o n m) :
    Calls Tryd.prog 38 #[.slice (some ⟨b, o, none⟩) n c] W (CloneOwn n (flat m n) W) := by
  have HC := Lib.hid hc
  clear hc
  have e1 : (binOp .eql 46 (.slice (some ⟨b, o, none⟩) n c) (.slice none 0 0)).run Tryd.prog W = .ok (.bool false) W := Lib.run_eql_slice_nil W _ _ (some _) n c 0 0 Tryd.underlying46
  go_enter Tryd.func38, Tryd.ntmps38
  obtain ⟨i0, hi, hz0, hz1, hz2⟩ := info_parts info_bk
  go_wp2_with (at_builtin; refine wpList_append_own _ rfl _ _ 46 rfl W.heap.size 42 i0 (.agg #[.int .i64 0, .int .i64 0, .int .i64 0]) 3 24 Tryd.underlying46 hi hz0 hz1 hz2 rfl (by decide) _ _ _ rfl (own_empty W _ 3) ⟨b, o, none⟩ n c (flat m n) rfl (flat_length m n) (fun j u hj => Lib.cell?_alloc_some _ (flat_news HC.out j u hj)) (fun u hu => by simp [flat] at hu; obtain ⟨x, _, rfl⟩ := hu; rfl) (by unfold maxLen; omega) (by omega) (by simp) ?_; intro v1 w1 hown1 hg hx; have O1 := Lib.hid hown1; have G1 := Lib.hid hg; clear hown1 hg hx)
  rw [Nat.zero_add, List.nil_append] at O1
  have O2 := O1.out
  go_ret
  exact ⟨v1, rfl, O2, ((Below.refl W.heap.size W).alloc (Nat.le_refl _) _).grown G1.out (by simp) (fun k hk => by cases hk; exact Nat.le_refl _)⟩
def ClonePost (n : Nat) (m : Nat → Int) (W : World) (e : Ending) (w' : World) : Prop :=
  ∃ v, e = .returned v ∧ ((v = .slice none 0 0 ∧ n = 0) ∨ ∃ g c', v = .slice (some ⟨g, 0, none⟩) n c' ∧ W.heap.size ≤ g ∧ g < w'.heap.size ∧ n ≤ c' ∧ B0 w' g n m ∧ Unfroz w' g n) ∧ Below W.heap.size W w'
theorem clone_some (b o n c : Nat) (m : Nat → Int) (W : World) (hn : n ≤ 1000000) (hnc : n ≤ c) (hc : BCells W b o n m) :
    Calls Tryd.prog 38 #[.slice (some ⟨b, o, none⟩) n c] W (ClonePost n m W) := by
  refine (clone_own b o n c m W hn hnc hc).mono ?_
  rintro e w1 ⟨v1, rfl, O2, hB⟩
  refine ⟨v1, rfl, ?_, hB⟩
  rcases O2.2 with h | ⟨g, cap, cur, rfl, hgb, _⟩
  · exact .inl h
  · refine .inr ⟨g, cap, rfl, hgb, (O2.lt g rfl).2, own_cap O2, fun t ht => ?_, fun t _ => O2.frozenAt t⟩
    rw [O2.cellAt t ht, flat_at m n t ht]
end Go.Proofs.YtfgbnnmaooillaaDoor
