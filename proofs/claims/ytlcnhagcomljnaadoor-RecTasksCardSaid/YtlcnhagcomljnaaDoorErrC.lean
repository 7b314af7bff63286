/- An error's number in memory, told apart from nil; what tag.Tag makes; two steps of the world. -/
import Derived.Test.YtlcnhagcomljnaaDoorKf
namespace Go.Proofs.YtlcnhagcomljnaaDoor
open Go.RowKit Go.Extern.Stop Go.Stop Go.Extern

/-- nil: 0; else a chain, from B on, that ends in that number, which isn't 0 -/
def ErrC (B : Nat) (W : World) (v : Value) (n : Int) : Prop := (n = 0 ∧ v = .nilIface) ∨ (n ≠ 0 ∧ ∃ l, Chain B W v l (some n))
theorem ErrC.r {B : Nat} {W : World} {v : Value} {n : Int} (h : ErrC B W v n) : ErrR B W v n := by
  rcases h with ⟨h, rfl⟩ | ⟨_, h⟩
  · exact .inl ⟨rfl, h⟩
  · exact .inr h
theorem ErrC.nil (B : Nat) (W : World) : ErrC B W .nilIface 0 := .inl ⟨rfl, rfl⟩
theorem ErrC.zero {B : Nat} {W : World} {v : Value} (h : ErrC B W v 0) : v = .nilIface := by
  rcases h with ⟨_, h⟩ | ⟨h, _⟩
  · exact h
  · exact absurd rfl h
theorem ErrC.some {B : Nat} {W : World} {v : Value} {n : Int} (h : ErrC B W v n) (hn : n ≠ 0) : ∃ l, Chain B W v l (Option.some n) := by
  rcases h with ⟨h, _⟩ | ⟨_, h⟩
  · exact absurd h hn
  · exact h
theorem ErrC.iface {B : Nat} {W : World} {v : Value} {n : Int} (h : ErrC B W v n) (hn : n ≠ 0) : ∃ t x, v = .iface t x := by
  obtain ⟨l, h⟩ := h.some hn; exact h.iface
theorem ErrC.under {B : Nat} {W W' : World} {v : Value} {n : Int} (h : ErrC B W v n) (hb : Below W.heap.size W W') : ErrC B W' v n := by
  rcases h with h | ⟨hn, l, h⟩
  · exact .inl h
  · exact .inr ⟨hn, l, h.under hb⟩
theorem ErrC.alloc {B : Nat} {W : World} {v : Value} {n : Int} (h : ErrC B W v n) (o : Obj) : ErrC B (W.alloc o) v n := h.under ((Below.refl _ _).alloc (Nat.le_refl _) o)
theorem ErrC.setCell {B : Nat} {W : World} {v : Value} {n : Int} (h : ErrC B W v n) {a : Addr} (ha : a.block < B) (u : Value) : ErrC B (W.setCell a u) v n := by
  rcases h with h | ⟨hn, l, h⟩
  · exact .inl h
  · exact .inr ⟨hn, l, h.setCell ha u⟩
theorem ErrC.mono {B B' : Nat} {W : World} {v : Value} {n : Int} (h : ErrC B W v n) (hB : B' ≤ B) : ErrC B' W v n := by
  rcases h with h | ⟨hn, l, h⟩
  · exact .inl h
  · exact .inr ⟨hn, l, h.mono hB⟩
theorem ErrC.drewN {B : Nat} {W : World} {v : Value} {n : Int} (h : ErrC B W v n) (k : Nat) : ErrC B (W.drewN k) v n := by
  rcases h with h | ⟨hn, l, h⟩
  · exact .inl h
  · exact .inr ⟨hn, l, h.keep fun _ _ _ hc => hc⟩
/-- one step behind another -/
theorem below_step {W w1 w2 : World} {B : Nat} (h : Below B W w1) (k : Below w1.heap.size w1 w2) (hB : B ≤ W.heap.size) : Below B W w2 := h.trans (k.mono (Nat.le_trans hB h.size))
theorem bstep {W w1 w2 : World} (h : Below W.heap.size W w1) (k : Below w1.heap.size w1 w2) : Below W.heap.size W w2 := below_step h k (Nat.le_refl _)
/-- tag.Tag around a number that isn't 0 -/
theorem Tag_err (s : ByteArray) (n : Int) (w : World) (hn : n ≠ 0 := by decide) : Calls Tryd.prog 56 #[.string s, .iface 95 (.int .i64 n)] w fun e w' => ∃ v, e = .returned v ∧ ErrC w.heap.size w' v n ∧ Below w.heap.size w w' := by
  refine (Tag_some s _ _ w).mono ?_
  rintro e w' ⟨rfl, rfl⟩
  exact ⟨_, rfl, .inr ⟨hn, [s], .more _ _ _ _ _ (Nat.le_refl _) (by rw [World.cell?_alloc_at _ _ _ _ rfl]; rfl) (by rw [World.cell?_alloc_at _ _ _ _ rfl]; rfl) (.num n)⟩, (Below.refl _ _).alloc (Nat.le_refl _) _⟩
/-- tag.Num of whatever number -/
theorem Num_c {B : Nat} (w : World) (E : Value) (n : Int) (h : ErrC B w E n) (hg : Tied w) :
    Calls Tryd.prog 17 #[E] w fun e w' => e = .returned (.int .i64 n) ∧ Below w.heap.size w w' := Num_any w E n h.r hg
end Go.Proofs.YtlcnhagcomljnaaDoor
