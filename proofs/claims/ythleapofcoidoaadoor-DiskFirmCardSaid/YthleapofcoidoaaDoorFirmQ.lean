/- dynamolaw04.DiskFirm: the walk. -/
import Derived.Test.YthleapofcoidoaaDoorFirmP
namespace Go.Proofs.YthleapofcoidoaaDoor
open Go.RowKit Go.Extern.Stop Go.Stop Go.Extern
set_option linter.unusedVariables false
set_option linter.unusedSimpArgs false

/-- the eight bools -/
structure YIn (Y : Nat) (f : Nat → Bool) (w : World) : Prop where
  c : ∀ i, i < 8 → w.cell? ⟨Y, i, none⟩ = some (.bool (f i))
  z : ∀ i, i < 8 → w.frozen? ⟨Y, i, none⟩ = false
theorem YIn.lt {Y : Nat} {f : Nat → Bool} {w : World} (h : YIn Y f w) : Y < w.heap.size := cell_lt (p := ⟨Y, 0, none⟩) (h.c 0 (by omega))
theorem YIn.keep {S : Nat → Prop} {Y : Nat} {f : Nat → Bool} {w w' : World} (h : YIn Y f w) (ht : Touch S w w') (hn : ¬ S Y) : YIn Y f w' :=
  ⟨fun i hi => ht.cell (h.c i hi) hn, fun i hi => by rw [World.frozen?_of_block (ht.block Y h.lt hn)]; exact h.z i hi⟩
theorem YIn.under {Y : Nat} {f : Nat → Bool} {w w' : World} (h : YIn Y f w) (hb : Below w.heap.size w w') : YIn Y f w' := h.keep (S := fun _ => False) (Touch.of_below hb) (fun h => h)
theorem YIn.set {Y : Nat} {f g : Nat → Bool} {w : World} (h : YIn Y f w) (n : Nat) (hn : n < 8) (hg : ∀ i, g i = (f i || decide (i = n))) : YIn Y g (w.setCell ⟨Y, n, none⟩ (.bool true)) := by
  refine ⟨fun i hi => ?_, fun i hi => by rw [World.frozen?_setCell]; exact h.z i hi⟩
  rw [hg]
  by_cases e : i = n
  · subst e
    rw [World.cell?_setCell_same _ _ _ (h.c i hi)]; simp
  · rw [World.cell?_setCell_other _ _ _ _ (by simp <;> omega), h.c i hi]; simp [e]
theorem its_new {D F Y : Nat} {v v' : Value} {w : World} (hn : ∀ b, Its D F v b → b ≠ Y) (hv : v'.ownBlock = v.ownBlock ∨ ∃ b, v'.ownBlock = some b ∧ w.heap.size ≤ b) (hY : Y < w.heap.size) : ∀ b, Its D F v' b → b ≠ Y := fun b hb => by
  rcases hb with rfl | rfl | hb
  · exact hn _ (.inl rfl)
  · exact hn _ (.inr (.inl rfl))
  · rcases hv with e | ⟨c, e, hc⟩
    · exact hn _ (.inr (.inr (e ▸ hb)))
    · rw [e] at hb
      have := Option.some.inj hb
      omega
/-- a round's head in the second loop -/
structure MInv (w : World) (base D F X Y : Nat) (firm : List Pg) (l : List ActP) (k : Nat) (v : Value) (wr : World) : Prop where
  b : Below w.heap.size w wr
  d : DiskIn wr base D F v firm (lsTo l k) false
  n : ∀ b, Its D F v b → b ≠ X
  n' : ∀ b, Its D F v b → b ≠ Y
  r : ∀ i, i < 8 → wr.rangeAt X (i * 128) (pv (firm.getD i zp))
  x : X < wr.heap.size
  y : YIn Y (laterB l k) wr
theorem MInv.under {w wr w' : World} {base D F X Y k : Nat} {firm : List Pg} {l : List ActP} {v : Value} (h : MInv w base D F X Y firm l k v wr) (hb : Below wr.heap.size wr w') : MInv w base D F X Y firm l k v w' :=
  have ht : Touch (fun _ => False) wr w' := Touch.of_below hb
  ⟨h.b.trans (hb.mono h.b.size), h.d.under hb, h.n, h.n', fun i hi => ht.range (h.r i hi) (fun h => h), Nat.lt_of_lt_of_le h.x ht.size, h.y.under hb⟩
theorem MInv.step {w w3 w4 : World} {base D F X Y k n : Nat} {firm : List Pg} {l : List ActP} {v v' : Value} {p : Pg} (h : MInv w base D F X Y firm l k v w3) (hk : k < l.length) (hs : lsTo l (k + 1) = lsTo l k ++ [((n : Int), p)]) (hb : bits BinOp.and IntKind.i64 l[k].at_ 7 = (n : Int)) (hn : n < 8) (hY : w.heap.size ≤ Y) (hXY : X ≠ Y) (hbase : w.heap.size ≤ base)
    (hd : DiskIn w4 base D F v' firm (lsTo l k ++ [((n : Int), p)]) false) (hv : v'.ownBlock = v.ownBlock ∨ ∃ b, v'.ownBlock = some b ∧ w3.heap.size ≤ b) (ht : Touch (Its D F v) w3 w4) :
    MInv w base D F X Y firm l (k + 1) v' (w4.setCell ⟨Y, n, none⟩ (.bool true)) := by
  have hb4 : Below w.heap.size w w4 := h.b.trans ((h.d.low ht).mono hbase)
  have y4 : YIn Y (laterB l k) w4 := h.y.keep ht (fun e => h.n' _ e rfl)
  have t : Touch (fun b => b = Y) w4 (w4.setCell ⟨Y, n, none⟩ (.bool true)) := touch_set w4 Y n _ rfl
  have hnX := its_new h.n hv h.x
  have hnY := its_new h.n' hv h.y.lt
  exact ⟨hb4.trans (t.below hb4.size (fun b e => by rw [e]; exact hY)), by rw [hs]; exact hd.keep t hnY, hnX, hnY, fun i hi => t.range (ht.range (h.r i hi) (fun e => h.n _ e rfl)) hXY, Nat.lt_of_lt_of_le h.x (Nat.le_trans ht.size t.size),
    y4.set n hn (fun i => by
      rw [laterB_step _ _ _ hk, hb]
      congr 1
      by_cases e : i = n
      · subst e; simp
      · simp [e]; omega)⟩
end Go.Proofs.YthleapofcoidoaaDoor
