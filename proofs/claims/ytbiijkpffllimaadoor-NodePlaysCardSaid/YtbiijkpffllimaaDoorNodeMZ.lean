/- node.parts by its contract. -/
import Derived.Test.YtbiijkpffllimaaDoorNodeMB
import Derived.Deep.LoopGhost
import Derived.Deep.RegionHeld3
import Derived.Deep.AppendLies
import Derived.Outline
import Derived.Laws.EntriesVeiled
namespace Go.Proofs.YtbiijkpffllimaaDoor
open Go.RowKit Go.Extern.Stop Go.Stop Go.Extern Go.Proofs.YtbiijkpffllimaaDoorW.PrintWords Go.Proofs.YtbiijkpffllimaaDoorW.PrintLast Go.Proofs.YtbiijkpffllimaaDoorW.PrintMore Go.Proofs.YtbiijkpffllimaaDoor.PNodeUnlike
set_option linter.unusedVariables false
set_option linter.unusedSimpArgs false

/-- what node.parts has made so far -/
structure PIn (w wr : World) (B Br Bo Bt Bn : Nat) (st : St) (ks : List Int) (vs : List ByteArray) (kd : List Int) (v0 v1 v2 : Value) : Prop where
  d : DatIn wr B Bo st
  t : wr.cell? ⟨Bt, 0, none⟩ = some (.func (.func 68) #[] #[.pointer (some ⟨B, 0, none⟩), .pointer (some ⟨Bo, 0, none⟩)])
  r0 : wr.cell? ⟨Br, 0, none⟩ = some (.slice none 0 0)
  r1 : wr.cell? ⟨Br, 1, none⟩ = some (.slice none 0 0)
  r2 : wr.cell? ⟨Br, 2, none⟩ = some (.slice none 0 0)
  rf : ∀ i, i < 3 → wr.frozen? ⟨Br, i, none⟩ = false
  n0 : wr.cell? ⟨Bn, 0, none⟩ = some v0
  n1 : wr.cell? ⟨Bn, 1, none⟩ = some v1
  n2 : wr.cell? ⟨Bn, 2, none⟩ = some v2
  nf : ∀ i, i < 3 → wr.frozen? ⟨Bn, i, none⟩ = false
  o0 : wr.ownsRow (Bn + 1) 3 1 v0 ks.length (nums .i64 ks)
  o1 : wr.ownsRow (Bn + 1) 9 1 v1 vs.length (vs.map Value.string)
  o2 : wr.ownsRow (Bn + 1) 3 1 v2 kd.length (nums .i64 kd)
  a01 : ∀ b, v0.ownBlock = some b → v1.ownBlock ≠ some b
  a02 : ∀ b, v0.ownBlock = some b → v2.ownBlock ≠ some b
  a12 : ∀ b, v1.ownBlock = some b → v2.ownBlock ≠ some b
  b : Below w.heap.size w wr
  hB : B = w.heap.size
  hr : Br = B + 1
  ho : Bo = B + 2
  ht : Bt = B + 3
  hN : B + 4 ≤ Bn
theorem PIn.size {w wr : World} {B Br Bo Bt Bn : Nat} {st : St} {ks : List Int} {vs : List ByteArray} {kd : List Int} {v0 v1 v2 : Value} (h : PIn w wr B Br Bo Bt Bn st ks vs kd v0 v1 v2) : Bn + 1 ≤ wr.heap.size := by
  have := cell_lt h.n0
  simp at this; omega
/-- the closures' variables alone have turned -/
theorem PIn.touch {w wr w' : World} {B Br Bo Bt Bn : Nat} {st st' : St} {ks : List Int} {vs : List ByteArray} {kd : List Int} {v0 v1 v2 : Value} (h : PIn w wr B Br Bo Bt Bn st ks vs kd v0 v1 v2) (hd : DatIn w' B Bo st') (ht : Touch (Two B Bo) wr w') : PIn w w' B Br Bo Bt Bn st' ks vs kd v0 v1 v2 := by
  have hn : ∀ k, k ≠ B → k ≠ Bo → ¬ Two B Bo k := fun k h0 h2 hk => by rcases hk with e | e <;> omega
  have hf : ∀ k i, k ≠ B → k ≠ Bo → k < wr.heap.size → w'.frozen? ⟨k, i, none⟩ = wr.frozen? ⟨k, i, none⟩ := fun k i h0 h2 hk => World.frozen?_of_block (ht.block k hk (hn k h0 h2))
  have hs := h.size
  have hN := h.hN
  have hBr := h.hr
  have hBo := h.ho
  have hBt := h.ht
  have hr : ∀ {v : Value} {e : TypeId} {n : Nat} {xs : List Value}, wr.ownsRow (Bn + 1) e 1 v n xs → w'.ownsRow (Bn + 1) e 1 v n xs := fun ho => own_move ho (fun k hk => ht.block k (own_lt ho k hk) (hn k (by have := own_base ho k hk; omega) (by have := own_base ho k hk; omega)))
  exact { d := hd, t := ht.cell h.t (hn _ (by simp; try omega) (by simp; try omega)), r0 := ht.cell h.r0 (hn _ (by simp; try omega) (by simp; try omega)), r1 := ht.cell h.r1 (hn _ (by simp; try omega) (by simp; try omega)), r2 := ht.cell h.r2 (hn _ (by simp; try omega) (by simp; try omega)),
          rf := fun i hi => by rw [hf _ _ (by omega) (by omega) (by omega)]; exact h.rf i hi,
          n0 := ht.cell h.n0 (hn _ (by simp; try omega) (by simp; try omega)), n1 := ht.cell h.n1 (hn _ (by simp; try omega) (by simp; try omega)), n2 := ht.cell h.n2 (hn _ (by simp; try omega) (by simp; try omega)),
          nf := fun i hi => by rw [hf _ _ (by omega) (by omega) (by omega)]; exact h.nf i hi,
          o0 := hr h.o0, o1 := hr h.o1, o2 := hr h.o2, a01 := h.a01, a02 := h.a02, a12 := h.a12,
          b := h.b.trans (ht.below (by have := h.hB; have := h.b.size; omega) (fun k hk => by have := h.hB; rcases hk with e | e <;> omega)), hB := h.hB, hr := h.hr, ho := h.ho, ht := h.ht, hN := h.hN }
theorem PIn.under {w wr w' : World} {B Br Bo Bt Bn : Nat} {st : St} {ks : List Int} {vs : List ByteArray} {kd : List Int} {v0 v1 v2 : Value} (h : PIn w wr B Br Bo Bt Bn st ks vs kd v0 v1 v2) (hb : Below wr.heap.size wr w') : PIn w w' B Br Bo Bt Bn st ks vs kd v0 v1 v2 :=
  h.touch (h.d.under hb) (Touch.of_below hb)
theorem PIn.app0 {w w4 w5 : World} {B Br Bo Bt Bn : Nat} {st : St} {ks : List Int} {vs : List ByteArray} {kd : List Int} {v0 v1 v2 : Value} (h : PIn w w4 B Br Bo Bt Bn st ks vs kd v0 v1 v2) (hg : w4.grownBy w5 v0.ownBlock) (x : Int) (g cap H : Nat)
    (ho : w5.ownsRow (Bn + 1) 3 1 (.slice (some ⟨g, 0, none⟩) (ks.length + 1) cap) (ks.length + 1) ((nums .i64 ks) ++ [.int .i64 x])) (hat : v0.ownBlock = some g ∨ g = H) (hH : w4.heap.size = H) (hlt : g < w5.heap.size) :
    PIn w (w5.setCell ⟨Bn, 0, none⟩ (.slice (some ⟨g, 0, none⟩) (ks.length + 1) cap)) B Br Bo Bt Bn st (ks ++ [x]) vs kd (.slice (some ⟨g, 0, none⟩) (ks.length + 1) cap) v1 v2 := by
  have hs := h.size
  have hN := h.hN
  have hBr := h.hr
  have hBo := h.ho
  have hBt := h.ht
  have hb5 : ∀ k, v0.ownBlock = some k → Bn + 1 ≤ k := fun k hk => own_base h.o0 k hk
  have hsz : w4.heap.size ≤ w5.heap.size := hg.size
  have hbl : ∀ k, k < w4.heap.size → v0.ownBlock ≠ some k → k ≠ Bn → (w5.setCell ⟨Bn, 0, none⟩ (.slice (some ⟨g, 0, none⟩) (ks.length + 1) cap)).heap[k]? = w4.heap[k]? := fun k hk hr hne =>
    (Below.heap_setCell w5 ⟨Bn, 0, none⟩ _ k hne).trans (hg.block k hk (fun e => hr e.symm))
  have hlow : ∀ k, k < Bn + 1 → v0.ownBlock ≠ some k := fun k hk e => by have := hb5 k e; omega
  have cel : ∀ {k j : Nat} {u : Value}, k < Bn + 1 → k ≠ Bn → w4.cell? ⟨k, j, none⟩ = some u → (w5.setCell ⟨Bn, 0, none⟩ (.slice (some ⟨g, 0, none⟩) (ks.length + 1) cap)).cell? ⟨k, j, none⟩ = some u := fun {k j u} hk hne hc =>
    (World.cell?_of_block (a := ⟨k, j, none⟩) (hbl k (by omega) (hlow k hk) hne)).trans hc
  have frz : ∀ {k j : Nat}, k < Bn + 1 → k ≠ Bn → (w5.setCell ⟨Bn, 0, none⟩ (.slice (some ⟨g, 0, none⟩) (ks.length + 1) cap)).frozen? ⟨k, j, none⟩ = w4.frozen? ⟨k, j, none⟩ := fun {k j} hk hne =>
    World.frozen?_of_block (a := ⟨k, j, none⟩) (hbl k (by omega) (hlow k hk) hne)
  have n4 : ∀ {j : Nat} {u : Value}, w4.cell? ⟨Bn, j, none⟩ = some u → w5.cell? ⟨Bn, j, none⟩ = some u := fun {j u} hc => (World.cell?_of_block (a := ⟨Bn, j, none⟩) (hg.block Bn (show Bn < w4.heap.size by omega) (fun e => hlow Bn (show Bn < Bn + 1 by omega) e.symm))).trans hc
  have row : ∀ {v : Value} {e : TypeId} {n : Nat} {xs : List Value}, w4.ownsRow (Bn + 1) e 1 v n xs → (∀ k, v.ownBlock = some k → v0.ownBlock ≠ some k) → (w5.setCell ⟨Bn, 0, none⟩ (.slice (some ⟨g, 0, none⟩) (ks.length + 1) cap)).ownsRow (Bn + 1) e 1 v n xs := fun hr hd =>
    own_move hr (fun k hk => hbl k (own_lt hr k hk) (hd k hk) (by have := own_base hr k hk; omega))
  have apt : ∀ {v : Value} {e : TypeId} {n : Nat} {xs : List Value}, w4.ownsRow (Bn + 1) e 1 v n xs → (∀ k, v.ownBlock = some k → v0.ownBlock ≠ some k) → ∀ k, v.ownBlock = some k → k ≠ g := fun hr hd k hk e => by
    rcases hat with h1 | h1
    · exact hd k hk (e ▸ h1)
    · have := own_lt hr k hk; omega
  exact { d := ⟨cel (by omega) (by omega) h.d.c0, by rw [frz (by omega) (by omega)]; exact h.d.f0, cel (by omega) (by omega) h.d.c1, by rw [frz (by omega) (by omega)]; exact h.d.f1, h.d.ne, h.d.z⟩,
          t := cel (by omega) (by omega) h.t,
          r0 := cel (by omega) (by omega) h.r0,
          r1 := cel (by omega) (by omega) h.r1,
          r2 := cel (by omega) (by omega) h.r2,
          rf := fun j hj => by rw [frz (by omega) (by omega)]; exact h.rf j hj,
          n0 := World.cell?_setCell_same _ _ _ (n4 h.n0),
          n1 := by rw [World.cell?_setCell_other _ _ _ _ (by simp)]; exact n4 h.n1,
          n2 := by rw [World.cell?_setCell_other _ _ _ _ (by simp)]; exact n4 h.n2,
          nf := fun j hj => by rw [World.frozen?_setCell, World.frozen?_of_block (hg.block (Bn) (by omega) (fun e => hlow (Bn) (by omega) e.symm))]; exact h.nf j hj,
          o0 := by
            have h2 := own_move (w1 := w5.setCell ⟨Bn, 0, none⟩ (.slice (some ⟨g, 0, none⟩) (ks.length + 1) cap)) ho (fun k hk => Below.heap_setCell w5 ⟨Bn, 0, none⟩ _ k (by have := own_base ho k hk; simp; omega))
            rw [List.length_append, nums_append]
            exact h2,
          o1 := row h.o1 (fun k hk e => h.a01 k e hk),
          o2 := row h.o2 (fun k hk e => h.a02 k e hk),
          a01 := fun k hk e => by
            obtain rfl : g = k := by simpa [Value.ownBlock] using hk
            exact apt h.o1 (fun k hk e => h.a01 k e hk) _ e rfl,
          a02 := fun k hk e => by
            obtain rfl : g = k := by simpa [Value.ownBlock] using hk
            exact apt h.o2 (fun k hk e => h.a02 k e hk) _ e rfl,
          a12 := h.a12,
          b := by
            have h5 : Below w.heap.size w w5 := h.b.grown hg h.b.size (fun k hk => by have := hb5 k hk; have := h.hB; omega)
            exact h5.setCell (by have := h.hB; simp; omega) _,
          hB := h.hB,
          hr := h.hr,
          ho := h.ho,
          ht := h.ht,
          hN := h.hN }
theorem PIn.app1 {w w4 w5 : World} {B Br Bo Bt Bn : Nat} {st : St} {ks : List Int} {vs : List ByteArray} {kd : List Int} {v0 v1 v2 : Value} (h : PIn w w4 B Br Bo Bt Bn st ks vs kd v0 v1 v2) (hg : w4.grownBy w5 v1.ownBlock) (x : ByteArray) (g cap H : Nat)
    (ho : w5.ownsRow (Bn + 1) 9 1 (.slice (some ⟨g, 0, none⟩) (vs.length + 1) cap) (vs.length + 1) ((vs.map Value.string) ++ [.string x])) (hat : v1.ownBlock = some g ∨ g = H) (hH : w4.heap.size = H) (hlt : g < w5.heap.size) :
    PIn w (w5.setCell ⟨Bn, 1, none⟩ (.slice (some ⟨g, 0, none⟩) (vs.length + 1) cap)) B Br Bo Bt Bn st ks (vs ++ [x]) kd v0 (.slice (some ⟨g, 0, none⟩) (vs.length + 1) cap) v2 := by
  have hs := h.size
  have hN := h.hN
  have hBr := h.hr
  have hBo := h.ho
  have hBt := h.ht
  have hb5 : ∀ k, v1.ownBlock = some k → Bn + 1 ≤ k := fun k hk => own_base h.o1 k hk
  have hsz : w4.heap.size ≤ w5.heap.size := hg.size
  have hbl : ∀ k, k < w4.heap.size → v1.ownBlock ≠ some k → k ≠ Bn → (w5.setCell ⟨Bn, 1, none⟩ (.slice (some ⟨g, 0, none⟩) (vs.length + 1) cap)).heap[k]? = w4.heap[k]? := fun k hk hr hne =>
    (Below.heap_setCell w5 ⟨Bn, 1, none⟩ _ k hne).trans (hg.block k hk (fun e => hr e.symm))
  have hlow : ∀ k, k < Bn + 1 → v1.ownBlock ≠ some k := fun k hk e => by have := hb5 k e; omega
  have cel : ∀ {k j : Nat} {u : Value}, k < Bn + 1 → k ≠ Bn → w4.cell? ⟨k, j, none⟩ = some u → (w5.setCell ⟨Bn, 1, none⟩ (.slice (some ⟨g, 0, none⟩) (vs.length + 1) cap)).cell? ⟨k, j, none⟩ = some u := fun {k j u} hk hne hc =>
    (World.cell?_of_block (a := ⟨k, j, none⟩) (hbl k (by omega) (hlow k hk) hne)).trans hc
  have frz : ∀ {k j : Nat}, k < Bn + 1 → k ≠ Bn → (w5.setCell ⟨Bn, 1, none⟩ (.slice (some ⟨g, 0, none⟩) (vs.length + 1) cap)).frozen? ⟨k, j, none⟩ = w4.frozen? ⟨k, j, none⟩ := fun {k j} hk hne =>
    World.frozen?_of_block (a := ⟨k, j, none⟩) (hbl k (by omega) (hlow k hk) hne)
  have n4 : ∀ {j : Nat} {u : Value}, w4.cell? ⟨Bn, j, none⟩ = some u → w5.cell? ⟨Bn, j, none⟩ = some u := fun {j u} hc => (World.cell?_of_block (a := ⟨Bn, j, none⟩) (hg.block Bn (show Bn < w4.heap.size by omega) (fun e => hlow Bn (show Bn < Bn + 1 by omega) e.symm))).trans hc
  have row : ∀ {v : Value} {e : TypeId} {n : Nat} {xs : List Value}, w4.ownsRow (Bn + 1) e 1 v n xs → (∀ k, v.ownBlock = some k → v1.ownBlock ≠ some k) → (w5.setCell ⟨Bn, 1, none⟩ (.slice (some ⟨g, 0, none⟩) (vs.length + 1) cap)).ownsRow (Bn + 1) e 1 v n xs := fun hr hd =>
    own_move hr (fun k hk => hbl k (own_lt hr k hk) (hd k hk) (by have := own_base hr k hk; omega))
  have apt : ∀ {v : Value} {e : TypeId} {n : Nat} {xs : List Value}, w4.ownsRow (Bn + 1) e 1 v n xs → (∀ k, v.ownBlock = some k → v1.ownBlock ≠ some k) → ∀ k, v.ownBlock = some k → k ≠ g := fun hr hd k hk e => by
    rcases hat with h1 | h1
    · exact hd k hk (e ▸ h1)
    · have := own_lt hr k hk; omega
  exact { d := ⟨cel (by omega) (by omega) h.d.c0, by rw [frz (by omega) (by omega)]; exact h.d.f0, cel (by omega) (by omega) h.d.c1, by rw [frz (by omega) (by omega)]; exact h.d.f1, h.d.ne, h.d.z⟩,
          t := cel (by omega) (by omega) h.t,
          r0 := cel (by omega) (by omega) h.r0,
          r1 := cel (by omega) (by omega) h.r1,
          r2 := cel (by omega) (by omega) h.r2,
          rf := fun j hj => by rw [frz (by omega) (by omega)]; exact h.rf j hj,
          n0 := by rw [World.cell?_setCell_other _ _ _ _ (by simp)]; exact n4 h.n0,
          n1 := World.cell?_setCell_same _ _ _ (n4 h.n1),
          n2 := by rw [World.cell?_setCell_other _ _ _ _ (by simp)]; exact n4 h.n2,
          nf := fun j hj => by rw [World.frozen?_setCell, World.frozen?_of_block (hg.block (Bn) (by omega) (fun e => hlow (Bn) (by omega) e.symm))]; exact h.nf j hj,
          o0 := row h.o0 (fun k hk => h.a01 k hk),
          o1 := by
            have h2 := own_move (w1 := w5.setCell ⟨Bn, 1, none⟩ (.slice (some ⟨g, 0, none⟩) (vs.length + 1) cap)) ho (fun k hk => Below.heap_setCell w5 ⟨Bn, 1, none⟩ _ k (by have := own_base ho k hk; simp; omega))
            rw [List.length_append, List.map_append]
            exact h2,
          o2 := row h.o2 (fun k hk e => h.a12 k e hk),
          a01 := fun k hk e => by
            obtain rfl : g = k := by simpa [Value.ownBlock] using e
            exact apt h.o0 (fun k hk => h.a01 k hk) _ hk rfl,
          a02 := h.a02,
          a12 := fun k hk e => by
            obtain rfl : g = k := by simpa [Value.ownBlock] using hk
            exact apt h.o2 (fun k hk e => h.a12 k e hk) _ e rfl,
          b := by
            have h5 : Below w.heap.size w w5 := h.b.grown hg h.b.size (fun k hk => by have := hb5 k hk; have := h.hB; omega)
            exact h5.setCell (by have := h.hB; simp; omega) _,
          hB := h.hB,
          hr := h.hr,
          ho := h.ho,
          ht := h.ht,
          hN := h.hN }
theorem PIn.app2 {w w4 w5 : World} {B Br Bo Bt Bn : Nat} {st : St} {ks : List Int} {vs : List ByteArray} {kd : List Int} {v0 v1 v2 : Value} (h : PIn w w4 B Br Bo Bt Bn st ks vs kd v0 v1 v2) (hg : w4.grownBy w5 v2.ownBlock) (x : Int) (g cap H : Nat)
    (ho : w5.ownsRow (Bn + 1) 3 1 (.slice (some ⟨g, 0, none⟩) (kd.length + 1) cap) (kd.length + 1) ((nums .i64 kd) ++ [.int .i64 x])) (hat : v2.ownBlock = some g ∨ g = H) (hH : w4.heap.size = H) (hlt : g < w5.heap.size) :
    PIn w (w5.setCell ⟨Bn, 2, none⟩ (.slice (some ⟨g, 0, none⟩) (kd.length + 1) cap)) B Br Bo Bt Bn st ks vs (kd ++ [x]) v0 v1 (.slice (some ⟨g, 0, none⟩) (kd.length + 1) cap) := by
  have hs := h.size
  have hN := h.hN
  have hBr := h.hr
  have hBo := h.ho
  have hBt := h.ht
  have hb5 : ∀ k, v2.ownBlock = some k → Bn + 1 ≤ k := fun k hk => own_base h.o2 k hk
  have hsz : w4.heap.size ≤ w5.heap.size := hg.size
  have hbl : ∀ k, k < w4.heap.size → v2.ownBlock ≠ some k → k ≠ Bn → (w5.setCell ⟨Bn, 2, none⟩ (.slice (some ⟨g, 0, none⟩) (kd.length + 1) cap)).heap[k]? = w4.heap[k]? := fun k hk hr hne =>
    (Below.heap_setCell w5 ⟨Bn, 2, none⟩ _ k hne).trans (hg.block k hk (fun e => hr e.symm))
  have hlow : ∀ k, k < Bn + 1 → v2.ownBlock ≠ some k := fun k hk e => by have := hb5 k e; omega
  have cel : ∀ {k j : Nat} {u : Value}, k < Bn + 1 → k ≠ Bn → w4.cell? ⟨k, j, none⟩ = some u → (w5.setCell ⟨Bn, 2, none⟩ (.slice (some ⟨g, 0, none⟩) (kd.length + 1) cap)).cell? ⟨k, j, none⟩ = some u := fun {k j u} hk hne hc =>
    (World.cell?_of_block (a := ⟨k, j, none⟩) (hbl k (by omega) (hlow k hk) hne)).trans hc
  have frz : ∀ {k j : Nat}, k < Bn + 1 → k ≠ Bn → (w5.setCell ⟨Bn, 2, none⟩ (.slice (some ⟨g, 0, none⟩) (kd.length + 1) cap)).frozen? ⟨k, j, none⟩ = w4.frozen? ⟨k, j, none⟩ := fun {k j} hk hne =>
    World.frozen?_of_block (a := ⟨k, j, none⟩) (hbl k (by omega) (hlow k hk) hne)
  have n4 : ∀ {j : Nat} {u : Value}, w4.cell? ⟨Bn, j, none⟩ = some u → w5.cell? ⟨Bn, j, none⟩ = some u := fun {j u} hc => (World.cell?_of_block (a := ⟨Bn, j, none⟩) (hg.block Bn (show Bn < w4.heap.size by omega) (fun e => hlow Bn (show Bn < Bn + 1 by omega) e.symm))).trans hc
  have row : ∀ {v : Value} {e : TypeId} {n : Nat} {xs : List Value}, w4.ownsRow (Bn + 1) e 1 v n xs → (∀ k, v.ownBlock = some k → v2.ownBlock ≠ some k) → (w5.setCell ⟨Bn, 2, none⟩ (.slice (some ⟨g, 0, none⟩) (kd.length + 1) cap)).ownsRow (Bn + 1) e 1 v n xs := fun hr hd =>
    own_move hr (fun k hk => hbl k (own_lt hr k hk) (hd k hk) (by have := own_base hr k hk; omega))
  have apt : ∀ {v : Value} {e : TypeId} {n : Nat} {xs : List Value}, w4.ownsRow (Bn + 1) e 1 v n xs → (∀ k, v.ownBlock = some k → v2.ownBlock ≠ some k) → ∀ k, v.ownBlock = some k → k ≠ g := fun hr hd k hk e => by
    rcases hat with h1 | h1
    · exact hd k hk (e ▸ h1)
    · have := own_lt hr k hk; omega
  exact { d := ⟨cel (by omega) (by omega) h.d.c0, by rw [frz (by omega) (by omega)]; exact h.d.f0, cel (by omega) (by omega) h.d.c1, by rw [frz (by omega) (by omega)]; exact h.d.f1, h.d.ne, h.d.z⟩,
          t := cel (by omega) (by omega) h.t,
          r0 := cel (by omega) (by omega) h.r0,
          r1 := cel (by omega) (by omega) h.r1,
          r2 := cel (by omega) (by omega) h.r2,
          rf := fun j hj => by rw [frz (by omega) (by omega)]; exact h.rf j hj,
          n0 := by rw [World.cell?_setCell_other _ _ _ _ (by simp)]; exact n4 h.n0,
          n1 := by rw [World.cell?_setCell_other _ _ _ _ (by simp)]; exact n4 h.n1,
          n2 := World.cell?_setCell_same _ _ _ (n4 h.n2),
          nf := fun j hj => by rw [World.frozen?_setCell, World.frozen?_of_block (hg.block (Bn) (by omega) (fun e => hlow (Bn) (by omega) e.symm))]; exact h.nf j hj,
          o0 := row h.o0 (fun k hk => h.a02 k hk),
          o1 := row h.o1 (fun k hk => h.a12 k hk),
          o2 := by
            have h2 := own_move (w1 := w5.setCell ⟨Bn, 2, none⟩ (.slice (some ⟨g, 0, none⟩) (kd.length + 1) cap)) ho (fun k hk => Below.heap_setCell w5 ⟨Bn, 2, none⟩ _ k (by have := own_base ho k hk; simp; omega))
            rw [List.length_append, nums_append]
            exact h2,
          a01 := h.a01,
          a02 := fun k hk e => by
            obtain rfl : g = k := by simpa [Value.ownBlock] using e
            exact apt h.o0 (fun k hk => h.a02 k hk) _ hk rfl,
          a12 := fun k hk e => by
            obtain rfl : g = k := by simpa [Value.ownBlock] using e
            exact apt h.o1 (fun k hk => h.a12 k hk) _ hk rfl,
          b := by
            have h5 : Below w.heap.size w w5 := h.b.grown hg h.b.size (fun k hk => by have := hb5 k hk; have := h.hB; omega)
            exact h5.setCell (by have := h.hB; simp; omega) _,
          hB := h.hB,
          hr := h.hr,
          ho := h.ho,
          ht := h.ht,
          hN := h.hN }
/-- what node.parts answers -/
def PartsPost (d : ByteArray) (w : World) (e : Ending) (w' : World) : Prop := ∃ A0 c0 A1 c1 A2 c2, e = .returned (.tuple #[.agg #[.slice A0 (partsR d).ks.length c0, .slice A1 (partsR d).vs.length c1, .slice A2 (partsR d).kd.length c2], .bool (partsR d).ok]) ∧ (∀ wz : World, (∀ k, w.heap.size ≤ k → k < w'.heap.size → wz.heap[k]? = w'.heap[k]?) → NodeIn wz A0 (partsR d).ks c0 A1 (partsR d).vs c1 A2 (partsR d).kd c2) ∧ Below w.heap.size w w'
theorem wf_of {x : Int} (h : 0 ≤ x ∧ x < 4294967296) : (Lit.int .i64 x).wf = true := by
  simp [Lit.wf, IntKind.min, IntKind.max, IntKind.signed, IntKind.bits]; omega
theorem own_none (w : World) (base : Nat) (e : TypeId) : w.ownsRow base e 1 (.slice none 0 0) 0 [] := ⟨by simp, .inl ⟨rfl, rfl⟩⟩
theorem own_val {w : World} {base n : Nat} {e : TypeId} {v : Value} {xs : List Value} (h : w.ownsRow base e 1 v n xs) : ∃ A c, v = .slice A n c := by
  rcases h.2 with ⟨rfl, h0⟩ | ⟨g, cap, cur, rfl, _⟩
  · exact ⟨none, 0, by rw [show n = 0 by have := h.1; rw [h0] at this; simp at this; omega]⟩
  · exact ⟨_, _, rfl⟩
theorem own_ints1 {w : World} {base : Nat} {e : TypeId} {A : Option Addr} {c : Nat} {l : List Int} (h : w.ownsRow base e 1 (.slice A l.length c) l.length (nums .i64 l)) : Ints w A l c := by
  rcases h.2 with ⟨hv, h0⟩ | ⟨g, cap, cur, hv, hb, hh, hnc, hcm, _⟩
  · obtain rfl : l = [] := by cases l with
      | nil => rfl
      | cons a b => simp [nums] at h0
    exact ints_nil _ _ _
  · simp only [Value.slice.injEq] at hv
    obtain ⟨rfl, _, rfl⟩ := hv
    refine ints_mk ?_ hnc fun j hj => ?_
    · unfold maxLen at hcm; omega
    · rw [Nat.zero_add, h.cellAt j (by omega)]
      simp [nums, rd_at l j hj]
theorem own_strs1 {w : World} {base : Nat} {e : TypeId} {A : Option Addr} {c : Nat} {l : List ByteArray} (h : w.ownsRow base e 1 (.slice A l.length c) l.length (l.map Value.string)) : Strs w A l c := by
  rcases h.2 with ⟨hv, h0⟩ | ⟨g, cap, cur, hv, hb, hh, hnc, hcm, _⟩
  · obtain rfl : l = [] := by cases l with
      | nil => rfl
      | cons a b => simp at h0
    exact strs_nil _ _ _
  · simp only [Value.slice.injEq] at hv
    obtain ⟨rfl, _, rfl⟩ := hv
    refine strs_mk ?_ hnc fun j hj => ?_
    · unfold maxLen at hcm; omega
    · rw [Nat.zero_add, h.cellAt j (by omega)]
      simp [rdOf_at l j hj]
theorem PIn.ret {w wr : World} {B Br Bo Bt Bn : Nat} {st : St} {ks : List Int} {vs : List ByteArray} {kd : List Int} {v0 v1 v2 : Value} (h : PIn w wr B Br Bo Bt Bn st ks vs kd v0 v1 v2) (u0 u1 u2 : Value) :
    (((wr.setCell ⟨Br, 0, none⟩ u0).setCell ⟨Br, 1, none⟩ u1).setCell ⟨Br, 2, none⟩ u2).drew.ownsRow (Bn + 1) 3 1 v0 ks.length (nums .i64 ks) ∧
    (((wr.setCell ⟨Br, 0, none⟩ u0).setCell ⟨Br, 1, none⟩ u1).setCell ⟨Br, 2, none⟩ u2).drew.ownsRow (Bn + 1) 9 1 v1 vs.length (vs.map Value.string) ∧
    (((wr.setCell ⟨Br, 0, none⟩ u0).setCell ⟨Br, 1, none⟩ u1).setCell ⟨Br, 2, none⟩ u2).drew.ownsRow (Bn + 1) 3 1 v2 kd.length (nums .i64 kd) ∧
    Below w.heap.size w (((wr.setCell ⟨Br, 0, none⟩ u0).setCell ⟨Br, 1, none⟩ u1).setCell ⟨Br, 2, none⟩ u2).drew := by
  have hN := h.hN
  have hr := h.hr
  have hB := h.hB
  have hb : ∀ k, k ≠ Br → (((wr.setCell ⟨Br, 0, none⟩ u0).setCell ⟨Br, 1, none⟩ u1).setCell ⟨Br, 2, none⟩ u2).drew.heap[k]? = wr.heap[k]? := fun k hk =>
    ((Below.heap_setCell _ ⟨Br, 2, none⟩ u2 k hk).trans (Below.heap_setCell _ ⟨Br, 1, none⟩ u1 k hk)).trans (Below.heap_setCell _ ⟨Br, 0, none⟩ u0 k hk)
  have row : ∀ {v : Value} {e : TypeId} {n : Nat} {xs : List Value}, wr.ownsRow (Bn + 1) e 1 v n xs → (((wr.setCell ⟨Br, 0, none⟩ u0).setCell ⟨Br, 1, none⟩ u1).setCell ⟨Br, 2, none⟩ u2).drew.ownsRow (Bn + 1) e 1 v n xs := fun ho =>
    own_move ho (fun k hk => hb k (by have := own_base ho k hk; omega))
  exact ⟨row h.o0, row h.o1, row h.o2, Below.drew (((h.b.setCell (by show w.heap.size ≤ Br; omega) _).setCell (by show w.heap.size ≤ Br; omega) _).setCell (by show w.heap.size ≤ Br; omega) _)⟩
/-- .. before the node's own variable is made -/
structure PPre (w wr : World) (B Br Bo Bt : Nat) (st : St) : Prop where
  d : DatIn wr B Bo st
  t : wr.cell? ⟨Bt, 0, none⟩ = some (.func (.func 68) #[] #[.pointer (some ⟨B, 0, none⟩), .pointer (some ⟨Bo, 0, none⟩)])
  r0 : wr.cell? ⟨Br, 0, none⟩ = some (.slice none 0 0)
  r1 : wr.cell? ⟨Br, 1, none⟩ = some (.slice none 0 0)
  r2 : wr.cell? ⟨Br, 2, none⟩ = some (.slice none 0 0)
  rf : ∀ i, i < 3 → wr.frozen? ⟨Br, i, none⟩ = false
  b : Below w.heap.size w wr
  hB : B = w.heap.size
  hr : Br = B + 1
  ho : Bo = B + 2
  ht : Bt = B + 3
theorem PPre.size {w wr : World} {B Br Bo Bt : Nat} {st : St} (h : PPre w wr B Br Bo Bt st) : B + 4 ≤ wr.heap.size := by
  have := cell_lt h.t
  have := h.ht
  simp at *; omega
theorem PPre.touch {w wr w' : World} {B Br Bo Bt : Nat} {st st' : St} (h : PPre w wr B Br Bo Bt st) (hd : DatIn w' B Bo st') (ht : Touch (Two B Bo) wr w') : PPre w w' B Br Bo Bt st' := by
  have hBr := h.hr
  have hBo := h.ho
  have hBt := h.ht
  have hs := h.size
  have hn : ∀ k, k ≠ B → k ≠ Bo → ¬ Two B Bo k := fun k h0 h2 hk => by rcases hk with e | e <;> omega
  exact { d := hd, t := ht.cell h.t (hn _ (by simp; omega) (by simp; omega)), r0 := ht.cell h.r0 (hn _ (by simp; omega) (by simp; omega)), r1 := ht.cell h.r1 (hn _ (by simp; omega) (by simp; omega)), r2 := ht.cell h.r2 (hn _ (by simp; omega) (by simp; omega)),
          rf := fun i hi => by rw [World.frozen?_of_block (a := ⟨Br, i, none⟩) (ht.block Br (by omega) (hn Br (by omega) (by omega)))]; exact h.rf i hi,
          b := h.b.trans (ht.below (by have := h.hB; have := h.b.size; omega) (fun k hk => by have := h.hB; rcases hk with e | e <;> omega)), hB := h.hB, hr := h.hr, ho := h.ho, ht := h.ht }
theorem PPre.node {w wr : World} {B Br Bo Bt : Nat} {st : St} (h : PPre w wr B Br Bo Bt st) : PIn w (wr.alloc (.cells #[.slice none 0 0, .slice none 0 0, .slice none 0 0] 33)) B Br Bo Bt wr.heap.size st [] [] [] (.slice none 0 0) (.slice none 0 0) (.slice none 0 0) := by
  have hs := h.size
  have h' := h.touch (h.d.under ((Below.refl _ _).alloc (Nat.le_refl _) (.cells #[.slice none 0 0, .slice none 0 0, .slice none 0 0] 33))) (Touch.of_below ((Below.refl _ _).alloc (Nat.le_refl _) _))
  exact { d := h'.d, t := h'.t, r0 := h'.r0, r1 := h'.r1, r2 := h'.r2, rf := h'.rf, n0 := by simp, n1 := by simp, n2 := by simp,
          nf := fun i hi => by simp,
          o0 := own_none _ _ _, o1 := own_none _ _ _, o2 := own_none _ _ _,
          a01 := fun b hb => by simp [Value.ownBlock] at hb, a02 := fun b hb => by simp [Value.ownBlock] at hb, a12 := fun b hb => by simp [Value.ownBlock] at hb,
          b := h'.b, hB := h.hB, hr := h.hr, ho := h.ho, ht := h.ht, hN := hs }
theorem number_1 (B Bo Bt : Nat) (st : St) (w : World) (h : DatIn w B Bo st) (hT : w.cell? ⟨Bt, 0, none⟩ = some (.func (.func 68) #[] #[.pointer (some ⟨B, 0, none⟩), .pointer (some ⟨Bo, 0, none⟩)])) :
    Calls Tryd.prog 69 #[.int .i64 1, .pointer (some ⟨Bt, 0, none⟩)] w (TakePost B Bo (nb 1 st).2 (.int .i64 (nb 1 st).1) w) := number_any 1 B Bo Bt st w h hT (by omega) (by omega)
theorem number_4 (B Bo Bt : Nat) (st : St) (w : World) (h : DatIn w B Bo st) (hT : w.cell? ⟨Bt, 0, none⟩ = some (.func (.func 68) #[] #[.pointer (some ⟨B, 0, none⟩), .pointer (some ⟨Bo, 0, none⟩)])) :
    Calls Tryd.prog 69 #[.int .i64 4, .pointer (some ⟨Bt, 0, none⟩)] w (TakePost B Bo (nb 4 st).2 (.int .i64 (nb 4 st).1) w) := number_any 4 B Bo Bt st w h hT (by omega) (by omega)
theorem take_12 (B Bo : Nat) (st : St) (w : World) (h : DatIn w B Bo st) :
    Calls Tryd.prog 68 #[.int .i64 12, .pointer (some ⟨B, 0, none⟩), .pointer (some ⟨Bo, 0, none⟩)] w (TakePost B Bo (tk 12 st).2 (.string (tk 12 st).1) w) := take_any 12 B Bo st w h
set_option maxHeartbeats 4000000 in
set_option maxRecDepth 100000 in
theorem parts_any (d : ByteArray) (w : World) (hz : d.size ≤ 1000000) : Calls Tryd.prog 54 #[.string d] w (PartsPost d w) := by
  obtain ⟨i0, hi0, hz00, hz01, hz02⟩ := info_parts info_int
  obtain ⟨i1, hi1, hz10, hz11, hz12⟩ := info_parts info_str
  have HT0 := Lib.hid (And.intro hi0 (And.intro hz00 (And.intro hz01 hz02)))
  have HT1 := Lib.hid (And.intro hi1 (And.intro hz10 (And.intro hz11 hz12)))
  have HT2 := HT0
  clear hi0 hz00 hz01 hz02 hi1 hz10 hz11 hz12
  have HP0 : Hid (PPre w ((((w.alloc (.cells #[.string d] 9)).alloc (.cells #[.slice none 0 0, .slice none 0 0, .slice none 0 0] 33)).alloc (.cells #[.bool true] 4)).alloc (.cells #[.func (.func 68) #[] #[.pointer (some ⟨w.heap.size, 0, none⟩), .pointer (some ⟨w.heap.size + 1 + 1, 0, none⟩)]] 121)) w.heap.size (w.heap.size + 1) (w.heap.size + 1 + 1) (w.heap.size + 1 + 1 + 1) (d, true)) := Lib.hid
    { d := ⟨by rw [World.cell?_alloc_lt _ _ _ (by simp; try omega), World.cell?_alloc_lt _ _ _ (by simp; try omega), World.cell?_alloc_lt _ _ _ (by simp; try omega), World.cell?_alloc_at _ _ _ _ (by simp)]; rfl, by rw [World.frozen?_alloc_old _ _ _ (by simp; try omega), World.frozen?_alloc_old _ _ _ (by simp; try omega), World.frozen?_alloc_old _ _ _ (by simp; try omega), World.frozen?_alloc_at _ _ _ _ (by simp)], by rw [World.cell?_alloc_lt _ _ _ (by simp; try omega), World.cell?_alloc_at _ _ _ _ (by simp)]; rfl, by rw [World.frozen?_alloc_old _ _ _ (by simp; try omega), World.frozen?_alloc_at _ _ _ _ (by simp)], by omega, hz⟩, t := by rw [World.cell?_alloc_at _ _ _ _ (by simp)]; rfl, r0 := by rw [World.cell?_alloc_lt _ _ _ (by simp; try omega), World.cell?_alloc_lt _ _ _ (by simp; try omega), World.cell?_alloc_at _ _ _ _ (by simp)]; rfl, r1 := by rw [World.cell?_alloc_lt _ _ _ (by simp; try omega), World.cell?_alloc_lt _ _ _ (by simp; try omega), World.cell?_alloc_at _ _ _ _ (by simp)]; rfl, r2 := by rw [World.cell?_alloc_lt _ _ _ (by simp; try omega), World.cell?_alloc_lt _ _ _ (by simp; try omega), World.cell?_alloc_at _ _ _ _ (by simp)]; rfl, rf := fun i hi => by rw [World.frozen?_alloc_old _ _ _ (by simp; try omega), World.frozen?_alloc_old _ _ _ (by simp; try omega), World.frozen?_alloc_at _ _ _ _ (by simp)], b := ((((Below.refl _ _).alloc (Nat.le_refl _) _).alloc (by simp) _).alloc (by simp; omega) _).alloc (by simp; omega) _, hB := rfl, hr := rfl, ho := rfl, ht := rfl }
  clear hz
  go_enter Tryd.func54, Tryd.ntmps54
  go_wp2_with fail
  refine (number_1 _ _ _ _ _ HP0.out.d HP0.out.t).mono ?_
  rintro e w1 ⟨rfl, hd1, ht1⟩
  have HP1 := Lib.hid (HP0.out.touch hd1 ht1)
  clear hd1 ht1 HP0
  obtain ⟨Bt, hBt⟩ : ∃ q, q = w.heap.size + 1 + 1 + 1 := ⟨_, rfl⟩
  rw [← hBt] at HP1 ⊢
  obtain ⟨Bo, hBo⟩ : ∃ q, q = w.heap.size + 1 + 1 := ⟨_, rfl⟩
  rw [← hBo] at HP1 ⊢
  obtain ⟨Br, hBr⟩ : ∃ q, q = w.heap.size + 1 := ⟨_, rfl⟩
  rw [← hBr] at HP1 ⊢
  obtain ⟨B, hB⟩ : ∃ q, q = w.heap.size := ⟨_, rfl⟩
  have HP1 : Hid (PPre w w1 B Br Bo Bt (nb 1 (d, true)).2) := Lib.hid (by rw [hB]; exact HP1.out)
  rw [← hB]
  clear hBt hBo hBr hB
  have hk := nb_bd 1 (d, true) (by omega)
  have hc := nb_bd 1 (nb 1 (d, true)).2 (by omega)
  have HKi : Hid (kindS d = nb 1 (d, true)) := Lib.hid rfl
  have HCo : Hid (countS d = nb 1 (nb 1 (d, true)).2) := Lib.hid rfl
  obtain ⟨S1, hS1⟩ : ∃ q, q = nb 1 (d, true) := ⟨_, rfl⟩
  rw [← hS1] at HP1 HKi HCo hk hc ⊢
  clear hS1
  obtain ⟨kI, T1⟩ := S1
  simp only at HP1 hk hc HCo ⊢
  go_wp2_with fail
  refine (number_1 _ _ _ _ _ HP1.out.d HP1.out.t).mono ?_
  rintro e w2 ⟨rfl, hd1, ht1⟩
  have HP2 := Lib.hid (HP1.out.touch hd1 ht1)
  clear hd1 ht1 HP1
  obtain ⟨S2, hS2⟩ : ∃ q, q = nb 1 T1 := ⟨_, rfl⟩
  rw [← hS2] at HP2 HCo hc ⊢
  clear hS2
  obtain ⟨cI, T2⟩ := S2
  simp only at HP2 hc ⊢
  have HI0 := Lib.hid (HP2.out.node)
  by_cases hbad : 1 < kI ∨ 7 < cI
  · have HPB : Hid (partsR d = ⟨[], [], [], false⟩) := Lib.hid (by unfold partsR; rw [HKi.out, HCo.out, if_pos hbad])
    have r0 := HP2.out.r0
    have r1 := HP2.out.r1
    have r2 := HP2.out.r2
    have f0 := HP2.out.rf 0 (by omega)
    have f1 := HP2.out.rf 1 (by omega)
    have f2 := HP2.out.rf 2 (by omega)
    have HR := Lib.hid (show w.heap.size ≤ Br by have := HI0.out.hB; have := HI0.out.hr; omega)
    have hBn2 : Br < w2.heap.size := by have := HI0.out.hN; have := HI0.out.hr; omega
    by_cases hk1 : 1 < kI
    · have hk2 : decide (1 < kI) = true := decide_eq_true hk1
      clear hbad
      have hBb := Lib.hid (HP2.out.b)
      go_wp2_with fail
      refine bodyPost_ret (v := .tuple #[.agg #[.slice none 0 0, .slice none 0 0, .slice none 0 0], .bool false]) (by simp [results, Tryd.results54, go_sem, r0, r1, r2, hBn2]) rfl ?_
      unfold PartsPost
      rw [HPB.out]
      exact ⟨none, 0, none, 0, none, 0, rfl, fun wz hz => ⟨ints_nil _ _ _, strs_nil _ _ _, ints_nil _ _ _, by simp⟩, (((hBb.out.setCell HR.out _).setCell HR.out _).setCell HR.out _).alloc (by have := hBb.out.size; simp [World.setCell]; omega) _⟩
    · have hk2 : decide (1 < kI) = false := decide_eq_false hk1
      have hc2 : decide (7 < cI) = true := decide_eq_true (by omega)
      clear hbad
      have hBb := Lib.hid (HP2.out.b)
      go_wp2_with fail
      refine bodyPost_ret (v := .tuple #[.agg #[.slice none 0 0, .slice none 0 0, .slice none 0 0], .bool false]) (by simp [results, Tryd.results54, go_sem, r0, r1, r2, hBn2]) rfl ?_
      unfold PartsPost
      rw [HPB.out]
      exact ⟨none, 0, none, 0, none, 0, rfl, fun wz hz => ⟨ints_nil _ _ _, strs_nil _ _ _, ints_nil _ _ _, by simp⟩, (((hBb.out.setCell HR.out _).setCell HR.out _).setCell HR.out _).alloc (by have := hBb.out.size; simp [World.setCell]; omega) _⟩
  · obtain ⟨kN, rfl⟩ : ∃ q : Nat, kI = (q : Int) := ⟨kI.toNat, by omega⟩
    obtain ⟨cN, rfl⟩ : ∃ q : Nat, cI = (q : Int) := ⟨cI.toNat, by omega⟩
    have hk1 : kN ≤ 1 := by omega
    have hc7 : cN ≤ 7 := by omega
    have hk2 : decide (1 < (kN : Int)) = false := decide_eq_false (by omega)
    have hc2 : decide (7 < (cN : Int)) = false := decide_eq_false (by omega)
    clear hbad hk hc
    go_wp2_with fail
    obtain ⟨w3, hw3⟩ : ∃ q, q = w2.alloc (.cells #[.slice none 0 0, .slice none 0 0, .slice none 0 0] 33) := ⟨_, rfl⟩
    rw [← hw3] at HI0 ⊢
    obtain ⟨Bn, hBn⟩ : ∃ q, q = w2.heap.size := ⟨_, rfl⟩
    rw [← hBn] at HI0 ⊢
    clear hw3 hBn HP2
    go_loopg [24] cN (fun gg si wr => ∃ (k : Nat) (v0 : Value), k ≤ cN ∧ cN - k ≤ gg ∧ si = .int .i64 k ∧ Hid (PIn w wr B Br Bo Bt Bn (runN 4 T2 k).2 (runN 4 T2 k).1 [] [] v0 (.slice none 0 0) (.slice none 0 0)))
    case atStart => exact ⟨0, _, by omega, by omega, rfl, HI0⟩
    case round =>
      obtain ⟨k, v0, hk, hg, rfl, HI⟩ := hrel
      by_cases hlt : k < cN
      · have hltz : (k : Int) < (cN : Int) := by omega
        have HSt : Hid (runN 4 T2 (k + 1) = ((runN 4 T2 k).1 ++ [(nb 4 (runN 4 T2 k).2).1], (nb 4 (runN 4 T2 k).2).2)) := Lib.hid rfl
        have hkl := runN_length 4 T2 k
        obtain ⟨R, hR⟩ : ∃ q, q = runN 4 T2 k := ⟨_, rfl⟩
        rw [← hR] at HI HSt hkl
        clear hR
        obtain ⟨ks, S⟩ := R
        simp only at HI HSt hkl
        have HNum : Hid (∀ w', DatIn w' B Bo S → w'.cell? ⟨Bt, 0, none⟩ = some (.func (.func 68) #[] #[.pointer (some ⟨B, 0, none⟩), .pointer (some ⟨Bo, 0, none⟩)]) → _) := Lib.hid (fun w' h h2 => number_4 B Bo Bt S w' h h2)
        obtain ⟨Y, hY⟩ : ∃ q, q = nb 4 S := ⟨_, rfl⟩
        rw [← hY] at HSt
        simp only [← hY] at HNum
        clear hY
        obtain ⟨r, S'⟩ := Y
        simp only at HSt HNum
        have hks7 : ks.length ≤ 7 := by omega
        clear hkl
        go_wp2_with fail
        refine wp_region_held_drew (S := (fun w' : World => w'.cell? ⟨Bt, 0, none⟩ = some (.func (.func 68) #[] #[.pointer (some ⟨B, 0, none⟩), .pointer (some ⟨Bo, 0, none⟩)]))) (by kernel_rfl) HI.out.t (fun hHeld => ?_)
        obtain ⟨wd, hwd⟩ : ∃ q, q = wr.drew := ⟨_, rfl⟩
        have HId := Lib.hid (HI.out.under (Below.drew (Below.refl _ _)))
        rw [← hwd] at HId hHeld ⊢
        clear hwd
        have cf := HId.out.n0
        refine wpAnyH_take (i := 0) (oi := { dst := some 26, op := Go.Op.fieldAddr 33 (Go.Operand.tmp 9) 0, type := 0, pos := "node.go:106", after := #[], guard := none }) (v := ?_) rfl (by kernel_rfl) (by kernel_rfl) (by kernel_rfl) (fun _ _ _ h => h) (Or.inl ⟨by rfl, ?_⟩) (by assumption) ?_
        rotate_left
        · intro w hSw; (try dsimp only at hSw); go_simp; (try with_reducible rfl)
        try simp only [Act.put, List.setIfInBounds_toArray, List.set_cons_zero, List.set_cons_succ]
        refine wpAnyH_take (i := 2) (oi := { dst := some 28, op := Go.Op.move (Go.Operand.tmp 6), type := 122, pos := "node.go:106", after := #[], guard := none }) (v := ?_) rfl (by kernel_rfl) (by kernel_rfl) (by kernel_rfl) (fun _ _ _ h => h) (Or.inl ⟨by rfl, ?_⟩) (by assumption) ?_
        rotate_left
        · intro w hSw; (try dsimp only at hSw); go_simp; (try with_reducible rfl)
        try simp only [Act.put, List.setIfInBounds_toArray, List.set_cons_zero, List.set_cons_succ]
        refine wpAnyH_ready (rs := [1, 3]) (by kernel_rfl) (by simp) ?_
        refine AllReadyH.cons (o := { dst := some 27, op := Go.Op.load 22 (Go.Operand.tmp 26), type := 22, pos := "node.go:106", after := #[{ on := 0, ground := Go.Ground.data }], guard := none }) rfl (fun K hK => ?_) ?_
        · skip
          go_simp
          refine hK.out _ _ (by assumption) (fun hHeld => ?_)
          clear hK K
          try simp only [Act.put, List.setIfInBounds_toArray, List.set_cons_zero, List.set_cons_succ]
          refine wpAnyH_ready (rs := [3]) (by kernel_rfl) (by simp) ?_
          refine AllReadyH.cons (o := { dst := some 29, op := Go.Op.call { callee := Go.Callee.value (Go.Operand.tmp 28), args := #[Go.Operand.const (Go.Value.int Go.IntKind.i64 4)], argTypes := #[3] }, type := 3, pos := "node.go:106", after := #[{ on := 2, ground := Go.Ground.data }], guard := none }) rfl (fun K hK => ?_) AllReadyH.nil
          go_simp
          refine (HNum.out _ HId.out.d hHeld).mono ?_
          rintro e w3 ⟨rfl, hd3, ht3⟩
          have HI3 := Lib.hid (HId.out.touch hd3 ht3)
          have cf3 := HI3.out.n0
          have hHeld3 := HI3.out.t
          clear hd3 ht3
          go_wp2_with fail
          refine hK.out _ _ hHeld3 (fun hHeld => ?_)
          clear hK K
          try simp only [Act.put, List.setIfInBounds_toArray, List.set_cons_zero, List.set_cons_succ]
          refine wpAnyH_ready (rs := [4]) (by kernel_rfl) (by simp) ?_
          refine AllReadyH.cons (o := { dst := some 30, op := Go.Op.buildSlice 22 1 #[(0, Go.Operand.tmp 29)], type := 22, pos := "node.go:106", after := #[{ on := 3, ground := Go.Ground.data }], guard := none }) rfl (fun K hK => ?_) AllReadyH.nil
          have HI4 := Lib.hid (HI3.out.under ((Below.refl _ _).alloc (Nat.le_refl _) (.cells #[.int .i64 r] 3)))
          have cf4 := HI4.out.n0
          have hHeld4 := HI4.out.t
          go_simp
          refine hK.out _ _ hHeld4 (fun hHeld => ?_)
          clear hK K
          try simp only [Act.put, List.setIfInBounds_toArray, List.set_cons_zero, List.set_cons_succ]
          refine wpAnyH_ready (rs := [5]) (by kernel_rfl) (by simp) ?_
          refine AllReadyH.cons (o := { dst := some 31, op := Go.Op.call { callee := Go.Callee.builtin Go.Builtin.append, args := #[Go.Operand.tmp 27, Go.Operand.tmp 30], argTypes := #[22, 22] }, type := 22, pos := "node.go:106", after := #[{ on := 1, ground := Go.Ground.data }, { on := 4, ground := Go.Ground.data }, { on := 3, ground := Go.Ground.chain }], guard := none }) rfl (fun K hK => ?_) AllReadyH.nil
          have hsz4 := HI4.out.size
          refine step_append_lies _ (by rfl) _ _ _ (by rfl) (Bn + 1) 3 i0 (.int .i64 0) 1 8 Tryd.underlying22 HT0.out.1 HT0.out.2.1 HT0.out.2.2.1 HT0.out.2.2.2 rfl (by omega) v0 ks.length (nums .i64 ks) (by rfl) HI4.out.o0 ⟨w3.heap.size, 0, none⟩ 1 1 [.int .i64 r] (by rfl) (by rfl) (World.news_of_block (cs := #[.int .i64 r]) (t := 3) (fr := (0, 0)) (heap_alloc_new w3 _)) (by simp [Value.oneCell']) (by omega) (by unfold maxLen; omega) (by omega) (by omega) (w3.heap.size + 1) (by simp) ?_
          intro gg cap w5 hown1 hgrow hat hlt5
          have HI6 := Lib.hid (HI4.out.app0 hgrow r gg cap (w3.heap.size + 1) hown1 hat (by simp) hlt5)
          have hHeld5 : w5.cell? ⟨Bt, 0, none⟩ = some (.func (.func 68) #[] #[.pointer (some ⟨B, 0, none⟩), .pointer (some ⟨Bo, 0, none⟩)]) := (World.cell?_of_block (a := ⟨Bt, 0, none⟩) (hgrow.block Bt (by have := HI4.out.ht; have := HI4.out.hN; omega) (fun e => by have := own_base HI4.out.o0 _ e.symm; have := HI4.out.ht; have := HI4.out.hN; omega))).trans hHeld4
          have cf5 := (World.cell?_of_block (a := ⟨Bn, 0, none⟩) (hgrow.block Bn (by omega) (fun e => by have := own_base HI4.out.o0 _ e.symm; omega))).trans cf4
          have ff5 : w5.frozen? ⟨Bn, 0, none⟩ = false := (World.frozen?_of_block (hgrow.block (Bn) (by omega) (fun e => by have := own_base HI4.out.o0 _ e.symm; omega))).trans (HI4.out.nf 0 (by omega))
          clear hown1 hgrow hat hlt5
          refine hK.out _ _ hHeld5 (fun hHeld => ?_)
          clear hK K
          try simp only [Act.put, List.setIfInBounds_toArray, List.set_cons_zero, List.set_cons_succ]
          refine wpAnyH_take (i := 6) (oi := { dst := some 32, op := Go.Op.fieldAddr 33 (Go.Operand.tmp 9) 0, type := 0, pos := "node.go:106", after := #[{ on := 0, ground := Go.Ground.phase }, { on := 1, ground := Go.Ground.phase }, { on := 2, ground := Go.Ground.phase }, { on := 3, ground := Go.Ground.phase }, { on := 4, ground := Go.Ground.phase }, { on := 5, ground := Go.Ground.phase }], guard := none }) (v := ?_) rfl (by kernel_rfl) (by kernel_rfl) (by kernel_rfl) (fun _ _ _ h => h) (Or.inl ⟨by rfl, ?_⟩) (by assumption) ?_
          rotate_left
          · intro w hSw; (try dsimp only at hSw); go_simp; (try with_reducible rfl)
          try simp only [Act.put, List.setIfInBounds_toArray, List.set_cons_zero, List.set_cons_succ]
          refine wpAnyH_ready (rs := [7]) (by kernel_rfl) (by simp) ?_
          refine AllReadyH.cons (o := { dst := none, op := Go.Op.store 22 (Go.Operand.tmp 32) (Go.Operand.tmp 31), type := 0, pos := "node.go:106", after := #[{ on := 6, ground := Go.Ground.data }, { on := 5, ground := Go.Ground.data }, { on := 5, ground := Go.Ground.chain }, { on := 0, ground := Go.Ground.phase }, { on := 1, ground := Go.Ground.phase }, { on := 2, ground := Go.Ground.phase }, { on := 3, ground := Go.Ground.phase }, { on := 4, ground := Go.Ground.phase }, { on := 5, ground := Go.Ground.phase }], guard := none }) rfl (fun K hK => ?_) AllReadyH.nil
          have hHeld6 := HI6.out.t
          go_simp
          refine hK.out _ _ hHeld6 (fun hHeld => ?_)
          clear hK K
          try simp only [Act.put, List.setIfInBounds_toArray, List.set_cons_zero, List.set_cons_succ]
          refine wpAnyH_done (by kernel_rfl) ?_ _
          go_wp2_with fail
          go_roundg (cN - (k + 1))
          case measure => omega
          case rel => exact ⟨k + 1, _, by omega, by omega, by go_num, by rw [HSt.out]; exact HI6⟩
        refine AllReadyH.cons (o := { dst := some 29, op := Go.Op.call { callee := Go.Callee.value (Go.Operand.tmp 28), args := #[Go.Operand.const (Go.Value.int Go.IntKind.i64 4)], argTypes := #[3] }, type := 3, pos := "node.go:106", after := #[{ on := 2, ground := Go.Ground.data }], guard := none }) rfl (fun K hK => ?_) AllReadyH.nil
        go_simp
        refine (HNum.out _ HId.out.d hHeld).mono ?_
        rintro e w3 ⟨rfl, hd3, ht3⟩
        have HI3 := Lib.hid (HId.out.touch hd3 ht3)
        have cf3 := HI3.out.n0
        have hHeld3 := HI3.out.t
        clear hd3 ht3
        go_wp2_with fail
        refine hK.out _ _ hHeld3 (fun hHeld => ?_)
        clear hK K
        try simp only [Act.put, List.setIfInBounds_toArray, List.set_cons_zero, List.set_cons_succ]
        refine wpAnyH_ready (rs := [1, 4]) (by kernel_rfl) (by simp) ?_
        refine AllReadyH.cons (o := { dst := some 27, op := Go.Op.load 22 (Go.Operand.tmp 26), type := 22, pos := "node.go:106", after := #[{ on := 0, ground := Go.Ground.data }], guard := none }) rfl (fun K hK => ?_) ?_
        · skip
          go_simp
          refine hK.out _ _ (by assumption) (fun hHeld => ?_)
          clear hK K
          try simp only [Act.put, List.setIfInBounds_toArray, List.set_cons_zero, List.set_cons_succ]
          refine wpAnyH_ready (rs := [4]) (by kernel_rfl) (by simp) ?_
          refine AllReadyH.cons (o := { dst := some 30, op := Go.Op.buildSlice 22 1 #[(0, Go.Operand.tmp 29)], type := 22, pos := "node.go:106", after := #[{ on := 3, ground := Go.Ground.data }], guard := none }) rfl (fun K hK => ?_) AllReadyH.nil
          have HI4 := Lib.hid (HI3.out.under ((Below.refl _ _).alloc (Nat.le_refl _) (.cells #[.int .i64 r] 3)))
          have cf4 := HI4.out.n0
          have hHeld4 := HI4.out.t
          go_simp
          refine hK.out _ _ hHeld4 (fun hHeld => ?_)
          clear hK K
          try simp only [Act.put, List.setIfInBounds_toArray, List.set_cons_zero, List.set_cons_succ]
          refine wpAnyH_ready (rs := [5]) (by kernel_rfl) (by simp) ?_
          refine AllReadyH.cons (o := { dst := some 31, op := Go.Op.call { callee := Go.Callee.builtin Go.Builtin.append, args := #[Go.Operand.tmp 27, Go.Operand.tmp 30], argTypes := #[22, 22] }, type := 22, pos := "node.go:106", after := #[{ on := 1, ground := Go.Ground.data }, { on := 4, ground := Go.Ground.data }, { on := 3, ground := Go.Ground.chain }], guard := none }) rfl (fun K hK => ?_) AllReadyH.nil
          have hsz4 := HI4.out.size
          refine step_append_lies _ (by rfl) _ _ _ (by rfl) (Bn + 1) 3 i0 (.int .i64 0) 1 8 Tryd.underlying22 HT0.out.1 HT0.out.2.1 HT0.out.2.2.1 HT0.out.2.2.2 rfl (by omega) v0 ks.length (nums .i64 ks) (by rfl) HI4.out.o0 ⟨w3.heap.size, 0, none⟩ 1 1 [.int .i64 r] (by rfl) (by rfl) (World.news_of_block (cs := #[.int .i64 r]) (t := 3) (fr := (0, 0)) (heap_alloc_new w3 _)) (by simp [Value.oneCell']) (by omega) (by unfold maxLen; omega) (by omega) (by omega) (w3.heap.size + 1) (by simp) ?_
          intro gg cap w5 hown1 hgrow hat hlt5
          have HI6 := Lib.hid (HI4.out.app0 hgrow r gg cap (w3.heap.size + 1) hown1 hat (by simp) hlt5)
          have hHeld5 : w5.cell? ⟨Bt, 0, none⟩ = some (.func (.func 68) #[] #[.pointer (some ⟨B, 0, none⟩), .pointer (some ⟨Bo, 0, none⟩)]) := (World.cell?_of_block (a := ⟨Bt, 0, none⟩) (hgrow.block Bt (by have := HI4.out.ht; have := HI4.out.hN; omega) (fun e => by have := own_base HI4.out.o0 _ e.symm; have := HI4.out.ht; have := HI4.out.hN; omega))).trans hHeld4
          have cf5 := (World.cell?_of_block (a := ⟨Bn, 0, none⟩) (hgrow.block Bn (by omega) (fun e => by have := own_base HI4.out.o0 _ e.symm; omega))).trans cf4
          have ff5 : w5.frozen? ⟨Bn, 0, none⟩ = false := (World.frozen?_of_block (hgrow.block (Bn) (by omega) (fun e => by have := own_base HI4.out.o0 _ e.symm; omega))).trans (HI4.out.nf 0 (by omega))
          clear hown1 hgrow hat hlt5
          refine hK.out _ _ hHeld5 (fun hHeld => ?_)
          clear hK K
          try simp only [Act.put, List.setIfInBounds_toArray, List.set_cons_zero, List.set_cons_succ]
          refine wpAnyH_take (i := 6) (oi := { dst := some 32, op := Go.Op.fieldAddr 33 (Go.Operand.tmp 9) 0, type := 0, pos := "node.go:106", after := #[{ on := 0, ground := Go.Ground.phase }, { on := 1, ground := Go.Ground.phase }, { on := 2, ground := Go.Ground.phase }, { on := 3, ground := Go.Ground.phase }, { on := 4, ground := Go.Ground.phase }, { on := 5, ground := Go.Ground.phase }], guard := none }) (v := ?_) rfl (by kernel_rfl) (by kernel_rfl) (by kernel_rfl) (fun _ _ _ h => h) (Or.inl ⟨by rfl, ?_⟩) (by assumption) ?_
          rotate_left
          · intro w hSw; (try dsimp only at hSw); go_simp; (try with_reducible rfl)
          try simp only [Act.put, List.setIfInBounds_toArray, List.set_cons_zero, List.set_cons_succ]
          refine wpAnyH_ready (rs := [7]) (by kernel_rfl) (by simp) ?_
          refine AllReadyH.cons (o := { dst := none, op := Go.Op.store 22 (Go.Operand.tmp 32) (Go.Operand.tmp 31), type := 0, pos := "node.go:106", after := #[{ on := 6, ground := Go.Ground.data }, { on := 5, ground := Go.Ground.data }, { on := 5, ground := Go.Ground.chain }, { on := 0, ground := Go.Ground.phase }, { on := 1, ground := Go.Ground.phase }, { on := 2, ground := Go.Ground.phase }, { on := 3, ground := Go.Ground.phase }, { on := 4, ground := Go.Ground.phase }, { on := 5, ground := Go.Ground.phase }], guard := none }) rfl (fun K hK => ?_) AllReadyH.nil
          have hHeld6 := HI6.out.t
          go_simp
          refine hK.out _ _ hHeld6 (fun hHeld => ?_)
          clear hK K
          try simp only [Act.put, List.setIfInBounds_toArray, List.set_cons_zero, List.set_cons_succ]
          refine wpAnyH_done (by kernel_rfl) ?_ _
          go_wp2_with fail
          go_roundg (cN - (k + 1))
          case measure => omega
          case rel => exact ⟨k + 1, _, by omega, by omega, by go_num, by rw [HSt.out]; exact HI6⟩
        refine AllReadyH.cons (o := { dst := some 30, op := Go.Op.buildSlice 22 1 #[(0, Go.Operand.tmp 29)], type := 22, pos := "node.go:106", after := #[{ on := 3, ground := Go.Ground.data }], guard := none }) rfl (fun K hK => ?_) AllReadyH.nil
        have HI4 := Lib.hid (HI3.out.under ((Below.refl _ _).alloc (Nat.le_refl _) (.cells #[.int .i64 r] 3)))
        have cf4 := HI4.out.n0
        have hHeld4 := HI4.out.t
        go_simp
        refine hK.out _ _ hHeld4 (fun hHeld => ?_)
        clear hK K
        try simp only [Act.put, List.setIfInBounds_toArray, List.set_cons_zero, List.set_cons_succ]
        refine wpAnyH_ready (rs := [1]) (by kernel_rfl) (by simp) ?_
        refine AllReadyH.cons (o := { dst := some 27, op := Go.Op.load 22 (Go.Operand.tmp 26), type := 22, pos := "node.go:106", after := #[{ on := 0, ground := Go.Ground.data }], guard := none }) rfl (fun K hK => ?_) AllReadyH.nil
        go_simp
        refine hK.out _ _ (by assumption) (fun hHeld => ?_)
        clear hK K
        try simp only [Act.put, List.setIfInBounds_toArray, List.set_cons_zero, List.set_cons_succ]
        refine wpAnyH_ready (rs := [5]) (by kernel_rfl) (by simp) ?_
        refine AllReadyH.cons (o := { dst := some 31, op := Go.Op.call { callee := Go.Callee.builtin Go.Builtin.append, args := #[Go.Operand.tmp 27, Go.Operand.tmp 30], argTypes := #[22, 22] }, type := 22, pos := "node.go:106", after := #[{ on := 1, ground := Go.Ground.data }, { on := 4, ground := Go.Ground.data }, { on := 3, ground := Go.Ground.chain }], guard := none }) rfl (fun K hK => ?_) AllReadyH.nil
        have hsz4 := HI4.out.size
        refine step_append_lies _ (by rfl) _ _ _ (by rfl) (Bn + 1) 3 i0 (.int .i64 0) 1 8 Tryd.underlying22 HT0.out.1 HT0.out.2.1 HT0.out.2.2.1 HT0.out.2.2.2 rfl (by omega) v0 ks.length (nums .i64 ks) (by rfl) HI4.out.o0 ⟨w3.heap.size, 0, none⟩ 1 1 [.int .i64 r] (by rfl) (by rfl) (World.news_of_block (cs := #[.int .i64 r]) (t := 3) (fr := (0, 0)) (heap_alloc_new w3 _)) (by simp [Value.oneCell']) (by omega) (by unfold maxLen; omega) (by omega) (by omega) (w3.heap.size + 1) (by simp) ?_
        intro gg cap w5 hown1 hgrow hat hlt5
        have HI6 := Lib.hid (HI4.out.app0 hgrow r gg cap (w3.heap.size + 1) hown1 hat (by simp) hlt5)
        have hHeld5 : w5.cell? ⟨Bt, 0, none⟩ = some (.func (.func 68) #[] #[.pointer (some ⟨B, 0, none⟩), .pointer (some ⟨Bo, 0, none⟩)]) := (World.cell?_of_block (a := ⟨Bt, 0, none⟩) (hgrow.block Bt (by have := HI4.out.ht; have := HI4.out.hN; omega) (fun e => by have := own_base HI4.out.o0 _ e.symm; have := HI4.out.ht; have := HI4.out.hN; omega))).trans hHeld4
        have cf5 := (World.cell?_of_block (a := ⟨Bn, 0, none⟩) (hgrow.block Bn (by omega) (fun e => by have := own_base HI4.out.o0 _ e.symm; omega))).trans cf4
        have ff5 : w5.frozen? ⟨Bn, 0, none⟩ = false := (World.frozen?_of_block (hgrow.block (Bn) (by omega) (fun e => by have := own_base HI4.out.o0 _ e.symm; omega))).trans (HI4.out.nf 0 (by omega))
        clear hown1 hgrow hat hlt5
        refine hK.out _ _ hHeld5 (fun hHeld => ?_)
        clear hK K
        try simp only [Act.put, List.setIfInBounds_toArray, List.set_cons_zero, List.set_cons_succ]
        refine wpAnyH_take (i := 6) (oi := { dst := some 32, op := Go.Op.fieldAddr 33 (Go.Operand.tmp 9) 0, type := 0, pos := "node.go:106", after := #[{ on := 0, ground := Go.Ground.phase }, { on := 1, ground := Go.Ground.phase }, { on := 2, ground := Go.Ground.phase }, { on := 3, ground := Go.Ground.phase }, { on := 4, ground := Go.Ground.phase }, { on := 5, ground := Go.Ground.phase }], guard := none }) (v := ?_) rfl (by kernel_rfl) (by kernel_rfl) (by kernel_rfl) (fun _ _ _ h => h) (Or.inl ⟨by rfl, ?_⟩) (by assumption) ?_
        rotate_left
        · intro w hSw; (try dsimp only at hSw); go_simp; (try with_reducible rfl)
        try simp only [Act.put, List.setIfInBounds_toArray, List.set_cons_zero, List.set_cons_succ]
        refine wpAnyH_ready (rs := [7]) (by kernel_rfl) (by simp) ?_
        refine AllReadyH.cons (o := { dst := none, op := Go.Op.store 22 (Go.Operand.tmp 32) (Go.Operand.tmp 31), type := 0, pos := "node.go:106", after := #[{ on := 6, ground := Go.Ground.data }, { on := 5, ground := Go.Ground.data }, { on := 5, ground := Go.Ground.chain }, { on := 0, ground := Go.Ground.phase }, { on := 1, ground := Go.Ground.phase }, { on := 2, ground := Go.Ground.phase }, { on := 3, ground := Go.Ground.phase }, { on := 4, ground := Go.Ground.phase }, { on := 5, ground := Go.Ground.phase }], guard := none }) rfl (fun K hK => ?_) AllReadyH.nil
        have hHeld6 := HI6.out.t
        go_simp
        refine hK.out _ _ hHeld6 (fun hHeld => ?_)
        clear hK K
        try simp only [Act.put, List.setIfInBounds_toArray, List.set_cons_zero, List.set_cons_succ]
        refine wpAnyH_done (by kernel_rfl) ?_ _
        go_wp2_with fail
        go_roundg (cN - (k + 1))
        case measure => omega
        case rel => exact ⟨k + 1, _, by omega, by omega, by go_num, by rw [HSt.out]; exact HI6⟩
      · have hltb : ¬ (k : Int) < (cN : Int) := by omega
        have hkc : k = cN := by omega
        subst hkc
        have HKy : Hid (keysP d = runN 4 T2 k) := Lib.hid (by unfold keysP; rw [HCo.out]; show runN 4 T2 ((k : Int)).toNat = _; rw [Int.toNat_natCast])
        have hkl := runN_length 4 T2 k
        have HBd := Lib.hid (runN_bd 4 T2 (by omega) k)
        obtain ⟨R, hR⟩ : ∃ q, q = runN 4 T2 k := ⟨_, rfl⟩
        rw [← hR] at HI HKy hkl HBd
        clear hR
        obtain ⟨ks, S⟩ := R
        simp only at HI HKy hkl HBd
        have hks7 : ks.length ≤ 7 := by omega
        clear hkl hltb hlt hg hk
        rcases (show kN = 0 ∨ kN = 1 by omega) with rfl | rfl
        · go_wp2_with fail
          go_loopg [38] k (fun gg si wr => ∃ (j : Nat) (v1 : Value), j ≤ k ∧ k - j ≤ gg ∧ si = .int .i64 j ∧ Hid (PIn w wr B Br Bo Bt Bn (runV 12 S j).2 ks (runV 12 S j).1 [] v0 v1 (.slice none 0 0)))
          case atStart => exact ⟨0, _, by omega, by omega, rfl, HI⟩
          case round =>
            obtain ⟨j, v1, hj, hg, rfl, HI⟩ := hrel
            by_cases hlt : j < k
            · have hltz : (j : Int) < (k : Int) := by omega
              have HSt : Hid (runV 12 S (j + 1) = ((runV 12 S j).1 ++ [(tk 12 (runV 12 S j).2).1], (tk 12 (runV 12 S j).2).2)) := Lib.hid rfl
              have hkl := runV_length 12 S j
              obtain ⟨R, hR⟩ : ∃ q, q = runV 12 S j := ⟨_, rfl⟩
              rw [← hR] at HI HSt hkl
              clear hR
              obtain ⟨vs, S3⟩ := R
              simp only at HI HSt hkl
              have HNum : Hid (∀ w', DatIn w' B Bo S3 → w'.cell? ⟨Bt, 0, none⟩ = some (.func (.func 68) #[] #[.pointer (some ⟨B, 0, none⟩), .pointer (some ⟨Bo, 0, none⟩)]) → _) := Lib.hid (fun w' h h2 => take_12 B Bo S3 w' h)
              obtain ⟨Y, hY⟩ : ∃ q, q = tk 12 S3 := ⟨_, rfl⟩
              rw [← hY] at HSt
              simp only [← hY] at HNum
              clear hY
              obtain ⟨r, S'⟩ := Y
              simp only at HSt HNum
              have hl8 : vs.length ≤ 8 := by omega
              clear hkl
              go_wp2_with fail
              refine wp_region_held_drew (S := (fun w' : World => w'.cell? ⟨Bt, 0, none⟩ = some (.func (.func 68) #[] #[.pointer (some ⟨B, 0, none⟩), .pointer (some ⟨Bo, 0, none⟩)]))) (by kernel_rfl) HI.out.t (fun hHeld => ?_)
              obtain ⟨wd, hwd⟩ : ∃ q, q = wr.drew := ⟨_, rfl⟩
              have HId := Lib.hid (HI.out.under (Below.drew (Below.refl _ _)))
              rw [← hwd] at HId hHeld ⊢
              clear hwd
              have cf := HId.out.n1
              refine wpAnyH_take (i := 0) (oi := { dst := some 40, op := Go.Op.fieldAddr 33 (Go.Operand.tmp 9) 1, type := 0, pos := "node.go:109", after := #[], guard := none }) (v := ?_) rfl (by kernel_rfl) (by kernel_rfl) (by kernel_rfl) (fun _ _ _ h => h) (Or.inl ⟨by rfl, ?_⟩) (by assumption) ?_
              rotate_left
              · intro w hSw; (try dsimp only at hSw); go_simp; (try with_reducible rfl)
              try simp only [Act.put, List.setIfInBounds_toArray, List.set_cons_zero, List.set_cons_succ]
              refine wpAnyH_take (i := 2) (oi := { dst := some 42, op := Go.Op.load 121 (Go.Operand.tmp 5), type := 121, pos := "node.go:109", after := #[], guard := none }) (v := ?_) rfl (by kernel_rfl) (by kernel_rfl) (by kernel_rfl) (fun _ _ _ h => h) (Or.inl ⟨by rfl, ?_⟩) (by assumption) ?_
              rotate_left
              · intro w hSw; (try dsimp only at hSw); go_simp; (try with_reducible rfl)
              try simp only [Act.put, List.setIfInBounds_toArray, List.set_cons_zero, List.set_cons_succ]
              refine wpAnyH_ready (rs := [1, 3]) (by kernel_rfl) (by simp) ?_
              refine AllReadyH.cons (o := { dst := some 41, op := Go.Op.load 23 (Go.Operand.tmp 40), type := 23, pos := "node.go:109", after := #[{ on := 0, ground := Go.Ground.data }], guard := none }) rfl (fun K hK => ?_) ?_
              · skip
                go_simp
                refine hK.out _ _ (by assumption) (fun hHeld => ?_)
                clear hK K
                try simp only [Act.put, List.setIfInBounds_toArray, List.set_cons_zero, List.set_cons_succ]
                refine wpAnyH_ready (rs := [3]) (by kernel_rfl) (by simp) ?_
                refine AllReadyH.cons (o := { dst := some 43, op := Go.Op.call { callee := Go.Callee.value (Go.Operand.tmp 42), args := #[Go.Operand.const (Go.Value.int Go.IntKind.i64 12)], argTypes := #[3] }, type := 9, pos := "node.go:109", after := #[{ on := 2, ground := Go.Ground.data }], guard := none }) rfl (fun K hK => ?_) AllReadyH.nil
                go_simp
                refine (HNum.out _ HId.out.d hHeld).mono ?_
                rintro e w3 ⟨rfl, hd3, ht3⟩
                have HI3 := Lib.hid (HId.out.touch hd3 ht3)
                have cf3 := HI3.out.n1
                have hHeld3 := HI3.out.t
                clear hd3 ht3
                go_wp2_with fail
                refine hK.out _ _ hHeld3 (fun hHeld => ?_)
                clear hK K
                try simp only [Act.put, List.setIfInBounds_toArray, List.set_cons_zero, List.set_cons_succ]
                refine wpAnyH_ready (rs := [4]) (by kernel_rfl) (by simp) ?_
                refine AllReadyH.cons (o := { dst := some 44, op := Go.Op.buildSlice 23 1 #[(0, Go.Operand.tmp 43)], type := 23, pos := "node.go:109", after := #[{ on := 3, ground := Go.Ground.data }], guard := none }) rfl (fun K hK => ?_) AllReadyH.nil
                have HI4 := Lib.hid (HI3.out.under ((Below.refl _ _).alloc (Nat.le_refl _) (.cells #[.string r] 9)))
                have cf4 := HI4.out.n1
                have hHeld4 := HI4.out.t
                go_simp
                refine hK.out _ _ hHeld4 (fun hHeld => ?_)
                clear hK K
                try simp only [Act.put, List.setIfInBounds_toArray, List.set_cons_zero, List.set_cons_succ]
                refine wpAnyH_ready (rs := [5]) (by kernel_rfl) (by simp) ?_
                refine AllReadyH.cons (o := { dst := some 45, op := Go.Op.call { callee := Go.Callee.builtin Go.Builtin.append, args := #[Go.Operand.tmp 41, Go.Operand.tmp 44], argTypes := #[23, 23] }, type := 23, pos := "node.go:109", after := #[{ on := 1, ground := Go.Ground.data }, { on := 4, ground := Go.Ground.data }, { on := 3, ground := Go.Ground.chain }], guard := none }) rfl (fun K hK => ?_) AllReadyH.nil
                have hsz4 := HI4.out.size
                refine step_append_lies _ (by rfl) _ _ _ (by rfl) (Bn + 1) 9 i1 (.string ⟨#[]⟩) 1 16 Tryd.underlying23 HT1.out.1 HT1.out.2.1 HT1.out.2.2.1 HT1.out.2.2.2 rfl (by omega) v1 vs.length (vs.map Value.string) (by rfl) HI4.out.o1 ⟨w3.heap.size, 0, none⟩ 1 1 [.string r] (by rfl) (by rfl) (World.news_of_block (cs := #[.string r]) (t := 9) (fr := (0, 0)) (heap_alloc_new w3 _)) (by simp [Value.oneCell']) (by omega) (by unfold maxLen; omega) (by omega) (by omega) (w3.heap.size + 1) (by simp) ?_
                intro gg cap w5 hown1 hgrow hat hlt5
                have HI6 := Lib.hid (HI4.out.app1 hgrow r gg cap (w3.heap.size + 1) hown1 hat (by simp) hlt5)
                have hHeld5 : w5.cell? ⟨Bt, 0, none⟩ = some (.func (.func 68) #[] #[.pointer (some ⟨B, 0, none⟩), .pointer (some ⟨Bo, 0, none⟩)]) := (World.cell?_of_block (a := ⟨Bt, 0, none⟩) (hgrow.block Bt (by have := HI4.out.ht; have := HI4.out.hN; omega) (fun e => by have := own_base HI4.out.o1 _ e.symm; have := HI4.out.ht; have := HI4.out.hN; omega))).trans hHeld4
                have cf5 := (World.cell?_of_block (a := ⟨Bn, 1, none⟩) (hgrow.block Bn (by omega) (fun e => by have := own_base HI4.out.o1 _ e.symm; omega))).trans cf4
                have ff5 : w5.frozen? ⟨Bn, 1, none⟩ = false := (World.frozen?_of_block (hgrow.block (Bn) (by omega) (fun e => by have := own_base HI4.out.o1 _ e.symm; omega))).trans (HI4.out.nf 1 (by omega))
                clear hown1 hgrow hat hlt5
                refine hK.out _ _ hHeld5 (fun hHeld => ?_)
                clear hK K
                try simp only [Act.put, List.setIfInBounds_toArray, List.set_cons_zero, List.set_cons_succ]
                refine wpAnyH_take (i := 6) (oi := { dst := some 46, op := Go.Op.fieldAddr 33 (Go.Operand.tmp 9) 1, type := 0, pos := "node.go:109", after := #[{ on := 0, ground := Go.Ground.phase }, { on := 1, ground := Go.Ground.phase }, { on := 2, ground := Go.Ground.phase }, { on := 3, ground := Go.Ground.phase }, { on := 4, ground := Go.Ground.phase }, { on := 5, ground := Go.Ground.phase }], guard := none }) (v := ?_) rfl (by kernel_rfl) (by kernel_rfl) (by kernel_rfl) (fun _ _ _ h => h) (Or.inl ⟨by rfl, ?_⟩) (by assumption) ?_
                rotate_left
                · intro w hSw; (try dsimp only at hSw); go_simp; (try with_reducible rfl)
                try simp only [Act.put, List.setIfInBounds_toArray, List.set_cons_zero, List.set_cons_succ]
                refine wpAnyH_ready (rs := [7]) (by kernel_rfl) (by simp) ?_
                refine AllReadyH.cons (o := { dst := none, op := Go.Op.store 23 (Go.Operand.tmp 46) (Go.Operand.tmp 45), type := 0, pos := "node.go:109", after := #[{ on := 6, ground := Go.Ground.data }, { on := 5, ground := Go.Ground.data }, { on := 5, ground := Go.Ground.chain }, { on := 0, ground := Go.Ground.phase }, { on := 1, ground := Go.Ground.phase }, { on := 2, ground := Go.Ground.phase }, { on := 3, ground := Go.Ground.phase }, { on := 4, ground := Go.Ground.phase }, { on := 5, ground := Go.Ground.phase }], guard := none }) rfl (fun K hK => ?_) AllReadyH.nil
                have hHeld6 := HI6.out.t
                go_simp
                refine hK.out _ _ hHeld6 (fun hHeld => ?_)
                clear hK K
                try simp only [Act.put, List.setIfInBounds_toArray, List.set_cons_zero, List.set_cons_succ]
                refine wpAnyH_done (by kernel_rfl) ?_ _
                go_wp2_with fail
                go_roundg (k - (j + 1))
                case measure => omega
                case rel => exact ⟨j + 1, _, by omega, by omega, by go_num, by rw [HSt.out]; exact HI6⟩
              refine AllReadyH.cons (o := { dst := some 43, op := Go.Op.call { callee := Go.Callee.value (Go.Operand.tmp 42), args := #[Go.Operand.const (Go.Value.int Go.IntKind.i64 12)], argTypes := #[3] }, type := 9, pos := "node.go:109", after := #[{ on := 2, ground := Go.Ground.data }], guard := none }) rfl (fun K hK => ?_) AllReadyH.nil
              go_simp
              refine (HNum.out _ HId.out.d hHeld).mono ?_
              rintro e w3 ⟨rfl, hd3, ht3⟩
              have HI3 := Lib.hid (HId.out.touch hd3 ht3)
              have cf3 := HI3.out.n1
              have hHeld3 := HI3.out.t
              clear hd3 ht3
              go_wp2_with fail
              refine hK.out _ _ hHeld3 (fun hHeld => ?_)
              clear hK K
              try simp only [Act.put, List.setIfInBounds_toArray, List.set_cons_zero, List.set_cons_succ]
              refine wpAnyH_ready (rs := [1, 4]) (by kernel_rfl) (by simp) ?_
              refine AllReadyH.cons (o := { dst := some 41, op := Go.Op.load 23 (Go.Operand.tmp 40), type := 23, pos := "node.go:109", after := #[{ on := 0, ground := Go.Ground.data }], guard := none }) rfl (fun K hK => ?_) ?_
              · skip
                go_simp
                refine hK.out _ _ (by assumption) (fun hHeld => ?_)
                clear hK K
                try simp only [Act.put, List.setIfInBounds_toArray, List.set_cons_zero, List.set_cons_succ]
                refine wpAnyH_ready (rs := [4]) (by kernel_rfl) (by simp) ?_
                refine AllReadyH.cons (o := { dst := some 44, op := Go.Op.buildSlice 23 1 #[(0, Go.Operand.tmp 43)], type := 23, pos := "node.go:109", after := #[{ on := 3, ground := Go.Ground.data }], guard := none }) rfl (fun K hK => ?_) AllReadyH.nil
                have HI4 := Lib.hid (HI3.out.under ((Below.refl _ _).alloc (Nat.le_refl _) (.cells #[.string r] 9)))
                have cf4 := HI4.out.n1
                have hHeld4 := HI4.out.t
                go_simp
                refine hK.out _ _ hHeld4 (fun hHeld => ?_)
                clear hK K
                try simp only [Act.put, List.setIfInBounds_toArray, List.set_cons_zero, List.set_cons_succ]
                refine wpAnyH_ready (rs := [5]) (by kernel_rfl) (by simp) ?_
                refine AllReadyH.cons (o := { dst := some 45, op := Go.Op.call { callee := Go.Callee.builtin Go.Builtin.append, args := #[Go.Operand.tmp 41, Go.Operand.tmp 44], argTypes := #[23, 23] }, type := 23, pos := "node.go:109", after := #[{ on := 1, ground := Go.Ground.data }, { on := 4, ground := Go.Ground.data }, { on := 3, ground := Go.Ground.chain }], guard := none }) rfl (fun K hK => ?_) AllReadyH.nil
                have hsz4 := HI4.out.size
                refine step_append_lies _ (by rfl) _ _ _ (by rfl) (Bn + 1) 9 i1 (.string ⟨#[]⟩) 1 16 Tryd.underlying23 HT1.out.1 HT1.out.2.1 HT1.out.2.2.1 HT1.out.2.2.2 rfl (by omega) v1 vs.length (vs.map Value.string) (by rfl) HI4.out.o1 ⟨w3.heap.size, 0, none⟩ 1 1 [.string r] (by rfl) (by rfl) (World.news_of_block (cs := #[.string r]) (t := 9) (fr := (0, 0)) (heap_alloc_new w3 _)) (by simp [Value.oneCell']) (by omega) (by unfold maxLen; omega) (by omega) (by omega) (w3.heap.size + 1) (by simp) ?_
                intro gg cap w5 hown1 hgrow hat hlt5
                have HI6 := Lib.hid (HI4.out.app1 hgrow r gg cap (w3.heap.size + 1) hown1 hat (by simp) hlt5)
                have hHeld5 : w5.cell? ⟨Bt, 0, none⟩ = some (.func (.func 68) #[] #[.pointer (some ⟨B, 0, none⟩), .pointer (some ⟨Bo, 0, none⟩)]) := (World.cell?_of_block (a := ⟨Bt, 0, none⟩) (hgrow.block Bt (by have := HI4.out.ht; have := HI4.out.hN; omega) (fun e => by have := own_base HI4.out.o1 _ e.symm; have := HI4.out.ht; have := HI4.out.hN; omega))).trans hHeld4
                have cf5 := (World.cell?_of_block (a := ⟨Bn, 1, none⟩) (hgrow.block Bn (by omega) (fun e => by have := own_base HI4.out.o1 _ e.symm; omega))).trans cf4
                have ff5 : w5.frozen? ⟨Bn, 1, none⟩ = false := (World.frozen?_of_block (hgrow.block (Bn) (by omega) (fun e => by have := own_base HI4.out.o1 _ e.symm; omega))).trans (HI4.out.nf 1 (by omega))
                clear hown1 hgrow hat hlt5
                refine hK.out _ _ hHeld5 (fun hHeld => ?_)
                clear hK K
                try simp only [Act.put, List.setIfInBounds_toArray, List.set_cons_zero, List.set_cons_succ]
                refine wpAnyH_take (i := 6) (oi := { dst := some 46, op := Go.Op.fieldAddr 33 (Go.Operand.tmp 9) 1, type := 0, pos := "node.go:109", after := #[{ on := 0, ground := Go.Ground.phase }, { on := 1, ground := Go.Ground.phase }, { on := 2, ground := Go.Ground.phase }, { on := 3, ground := Go.Ground.phase }, { on := 4, ground := Go.Ground.phase }, { on := 5, ground := Go.Ground.phase }], guard := none }) (v := ?_) rfl (by kernel_rfl) (by kernel_rfl) (by kernel_rfl) (fun _ _ _ h => h) (Or.inl ⟨by rfl, ?_⟩) (by assumption) ?_
                rotate_left
                · intro w hSw; (try dsimp only at hSw); go_simp; (try with_reducible rfl)
                try simp only [Act.put, List.setIfInBounds_toArray, List.set_cons_zero, List.set_cons_succ]
                refine wpAnyH_ready (rs := [7]) (by kernel_rfl) (by simp) ?_
                refine AllReadyH.cons (o := { dst := none, op := Go.Op.store 23 (Go.Operand.tmp 46) (Go.Operand.tmp 45), type := 0, pos := "node.go:109", after := #[{ on := 6, ground := Go.Ground.data }, { on := 5, ground := Go.Ground.data }, { on := 5, ground := Go.Ground.chain }, { on := 0, ground := Go.Ground.phase }, { on := 1, ground := Go.Ground.phase }, { on := 2, ground := Go.Ground.phase }, { on := 3, ground := Go.Ground.phase }, { on := 4, ground := Go.Ground.phase }, { on := 5, ground := Go.Ground.phase }], guard := none }) rfl (fun K hK => ?_) AllReadyH.nil
                have hHeld6 := HI6.out.t
                go_simp
                refine hK.out _ _ hHeld6 (fun hHeld => ?_)
                clear hK K
                try simp only [Act.put, List.setIfInBounds_toArray, List.set_cons_zero, List.set_cons_succ]
                refine wpAnyH_done (by kernel_rfl) ?_ _
                go_wp2_with fail
                go_roundg (k - (j + 1))
                case measure => omega
                case rel => exact ⟨j + 1, _, by omega, by omega, by go_num, by rw [HSt.out]; exact HI6⟩
              refine AllReadyH.cons (o := { dst := some 44, op := Go.Op.buildSlice 23 1 #[(0, Go.Operand.tmp 43)], type := 23, pos := "node.go:109", after := #[{ on := 3, ground := Go.Ground.data }], guard := none }) rfl (fun K hK => ?_) AllReadyH.nil
              have HI4 := Lib.hid (HI3.out.under ((Below.refl _ _).alloc (Nat.le_refl _) (.cells #[.string r] 9)))
              have cf4 := HI4.out.n1
              have hHeld4 := HI4.out.t
              go_simp
              refine hK.out _ _ hHeld4 (fun hHeld => ?_)
              clear hK K
              try simp only [Act.put, List.setIfInBounds_toArray, List.set_cons_zero, List.set_cons_succ]
              refine wpAnyH_ready (rs := [1]) (by kernel_rfl) (by simp) ?_
              refine AllReadyH.cons (o := { dst := some 41, op := Go.Op.load 23 (Go.Operand.tmp 40), type := 23, pos := "node.go:109", after := #[{ on := 0, ground := Go.Ground.data }], guard := none }) rfl (fun K hK => ?_) AllReadyH.nil
              go_simp
              refine hK.out _ _ (by assumption) (fun hHeld => ?_)
              clear hK K
              try simp only [Act.put, List.setIfInBounds_toArray, List.set_cons_zero, List.set_cons_succ]
              refine wpAnyH_ready (rs := [5]) (by kernel_rfl) (by simp) ?_
              refine AllReadyH.cons (o := { dst := some 45, op := Go.Op.call { callee := Go.Callee.builtin Go.Builtin.append, args := #[Go.Operand.tmp 41, Go.Operand.tmp 44], argTypes := #[23, 23] }, type := 23, pos := "node.go:109", after := #[{ on := 1, ground := Go.Ground.data }, { on := 4, ground := Go.Ground.data }, { on := 3, ground := Go.Ground.chain }], guard := none }) rfl (fun K hK => ?_) AllReadyH.nil
              have hsz4 := HI4.out.size
              refine step_append_lies _ (by rfl) _ _ _ (by rfl) (Bn + 1) 9 i1 (.string ⟨#[]⟩) 1 16 Tryd.underlying23 HT1.out.1 HT1.out.2.1 HT1.out.2.2.1 HT1.out.2.2.2 rfl (by omega) v1 vs.length (vs.map Value.string) (by rfl) HI4.out.o1 ⟨w3.heap.size, 0, none⟩ 1 1 [.string r] (by rfl) (by rfl) (World.news_of_block (cs := #[.string r]) (t := 9) (fr := (0, 0)) (heap_alloc_new w3 _)) (by simp [Value.oneCell']) (by omega) (by unfold maxLen; omega) (by omega) (by omega) (w3.heap.size + 1) (by simp) ?_
              intro gg cap w5 hown1 hgrow hat hlt5
              have HI6 := Lib.hid (HI4.out.app1 hgrow r gg cap (w3.heap.size + 1) hown1 hat (by simp) hlt5)
              have hHeld5 : w5.cell? ⟨Bt, 0, none⟩ = some (.func (.func 68) #[] #[.pointer (some ⟨B, 0, none⟩), .pointer (some ⟨Bo, 0, none⟩)]) := (World.cell?_of_block (a := ⟨Bt, 0, none⟩) (hgrow.block Bt (by have := HI4.out.ht; have := HI4.out.hN; omega) (fun e => by have := own_base HI4.out.o1 _ e.symm; have := HI4.out.ht; have := HI4.out.hN; omega))).trans hHeld4
              have cf5 := (World.cell?_of_block (a := ⟨Bn, 1, none⟩) (hgrow.block Bn (by omega) (fun e => by have := own_base HI4.out.o1 _ e.symm; omega))).trans cf4
              have ff5 : w5.frozen? ⟨Bn, 1, none⟩ = false := (World.frozen?_of_block (hgrow.block (Bn) (by omega) (fun e => by have := own_base HI4.out.o1 _ e.symm; omega))).trans (HI4.out.nf 1 (by omega))
              clear hown1 hgrow hat hlt5
              refine hK.out _ _ hHeld5 (fun hHeld => ?_)
              clear hK K
              try simp only [Act.put, List.setIfInBounds_toArray, List.set_cons_zero, List.set_cons_succ]
              refine wpAnyH_take (i := 6) (oi := { dst := some 46, op := Go.Op.fieldAddr 33 (Go.Operand.tmp 9) 1, type := 0, pos := "node.go:109", after := #[{ on := 0, ground := Go.Ground.phase }, { on := 1, ground := Go.Ground.phase }, { on := 2, ground := Go.Ground.phase }, { on := 3, ground := Go.Ground.phase }, { on := 4, ground := Go.Ground.phase }, { on := 5, ground := Go.Ground.phase }], guard := none }) (v := ?_) rfl (by kernel_rfl) (by kernel_rfl) (by kernel_rfl) (fun _ _ _ h => h) (Or.inl ⟨by rfl, ?_⟩) (by assumption) ?_
              rotate_left
              · intro w hSw; (try dsimp only at hSw); go_simp; (try with_reducible rfl)
              try simp only [Act.put, List.setIfInBounds_toArray, List.set_cons_zero, List.set_cons_succ]
              refine wpAnyH_ready (rs := [7]) (by kernel_rfl) (by simp) ?_
              refine AllReadyH.cons (o := { dst := none, op := Go.Op.store 23 (Go.Operand.tmp 46) (Go.Operand.tmp 45), type := 0, pos := "node.go:109", after := #[{ on := 6, ground := Go.Ground.data }, { on := 5, ground := Go.Ground.data }, { on := 5, ground := Go.Ground.chain }, { on := 0, ground := Go.Ground.phase }, { on := 1, ground := Go.Ground.phase }, { on := 2, ground := Go.Ground.phase }, { on := 3, ground := Go.Ground.phase }, { on := 4, ground := Go.Ground.phase }, { on := 5, ground := Go.Ground.phase }], guard := none }) rfl (fun K hK => ?_) AllReadyH.nil
              have hHeld6 := HI6.out.t
              go_simp
              refine hK.out _ _ hHeld6 (fun hHeld => ?_)
              clear hK K
              try simp only [Act.put, List.setIfInBounds_toArray, List.set_cons_zero, List.set_cons_succ]
              refine wpAnyH_done (by kernel_rfl) ?_ _
              go_wp2_with fail
              go_roundg (k - (j + 1))
              case measure => omega
              case rel => exact ⟨j + 1, _, by omega, by omega, by go_num, by rw [HSt.out]; exact HI6⟩
            · have hltb : ¬ (j : Int) < (k : Int) := by omega
              have hjk : j = k := by omega
              subst hjk
              have HV : Hid (valsP d = runV 12 S j) := Lib.hid (by unfold valsP; rw [HKy.out, HCo.out, HKi.out]; show runV 12 S (((j : Int) * (1 - ((0 : Nat) : Int))).toNat) = _; rw [show ((j : Int) * (1 - ((0 : Nat) : Int))).toNat = j by simp])
              obtain ⟨R, hR⟩ : ∃ q, q = runV 12 S j := ⟨_, rfl⟩
              rw [← hR] at HI HV
              clear hR
              obtain ⟨vs, S4⟩ := R
              simp only at HI HV
              have HD : Hid (kidsP d = ([], S4)) := Lib.hid (by unfold kidsP; rw [HV.out, HCo.out, HKi.out]; show runN 1 S4 ((((j : Int) + 1) * ((0 : Nat) : Int)).toNat) = _; rw [show (((j : Int) + 1) * ((0 : Nat) : Int)).toNat = 0 by simp]; rfl)
              have HPR : Hid (partsR d = ⟨ks, vs, [], S4.2 && decide (S4.1.size = 0)⟩) := Lib.hid (by unfold partsR; rw [HKi.out, HCo.out, if_neg (by show ¬ (1 < ((0 : Nat) : Int) ∨ 7 < (j : Int)); omega), HKy.out, HV.out, HD.out])
              go_wp2_with fail
              refine wp_loop_rounds 1 ?_
              rw [rounds_succ]
              go_wp2_with fail
              obtain ⟨A0, e0, rfl⟩ := own_val HI.out.o0
              obtain ⟨A1, e1, rfl⟩ := own_val HI.out.o1
              have n0 := HI.out.n0
              have r0 := HI.out.r0
              have f0 := HI.out.rf 0 (by omega)
              have n1 := HI.out.n1
              have r1 := HI.out.r1
              have f1 := HI.out.rf 1 (by omega)
              have n2 := HI.out.n2
              have r2 := HI.out.r2
              have f2 := HI.out.rf 2 (by omega)
              obtain ⟨rest, ok⟩ := S4
              have d0 := HI.out.d.c0
              have d1 := HI.out.d.c1
              simp only at d0 d1
              have HNB := Lib.hid (show w.heap.size ≤ Bn by have := HI.out.hB; have := HI.out.hN; omega)
              have HRt := Lib.hid (HI.out.ret (.slice A0 ks.length e0) (.slice A1 vs.length e1) (.slice none 0 0))
              have hne1 : Br ≠ Bn := by have := HI.out.hN; have := HI.out.hr; omega
              have hne2 : Br ≠ B := by have := HI.out.hr; omega
              have hne3 : Br ≠ Bo := by have := HI.out.hr; have := HI.out.ho; omega
              cases ok with
              | false =>
                refine wp_region_held_drew (S := fun w' => w'.cell? ⟨Bn, 0, none⟩ = some (.slice A0 ks.length e0) ∧ w'.cell? ⟨Bn, 1, none⟩ = some (.slice A1 vs.length e1) ∧ w'.cell? ⟨Bn, 2, none⟩ = some (.slice none 0 0) ∧ w'.cell? ⟨B, 0, none⟩ = some (.string rest) ∧ w'.cell? ⟨Bo, 0, none⟩ = some (.bool false)) (by kernel_rfl) ⟨n0, n1, n2, d0, d1⟩ (fun hHeld => ?_)
                refine wpAnyH_take (i := 0) (oi := { dst := some 62, op := Go.Op.load 33 (Go.Operand.tmp 9), type := 33, pos := "node.go:114", after := #[], guard := none }) (v := ?_) rfl (by kernel_rfl) (by kernel_rfl) (by kernel_rfl) (fun _ _ _ h => h) (Or.inl ⟨by rfl, ?_⟩) (by assumption) ?_
                rotate_left
                · intro w hSw; obtain ⟨s0, s1, s2, s3, s4⟩ := hSw; go_simp; (try with_reducible rfl)
                try simp only [Act.put, List.setIfInBounds_toArray, List.set_cons_zero, List.set_cons_succ]
                refine wpAnyH_take (i := 1) (oi := { dst := some 63, op := Go.Op.load 4 (Go.Operand.tmp 4), type := 4, pos := "node.go:114", after := #[], guard := none }) (v := ?_) rfl (by kernel_rfl) (by kernel_rfl) (by kernel_rfl) (fun _ _ _ h => h) (Or.inl ⟨by rfl, ?_⟩) (by assumption) ?_
                rotate_left
                · intro w hSw; obtain ⟨s0, s1, s2, s3, s4⟩ := hSw; go_simp; (try with_reducible rfl)
                try simp only [Act.put, List.setIfInBounds_toArray, List.set_cons_zero, List.set_cons_succ]
                refine wpAnyH_take (i := 2) (oi := { dst := some 64, op := Go.Op.move (Go.Operand.tmp 63), type := 4, pos := "node.go:114", after := #[{ on := 1, ground := Go.Ground.data }], guard := none }) (v := ?_) rfl (by kernel_rfl) (by kernel_rfl) (by kernel_rfl) (fun _ _ _ h => h) (Or.inl ⟨by rfl, ?_⟩) (by assumption) ?_
                rotate_left
                · intro w hSw; obtain ⟨s0, s1, s2, s3, s4⟩ := hSw; go_simp; (try with_reducible rfl)
                try simp only [Act.put, List.setIfInBounds_toArray, List.set_cons_zero, List.set_cons_succ]
                refine wpAnyH_take (i := 3) (oi := { dst := some 65, op := Go.Op.load 9 (Go.Operand.tmp 1), type := 9, pos := "node.go:114", after := #[{ on := 2, ground := Go.Ground.guard }, { on := 6, ground := Go.Ground.gcOnly Go.Departure.lateStores }], guard := some (2, true) }) (v := undef) rfl (by kernel_rfl) (by kernel_rfl) (by kernel_rfl) (fun _ _ _ h => h) (Or.inr ⟨by rfl, rfl⟩) (by assumption) ?_
                try simp only [Act.put, List.setIfInBounds_toArray, List.set_cons_zero, List.set_cons_succ]
                refine wpAnyH_take (i := 4) (oi := { dst := some 66, op := Go.Op.binOp Go.BinOp.eql 9 (Go.Operand.tmp 65) (Go.Operand.const (Go.Value.string { data := #[] })) 9, type := 4, pos := "node.go:114", after := #[{ on := 3, ground := Go.Ground.data }, { on := 2, ground := Go.Ground.guard }, { on := 6, ground := Go.Ground.gcOnly Go.Departure.lateStores }], guard := some (2, true) }) (v := undef) rfl (by kernel_rfl) (by kernel_rfl) (by kernel_rfl) (fun _ _ _ h => h) (Or.inr ⟨by rfl, rfl⟩) (by assumption) ?_
                try simp only [Act.put, List.setIfInBounds_toArray, List.set_cons_zero, List.set_cons_succ]
                refine wpAnyH_take (i := 5) (oi := { dst := some 67, op := Go.Op.pick (Go.Operand.tmp 64) (Go.Operand.tmp 66) (Go.Operand.const (Go.Value.bool false)), type := 4, pos := "node.go:114", after := #[{ on := 2, ground := Go.Ground.data }, { on := 4, ground := Go.Ground.data }, { on := 6, ground := Go.Ground.gcOnly Go.Departure.lateStores }], guard := none }) (v := ?_) rfl (by kernel_rfl) (by kernel_rfl) (by kernel_rfl) (fun _ _ _ h => h) (Or.inl ⟨by rfl, ?_⟩) (by assumption) ?_
                rotate_left
                · intro w hSw; obtain ⟨s0, s1, s2, s3, s4⟩ := hSw; go_simp; (try with_reducible rfl)
                try simp only [Act.put, List.setIfInBounds_toArray, List.set_cons_zero, List.set_cons_succ]
                refine wpAnyH_ready (rs := [6]) (by kernel_rfl) (by simp) ?_
                refine AllReadyH.cons (o := { dst := none, op := Go.Op.store 33 (Go.Operand.tmp 2) (Go.Operand.tmp 62), type := 0, pos := "node.go:114", after := #[{ on := 0, ground := Go.Ground.data }, { on := 2, ground := Go.Ground.chain }, { on := 0, ground := Go.Ground.phase }, { on := 1, ground := Go.Ground.textOnly Go.Departure.lateStores }, { on := 2, ground := Go.Ground.textOnly Go.Departure.lateStores }, { on := 3, ground := Go.Ground.textOnly Go.Departure.lateStores }, { on := 4, ground := Go.Ground.textOnly Go.Departure.lateStores }, { on := 5, ground := Go.Ground.textOnly Go.Departure.lateStores }], guard := none }) rfl (fun K hK => ?_) AllReadyH.nil
                go_simp
                refine hK.out _ _ (by go_keep) (fun hHeld => ?_)
                clear hK K
                try simp only [Act.put, List.setIfInBounds_toArray, List.set_cons_zero, List.set_cons_succ]
                refine wpAnyH_take (i := 7) (oi := { dst := some 3, op := Go.Op.assign (Go.Operand.tmp 67), type := 4, pos := "node.go:114", after := #[{ on := 5, ground := Go.Ground.data }, { on := 6, ground := Go.Ground.chain }, { on := 0, ground := Go.Ground.phase }, { on := 1, ground := Go.Ground.phase }, { on := 2, ground := Go.Ground.phase }, { on := 3, ground := Go.Ground.phase }, { on := 4, ground := Go.Ground.phase }, { on := 5, ground := Go.Ground.phase }, { on := 6, ground := Go.Ground.phase }], guard := none }) (v := ?_) rfl (by kernel_rfl) (by kernel_rfl) (by kernel_rfl) (fun _ _ _ h => h) (Or.inl ⟨by rfl, ?_⟩) (by assumption) ?_
                rotate_left
                · intro w hSw; obtain ⟨s0, s1, s2, s3, s4⟩ := hSw; go_simp; (try with_reducible rfl)
                try simp only [Act.put, List.setIfInBounds_toArray, List.set_cons_zero, List.set_cons_succ]
                refine wpAnyH_done (by kernel_rfl) ?_ _
                go_wp2_with fail
                refine bodyPost_ret (v := .tuple #[.agg #[.slice A0 ks.length e0, .slice A1 vs.length e1, .slice none 0 0], .bool false]) (by simp [results, Tryd.results54, go_sem, r0, r1, r2]) rfl ?_
                unfold PartsPost
                rw [HPR.out]
                exact ⟨A0, e0, A1, e1, none, 0, (by rw [show ((rest, false).2 && decide ((rest, false).1.size = 0)) = false from rfl]; first | done | rfl), (fun wz hz => ⟨own_ints1 (own_move HRt.out.1 (fun k hk => hz k (by have := own_base HRt.out.1 k hk; have := HNB.out; omega) (own_lt HRt.out.1 k hk))), own_strs1 (own_move HRt.out.2.1 (fun k hk => hz k (by have := own_base HRt.out.2.1 k hk; have := HNB.out; omega) (own_lt HRt.out.2.1 k hk))), ints_nil _ _ _, fun x hx => wf_of (HBd.out x hx)⟩), HRt.out.2.2.2⟩
              | true =>
                by_cases hr0 : rest.size = 0
                · obtain rfl : rest = ⟨#[]⟩ := by obtain ⟨q⟩ := rest; have : q = #[] := Array.eq_empty_of_size_eq_zero hr0; rw [this]
                  go_region_held3 (fun w' => w'.cell? ⟨Bn, 0, none⟩ = some (.slice A0 ks.length e0) ∧ w'.cell? ⟨Bn, 1, none⟩ = some (.slice A1 vs.length e1) ∧ w'.cell? ⟨Bn, 2, none⟩ = some (.slice none 0 0) ∧ w'.cell? ⟨B, 0, none⟩ = some (.string ⟨#[]⟩) ∧ w'.cell? ⟨Bo, 0, none⟩ = some (.bool true)) (go_keep) (fail)
                  go_wp2_with fail
                  refine bodyPost_ret (v := .tuple #[.agg #[.slice A0 ks.length e0, .slice A1 vs.length e1, .slice none 0 0], .bool true]) (by simp [results, Tryd.results54, go_sem, r0, r1, r2]) rfl ?_
                  unfold PartsPost
                  rw [HPR.out]
                  exact ⟨A0, e0, A1, e1, none, 0, (by rw [show (((⟨#[]⟩ : ByteArray), true).2 && decide (((⟨#[]⟩ : ByteArray), true).1.size = 0)) = true from rfl]; first | done | rfl), (fun wz hz => ⟨own_ints1 (own_move HRt.out.1 (fun k hk => hz k (by have := own_base HRt.out.1 k hk; have := HNB.out; omega) (own_lt HRt.out.1 k hk))), own_strs1 (own_move HRt.out.2.1 (fun k hk => hz k (by have := own_base HRt.out.2.1 k hk; have := HNB.out; omega) (own_lt HRt.out.2.1 k hk))), ints_nil _ _ _, fun x hx => wf_of (HBd.out x hx)⟩), HRt.out.2.2.2⟩
                · have hl1 : ¬ rest.toList = [] := fun e => hr0 (by rw [ByteArray.toList_eq] at e; have := congrArg List.length e; simpa using this)
                  have hl2 : rest.toList.isEmpty = false := by cases h : rest.toList with | nil => exact absurd h hl1 | cons => rfl
                  go_region_held3 (fun w' => w'.cell? ⟨Bn, 0, none⟩ = some (.slice A0 ks.length e0) ∧ w'.cell? ⟨Bn, 1, none⟩ = some (.slice A1 vs.length e1) ∧ w'.cell? ⟨Bn, 2, none⟩ = some (.slice none 0 0) ∧ w'.cell? ⟨B, 0, none⟩ = some (.string rest) ∧ w'.cell? ⟨Bo, 0, none⟩ = some (.bool true)) (go_keep) (fail)
                  go_wp2_with fail
                  refine bodyPost_ret (v := .tuple #[.agg #[.slice A0 ks.length e0, .slice A1 vs.length e1, .slice none 0 0], .bool false]) (by simp [results, Tryd.results54, go_sem, r0, r1, r2]) rfl ?_
                  unfold PartsPost
                  rw [HPR.out]
                  exact ⟨A0, e0, A1, e1, none, 0, (by rw [show ((rest, true).2 && decide ((rest, true).1.size = 0)) = false from by simp [hr0]]; first | done | rfl), (fun wz hz => ⟨own_ints1 (own_move HRt.out.1 (fun k hk => hz k (by have := own_base HRt.out.1 k hk; have := HNB.out; omega) (own_lt HRt.out.1 k hk))), own_strs1 (own_move HRt.out.2.1 (fun k hk => hz k (by have := own_base HRt.out.2.1 k hk; have := HNB.out; omega) (own_lt HRt.out.2.1 k hk))), ints_nil _ _ _, fun x hx => wf_of (HBd.out x hx)⟩), HRt.out.2.2.2⟩
        · have HV : Hid (valsP d = ([], S)) := Lib.hid (by unfold valsP; rw [HKy.out, HCo.out, HKi.out]; show runV 12 S (((k : Int) * (1 - ((1 : Nat) : Int))).toNat) = _; rw [show ((k : Int) * (1 - ((1 : Nat) : Int))).toNat = 0 by simp]; rfl)
          have hk1z : (k : Int) < (k : Int) + 1 := by omega
          go_wp2_with fail
          refine wp_loop_rounds 1 ?_
          rw [rounds_succ]
          go_wp2_with fail
          go_loopg [52] (k + 1) (fun gg si wr => ∃ (j : Nat) (v2 : Value), j ≤ k + 1 ∧ k + 1 - j ≤ gg ∧ si = .int .i64 j ∧ Hid (PIn w wr B Br Bo Bt Bn (runN 1 S j).2 ks [] (runN 1 S j).1 v0 (.slice none 0 0) v2))
          case atStart => exact ⟨0, _, by omega, by omega, rfl, HI⟩
          case round =>
            obtain ⟨j, v2, hj, hg, rfl, HI⟩ := hrel
            by_cases hlt : j < k + 1
            · have hltz : (j : Int) < (k : Int) + 1 := by omega
              have HSt : Hid (runN 1 S (j + 1) = ((runN 1 S j).1 ++ [(nb 1 (runN 1 S j).2).1], (nb 1 (runN 1 S j).2).2)) := Lib.hid rfl
              have hkl := runN_length 1 S j
              obtain ⟨R, hR⟩ : ∃ q, q = runN 1 S j := ⟨_, rfl⟩
              rw [← hR] at HI HSt hkl
              clear hR
              obtain ⟨kd, S3⟩ := R
              simp only at HI HSt hkl
              have HNum : Hid (∀ w', DatIn w' B Bo S3 → w'.cell? ⟨Bt, 0, none⟩ = some (.func (.func 68) #[] #[.pointer (some ⟨B, 0, none⟩), .pointer (some ⟨Bo, 0, none⟩)]) → _) := Lib.hid (fun w' h h2 => number_1 B Bo Bt S3 w' h h2)
              obtain ⟨Y, hY⟩ : ∃ q, q = nb 1 S3 := ⟨_, rfl⟩
              rw [← hY] at HSt
              simp only [← hY] at HNum
              clear hY
              obtain ⟨r, S'⟩ := Y
              simp only at HSt HNum
              have hl8 : kd.length ≤ 8 := by omega
              clear hkl
              go_wp2_with fail
              refine wp_region_held_drew (S := (fun w' : World => w'.cell? ⟨Bt, 0, none⟩ = some (.func (.func 68) #[] #[.pointer (some ⟨B, 0, none⟩), .pointer (some ⟨Bo, 0, none⟩)]))) (by kernel_rfl) HI.out.t (fun hHeld => ?_)
              obtain ⟨wd, hwd⟩ : ∃ q, q = wr.drew := ⟨_, rfl⟩
              have HId := Lib.hid (HI.out.under (Below.drew (Below.refl _ _)))
              rw [← hwd] at HId hHeld ⊢
              clear hwd
              have cf := HId.out.n2
              refine wpAnyH_take (i := 0) (oi := { dst := some 54, op := Go.Op.fieldAddr 33 (Go.Operand.tmp 9) 2, type := 0, pos := "node.go:112", after := #[], guard := none }) (v := ?_) rfl (by kernel_rfl) (by kernel_rfl) (by kernel_rfl) (fun _ _ _ h => h) (Or.inl ⟨by rfl, ?_⟩) (by assumption) ?_
              rotate_left
              · intro w hSw; (try dsimp only at hSw); go_simp; (try with_reducible rfl)
              try simp only [Act.put, List.setIfInBounds_toArray, List.set_cons_zero, List.set_cons_succ]
              refine wpAnyH_take (i := 2) (oi := { dst := some 56, op := Go.Op.move (Go.Operand.tmp 6), type := 122, pos := "node.go:112", after := #[], guard := none }) (v := ?_) rfl (by kernel_rfl) (by kernel_rfl) (by kernel_rfl) (fun _ _ _ h => h) (Or.inl ⟨by rfl, ?_⟩) (by assumption) ?_
              rotate_left
              · intro w hSw; (try dsimp only at hSw); go_simp; (try with_reducible rfl)
              try simp only [Act.put, List.setIfInBounds_toArray, List.set_cons_zero, List.set_cons_succ]
              refine wpAnyH_ready (rs := [1, 3]) (by kernel_rfl) (by simp) ?_
              refine AllReadyH.cons (o := { dst := some 55, op := Go.Op.load 22 (Go.Operand.tmp 54), type := 22, pos := "node.go:112", after := #[{ on := 0, ground := Go.Ground.data }], guard := none }) rfl (fun K hK => ?_) ?_
              · skip
                go_simp
                refine hK.out _ _ (by assumption) (fun hHeld => ?_)
                clear hK K
                try simp only [Act.put, List.setIfInBounds_toArray, List.set_cons_zero, List.set_cons_succ]
                refine wpAnyH_ready (rs := [3]) (by kernel_rfl) (by simp) ?_
                refine AllReadyH.cons (o := { dst := some 57, op := Go.Op.call { callee := Go.Callee.value (Go.Operand.tmp 56), args := #[Go.Operand.const (Go.Value.int Go.IntKind.i64 1)], argTypes := #[3] }, type := 3, pos := "node.go:112", after := #[{ on := 2, ground := Go.Ground.data }], guard := none }) rfl (fun K hK => ?_) AllReadyH.nil
                go_simp
                refine (HNum.out _ HId.out.d hHeld).mono ?_
                rintro e w3 ⟨rfl, hd3, ht3⟩
                have HI3 := Lib.hid (HId.out.touch hd3 ht3)
                have cf3 := HI3.out.n2
                have hHeld3 := HI3.out.t
                clear hd3 ht3
                go_wp2_with fail
                refine hK.out _ _ hHeld3 (fun hHeld => ?_)
                clear hK K
                try simp only [Act.put, List.setIfInBounds_toArray, List.set_cons_zero, List.set_cons_succ]
                refine wpAnyH_ready (rs := [4]) (by kernel_rfl) (by simp) ?_
                refine AllReadyH.cons (o := { dst := some 58, op := Go.Op.buildSlice 22 1 #[(0, Go.Operand.tmp 57)], type := 22, pos := "node.go:112", after := #[{ on := 3, ground := Go.Ground.data }], guard := none }) rfl (fun K hK => ?_) AllReadyH.nil
                have HI4 := Lib.hid (HI3.out.under ((Below.refl _ _).alloc (Nat.le_refl _) (.cells #[.int .i64 r] 3)))
                have cf4 := HI4.out.n2
                have hHeld4 := HI4.out.t
                go_simp
                refine hK.out _ _ hHeld4 (fun hHeld => ?_)
                clear hK K
                try simp only [Act.put, List.setIfInBounds_toArray, List.set_cons_zero, List.set_cons_succ]
                refine wpAnyH_ready (rs := [5]) (by kernel_rfl) (by simp) ?_
                refine AllReadyH.cons (o := { dst := some 59, op := Go.Op.call { callee := Go.Callee.builtin Go.Builtin.append, args := #[Go.Operand.tmp 55, Go.Operand.tmp 58], argTypes := #[22, 22] }, type := 22, pos := "node.go:112", after := #[{ on := 1, ground := Go.Ground.data }, { on := 4, ground := Go.Ground.data }, { on := 3, ground := Go.Ground.chain }], guard := none }) rfl (fun K hK => ?_) AllReadyH.nil
                have hsz4 := HI4.out.size
                refine step_append_lies _ (by rfl) _ _ _ (by rfl) (Bn + 1) 3 i0 (.int .i64 0) 1 8 Tryd.underlying22 HT2.out.1 HT2.out.2.1 HT2.out.2.2.1 HT2.out.2.2.2 rfl (by omega) v2 kd.length (nums .i64 kd) (by rfl) HI4.out.o2 ⟨w3.heap.size, 0, none⟩ 1 1 [.int .i64 r] (by rfl) (by rfl) (World.news_of_block (cs := #[.int .i64 r]) (t := 3) (fr := (0, 0)) (heap_alloc_new w3 _)) (by simp [Value.oneCell']) (by omega) (by unfold maxLen; omega) (by omega) (by omega) (w3.heap.size + 1) (by simp) ?_
                intro gg cap w5 hown1 hgrow hat hlt5
                have HI6 := Lib.hid (HI4.out.app2 hgrow r gg cap (w3.heap.size + 1) hown1 hat (by simp) hlt5)
                have hHeld5 : w5.cell? ⟨Bt, 0, none⟩ = some (.func (.func 68) #[] #[.pointer (some ⟨B, 0, none⟩), .pointer (some ⟨Bo, 0, none⟩)]) := (World.cell?_of_block (a := ⟨Bt, 0, none⟩) (hgrow.block Bt (by have := HI4.out.ht; have := HI4.out.hN; omega) (fun e => by have := own_base HI4.out.o2 _ e.symm; have := HI4.out.ht; have := HI4.out.hN; omega))).trans hHeld4
                have cf5 := (World.cell?_of_block (a := ⟨Bn, 2, none⟩) (hgrow.block Bn (by omega) (fun e => by have := own_base HI4.out.o2 _ e.symm; omega))).trans cf4
                have ff5 : w5.frozen? ⟨Bn, 2, none⟩ = false := (World.frozen?_of_block (hgrow.block (Bn) (by omega) (fun e => by have := own_base HI4.out.o2 _ e.symm; omega))).trans (HI4.out.nf 2 (by omega))
                clear hown1 hgrow hat hlt5
                refine hK.out _ _ hHeld5 (fun hHeld => ?_)
                clear hK K
                try simp only [Act.put, List.setIfInBounds_toArray, List.set_cons_zero, List.set_cons_succ]
                refine wpAnyH_take (i := 6) (oi := { dst := some 60, op := Go.Op.fieldAddr 33 (Go.Operand.tmp 9) 2, type := 0, pos := "node.go:112", after := #[{ on := 0, ground := Go.Ground.phase }, { on := 1, ground := Go.Ground.phase }, { on := 2, ground := Go.Ground.phase }, { on := 3, ground := Go.Ground.phase }, { on := 4, ground := Go.Ground.phase }, { on := 5, ground := Go.Ground.phase }], guard := none }) (v := ?_) rfl (by kernel_rfl) (by kernel_rfl) (by kernel_rfl) (fun _ _ _ h => h) (Or.inl ⟨by rfl, ?_⟩) (by assumption) ?_
                rotate_left
                · intro w hSw; (try dsimp only at hSw); go_simp; (try with_reducible rfl)
                try simp only [Act.put, List.setIfInBounds_toArray, List.set_cons_zero, List.set_cons_succ]
                refine wpAnyH_ready (rs := [7]) (by kernel_rfl) (by simp) ?_
                refine AllReadyH.cons (o := { dst := none, op := Go.Op.store 22 (Go.Operand.tmp 60) (Go.Operand.tmp 59), type := 0, pos := "node.go:112", after := #[{ on := 6, ground := Go.Ground.data }, { on := 5, ground := Go.Ground.data }, { on := 5, ground := Go.Ground.chain }, { on := 0, ground := Go.Ground.phase }, { on := 1, ground := Go.Ground.phase }, { on := 2, ground := Go.Ground.phase }, { on := 3, ground := Go.Ground.phase }, { on := 4, ground := Go.Ground.phase }, { on := 5, ground := Go.Ground.phase }], guard := none }) rfl (fun K hK => ?_) AllReadyH.nil
                have hHeld6 := HI6.out.t
                go_simp
                refine hK.out _ _ hHeld6 (fun hHeld => ?_)
                clear hK K
                try simp only [Act.put, List.setIfInBounds_toArray, List.set_cons_zero, List.set_cons_succ]
                refine wpAnyH_done (by kernel_rfl) ?_ _
                go_wp2_with fail
                go_roundg (k + 1 - (j + 1))
                case measure => omega
                case rel => exact ⟨j + 1, _, by omega, by omega, by go_num, by rw [HSt.out]; exact HI6⟩
              refine AllReadyH.cons (o := { dst := some 57, op := Go.Op.call { callee := Go.Callee.value (Go.Operand.tmp 56), args := #[Go.Operand.const (Go.Value.int Go.IntKind.i64 1)], argTypes := #[3] }, type := 3, pos := "node.go:112", after := #[{ on := 2, ground := Go.Ground.data }], guard := none }) rfl (fun K hK => ?_) AllReadyH.nil
              go_simp
              refine (HNum.out _ HId.out.d hHeld).mono ?_
              rintro e w3 ⟨rfl, hd3, ht3⟩
              have HI3 := Lib.hid (HId.out.touch hd3 ht3)
              have cf3 := HI3.out.n2
              have hHeld3 := HI3.out.t
              clear hd3 ht3
              go_wp2_with fail
              refine hK.out _ _ hHeld3 (fun hHeld => ?_)
              clear hK K
              try simp only [Act.put, List.setIfInBounds_toArray, List.set_cons_zero, List.set_cons_succ]
              refine wpAnyH_ready (rs := [1, 4]) (by kernel_rfl) (by simp) ?_
              refine AllReadyH.cons (o := { dst := some 55, op := Go.Op.load 22 (Go.Operand.tmp 54), type := 22, pos := "node.go:112", after := #[{ on := 0, ground := Go.Ground.data }], guard := none }) rfl (fun K hK => ?_) ?_
              · skip
                go_simp
                refine hK.out _ _ (by assumption) (fun hHeld => ?_)
                clear hK K
                try simp only [Act.put, List.setIfInBounds_toArray, List.set_cons_zero, List.set_cons_succ]
                refine wpAnyH_ready (rs := [4]) (by kernel_rfl) (by simp) ?_
                refine AllReadyH.cons (o := { dst := some 58, op := Go.Op.buildSlice 22 1 #[(0, Go.Operand.tmp 57)], type := 22, pos := "node.go:112", after := #[{ on := 3, ground := Go.Ground.data }], guard := none }) rfl (fun K hK => ?_) AllReadyH.nil
                have HI4 := Lib.hid (HI3.out.under ((Below.refl _ _).alloc (Nat.le_refl _) (.cells #[.int .i64 r] 3)))
                have cf4 := HI4.out.n2
                have hHeld4 := HI4.out.t
                go_simp
                refine hK.out _ _ hHeld4 (fun hHeld => ?_)
                clear hK K
                try simp only [Act.put, List.setIfInBounds_toArray, List.set_cons_zero, List.set_cons_succ]
                refine wpAnyH_ready (rs := [5]) (by kernel_rfl) (by simp) ?_
                refine AllReadyH.cons (o := { dst := some 59, op := Go.Op.call { callee := Go.Callee.builtin Go.Builtin.append, args := #[Go.Operand.tmp 55, Go.Operand.tmp 58], argTypes := #[22, 22] }, type := 22, pos := "node.go:112", after := #[{ on := 1, ground := Go.Ground.data }, { on := 4, ground := Go.Ground.data }, { on := 3, ground := Go.Ground.chain }], guard := none }) rfl (fun K hK => ?_) AllReadyH.nil
                have hsz4 := HI4.out.size
                refine step_append_lies _ (by rfl) _ _ _ (by rfl) (Bn + 1) 3 i0 (.int .i64 0) 1 8 Tryd.underlying22 HT2.out.1 HT2.out.2.1 HT2.out.2.2.1 HT2.out.2.2.2 rfl (by omega) v2 kd.length (nums .i64 kd) (by rfl) HI4.out.o2 ⟨w3.heap.size, 0, none⟩ 1 1 [.int .i64 r] (by rfl) (by rfl) (World.news_of_block (cs := #[.int .i64 r]) (t := 3) (fr := (0, 0)) (heap_alloc_new w3 _)) (by simp [Value.oneCell']) (by omega) (by unfold maxLen; omega) (by omega) (by omega) (w3.heap.size + 1) (by simp) ?_
                intro gg cap w5 hown1 hgrow hat hlt5
                have HI6 := Lib.hid (HI4.out.app2 hgrow r gg cap (w3.heap.size + 1) hown1 hat (by simp) hlt5)
                have hHeld5 : w5.cell? ⟨Bt, 0, none⟩ = some (.func (.func 68) #[] #[.pointer (some ⟨B, 0, none⟩), .pointer (some ⟨Bo, 0, none⟩)]) := (World.cell?_of_block (a := ⟨Bt, 0, none⟩) (hgrow.block Bt (by have := HI4.out.ht; have := HI4.out.hN; omega) (fun e => by have := own_base HI4.out.o2 _ e.symm; have := HI4.out.ht; have := HI4.out.hN; omega))).trans hHeld4
                have cf5 := (World.cell?_of_block (a := ⟨Bn, 2, none⟩) (hgrow.block Bn (by omega) (fun e => by have := own_base HI4.out.o2 _ e.symm; omega))).trans cf4
                have ff5 : w5.frozen? ⟨Bn, 2, none⟩ = false := (World.frozen?_of_block (hgrow.block (Bn) (by omega) (fun e => by have := own_base HI4.out.o2 _ e.symm; omega))).trans (HI4.out.nf 2 (by omega))
                clear hown1 hgrow hat hlt5
                refine hK.out _ _ hHeld5 (fun hHeld => ?_)
                clear hK K
                try simp only [Act.put, List.setIfInBounds_toArray, List.set_cons_zero, List.set_cons_succ]
                refine wpAnyH_take (i := 6) (oi := { dst := some 60, op := Go.Op.fieldAddr 33 (Go.Operand.tmp 9) 2, type := 0, pos := "node.go:112", after := #[{ on := 0, ground := Go.Ground.phase }, { on := 1, ground := Go.Ground.phase }, { on := 2, ground := Go.Ground.phase }, { on := 3, ground := Go.Ground.phase }, { on := 4, ground := Go.Ground.phase }, { on := 5, ground := Go.Ground.phase }], guard := none }) (v := ?_) rfl (by kernel_rfl) (by kernel_rfl) (by kernel_rfl) (fun _ _ _ h => h) (Or.inl ⟨by rfl, ?_⟩) (by assumption) ?_
                rotate_left
                · intro w hSw; (try dsimp only at hSw); go_simp; (try with_reducible rfl)
                try simp only [Act.put, List.setIfInBounds_toArray, List.set_cons_zero, List.set_cons_succ]
                refine wpAnyH_ready (rs := [7]) (by kernel_rfl) (by simp) ?_
                refine AllReadyH.cons (o := { dst := none, op := Go.Op.store 22 (Go.Operand.tmp 60) (Go.Operand.tmp 59), type := 0, pos := "node.go:112", after := #[{ on := 6, ground := Go.Ground.data }, { on := 5, ground := Go.Ground.data }, { on := 5, ground := Go.Ground.chain }, { on := 0, ground := Go.Ground.phase }, { on := 1, ground := Go.Ground.phase }, { on := 2, ground := Go.Ground.phase }, { on := 3, ground := Go.Ground.phase }, { on := 4, ground := Go.Ground.phase }, { on := 5, ground := Go.Ground.phase }], guard := none }) rfl (fun K hK => ?_) AllReadyH.nil
                have hHeld6 := HI6.out.t
                go_simp
                refine hK.out _ _ hHeld6 (fun hHeld => ?_)
                clear hK K
                try simp only [Act.put, List.setIfInBounds_toArray, List.set_cons_zero, List.set_cons_succ]
                refine wpAnyH_done (by kernel_rfl) ?_ _
                go_wp2_with fail
                go_roundg (k + 1 - (j + 1))
                case measure => omega
                case rel => exact ⟨j + 1, _, by omega, by omega, by go_num, by rw [HSt.out]; exact HI6⟩
              refine AllReadyH.cons (o := { dst := some 58, op := Go.Op.buildSlice 22 1 #[(0, Go.Operand.tmp 57)], type := 22, pos := "node.go:112", after := #[{ on := 3, ground := Go.Ground.data }], guard := none }) rfl (fun K hK => ?_) AllReadyH.nil
              have HI4 := Lib.hid (HI3.out.under ((Below.refl _ _).alloc (Nat.le_refl _) (.cells #[.int .i64 r] 3)))
              have cf4 := HI4.out.n2
              have hHeld4 := HI4.out.t
              go_simp
              refine hK.out _ _ hHeld4 (fun hHeld => ?_)
              clear hK K
              try simp only [Act.put, List.setIfInBounds_toArray, List.set_cons_zero, List.set_cons_succ]
              refine wpAnyH_ready (rs := [1]) (by kernel_rfl) (by simp) ?_
              refine AllReadyH.cons (o := { dst := some 55, op := Go.Op.load 22 (Go.Operand.tmp 54), type := 22, pos := "node.go:112", after := #[{ on := 0, ground := Go.Ground.data }], guard := none }) rfl (fun K hK => ?_) AllReadyH.nil
              go_simp
              refine hK.out _ _ (by assumption) (fun hHeld => ?_)
              clear hK K
              try simp only [Act.put, List.setIfInBounds_toArray, List.set_cons_zero, List.set_cons_succ]
              refine wpAnyH_ready (rs := [5]) (by kernel_rfl) (by simp) ?_
              refine AllReadyH.cons (o := { dst := some 59, op := Go.Op.call { callee := Go.Callee.builtin Go.Builtin.append, args := #[Go.Operand.tmp 55, Go.Operand.tmp 58], argTypes := #[22, 22] }, type := 22, pos := "node.go:112", after := #[{ on := 1, ground := Go.Ground.data }, { on := 4, ground := Go.Ground.data }, { on := 3, ground := Go.Ground.chain }], guard := none }) rfl (fun K hK => ?_) AllReadyH.nil
              have hsz4 := HI4.out.size
              refine step_append_lies _ (by rfl) _ _ _ (by rfl) (Bn + 1) 3 i0 (.int .i64 0) 1 8 Tryd.underlying22 HT2.out.1 HT2.out.2.1 HT2.out.2.2.1 HT2.out.2.2.2 rfl (by omega) v2 kd.length (nums .i64 kd) (by rfl) HI4.out.o2 ⟨w3.heap.size, 0, none⟩ 1 1 [.int .i64 r] (by rfl) (by rfl) (World.news_of_block (cs := #[.int .i64 r]) (t := 3) (fr := (0, 0)) (heap_alloc_new w3 _)) (by simp [Value.oneCell']) (by omega) (by unfold maxLen; omega) (by omega) (by omega) (w3.heap.size + 1) (by simp) ?_
              intro gg cap w5 hown1 hgrow hat hlt5
              have HI6 := Lib.hid (HI4.out.app2 hgrow r gg cap (w3.heap.size + 1) hown1 hat (by simp) hlt5)
              have hHeld5 : w5.cell? ⟨Bt, 0, none⟩ = some (.func (.func 68) #[] #[.pointer (some ⟨B, 0, none⟩), .pointer (some ⟨Bo, 0, none⟩)]) := (World.cell?_of_block (a := ⟨Bt, 0, none⟩) (hgrow.block Bt (by have := HI4.out.ht; have := HI4.out.hN; omega) (fun e => by have := own_base HI4.out.o2 _ e.symm; have := HI4.out.ht; have := HI4.out.hN; omega))).trans hHeld4
              have cf5 := (World.cell?_of_block (a := ⟨Bn, 2, none⟩) (hgrow.block Bn (by omega) (fun e => by have := own_base HI4.out.o2 _ e.symm; omega))).trans cf4
              have ff5 : w5.frozen? ⟨Bn, 2, none⟩ = false := (World.frozen?_of_block (hgrow.block (Bn) (by omega) (fun e => by have := own_base HI4.out.o2 _ e.symm; omega))).trans (HI4.out.nf 2 (by omega))
              clear hown1 hgrow hat hlt5
              refine hK.out _ _ hHeld5 (fun hHeld => ?_)
              clear hK K
              try simp only [Act.put, List.setIfInBounds_toArray, List.set_cons_zero, List.set_cons_succ]
              refine wpAnyH_take (i := 6) (oi := { dst := some 60, op := Go.Op.fieldAddr 33 (Go.Operand.tmp 9) 2, type := 0, pos := "node.go:112", after := #[{ on := 0, ground := Go.Ground.phase }, { on := 1, ground := Go.Ground.phase }, { on := 2, ground := Go.Ground.phase }, { on := 3, ground := Go.Ground.phase }, { on := 4, ground := Go.Ground.phase }, { on := 5, ground := Go.Ground.phase }], guard := none }) (v := ?_) rfl (by kernel_rfl) (by kernel_rfl) (by kernel_rfl) (fun _ _ _ h => h) (Or.inl ⟨by rfl, ?_⟩) (by assumption) ?_
              rotate_left
              · intro w hSw; (try dsimp only at hSw); go_simp; (try with_reducible rfl)
              try simp only [Act.put, List.setIfInBounds_toArray, List.set_cons_zero, List.set_cons_succ]
              refine wpAnyH_ready (rs := [7]) (by kernel_rfl) (by simp) ?_
              refine AllReadyH.cons (o := { dst := none, op := Go.Op.store 22 (Go.Operand.tmp 60) (Go.Operand.tmp 59), type := 0, pos := "node.go:112", after := #[{ on := 6, ground := Go.Ground.data }, { on := 5, ground := Go.Ground.data }, { on := 5, ground := Go.Ground.chain }, { on := 0, ground := Go.Ground.phase }, { on := 1, ground := Go.Ground.phase }, { on := 2, ground := Go.Ground.phase }, { on := 3, ground := Go.Ground.phase }, { on := 4, ground := Go.Ground.phase }, { on := 5, ground := Go.Ground.phase }], guard := none }) rfl (fun K hK => ?_) AllReadyH.nil
              have hHeld6 := HI6.out.t
              go_simp
              refine hK.out _ _ hHeld6 (fun hHeld => ?_)
              clear hK K
              try simp only [Act.put, List.setIfInBounds_toArray, List.set_cons_zero, List.set_cons_succ]
              refine wpAnyH_done (by kernel_rfl) ?_ _
              go_wp2_with fail
              go_roundg (k + 1 - (j + 1))
              case measure => omega
              case rel => exact ⟨j + 1, _, by omega, by omega, by go_num, by rw [HSt.out]; exact HI6⟩
            · have hltb : ¬ (j : Int) < (k : Int) + 1 := by omega
              have hjk : j = k + 1 := by omega
              subst hjk
              have HD : Hid (kidsP d = runN 1 S (k + 1)) := Lib.hid (by unfold kidsP; rw [HV.out, HCo.out, HKi.out]; show runN 1 S ((((k : Int) + 1) * ((1 : Nat) : Int)).toNat) = _; rw [show (((k : Int) + 1) * ((1 : Nat) : Int)).toNat = k + 1 by omega])
              obtain ⟨R, hR⟩ : ∃ q, q = runN 1 S (k + 1) := ⟨_, rfl⟩
              rw [← hR] at HI HD
              clear hR
              obtain ⟨kd, S4⟩ := R
              simp only at HI HD
              have HPR : Hid (partsR d = ⟨ks, [], kd, S4.2 && decide (S4.1.size = 0)⟩) := Lib.hid (by unfold partsR; rw [HKi.out, HCo.out, if_neg (by show ¬ (1 < ((1 : Nat) : Int) ∨ 7 < (k : Int)); omega), HKy.out, HV.out, HD.out])
              go_wp2_with fail
              obtain ⟨A0, e0, rfl⟩ := own_val HI.out.o0
              obtain ⟨A2, e2, rfl⟩ := own_val HI.out.o2
              have n0 := HI.out.n0
              have r0 := HI.out.r0
              have f0 := HI.out.rf 0 (by omega)
              have n1 := HI.out.n1
              have r1 := HI.out.r1
              have f1 := HI.out.rf 1 (by omega)
              have n2 := HI.out.n2
              have r2 := HI.out.r2
              have f2 := HI.out.rf 2 (by omega)
              obtain ⟨rest, ok⟩ := S4
              have d0 := HI.out.d.c0
              have d1 := HI.out.d.c1
              simp only at d0 d1
              have HNB := Lib.hid (show w.heap.size ≤ Bn by have := HI.out.hB; have := HI.out.hN; omega)
              have HRt := Lib.hid (HI.out.ret (.slice A0 ks.length e0) (.slice none 0 0) (.slice A2 kd.length e2))
              have hne1 : Br ≠ Bn := by have := HI.out.hN; have := HI.out.hr; omega
              have hne2 : Br ≠ B := by have := HI.out.hr; omega
              have hne3 : Br ≠ Bo := by have := HI.out.hr; have := HI.out.ho; omega
              cases ok with
              | false =>
                refine wp_region_held_drew (S := fun w' => w'.cell? ⟨Bn, 0, none⟩ = some (.slice A0 ks.length e0) ∧ w'.cell? ⟨Bn, 1, none⟩ = some (.slice none 0 0) ∧ w'.cell? ⟨Bn, 2, none⟩ = some (.slice A2 kd.length e2) ∧ w'.cell? ⟨B, 0, none⟩ = some (.string rest) ∧ w'.cell? ⟨Bo, 0, none⟩ = some (.bool false)) (by kernel_rfl) ⟨n0, n1, n2, d0, d1⟩ (fun hHeld => ?_)
                refine wpAnyH_take (i := 0) (oi := { dst := some 62, op := Go.Op.load 33 (Go.Operand.tmp 9), type := 33, pos := "node.go:114", after := #[], guard := none }) (v := ?_) rfl (by kernel_rfl) (by kernel_rfl) (by kernel_rfl) (fun _ _ _ h => h) (Or.inl ⟨by rfl, ?_⟩) (by assumption) ?_
                rotate_left
                · intro w hSw; obtain ⟨s0, s1, s2, s3, s4⟩ := hSw; go_simp; (try with_reducible rfl)
                try simp only [Act.put, List.setIfInBounds_toArray, List.set_cons_zero, List.set_cons_succ]
                refine wpAnyH_take (i := 1) (oi := { dst := some 63, op := Go.Op.load 4 (Go.Operand.tmp 4), type := 4, pos := "node.go:114", after := #[], guard := none }) (v := ?_) rfl (by kernel_rfl) (by kernel_rfl) (by kernel_rfl) (fun _ _ _ h => h) (Or.inl ⟨by rfl, ?_⟩) (by assumption) ?_
                rotate_left
                · intro w hSw; obtain ⟨s0, s1, s2, s3, s4⟩ := hSw; go_simp; (try with_reducible rfl)
                try simp only [Act.put, List.setIfInBounds_toArray, List.set_cons_zero, List.set_cons_succ]
                refine wpAnyH_take (i := 2) (oi := { dst := some 64, op := Go.Op.move (Go.Operand.tmp 63), type := 4, pos := "node.go:114", after := #[{ on := 1, ground := Go.Ground.data }], guard := none }) (v := ?_) rfl (by kernel_rfl) (by kernel_rfl) (by kernel_rfl) (fun _ _ _ h => h) (Or.inl ⟨by rfl, ?_⟩) (by assumption) ?_
                rotate_left
                · intro w hSw; obtain ⟨s0, s1, s2, s3, s4⟩ := hSw; go_simp; (try with_reducible rfl)
                try simp only [Act.put, List.setIfInBounds_toArray, List.set_cons_zero, List.set_cons_succ]
                refine wpAnyH_take (i := 3) (oi := { dst := some 65, op := Go.Op.load 9 (Go.Operand.tmp 1), type := 9, pos := "node.go:114", after := #[{ on := 2, ground := Go.Ground.guard }, { on := 6, ground := Go.Ground.gcOnly Go.Departure.lateStores }], guard := some (2, true) }) (v := undef) rfl (by kernel_rfl) (by kernel_rfl) (by kernel_rfl) (fun _ _ _ h => h) (Or.inr ⟨by rfl, rfl⟩) (by assumption) ?_
                try simp only [Act.put, List.setIfInBounds_toArray, List.set_cons_zero, List.set_cons_succ]
                refine wpAnyH_take (i := 4) (oi := { dst := some 66, op := Go.Op.binOp Go.BinOp.eql 9 (Go.Operand.tmp 65) (Go.Operand.const (Go.Value.string { data := #[] })) 9, type := 4, pos := "node.go:114", after := #[{ on := 3, ground := Go.Ground.data }, { on := 2, ground := Go.Ground.guard }, { on := 6, ground := Go.Ground.gcOnly Go.Departure.lateStores }], guard := some (2, true) }) (v := undef) rfl (by kernel_rfl) (by kernel_rfl) (by kernel_rfl) (fun _ _ _ h => h) (Or.inr ⟨by rfl, rfl⟩) (by assumption) ?_
                try simp only [Act.put, List.setIfInBounds_toArray, List.set_cons_zero, List.set_cons_succ]
                refine wpAnyH_take (i := 5) (oi := { dst := some 67, op := Go.Op.pick (Go.Operand.tmp 64) (Go.Operand.tmp 66) (Go.Operand.const (Go.Value.bool false)), type := 4, pos := "node.go:114", after := #[{ on := 2, ground := Go.Ground.data }, { on := 4, ground := Go.Ground.data }, { on := 6, ground := Go.Ground.gcOnly Go.Departure.lateStores }], guard := none }) (v := ?_) rfl (by kernel_rfl) (by kernel_rfl) (by kernel_rfl) (fun _ _ _ h => h) (Or.inl ⟨by rfl, ?_⟩) (by assumption) ?_
                rotate_left
                · intro w hSw; obtain ⟨s0, s1, s2, s3, s4⟩ := hSw; go_simp; (try with_reducible rfl)
                try simp only [Act.put, List.setIfInBounds_toArray, List.set_cons_zero, List.set_cons_succ]
                refine wpAnyH_ready (rs := [6]) (by kernel_rfl) (by simp) ?_
                refine AllReadyH.cons (o := { dst := none, op := Go.Op.store 33 (Go.Operand.tmp 2) (Go.Operand.tmp 62), type := 0, pos := "node.go:114", after := #[{ on := 0, ground := Go.Ground.data }, { on := 2, ground := Go.Ground.chain }, { on := 0, ground := Go.Ground.phase }, { on := 1, ground := Go.Ground.textOnly Go.Departure.lateStores }, { on := 2, ground := Go.Ground.textOnly Go.Departure.lateStores }, { on := 3, ground := Go.Ground.textOnly Go.Departure.lateStores }, { on := 4, ground := Go.Ground.textOnly Go.Departure.lateStores }, { on := 5, ground := Go.Ground.textOnly Go.Departure.lateStores }], guard := none }) rfl (fun K hK => ?_) AllReadyH.nil
                go_simp
                refine hK.out _ _ (by go_keep) (fun hHeld => ?_)
                clear hK K
                try simp only [Act.put, List.setIfInBounds_toArray, List.set_cons_zero, List.set_cons_succ]
                refine wpAnyH_take (i := 7) (oi := { dst := some 3, op := Go.Op.assign (Go.Operand.tmp 67), type := 4, pos := "node.go:114", after := #[{ on := 5, ground := Go.Ground.data }, { on := 6, ground := Go.Ground.chain }, { on := 0, ground := Go.Ground.phase }, { on := 1, ground := Go.Ground.phase }, { on := 2, ground := Go.Ground.phase }, { on := 3, ground := Go.Ground.phase }, { on := 4, ground := Go.Ground.phase }, { on := 5, ground := Go.Ground.phase }, { on := 6, ground := Go.Ground.phase }], guard := none }) (v := ?_) rfl (by kernel_rfl) (by kernel_rfl) (by kernel_rfl) (fun _ _ _ h => h) (Or.inl ⟨by rfl, ?_⟩) (by assumption) ?_
                rotate_left
                · intro w hSw; obtain ⟨s0, s1, s2, s3, s4⟩ := hSw; go_simp; (try with_reducible rfl)
                try simp only [Act.put, List.setIfInBounds_toArray, List.set_cons_zero, List.set_cons_succ]
                refine wpAnyH_done (by kernel_rfl) ?_ _
                go_wp2_with fail
                refine bodyPost_ret (v := .tuple #[.agg #[.slice A0 ks.length e0, .slice none 0 0, .slice A2 kd.length e2], .bool false]) (by simp [results, Tryd.results54, go_sem, r0, r1, r2]) rfl ?_
                unfold PartsPost
                rw [HPR.out]
                exact ⟨A0, e0, none, 0, A2, e2, (by rw [show ((rest, false).2 && decide ((rest, false).1.size = 0)) = false from rfl]; first | done | rfl), (fun wz hz => ⟨own_ints1 (own_move HRt.out.1 (fun k hk => hz k (by have := own_base HRt.out.1 k hk; have := HNB.out; omega) (own_lt HRt.out.1 k hk))), strs_nil _ _ _, own_ints1 (own_move HRt.out.2.2.1 (fun k hk => hz k (by have := own_base HRt.out.2.2.1 k hk; have := HNB.out; omega) (own_lt HRt.out.2.2.1 k hk))), fun x hx => wf_of (HBd.out x hx)⟩), HRt.out.2.2.2⟩
              | true =>
                by_cases hr0 : rest.size = 0
                · obtain rfl : rest = ⟨#[]⟩ := by obtain ⟨q⟩ := rest; have : q = #[] := Array.eq_empty_of_size_eq_zero hr0; rw [this]
                  go_region_held3 (fun w' => w'.cell? ⟨Bn, 0, none⟩ = some (.slice A0 ks.length e0) ∧ w'.cell? ⟨Bn, 1, none⟩ = some (.slice none 0 0) ∧ w'.cell? ⟨Bn, 2, none⟩ = some (.slice A2 kd.length e2) ∧ w'.cell? ⟨B, 0, none⟩ = some (.string ⟨#[]⟩) ∧ w'.cell? ⟨Bo, 0, none⟩ = some (.bool true)) (go_keep) (fail)
                  go_wp2_with fail
                  refine bodyPost_ret (v := .tuple #[.agg #[.slice A0 ks.length e0, .slice none 0 0, .slice A2 kd.length e2], .bool true]) (by simp [results, Tryd.results54, go_sem, r0, r1, r2]) rfl ?_
                  unfold PartsPost
                  rw [HPR.out]
                  exact ⟨A0, e0, none, 0, A2, e2, (by rw [show (((⟨#[]⟩ : ByteArray), true).2 && decide (((⟨#[]⟩ : ByteArray), true).1.size = 0)) = true from rfl]; first | done | rfl), (fun wz hz => ⟨own_ints1 (own_move HRt.out.1 (fun k hk => hz k (by have := own_base HRt.out.1 k hk; have := HNB.out; omega) (own_lt HRt.out.1 k hk))), strs_nil _ _ _, own_ints1 (own_move HRt.out.2.2.1 (fun k hk => hz k (by have := own_base HRt.out.2.2.1 k hk; have := HNB.out; omega) (own_lt HRt.out.2.2.1 k hk))), fun x hx => wf_of (HBd.out x hx)⟩), HRt.out.2.2.2⟩
                · have hl1 : ¬ rest.toList = [] := fun e => hr0 (by rw [ByteArray.toList_eq] at e; have := congrArg List.length e; simpa using this)
                  have hl2 : rest.toList.isEmpty = false := by cases h : rest.toList with | nil => exact absurd h hl1 | cons => rfl
                  go_region_held3 (fun w' => w'.cell? ⟨Bn, 0, none⟩ = some (.slice A0 ks.length e0) ∧ w'.cell? ⟨Bn, 1, none⟩ = some (.slice none 0 0) ∧ w'.cell? ⟨Bn, 2, none⟩ = some (.slice A2 kd.length e2) ∧ w'.cell? ⟨B, 0, none⟩ = some (.string rest) ∧ w'.cell? ⟨Bo, 0, none⟩ = some (.bool true)) (go_keep) (fail)
                  go_wp2_with fail
                  refine bodyPost_ret (v := .tuple #[.agg #[.slice A0 ks.length e0, .slice none 0 0, .slice A2 kd.length e2], .bool false]) (by simp [results, Tryd.results54, go_sem, r0, r1, r2]) rfl ?_
                  unfold PartsPost
                  rw [HPR.out]
                  exact ⟨A0, e0, none, 0, A2, e2, (by rw [show ((rest, true).2 && decide ((rest, true).1.size = 0)) = false from by simp [hr0]]; first | done | rfl), (fun wz hz => ⟨own_ints1 (own_move HRt.out.1 (fun k hk => hz k (by have := own_base HRt.out.1 k hk; have := HNB.out; omega) (own_lt HRt.out.1 k hk))), strs_nil _ _ _, own_ints1 (own_move HRt.out.2.2.1 (fun k hk => hz k (by have := own_base HRt.out.2.2.1 k hk; have := HNB.out; omega) (own_lt HRt.out.2.2.1 k hk))), fun x hx => wf_of (HBd.out x hx)⟩), HRt.out.2.2.2⟩
end Go.Proofs.YtbiijkpffllimaaDoor
