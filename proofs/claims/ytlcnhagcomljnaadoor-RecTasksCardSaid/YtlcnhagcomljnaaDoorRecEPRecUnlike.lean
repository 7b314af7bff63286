/- rec: LayAll and ReadAll by their contracts. -/
import Derived.Test.YtlcnhagcomljnaaDoorRecDPRecUnlike
namespace Go.Proofs.YtlcnhagcomljnaaDoor
open Go.RowKit Go.Extern.Stop Go.Stop Go.Extern Go.Proofs.YtlcnhagcomljnaaDoorW.PrintWords Go.Proofs.YtlcnhagcomljnaaDoorW.PrintLast Go.Proofs.YtlcnhagcomljnaaDoorW.PrintMore Go.Proofs.YtlcnhagcomljnaaDoor.PRecUnlike
set_option linter.unusedVariables false
set_option linter.unusedSimpArgs false

section
variable {P : Program} {ops : Array Oper} {rest : List Oper} {a : Act} {w : World} {Q : Exit → Act → World → Prop}
theorem at_ld (ty : TypeId) (x : Operand) {d : Option Tmp} {t : TypeId} {s : String} {f : Array Edge} {g : Option (Nat × Bool)} (h : wpList P ops Q (⟨d, .load ty x, t, s, f, g⟩ :: rest) a w) : wpList P ops Q (⟨d, .load ty x, t, s, f, g⟩ :: rest) a w := h
end
theorem read8 (W : World) (b o : Nat) (b0 b1 b2 b3 b4 b5 b6 b7 : UInt8) (h : ∀ j, j < 8 → W.cell? ⟨b, o + j, none⟩ = some (.int .u8 ((([b0, b1, b2, b3, b4, b5, b6, b7] : List UInt8).map (fun x => (x.toNat : Int))).getD j 0))) : (convert 100 9 (.slice (some ⟨b, o, none⟩) 8 8)).run Tryd.prog W = .ok (.string (strL [b0, b1, b2, b3, b4, b5, b6, b7])) W := by
  have hr : ReadsInt W .u8 (some ⟨b, o, none⟩) 8 (([b0, b1, b2, b3, b4, b5, b6, b7] : List UInt8).map (fun x => (x.toNat : Int))) := by
    refine ⟨rfl, by simp, fun _ => ⟨_, rfl, fun j hj => ?_⟩⟩
    rw [Go.WideShapes.add_plain]
    exact h j (by simpa using hj)
  rw [string_of_reads Tryd.underlying100 Tryd.underlying5 Tryd.underlying9 hr]
  congr 2
  simp [strOfNums, strL]
theorem build_all (k : Int) (b0 b1 b2 b3 b4 b5 b6 b7 : UInt8) (w : World) : (Instr.build 45 #[(0, .int .i64 k), (1, .agg #[.int .u8 (b0.toNat : Int), .int .u8 (b1.toNat : Int), .int .u8 (b2.toNat : Int), .int .u8 (b3.toNat : Int), .int .u8 (b4.toNat : Int), .int .u8 (b5.toNat : Int), .int .u8 (b6.toNat : Int), .int .u8 (b7.toNat : Int)])]).run Tryd.prog w = .ok (.agg #[.int .i64 k, .int .u8 (b0.toNat : Int), .int .u8 (b1.toNat : Int), .int .u8 (b2.toNat : Int), .int .u8 (b3.toNat : Int), .int .u8 (b4.toNat : Int), .int .u8 (b5.toNat : Int), .int .u8 (b6.toNat : Int), .int .u8 (b7.toNat : Int)]) w := by kernel_rfl
theorem build_zero (w : World) : (Instr.build 45 #[]).run Tryd.prog w = .ok (.agg #[.int .i64 0, .int .u8 0, .int .u8 0, .int .u8 0, .int .u8 0, .int .u8 0, .int .u8 0, .int .u8 0, .int .u8 0]) w := by kernel_rfl
theorem array_at (b c : Nat) (w : World) : (Instr.arrayAt 39 (.slice (some ⟨b, 0, none⟩) 8 c)).run Tryd.prog w = .ok (.pointer (some ⟨b, 0, none⟩)) w := by kernel_rfl
theorem bytes_new (b0 b1 b2 b3 b4 b5 b6 b7 : UInt8) (w : World) : (convert 9 100 (.string (strL [b0, b1, b2, b3, b4, b5, b6, b7]))).run Tryd.prog w = .ok (.slice (some ⟨w.heap.size, 0, none⟩) 8 (grownCap w 8 0 5))
      (w.drew.alloc (.cells (bytesRow (strL [b0, b1, b2, b3, b4, b5, b6, b7]) (grownCap w 8 0 5)) 5 ((bytesRow (strL [b0, b1, b2, b3, b4, b5, b6, b7]) (grownCap w 8 0 5)).size, (bytesRow (strL [b0, b1, b2, b3, b4, b5, b6, b7]) (grownCap w 8 0 5)).size + 1))) :=
  run_bytes_of_string w 9 100 5 (strL [b0, b1, b2, b3, b4, b5, b6, b7]) Tryd.underlying9 Tryd.underlying100 Tryd.underlying5
theorem bytes_range (b0 b1 b2 b3 b4 b5 b6 b7 : UInt8) (w : World) (c : Nat) (t : TypeId) (fr : Nat × Nat) : (w.alloc (.cells (bytesRow (strL [b0, b1, b2, b3, b4, b5, b6, b7]) c) t fr)).rangeAt w.heap.size 0 [.int .u8 (b0.toNat : Int), .int .u8 (b1.toNat : Int), .int .u8 (b2.toNat : Int), .int .u8 (b3.toNat : Int), .int .u8 (b4.toNat : Int), .int .u8 (b5.toNat : Int), .int .u8 (b6.toNat : Int), .int .u8 (b7.toNat : Int)] := fun j v hv => by
  rw [Nat.zero_add, cell_of_row _ _ j _ t fr (heap_alloc_last w _)]
  have hj : j < 8 := by
    have := (List.getElem?_eq_some_iff.1 hv).1
    simpa using this
  have e : (bytesRow (strL [b0, b1, b2, b3, b4, b5, b6, b7]) c)[j]? = ([.int .u8 (b0.toNat : Int), .int .u8 (b1.toNat : Int), .int .u8 (b2.toNat : Int), .int .u8 (b3.toNat : Int), .int .u8 (b4.toNat : Int), .int .u8 (b5.toNat : Int), .int .u8 (b6.toNat : Int), .int .u8 (b7.toNat : Int)] : List Value)[j]? := by
    unfold bytesRow
    rw [Array.getElem?_append_left (by simpa [strL] using hj)]
    simp [strL]
  rw [e]; exact hv
set_option maxHeartbeats 2000000 in
set_option maxRecDepth 100000 in
theorem lay_all_ok (k : Int) (b0 b1 b2 b3 b4 b5 b6 b7 : UInt8) (hr : Al.right ⟨k, [b0, b1, b2, b3, b4, b5, b6, b7]⟩ = true) (w : World) : Calls Tryd.prog 21 #[.agg #[.int .i64 k, .int .u8 (b0.toNat : Int), .int .u8 (b1.toNat : Int), .int .u8 (b2.toNat : Int), .int .u8 (b3.toNat : Int), .int .u8 (b4.toNat : Int), .int .u8 (b5.toNat : Int), .int .u8 (b6.toNat : Int), .int .u8 (b7.toNat : Int)]] w fun e w' => e = .returned (.tuple #[.string (Al.lay ⟨k, [b0, b1, b2, b3, b4, b5, b6, b7]⟩), .nilIface]) ∧ Below w.heap.size w w' := by
  have HL := Lib.hid (show putB 4 k ++ strL [b0, b1, b2, b3, b4, b5, b6, b7] = Al.lay ⟨k, [b0, b1, b2, b3, b4, b5, b6, b7]⟩ by unfold Al.lay; rw [if_pos hr])
  have HR : Hid (decide (0 ≤ k ∧ k ≤ 2147483647) = true) := Lib.hid hr
  clear hr
  have HB0 : Hid (Below w.heap.size w (w.alloc (.cells #[.int .i64 k, .int .u8 (b0.toNat : Int), .int .u8 (b1.toNat : Int), .int .u8 (b2.toNat : Int), .int .u8 (b3.toNat : Int), .int .u8 (b4.toNat : Int), .int .u8 (b5.toNat : Int), .int .u8 (b6.toNat : Int), .int .u8 (b7.toNat : Int)] 45))) := Lib.hid ((Below.refl _ _).alloc (Nat.le_refl _) _)
  go_enter Tryd.func21, Tryd.ntmps21
  go_wp2_with fail
  refine (in_q k 0 2147483647 _ HR.out _).mono ?_
  rintro e _ ⟨rfl, rfl⟩
  go_wp2_with fail
  have hcat : ¬ (9223372036854775807 < (putB 4 k).size + (strL [b0, b1, b2, b3, b4, b5, b6, b7]).size) := by have := putB_le 4 k; have e : (strL [b0, b1, b2, b3, b4, b5, b6, b7]).size = 8 := rfl; omega
  have hS0 : ((w.alloc (.cells #[.int .i64 k, .int .u8 (b0.toNat : Int), .int .u8 (b1.toNat : Int), .int .u8 (b2.toNat : Int), .int .u8 (b3.toNat : Int), .int .u8 (b4.toNat : Int), .int .u8 (b5.toNat : Int), .int .u8 (b6.toNat : Int), .int .u8 (b7.toNat : Int)] 45)).drew).cell? ⟨w.heap.size, 0, none⟩ = some (.int .i64 k) ∧ ((w.alloc (.cells #[.int .i64 k, .int .u8 (b0.toNat : Int), .int .u8 (b1.toNat : Int), .int .u8 (b2.toNat : Int), .int .u8 (b3.toNat : Int), .int .u8 (b4.toNat : Int), .int .u8 (b5.toNat : Int), .int .u8 (b6.toNat : Int), .int .u8 (b7.toNat : Int)] 45)).drew).cell? ⟨w.heap.size, 1, none⟩ = some (.int .u8 (b0.toNat : Int)) ∧ ((w.alloc (.cells #[.int .i64 k, .int .u8 (b0.toNat : Int), .int .u8 (b1.toNat : Int), .int .u8 (b2.toNat : Int), .int .u8 (b3.toNat : Int), .int .u8 (b4.toNat : Int), .int .u8 (b5.toNat : Int), .int .u8 (b6.toNat : Int), .int .u8 (b7.toNat : Int)] 45)).drew).cell? ⟨w.heap.size, 2, none⟩ = some (.int .u8 (b1.toNat : Int)) ∧ ((w.alloc (.cells #[.int .i64 k, .int .u8 (b0.toNat : Int), .int .u8 (b1.toNat : Int), .int .u8 (b2.toNat : Int), .int .u8 (b3.toNat : Int), .int .u8 (b4.toNat : Int), .int .u8 (b5.toNat : Int), .int .u8 (b6.toNat : Int), .int .u8 (b7.toNat : Int)] 45)).drew).cell? ⟨w.heap.size, 3, none⟩ = some (.int .u8 (b2.toNat : Int)) ∧ ((w.alloc (.cells #[.int .i64 k, .int .u8 (b0.toNat : Int), .int .u8 (b1.toNat : Int), .int .u8 (b2.toNat : Int), .int .u8 (b3.toNat : Int), .int .u8 (b4.toNat : Int), .int .u8 (b5.toNat : Int), .int .u8 (b6.toNat : Int), .int .u8 (b7.toNat : Int)] 45)).drew).cell? ⟨w.heap.size, 4, none⟩ = some (.int .u8 (b3.toNat : Int)) ∧ ((w.alloc (.cells #[.int .i64 k, .int .u8 (b0.toNat : Int), .int .u8 (b1.toNat : Int), .int .u8 (b2.toNat : Int), .int .u8 (b3.toNat : Int), .int .u8 (b4.toNat : Int), .int .u8 (b5.toNat : Int), .int .u8 (b6.toNat : Int), .int .u8 (b7.toNat : Int)] 45)).drew).cell? ⟨w.heap.size, 5, none⟩ = some (.int .u8 (b4.toNat : Int)) ∧ ((w.alloc (.cells #[.int .i64 k, .int .u8 (b0.toNat : Int), .int .u8 (b1.toNat : Int), .int .u8 (b2.toNat : Int), .int .u8 (b3.toNat : Int), .int .u8 (b4.toNat : Int), .int .u8 (b5.toNat : Int), .int .u8 (b6.toNat : Int), .int .u8 (b7.toNat : Int)] 45)).drew).cell? ⟨w.heap.size, 6, none⟩ = some (.int .u8 (b5.toNat : Int)) ∧ ((w.alloc (.cells #[.int .i64 k, .int .u8 (b0.toNat : Int), .int .u8 (b1.toNat : Int), .int .u8 (b2.toNat : Int), .int .u8 (b3.toNat : Int), .int .u8 (b4.toNat : Int), .int .u8 (b5.toNat : Int), .int .u8 (b6.toNat : Int), .int .u8 (b7.toNat : Int)] 45)).drew).cell? ⟨w.heap.size, 7, none⟩ = some (.int .u8 (b6.toNat : Int)) ∧ ((w.alloc (.cells #[.int .i64 k, .int .u8 (b0.toNat : Int), .int .u8 (b1.toNat : Int), .int .u8 (b2.toNat : Int), .int .u8 (b3.toNat : Int), .int .u8 (b4.toNat : Int), .int .u8 (b5.toNat : Int), .int .u8 (b6.toNat : Int), .int .u8 (b7.toNat : Int)] 45)).drew).cell? ⟨w.heap.size, 8, none⟩ = some (.int .u8 (b7.toNat : Int)) := ⟨by simp [go_sem], by simp [go_sem], by simp [go_sem], by simp [go_sem], by simp [go_sem], by simp [go_sem], by simp [go_sem], by simp [go_sem], by simp [go_sem]⟩
  refine wp_region_held_drew (S := fun w' => (w').cell? ⟨w.heap.size, 0, none⟩ = some (.int .i64 k) ∧ (w').cell? ⟨w.heap.size, 1, none⟩ = some (.int .u8 (b0.toNat : Int)) ∧ (w').cell? ⟨w.heap.size, 2, none⟩ = some (.int .u8 (b1.toNat : Int)) ∧ (w').cell? ⟨w.heap.size, 3, none⟩ = some (.int .u8 (b2.toNat : Int)) ∧ (w').cell? ⟨w.heap.size, 4, none⟩ = some (.int .u8 (b3.toNat : Int)) ∧ (w').cell? ⟨w.heap.size, 5, none⟩ = some (.int .u8 (b4.toNat : Int)) ∧ (w').cell? ⟨w.heap.size, 6, none⟩ = some (.int .u8 (b5.toNat : Int)) ∧ (w').cell? ⟨w.heap.size, 7, none⟩ = some (.int .u8 (b6.toNat : Int)) ∧ (w').cell? ⟨w.heap.size, 8, none⟩ = some (.int .u8 (b7.toNat : Int))) (by kernel_rfl) ?_ (fun hHeld => ?_)
  · exact hS0
  refine wpAnyH_take (i := 0) (oi := { dst := Option.some 9, op := Go.Op.fieldAddr 45 (Go.Operand.tmp 1) 0, type := 0, pos := "rec.go:76", after := #[], guard := Option.none }) (v := ?_) rfl (by kernel_rfl) (by kernel_rfl) (by kernel_rfl) (fun _ _ _ h => h) (Or.inl ⟨by rfl, ?_⟩) (by assumption) ?_
  rotate_left
  · intro w hSw; (try dsimp only at hSw); go_simp; (try with_reducible rfl)
  simp only [Act.put, List.setIfInBounds_toArray, List.set_cons_zero, List.set_cons_succ]
  refine wpAnyH_take (i := 1) (oi := { dst := Option.some 10, op := Go.Op.load 3 (Go.Operand.tmp 9), type := 3, pos := "rec.go:76", after := #[{ on := 0, ground := Go.Ground.data }], guard := Option.none }) (v := ?_) rfl (by kernel_rfl) (by kernel_rfl) (by kernel_rfl) (fun _ _ _ h => h) (Or.inl ⟨by rfl, ?_⟩) (by assumption) ?_
  rotate_left
  · intro w hSw; (try dsimp only at hSw); go_simp; (try with_reducible rfl)
  simp only [Act.put, List.setIfInBounds_toArray, List.set_cons_zero, List.set_cons_succ]
  refine wpAnyH_take (i := 3) (oi := { dst := Option.some 12, op := Go.Op.fieldAddr 45 (Go.Operand.tmp 1) 1, type := 0, pos := "rec.go:76", after := #[], guard := Option.none }) (v := ?_) rfl (by kernel_rfl) (by kernel_rfl) (by kernel_rfl) (fun _ _ _ h => h) (Or.inl ⟨by rfl, ?_⟩) (by assumption) ?_
  rotate_left
  · intro w hSw; (try dsimp only at hSw); go_simp; (try with_reducible rfl)
  simp only [Act.put, List.setIfInBounds_toArray, List.set_cons_zero, List.set_cons_succ]
  refine wpAnyH_take (i := 4) (oi := { dst := Option.some 13, op := Go.Op.slice 39 (Go.Operand.tmp 12) Option.none Option.none Option.none, type := 100, pos := "rec.go:76", after := #[{ on := 3, ground := Go.Ground.data }], guard := Option.none }) (v := ?_) rfl (by kernel_rfl) (by kernel_rfl) (by kernel_rfl) (fun _ _ _ h => h) (Or.inl ⟨by rfl, ?_⟩) (by assumption) ?_
  rotate_left
  · intro w hSw; (try dsimp only at hSw); go_simp; (try with_reducible rfl)
  simp only [Act.put, List.setIfInBounds_toArray, List.set_cons_zero, List.set_cons_succ]
  refine wpAnyH_take (i := 5) (oi := { dst := Option.some 14, op := Go.Op.convert 100 9 (Go.Operand.tmp 13), type := 9, pos := "rec.go:76", after := #[{ on := 4, ground := Go.Ground.data }], guard := Option.none }) (v := ?_) rfl (by kernel_rfl) (by kernel_rfl) (by kernel_rfl) (fun _ _ _ h => h) (Or.inl ⟨by rfl, ?_⟩) (by assumption) ?_
  rotate_left
  · intro w hSw; (try dsimp only at hSw); obtain ⟨_, g0, g1, g2, g3, g4, g5, g6, g7⟩ := hSw; have hcv := read8 w _ 1 b0 b1 b2 b3 b4 b5 b6 b7 (fun j hj => by have hj2 : j = 0 ∨ j = 1 ∨ j = 2 ∨ j = 3 ∨ j = 4 ∨ j = 5 ∨ j = 6 ∨ j = 7 := (by omega); rcases hj2 with rfl | rfl | rfl | rfl | rfl | rfl | rfl | rfl <;> assumption); go_simp; (try with_reducible rfl)
  simp only [Act.put, List.setIfInBounds_toArray, List.set_cons_zero, List.set_cons_succ]
  refine wpAnyH_ready (rs := [2]) (by kernel_rfl) (by simp) ?_
  refine AllReadyH.cons (o := { dst := Option.some 11, op := Go.Op.call { callee := Go.Callee.value (Go.Operand.func 54), args := #[Go.Operand.const (Go.Value.int Go.IntKind.i64 4), Go.Operand.tmp 10], argTypes := #[3, 3] }, type := 9, pos := "rec.go:76", after := #[{ on := 1, ground := Go.Ground.data }], guard := Option.none }) rfl (fun K hK => ?_) AllReadyH.nil
  go_simp
  refine (Put_any 4 k _).mono ?_
  rintro e wn ⟨rfl, hb⟩
  have hKn : (wn).cell? ⟨w.heap.size, 0, none⟩ = some (.int .i64 k) ∧ (wn).cell? ⟨w.heap.size, 1, none⟩ = some (.int .u8 (b0.toNat : Int)) ∧ (wn).cell? ⟨w.heap.size, 2, none⟩ = some (.int .u8 (b1.toNat : Int)) ∧ (wn).cell? ⟨w.heap.size, 3, none⟩ = some (.int .u8 (b2.toNat : Int)) ∧ (wn).cell? ⟨w.heap.size, 4, none⟩ = some (.int .u8 (b3.toNat : Int)) ∧ (wn).cell? ⟨w.heap.size, 5, none⟩ = some (.int .u8 (b4.toNat : Int)) ∧ (wn).cell? ⟨w.heap.size, 6, none⟩ = some (.int .u8 (b5.toNat : Int)) ∧ (wn).cell? ⟨w.heap.size, 7, none⟩ = some (.int .u8 (b6.toNat : Int)) ∧ (wn).cell? ⟨w.heap.size, 8, none⟩ = some (.int .u8 (b7.toNat : Int)) := ⟨(hb.cell (p := ⟨w.heap.size, 0, none⟩) (by simp [World.drew])).trans (by simp [go_sem]), (hb.cell (p := ⟨w.heap.size, 1, none⟩) (by simp [World.drew])).trans (by simp [go_sem]), (hb.cell (p := ⟨w.heap.size, 2, none⟩) (by simp [World.drew])).trans (by simp [go_sem]), (hb.cell (p := ⟨w.heap.size, 3, none⟩) (by simp [World.drew])).trans (by simp [go_sem]), (hb.cell (p := ⟨w.heap.size, 4, none⟩) (by simp [World.drew])).trans (by simp [go_sem]), (hb.cell (p := ⟨w.heap.size, 5, none⟩) (by simp [World.drew])).trans (by simp [go_sem]), (hb.cell (p := ⟨w.heap.size, 6, none⟩) (by simp [World.drew])).trans (by simp [go_sem]), (hb.cell (p := ⟨w.heap.size, 7, none⟩) (by simp [World.drew])).trans (by simp [go_sem]), (hb.cell (p := ⟨w.heap.size, 8, none⟩) (by simp [World.drew])).trans (by simp [go_sem])⟩
  have HBn := Lib.hid (show Below w.heap.size w wn from HB0.out.trans (((Below.drew (Below.refl _ _)).trans hb).mono HB0.out.size))
  clear hb
  go_wp2_with fail
  refine hK.out _ _ hKn (fun hHeld2 => ?_)
  clear hK K
  try simp only [Act.put, List.setIfInBounds_toArray, List.set_cons_zero, List.set_cons_succ]
  refine wpAnyH_take (i := 6) (oi := { dst := Option.some 15, op := Go.Op.binOp Go.BinOp.add 9 (Go.Operand.tmp 11) (Go.Operand.tmp 14) 9, type := 9, pos := "rec.go:76", after := #[{ on := 2, ground := Go.Ground.data }, { on := 5, ground := Go.Ground.data }], guard := Option.none }) (v := ?_) rfl (by kernel_rfl) (by kernel_rfl) (by kernel_rfl) (fun _ _ _ h => h) (Or.inl ⟨by rfl, ?_⟩) (by assumption) ?_
  rotate_left
  · intro w hSw; (try dsimp only at hSw); go_simp; (try with_reducible rfl)
  simp only [Act.put, List.setIfInBounds_toArray, List.set_cons_zero, List.set_cons_succ]
  refine wpAnyH_take (i := 7) (oi := { dst := Option.some 2, op := Go.Op.assign (Go.Operand.tmp 15), type := 9, pos := "rec.go:76", after := #[{ on := 6, ground := Go.Ground.data }, { on := 2, ground := Go.Ground.chain }, { on := 0, ground := Go.Ground.phase }, { on := 1, ground := Go.Ground.phase }, { on := 2, ground := Go.Ground.phase }, { on := 3, ground := Go.Ground.phase }, { on := 4, ground := Go.Ground.phase }, { on := 5, ground := Go.Ground.phase }, { on := 6, ground := Go.Ground.phase }], guard := Option.none }) (v := ?_) rfl (by kernel_rfl) (by kernel_rfl) (by kernel_rfl) (fun _ _ _ h => h) (Or.inl ⟨by rfl, ?_⟩) (by assumption) ?_
  rotate_left
  · intro w hSw; (try dsimp only at hSw); go_simp; (try with_reducible rfl)
  simp only [Act.put, List.setIfInBounds_toArray, List.set_cons_zero, List.set_cons_succ]
  refine wpAnyH_take (i := 8) (oi := { dst := Option.some 3, op := Go.Op.assign (Go.Operand.const Go.Value.nilIface), type := 27, pos := "rec.go:76", after := #[{ on := 7, ground := Go.Ground.chain }, { on := 0, ground := Go.Ground.phase }, { on := 1, ground := Go.Ground.phase }, { on := 2, ground := Go.Ground.phase }, { on := 3, ground := Go.Ground.phase }, { on := 4, ground := Go.Ground.phase }, { on := 5, ground := Go.Ground.phase }, { on := 6, ground := Go.Ground.phase }, { on := 7, ground := Go.Ground.phase }], guard := Option.none }) (v := ?_) rfl (by kernel_rfl) (by kernel_rfl) (by kernel_rfl) (fun _ _ _ h => h) (Or.inl ⟨by rfl, ?_⟩) (by assumption) ?_
  rotate_left
  · intro w hSw; (try dsimp only at hSw); go_simp; (try with_reducible rfl)
  simp only [Act.put, List.setIfInBounds_toArray, List.set_cons_zero, List.set_cons_succ]
  refine wpAnyH_done (by kernel_rfl) ?_ _
  go_wp2_with fail
  go_ret2
  exact ⟨by rw [HL.out]; rfl, HBn.out⟩
set_option maxHeartbeats 2000000 in
set_option maxRecDepth 100000 in
theorem lay_all_no (k : Int) (b0 b1 b2 b3 b4 b5 b6 b7 : UInt8) (hr : Al.right ⟨k, [b0, b1, b2, b3, b4, b5, b6, b7]⟩ = false) (w : World) : Calls Tryd.prog 21 #[.agg #[.int .i64 k, .int .u8 (b0.toNat : Int), .int .u8 (b1.toNat : Int), .int .u8 (b2.toNat : Int), .int .u8 (b3.toNat : Int), .int .u8 (b4.toNat : Int), .int .u8 (b5.toNat : Int), .int .u8 (b6.toNat : Int), .int .u8 (b7.toNat : Int)]] w (LayPost w) := by
  have HR : Hid (decide (0 ≤ k ∧ k ≤ 2147483647) = false) := Lib.hid hr
  clear hr
  have HB0 : Hid (Below w.heap.size w (w.alloc (.cells #[.int .i64 k, .int .u8 (b0.toNat : Int), .int .u8 (b1.toNat : Int), .int .u8 (b2.toNat : Int), .int .u8 (b3.toNat : Int), .int .u8 (b4.toNat : Int), .int .u8 (b5.toNat : Int), .int .u8 (b6.toNat : Int), .int .u8 (b7.toNat : Int)] 45))) := Lib.hid ((Below.refl _ _).alloc (Nat.le_refl _) _)
  go_enter Tryd.func21, Tryd.ntmps21
  go_wp2_with fail
  refine (in_q k 0 2147483647 _ HR.out _).mono ?_
  rintro e _ ⟨rfl, rfl⟩
  go_wp2_with fail
  refine (size_err _).mono ?_
  rintro e w2 ⟨v, rfl, he, hb⟩
  have HE := Lib.hid he
  have HB2 := Lib.hid (HB0.out.trans (hb.mono HB0.out.size))
  clear he hb
  go_wp2_with fail
  go_ret2
  exact ⟨v, rfl, HE.out.mono HB0.out.size, HB2.out⟩
set_option maxHeartbeats 2000000 in
set_option maxRecDepth 100000 in
theorem read_all_short (s : ByteArray) (hs : s.size ≤ 9223372036854775807) (h12 : s.size ≠ 12) (w : World) : Calls Tryd.prog 23 #[.string s] w fun e w' => ∃ v, e = .returned (.tuple #[.agg #[.int .i64 0, .int .u8 0, .int .u8 0, .int .u8 0, .int .u8 0, .int .u8 0, .int .u8 0, .int .u8 0, .int .u8 0], v]) ∧ ErrC w.heap.size w' v 2 ∧ Below w.heap.size w w' := by
  have hne : ((s.size : Int) != 12) = true := by simp; omega
  have hbz := build_zero
  have HB0 : Hid (Below w.heap.size w (w.alloc (.cells #[.int .i64 0, .int .u8 0, .int .u8 0, .int .u8 0, .int .u8 0, .int .u8 0, .int .u8 0, .int .u8 0, .int .u8 0] 45))) := Lib.hid ((Below.refl _ _).alloc (Nat.le_refl _) _)
  go_enter Tryd.func23, Tryd.ntmps23
  go_wp2_with fail
  refine (Tag_err _ 2 _).mono ?_
  rintro e wn ⟨v, rfl, he, hb⟩
  have HE := Lib.hid he
  have HBn := Lib.hid (show Below w.heap.size w wn from HB0.out.trans (hb.mono HB0.out.size))
  have HTn : Hid (wn.there w.heap.size 0 9) := Lib.hid (there_under hb (by simp) (there_last _ _ _ _ (by simp) rfl))
  clear he hb
  go_wp2_with ((with_reducible refine at_st 45 (.tmp 2) (.tmp 9) ?_); refine wpList_store_mid rfl 45 _ _ rfl w.heap.size 0 #[.int .i64 0, .int .u8 0, .int .u8 0, .int .u8 0, .int .u8 0, .int .u8 0, .int .u8 0, .int .u8 0, .int .u8 0] rfl rfl HTn.out (by kernel_rfl) (by simp [Value.oneCell']) ?_; dsimp only [Array.toList])
  have hld := run_loadVar_mid (P := Tryd.prog) (wn.setCells w.heap.size 0 [.int .i64 0, .int .u8 0, .int .u8 0, .int .u8 0, .int .u8 0, .int .u8 0, .int .u8 0, .int .u8 0, .int .u8 0]) w.heap.size 0 45 [.int .i64 0, .int .u8 0, .int .u8 0, .int .u8 0, .int .u8 0, .int .u8 0, .int .u8 0, .int .u8 0, .int .u8 0] _ (World.rangeAt_setCells_same wn _ _ _ HTn.out) Tryd.underlying45 rfl (by kernel_rfl)
  refine bodyPost_ret (v := .tuple #[.agg #[.int .i64 0, .int .u8 0, .int .u8 0, .int .u8 0, .int .u8 0, .int .u8 0, .int .u8 0, .int .u8 0, .int .u8 0], v]) (results_two Tryd.results23 _ _ _ _ _ rfl rfl hld) rfl ⟨_, rfl, ?_, ?_⟩
  · exact (err_set HE.out (by simp)).mono HB0.out.size
  · exact HBn.out.trans (below_set _ _ _ _ _ (Nat.le_refl _))
set_option maxHeartbeats 2000000 in
set_option maxRecDepth 100000 in
theorem read_all_ok_ (s : ByteArray) (b0 b1 b2 b3 b4 b5 b6 b7 : UInt8) (h12 : s.size = 12) (hx : s.extract 4 12 = strL [b0, b1, b2, b3, b4, b5, b6, b7]) (w : World)
    (hsame : Hid (∀ w, Calls Tryd.prog 58 #[.agg #[.int .i64 (getK s 4), .int .u8 (b0.toNat : Int), .int .u8 (b1.toNat : Int), .int .u8 (b2.toNat : Int), .int .u8 (b3.toNat : Int), .int .u8 (b4.toNat : Int), .int .u8 (b5.toNat : Int), .int .u8 (b6.toNat : Int), .int .u8 (b7.toNat : Int)], .func (.func 21) #[] #[], .string s] w fun e w' => e = .returned (.tuple #[.agg #[.int .i64 (getK s 4), .int .u8 (b0.toNat : Int), .int .u8 (b1.toNat : Int), .int .u8 (b2.toNat : Int), .int .u8 (b3.toNat : Int), .int .u8 (b4.toNat : Int), .int .u8 (b5.toNat : Int), .int .u8 (b6.toNat : Int), .int .u8 (b7.toNat : Int)], .nilIface]) ∧ Below w.heap.size w w')) :
    Calls Tryd.prog 23 #[.string s] w fun e w' => e = .returned (.tuple #[.agg #[.int .i64 (getK s 4), .int .u8 (b0.toNat : Int), .int .u8 (b1.toNat : Int), .int .u8 (b2.toNat : Int), .int .u8 (b3.toNat : Int), .int .u8 (b4.toNat : Int), .int .u8 (b5.toNat : Int), .int .u8 (b6.toNat : Int), .int .u8 (b7.toNat : Int)], .nilIface]) ∧ Below w.heap.size w w' := by
  have hne : ((s.size : Int) != 12) = false := by simp; omega
  have HG := Lib.hid (fun W => Get_ok s 4 W (by decide) (by omega) (by omega))
  have HB0 : Hid (Below w.heap.size w (w.alloc (.cells #[.int .i64 0, .int .u8 0, .int .u8 0, .int .u8 0, .int .u8 0, .int .u8 0, .int .u8 0, .int .u8 0, .int .u8 0] 45))) := Lib.hid ((Below.refl _ _).alloc (Nat.le_refl _) _)
  go_enter Tryd.func23, Tryd.ntmps23
  go_wp2_with fail
  refine (HG.out _).mono ?_
  rintro e w1 ⟨rfl, hb⟩
  have HB1 := Lib.hid (show Below (w.alloc (.cells #[.int .i64 0, .int .u8 0, .int .u8 0, .int .u8 0, .int .u8 0, .int .u8 0, .int .u8 0, .int .u8 0, .int .u8 0] 45)).heap.size (w.alloc (.cells #[.int .i64 0, .int .u8 0, .int .u8 0, .int .u8 0, .int .u8 0, .int .u8 0, .int .u8 0, .int .u8 0, .int .u8 0] 45)) w1 from hb)
  clear hb
  have hcv := bytes_new b0 b1 b2 b3 b4 b5 b6 b7
  have hbd := build_all (getK s 4) b0 b1 b2 b3 b4 b5 b6 b7
  have hap := array_at
  have hz4 : (4 : Nat) ≤ s.size := by omega
  go_wp2_with ((with_reducible refine at_ld 39 (.tmp 21) ?_); refine wpList_load_mid rfl 39 _ rfl w1.heap.size 0 rfl [.int .u8 (b0.toNat : Int), .int .u8 (b1.toNat : Int), .int .u8 (b2.toNat : Int), .int .u8 (b3.toNat : Int), .int .u8 (b4.toNat : Int), .int .u8 (b5.toNat : Int), .int .u8 (b6.toNat : Int), .int .u8 (b7.toNat : Int)] _ ?_ Tryd.underlying39 rfl (by kernel_rfl) ?_; · exact bytes_range _ _ _ _ _ _ _ _ _ _ _ _)
  refine (hsame.out _).mono ?_
  rintro e wn ⟨rfl, hb⟩
  have hb2 := (Below.trans (Below.drew (Below.alloc (Below.refl w1.heap.size w1) (Nat.le_refl _) _)) (Below.mono hb (by simp [World.drew])) : Below w1.heap.size w1 wn)
  have HBw : Hid (w.heap.size < w1.heap.size) := Lib.hid (Nat.lt_of_lt_of_le (by simp) HB1.out.size)
  have HBn := Lib.hid (show Below w.heap.size w wn from (HB0.out.trans (HB1.out.mono HB0.out.size)).trans (hb2.mono (by have := HBw.out; omega)))
  have HTn : Hid (wn.there w.heap.size 0 9) := Lib.hid (there_under hb2 HBw.out (there_under HB1.out (by simp) (there_last _ _ _ _ (by simp) rfl)))
  clear hb hb2
  go_wp2_with ((with_reducible refine at_st 45 (.tmp 2) (.tmp 26) ?_); refine wpList_store_mid rfl 45 _ _ rfl w.heap.size 0 #[.int .i64 (getK s 4), .int .u8 (b0.toNat : Int), .int .u8 (b1.toNat : Int), .int .u8 (b2.toNat : Int), .int .u8 (b3.toNat : Int), .int .u8 (b4.toNat : Int), .int .u8 (b5.toNat : Int), .int .u8 (b6.toNat : Int), .int .u8 (b7.toNat : Int)] rfl rfl HTn.out (by kernel_rfl) (by simp [Value.oneCell']) ?_; dsimp only [Array.toList])
  have hld := run_loadVar_mid (P := Tryd.prog) (wn.setCells w.heap.size 0 [.int .i64 (getK s 4), .int .u8 (b0.toNat : Int), .int .u8 (b1.toNat : Int), .int .u8 (b2.toNat : Int), .int .u8 (b3.toNat : Int), .int .u8 (b4.toNat : Int), .int .u8 (b5.toNat : Int), .int .u8 (b6.toNat : Int), .int .u8 (b7.toNat : Int)]) w.heap.size 0 45 [.int .i64 (getK s 4), .int .u8 (b0.toNat : Int), .int .u8 (b1.toNat : Int), .int .u8 (b2.toNat : Int), .int .u8 (b3.toNat : Int), .int .u8 (b4.toNat : Int), .int .u8 (b5.toNat : Int), .int .u8 (b6.toNat : Int), .int .u8 (b7.toNat : Int)] _ (World.rangeAt_setCells_same wn _ _ _ HTn.out) Tryd.underlying45 rfl (by kernel_rfl)
  refine bodyPost_ret (v := .tuple #[.agg #[.int .i64 (getK s 4), .int .u8 (b0.toNat : Int), .int .u8 (b1.toNat : Int), .int .u8 (b2.toNat : Int), .int .u8 (b3.toNat : Int), .int .u8 (b4.toNat : Int), .int .u8 (b5.toNat : Int), .int .u8 (b6.toNat : Int), .int .u8 (b7.toNat : Int)], .nilIface]) (results_two Tryd.results23 _ _ _ _ _ rfl rfl hld) rfl ⟨rfl, ?_⟩
  exact HBn.out.trans (below_set _ _ _ _ _ (Nat.le_refl _))
set_option maxHeartbeats 2000000 in
set_option maxRecDepth 100000 in
theorem read_all_no_ (s : ByteArray) (b0 b1 b2 b3 b4 b5 b6 b7 : UInt8) (h12 : s.size = 12) (hx : s.extract 4 12 = strL [b0, b1, b2, b3, b4, b5, b6, b7]) (w : World)
    (hsame : Hid (∀ w, Calls Tryd.prog 58 #[.agg #[.int .i64 (getK s 4), .int .u8 (b0.toNat : Int), .int .u8 (b1.toNat : Int), .int .u8 (b2.toNat : Int), .int .u8 (b3.toNat : Int), .int .u8 (b4.toNat : Int), .int .u8 (b5.toNat : Int), .int .u8 (b6.toNat : Int), .int .u8 (b7.toNat : Int)], .func (.func 21) #[] #[], .string s] w fun e w' => ∃ v, e = .returned (.tuple #[.agg #[.int .i64 0, .int .u8 0, .int .u8 0, .int .u8 0, .int .u8 0, .int .u8 0, .int .u8 0, .int .u8 0, .int .u8 0], v]) ∧ ErrC w.heap.size w' v 2 ∧ Below w.heap.size w w')) :
    Calls Tryd.prog 23 #[.string s] w fun e w' => ∃ v, e = .returned (.tuple #[.agg #[.int .i64 0, .int .u8 0, .int .u8 0, .int .u8 0, .int .u8 0, .int .u8 0, .int .u8 0, .int .u8 0, .int .u8 0], v]) ∧ ErrC w.heap.size w' v 2 ∧ Below w.heap.size w w' := by
  have hne : ((s.size : Int) != 12) = false := by simp; omega
  have HG := Lib.hid (fun W => Get_ok s 4 W (by decide) (by omega) (by omega))
  have HB0 : Hid (Below w.heap.size w (w.alloc (.cells #[.int .i64 0, .int .u8 0, .int .u8 0, .int .u8 0, .int .u8 0, .int .u8 0, .int .u8 0, .int .u8 0, .int .u8 0] 45))) := Lib.hid ((Below.refl _ _).alloc (Nat.le_refl _) _)
  go_enter Tryd.func23, Tryd.ntmps23
  go_wp2_with fail
  refine (HG.out _).mono ?_
  rintro e w1 ⟨rfl, hb⟩
  have HB1 := Lib.hid (show Below (w.alloc (.cells #[.int .i64 0, .int .u8 0, .int .u8 0, .int .u8 0, .int .u8 0, .int .u8 0, .int .u8 0, .int .u8 0, .int .u8 0] 45)).heap.size (w.alloc (.cells #[.int .i64 0, .int .u8 0, .int .u8 0, .int .u8 0, .int .u8 0, .int .u8 0, .int .u8 0, .int .u8 0, .int .u8 0] 45)) w1 from hb)
  clear hb
  have hcv := bytes_new b0 b1 b2 b3 b4 b5 b6 b7
  have hbd := build_all (getK s 4) b0 b1 b2 b3 b4 b5 b6 b7
  have hap := array_at
  have hz4 : (4 : Nat) ≤ s.size := by omega
  go_wp2_with ((with_reducible refine at_ld 39 (.tmp 21) ?_); refine wpList_load_mid rfl 39 _ rfl w1.heap.size 0 rfl [.int .u8 (b0.toNat : Int), .int .u8 (b1.toNat : Int), .int .u8 (b2.toNat : Int), .int .u8 (b3.toNat : Int), .int .u8 (b4.toNat : Int), .int .u8 (b5.toNat : Int), .int .u8 (b6.toNat : Int), .int .u8 (b7.toNat : Int)] _ ?_ Tryd.underlying39 rfl (by kernel_rfl) ?_; · exact bytes_range _ _ _ _ _ _ _ _ _ _ _ _)
  refine (hsame.out _).mono ?_
  rintro e wn ⟨v, rfl, he, hb⟩
  have HE := Lib.hid he
  clear he
  have hb2 := (Below.trans (Below.drew (Below.alloc (Below.refl w1.heap.size w1) (Nat.le_refl _) _)) (Below.mono hb (by simp [World.drew])) : Below w1.heap.size w1 wn)
  have HBw : Hid (w.heap.size < w1.heap.size) := Lib.hid (Nat.lt_of_lt_of_le (by simp) HB1.out.size)
  have HBn := Lib.hid (show Below w.heap.size w wn from (HB0.out.trans (HB1.out.mono HB0.out.size)).trans (hb2.mono (by have := HBw.out; omega)))
  have HTn : Hid (wn.there w.heap.size 0 9) := Lib.hid (there_under hb2 HBw.out (there_under HB1.out (by simp) (there_last _ _ _ _ (by simp) rfl)))
  clear hb hb2
  go_wp2_with ((with_reducible refine at_st 45 (.tmp 2) (.tmp 26) ?_); refine wpList_store_mid rfl 45 _ _ rfl w.heap.size 0 #[.int .i64 0, .int .u8 0, .int .u8 0, .int .u8 0, .int .u8 0, .int .u8 0, .int .u8 0, .int .u8 0, .int .u8 0] rfl rfl HTn.out (by kernel_rfl) (by simp [Value.oneCell']) ?_; dsimp only [Array.toList])
  have hld := run_loadVar_mid (P := Tryd.prog) (wn.setCells w.heap.size 0 [.int .i64 0, .int .u8 0, .int .u8 0, .int .u8 0, .int .u8 0, .int .u8 0, .int .u8 0, .int .u8 0, .int .u8 0]) w.heap.size 0 45 [.int .i64 0, .int .u8 0, .int .u8 0, .int .u8 0, .int .u8 0, .int .u8 0, .int .u8 0, .int .u8 0, .int .u8 0] _ (World.rangeAt_setCells_same wn _ _ _ HTn.out) Tryd.underlying45 rfl (by kernel_rfl)
  refine bodyPost_ret (v := .tuple #[.agg #[.int .i64 0, .int .u8 0, .int .u8 0, .int .u8 0, .int .u8 0, .int .u8 0, .int .u8 0, .int .u8 0, .int .u8 0], v]) (results_two Tryd.results23 _ _ _ _ _ rfl rfl hld) rfl ⟨_, rfl, ?_, ?_⟩
  · exact (err_set (HE.out.mono (B' := w1.heap.size) (by simp [World.drew])) HBw.out).mono (by have := HBw.out; omega)
  · exact HBn.out.trans (below_set _ _ _ _ _ (Nat.le_refl _))
end Go.Proofs.YtlcnhagcomljnaaDoor
