/- rec: same, numbers, ReadRobot, ReadTask by their contracts. -/
import Derived.Test.YtlcnhagcomljnaaDoorRecAPRecUnlike
import Derived.Deep.MidRow
namespace Go.Proofs.YtlcnhagcomljnaaDoor
open Go.RowKit Go.Extern.Stop Go.Stop Go.Extern Go.Proofs.YtlcnhagcomljnaaDoorW.PrintWords Go.Proofs.YtlcnhagcomljnaaDoorW.PrintLast Go.Proofs.YtlcnhagcomljnaaDoorW.PrintMore Go.Proofs.YtlcnhagcomljnaaDoor.PRecUnlike
set_option linter.unusedVariables false
set_option linter.unusedSimpArgs false

theorem lay_task_ok (x : Tas) (h : x.right = true) (W : World) : Calls Tryd.prog 20 #[.agg #[.int .i64 x.f, .int .i64 x.t, .int .i64 x.s]] W fun e w' => e = .returned (.tuple #[.string x.lay, .nilIface]) ∧ Below W.heap.size W w' := by
  have hr := h
  simp only [Tas.right, decide_eq_true_eq] at hr
  exact task_ok_ x.f x.t x.s ⟨true, by simp; omega⟩ ⟨true, by simp; omega⟩ ⟨true, by simp; omega⟩ (Lib.hid rfl) x.lay (Lib.hid (tas_code x h)) (Lib.hid (by unfold Tas.lay; rw [if_pos h]; rfl)) W
theorem lay_task_no (x : Tas) (h : x.right = false) (W : World) : Calls Tryd.prog 20 #[.agg #[.int .i64 x.f, .int .i64 x.t, .int .i64 x.s]] W (LayPost W) := by
  refine task_no_ x.f x.t x.s ⟨_, rfl⟩ ⟨_, rfl⟩ ⟨_, rfl⟩ (Lib.hid ?_) W
  simp only [Tas.right, decide_eq_false_iff_not] at h
  simp only [← Bool.decide_and, decide_eq_false_iff_not]
  omega
theorem bytes_ext {a b : ByteArray} (h : a.toList = b.toList) : a = b := by
  rw [ByteArray.toList_eq, ByteArray.toList_eq] at h
  exact ByteArray.ext (Array.toList_inj.1 h)
theorem results_two {P : Program} {fn : Func} {p q : Tmp} {ty : TypeId} (h : fn.results = #[.cell p ty, .tmp q]) (tmps : Array Value) (w : World) (x : Addr) (cs : Array Value) (v : Value)
    (hp : tmps.getD p undef = .pointer (some x)) (hq : tmps.getD q undef = v) (hl : (loadVar ty x).run P w = .ok (.agg cs) w) : (results fn tmps).run P w = .ok (.tuple #[.agg cs, v]) w := by
  have hp' : tmps[p]?.getD undef = .pointer (some x) := by simpa using hp
  have hq' : tmps[q]?.getD undef = v := by simpa using hq
  simp [results, h, hp', hq', asAddr, hl]
section
variable {P : Program} {ops : Array Oper} {rest : List Oper} {a : Act} {w : World} {Q : Exit → Act → World → Prop}
theorem at_st (ty : TypeId) (x y : Operand) {d : Option Tmp} {t : TypeId} {s : String} {f : Array Edge} {g : Option (Nat × Bool)} (h : wpList P ops Q (⟨d, .store ty x y, t, s, f, g⟩ :: rest) a w) : wpList P ops Q (⟨d, .store ty x y, t, s, f, g⟩ :: rest) a w := h
end
theorem there_under {W W' : World} {n b o k : Nat} (hb : Below n W W') (hn : b < n) (h : W.there b o k) : W'.there b o k := fun j hj => by
  have e := hb.block b hn
  obtain ⟨h1, h2⟩ := h j hj
  exact ⟨by rw [World.cell?_of_block (a := ⟨b, o + j, none⟩) e]; exact h1, by rw [World.frozen?_of_block (a := ⟨b, o + j, none⟩) e]; exact h2⟩
theorem there_last (W : World) (b : Nat) (cs : Array Value) (t : TypeId) {k : Nat} (hk : k ≤ cs.size) (hb : b = W.heap.size) : (W.alloc (.cells cs t)).there b 0 k := fun j hj => by
  subst hb
  rw [Nat.zero_add]
  exact ⟨by rw [cell_of_row _ _ j _ t (0, 0) (heap_alloc_last W _), Array.getElem?_eq_getElem (by omega)]; rfl, frozen_of_row _ _ j _ t (heap_alloc_last W _)⟩
theorem set_other : ∀ (vs : List Value) (W : World) (b o : Nat) (k i : Nat), k ≠ b → (W.setCells b o vs).cell? ⟨k, i, none⟩ = W.cell? ⟨k, i, none⟩
  | [], _, _, _, _, _, _ => rfl
  | v :: r, W, b, o, k, i, h => (set_other r _ b (o + 1) k i h).trans (World.cell?_setCell_other _ _ _ _ (by simp [h]))
theorem below_set : ∀ (vs : List Value) (W : World) (b o B : Nat), B ≤ b → Below B W (W.setCells b o vs)
  | [], _, _, _, _, _ => Below.refl _ _
  | v :: r, W, b, o, B, h => (Below.setCell (Below.refl _ _) h v).trans (below_set r _ b (o + 1) B h)
theorem err_set {B : Nat} {v : Value} {n : Int} {b : Nat} : ∀ {vs : List Value} {W : World} {o : Nat}, ErrC B W v n → b < B → ErrC B (W.setCells b o vs) v n
  | [], _, _, h, _ => h
  | u :: r, W, o, h, hb => err_set (vs := r) (o := o + 1) (h.setCell (a := ⟨b, o, none⟩) hb u) hb
theorem wrap_i (n : Int) (h0 : -100000 ≤ n) (h1 : n ≤ 100000) : IntKind.i64.wrap n = n := IntWalk.i64_in _ (by omega)
theorem lay_rob_ok (x : Rob) (h : x.right = true) (W : World) : Calls Tryd.prog 15 #[.agg #[.int .i64 x.c, .int .i64 x.h, .int .i64 x.p, .int .i64 x.t, .int .i64 x.m, .int .i64 x.g, .int .i64 x.a]] W fun e w' => e = .returned (.tuple #[.string x.lay, .nilIface]) ∧ Below W.heap.size W w' := by
  have hi := Rob.right_in h
  have hr := hi
  simp only [Rob.in, decide_eq_true_eq] at hr
  have e1 := wrap_i (x.t + 1) (by omega) (by omega)
  have e2 := wrap_i (x.a + 32768) (by omega) (by omega)
  exact robot_ok_ x.c x.h x.p x.t x.m x.g x.a ⟨true, by simp; omega⟩ ⟨true, by simp; omega⟩ ⟨true, by simp; omega⟩ ⟨true, by simp; omega⟩ ⟨true, by simp; omega⟩ (Lib.hid rfl) x.lay
    (Lib.hid (by rw [e1, e2]; exact (rob_code x hi).2 h)) (Lib.hid (by rw [e1, e2]; unfold Rob.lay; rw [if_pos h]; rfl)) W
theorem lay_rob_no (x : Rob) (h : x.right = false) (W : World) : Calls Tryd.prog 15 #[.agg #[.int .i64 x.c, .int .i64 x.h, .int .i64 x.p, .int .i64 x.t, .int .i64 x.m, .int .i64 x.g, .int .i64 x.a]] W (LayPost W) := by
  by_cases hi : x.in = true
  · have hr := hi
    simp only [Rob.in, decide_eq_true_eq] at hr
    have e1 := wrap_i (x.t + 1) (by omega) (by omega)
    have e2 := wrap_i (x.a + 32768) (by omega) (by omega)
    exact robot_big_ x.c x.h x.p x.t x.m x.g x.a ⟨true, by simp; omega⟩ ⟨true, by simp; omega⟩ ⟨true, by simp; omega⟩ ⟨true, by simp; omega⟩ ⟨true, by simp; omega⟩ (Lib.hid rfl) ⟨#[]⟩
      (Lib.hid (by rw [e1, e2]; intro hz; have := (rob_code x hi).1 hz; rw [h] at this; cases this)) W
  · refine robot_no_ x.c x.h x.p x.t x.m x.g x.a ⟨_, rfl⟩ ⟨_, rfl⟩ ⟨_, rfl⟩ ⟨_, rfl⟩ ⟨_, rfl⟩ (Lib.hid ?_) W
    have hr : x.in = false := by simpa using hi
    simp only [Rob.in, decide_eq_false_iff_not] at hr
    simp only [← Bool.decide_and, decide_eq_false_iff_not]
    omega
set_option maxHeartbeats 2000000 in
set_option maxRecDepth 100000 in
theorem same_r_ok (c h p t m g a : Int) (S : ByteArray) (w : World) (hl : Hid (∀ W, Calls Tryd.prog 15 #[.agg #[.int .i64 c, .int .i64 h, .int .i64 p, .int .i64 t, .int .i64 m, .int .i64 g, .int .i64 a]] W fun e w' => e = .returned (.tuple #[.string S, .nilIface]) ∧ Below W.heap.size W w')) :
    Calls Tryd.prog 51 #[.agg #[.int .i64 c, .int .i64 h, .int .i64 p, .int .i64 t, .int .i64 m, .int .i64 g, .int .i64 a], .func (.func 15) #[] #[], .string S] w fun e w' => e = .returned (.tuple #[.agg #[.int .i64 c, .int .i64 h, .int .i64 p, .int .i64 t, .int .i64 m, .int .i64 g, .int .i64 a], .nilIface]) ∧ Below w.heap.size w w' := by
  have HB0 : Hid (Below w.heap.size w (((w.alloc (.cells #[.int .i64 c, .int .i64 h, .int .i64 p, .int .i64 t, .int .i64 m, .int .i64 g, .int .i64 a] 30)).alloc (.cells #[.int .i64 0, .int .i64 0, .int .i64 0, .int .i64 0, .int .i64 0, .int .i64 0, .int .i64 0] 30)).alloc (.cells #[.int .i64 0, .int .i64 0, .int .i64 0, .int .i64 0, .int .i64 0, .int .i64 0, .int .i64 0] 30))) := Lib.hid ((((Below.refl _ _).alloc (Nat.le_refl _) _).alloc (by simp) _).alloc (by simp; omega) _)
  go_enter Tryd.func51, Tryd.ntmps51
  go_wp2_with fail
  refine (hl.out _).mono ?_
  rintro e w1 ⟨rfl, hb⟩
  have HB1 := Lib.hid (HB0.out.trans (hb.mono (by simp; omega)))
  have x0 : w1.cell? ⟨w.heap.size, 0, none⟩ = some (.int .i64 c) := (hb.cell (by simp; try omega)).trans (by simp [go_sem])
  have x1 : w1.cell? ⟨w.heap.size, 1, none⟩ = some (.int .i64 h) := (hb.cell (by simp; try omega)).trans (by simp [go_sem])
  have x2 : w1.cell? ⟨w.heap.size, 2, none⟩ = some (.int .i64 p) := (hb.cell (by simp; try omega)).trans (by simp [go_sem])
  have x3 : w1.cell? ⟨w.heap.size, 3, none⟩ = some (.int .i64 t) := (hb.cell (by simp; try omega)).trans (by simp [go_sem])
  have x4 : w1.cell? ⟨w.heap.size, 4, none⟩ = some (.int .i64 m) := (hb.cell (by simp; try omega)).trans (by simp [go_sem])
  have x5 : w1.cell? ⟨w.heap.size, 5, none⟩ = some (.int .i64 g) := (hb.cell (by simp; try omega)).trans (by simp [go_sem])
  have x6 : w1.cell? ⟨w.heap.size, 6, none⟩ = some (.int .i64 a) := (hb.cell (by simp; try omega)).trans (by simp [go_sem])
  have hth : w1.there (w.heap.size + 1) 0 7 := there_under hb (by simp; try omega) (there_under ((Below.refl _ _).alloc (Nat.le_refl _) _) (by simp) (there_last _ _ _ _ (by simp) (by simp)))
  have hL : w.heap.size + 1 < w1.heap.size := cell_lt (p := ⟨w.heap.size + 1, 0, none⟩) (Option.isSome_iff_exists.1 (hth 0 (by omega)).1).choose_spec
  clear hb
  have HTh := Lib.hid hth
  clear hth
  go_wp2_with ((with_reducible refine at_st 30 (.tmp 6) (.tmp 27) ?_); refine wpList_store_mid rfl 30 _ _ rfl (w.heap.size + 1) 0 #[.int .i64 c, .int .i64 h, .int .i64 p, .int .i64 t, .int .i64 m, .int .i64 g, .int .i64 a] rfl rfl HTh.out (by kernel_rfl) (by simp [Value.oneCell']) ?_; dsimp only [Array.toList])
  have hld := run_loadVar_mid (P := Tryd.prog) (w1.setCells (w.heap.size + 1) 0 [.int .i64 c, .int .i64 h, .int .i64 p, .int .i64 t, .int .i64 m, .int .i64 g, .int .i64 a]) (w.heap.size + 1) 0 30 [.int .i64 c, .int .i64 h, .int .i64 p, .int .i64 t, .int .i64 m, .int .i64 g, .int .i64 a] _ (World.rangeAt_setCells_same w1 _ _ _ HTh.out) Tryd.underlying30 rfl (by kernel_rfl)
  refine bodyPost_ret (v := .tuple #[.agg #[.int .i64 c, .int .i64 h, .int .i64 p, .int .i64 t, .int .i64 m, .int .i64 g, .int .i64 a], .nilIface]) (results_two Tryd.results51 _ _ _ _ _ rfl rfl hld) rfl ⟨rfl, ?_⟩
  exact HB1.out.trans (below_set _ _ _ _ _ (by simp))
set_option maxHeartbeats 2000000 in
set_option maxRecDepth 100000 in
theorem same_r_ne (c h p t m g a : Int) (S T : ByteArray) (hne : T ≠ S) (w : World) (hl : Hid (∀ W, Calls Tryd.prog 15 #[.agg #[.int .i64 c, .int .i64 h, .int .i64 p, .int .i64 t, .int .i64 m, .int .i64 g, .int .i64 a]] W fun e w' => e = .returned (.tuple #[.string T, .nilIface]) ∧ Below W.heap.size W w')) :
    Calls Tryd.prog 51 #[.agg #[.int .i64 c, .int .i64 h, .int .i64 p, .int .i64 t, .int .i64 m, .int .i64 g, .int .i64 a], .func (.func 15) #[] #[], .string S] w fun e w' => ∃ v, e = .returned (.tuple #[.agg #[.int .i64 0, .int .i64 0, .int .i64 0, .int .i64 0, .int .i64 0, .int .i64 0, .int .i64 0], v]) ∧ ErrC w.heap.size w' v 2 ∧ Below w.heap.size w w' := by
  have hne2 : (T.toList == S.toList) = false := by rw [beq_eq_false_iff_ne]; exact fun e => hne (bytes_ext e)
  have HB0 : Hid (Below w.heap.size w (((w.alloc (.cells #[.int .i64 c, .int .i64 h, .int .i64 p, .int .i64 t, .int .i64 m, .int .i64 g, .int .i64 a] 30)).alloc (.cells #[.int .i64 0, .int .i64 0, .int .i64 0, .int .i64 0, .int .i64 0, .int .i64 0, .int .i64 0] 30)).alloc (.cells #[.int .i64 0, .int .i64 0, .int .i64 0, .int .i64 0, .int .i64 0, .int .i64 0, .int .i64 0] 30))) := Lib.hid ((((Below.refl _ _).alloc (Nat.le_refl _) _).alloc (by simp) _).alloc (by simp; omega) _)
  go_enter Tryd.func51, Tryd.ntmps51
  go_wp2_with fail
  refine (hl.out _).mono ?_
  rintro e w1 ⟨rfl, hb⟩
  have HB1 := Lib.hid (HB0.out.trans (hb.mono (by simp; omega)))
  have z0 : w1.cell? ⟨w.heap.size + 1 + 1, 0, none⟩ = some (.int .i64 0) := (hb.cell (by simp; try omega)).trans (by simp [go_sem])
  have z1 : w1.cell? ⟨w.heap.size + 1 + 1, 1, none⟩ = some (.int .i64 0) := (hb.cell (by simp; try omega)).trans (by simp [go_sem])
  have z2 : w1.cell? ⟨w.heap.size + 1 + 1, 2, none⟩ = some (.int .i64 0) := (hb.cell (by simp; try omega)).trans (by simp [go_sem])
  have z3 : w1.cell? ⟨w.heap.size + 1 + 1, 3, none⟩ = some (.int .i64 0) := (hb.cell (by simp; try omega)).trans (by simp [go_sem])
  have z4 : w1.cell? ⟨w.heap.size + 1 + 1, 4, none⟩ = some (.int .i64 0) := (hb.cell (by simp; try omega)).trans (by simp [go_sem])
  have z5 : w1.cell? ⟨w.heap.size + 1 + 1, 5, none⟩ = some (.int .i64 0) := (hb.cell (by simp; try omega)).trans (by simp [go_sem])
  have z6 : w1.cell? ⟨w.heap.size + 1 + 1, 6, none⟩ = some (.int .i64 0) := (hb.cell (by simp; try omega)).trans (by simp [go_sem])
  have hth : w1.there (w.heap.size + 1) 0 7 := there_under hb (by simp; try omega) (there_under ((Below.refl _ _).alloc (Nat.le_refl _) _) (by simp) (there_last _ _ _ _ (by simp) (by simp)))
  have hL : w.heap.size + 1 < w1.heap.size := cell_lt (p := ⟨w.heap.size + 1, 0, none⟩) (Option.isSome_iff_exists.1 (hth 0 (by omega)).1).choose_spec
  clear hb
  have Z0 := Lib.hid z0
  have Z1 := Lib.hid z1
  have Z2 := Lib.hid z2
  have Z3 := Lib.hid z3
  have Z4 := Lib.hid z4
  have Z5 := Lib.hid z5
  have Z6 := Lib.hid z6
  have HL2 := Lib.hid (show w.heap.size + 1 + 1 < w1.heap.size from cell_lt z0)
  have HL := Lib.hid hL
  have HTh := Lib.hid hth
  clear hL hth z0 z1 z2 z3 z4 z5 z6
  go_wp2_with fail
  have hS0 : (w1.drew).cell? ⟨w.heap.size + 1 + 1, 0, none⟩ = some (.int .i64 0) ∧ (w1.drew).cell? ⟨w.heap.size + 1 + 1, 1, none⟩ = some (.int .i64 0) ∧ (w1.drew).cell? ⟨w.heap.size + 1 + 1, 2, none⟩ = some (.int .i64 0) ∧ (w1.drew).cell? ⟨w.heap.size + 1 + 1, 3, none⟩ = some (.int .i64 0) ∧ (w1.drew).cell? ⟨w.heap.size + 1 + 1, 4, none⟩ = some (.int .i64 0) ∧ (w1.drew).cell? ⟨w.heap.size + 1 + 1, 5, none⟩ = some (.int .i64 0) ∧ (w1.drew).cell? ⟨w.heap.size + 1 + 1, 6, none⟩ = some (.int .i64 0) ∧ Below w.heap.size w (w1.drew) := ⟨Z0.out, Z1.out, Z2.out, Z3.out, Z4.out, Z5.out, Z6.out, HB1.out.trans (Below.mono (Below.drew (Below.refl _ _)) HB1.out.size)⟩
  refine wp_region_held_drew (S := fun w' => (w').cell? ⟨w.heap.size + 1 + 1, 0, none⟩ = some (.int .i64 0) ∧ (w').cell? ⟨w.heap.size + 1 + 1, 1, none⟩ = some (.int .i64 0) ∧ (w').cell? ⟨w.heap.size + 1 + 1, 2, none⟩ = some (.int .i64 0) ∧ (w').cell? ⟨w.heap.size + 1 + 1, 3, none⟩ = some (.int .i64 0) ∧ (w').cell? ⟨w.heap.size + 1 + 1, 4, none⟩ = some (.int .i64 0) ∧ (w').cell? ⟨w.heap.size + 1 + 1, 5, none⟩ = some (.int .i64 0) ∧ (w').cell? ⟨w.heap.size + 1 + 1, 6, none⟩ = some (.int .i64 0) ∧ Below w.heap.size w (w')) (by kernel_rfl) ?_ (fun hHeld => ?_)
  · exact hS0
  refine wpAnyH_take (i := 0) (oi := { dst := Option.some 24, op := Go.Op.load 30 (Go.Operand.tmp 8), type := 30, pos := "rec.go:83", after := #[], guard := Option.none }) (v := ?_) rfl (by kernel_rfl) (by kernel_rfl) (by kernel_rfl) (fun _ _ _ h => h) (Or.inl ⟨by rfl, ?_⟩) (by assumption) ?_
  rotate_left
  · intro w hSw; (try dsimp only at hSw); go_simp; (try with_reducible rfl)
  simp only [Act.put, List.setIfInBounds_toArray, List.set_cons_zero, List.set_cons_succ]
  refine wpAnyH_take (i := 1) (oi := { dst := Option.some 25, op := Go.Op.makeInterface 95 (Go.Operand.const (Go.Value.int Go.IntKind.i64 2)), type := 27, pos := "rec.go:83", after := #[], guard := Option.none }) (v := ?_) rfl (by kernel_rfl) (by kernel_rfl) (by kernel_rfl) (fun _ _ _ h => h) (Or.inl ⟨by rfl, ?_⟩) (by assumption) ?_
  rotate_left
  · intro w hSw; (try dsimp only at hSw); go_simp; (try with_reducible rfl)
  simp only [Act.put, List.setIfInBounds_toArray, List.set_cons_zero, List.set_cons_succ]
  refine wpAnyH_ready (rs := [2]) (by kernel_rfl) (by simp) ?_
  refine AllReadyH.cons (o := { dst := Option.some 26, op := Go.Op.call { callee := Go.Callee.value (Go.Operand.func 56), args := #[Go.Operand.const (Go.Value.string { data := #[114, 101, 99] }), Go.Operand.tmp 25], argTypes := #[9, 27] }, type := 27, pos := "rec.go:83", after := #[{ on := 1, ground := Go.Ground.data }], guard := Option.none }) rfl (fun K hK => ?_) AllReadyH.nil
  go_simp
  refine (Tag_err _ 2 _).mono ?_
  rintro e wn ⟨v, rfl, he, hb⟩
  have HE := Lib.hid he
  have hKn : (wn).cell? ⟨w.heap.size + 1 + 1, 0, none⟩ = some (.int .i64 0) ∧ (wn).cell? ⟨w.heap.size + 1 + 1, 1, none⟩ = some (.int .i64 0) ∧ (wn).cell? ⟨w.heap.size + 1 + 1, 2, none⟩ = some (.int .i64 0) ∧ (wn).cell? ⟨w.heap.size + 1 + 1, 3, none⟩ = some (.int .i64 0) ∧ (wn).cell? ⟨w.heap.size + 1 + 1, 4, none⟩ = some (.int .i64 0) ∧ (wn).cell? ⟨w.heap.size + 1 + 1, 5, none⟩ = some (.int .i64 0) ∧ (wn).cell? ⟨w.heap.size + 1 + 1, 6, none⟩ = some (.int .i64 0) ∧ Below w.heap.size w (wn) := ⟨(hb.cell (p := ⟨w.heap.size + 1 + 1, 0, none⟩) HL2.out).trans Z0.out, (hb.cell (p := ⟨w.heap.size + 1 + 1, 1, none⟩) HL2.out).trans Z1.out, (hb.cell (p := ⟨w.heap.size + 1 + 1, 2, none⟩) HL2.out).trans Z2.out, (hb.cell (p := ⟨w.heap.size + 1 + 1, 3, none⟩) HL2.out).trans Z3.out, (hb.cell (p := ⟨w.heap.size + 1 + 1, 4, none⟩) HL2.out).trans Z4.out, (hb.cell (p := ⟨w.heap.size + 1 + 1, 5, none⟩) HL2.out).trans Z5.out, (hb.cell (p := ⟨w.heap.size + 1 + 1, 6, none⟩) HL2.out).trans Z6.out, HB1.out.trans (((Below.drew (Below.refl _ _)).trans hb).mono HB1.out.size)⟩
  have HBn := Lib.hid hKn.2.2.2.2.2.2.2
  have HTn : Hid (wn.there (w.heap.size + 1) 0 7) := Lib.hid (there_under hb HL.out HTh.out)
  clear he hb
  go_wp2_with fail
  refine hK.out _ _ hKn (fun hHeld2 => ?_)
  clear hK K
  try simp only [Act.put, List.setIfInBounds_toArray, List.set_cons_zero, List.set_cons_succ]
  refine wpAnyH_ready (rs := [3]) (by kernel_rfl) (by simp) ?_
  refine AllReadyH.cons (o := { dst := Option.none, op := Go.Op.store 30 (Go.Operand.tmp 6) (Go.Operand.tmp 24), type := 0, pos := "rec.go:83", after := #[{ on := 0, ground := Go.Ground.data }, { on := 2, ground := Go.Ground.chain }, { on := 0, ground := Go.Ground.phase }, { on := 1, ground := Go.Ground.textOnly Go.Departure.lateStores }, { on := 2, ground := Go.Ground.textOnly Go.Departure.lateStoresUnsure }], guard := Option.none }) rfl (fun K hK => ?_) AllReadyH.nil
  refine wp_store_mid 30 _ _ rfl (w.heap.size + 1) 0 #[.int .i64 0, .int .i64 0, .int .i64 0, .int .i64 0, .int .i64 0, .int .i64 0, .int .i64 0] rfl rfl HTn.out (by kernel_rfl) (by simp [Value.oneCell']) ?_
  dsimp only [Array.toList]
  have hS3 : ((wn.setCells (w.heap.size + 1) 0 [.int .i64 0, .int .i64 0, .int .i64 0, .int .i64 0, .int .i64 0, .int .i64 0, .int .i64 0])).cell? ⟨w.heap.size + 1 + 1, 0, none⟩ = some (.int .i64 0) ∧ ((wn.setCells (w.heap.size + 1) 0 [.int .i64 0, .int .i64 0, .int .i64 0, .int .i64 0, .int .i64 0, .int .i64 0, .int .i64 0])).cell? ⟨w.heap.size + 1 + 1, 1, none⟩ = some (.int .i64 0) ∧ ((wn.setCells (w.heap.size + 1) 0 [.int .i64 0, .int .i64 0, .int .i64 0, .int .i64 0, .int .i64 0, .int .i64 0, .int .i64 0])).cell? ⟨w.heap.size + 1 + 1, 2, none⟩ = some (.int .i64 0) ∧ ((wn.setCells (w.heap.size + 1) 0 [.int .i64 0, .int .i64 0, .int .i64 0, .int .i64 0, .int .i64 0, .int .i64 0, .int .i64 0])).cell? ⟨w.heap.size + 1 + 1, 3, none⟩ = some (.int .i64 0) ∧ ((wn.setCells (w.heap.size + 1) 0 [.int .i64 0, .int .i64 0, .int .i64 0, .int .i64 0, .int .i64 0, .int .i64 0, .int .i64 0])).cell? ⟨w.heap.size + 1 + 1, 4, none⟩ = some (.int .i64 0) ∧ ((wn.setCells (w.heap.size + 1) 0 [.int .i64 0, .int .i64 0, .int .i64 0, .int .i64 0, .int .i64 0, .int .i64 0, .int .i64 0])).cell? ⟨w.heap.size + 1 + 1, 5, none⟩ = some (.int .i64 0) ∧ ((wn.setCells (w.heap.size + 1) 0 [.int .i64 0, .int .i64 0, .int .i64 0, .int .i64 0, .int .i64 0, .int .i64 0, .int .i64 0])).cell? ⟨w.heap.size + 1 + 1, 6, none⟩ = some (.int .i64 0) ∧ Below w.heap.size w ((wn.setCells (w.heap.size + 1) 0 [.int .i64 0, .int .i64 0, .int .i64 0, .int .i64 0, .int .i64 0, .int .i64 0, .int .i64 0])) := ⟨(set_other _ _ _ _ _ _ (by simp)).trans hKn.1, (set_other _ _ _ _ _ _ (by simp)).trans hKn.2.1, (set_other _ _ _ _ _ _ (by simp)).trans hKn.2.2.1, (set_other _ _ _ _ _ _ (by simp)).trans hKn.2.2.2.1, (set_other _ _ _ _ _ _ (by simp)).trans hKn.2.2.2.2.1, (set_other _ _ _ _ _ _ (by simp)).trans hKn.2.2.2.2.2.1, (set_other _ _ _ _ _ _ (by simp)).trans hKn.2.2.2.2.2.2.1, HBn.out.trans (below_set _ _ _ _ _ (by simp))⟩
  refine hK.out _ _ hS3 (fun hHeld3 => ?_)
  clear hK K
  try simp only [Act.put, List.setIfInBounds_toArray, List.set_cons_zero, List.set_cons_succ]
  refine wpAnyH_take (i := 4) (oi := { dst := Option.some 7, op := Go.Op.assign (Go.Operand.tmp 26), type := 27, pos := "rec.go:83", after := #[{ on := 2, ground := Go.Ground.data }, { on := 3, ground := Go.Ground.chain }, { on := 0, ground := Go.Ground.phase }, { on := 1, ground := Go.Ground.phase }, { on := 2, ground := Go.Ground.phase }, { on := 3, ground := Go.Ground.phase }], guard := Option.none }) (v := ?_) rfl (by kernel_rfl) (by kernel_rfl) (by kernel_rfl) (fun _ _ _ h => h) (Or.inl ⟨by rfl, ?_⟩) (by assumption) ?_
  rotate_left
  · intro w hSw; (try dsimp only at hSw); go_simp; (try with_reducible rfl)
  simp only [Act.put, List.setIfInBounds_toArray, List.set_cons_zero, List.set_cons_succ]
  refine wpAnyH_done (by kernel_rfl) ?_ _
  go_wp2_with fail
  have hld := run_loadVar_mid (P := Tryd.prog) (wn.setCells (w.heap.size + 1) 0 [.int .i64 0, .int .i64 0, .int .i64 0, .int .i64 0, .int .i64 0, .int .i64 0, .int .i64 0]) (w.heap.size + 1) 0 30 [.int .i64 0, .int .i64 0, .int .i64 0, .int .i64 0, .int .i64 0, .int .i64 0, .int .i64 0] _ (World.rangeAt_setCells_same wn _ _ _ HTn.out) Tryd.underlying30 rfl (by kernel_rfl)
  refine bodyPost_ret (v := .tuple #[.agg #[.int .i64 0, .int .i64 0, .int .i64 0, .int .i64 0, .int .i64 0, .int .i64 0, .int .i64 0], v]) (results_two Tryd.results51 _ _ _ _ _ rfl rfl hld) rfl ⟨_, rfl, ?_, ?_⟩
  · exact (err_set HE.out HL.out).mono HB1.out.size
  · exact hS3.2.2.2.2.2.2.2
set_option maxHeartbeats 2000000 in
set_option maxRecDepth 100000 in
theorem same_r_no (c h p t m g a : Int) (S : ByteArray) (w : World) (hl : Hid (∀ W, Calls Tryd.prog 15 #[.agg #[.int .i64 c, .int .i64 h, .int .i64 p, .int .i64 t, .int .i64 m, .int .i64 g, .int .i64 a]] W (LayPost W))) :
    Calls Tryd.prog 51 #[.agg #[.int .i64 c, .int .i64 h, .int .i64 p, .int .i64 t, .int .i64 m, .int .i64 g, .int .i64 a], .func (.func 15) #[] #[], .string S] w fun e w' => ∃ v, e = .returned (.tuple #[.agg #[.int .i64 0, .int .i64 0, .int .i64 0, .int .i64 0, .int .i64 0, .int .i64 0, .int .i64 0], v]) ∧ ErrC w.heap.size w' v 2 ∧ Below w.heap.size w w' := by
  have HB0 : Hid (Below w.heap.size w (((w.alloc (.cells #[.int .i64 c, .int .i64 h, .int .i64 p, .int .i64 t, .int .i64 m, .int .i64 g, .int .i64 a] 30)).alloc (.cells #[.int .i64 0, .int .i64 0, .int .i64 0, .int .i64 0, .int .i64 0, .int .i64 0, .int .i64 0] 30)).alloc (.cells #[.int .i64 0, .int .i64 0, .int .i64 0, .int .i64 0, .int .i64 0, .int .i64 0, .int .i64 0] 30))) := Lib.hid ((((Below.refl _ _).alloc (Nat.le_refl _) _).alloc (by simp) _).alloc (by simp; omega) _)
  go_enter Tryd.func51, Tryd.ntmps51
  go_wp2_with fail
  refine (hl.out _).mono ?_
  rintro e w1 ⟨v, rfl, he, hb⟩
  obtain ⟨ty, xx, rfl⟩ := he.iface (by decide)
  clear he
  have HB1 := Lib.hid (HB0.out.trans (hb.mono (by simp; omega)))
  have z0 : w1.cell? ⟨w.heap.size + 1 + 1, 0, none⟩ = some (.int .i64 0) := (hb.cell (by simp; try omega)).trans (by simp [go_sem])
  have z1 : w1.cell? ⟨w.heap.size + 1 + 1, 1, none⟩ = some (.int .i64 0) := (hb.cell (by simp; try omega)).trans (by simp [go_sem])
  have z2 : w1.cell? ⟨w.heap.size + 1 + 1, 2, none⟩ = some (.int .i64 0) := (hb.cell (by simp; try omega)).trans (by simp [go_sem])
  have z3 : w1.cell? ⟨w.heap.size + 1 + 1, 3, none⟩ = some (.int .i64 0) := (hb.cell (by simp; try omega)).trans (by simp [go_sem])
  have z4 : w1.cell? ⟨w.heap.size + 1 + 1, 4, none⟩ = some (.int .i64 0) := (hb.cell (by simp; try omega)).trans (by simp [go_sem])
  have z5 : w1.cell? ⟨w.heap.size + 1 + 1, 5, none⟩ = some (.int .i64 0) := (hb.cell (by simp; try omega)).trans (by simp [go_sem])
  have z6 : w1.cell? ⟨w.heap.size + 1 + 1, 6, none⟩ = some (.int .i64 0) := (hb.cell (by simp; try omega)).trans (by simp [go_sem])
  have hth : w1.there (w.heap.size + 1) 0 7 := there_under hb (by simp; try omega) (there_under ((Below.refl _ _).alloc (Nat.le_refl _) _) (by simp) (there_last _ _ _ _ (by simp) (by simp)))
  have hL : w.heap.size + 1 < w1.heap.size := cell_lt (p := ⟨w.heap.size + 1, 0, none⟩) (Option.isSome_iff_exists.1 (hth 0 (by omega)).1).choose_spec
  clear hb
  have Z0 := Lib.hid z0
  have Z1 := Lib.hid z1
  have Z2 := Lib.hid z2
  have Z3 := Lib.hid z3
  have Z4 := Lib.hid z4
  have Z5 := Lib.hid z5
  have Z6 := Lib.hid z6
  have HL2 := Lib.hid (show w.heap.size + 1 + 1 < w1.heap.size from cell_lt z0)
  have HL := Lib.hid hL
  have HTh := Lib.hid hth
  clear hL hth z0 z1 z2 z3 z4 z5 z6
  go_wp2_with fail
  have hS0 : (w1.drew).cell? ⟨w.heap.size + 1 + 1, 0, none⟩ = some (.int .i64 0) ∧ (w1.drew).cell? ⟨w.heap.size + 1 + 1, 1, none⟩ = some (.int .i64 0) ∧ (w1.drew).cell? ⟨w.heap.size + 1 + 1, 2, none⟩ = some (.int .i64 0) ∧ (w1.drew).cell? ⟨w.heap.size + 1 + 1, 3, none⟩ = some (.int .i64 0) ∧ (w1.drew).cell? ⟨w.heap.size + 1 + 1, 4, none⟩ = some (.int .i64 0) ∧ (w1.drew).cell? ⟨w.heap.size + 1 + 1, 5, none⟩ = some (.int .i64 0) ∧ (w1.drew).cell? ⟨w.heap.size + 1 + 1, 6, none⟩ = some (.int .i64 0) ∧ Below w.heap.size w (w1.drew) := ⟨Z0.out, Z1.out, Z2.out, Z3.out, Z4.out, Z5.out, Z6.out, HB1.out.trans (Below.mono (Below.drew (Below.refl _ _)) HB1.out.size)⟩
  refine wp_region_held_drew (S := fun w' => (w').cell? ⟨w.heap.size + 1 + 1, 0, none⟩ = some (.int .i64 0) ∧ (w').cell? ⟨w.heap.size + 1 + 1, 1, none⟩ = some (.int .i64 0) ∧ (w').cell? ⟨w.heap.size + 1 + 1, 2, none⟩ = some (.int .i64 0) ∧ (w').cell? ⟨w.heap.size + 1 + 1, 3, none⟩ = some (.int .i64 0) ∧ (w').cell? ⟨w.heap.size + 1 + 1, 4, none⟩ = some (.int .i64 0) ∧ (w').cell? ⟨w.heap.size + 1 + 1, 5, none⟩ = some (.int .i64 0) ∧ (w').cell? ⟨w.heap.size + 1 + 1, 6, none⟩ = some (.int .i64 0) ∧ Below w.heap.size w (w')) (by kernel_rfl) ?_ (fun hHeld => ?_)
  · exact hS0
  refine wpAnyH_take (i := 0) (oi := { dst := Option.some 24, op := Go.Op.load 30 (Go.Operand.tmp 8), type := 30, pos := "rec.go:83", after := #[], guard := Option.none }) (v := ?_) rfl (by kernel_rfl) (by kernel_rfl) (by kernel_rfl) (fun _ _ _ h => h) (Or.inl ⟨by rfl, ?_⟩) (by assumption) ?_
  rotate_left
  · intro w hSw; (try dsimp only at hSw); go_simp; (try with_reducible rfl)
  simp only [Act.put, List.setIfInBounds_toArray, List.set_cons_zero, List.set_cons_succ]
  refine wpAnyH_take (i := 1) (oi := { dst := Option.some 25, op := Go.Op.makeInterface 95 (Go.Operand.const (Go.Value.int Go.IntKind.i64 2)), type := 27, pos := "rec.go:83", after := #[], guard := Option.none }) (v := ?_) rfl (by kernel_rfl) (by kernel_rfl) (by kernel_rfl) (fun _ _ _ h => h) (Or.inl ⟨by rfl, ?_⟩) (by assumption) ?_
  rotate_left
  · intro w hSw; (try dsimp only at hSw); go_simp; (try with_reducible rfl)
  simp only [Act.put, List.setIfInBounds_toArray, List.set_cons_zero, List.set_cons_succ]
  refine wpAnyH_ready (rs := [2]) (by kernel_rfl) (by simp) ?_
  refine AllReadyH.cons (o := { dst := Option.some 26, op := Go.Op.call { callee := Go.Callee.value (Go.Operand.func 56), args := #[Go.Operand.const (Go.Value.string { data := #[114, 101, 99] }), Go.Operand.tmp 25], argTypes := #[9, 27] }, type := 27, pos := "rec.go:83", after := #[{ on := 1, ground := Go.Ground.data }], guard := Option.none }) rfl (fun K hK => ?_) AllReadyH.nil
  go_simp
  refine (Tag_err _ 2 _).mono ?_
  rintro e wn ⟨v, rfl, he, hb⟩
  have HE := Lib.hid he
  have hKn : (wn).cell? ⟨w.heap.size + 1 + 1, 0, none⟩ = some (.int .i64 0) ∧ (wn).cell? ⟨w.heap.size + 1 + 1, 1, none⟩ = some (.int .i64 0) ∧ (wn).cell? ⟨w.heap.size + 1 + 1, 2, none⟩ = some (.int .i64 0) ∧ (wn).cell? ⟨w.heap.size + 1 + 1, 3, none⟩ = some (.int .i64 0) ∧ (wn).cell? ⟨w.heap.size + 1 + 1, 4, none⟩ = some (.int .i64 0) ∧ (wn).cell? ⟨w.heap.size + 1 + 1, 5, none⟩ = some (.int .i64 0) ∧ (wn).cell? ⟨w.heap.size + 1 + 1, 6, none⟩ = some (.int .i64 0) ∧ Below w.heap.size w (wn) := ⟨(hb.cell (p := ⟨w.heap.size + 1 + 1, 0, none⟩) HL2.out).trans Z0.out, (hb.cell (p := ⟨w.heap.size + 1 + 1, 1, none⟩) HL2.out).trans Z1.out, (hb.cell (p := ⟨w.heap.size + 1 + 1, 2, none⟩) HL2.out).trans Z2.out, (hb.cell (p := ⟨w.heap.size + 1 + 1, 3, none⟩) HL2.out).trans Z3.out, (hb.cell (p := ⟨w.heap.size + 1 + 1, 4, none⟩) HL2.out).trans Z4.out, (hb.cell (p := ⟨w.heap.size + 1 + 1, 5, none⟩) HL2.out).trans Z5.out, (hb.cell (p := ⟨w.heap.size + 1 + 1, 6, none⟩) HL2.out).trans Z6.out, HB1.out.trans (((Below.drew (Below.refl _ _)).trans hb).mono HB1.out.size)⟩
  have HBn := Lib.hid hKn.2.2.2.2.2.2.2
  have HTn : Hid (wn.there (w.heap.size + 1) 0 7) := Lib.hid (there_under hb HL.out HTh.out)
  clear he hb
  go_wp2_with fail
  refine hK.out _ _ hKn (fun hHeld2 => ?_)
  clear hK K
  try simp only [Act.put, List.setIfInBounds_toArray, List.set_cons_zero, List.set_cons_succ]
  refine wpAnyH_ready (rs := [3]) (by kernel_rfl) (by simp) ?_
  refine AllReadyH.cons (o := { dst := Option.none, op := Go.Op.store 30 (Go.Operand.tmp 6) (Go.Operand.tmp 24), type := 0, pos := "rec.go:83", after := #[{ on := 0, ground := Go.Ground.data }, { on := 2, ground := Go.Ground.chain }, { on := 0, ground := Go.Ground.phase }, { on := 1, ground := Go.Ground.textOnly Go.Departure.lateStores }, { on := 2, ground := Go.Ground.textOnly Go.Departure.lateStoresUnsure }], guard := Option.none }) rfl (fun K hK => ?_) AllReadyH.nil
  refine wp_store_mid 30 _ _ rfl (w.heap.size + 1) 0 #[.int .i64 0, .int .i64 0, .int .i64 0, .int .i64 0, .int .i64 0, .int .i64 0, .int .i64 0] rfl rfl HTn.out (by kernel_rfl) (by simp [Value.oneCell']) ?_
  dsimp only [Array.toList]
  have hS3 : ((wn.setCells (w.heap.size + 1) 0 [.int .i64 0, .int .i64 0, .int .i64 0, .int .i64 0, .int .i64 0, .int .i64 0, .int .i64 0])).cell? ⟨w.heap.size + 1 + 1, 0, none⟩ = some (.int .i64 0) ∧ ((wn.setCells (w.heap.size + 1) 0 [.int .i64 0, .int .i64 0, .int .i64 0, .int .i64 0, .int .i64 0, .int .i64 0, .int .i64 0])).cell? ⟨w.heap.size + 1 + 1, 1, none⟩ = some (.int .i64 0) ∧ ((wn.setCells (w.heap.size + 1) 0 [.int .i64 0, .int .i64 0, .int .i64 0, .int .i64 0, .int .i64 0, .int .i64 0, .int .i64 0])).cell? ⟨w.heap.size + 1 + 1, 2, none⟩ = some (.int .i64 0) ∧ ((wn.setCells (w.heap.size + 1) 0 [.int .i64 0, .int .i64 0, .int .i64 0, .int .i64 0, .int .i64 0, .int .i64 0, .int .i64 0])).cell? ⟨w.heap.size + 1 + 1, 3, none⟩ = some (.int .i64 0) ∧ ((wn.setCells (w.heap.size + 1) 0 [.int .i64 0, .int .i64 0, .int .i64 0, .int .i64 0, .int .i64 0, .int .i64 0, .int .i64 0])).cell? ⟨w.heap.size + 1 + 1, 4, none⟩ = some (.int .i64 0) ∧ ((wn.setCells (w.heap.size + 1) 0 [.int .i64 0, .int .i64 0, .int .i64 0, .int .i64 0, .int .i64 0, .int .i64 0, .int .i64 0])).cell? ⟨w.heap.size + 1 + 1, 5, none⟩ = some (.int .i64 0) ∧ ((wn.setCells (w.heap.size + 1) 0 [.int .i64 0, .int .i64 0, .int .i64 0, .int .i64 0, .int .i64 0, .int .i64 0, .int .i64 0])).cell? ⟨w.heap.size + 1 + 1, 6, none⟩ = some (.int .i64 0) ∧ Below w.heap.size w ((wn.setCells (w.heap.size + 1) 0 [.int .i64 0, .int .i64 0, .int .i64 0, .int .i64 0, .int .i64 0, .int .i64 0, .int .i64 0])) := ⟨(set_other _ _ _ _ _ _ (by simp)).trans hKn.1, (set_other _ _ _ _ _ _ (by simp)).trans hKn.2.1, (set_other _ _ _ _ _ _ (by simp)).trans hKn.2.2.1, (set_other _ _ _ _ _ _ (by simp)).trans hKn.2.2.2.1, (set_other _ _ _ _ _ _ (by simp)).trans hKn.2.2.2.2.1, (set_other _ _ _ _ _ _ (by simp)).trans hKn.2.2.2.2.2.1, (set_other _ _ _ _ _ _ (by simp)).trans hKn.2.2.2.2.2.2.1, HBn.out.trans (below_set _ _ _ _ _ (by simp))⟩
  refine hK.out _ _ hS3 (fun hHeld3 => ?_)
  clear hK K
  try simp only [Act.put, List.setIfInBounds_toArray, List.set_cons_zero, List.set_cons_succ]
  refine wpAnyH_take (i := 4) (oi := { dst := Option.some 7, op := Go.Op.assign (Go.Operand.tmp 26), type := 27, pos := "rec.go:83", after := #[{ on := 2, ground := Go.Ground.data }, { on := 3, ground := Go.Ground.chain }, { on := 0, ground := Go.Ground.phase }, { on := 1, ground := Go.Ground.phase }, { on := 2, ground := Go.Ground.phase }, { on := 3, ground := Go.Ground.phase }], guard := Option.none }) (v := ?_) rfl (by kernel_rfl) (by kernel_rfl) (by kernel_rfl) (fun _ _ _ h => h) (Or.inl ⟨by rfl, ?_⟩) (by assumption) ?_
  rotate_left
  · intro w hSw; (try dsimp only at hSw); go_simp; (try with_reducible rfl)
  simp only [Act.put, List.setIfInBounds_toArray, List.set_cons_zero, List.set_cons_succ]
  refine wpAnyH_done (by kernel_rfl) ?_ _
  go_wp2_with fail
  have hld := run_loadVar_mid (P := Tryd.prog) (wn.setCells (w.heap.size + 1) 0 [.int .i64 0, .int .i64 0, .int .i64 0, .int .i64 0, .int .i64 0, .int .i64 0, .int .i64 0]) (w.heap.size + 1) 0 30 [.int .i64 0, .int .i64 0, .int .i64 0, .int .i64 0, .int .i64 0, .int .i64 0, .int .i64 0] _ (World.rangeAt_setCells_same wn _ _ _ HTn.out) Tryd.underlying30 rfl (by kernel_rfl)
  refine bodyPost_ret (v := .tuple #[.agg #[.int .i64 0, .int .i64 0, .int .i64 0, .int .i64 0, .int .i64 0, .int .i64 0, .int .i64 0], v]) (results_two Tryd.results51 _ _ _ _ _ rfl rfl hld) rfl ⟨_, rfl, ?_, ?_⟩
  · exact (err_set HE.out HL.out).mono HB1.out.size
  · exact hS3.2.2.2.2.2.2.2
set_option maxHeartbeats 2000000 in
set_option maxRecDepth 100000 in
theorem same_t_ok (f t s : Int) (S : ByteArray) (w : World) (hl : Hid (∀ W, Calls Tryd.prog 20 #[.agg #[.int .i64 f, .int .i64 t, .int .i64 s]] W fun e w' => e = .returned (.tuple #[.string S, .nilIface]) ∧ Below W.heap.size W w')) :
    Calls Tryd.prog 55 #[.agg #[.int .i64 f, .int .i64 t, .int .i64 s], .func (.func 20) #[] #[], .string S] w fun e w' => e = .returned (.tuple #[.agg #[.int .i64 f, .int .i64 t, .int .i64 s], .nilIface]) ∧ Below w.heap.size w w' := by
  have HB0 : Hid (Below w.heap.size w (((w.alloc (.cells #[.int .i64 f, .int .i64 t, .int .i64 s] 43)).alloc (.cells #[.int .i64 0, .int .i64 0, .int .i64 0] 43)).alloc (.cells #[.int .i64 0, .int .i64 0, .int .i64 0] 43))) := Lib.hid ((((Below.refl _ _).alloc (Nat.le_refl _) _).alloc (by simp) _).alloc (by simp; omega) _)
  go_enter Tryd.func55, Tryd.ntmps55
  go_wp2_with fail
  refine (hl.out _).mono ?_
  rintro e w1 ⟨rfl, hb⟩
  have HB1 := Lib.hid (HB0.out.trans (hb.mono (by simp; omega)))
  have x0 : w1.cell? ⟨w.heap.size, 0, none⟩ = some (.int .i64 f) := (hb.cell (by simp; try omega)).trans (by simp [go_sem])
  have x1 : w1.cell? ⟨w.heap.size, 1, none⟩ = some (.int .i64 t) := (hb.cell (by simp; try omega)).trans (by simp [go_sem])
  have x2 : w1.cell? ⟨w.heap.size, 2, none⟩ = some (.int .i64 s) := (hb.cell (by simp; try omega)).trans (by simp [go_sem])
  have hth : w1.there (w.heap.size + 1) 0 3 := there_under hb (by simp; try omega) (there_under ((Below.refl _ _).alloc (Nat.le_refl _) _) (by simp) (there_last _ _ _ _ (by simp) (by simp)))
  have hL : w.heap.size + 1 < w1.heap.size := cell_lt (p := ⟨w.heap.size + 1, 0, none⟩) (Option.isSome_iff_exists.1 (hth 0 (by omega)).1).choose_spec
  clear hb
  have HTh := Lib.hid hth
  clear hth
  go_wp2_with ((with_reducible refine at_st 43 (.tmp 6) (.tmp 27) ?_); refine wpList_store_mid rfl 43 _ _ rfl (w.heap.size + 1) 0 #[.int .i64 f, .int .i64 t, .int .i64 s] rfl rfl HTh.out (by kernel_rfl) (by simp [Value.oneCell']) ?_; dsimp only [Array.toList])
  have hld := run_loadVar_mid (P := Tryd.prog) (w1.setCells (w.heap.size + 1) 0 [.int .i64 f, .int .i64 t, .int .i64 s]) (w.heap.size + 1) 0 43 [.int .i64 f, .int .i64 t, .int .i64 s] _ (World.rangeAt_setCells_same w1 _ _ _ HTh.out) Tryd.underlying43 rfl (by kernel_rfl)
  refine bodyPost_ret (v := .tuple #[.agg #[.int .i64 f, .int .i64 t, .int .i64 s], .nilIface]) (results_two Tryd.results55 _ _ _ _ _ rfl rfl hld) rfl ⟨rfl, ?_⟩
  exact HB1.out.trans (below_set _ _ _ _ _ (by simp))
set_option maxHeartbeats 2000000 in
set_option maxRecDepth 100000 in
theorem same_t_ne (f t s : Int) (S T : ByteArray) (hne : T ≠ S) (w : World) (hl : Hid (∀ W, Calls Tryd.prog 20 #[.agg #[.int .i64 f, .int .i64 t, .int .i64 s]] W fun e w' => e = .returned (.tuple #[.string T, .nilIface]) ∧ Below W.heap.size W w')) :
    Calls Tryd.prog 55 #[.agg #[.int .i64 f, .int .i64 t, .int .i64 s], .func (.func 20) #[] #[], .string S] w fun e w' => ∃ v, e = .returned (.tuple #[.agg #[.int .i64 0, .int .i64 0, .int .i64 0], v]) ∧ ErrC w.heap.size w' v 2 ∧ Below w.heap.size w w' := by
  have hne2 : (T.toList == S.toList) = false := by rw [beq_eq_false_iff_ne]; exact fun e => hne (bytes_ext e)
  have HB0 : Hid (Below w.heap.size w (((w.alloc (.cells #[.int .i64 f, .int .i64 t, .int .i64 s] 43)).alloc (.cells #[.int .i64 0, .int .i64 0, .int .i64 0] 43)).alloc (.cells #[.int .i64 0, .int .i64 0, .int .i64 0] 43))) := Lib.hid ((((Below.refl _ _).alloc (Nat.le_refl _) _).alloc (by simp) _).alloc (by simp; omega) _)
  go_enter Tryd.func55, Tryd.ntmps55
  go_wp2_with fail
  refine (hl.out _).mono ?_
  rintro e w1 ⟨rfl, hb⟩
  have HB1 := Lib.hid (HB0.out.trans (hb.mono (by simp; omega)))
  have z0 : w1.cell? ⟨w.heap.size + 1 + 1, 0, none⟩ = some (.int .i64 0) := (hb.cell (by simp; try omega)).trans (by simp [go_sem])
  have z1 : w1.cell? ⟨w.heap.size + 1 + 1, 1, none⟩ = some (.int .i64 0) := (hb.cell (by simp; try omega)).trans (by simp [go_sem])
  have z2 : w1.cell? ⟨w.heap.size + 1 + 1, 2, none⟩ = some (.int .i64 0) := (hb.cell (by simp; try omega)).trans (by simp [go_sem])
  have hth : w1.there (w.heap.size + 1) 0 3 := there_under hb (by simp; try omega) (there_under ((Below.refl _ _).alloc (Nat.le_refl _) _) (by simp) (there_last _ _ _ _ (by simp) (by simp)))
  have hL : w.heap.size + 1 < w1.heap.size := cell_lt (p := ⟨w.heap.size + 1, 0, none⟩) (Option.isSome_iff_exists.1 (hth 0 (by omega)).1).choose_spec
  clear hb
  have Z0 := Lib.hid z0
  have Z1 := Lib.hid z1
  have Z2 := Lib.hid z2
  have HL2 := Lib.hid (show w.heap.size + 1 + 1 < w1.heap.size from cell_lt z0)
  have HL := Lib.hid hL
  have HTh := Lib.hid hth
  clear hL hth z0 z1 z2
  go_wp2_with fail
  have hS0 : (w1.drew).cell? ⟨w.heap.size + 1 + 1, 0, none⟩ = some (.int .i64 0) ∧ (w1.drew).cell? ⟨w.heap.size + 1 + 1, 1, none⟩ = some (.int .i64 0) ∧ (w1.drew).cell? ⟨w.heap.size + 1 + 1, 2, none⟩ = some (.int .i64 0) ∧ Below w.heap.size w (w1.drew) := ⟨Z0.out, Z1.out, Z2.out, HB1.out.trans (Below.mono (Below.drew (Below.refl _ _)) HB1.out.size)⟩
  refine wp_region_held_drew (S := fun w' => (w').cell? ⟨w.heap.size + 1 + 1, 0, none⟩ = some (.int .i64 0) ∧ (w').cell? ⟨w.heap.size + 1 + 1, 1, none⟩ = some (.int .i64 0) ∧ (w').cell? ⟨w.heap.size + 1 + 1, 2, none⟩ = some (.int .i64 0) ∧ Below w.heap.size w (w')) (by kernel_rfl) ?_ (fun hHeld => ?_)
  · exact hS0
  refine wpAnyH_take (i := 0) (oi := { dst := Option.some 24, op := Go.Op.load 43 (Go.Operand.tmp 8), type := 43, pos := "rec.go:83", after := #[], guard := Option.none }) (v := ?_) rfl (by kernel_rfl) (by kernel_rfl) (by kernel_rfl) (fun _ _ _ h => h) (Or.inl ⟨by rfl, ?_⟩) (by assumption) ?_
  rotate_left
  · intro w hSw; (try dsimp only at hSw); go_simp; (try with_reducible rfl)
  simp only [Act.put, List.setIfInBounds_toArray, List.set_cons_zero, List.set_cons_succ]
  refine wpAnyH_take (i := 1) (oi := { dst := Option.some 25, op := Go.Op.makeInterface 95 (Go.Operand.const (Go.Value.int Go.IntKind.i64 2)), type := 27, pos := "rec.go:83", after := #[], guard := Option.none }) (v := ?_) rfl (by kernel_rfl) (by kernel_rfl) (by kernel_rfl) (fun _ _ _ h => h) (Or.inl ⟨by rfl, ?_⟩) (by assumption) ?_
  rotate_left
  · intro w hSw; (try dsimp only at hSw); go_simp; (try with_reducible rfl)
  simp only [Act.put, List.setIfInBounds_toArray, List.set_cons_zero, List.set_cons_succ]
  refine wpAnyH_ready (rs := [2]) (by kernel_rfl) (by simp) ?_
  refine AllReadyH.cons (o := { dst := Option.some 26, op := Go.Op.call { callee := Go.Callee.value (Go.Operand.func 56), args := #[Go.Operand.const (Go.Value.string { data := #[114, 101, 99] }), Go.Operand.tmp 25], argTypes := #[9, 27] }, type := 27, pos := "rec.go:83", after := #[{ on := 1, ground := Go.Ground.data }], guard := Option.none }) rfl (fun K hK => ?_) AllReadyH.nil
  go_simp
  refine (Tag_err _ 2 _).mono ?_
  rintro e wn ⟨v, rfl, he, hb⟩
  have HE := Lib.hid he
  have hKn : (wn).cell? ⟨w.heap.size + 1 + 1, 0, none⟩ = some (.int .i64 0) ∧ (wn).cell? ⟨w.heap.size + 1 + 1, 1, none⟩ = some (.int .i64 0) ∧ (wn).cell? ⟨w.heap.size + 1 + 1, 2, none⟩ = some (.int .i64 0) ∧ Below w.heap.size w (wn) := ⟨(hb.cell (p := ⟨w.heap.size + 1 + 1, 0, none⟩) HL2.out).trans Z0.out, (hb.cell (p := ⟨w.heap.size + 1 + 1, 1, none⟩) HL2.out).trans Z1.out, (hb.cell (p := ⟨w.heap.size + 1 + 1, 2, none⟩) HL2.out).trans Z2.out, HB1.out.trans (((Below.drew (Below.refl _ _)).trans hb).mono HB1.out.size)⟩
  have HBn := Lib.hid hKn.2.2.2
  have HTn : Hid (wn.there (w.heap.size + 1) 0 3) := Lib.hid (there_under hb HL.out HTh.out)
  clear he hb
  go_wp2_with fail
  refine hK.out _ _ hKn (fun hHeld2 => ?_)
  clear hK K
  try simp only [Act.put, List.setIfInBounds_toArray, List.set_cons_zero, List.set_cons_succ]
  refine wpAnyH_ready (rs := [3]) (by kernel_rfl) (by simp) ?_
  refine AllReadyH.cons (o := { dst := Option.none, op := Go.Op.store 43 (Go.Operand.tmp 6) (Go.Operand.tmp 24), type := 0, pos := "rec.go:83", after := #[{ on := 0, ground := Go.Ground.data }, { on := 2, ground := Go.Ground.chain }, { on := 0, ground := Go.Ground.phase }, { on := 1, ground := Go.Ground.textOnly Go.Departure.lateStores }, { on := 2, ground := Go.Ground.textOnly Go.Departure.lateStoresUnsure }], guard := Option.none }) rfl (fun K hK => ?_) AllReadyH.nil
  refine wp_store_mid 43 _ _ rfl (w.heap.size + 1) 0 #[.int .i64 0, .int .i64 0, .int .i64 0] rfl rfl HTn.out (by kernel_rfl) (by simp [Value.oneCell']) ?_
  dsimp only [Array.toList]
  have hS3 : ((wn.setCells (w.heap.size + 1) 0 [.int .i64 0, .int .i64 0, .int .i64 0])).cell? ⟨w.heap.size + 1 + 1, 0, none⟩ = some (.int .i64 0) ∧ ((wn.setCells (w.heap.size + 1) 0 [.int .i64 0, .int .i64 0, .int .i64 0])).cell? ⟨w.heap.size + 1 + 1, 1, none⟩ = some (.int .i64 0) ∧ ((wn.setCells (w.heap.size + 1) 0 [.int .i64 0, .int .i64 0, .int .i64 0])).cell? ⟨w.heap.size + 1 + 1, 2, none⟩ = some (.int .i64 0) ∧ Below w.heap.size w ((wn.setCells (w.heap.size + 1) 0 [.int .i64 0, .int .i64 0, .int .i64 0])) := ⟨(set_other _ _ _ _ _ _ (by simp)).trans hKn.1, (set_other _ _ _ _ _ _ (by simp)).trans hKn.2.1, (set_other _ _ _ _ _ _ (by simp)).trans hKn.2.2.1, HBn.out.trans (below_set _ _ _ _ _ (by simp))⟩
  refine hK.out _ _ hS3 (fun hHeld3 => ?_)
  clear hK K
  try simp only [Act.put, List.setIfInBounds_toArray, List.set_cons_zero, List.set_cons_succ]
  refine wpAnyH_take (i := 4) (oi := { dst := Option.some 7, op := Go.Op.assign (Go.Operand.tmp 26), type := 27, pos := "rec.go:83", after := #[{ on := 2, ground := Go.Ground.data }, { on := 3, ground := Go.Ground.chain }, { on := 0, ground := Go.Ground.phase }, { on := 1, ground := Go.Ground.phase }, { on := 2, ground := Go.Ground.phase }, { on := 3, ground := Go.Ground.phase }], guard := Option.none }) (v := ?_) rfl (by kernel_rfl) (by kernel_rfl) (by kernel_rfl) (fun _ _ _ h => h) (Or.inl ⟨by rfl, ?_⟩) (by assumption) ?_
  rotate_left
  · intro w hSw; (try dsimp only at hSw); go_simp; (try with_reducible rfl)
  simp only [Act.put, List.setIfInBounds_toArray, List.set_cons_zero, List.set_cons_succ]
  refine wpAnyH_done (by kernel_rfl) ?_ _
  go_wp2_with fail
  have hld := run_loadVar_mid (P := Tryd.prog) (wn.setCells (w.heap.size + 1) 0 [.int .i64 0, .int .i64 0, .int .i64 0]) (w.heap.size + 1) 0 43 [.int .i64 0, .int .i64 0, .int .i64 0] _ (World.rangeAt_setCells_same wn _ _ _ HTn.out) Tryd.underlying43 rfl (by kernel_rfl)
  refine bodyPost_ret (v := .tuple #[.agg #[.int .i64 0, .int .i64 0, .int .i64 0], v]) (results_two Tryd.results55 _ _ _ _ _ rfl rfl hld) rfl ⟨_, rfl, ?_, ?_⟩
  · exact (err_set HE.out HL.out).mono HB1.out.size
  · exact hS3.2.2.2
set_option maxHeartbeats 2000000 in
set_option maxRecDepth 100000 in
theorem same_t_no (f t s : Int) (S : ByteArray) (w : World) (hl : Hid (∀ W, Calls Tryd.prog 20 #[.agg #[.int .i64 f, .int .i64 t, .int .i64 s]] W (LayPost W))) :
    Calls Tryd.prog 55 #[.agg #[.int .i64 f, .int .i64 t, .int .i64 s], .func (.func 20) #[] #[], .string S] w fun e w' => ∃ v, e = .returned (.tuple #[.agg #[.int .i64 0, .int .i64 0, .int .i64 0], v]) ∧ ErrC w.heap.size w' v 2 ∧ Below w.heap.size w w' := by
  have HB0 : Hid (Below w.heap.size w (((w.alloc (.cells #[.int .i64 f, .int .i64 t, .int .i64 s] 43)).alloc (.cells #[.int .i64 0, .int .i64 0, .int .i64 0] 43)).alloc (.cells #[.int .i64 0, .int .i64 0, .int .i64 0] 43))) := Lib.hid ((((Below.refl _ _).alloc (Nat.le_refl _) _).alloc (by simp) _).alloc (by simp; omega) _)
  go_enter Tryd.func55, Tryd.ntmps55
  go_wp2_with fail
  refine (hl.out _).mono ?_
  rintro e w1 ⟨v, rfl, he, hb⟩
  obtain ⟨ty, xx, rfl⟩ := he.iface (by decide)
  clear he
  have HB1 := Lib.hid (HB0.out.trans (hb.mono (by simp; omega)))
  have z0 : w1.cell? ⟨w.heap.size + 1 + 1, 0, none⟩ = some (.int .i64 0) := (hb.cell (by simp; try omega)).trans (by simp [go_sem])
  have z1 : w1.cell? ⟨w.heap.size + 1 + 1, 1, none⟩ = some (.int .i64 0) := (hb.cell (by simp; try omega)).trans (by simp [go_sem])
  have z2 : w1.cell? ⟨w.heap.size + 1 + 1, 2, none⟩ = some (.int .i64 0) := (hb.cell (by simp; try omega)).trans (by simp [go_sem])
  have hth : w1.there (w.heap.size + 1) 0 3 := there_under hb (by simp; try omega) (there_under ((Below.refl _ _).alloc (Nat.le_refl _) _) (by simp) (there_last _ _ _ _ (by simp) (by simp)))
  have hL : w.heap.size + 1 < w1.heap.size := cell_lt (p := ⟨w.heap.size + 1, 0, none⟩) (Option.isSome_iff_exists.1 (hth 0 (by omega)).1).choose_spec
  clear hb
  have Z0 := Lib.hid z0
  have Z1 := Lib.hid z1
  have Z2 := Lib.hid z2
  have HL2 := Lib.hid (show w.heap.size + 1 + 1 < w1.heap.size from cell_lt z0)
  have HL := Lib.hid hL
  have HTh := Lib.hid hth
  clear hL hth z0 z1 z2
  go_wp2_with fail
  have hS0 : (w1.drew).cell? ⟨w.heap.size + 1 + 1, 0, none⟩ = some (.int .i64 0) ∧ (w1.drew).cell? ⟨w.heap.size + 1 + 1, 1, none⟩ = some (.int .i64 0) ∧ (w1.drew).cell? ⟨w.heap.size + 1 + 1, 2, none⟩ = some (.int .i64 0) ∧ Below w.heap.size w (w1.drew) := ⟨Z0.out, Z1.out, Z2.out, HB1.out.trans (Below.mono (Below.drew (Below.refl _ _)) HB1.out.size)⟩
  refine wp_region_held_drew (S := fun w' => (w').cell? ⟨w.heap.size + 1 + 1, 0, none⟩ = some (.int .i64 0) ∧ (w').cell? ⟨w.heap.size + 1 + 1, 1, none⟩ = some (.int .i64 0) ∧ (w').cell? ⟨w.heap.size + 1 + 1, 2, none⟩ = some (.int .i64 0) ∧ Below w.heap.size w (w')) (by kernel_rfl) ?_ (fun hHeld => ?_)
  · exact hS0
  refine wpAnyH_take (i := 0) (oi := { dst := Option.some 24, op := Go.Op.load 43 (Go.Operand.tmp 8), type := 43, pos := "rec.go:83", after := #[], guard := Option.none }) (v := ?_) rfl (by kernel_rfl) (by kernel_rfl) (by kernel_rfl) (fun _ _ _ h => h) (Or.inl ⟨by rfl, ?_⟩) (by assumption) ?_
  rotate_left
  · intro w hSw; (try dsimp only at hSw); go_simp; (try with_reducible rfl)
  simp only [Act.put, List.setIfInBounds_toArray, List.set_cons_zero, List.set_cons_succ]
  refine wpAnyH_take (i := 1) (oi := { dst := Option.some 25, op := Go.Op.makeInterface 95 (Go.Operand.const (Go.Value.int Go.IntKind.i64 2)), type := 27, pos := "rec.go:83", after := #[], guard := Option.none }) (v := ?_) rfl (by kernel_rfl) (by kernel_rfl) (by kernel_rfl) (fun _ _ _ h => h) (Or.inl ⟨by rfl, ?_⟩) (by assumption) ?_
  rotate_left
  · intro w hSw; (try dsimp only at hSw); go_simp; (try with_reducible rfl)
  simp only [Act.put, List.setIfInBounds_toArray, List.set_cons_zero, List.set_cons_succ]
  refine wpAnyH_ready (rs := [2]) (by kernel_rfl) (by simp) ?_
  refine AllReadyH.cons (o := { dst := Option.some 26, op := Go.Op.call { callee := Go.Callee.value (Go.Operand.func 56), args := #[Go.Operand.const (Go.Value.string { data := #[114, 101, 99] }), Go.Operand.tmp 25], argTypes := #[9, 27] }, type := 27, pos := "rec.go:83", after := #[{ on := 1, ground := Go.Ground.data }], guard := Option.none }) rfl (fun K hK => ?_) AllReadyH.nil
  go_simp
  refine (Tag_err _ 2 _).mono ?_
  rintro e wn ⟨v, rfl, he, hb⟩
  have HE := Lib.hid he
  have hKn : (wn).cell? ⟨w.heap.size + 1 + 1, 0, none⟩ = some (.int .i64 0) ∧ (wn).cell? ⟨w.heap.size + 1 + 1, 1, none⟩ = some (.int .i64 0) ∧ (wn).cell? ⟨w.heap.size + 1 + 1, 2, none⟩ = some (.int .i64 0) ∧ Below w.heap.size w (wn) := ⟨(hb.cell (p := ⟨w.heap.size + 1 + 1, 0, none⟩) HL2.out).trans Z0.out, (hb.cell (p := ⟨w.heap.size + 1 + 1, 1, none⟩) HL2.out).trans Z1.out, (hb.cell (p := ⟨w.heap.size + 1 + 1, 2, none⟩) HL2.out).trans Z2.out, HB1.out.trans (((Below.drew (Below.refl _ _)).trans hb).mono HB1.out.size)⟩
  have HBn := Lib.hid hKn.2.2.2
  have HTn : Hid (wn.there (w.heap.size + 1) 0 3) := Lib.hid (there_under hb HL.out HTh.out)
  clear he hb
  go_wp2_with fail
  refine hK.out _ _ hKn (fun hHeld2 => ?_)
  clear hK K
  try simp only [Act.put, List.setIfInBounds_toArray, List.set_cons_zero, List.set_cons_succ]
  refine wpAnyH_ready (rs := [3]) (by kernel_rfl) (by simp) ?_
  refine AllReadyH.cons (o := { dst := Option.none, op := Go.Op.store 43 (Go.Operand.tmp 6) (Go.Operand.tmp 24), type := 0, pos := "rec.go:83", after := #[{ on := 0, ground := Go.Ground.data }, { on := 2, ground := Go.Ground.chain }, { on := 0, ground := Go.Ground.phase }, { on := 1, ground := Go.Ground.textOnly Go.Departure.lateStores }, { on := 2, ground := Go.Ground.textOnly Go.Departure.lateStoresUnsure }], guard := Option.none }) rfl (fun K hK => ?_) AllReadyH.nil
  refine wp_store_mid 43 _ _ rfl (w.heap.size + 1) 0 #[.int .i64 0, .int .i64 0, .int .i64 0] rfl rfl HTn.out (by kernel_rfl) (by simp [Value.oneCell']) ?_
  dsimp only [Array.toList]
  have hS3 : ((wn.setCells (w.heap.size + 1) 0 [.int .i64 0, .int .i64 0, .int .i64 0])).cell? ⟨w.heap.size + 1 + 1, 0, none⟩ = some (.int .i64 0) ∧ ((wn.setCells (w.heap.size + 1) 0 [.int .i64 0, .int .i64 0, .int .i64 0])).cell? ⟨w.heap.size + 1 + 1, 1, none⟩ = some (.int .i64 0) ∧ ((wn.setCells (w.heap.size + 1) 0 [.int .i64 0, .int .i64 0, .int .i64 0])).cell? ⟨w.heap.size + 1 + 1, 2, none⟩ = some (.int .i64 0) ∧ Below w.heap.size w ((wn.setCells (w.heap.size + 1) 0 [.int .i64 0, .int .i64 0, .int .i64 0])) := ⟨(set_other _ _ _ _ _ _ (by simp)).trans hKn.1, (set_other _ _ _ _ _ _ (by simp)).trans hKn.2.1, (set_other _ _ _ _ _ _ (by simp)).trans hKn.2.2.1, HBn.out.trans (below_set _ _ _ _ _ (by simp))⟩
  refine hK.out _ _ hS3 (fun hHeld3 => ?_)
  clear hK K
  try simp only [Act.put, List.setIfInBounds_toArray, List.set_cons_zero, List.set_cons_succ]
  refine wpAnyH_take (i := 4) (oi := { dst := Option.some 7, op := Go.Op.assign (Go.Operand.tmp 26), type := 27, pos := "rec.go:83", after := #[{ on := 2, ground := Go.Ground.data }, { on := 3, ground := Go.Ground.chain }, { on := 0, ground := Go.Ground.phase }, { on := 1, ground := Go.Ground.phase }, { on := 2, ground := Go.Ground.phase }, { on := 3, ground := Go.Ground.phase }], guard := Option.none }) (v := ?_) rfl (by kernel_rfl) (by kernel_rfl) (by kernel_rfl) (fun _ _ _ h => h) (Or.inl ⟨by rfl, ?_⟩) (by assumption) ?_
  rotate_left
  · intro w hSw; (try dsimp only at hSw); go_simp; (try with_reducible rfl)
  simp only [Act.put, List.setIfInBounds_toArray, List.set_cons_zero, List.set_cons_succ]
  refine wpAnyH_done (by kernel_rfl) ?_ _
  go_wp2_with fail
  have hld := run_loadVar_mid (P := Tryd.prog) (wn.setCells (w.heap.size + 1) 0 [.int .i64 0, .int .i64 0, .int .i64 0]) (w.heap.size + 1) 0 43 [.int .i64 0, .int .i64 0, .int .i64 0] _ (World.rangeAt_setCells_same wn _ _ _ HTn.out) Tryd.underlying43 rfl (by kernel_rfl)
  refine bodyPost_ret (v := .tuple #[.agg #[.int .i64 0, .int .i64 0, .int .i64 0], v]) (results_two Tryd.results55 _ _ _ _ _ rfl rfl hld) rfl ⟨_, rfl, ?_, ?_⟩
  · exact (err_set HE.out HL.out).mono HB1.out.size
  · exact hS3.2.2.2
set_option maxHeartbeats 2000000 in
set_option maxRecDepth 100000 in
theorem same_a_ok (k b0 b1 b2 b3 b4 b5 b6 b7 : Int) (S : ByteArray) (w : World) (hl : Hid (∀ W, Calls Tryd.prog 21 #[.agg #[.int .i64 k, .int .u8 b0, .int .u8 b1, .int .u8 b2, .int .u8 b3, .int .u8 b4, .int .u8 b5, .int .u8 b6, .int .u8 b7]] W fun e w' => e = .returned (.tuple #[.string S, .nilIface]) ∧ Below W.heap.size W w')) :
    Calls Tryd.prog 58 #[.agg #[.int .i64 k, .int .u8 b0, .int .u8 b1, .int .u8 b2, .int .u8 b3, .int .u8 b4, .int .u8 b5, .int .u8 b6, .int .u8 b7], .func (.func 21) #[] #[], .string S] w fun e w' => e = .returned (.tuple #[.agg #[.int .i64 k, .int .u8 b0, .int .u8 b1, .int .u8 b2, .int .u8 b3, .int .u8 b4, .int .u8 b5, .int .u8 b6, .int .u8 b7], .nilIface]) ∧ Below w.heap.size w w' := by
  have HB0 : Hid (Below w.heap.size w (((w.alloc (.cells #[.int .i64 k, .int .u8 b0, .int .u8 b1, .int .u8 b2, .int .u8 b3, .int .u8 b4, .int .u8 b5, .int .u8 b6, .int .u8 b7] 45)).alloc (.cells #[.int .i64 0, .int .u8 0, .int .u8 0, .int .u8 0, .int .u8 0, .int .u8 0, .int .u8 0, .int .u8 0, .int .u8 0] 45)).alloc (.cells #[.int .i64 0, .int .u8 0, .int .u8 0, .int .u8 0, .int .u8 0, .int .u8 0, .int .u8 0, .int .u8 0, .int .u8 0] 45))) := Lib.hid ((((Below.refl _ _).alloc (Nat.le_refl _) _).alloc (by simp) _).alloc (by simp; omega) _)
  go_enter Tryd.func58, Tryd.ntmps58
  go_wp2_with fail
  refine (hl.out _).mono ?_
  rintro e w1 ⟨rfl, hb⟩
  have HB1 := Lib.hid (HB0.out.trans (hb.mono (by simp; omega)))
  have x0 : w1.cell? ⟨w.heap.size, 0, none⟩ = some (.int .i64 k) := (hb.cell (by simp; try omega)).trans (by simp [go_sem])
  have x1 : w1.cell? ⟨w.heap.size, 1, none⟩ = some (.int .u8 b0) := (hb.cell (by simp; try omega)).trans (by simp [go_sem])
  have x2 : w1.cell? ⟨w.heap.size, 2, none⟩ = some (.int .u8 b1) := (hb.cell (by simp; try omega)).trans (by simp [go_sem])
  have x3 : w1.cell? ⟨w.heap.size, 3, none⟩ = some (.int .u8 b2) := (hb.cell (by simp; try omega)).trans (by simp [go_sem])
  have x4 : w1.cell? ⟨w.heap.size, 4, none⟩ = some (.int .u8 b3) := (hb.cell (by simp; try omega)).trans (by simp [go_sem])
  have x5 : w1.cell? ⟨w.heap.size, 5, none⟩ = some (.int .u8 b4) := (hb.cell (by simp; try omega)).trans (by simp [go_sem])
  have x6 : w1.cell? ⟨w.heap.size, 6, none⟩ = some (.int .u8 b5) := (hb.cell (by simp; try omega)).trans (by simp [go_sem])
  have x7 : w1.cell? ⟨w.heap.size, 7, none⟩ = some (.int .u8 b6) := (hb.cell (by simp; try omega)).trans (by simp [go_sem])
  have x8 : w1.cell? ⟨w.heap.size, 8, none⟩ = some (.int .u8 b7) := (hb.cell (by simp; try omega)).trans (by simp [go_sem])
  have hth : w1.there (w.heap.size + 1) 0 9 := there_under hb (by simp; try omega) (there_under ((Below.refl _ _).alloc (Nat.le_refl _) _) (by simp) (there_last _ _ _ _ (by simp) (by simp)))
  have hL : w.heap.size + 1 < w1.heap.size := cell_lt (p := ⟨w.heap.size + 1, 0, none⟩) (Option.isSome_iff_exists.1 (hth 0 (by omega)).1).choose_spec
  clear hb
  have HTh := Lib.hid hth
  clear hth
  go_wp2_with ((with_reducible refine at_st 45 (.tmp 6) (.tmp 27) ?_); refine wpList_store_mid rfl 45 _ _ rfl (w.heap.size + 1) 0 #[.int .i64 k, .int .u8 b0, .int .u8 b1, .int .u8 b2, .int .u8 b3, .int .u8 b4, .int .u8 b5, .int .u8 b6, .int .u8 b7] rfl rfl HTh.out (by kernel_rfl) (by simp [Value.oneCell']) ?_; dsimp only [Array.toList])
  have hld := run_loadVar_mid (P := Tryd.prog) (w1.setCells (w.heap.size + 1) 0 [.int .i64 k, .int .u8 b0, .int .u8 b1, .int .u8 b2, .int .u8 b3, .int .u8 b4, .int .u8 b5, .int .u8 b6, .int .u8 b7]) (w.heap.size + 1) 0 45 [.int .i64 k, .int .u8 b0, .int .u8 b1, .int .u8 b2, .int .u8 b3, .int .u8 b4, .int .u8 b5, .int .u8 b6, .int .u8 b7] _ (World.rangeAt_setCells_same w1 _ _ _ HTh.out) Tryd.underlying45 rfl (by kernel_rfl)
  refine bodyPost_ret (v := .tuple #[.agg #[.int .i64 k, .int .u8 b0, .int .u8 b1, .int .u8 b2, .int .u8 b3, .int .u8 b4, .int .u8 b5, .int .u8 b6, .int .u8 b7], .nilIface]) (results_two Tryd.results58 _ _ _ _ _ rfl rfl hld) rfl ⟨rfl, ?_⟩
  exact HB1.out.trans (below_set _ _ _ _ _ (by simp))
set_option maxHeartbeats 2000000 in
set_option maxRecDepth 100000 in
theorem same_a_ne (k b0 b1 b2 b3 b4 b5 b6 b7 : Int) (S T : ByteArray) (hne : T ≠ S) (w : World) (hl : Hid (∀ W, Calls Tryd.prog 21 #[.agg #[.int .i64 k, .int .u8 b0, .int .u8 b1, .int .u8 b2, .int .u8 b3, .int .u8 b4, .int .u8 b5, .int .u8 b6, .int .u8 b7]] W fun e w' => e = .returned (.tuple #[.string T, .nilIface]) ∧ Below W.heap.size W w')) :
    Calls Tryd.prog 58 #[.agg #[.int .i64 k, .int .u8 b0, .int .u8 b1, .int .u8 b2, .int .u8 b3, .int .u8 b4, .int .u8 b5, .int .u8 b6, .int .u8 b7], .func (.func 21) #[] #[], .string S] w fun e w' => ∃ v, e = .returned (.tuple #[.agg #[.int .i64 0, .int .u8 0, .int .u8 0, .int .u8 0, .int .u8 0, .int .u8 0, .int .u8 0, .int .u8 0, .int .u8 0], v]) ∧ ErrC w.heap.size w' v 2 ∧ Below w.heap.size w w' := by
  have hne2 : (T.toList == S.toList) = false := by rw [beq_eq_false_iff_ne]; exact fun e => hne (bytes_ext e)
  have HB0 : Hid (Below w.heap.size w (((w.alloc (.cells #[.int .i64 k, .int .u8 b0, .int .u8 b1, .int .u8 b2, .int .u8 b3, .int .u8 b4, .int .u8 b5, .int .u8 b6, .int .u8 b7] 45)).alloc (.cells #[.int .i64 0, .int .u8 0, .int .u8 0, .int .u8 0, .int .u8 0, .int .u8 0, .int .u8 0, .int .u8 0, .int .u8 0] 45)).alloc (.cells #[.int .i64 0, .int .u8 0, .int .u8 0, .int .u8 0, .int .u8 0, .int .u8 0, .int .u8 0, .int .u8 0, .int .u8 0] 45))) := Lib.hid ((((Below.refl _ _).alloc (Nat.le_refl _) _).alloc (by simp) _).alloc (by simp; omega) _)
  go_enter Tryd.func58, Tryd.ntmps58
  go_wp2_with fail
  refine (hl.out _).mono ?_
  rintro e w1 ⟨rfl, hb⟩
  have HB1 := Lib.hid (HB0.out.trans (hb.mono (by simp; omega)))
  have z0 : w1.cell? ⟨w.heap.size + 1 + 1, 0, none⟩ = some (.int .i64 0) := (hb.cell (by simp; try omega)).trans (by simp [go_sem])
  have z1 : w1.cell? ⟨w.heap.size + 1 + 1, 1, none⟩ = some (.int .u8 0) := (hb.cell (by simp; try omega)).trans (by simp [go_sem])
  have z2 : w1.cell? ⟨w.heap.size + 1 + 1, 2, none⟩ = some (.int .u8 0) := (hb.cell (by simp; try omega)).trans (by simp [go_sem])
  have z3 : w1.cell? ⟨w.heap.size + 1 + 1, 3, none⟩ = some (.int .u8 0) := (hb.cell (by simp; try omega)).trans (by simp [go_sem])
  have z4 : w1.cell? ⟨w.heap.size + 1 + 1, 4, none⟩ = some (.int .u8 0) := (hb.cell (by simp; try omega)).trans (by simp [go_sem])
  have z5 : w1.cell? ⟨w.heap.size + 1 + 1, 5, none⟩ = some (.int .u8 0) := (hb.cell (by simp; try omega)).trans (by simp [go_sem])
  have z6 : w1.cell? ⟨w.heap.size + 1 + 1, 6, none⟩ = some (.int .u8 0) := (hb.cell (by simp; try omega)).trans (by simp [go_sem])
  have z7 : w1.cell? ⟨w.heap.size + 1 + 1, 7, none⟩ = some (.int .u8 0) := (hb.cell (by simp; try omega)).trans (by simp [go_sem])
  have z8 : w1.cell? ⟨w.heap.size + 1 + 1, 8, none⟩ = some (.int .u8 0) := (hb.cell (by simp; try omega)).trans (by simp [go_sem])
  have hth : w1.there (w.heap.size + 1) 0 9 := there_under hb (by simp; try omega) (there_under ((Below.refl _ _).alloc (Nat.le_refl _) _) (by simp) (there_last _ _ _ _ (by simp) (by simp)))
  have hL : w.heap.size + 1 < w1.heap.size := cell_lt (p := ⟨w.heap.size + 1, 0, none⟩) (Option.isSome_iff_exists.1 (hth 0 (by omega)).1).choose_spec
  clear hb
  have Z0 := Lib.hid z0
  have Z1 := Lib.hid z1
  have Z2 := Lib.hid z2
  have Z3 := Lib.hid z3
  have Z4 := Lib.hid z4
  have Z5 := Lib.hid z5
  have Z6 := Lib.hid z6
  have Z7 := Lib.hid z7
  have Z8 := Lib.hid z8
  have HL2 := Lib.hid (show w.heap.size + 1 + 1 < w1.heap.size from cell_lt z0)
  have HL := Lib.hid hL
  have HTh := Lib.hid hth
  clear hL hth z0 z1 z2 z3 z4 z5 z6 z7 z8
  go_wp2_with fail
  have hS0 : (w1.drew).cell? ⟨w.heap.size + 1 + 1, 0, none⟩ = some (.int .i64 0) ∧ (w1.drew).cell? ⟨w.heap.size + 1 + 1, 1, none⟩ = some (.int .u8 0) ∧ (w1.drew).cell? ⟨w.heap.size + 1 + 1, 2, none⟩ = some (.int .u8 0) ∧ (w1.drew).cell? ⟨w.heap.size + 1 + 1, 3, none⟩ = some (.int .u8 0) ∧ (w1.drew).cell? ⟨w.heap.size + 1 + 1, 4, none⟩ = some (.int .u8 0) ∧ (w1.drew).cell? ⟨w.heap.size + 1 + 1, 5, none⟩ = some (.int .u8 0) ∧ (w1.drew).cell? ⟨w.heap.size + 1 + 1, 6, none⟩ = some (.int .u8 0) ∧ (w1.drew).cell? ⟨w.heap.size + 1 + 1, 7, none⟩ = some (.int .u8 0) ∧ (w1.drew).cell? ⟨w.heap.size + 1 + 1, 8, none⟩ = some (.int .u8 0) ∧ Below w.heap.size w (w1.drew) := ⟨Z0.out, Z1.out, Z2.out, Z3.out, Z4.out, Z5.out, Z6.out, Z7.out, Z8.out, HB1.out.trans (Below.mono (Below.drew (Below.refl _ _)) HB1.out.size)⟩
  refine wp_region_held_drew (S := fun w' => (w').cell? ⟨w.heap.size + 1 + 1, 0, none⟩ = some (.int .i64 0) ∧ (w').cell? ⟨w.heap.size + 1 + 1, 1, none⟩ = some (.int .u8 0) ∧ (w').cell? ⟨w.heap.size + 1 + 1, 2, none⟩ = some (.int .u8 0) ∧ (w').cell? ⟨w.heap.size + 1 + 1, 3, none⟩ = some (.int .u8 0) ∧ (w').cell? ⟨w.heap.size + 1 + 1, 4, none⟩ = some (.int .u8 0) ∧ (w').cell? ⟨w.heap.size + 1 + 1, 5, none⟩ = some (.int .u8 0) ∧ (w').cell? ⟨w.heap.size + 1 + 1, 6, none⟩ = some (.int .u8 0) ∧ (w').cell? ⟨w.heap.size + 1 + 1, 7, none⟩ = some (.int .u8 0) ∧ (w').cell? ⟨w.heap.size + 1 + 1, 8, none⟩ = some (.int .u8 0) ∧ Below w.heap.size w (w')) (by kernel_rfl) ?_ (fun hHeld => ?_)
  · exact hS0
  refine wpAnyH_take (i := 0) (oi := { dst := Option.some 24, op := Go.Op.load 45 (Go.Operand.tmp 8), type := 45, pos := "rec.go:83", after := #[], guard := Option.none }) (v := ?_) rfl (by kernel_rfl) (by kernel_rfl) (by kernel_rfl) (fun _ _ _ h => h) (Or.inl ⟨by rfl, ?_⟩) (by assumption) ?_
  rotate_left
  · intro w hSw; (try dsimp only at hSw); go_simp; (try with_reducible rfl)
  simp only [Act.put, List.setIfInBounds_toArray, List.set_cons_zero, List.set_cons_succ]
  refine wpAnyH_take (i := 1) (oi := { dst := Option.some 25, op := Go.Op.makeInterface 95 (Go.Operand.const (Go.Value.int Go.IntKind.i64 2)), type := 27, pos := "rec.go:83", after := #[], guard := Option.none }) (v := ?_) rfl (by kernel_rfl) (by kernel_rfl) (by kernel_rfl) (fun _ _ _ h => h) (Or.inl ⟨by rfl, ?_⟩) (by assumption) ?_
  rotate_left
  · intro w hSw; (try dsimp only at hSw); go_simp; (try with_reducible rfl)
  simp only [Act.put, List.setIfInBounds_toArray, List.set_cons_zero, List.set_cons_succ]
  refine wpAnyH_ready (rs := [2]) (by kernel_rfl) (by simp) ?_
  refine AllReadyH.cons (o := { dst := Option.some 26, op := Go.Op.call { callee := Go.Callee.value (Go.Operand.func 56), args := #[Go.Operand.const (Go.Value.string { data := #[114, 101, 99] }), Go.Operand.tmp 25], argTypes := #[9, 27] }, type := 27, pos := "rec.go:83", after := #[{ on := 1, ground := Go.Ground.data }], guard := Option.none }) rfl (fun K hK => ?_) AllReadyH.nil
  go_simp
  refine (Tag_err _ 2 _).mono ?_
  rintro e wn ⟨v, rfl, he, hb⟩
  have HE := Lib.hid he
  have hKn : (wn).cell? ⟨w.heap.size + 1 + 1, 0, none⟩ = some (.int .i64 0) ∧ (wn).cell? ⟨w.heap.size + 1 + 1, 1, none⟩ = some (.int .u8 0) ∧ (wn).cell? ⟨w.heap.size + 1 + 1, 2, none⟩ = some (.int .u8 0) ∧ (wn).cell? ⟨w.heap.size + 1 + 1, 3, none⟩ = some (.int .u8 0) ∧ (wn).cell? ⟨w.heap.size + 1 + 1, 4, none⟩ = some (.int .u8 0) ∧ (wn).cell? ⟨w.heap.size + 1 + 1, 5, none⟩ = some (.int .u8 0) ∧ (wn).cell? ⟨w.heap.size + 1 + 1, 6, none⟩ = some (.int .u8 0) ∧ (wn).cell? ⟨w.heap.size + 1 + 1, 7, none⟩ = some (.int .u8 0) ∧ (wn).cell? ⟨w.heap.size + 1 + 1, 8, none⟩ = some (.int .u8 0) ∧ Below w.heap.size w (wn) := ⟨(hb.cell (p := ⟨w.heap.size + 1 + 1, 0, none⟩) HL2.out).trans Z0.out, (hb.cell (p := ⟨w.heap.size + 1 + 1, 1, none⟩) HL2.out).trans Z1.out, (hb.cell (p := ⟨w.heap.size + 1 + 1, 2, none⟩) HL2.out).trans Z2.out, (hb.cell (p := ⟨w.heap.size + 1 + 1, 3, none⟩) HL2.out).trans Z3.out, (hb.cell (p := ⟨w.heap.size + 1 + 1, 4, none⟩) HL2.out).trans Z4.out, (hb.cell (p := ⟨w.heap.size + 1 + 1, 5, none⟩) HL2.out).trans Z5.out, (hb.cell (p := ⟨w.heap.size + 1 + 1, 6, none⟩) HL2.out).trans Z6.out, (hb.cell (p := ⟨w.heap.size + 1 + 1, 7, none⟩) HL2.out).trans Z7.out, (hb.cell (p := ⟨w.heap.size + 1 + 1, 8, none⟩) HL2.out).trans Z8.out, HB1.out.trans (((Below.drew (Below.refl _ _)).trans hb).mono HB1.out.size)⟩
  have HBn := Lib.hid hKn.2.2.2.2.2.2.2.2.2
  have HTn : Hid (wn.there (w.heap.size + 1) 0 9) := Lib.hid (there_under hb HL.out HTh.out)
  clear he hb
  go_wp2_with fail
  refine hK.out _ _ hKn (fun hHeld2 => ?_)
  clear hK K
  try simp only [Act.put, List.setIfInBounds_toArray, List.set_cons_zero, List.set_cons_succ]
  refine wpAnyH_ready (rs := [3]) (by kernel_rfl) (by simp) ?_
  refine AllReadyH.cons (o := { dst := Option.none, op := Go.Op.store 45 (Go.Operand.tmp 6) (Go.Operand.tmp 24), type := 0, pos := "rec.go:83", after := #[{ on := 0, ground := Go.Ground.data }, { on := 2, ground := Go.Ground.chain }, { on := 0, ground := Go.Ground.phase }, { on := 1, ground := Go.Ground.textOnly Go.Departure.lateStores }, { on := 2, ground := Go.Ground.textOnly Go.Departure.lateStoresUnsure }], guard := Option.none }) rfl (fun K hK => ?_) AllReadyH.nil
  refine wp_store_mid 45 _ _ rfl (w.heap.size + 1) 0 #[.int .i64 0, .int .u8 0, .int .u8 0, .int .u8 0, .int .u8 0, .int .u8 0, .int .u8 0, .int .u8 0, .int .u8 0] rfl rfl HTn.out (by kernel_rfl) (by simp [Value.oneCell']) ?_
  dsimp only [Array.toList]
  have hS3 : ((wn.setCells (w.heap.size + 1) 0 [.int .i64 0, .int .u8 0, .int .u8 0, .int .u8 0, .int .u8 0, .int .u8 0, .int .u8 0, .int .u8 0, .int .u8 0])).cell? ⟨w.heap.size + 1 + 1, 0, none⟩ = some (.int .i64 0) ∧ ((wn.setCells (w.heap.size + 1) 0 [.int .i64 0, .int .u8 0, .int .u8 0, .int .u8 0, .int .u8 0, .int .u8 0, .int .u8 0, .int .u8 0, .int .u8 0])).cell? ⟨w.heap.size + 1 + 1, 1, none⟩ = some (.int .u8 0) ∧ ((wn.setCells (w.heap.size + 1) 0 [.int .i64 0, .int .u8 0, .int .u8 0, .int .u8 0, .int .u8 0, .int .u8 0, .int .u8 0, .int .u8 0, .int .u8 0])).cell? ⟨w.heap.size + 1 + 1, 2, none⟩ = some (.int .u8 0) ∧ ((wn.setCells (w.heap.size + 1) 0 [.int .i64 0, .int .u8 0, .int .u8 0, .int .u8 0, .int .u8 0, .int .u8 0, .int .u8 0, .int .u8 0, .int .u8 0])).cell? ⟨w.heap.size + 1 + 1, 3, none⟩ = some (.int .u8 0) ∧ ((wn.setCells (w.heap.size + 1) 0 [.int .i64 0, .int .u8 0, .int .u8 0, .int .u8 0, .int .u8 0, .int .u8 0, .int .u8 0, .int .u8 0, .int .u8 0])).cell? ⟨w.heap.size + 1 + 1, 4, none⟩ = some (.int .u8 0) ∧ ((wn.setCells (w.heap.size + 1) 0 [.int .i64 0, .int .u8 0, .int .u8 0, .int .u8 0, .int .u8 0, .int .u8 0, .int .u8 0, .int .u8 0, .int .u8 0])).cell? ⟨w.heap.size + 1 + 1, 5, none⟩ = some (.int .u8 0) ∧ ((wn.setCells (w.heap.size + 1) 0 [.int .i64 0, .int .u8 0, .int .u8 0, .int .u8 0, .int .u8 0, .int .u8 0, .int .u8 0, .int .u8 0, .int .u8 0])).cell? ⟨w.heap.size + 1 + 1, 6, none⟩ = some (.int .u8 0) ∧ ((wn.setCells (w.heap.size + 1) 0 [.int .i64 0, .int .u8 0, .int .u8 0, .int .u8 0, .int .u8 0, .int .u8 0, .int .u8 0, .int .u8 0, .int .u8 0])).cell? ⟨w.heap.size + 1 + 1, 7, none⟩ = some (.int .u8 0) ∧ ((wn.setCells (w.heap.size + 1) 0 [.int .i64 0, .int .u8 0, .int .u8 0, .int .u8 0, .int .u8 0, .int .u8 0, .int .u8 0, .int .u8 0, .int .u8 0])).cell? ⟨w.heap.size + 1 + 1, 8, none⟩ = some (.int .u8 0) ∧ Below w.heap.size w ((wn.setCells (w.heap.size + 1) 0 [.int .i64 0, .int .u8 0, .int .u8 0, .int .u8 0, .int .u8 0, .int .u8 0, .int .u8 0, .int .u8 0, .int .u8 0])) := ⟨(set_other _ _ _ _ _ _ (by simp)).trans hKn.1, (set_other _ _ _ _ _ _ (by simp)).trans hKn.2.1, (set_other _ _ _ _ _ _ (by simp)).trans hKn.2.2.1, (set_other _ _ _ _ _ _ (by simp)).trans hKn.2.2.2.1, (set_other _ _ _ _ _ _ (by simp)).trans hKn.2.2.2.2.1, (set_other _ _ _ _ _ _ (by simp)).trans hKn.2.2.2.2.2.1, (set_other _ _ _ _ _ _ (by simp)).trans hKn.2.2.2.2.2.2.1, (set_other _ _ _ _ _ _ (by simp)).trans hKn.2.2.2.2.2.2.2.1, (set_other _ _ _ _ _ _ (by simp)).trans hKn.2.2.2.2.2.2.2.2.1, HBn.out.trans (below_set _ _ _ _ _ (by simp))⟩
  refine hK.out _ _ hS3 (fun hHeld3 => ?_)
  clear hK K
  try simp only [Act.put, List.setIfInBounds_toArray, List.set_cons_zero, List.set_cons_succ]
  refine wpAnyH_take (i := 4) (oi := { dst := Option.some 7, op := Go.Op.assign (Go.Operand.tmp 26), type := 27, pos := "rec.go:83", after := #[{ on := 2, ground := Go.Ground.data }, { on := 3, ground := Go.Ground.chain }, { on := 0, ground := Go.Ground.phase }, { on := 1, ground := Go.Ground.phase }, { on := 2, ground := Go.Ground.phase }, { on := 3, ground := Go.Ground.phase }], guard := Option.none }) (v := ?_) rfl (by kernel_rfl) (by kernel_rfl) (by kernel_rfl) (fun _ _ _ h => h) (Or.inl ⟨by rfl, ?_⟩) (by assumption) ?_
  rotate_left
  · intro w hSw; (try dsimp only at hSw); go_simp; (try with_reducible rfl)
  simp only [Act.put, List.setIfInBounds_toArray, List.set_cons_zero, List.set_cons_succ]
  refine wpAnyH_done (by kernel_rfl) ?_ _
  go_wp2_with fail
  have hld := run_loadVar_mid (P := Tryd.prog) (wn.setCells (w.heap.size + 1) 0 [.int .i64 0, .int .u8 0, .int .u8 0, .int .u8 0, .int .u8 0, .int .u8 0, .int .u8 0, .int .u8 0, .int .u8 0]) (w.heap.size + 1) 0 45 [.int .i64 0, .int .u8 0, .int .u8 0, .int .u8 0, .int .u8 0, .int .u8 0, .int .u8 0, .int .u8 0, .int .u8 0] _ (World.rangeAt_setCells_same wn _ _ _ HTn.out) Tryd.underlying45 rfl (by kernel_rfl)
  refine bodyPost_ret (v := .tuple #[.agg #[.int .i64 0, .int .u8 0, .int .u8 0, .int .u8 0, .int .u8 0, .int .u8 0, .int .u8 0, .int .u8 0, .int .u8 0], v]) (results_two Tryd.results58 _ _ _ _ _ rfl rfl hld) rfl ⟨_, rfl, ?_, ?_⟩
  · exact (err_set HE.out HL.out).mono HB1.out.size
  · exact hS3.2.2.2.2.2.2.2.2.2
set_option maxHeartbeats 2000000 in
set_option maxRecDepth 100000 in
theorem same_a_no (k b0 b1 b2 b3 b4 b5 b6 b7 : Int) (S : ByteArray) (w : World) (hl : Hid (∀ W, Calls Tryd.prog 21 #[.agg #[.int .i64 k, .int .u8 b0, .int .u8 b1, .int .u8 b2, .int .u8 b3, .int .u8 b4, .int .u8 b5, .int .u8 b6, .int .u8 b7]] W (LayPost W))) :
    Calls Tryd.prog 58 #[.agg #[.int .i64 k, .int .u8 b0, .int .u8 b1, .int .u8 b2, .int .u8 b3, .int .u8 b4, .int .u8 b5, .int .u8 b6, .int .u8 b7], .func (.func 21) #[] #[], .string S] w fun e w' => ∃ v, e = .returned (.tuple #[.agg #[.int .i64 0, .int .u8 0, .int .u8 0, .int .u8 0, .int .u8 0, .int .u8 0, .int .u8 0, .int .u8 0, .int .u8 0], v]) ∧ ErrC w.heap.size w' v 2 ∧ Below w.heap.size w w' := by
  have HB0 : Hid (Below w.heap.size w (((w.alloc (.cells #[.int .i64 k, .int .u8 b0, .int .u8 b1, .int .u8 b2, .int .u8 b3, .int .u8 b4, .int .u8 b5, .int .u8 b6, .int .u8 b7] 45)).alloc (.cells #[.int .i64 0, .int .u8 0, .int .u8 0, .int .u8 0, .int .u8 0, .int .u8 0, .int .u8 0, .int .u8 0, .int .u8 0] 45)).alloc (.cells #[.int .i64 0, .int .u8 0, .int .u8 0, .int .u8 0, .int .u8 0, .int .u8 0, .int .u8 0, .int .u8 0, .int .u8 0] 45))) := Lib.hid ((((Below.refl _ _).alloc (Nat.le_refl _) _).alloc (by simp) _).alloc (by simp; omega) _)
  go_enter Tryd.func58, Tryd.ntmps58
  go_wp2_with fail
  refine (hl.out _).mono ?_
  rintro e w1 ⟨v, rfl, he, hb⟩
  obtain ⟨ty, xx, rfl⟩ := he.iface (by decide)
  clear he
  have HB1 := Lib.hid (HB0.out.trans (hb.mono (by simp; omega)))
  have z0 : w1.cell? ⟨w.heap.size + 1 + 1, 0, none⟩ = some (.int .i64 0) := (hb.cell (by simp; try omega)).trans (by simp [go_sem])
  have z1 : w1.cell? ⟨w.heap.size + 1 + 1, 1, none⟩ = some (.int .u8 0) := (hb.cell (by simp; try omega)).trans (by simp [go_sem])
  have z2 : w1.cell? ⟨w.heap.size + 1 + 1, 2, none⟩ = some (.int .u8 0) := (hb.cell (by simp; try omega)).trans (by simp [go_sem])
  have z3 : w1.cell? ⟨w.heap.size + 1 + 1, 3, none⟩ = some (.int .u8 0) := (hb.cell (by simp; try omega)).trans (by simp [go_sem])
  have z4 : w1.cell? ⟨w.heap.size + 1 + 1, 4, none⟩ = some (.int .u8 0) := (hb.cell (by simp; try omega)).trans (by simp [go_sem])
  have z5 : w1.cell? ⟨w.heap.size + 1 + 1, 5, none⟩ = some (.int .u8 0) := (hb.cell (by simp; try omega)).trans (by simp [go_sem])
  have z6 : w1.cell? ⟨w.heap.size + 1 + 1, 6, none⟩ = some (.int .u8 0) := (hb.cell (by simp; try omega)).trans (by simp [go_sem])
  have z7 : w1.cell? ⟨w.heap.size + 1 + 1, 7, none⟩ = some (.int .u8 0) := (hb.cell (by simp; try omega)).trans (by simp [go_sem])
  have z8 : w1.cell? ⟨w.heap.size + 1 + 1, 8, none⟩ = some (.int .u8 0) := (hb.cell (by simp; try omega)).trans (by simp [go_sem])
  have hth : w1.there (w.heap.size + 1) 0 9 := there_under hb (by simp; try omega) (there_under ((Below.refl _ _).alloc (Nat.le_refl _) _) (by simp) (there_last _ _ _ _ (by simp) (by simp)))
  have hL : w.heap.size + 1 < w1.heap.size := cell_lt (p := ⟨w.heap.size + 1, 0, none⟩) (Option.isSome_iff_exists.1 (hth 0 (by omega)).1).choose_spec
  clear hb
  have Z0 := Lib.hid z0
  have Z1 := Lib.hid z1
  have Z2 := Lib.hid z2
  have Z3 := Lib.hid z3
  have Z4 := Lib.hid z4
  have Z5 := Lib.hid z5
  have Z6 := Lib.hid z6
  have Z7 := Lib.hid z7
  have Z8 := Lib.hid z8
  have HL2 := Lib.hid (show w.heap.size + 1 + 1 < w1.heap.size from cell_lt z0)
  have HL := Lib.hid hL
  have HTh := Lib.hid hth
  clear hL hth z0 z1 z2 z3 z4 z5 z6 z7 z8
  go_wp2_with fail
  have hS0 : (w1.drew).cell? ⟨w.heap.size + 1 + 1, 0, none⟩ = some (.int .i64 0) ∧ (w1.drew).cell? ⟨w.heap.size + 1 + 1, 1, none⟩ = some (.int .u8 0) ∧ (w1.drew).cell? ⟨w.heap.size + 1 + 1, 2, none⟩ = some (.int .u8 0) ∧ (w1.drew).cell? ⟨w.heap.size + 1 + 1, 3, none⟩ = some (.int .u8 0) ∧ (w1.drew).cell? ⟨w.heap.size + 1 + 1, 4, none⟩ = some (.int .u8 0) ∧ (w1.drew).cell? ⟨w.heap.size + 1 + 1, 5, none⟩ = some (.int .u8 0) ∧ (w1.drew).cell? ⟨w.heap.size + 1 + 1, 6, none⟩ = some (.int .u8 0) ∧ (w1.drew).cell? ⟨w.heap.size + 1 + 1, 7, none⟩ = some (.int .u8 0) ∧ (w1.drew).cell? ⟨w.heap.size + 1 + 1, 8, none⟩ = some (.int .u8 0) ∧ Below w.heap.size w (w1.drew) := ⟨Z0.out, Z1.out, Z2.out, Z3.out, Z4.out, Z5.out, Z6.out, Z7.out, Z8.out, HB1.out.trans (Below.mono (Below.drew (Below.refl _ _)) HB1.out.size)⟩
  refine wp_region_held_drew (S := fun w' => (w').cell? ⟨w.heap.size + 1 + 1, 0, none⟩ = some (.int .i64 0) ∧ (w').cell? ⟨w.heap.size + 1 + 1, 1, none⟩ = some (.int .u8 0) ∧ (w').cell? ⟨w.heap.size + 1 + 1, 2, none⟩ = some (.int .u8 0) ∧ (w').cell? ⟨w.heap.size + 1 + 1, 3, none⟩ = some (.int .u8 0) ∧ (w').cell? ⟨w.heap.size + 1 + 1, 4, none⟩ = some (.int .u8 0) ∧ (w').cell? ⟨w.heap.size + 1 + 1, 5, none⟩ = some (.int .u8 0) ∧ (w').cell? ⟨w.heap.size + 1 + 1, 6, none⟩ = some (.int .u8 0) ∧ (w').cell? ⟨w.heap.size + 1 + 1, 7, none⟩ = some (.int .u8 0) ∧ (w').cell? ⟨w.heap.size + 1 + 1, 8, none⟩ = some (.int .u8 0) ∧ Below w.heap.size w (w')) (by kernel_rfl) ?_ (fun hHeld => ?_)
  · exact hS0
  refine wpAnyH_take (i := 0) (oi := { dst := Option.some 24, op := Go.Op.load 45 (Go.Operand.tmp 8), type := 45, pos := "rec.go:83", after := #[], guard := Option.none }) (v := ?_) rfl (by kernel_rfl) (by kernel_rfl) (by kernel_rfl) (fun _ _ _ h => h) (Or.inl ⟨by rfl, ?_⟩) (by assumption) ?_
  rotate_left
  · intro w hSw; (try dsimp only at hSw); go_simp; (try with_reducible rfl)
  simp only [Act.put, List.setIfInBounds_toArray, List.set_cons_zero, List.set_cons_succ]
  refine wpAnyH_take (i := 1) (oi := { dst := Option.some 25, op := Go.Op.makeInterface 95 (Go.Operand.const (Go.Value.int Go.IntKind.i64 2)), type := 27, pos := "rec.go:83", after := #[], guard := Option.none }) (v := ?_) rfl (by kernel_rfl) (by kernel_rfl) (by kernel_rfl) (fun _ _ _ h => h) (Or.inl ⟨by rfl, ?_⟩) (by assumption) ?_
  rotate_left
  · intro w hSw; (try dsimp only at hSw); go_simp; (try with_reducible rfl)
  simp only [Act.put, List.setIfInBounds_toArray, List.set_cons_zero, List.set_cons_succ]
  refine wpAnyH_ready (rs := [2]) (by kernel_rfl) (by simp) ?_
  refine AllReadyH.cons (o := { dst := Option.some 26, op := Go.Op.call { callee := Go.Callee.value (Go.Operand.func 56), args := #[Go.Operand.const (Go.Value.string { data := #[114, 101, 99] }), Go.Operand.tmp 25], argTypes := #[9, 27] }, type := 27, pos := "rec.go:83", after := #[{ on := 1, ground := Go.Ground.data }], guard := Option.none }) rfl (fun K hK => ?_) AllReadyH.nil
  go_simp
  refine (Tag_err _ 2 _).mono ?_
  rintro e wn ⟨v, rfl, he, hb⟩
  have HE := Lib.hid he
  have hKn : (wn).cell? ⟨w.heap.size + 1 + 1, 0, none⟩ = some (.int .i64 0) ∧ (wn).cell? ⟨w.heap.size + 1 + 1, 1, none⟩ = some (.int .u8 0) ∧ (wn).cell? ⟨w.heap.size + 1 + 1, 2, none⟩ = some (.int .u8 0) ∧ (wn).cell? ⟨w.heap.size + 1 + 1, 3, none⟩ = some (.int .u8 0) ∧ (wn).cell? ⟨w.heap.size + 1 + 1, 4, none⟩ = some (.int .u8 0) ∧ (wn).cell? ⟨w.heap.size + 1 + 1, 5, none⟩ = some (.int .u8 0) ∧ (wn).cell? ⟨w.heap.size + 1 + 1, 6, none⟩ = some (.int .u8 0) ∧ (wn).cell? ⟨w.heap.size + 1 + 1, 7, none⟩ = some (.int .u8 0) ∧ (wn).cell? ⟨w.heap.size + 1 + 1, 8, none⟩ = some (.int .u8 0) ∧ Below w.heap.size w (wn) := ⟨(hb.cell (p := ⟨w.heap.size + 1 + 1, 0, none⟩) HL2.out).trans Z0.out, (hb.cell (p := ⟨w.heap.size + 1 + 1, 1, none⟩) HL2.out).trans Z1.out, (hb.cell (p := ⟨w.heap.size + 1 + 1, 2, none⟩) HL2.out).trans Z2.out, (hb.cell (p := ⟨w.heap.size + 1 + 1, 3, none⟩) HL2.out).trans Z3.out, (hb.cell (p := ⟨w.heap.size + 1 + 1, 4, none⟩) HL2.out).trans Z4.out, (hb.cell (p := ⟨w.heap.size + 1 + 1, 5, none⟩) HL2.out).trans Z5.out, (hb.cell (p := ⟨w.heap.size + 1 + 1, 6, none⟩) HL2.out).trans Z6.out, (hb.cell (p := ⟨w.heap.size + 1 + 1, 7, none⟩) HL2.out).trans Z7.out, (hb.cell (p := ⟨w.heap.size + 1 + 1, 8, none⟩) HL2.out).trans Z8.out, HB1.out.trans (((Below.drew (Below.refl _ _)).trans hb).mono HB1.out.size)⟩
  have HBn := Lib.hid hKn.2.2.2.2.2.2.2.2.2
  have HTn : Hid (wn.there (w.heap.size + 1) 0 9) := Lib.hid (there_under hb HL.out HTh.out)
  clear he hb
  go_wp2_with fail
  refine hK.out _ _ hKn (fun hHeld2 => ?_)
  clear hK K
  try simp only [Act.put, List.setIfInBounds_toArray, List.set_cons_zero, List.set_cons_succ]
  refine wpAnyH_ready (rs := [3]) (by kernel_rfl) (by simp) ?_
  refine AllReadyH.cons (o := { dst := Option.none, op := Go.Op.store 45 (Go.Operand.tmp 6) (Go.Operand.tmp 24), type := 0, pos := "rec.go:83", after := #[{ on := 0, ground := Go.Ground.data }, { on := 2, ground := Go.Ground.chain }, { on := 0, ground := Go.Ground.phase }, { on := 1, ground := Go.Ground.textOnly Go.Departure.lateStores }, { on := 2, ground := Go.Ground.textOnly Go.Departure.lateStoresUnsure }], guard := Option.none }) rfl (fun K hK => ?_) AllReadyH.nil
  refine wp_store_mid 45 _ _ rfl (w.heap.size + 1) 0 #[.int .i64 0, .int .u8 0, .int .u8 0, .int .u8 0, .int .u8 0, .int .u8 0, .int .u8 0, .int .u8 0, .int .u8 0] rfl rfl HTn.out (by kernel_rfl) (by simp [Value.oneCell']) ?_
  dsimp only [Array.toList]
  have hS3 : ((wn.setCells (w.heap.size + 1) 0 [.int .i64 0, .int .u8 0, .int .u8 0, .int .u8 0, .int .u8 0, .int .u8 0, .int .u8 0, .int .u8 0, .int .u8 0])).cell? ⟨w.heap.size + 1 + 1, 0, none⟩ = some (.int .i64 0) ∧ ((wn.setCells (w.heap.size + 1) 0 [.int .i64 0, .int .u8 0, .int .u8 0, .int .u8 0, .int .u8 0, .int .u8 0, .int .u8 0, .int .u8 0, .int .u8 0])).cell? ⟨w.heap.size + 1 + 1, 1, none⟩ = some (.int .u8 0) ∧ ((wn.setCells (w.heap.size + 1) 0 [.int .i64 0, .int .u8 0, .int .u8 0, .int .u8 0, .int .u8 0, .int .u8 0, .int .u8 0, .int .u8 0, .int .u8 0])).cell? ⟨w.heap.size + 1 + 1, 2, none⟩ = some (.int .u8 0) ∧ ((wn.setCells (w.heap.size + 1) 0 [.int .i64 0, .int .u8 0, .int .u8 0, .int .u8 0, .int .u8 0, .int .u8 0, .int .u8 0, .int .u8 0, .int .u8 0])).cell? ⟨w.heap.size + 1 + 1, 3, none⟩ = some (.int .u8 0) ∧ ((wn.setCells (w.heap.size + 1) 0 [.int .i64 0, .int .u8 0, .int .u8 0, .int .u8 0, .int .u8 0, .int .u8 0, .int .u8 0, .int .u8 0, .int .u8 0])).cell? ⟨w.heap.size + 1 + 1, 4, none⟩ = some (.int .u8 0) ∧ ((wn.setCells (w.heap.size + 1) 0 [.int .i64 0, .int .u8 0, .int .u8 0, .int .u8 0, .int .u8 0, .int .u8 0, .int .u8 0, .int .u8 0, .int .u8 0])).cell? ⟨w.heap.size + 1 + 1, 5, none⟩ = some (.int .u8 0) ∧ ((wn.setCells (w.heap.size + 1) 0 [.int .i64 0, .int .u8 0, .int .u8 0, .int .u8 0, .int .u8 0, .int .u8 0, .int .u8 0, .int .u8 0, .int .u8 0])).cell? ⟨w.heap.size + 1 + 1, 6, none⟩ = some (.int .u8 0) ∧ ((wn.setCells (w.heap.size + 1) 0 [.int .i64 0, .int .u8 0, .int .u8 0, .int .u8 0, .int .u8 0, .int .u8 0, .int .u8 0, .int .u8 0, .int .u8 0])).cell? ⟨w.heap.size + 1 + 1, 7, none⟩ = some (.int .u8 0) ∧ ((wn.setCells (w.heap.size + 1) 0 [.int .i64 0, .int .u8 0, .int .u8 0, .int .u8 0, .int .u8 0, .int .u8 0, .int .u8 0, .int .u8 0, .int .u8 0])).cell? ⟨w.heap.size + 1 + 1, 8, none⟩ = some (.int .u8 0) ∧ Below w.heap.size w ((wn.setCells (w.heap.size + 1) 0 [.int .i64 0, .int .u8 0, .int .u8 0, .int .u8 0, .int .u8 0, .int .u8 0, .int .u8 0, .int .u8 0, .int .u8 0])) := ⟨(set_other _ _ _ _ _ _ (by simp)).trans hKn.1, (set_other _ _ _ _ _ _ (by simp)).trans hKn.2.1, (set_other _ _ _ _ _ _ (by simp)).trans hKn.2.2.1, (set_other _ _ _ _ _ _ (by simp)).trans hKn.2.2.2.1, (set_other _ _ _ _ _ _ (by simp)).trans hKn.2.2.2.2.1, (set_other _ _ _ _ _ _ (by simp)).trans hKn.2.2.2.2.2.1, (set_other _ _ _ _ _ _ (by simp)).trans hKn.2.2.2.2.2.2.1, (set_other _ _ _ _ _ _ (by simp)).trans hKn.2.2.2.2.2.2.2.1, (set_other _ _ _ _ _ _ (by simp)).trans hKn.2.2.2.2.2.2.2.2.1, HBn.out.trans (below_set _ _ _ _ _ (by simp))⟩
  refine hK.out _ _ hS3 (fun hHeld3 => ?_)
  clear hK K
  try simp only [Act.put, List.setIfInBounds_toArray, List.set_cons_zero, List.set_cons_succ]
  refine wpAnyH_take (i := 4) (oi := { dst := Option.some 7, op := Go.Op.assign (Go.Operand.tmp 26), type := 27, pos := "rec.go:83", after := #[{ on := 2, ground := Go.Ground.data }, { on := 3, ground := Go.Ground.chain }, { on := 0, ground := Go.Ground.phase }, { on := 1, ground := Go.Ground.phase }, { on := 2, ground := Go.Ground.phase }, { on := 3, ground := Go.Ground.phase }], guard := Option.none }) (v := ?_) rfl (by kernel_rfl) (by kernel_rfl) (by kernel_rfl) (fun _ _ _ h => h) (Or.inl ⟨by rfl, ?_⟩) (by assumption) ?_
  rotate_left
  · intro w hSw; (try dsimp only at hSw); go_simp; (try with_reducible rfl)
  simp only [Act.put, List.setIfInBounds_toArray, List.set_cons_zero, List.set_cons_succ]
  refine wpAnyH_done (by kernel_rfl) ?_ _
  go_wp2_with fail
  have hld := run_loadVar_mid (P := Tryd.prog) (wn.setCells (w.heap.size + 1) 0 [.int .i64 0, .int .u8 0, .int .u8 0, .int .u8 0, .int .u8 0, .int .u8 0, .int .u8 0, .int .u8 0, .int .u8 0]) (w.heap.size + 1) 0 45 [.int .i64 0, .int .u8 0, .int .u8 0, .int .u8 0, .int .u8 0, .int .u8 0, .int .u8 0, .int .u8 0, .int .u8 0] _ (World.rangeAt_setCells_same wn _ _ _ HTn.out) Tryd.underlying45 rfl (by kernel_rfl)
  refine bodyPost_ret (v := .tuple #[.agg #[.int .i64 0, .int .u8 0, .int .u8 0, .int .u8 0, .int .u8 0, .int .u8 0, .int .u8 0, .int .u8 0, .int .u8 0], v]) (results_two Tryd.results58 _ _ _ _ _ rfl rfl hld) rfl ⟨_, rfl, ?_, ?_⟩
  · exact (err_set HE.out HL.out).mono HB1.out.size
  · exact hS3.2.2.2.2.2.2.2.2.2
end Go.Proofs.YtlcnhagcomljnaaDoor
