/- dynamolaw05.FramePlays: the walk. -/
import Derived.Test.YtmnkgcgmbdkjaaaDoorRefBPSuperPlays
import Derived.Test.YtmnkgcgmbdkjaaaDoorFrAPSuperPlays
import Derived.Test.YtmnkgcgmbdkjaaaDoorHB
import Derived.Test.YtmnkgcgmbdkjaaaDoorHP
namespace Go.Proofs.YtmnkgcgmbdkjaaaDoor
open Go.RowKit Go.Extern.Stop Go.Stop Go.Extern Go.Proofs.YtmnkgcgmbdkjaaaDoorW.PrintWords Go.Proofs.YtmnkgcgmbdkjaaaDoorW.PrintLast Go.Proofs.YtmnkgcgmbdkjaaaDoorW.PrintMore Go.Proofs.YtmnkgcgmbdkjaaaDoor.PSuperPlays
set_option linter.unusedVariables false
set_option linter.unusedSimpArgs false
/-- the first bytes laid anew -/
def lay4 (l p : Pg) (i : Nat) : Pg := l.take i ++ p.drop i
theorem lay4_length (l p : Pg) (hl : l.length = 4) (hp : p.length = 128) (i : Nat) (hi : i ≤ 4) : (lay4 l p i).length = 128 := by simp [lay4]; omega
theorem lay4_zero (l p : Pg) : lay4 l p 0 = p := rfl
theorem lay4_step (l p : Pg) (hl : l.length = 4) (hp : p.length = 128) (i : Nat) (hi : i < 4) (x : UInt8) (hx : l[i]? = some x) : spl (lay4 l p i) i [x] = lay4 l p (i + 1) := by
  have h := lay4_length l p hl hp i (by omega)
  have t1 : (l.take i).length = i := by rw [List.length_take]; omega
  have t2 : (l.take (i + 1)).length = i + 1 := by rw [List.length_take]; omega
  apply List.ext_getElem?; intro j
  rw [spl_get _ _ _ (by simp; omega)]
  unfold lay4
  by_cases h1 : j < i
  · rw [if_pos h1, List.getElem?_append_left (by omega), List.getElem?_append_left (by omega), List.getElem?_take_of_lt h1, List.getElem?_take_of_lt (by omega)]
  · rw [if_neg h1]
    by_cases h2 : j = i
    · subst h2; rw [if_pos (by simp), List.getElem?_append_left (by omega), List.getElem?_take_of_lt (by omega), hx]; simp
    · rw [if_neg (by simp; omega), List.getElem?_append_right (by omega), List.getElem?_append_right (by omega), t1, t2, List.getElem?_drop, List.getElem?_drop]
      congr 1; omega
theorem num_nil_b (w : World) : Calls Tryd.prog 21 #[.nilIface] w fun e w' => e = .returned (.int .i64 0) ∧ Below w.heap.size w w' := (Num_nil w).mono fun e w2 h => ⟨h.1, by rw [← h.2]; exact Below.refl _ _⟩
theorem yif_neq {ops : Array Oper} {S : World → Prop} {op : Oper} {a : Act} (hw : Region.wanted op (yielded ops a.tmps) = true) (x y : Operand) (ho : op.op = .binOp .neq 36 x y 36) (p q : Pg) (hx : a.eval x = .agg (pv p).toArray) (hy : a.eval y = .agg (pv q).toArray) (hp : p.length = 128) (hq : q.length = 128) (b : Bool) (hb : (!(p == q)) = b) : YieldsIf Tryd.prog ops S op (.bool b) a := by subst hb; exact yif_ne hw x y ho p q hx hy hp hq
set_option maxHeartbeats 4000000 in
set_option maxRecDepth 100000 in
theorem plays_big (k : Int) (d : ByteArray) (p : Pg) (m : Bool) (hp : p.length = 128) (h : 500 < d.size) (w : World) (tied : Tied w) : Calls Tryd.prog 5 #[.int .i64 k, .string d, .agg (pv p).toArray, .bool m] w fun e w' => e = .returned (.bool true) ∧ Below w.heap.size w w' := by
  have hd : decide (500 < (d.size : Int)) = true := by simp; omega
  have HP := Lib.hid hp
  clear hp h
  have HM0 := Lib.hid (Mv.refl No w)
  have T0 := Lib.hid (Stays.tied tied)
  have WI0 := Lib.hid (Wi.no w)
  clear tied
  go_enter Tryd.func5, Tryd.ntmps5
  go_upto_region 1 with fail
  obtain ⟨w1, hw1⟩ : ∃ q, q = w.alloc (.cells (pv (p)).toArray 35) := ⟨_, rfl⟩
  try rw [← hw1]
  have hbm : Below w.heap.size w w1 := by rw [hw1]; exact (Below.refl _ _).alloc (Nat.le_refl _) _
  have hm := Mv.own (S := No) hw1
  have hwi := Wi.own WI0.out hw1
  have hpx : PgAt w1 w.heap.size (p) := by rw [hw1]; exact PgAt.new _ _ _ HP.out
  obtain ⟨BX, hBX⟩ : ∃ q, q = w.heap.size := ⟨_, rfl⟩
  rw [← hBX] at hm hwi hpx
  try rw [← hBX]
  have T_1 := Lib.hid (T0.out.step hm)
  clear T0
  have HM_1 := Lib.hid (HM0.out.trans hm)
  clear HM0
  have WI_1 := Lib.hid (hwi)
  clear WI0
  clear hm
  clear hbm hw1 hBX hwi
  have OX_1 := Lib.hid hpx
  clear hpx
  go_wp2_with fail
  refine (awake5 _ T_1.out.now).mono ?_
  rintro e w2 ⟨rfl, hb⟩
  have hbm : Below w1.heap.size w1 w2 := hb
  clear hb
  have hm : Mv (fun k => No k ∨ k = BX) (fun k => No k ∨ k = BX) w1 w2 := Mv.of_below hbm
  have T_2 := Lib.hid (T_1.out.step hm)
  clear T_1
  have OX_2 := Lib.hid (OX_1.out.under hbm OX_1.out.lt)
  clear OX_1
  have HM_2 := Lib.hid (HM_1.out.trans hm)
  clear HM_1
  have WI_2 := Lib.hid (WI_1.out.mono hm.size)
  clear WI_1
  clear hm
  clear hbm
  go_wp2_with fail
  refine (awake5 _ T_2.out.now).mono ?_
  rintro e w3 ⟨rfl, hb⟩
  have hbm : Below w2.heap.size w2 w3 := hb
  clear hb
  have hm : Mv (fun k => No k ∨ k = BX) (fun k => No k ∨ k = BX) w2 w3 := Mv.of_below hbm
  have T_3 := Lib.hid (T_2.out.step hm)
  clear T_2
  have OX_3 := Lib.hid (OX_2.out.under hbm OX_2.out.lt)
  clear OX_2
  have HM_3 := Lib.hid (HM_2.out.trans hm)
  clear HM_2
  have WI_3 := Lib.hid (WI_2.out.mono hm.size)
  clear WI_2
  clear hm
  clear hbm
  go_wp2_with fail
  go_ret
  exact ⟨rfl, HM_3.out.below⟩
set_option maxHeartbeats 8000000 in
set_option maxRecDepth 100000 in
theorem plays_00 (k : Int) (d : ByteArray) (p : Pg) (hp : p.length = 128) (h0 : d.size ≤ 500)  (h : k < 1) (w : World) (tied : Tied w) : Calls Tryd.prog 5 #[.int .i64 k, .string d, .agg (pv p).toArray, .bool false] w fun e w' => e = .returned (.bool true) ∧ Below w.heap.size w w' := by
  have hd : decide (500 < (d.size : Int)) = false := by simp; omega
  have e0 : decide (k < 1) = true := by simp; omega
  have hfc : frC k d = 1 := by unfold frC; rw [if_pos (.inl h)]
  have HLY := Lib.hid (fun w => lay_m k d w)
  rw [hfc] at HLY
  have hlp : layP k d = zp := by unfold layP; rw [if_neg (by rw [hfc]; decide)]
  have hll := zp_length
  rw [hlp] at HLY
  obtain ⟨L, hL⟩ : ∃ q, q = zp := ⟨_, rfl⟩
  rw [← hL] at HLY hll
  have HLZ := Lib.hid hL
  clear hlp hL
  have HLL := Lib.hid hll
  have HP := Lib.hid hp
  clear hp hfc h0 hll  h
  have hbz := build_zp
  have HM0 := Lib.hid (Mv.refl No w)
  have T0 := Lib.hid (Stays.tied tied)
  have WI0 := Lib.hid (Wi.no w)
  clear tied
  go_enter Tryd.func5, Tryd.ntmps5
  go_upto_region 1 with fail
  obtain ⟨w1, hw1⟩ : ∃ q, q = w.alloc (.cells (pv (p)).toArray 35) := ⟨_, rfl⟩
  try rw [← hw1]
  have hbm : Below w.heap.size w w1 := by rw [hw1]; exact (Below.refl _ _).alloc (Nat.le_refl _) _
  have hm := Mv.own (S := No) hw1
  have hwi := Wi.own WI0.out hw1
  have hpx : PgAt w1 w.heap.size (p) := by rw [hw1]; exact PgAt.new _ _ _ HP.out
  obtain ⟨BX, hBX⟩ : ∃ q, q = w.heap.size := ⟨_, rfl⟩
  rw [← hBX] at hm hwi hpx
  try rw [← hBX]
  have T_1 := Lib.hid (T0.out.step hm)
  clear T0
  have HM_1 := Lib.hid (HM0.out.trans hm)
  clear HM0
  have WI_1 := Lib.hid (hwi)
  clear WI0
  clear hm
  clear hbm hw1 hBX hwi
  have OX_1 := Lib.hid hpx
  clear hpx
  go_wp2_with fail
  refine (awake5 _ T_1.out.now).mono ?_
  rintro e w2 ⟨rfl, hb⟩
  have hbm : Below w1.heap.size w1 w2 := hb
  clear hb
  have hm : Mv (fun k => No k ∨ k = BX) (fun k => No k ∨ k = BX) w1 w2 := Mv.of_below hbm
  have T_2 := Lib.hid (T_1.out.step hm)
  clear T_1
  have OX_2 := Lib.hid (OX_1.out.under hbm OX_1.out.lt)
  clear OX_1
  have HM_2 := Lib.hid (HM_1.out.trans hm)
  clear HM_1
  have WI_2 := Lib.hid (WI_1.out.mono hm.size)
  clear WI_1
  clear hm
  clear hbm
  go_wp2_with fail
  refine (HLY.out _).mono ?_
  rintro e w3 ⟨v1, rfl, he, hb⟩
  have hbm : Below w2.heap.size w2 w3 := hb
  clear hb
  have hm : Mv (fun k => No k ∨ k = BX) (fun k => No k ∨ k = BX) w2 w3 := Mv.of_below hbm
  have hst := Stays.err he WI_2.out
  clear he
  have T_3 := Lib.hid (T_2.out.step hm)
  clear T_2
  have OX_3 := Lib.hid (OX_2.out.under hbm OX_2.out.lt)
  clear OX_2
  have HM_3 := Lib.hid (HM_2.out.trans hm)
  clear HM_2
  have WI_3 := Lib.hid (WI_2.out.mono hm.size)
  clear WI_2
  clear hm
  clear hbm
  have E1_4 := Lib.hid (hst)
  clear hst
  go_wp2_with (first | ((with_reducible refine at_al 36 ?_); refine al_pg rfl rfl ?_) | ((with_reducible refine at_st 36 (.tmp 9) (.tmp 32) ?_); refine st_new rfl _ _ rfl _ _ _ rfl rfl L ?_ rfl ?_ ?_; exact HLL.out; exact zsz))
  obtain ⟨w4, hw4⟩ : ∃ q, q = w3.alloc (.cells (pv (L)).toArray 36) := ⟨_, rfl⟩
  try rw [← hw4]
  have hbm : Below w3.heap.size w3 w4 := by rw [hw4]; exact (Below.refl _ _).alloc (Nat.le_refl _) _
  have hm : Mv (fun k => No k ∨ k = BX) (fun k => No k ∨ k = BX) w3 w4 := Mv.of_below hbm
  have hbx : Stays (fun k => No k ∨ k = BX) w4 (fun W => PgAt W w3.heap.size (L)) := Stays.box HLL.out WI_3.out hw4
  obtain ⟨BY, hBY⟩ : ∃ q, q = w3.heap.size := ⟨_, rfl⟩
  try rw [← hBY]
  rw [← hBY] at hbx
  have T_5 := Lib.hid (T_3.out.step hm)
  clear T_3
  have E1_5 := Lib.hid (E1_4.out.step hm)
  clear E1_4
  have OX_5 := Lib.hid (OX_3.out.under hbm OX_3.out.lt)
  clear OX_3
  have HM_5 := Lib.hid (HM_3.out.trans hm)
  clear HM_3
  have WI_5 := Lib.hid (WI_3.out.mono hm.size)
  clear WI_3
  clear hm
  clear hbm hw4 hBY
  have Y_6 := Lib.hid (hbx)
  clear hbx
  go_upto_region 9 with fail
  refine wp_region_held_drew (S := fun w2 => KF w4 w2) (by kernel_rfl) ?_ (fun hHeld => ?_)
  · exact KF.drew (KF.refl _)
  have hKF0 : KF w4 w4.drew := KF.drew (KF.refl _)
  refine wpAnyH_take (i := 0) (oi := { dst := Option.some 43, op := Go.Op.move (Go.Operand.tmp 10), type := 26, pos := "law.go:48", after := #[], guard := Option.none }) (v := ?_) rfl (by kernel_rfl) (by kernel_rfl) (by kernel_rfl) (fun _ _ _ h => h) (Or.inl ⟨by rfl, ?_⟩) (by assumption) ?_
  rotate_left
  · intro w hSw; (try dsimp only at hSw); go_simp; (try with_reducible rfl)
  simp only [Act.put, List.setIfInBounds_toArray, List.set_cons_zero, List.set_cons_succ]
  refine wpAnyH_take (i := 2) (oi := { dst := Option.some 45, op := Go.Op.move (Go.Operand.tmp 11), type := 3, pos := "law.go:48", after := #[], guard := Option.none }) (v := ?_) rfl (by kernel_rfl) (by kernel_rfl) (by kernel_rfl) (fun _ _ _ h => h) (Or.inl ⟨by rfl, ?_⟩) (by assumption) ?_
  rotate_left
  · intro w hSw; (try dsimp only at hSw); go_simp; (try with_reducible rfl)
  simp only [Act.put, List.setIfInBounds_toArray, List.set_cons_zero, List.set_cons_succ]
  refine wpAnyH_ready (rs := [1]) (by kernel_rfl) (by simp) ?_
  refine AllReadyH.cons (o := { dst := Option.some 44, op := Go.Op.call { callee := Go.Callee.value (Go.Operand.func 21), args := #[Go.Operand.tmp 43], argTypes := #[26] }, type := 3, pos := "law.go:48", after := #[{ on := 0, ground := Go.Ground.data }], guard := Option.none }) rfl (fun K hK => ?_) AllReadyH.nil
  go_simp
  refine (Num_c _ v1 1 (E1_5.out.step (Mv.of_below hKF0)).now (T_5.out.step (Mv.of_below hKF0)).now).mono ?_
  rintro e w5 ⟨rfl, hb⟩
  have hKF1 : KF w4 w5 := KF.step hKF0 hb
  clear hb
  dsimp only
  refine hK.out _ _ hKF1 (fun hHeld1 => ?_)
  clear hK K
  try simp only [Act.put, List.setIfInBounds_toArray, List.set_cons_zero, List.set_cons_succ]
  refine wpAnyH_take (i := 3) (oi := { dst := Option.some 46, op := Go.Op.binOp Go.BinOp.neq 3 (Go.Operand.tmp 44) (Go.Operand.tmp 45) 3, type := 4, pos := "law.go:48", after := #[{ on := 1, ground := Go.Ground.data }, { on := 2, ground := Go.Ground.data }], guard := Option.none }) (v := ?_) rfl (by kernel_rfl) (by kernel_rfl) (by kernel_rfl) (fun _ _ _ h => h) (Or.inl ⟨by rfl, ?_⟩) (by assumption) ?_
  rotate_left
  · intro w hSw; (try dsimp only at hSw); go_simp; (try with_reducible rfl)
  simp only [Act.put, List.setIfInBounds_toArray, List.set_cons_zero, List.set_cons_succ]
  refine wpAnyH_take (i := 4) (oi := { dst := Option.some 47, op := Go.Op.move (Go.Operand.tmp 46), type := 4, pos := "law.go:48", after := #[{ on := 3, ground := Go.Ground.data }, { on := 1, ground := Go.Ground.chain }], guard := Option.none }) (v := ?_) rfl (by kernel_rfl) (by kernel_rfl) (by kernel_rfl) (fun _ _ _ h => h) (Or.inl ⟨by rfl, ?_⟩) (by assumption) ?_
  rotate_left
  · intro w hSw; (try dsimp only at hSw); go_simp; (try with_reducible rfl)
  simp only [Act.put, List.setIfInBounds_toArray, List.set_cons_zero, List.set_cons_succ]
  refine wpAnyH_take (i := 5) (oi := { dst := Option.some 48, op := Go.Op.move (Go.Operand.tmp 11), type := 3, pos := "law.go:48", after := #[{ on := 4, ground := Go.Ground.guard }], guard := Option.some (4, Bool.false) }) (v := ?_) rfl (by kernel_rfl) (by kernel_rfl) (by kernel_rfl) (fun _ _ _ h => h) (Or.inl ⟨by rfl, ?_⟩) (by assumption) ?_
  rotate_left
  · intro w hSw; (try dsimp only at hSw); go_simp; (try with_reducible rfl)
  simp only [Act.put, List.setIfInBounds_toArray, List.set_cons_zero, List.set_cons_succ]
  refine wpAnyH_take (i := 6) (oi := { dst := Option.some 49, op := Go.Op.binOp Go.BinOp.eql 3 (Go.Operand.tmp 48) (Go.Operand.const (Go.Value.int Go.IntKind.i64 0)) 3, type := 4, pos := "law.go:48", after := #[{ on := 5, ground := Go.Ground.data }, { on := 4, ground := Go.Ground.guard }], guard := Option.some (4, Bool.false) }) (v := ?_) rfl (by kernel_rfl) (by kernel_rfl) (by kernel_rfl) (fun _ _ _ h => h) (Or.inl ⟨by rfl, ?_⟩) (by assumption) ?_
  rotate_left
  · intro w hSw; (try dsimp only at hSw); go_simp; (try with_reducible rfl)
  simp only [Act.put, List.setIfInBounds_toArray, List.set_cons_zero, List.set_cons_succ]
  refine wpAnyH_take (i := 7) (oi := { dst := Option.some 50, op := Go.Op.move (Go.Operand.tmp 49), type := 4, pos := "law.go:48", after := #[{ on := 6, ground := Go.Ground.data }, { on := 4, ground := Go.Ground.chain }, { on := 4, ground := Go.Ground.guard }], guard := Option.some (4, Bool.false) }) (v := ?_) rfl (by kernel_rfl) (by kernel_rfl) (by kernel_rfl) (fun _ _ _ h => h) (Or.inl ⟨by rfl, ?_⟩) (by assumption) ?_
  rotate_left
  · intro w hSw; (try dsimp only at hSw); go_simp; (try with_reducible rfl)
  simp only [Act.put, List.setIfInBounds_toArray, List.set_cons_zero, List.set_cons_succ]
  refine wpAnyH_take (i := 8) (oi := { dst := Option.some 51, op := Go.Op.load 36 (Go.Operand.tmp 9), type := 36, pos := "law.go:48", after := #[{ on := 7, ground := Go.Ground.guard }], guard := Option.some (7, Bool.true) }) (v := undef) rfl (by kernel_rfl) (by kernel_rfl) (by kernel_rfl) (fun _ _ _ h => h) (Or.inr ⟨by rfl, rfl⟩) (by assumption) ?_
  simp only [Act.put, List.setIfInBounds_toArray, List.set_cons_zero, List.set_cons_succ]
  refine wpAnyH_take (i := 9) (oi := { dst := Option.some 52, op := Go.Op.move (Go.Operand.tmp 0), type := 3, pos := "law.go:48", after := #[{ on := 7, ground := Go.Ground.guard }], guard := Option.some (7, Bool.true) }) (v := undef) rfl (by kernel_rfl) (by kernel_rfl) (by kernel_rfl) (fun _ _ _ h => h) (Or.inr ⟨by rfl, rfl⟩) (by assumption) ?_
  simp only [Act.put, List.setIfInBounds_toArray, List.set_cons_zero, List.set_cons_succ]
  refine wpAnyH_take (i := 10) (oi := { dst := Option.some 53, op := Go.Op.move (Go.Operand.tmp 1), type := 9, pos := "law.go:48", after := #[{ on := 7, ground := Go.Ground.guard }], guard := Option.some (7, Bool.true) }) (v := undef) rfl (by kernel_rfl) (by kernel_rfl) (by kernel_rfl) (fun _ _ _ h => h) (Or.inr ⟨by rfl, rfl⟩) (by assumption) ?_
  simp only [Act.put, List.setIfInBounds_toArray, List.set_cons_zero, List.set_cons_succ]
  refine wpAnyH_take (i := 11) (oi := { dst := Option.some 54, op := Go.Op.call { callee := Go.Callee.value (Go.Operand.func 35), args := #[Go.Operand.tmp 52, Go.Operand.tmp 53], argTypes := #[3, 9] }, type := 35, pos := "law.go:48", after := #[{ on := 9, ground := Go.Ground.data }, { on := 10, ground := Go.Ground.data }, { on := 7, ground := Go.Ground.chain }, { on := 7, ground := Go.Ground.guard }], guard := Option.some (7, Bool.true) }) (v := undef) rfl (by kernel_rfl) (by kernel_rfl) (by kernel_rfl) (fun _ _ _ h => h) (Or.inr ⟨by rfl, rfl⟩) (by assumption) ?_
  simp only [Act.put, List.setIfInBounds_toArray, List.set_cons_zero, List.set_cons_succ]
  refine wpAnyH_take (i := 12) (oi := { dst := Option.some 55, op := Go.Op.binOp Go.BinOp.neq 36 (Go.Operand.tmp 51) (Go.Operand.tmp 54) 36, type := 4, pos := "law.go:48", after := #[{ on := 8, ground := Go.Ground.data }, { on := 11, ground := Go.Ground.data }, { on := 7, ground := Go.Ground.guard }], guard := Option.some (7, Bool.true) }) (v := undef) rfl (by kernel_rfl) (by kernel_rfl) (by kernel_rfl) (fun _ _ _ h => h) (Or.inr ⟨by rfl, rfl⟩) (by assumption) ?_
  simp only [Act.put, List.setIfInBounds_toArray, List.set_cons_zero, List.set_cons_succ]
  refine wpAnyH_take (i := 13) (oi := { dst := Option.some 56, op := Go.Op.pick (Go.Operand.tmp 50) (Go.Operand.tmp 55) (Go.Operand.const (Go.Value.bool Bool.false)), type := 4, pos := "law.go:48", after := #[{ on := 7, ground := Go.Ground.data }, { on := 12, ground := Go.Ground.data }, { on := 4, ground := Go.Ground.guard }], guard := Option.some (4, Bool.false) }) (v := ?_) rfl (by kernel_rfl) (by kernel_rfl) (by kernel_rfl) (fun _ _ _ h => h) (Or.inl ⟨by rfl, ?_⟩) (by assumption) ?_
  rotate_left
  · intro w hSw; (try dsimp only at hSw); go_simp; (try with_reducible rfl)
  simp only [Act.put, List.setIfInBounds_toArray, List.set_cons_zero, List.set_cons_succ]
  refine wpAnyH_take (i := 14) (oi := { dst := Option.some 57, op := Go.Op.pick (Go.Operand.tmp 47) (Go.Operand.const (Go.Value.bool Bool.true)) (Go.Operand.tmp 56), type := 4, pos := "law.go:48", after := #[{ on := 4, ground := Go.Ground.data }, { on := 13, ground := Go.Ground.data }], guard := Option.none }) (v := ?_) rfl (by kernel_rfl) (by kernel_rfl) (by kernel_rfl) (fun _ _ _ h => h) (Or.inl ⟨by rfl, ?_⟩) (by assumption) ?_
  rotate_left
  · intro w hSw; (try dsimp only at hSw); go_simp; (try with_reducible rfl)
  simp only [Act.put, List.setIfInBounds_toArray, List.set_cons_zero, List.set_cons_succ]
  refine wpAnyH_take (i := 15) (oi := { dst := Option.some 58, op := Go.Op.move (Go.Operand.tmp 57), type := 4, pos := "law.go:48", after := #[{ on := 14, ground := Go.Ground.data }, { on := 11, ground := Go.Ground.chain }], guard := Option.none }) (v := ?_) rfl (by kernel_rfl) (by kernel_rfl) (by kernel_rfl) (fun _ _ _ h => h) (Or.inl ⟨by rfl, ?_⟩) (by assumption) ?_
  rotate_left
  · intro w hSw; (try dsimp only at hSw); go_simp; (try with_reducible rfl)
  simp only [Act.put, List.setIfInBounds_toArray, List.set_cons_zero, List.set_cons_succ]
  refine wpAnyH_take (i := 16) (oi := { dst := Option.some 59, op := Go.Op.move (Go.Operand.tmp 11), type := 3, pos := "law.go:48", after := #[{ on := 15, ground := Go.Ground.guard }], guard := Option.some (15, Bool.false) }) (v := ?_) rfl (by kernel_rfl) (by kernel_rfl) (by kernel_rfl) (fun _ _ _ h => h) (Or.inl ⟨by rfl, ?_⟩) (by assumption) ?_
  rotate_left
  · intro w hSw; (try dsimp only at hSw); go_simp; (try with_reducible rfl)
  simp only [Act.put, List.setIfInBounds_toArray, List.set_cons_zero, List.set_cons_succ]
  refine wpAnyH_take (i := 17) (oi := { dst := Option.some 60, op := Go.Op.binOp Go.BinOp.neq 3 (Go.Operand.tmp 59) (Go.Operand.const (Go.Value.int Go.IntKind.i64 0)) 3, type := 4, pos := "law.go:48", after := #[{ on := 16, ground := Go.Ground.data }, { on := 15, ground := Go.Ground.guard }], guard := Option.some (15, Bool.false) }) (v := ?_) rfl (by kernel_rfl) (by kernel_rfl) (by kernel_rfl) (fun _ _ _ h => h) (Or.inl ⟨by rfl, ?_⟩) (by assumption) ?_
  rotate_left
  · intro w hSw; (try dsimp only at hSw); go_simp; (try with_reducible rfl)
  simp only [Act.put, List.setIfInBounds_toArray, List.set_cons_zero, List.set_cons_succ]
  refine wpAnyH_take (i := 18) (oi := { dst := Option.some 61, op := Go.Op.move (Go.Operand.tmp 60), type := 4, pos := "law.go:48", after := #[{ on := 17, ground := Go.Ground.data }, { on := 15, ground := Go.Ground.chain }, { on := 15, ground := Go.Ground.guard }], guard := Option.some (15, Bool.false) }) (v := ?_) rfl (by kernel_rfl) (by kernel_rfl) (by kernel_rfl) (fun _ _ _ h => h) (Or.inl ⟨by rfl, ?_⟩) (by assumption) ?_
  rotate_left
  · intro w hSw; (try dsimp only at hSw); go_simp; (try with_reducible rfl)
  simp only [Act.put, List.setIfInBounds_toArray, List.set_cons_zero, List.set_cons_succ]
  refine wpAnyH_take (i := 19) (oi := { dst := Option.some 62, op := Go.Op.load 36 (Go.Operand.tmp 9), type := 36, pos := "law.go:48", after := #[{ on := 18, ground := Go.Ground.guard }], guard := Option.some (18, Bool.true) }) rfl (by kernel_rfl) (by kernel_rfl) (by kernel_rfl) (fun _ _ _ h => h) (yieldsIf_load_mid (by rfl) 36 _ rfl BY 0 rfl (pv L) _ (fun W hW => (Y_6.out.step (Mv.of_below hW)).now.r) Tryd.underlying36 rfl (size_of HLL.out)) (by assumption) ?_
  simp only [Act.put, List.setIfInBounds_toArray, List.set_cons_zero, List.set_cons_succ]
  refine wpAnyH_take (i := 20) (oi := { dst := Option.some 63, op := Go.Op.build 36 #[], type := 36, pos := "law.go:48", after := #[{ on := 18, ground := Go.Ground.guard }], guard := Option.some (18, Bool.true) }) (v := ?_) rfl (by kernel_rfl) (by kernel_rfl) (by kernel_rfl) (fun _ _ _ h => h) (Or.inl ⟨by rfl, ?_⟩) (by assumption) ?_
  rotate_left
  · intro w hSw; (try dsimp only at hSw); go_simp; (try with_reducible rfl)
  simp only [Act.put, List.setIfInBounds_toArray, List.set_cons_zero, List.set_cons_succ]
  refine wpAnyH_take (i := 21) (oi := { dst := Option.some 64, op := Go.Op.binOp Go.BinOp.neq 36 (Go.Operand.tmp 62) (Go.Operand.tmp 63) 36, type := 4, pos := "law.go:48", after := #[{ on := 19, ground := Go.Ground.data }, { on := 20, ground := Go.Ground.data }, { on := 18, ground := Go.Ground.guard }], guard := Option.some (18, Bool.true) }) rfl (by kernel_rfl) (by kernel_rfl) (by kernel_rfl) (fun _ _ _ h => h) (yif_neq (by rfl) _ _ rfl L zp rfl rfl HLL.out zp_length false (by rw [HLZ.out]; simp)) (by assumption) ?_
  simp only [Act.put, List.setIfInBounds_toArray, List.set_cons_zero, List.set_cons_succ]
  refine wpAnyH_take (i := 22) (oi := { dst := Option.some 65, op := Go.Op.pick (Go.Operand.tmp 61) (Go.Operand.tmp 64) (Go.Operand.const (Go.Value.bool Bool.false)), type := 4, pos := "law.go:48", after := #[{ on := 18, ground := Go.Ground.data }, { on := 21, ground := Go.Ground.data }, { on := 15, ground := Go.Ground.guard }], guard := Option.some (15, Bool.false) }) (v := ?_) rfl (by kernel_rfl) (by kernel_rfl) (by kernel_rfl) (fun _ _ _ h => h) (Or.inl ⟨by rfl, ?_⟩) (by assumption) ?_
  rotate_left
  · intro w hSw; (try dsimp only at hSw); go_simp; (try with_reducible rfl)
  simp only [Act.put, List.setIfInBounds_toArray, List.set_cons_zero, List.set_cons_succ]
  refine wpAnyH_take (i := 23) (oi := { dst := Option.some 66, op := Go.Op.pick (Go.Operand.tmp 58) (Go.Operand.const (Go.Value.bool Bool.true)) (Go.Operand.tmp 65), type := 4, pos := "law.go:48", after := #[{ on := 15, ground := Go.Ground.data }, { on := 22, ground := Go.Ground.data }], guard := Option.none }) (v := ?_) rfl (by kernel_rfl) (by kernel_rfl) (by kernel_rfl) (fun _ _ _ h => h) (Or.inl ⟨by rfl, ?_⟩) (by assumption) ?_
  rotate_left
  · intro w hSw; (try dsimp only at hSw); go_simp; (try with_reducible rfl)
  simp only [Act.put, List.setIfInBounds_toArray, List.set_cons_zero, List.set_cons_succ]
  refine wpAnyH_done (by kernel_rfl) ?_ _
  have hbm : Below w4.heap.size w4 w5 := hKF1
  have hm : Mv (fun k => No k ∨ k = BX) (fun k => No k ∨ k = BX) w4 w5 := Mv.of_below hbm
  have T_7 := Lib.hid (T_5.out.step hm)
  clear T_5
  have E1_7 := Lib.hid (E1_5.out.step hm)
  clear E1_5
  have Y_7 := Lib.hid (Y_6.out.step hm)
  clear Y_6
  have OX_7 := Lib.hid (OX_5.out.under hbm OX_5.out.lt)
  clear OX_5
  have HM_7 := Lib.hid (HM_5.out.trans hm)
  clear HM_5
  have WI_7 := Lib.hid (WI_5.out.mono hm.size)
  clear WI_5
  clear hm
  clear hbm hKF0 hKF1
  clear Y_7
  clear E1_7
  have HA := Lib.hid (fun w => read_fr p HP.out w)
  have HC := Lib.hid (fun w => rread5 p HP.out w)
  obtain ⟨qa, hqa⟩ : ∃ z, z = rdK p := ⟨_, rfl⟩
  rw [← hqa] at HA HC
  clear hqa
  obtain ⟨qs, hqs⟩ : ∃ z, z = rdD p := ⟨_, rfl⟩
  rw [← hqs] at HA HC
  clear hqs
  obtain ⟨qc, hqc⟩ : ∃ z, z = rdC p := ⟨_, rfl⟩
  rw [← hqc] at HA HC
  clear hqc
  go_wp2_with (first | ((with_reducible refine at_ld 35 (.tmp 6) ?_); refine ld_pr rfl _ rfl BX (0) rfl p ?_ ?_ ?_; exact HP.out; exact OX_7.out.r))
  refine (HA.out _).mono ?_
  rintro e w6 ⟨v5, rfl, he, hb⟩
  have hbm : Below w5.heap.size w5 w6 := hb
  clear hb
  have hm : Mv (fun k => No k ∨ k = BX) (fun k => No k ∨ k = BX) w5 w6 := Mv.of_below hbm
  have hst := Stays.err he WI_7.out
  clear he
  have T_8 := Lib.hid (T_7.out.step hm)
  clear T_7
  have OX_8 := Lib.hid (OX_7.out.under hbm OX_7.out.lt)
  clear OX_7
  have HM_8 := Lib.hid (HM_7.out.trans hm)
  clear HM_7
  have WI_8 := Lib.hid (WI_7.out.mono hm.size)
  clear WI_7
  clear hm
  clear hbm
  have E5_9 := Lib.hid (hst)
  clear hst
  go_wp2_with (first | ((with_reducible refine at_ld 35 (.tmp 6) ?_); refine ld_pr rfl _ rfl BX (0) rfl p ?_ ?_ ?_; exact HP.out; exact OX_8.out.r))
  refine (HC.out _).mono ?_
  rintro e w7 ⟨rfl, hb⟩
  have hbm : Below w6.heap.size w6 w7 := hb
  clear hb
  have hm : Mv (fun k => No k ∨ k = BX) (fun k => No k ∨ k = BX) w6 w7 := Mv.of_below hbm
  have T_10 := Lib.hid (T_8.out.step hm)
  clear T_8
  have E5_10 := Lib.hid (E5_9.out.step hm)
  clear E5_9
  have OX_10 := Lib.hid (OX_8.out.under hbm OX_8.out.lt)
  clear OX_8
  have HM_10 := Lib.hid (HM_8.out.trans hm)
  clear HM_8
  have WI_10 := Lib.hid (WI_8.out.mono hm.size)
  clear WI_8
  clear hm
  clear hbm
  go_wp2_with fail
  refine (Num_c _ v5 qc E5_10.out.now T_10.out.now).mono ?_
  rintro e w8 ⟨rfl, hb⟩
  have hbm : Below w7.heap.size w7 w8 := hb
  clear hb
  have hm : Mv (fun k => No k ∨ k = BX) (fun k => No k ∨ k = BX) w7 w8 := Mv.of_below hbm
  have T_11 := Lib.hid (T_10.out.step hm)
  clear T_10
  have E5_11 := Lib.hid (E5_10.out.step hm)
  clear E5_10
  have OX_11 := Lib.hid (OX_10.out.under hbm OX_10.out.lt)
  clear OX_10
  have HM_11 := Lib.hid (HM_10.out.trans hm)
  clear HM_10
  have WI_11 := Lib.hid (WI_10.out.mono hm.size)
  clear WI_10
  clear hm
  clear hbm
  go_wp2_with fail
  go_ret
  exact ⟨rfl, HM_11.out.below⟩
set_option maxHeartbeats 8000000 in
set_option maxRecDepth 100000 in
theorem plays_01 (k : Int) (d : ByteArray) (p : Pg) (hp : p.length = 128) (h0 : d.size ≤ 500)  (h : k < 1) (w : World) (tied : Tied w) : Calls Tryd.prog 5 #[.int .i64 k, .string d, .agg (pv p).toArray, .bool true] w fun e w' => e = .returned (.bool true) ∧ Below w.heap.size w w' := by
  have hd : decide (500 < (d.size : Int)) = false := by simp; omega
  have e0 : decide (k < 1) = true := by simp; omega
  have hfc : frC k d = 1 := by unfold frC; rw [if_pos (.inl h)]
  have HLY := Lib.hid (fun w => lay_m k d w)
  rw [hfc] at HLY
  have hlp : layP k d = zp := by unfold layP; rw [if_neg (by rw [hfc]; decide)]
  have hll := zp_length
  rw [hlp] at HLY
  obtain ⟨L, hL⟩ : ∃ q, q = zp := ⟨_, rfl⟩
  rw [← hL] at HLY hll
  have HLZ := Lib.hid hL
  clear hlp hL
  have HLL := Lib.hid hll
  have HP := Lib.hid hp
  clear hp hfc h0 hll  h
  have hbz := build_zp
  have HM0 := Lib.hid (Mv.refl No w)
  have T0 := Lib.hid (Stays.tied tied)
  have WI0 := Lib.hid (Wi.no w)
  clear tied
  go_enter Tryd.func5, Tryd.ntmps5
  go_upto_region 1 with fail
  obtain ⟨w1, hw1⟩ : ∃ q, q = w.alloc (.cells (pv (p)).toArray 35) := ⟨_, rfl⟩
  try rw [← hw1]
  have hbm : Below w.heap.size w w1 := by rw [hw1]; exact (Below.refl _ _).alloc (Nat.le_refl _) _
  have hm := Mv.own (S := No) hw1
  have hwi := Wi.own WI0.out hw1
  have hpx : PgAt w1 w.heap.size (p) := by rw [hw1]; exact PgAt.new _ _ _ HP.out
  obtain ⟨BX, hBX⟩ : ∃ q, q = w.heap.size := ⟨_, rfl⟩
  rw [← hBX] at hm hwi hpx
  try rw [← hBX]
  have T_1 := Lib.hid (T0.out.step hm)
  clear T0
  have HM_1 := Lib.hid (HM0.out.trans hm)
  clear HM0
  have WI_1 := Lib.hid (hwi)
  clear WI0
  clear hm
  clear hbm hw1 hBX hwi
  have OX_1 := Lib.hid hpx
  clear hpx
  go_wp2_with fail
  refine (awake5 _ T_1.out.now).mono ?_
  rintro e w2 ⟨rfl, hb⟩
  have hbm : Below w1.heap.size w1 w2 := hb
  clear hb
  have hm : Mv (fun k => No k ∨ k = BX) (fun k => No k ∨ k = BX) w1 w2 := Mv.of_below hbm
  have T_2 := Lib.hid (T_1.out.step hm)
  clear T_1
  have OX_2 := Lib.hid (OX_1.out.under hbm OX_1.out.lt)
  clear OX_1
  have HM_2 := Lib.hid (HM_1.out.trans hm)
  clear HM_1
  have WI_2 := Lib.hid (WI_1.out.mono hm.size)
  clear WI_1
  clear hm
  clear hbm
  go_wp2_with fail
  refine (HLY.out _).mono ?_
  rintro e w3 ⟨v1, rfl, he, hb⟩
  have hbm : Below w2.heap.size w2 w3 := hb
  clear hb
  have hm : Mv (fun k => No k ∨ k = BX) (fun k => No k ∨ k = BX) w2 w3 := Mv.of_below hbm
  have hst := Stays.err he WI_2.out
  clear he
  have T_3 := Lib.hid (T_2.out.step hm)
  clear T_2
  have OX_3 := Lib.hid (OX_2.out.under hbm OX_2.out.lt)
  clear OX_2
  have HM_3 := Lib.hid (HM_2.out.trans hm)
  clear HM_2
  have WI_3 := Lib.hid (WI_2.out.mono hm.size)
  clear WI_2
  clear hm
  clear hbm
  have E1_4 := Lib.hid (hst)
  clear hst
  go_wp2_with (first | ((with_reducible refine at_al 36 ?_); refine al_pg rfl rfl ?_) | ((with_reducible refine at_st 36 (.tmp 9) (.tmp 32) ?_); refine st_new rfl _ _ rfl _ _ _ rfl rfl L ?_ rfl ?_ ?_; exact HLL.out; exact zsz))
  obtain ⟨w4, hw4⟩ : ∃ q, q = w3.alloc (.cells (pv (L)).toArray 36) := ⟨_, rfl⟩
  try rw [← hw4]
  have hbm : Below w3.heap.size w3 w4 := by rw [hw4]; exact (Below.refl _ _).alloc (Nat.le_refl _) _
  have hm : Mv (fun k => No k ∨ k = BX) (fun k => No k ∨ k = BX) w3 w4 := Mv.of_below hbm
  have hbx : Stays (fun k => No k ∨ k = BX) w4 (fun W => PgAt W w3.heap.size (L)) := Stays.box HLL.out WI_3.out hw4
  obtain ⟨BY, hBY⟩ : ∃ q, q = w3.heap.size := ⟨_, rfl⟩
  try rw [← hBY]
  rw [← hBY] at hbx
  have T_5 := Lib.hid (T_3.out.step hm)
  clear T_3
  have E1_5 := Lib.hid (E1_4.out.step hm)
  clear E1_4
  have OX_5 := Lib.hid (OX_3.out.under hbm OX_3.out.lt)
  clear OX_3
  have HM_5 := Lib.hid (HM_3.out.trans hm)
  clear HM_3
  have WI_5 := Lib.hid (WI_3.out.mono hm.size)
  clear WI_3
  clear hm
  clear hbm hw4 hBY
  have Y_6 := Lib.hid (hbx)
  clear hbx
  go_upto_region 9 with fail
  refine wp_region_held_drew (S := fun w2 => KF w4 w2) (by kernel_rfl) ?_ (fun hHeld => ?_)
  · exact KF.drew (KF.refl _)
  have hKF0 : KF w4 w4.drew := KF.drew (KF.refl _)
  refine wpAnyH_take (i := 0) (oi := { dst := Option.some 43, op := Go.Op.move (Go.Operand.tmp 10), type := 26, pos := "law.go:48", after := #[], guard := Option.none }) (v := ?_) rfl (by kernel_rfl) (by kernel_rfl) (by kernel_rfl) (fun _ _ _ h => h) (Or.inl ⟨by rfl, ?_⟩) (by assumption) ?_
  rotate_left
  · intro w hSw; (try dsimp only at hSw); go_simp; (try with_reducible rfl)
  simp only [Act.put, List.setIfInBounds_toArray, List.set_cons_zero, List.set_cons_succ]
  refine wpAnyH_take (i := 2) (oi := { dst := Option.some 45, op := Go.Op.move (Go.Operand.tmp 11), type := 3, pos := "law.go:48", after := #[], guard := Option.none }) (v := ?_) rfl (by kernel_rfl) (by kernel_rfl) (by kernel_rfl) (fun _ _ _ h => h) (Or.inl ⟨by rfl, ?_⟩) (by assumption) ?_
  rotate_left
  · intro w hSw; (try dsimp only at hSw); go_simp; (try with_reducible rfl)
  simp only [Act.put, List.setIfInBounds_toArray, List.set_cons_zero, List.set_cons_succ]
  refine wpAnyH_ready (rs := [1]) (by kernel_rfl) (by simp) ?_
  refine AllReadyH.cons (o := { dst := Option.some 44, op := Go.Op.call { callee := Go.Callee.value (Go.Operand.func 21), args := #[Go.Operand.tmp 43], argTypes := #[26] }, type := 3, pos := "law.go:48", after := #[{ on := 0, ground := Go.Ground.data }], guard := Option.none }) rfl (fun K hK => ?_) AllReadyH.nil
  go_simp
  refine (Num_c _ v1 1 (E1_5.out.step (Mv.of_below hKF0)).now (T_5.out.step (Mv.of_below hKF0)).now).mono ?_
  rintro e w5 ⟨rfl, hb⟩
  have hKF1 : KF w4 w5 := KF.step hKF0 hb
  clear hb
  dsimp only
  refine hK.out _ _ hKF1 (fun hHeld1 => ?_)
  clear hK K
  try simp only [Act.put, List.setIfInBounds_toArray, List.set_cons_zero, List.set_cons_succ]
  refine wpAnyH_take (i := 3) (oi := { dst := Option.some 46, op := Go.Op.binOp Go.BinOp.neq 3 (Go.Operand.tmp 44) (Go.Operand.tmp 45) 3, type := 4, pos := "law.go:48", after := #[{ on := 1, ground := Go.Ground.data }, { on := 2, ground := Go.Ground.data }], guard := Option.none }) (v := ?_) rfl (by kernel_rfl) (by kernel_rfl) (by kernel_rfl) (fun _ _ _ h => h) (Or.inl ⟨by rfl, ?_⟩) (by assumption) ?_
  rotate_left
  · intro w hSw; (try dsimp only at hSw); go_simp; (try with_reducible rfl)
  simp only [Act.put, List.setIfInBounds_toArray, List.set_cons_zero, List.set_cons_succ]
  refine wpAnyH_take (i := 4) (oi := { dst := Option.some 47, op := Go.Op.move (Go.Operand.tmp 46), type := 4, pos := "law.go:48", after := #[{ on := 3, ground := Go.Ground.data }, { on := 1, ground := Go.Ground.chain }], guard := Option.none }) (v := ?_) rfl (by kernel_rfl) (by kernel_rfl) (by kernel_rfl) (fun _ _ _ h => h) (Or.inl ⟨by rfl, ?_⟩) (by assumption) ?_
  rotate_left
  · intro w hSw; (try dsimp only at hSw); go_simp; (try with_reducible rfl)
  simp only [Act.put, List.setIfInBounds_toArray, List.set_cons_zero, List.set_cons_succ]
  refine wpAnyH_take (i := 5) (oi := { dst := Option.some 48, op := Go.Op.move (Go.Operand.tmp 11), type := 3, pos := "law.go:48", after := #[{ on := 4, ground := Go.Ground.guard }], guard := Option.some (4, Bool.false) }) (v := ?_) rfl (by kernel_rfl) (by kernel_rfl) (by kernel_rfl) (fun _ _ _ h => h) (Or.inl ⟨by rfl, ?_⟩) (by assumption) ?_
  rotate_left
  · intro w hSw; (try dsimp only at hSw); go_simp; (try with_reducible rfl)
  simp only [Act.put, List.setIfInBounds_toArray, List.set_cons_zero, List.set_cons_succ]
  refine wpAnyH_take (i := 6) (oi := { dst := Option.some 49, op := Go.Op.binOp Go.BinOp.eql 3 (Go.Operand.tmp 48) (Go.Operand.const (Go.Value.int Go.IntKind.i64 0)) 3, type := 4, pos := "law.go:48", after := #[{ on := 5, ground := Go.Ground.data }, { on := 4, ground := Go.Ground.guard }], guard := Option.some (4, Bool.false) }) (v := ?_) rfl (by kernel_rfl) (by kernel_rfl) (by kernel_rfl) (fun _ _ _ h => h) (Or.inl ⟨by rfl, ?_⟩) (by assumption) ?_
  rotate_left
  · intro w hSw; (try dsimp only at hSw); go_simp; (try with_reducible rfl)
  simp only [Act.put, List.setIfInBounds_toArray, List.set_cons_zero, List.set_cons_succ]
  refine wpAnyH_take (i := 7) (oi := { dst := Option.some 50, op := Go.Op.move (Go.Operand.tmp 49), type := 4, pos := "law.go:48", after := #[{ on := 6, ground := Go.Ground.data }, { on := 4, ground := Go.Ground.chain }, { on := 4, ground := Go.Ground.guard }], guard := Option.some (4, Bool.false) }) (v := ?_) rfl (by kernel_rfl) (by kernel_rfl) (by kernel_rfl) (fun _ _ _ h => h) (Or.inl ⟨by rfl, ?_⟩) (by assumption) ?_
  rotate_left
  · intro w hSw; (try dsimp only at hSw); go_simp; (try with_reducible rfl)
  simp only [Act.put, List.setIfInBounds_toArray, List.set_cons_zero, List.set_cons_succ]
  refine wpAnyH_take (i := 8) (oi := { dst := Option.some 51, op := Go.Op.load 36 (Go.Operand.tmp 9), type := 36, pos := "law.go:48", after := #[{ on := 7, ground := Go.Ground.guard }], guard := Option.some (7, Bool.true) }) (v := undef) rfl (by kernel_rfl) (by kernel_rfl) (by kernel_rfl) (fun _ _ _ h => h) (Or.inr ⟨by rfl, rfl⟩) (by assumption) ?_
  simp only [Act.put, List.setIfInBounds_toArray, List.set_cons_zero, List.set_cons_succ]
  refine wpAnyH_take (i := 9) (oi := { dst := Option.some 52, op := Go.Op.move (Go.Operand.tmp 0), type := 3, pos := "law.go:48", after := #[{ on := 7, ground := Go.Ground.guard }], guard := Option.some (7, Bool.true) }) (v := undef) rfl (by kernel_rfl) (by kernel_rfl) (by kernel_rfl) (fun _ _ _ h => h) (Or.inr ⟨by rfl, rfl⟩) (by assumption) ?_
  simp only [Act.put, List.setIfInBounds_toArray, List.set_cons_zero, List.set_cons_succ]
  refine wpAnyH_take (i := 10) (oi := { dst := Option.some 53, op := Go.Op.move (Go.Operand.tmp 1), type := 9, pos := "law.go:48", after := #[{ on := 7, ground := Go.Ground.guard }], guard := Option.some (7, Bool.true) }) (v := undef) rfl (by kernel_rfl) (by kernel_rfl) (by kernel_rfl) (fun _ _ _ h => h) (Or.inr ⟨by rfl, rfl⟩) (by assumption) ?_
  simp only [Act.put, List.setIfInBounds_toArray, List.set_cons_zero, List.set_cons_succ]
  refine wpAnyH_take (i := 11) (oi := { dst := Option.some 54, op := Go.Op.call { callee := Go.Callee.value (Go.Operand.func 35), args := #[Go.Operand.tmp 52, Go.Operand.tmp 53], argTypes := #[3, 9] }, type := 35, pos := "law.go:48", after := #[{ on := 9, ground := Go.Ground.data }, { on := 10, ground := Go.Ground.data }, { on := 7, ground := Go.Ground.chain }, { on := 7, ground := Go.Ground.guard }], guard := Option.some (7, Bool.true) }) (v := undef) rfl (by kernel_rfl) (by kernel_rfl) (by kernel_rfl) (fun _ _ _ h => h) (Or.inr ⟨by rfl, rfl⟩) (by assumption) ?_
  simp only [Act.put, List.setIfInBounds_toArray, List.set_cons_zero, List.set_cons_succ]
  refine wpAnyH_take (i := 12) (oi := { dst := Option.some 55, op := Go.Op.binOp Go.BinOp.neq 36 (Go.Operand.tmp 51) (Go.Operand.tmp 54) 36, type := 4, pos := "law.go:48", after := #[{ on := 8, ground := Go.Ground.data }, { on := 11, ground := Go.Ground.data }, { on := 7, ground := Go.Ground.guard }], guard := Option.some (7, Bool.true) }) (v := undef) rfl (by kernel_rfl) (by kernel_rfl) (by kernel_rfl) (fun _ _ _ h => h) (Or.inr ⟨by rfl, rfl⟩) (by assumption) ?_
  simp only [Act.put, List.setIfInBounds_toArray, List.set_cons_zero, List.set_cons_succ]
  refine wpAnyH_take (i := 13) (oi := { dst := Option.some 56, op := Go.Op.pick (Go.Operand.tmp 50) (Go.Operand.tmp 55) (Go.Operand.const (Go.Value.bool Bool.false)), type := 4, pos := "law.go:48", after := #[{ on := 7, ground := Go.Ground.data }, { on := 12, ground := Go.Ground.data }, { on := 4, ground := Go.Ground.guard }], guard := Option.some (4, Bool.false) }) (v := ?_) rfl (by kernel_rfl) (by kernel_rfl) (by kernel_rfl) (fun _ _ _ h => h) (Or.inl ⟨by rfl, ?_⟩) (by assumption) ?_
  rotate_left
  · intro w hSw; (try dsimp only at hSw); go_simp; (try with_reducible rfl)
  simp only [Act.put, List.setIfInBounds_toArray, List.set_cons_zero, List.set_cons_succ]
  refine wpAnyH_take (i := 14) (oi := { dst := Option.some 57, op := Go.Op.pick (Go.Operand.tmp 47) (Go.Operand.const (Go.Value.bool Bool.true)) (Go.Operand.tmp 56), type := 4, pos := "law.go:48", after := #[{ on := 4, ground := Go.Ground.data }, { on := 13, ground := Go.Ground.data }], guard := Option.none }) (v := ?_) rfl (by kernel_rfl) (by kernel_rfl) (by kernel_rfl) (fun _ _ _ h => h) (Or.inl ⟨by rfl, ?_⟩) (by assumption) ?_
  rotate_left
  · intro w hSw; (try dsimp only at hSw); go_simp; (try with_reducible rfl)
  simp only [Act.put, List.setIfInBounds_toArray, List.set_cons_zero, List.set_cons_succ]
  refine wpAnyH_take (i := 15) (oi := { dst := Option.some 58, op := Go.Op.move (Go.Operand.tmp 57), type := 4, pos := "law.go:48", after := #[{ on := 14, ground := Go.Ground.data }, { on := 11, ground := Go.Ground.chain }], guard := Option.none }) (v := ?_) rfl (by kernel_rfl) (by kernel_rfl) (by kernel_rfl) (fun _ _ _ h => h) (Or.inl ⟨by rfl, ?_⟩) (by assumption) ?_
  rotate_left
  · intro w hSw; (try dsimp only at hSw); go_simp; (try with_reducible rfl)
  simp only [Act.put, List.setIfInBounds_toArray, List.set_cons_zero, List.set_cons_succ]
  refine wpAnyH_take (i := 16) (oi := { dst := Option.some 59, op := Go.Op.move (Go.Operand.tmp 11), type := 3, pos := "law.go:48", after := #[{ on := 15, ground := Go.Ground.guard }], guard := Option.some (15, Bool.false) }) (v := ?_) rfl (by kernel_rfl) (by kernel_rfl) (by kernel_rfl) (fun _ _ _ h => h) (Or.inl ⟨by rfl, ?_⟩) (by assumption) ?_
  rotate_left
  · intro w hSw; (try dsimp only at hSw); go_simp; (try with_reducible rfl)
  simp only [Act.put, List.setIfInBounds_toArray, List.set_cons_zero, List.set_cons_succ]
  refine wpAnyH_take (i := 17) (oi := { dst := Option.some 60, op := Go.Op.binOp Go.BinOp.neq 3 (Go.Operand.tmp 59) (Go.Operand.const (Go.Value.int Go.IntKind.i64 0)) 3, type := 4, pos := "law.go:48", after := #[{ on := 16, ground := Go.Ground.data }, { on := 15, ground := Go.Ground.guard }], guard := Option.some (15, Bool.false) }) (v := ?_) rfl (by kernel_rfl) (by kernel_rfl) (by kernel_rfl) (fun _ _ _ h => h) (Or.inl ⟨by rfl, ?_⟩) (by assumption) ?_
  rotate_left
  · intro w hSw; (try dsimp only at hSw); go_simp; (try with_reducible rfl)
  simp only [Act.put, List.setIfInBounds_toArray, List.set_cons_zero, List.set_cons_succ]
  refine wpAnyH_take (i := 18) (oi := { dst := Option.some 61, op := Go.Op.move (Go.Operand.tmp 60), type := 4, pos := "law.go:48", after := #[{ on := 17, ground := Go.Ground.data }, { on := 15, ground := Go.Ground.chain }, { on := 15, ground := Go.Ground.guard }], guard := Option.some (15, Bool.false) }) (v := ?_) rfl (by kernel_rfl) (by kernel_rfl) (by kernel_rfl) (fun _ _ _ h => h) (Or.inl ⟨by rfl, ?_⟩) (by assumption) ?_
  rotate_left
  · intro w hSw; (try dsimp only at hSw); go_simp; (try with_reducible rfl)
  simp only [Act.put, List.setIfInBounds_toArray, List.set_cons_zero, List.set_cons_succ]
  refine wpAnyH_take (i := 19) (oi := { dst := Option.some 62, op := Go.Op.load 36 (Go.Operand.tmp 9), type := 36, pos := "law.go:48", after := #[{ on := 18, ground := Go.Ground.guard }], guard := Option.some (18, Bool.true) }) rfl (by kernel_rfl) (by kernel_rfl) (by kernel_rfl) (fun _ _ _ h => h) (yieldsIf_load_mid (by rfl) 36 _ rfl BY 0 rfl (pv L) _ (fun W hW => (Y_6.out.step (Mv.of_below hW)).now.r) Tryd.underlying36 rfl (size_of HLL.out)) (by assumption) ?_
  simp only [Act.put, List.setIfInBounds_toArray, List.set_cons_zero, List.set_cons_succ]
  refine wpAnyH_take (i := 20) (oi := { dst := Option.some 63, op := Go.Op.build 36 #[], type := 36, pos := "law.go:48", after := #[{ on := 18, ground := Go.Ground.guard }], guard := Option.some (18, Bool.true) }) (v := ?_) rfl (by kernel_rfl) (by kernel_rfl) (by kernel_rfl) (fun _ _ _ h => h) (Or.inl ⟨by rfl, ?_⟩) (by assumption) ?_
  rotate_left
  · intro w hSw; (try dsimp only at hSw); go_simp; (try with_reducible rfl)
  simp only [Act.put, List.setIfInBounds_toArray, List.set_cons_zero, List.set_cons_succ]
  refine wpAnyH_take (i := 21) (oi := { dst := Option.some 64, op := Go.Op.binOp Go.BinOp.neq 36 (Go.Operand.tmp 62) (Go.Operand.tmp 63) 36, type := 4, pos := "law.go:48", after := #[{ on := 19, ground := Go.Ground.data }, { on := 20, ground := Go.Ground.data }, { on := 18, ground := Go.Ground.guard }], guard := Option.some (18, Bool.true) }) rfl (by kernel_rfl) (by kernel_rfl) (by kernel_rfl) (fun _ _ _ h => h) (yif_neq (by rfl) _ _ rfl L zp rfl rfl HLL.out zp_length false (by rw [HLZ.out]; simp)) (by assumption) ?_
  simp only [Act.put, List.setIfInBounds_toArray, List.set_cons_zero, List.set_cons_succ]
  refine wpAnyH_take (i := 22) (oi := { dst := Option.some 65, op := Go.Op.pick (Go.Operand.tmp 61) (Go.Operand.tmp 64) (Go.Operand.const (Go.Value.bool Bool.false)), type := 4, pos := "law.go:48", after := #[{ on := 18, ground := Go.Ground.data }, { on := 21, ground := Go.Ground.data }, { on := 15, ground := Go.Ground.guard }], guard := Option.some (15, Bool.false) }) (v := ?_) rfl (by kernel_rfl) (by kernel_rfl) (by kernel_rfl) (fun _ _ _ h => h) (Or.inl ⟨by rfl, ?_⟩) (by assumption) ?_
  rotate_left
  · intro w hSw; (try dsimp only at hSw); go_simp; (try with_reducible rfl)
  simp only [Act.put, List.setIfInBounds_toArray, List.set_cons_zero, List.set_cons_succ]
  refine wpAnyH_take (i := 23) (oi := { dst := Option.some 66, op := Go.Op.pick (Go.Operand.tmp 58) (Go.Operand.const (Go.Value.bool Bool.true)) (Go.Operand.tmp 65), type := 4, pos := "law.go:48", after := #[{ on := 15, ground := Go.Ground.data }, { on := 22, ground := Go.Ground.data }], guard := Option.none }) (v := ?_) rfl (by kernel_rfl) (by kernel_rfl) (by kernel_rfl) (fun _ _ _ h => h) (Or.inl ⟨by rfl, ?_⟩) (by assumption) ?_
  rotate_left
  · intro w hSw; (try dsimp only at hSw); go_simp; (try with_reducible rfl)
  simp only [Act.put, List.setIfInBounds_toArray, List.set_cons_zero, List.set_cons_succ]
  refine wpAnyH_done (by kernel_rfl) ?_ _
  have hbm : Below w4.heap.size w4 w5 := hKF1
  have hm : Mv (fun k => No k ∨ k = BX) (fun k => No k ∨ k = BX) w4 w5 := Mv.of_below hbm
  have T_7 := Lib.hid (T_5.out.step hm)
  clear T_5
  have E1_7 := Lib.hid (E1_5.out.step hm)
  clear E1_5
  have Y_7 := Lib.hid (Y_6.out.step hm)
  clear Y_6
  have OX_7 := Lib.hid (OX_5.out.under hbm OX_5.out.lt)
  clear OX_5
  have HM_7 := Lib.hid (HM_5.out.trans hm)
  clear HM_5
  have WI_7 := Lib.hid (WI_5.out.mono hm.size)
  clear WI_5
  clear hm
  clear hbm hKF0 hKF1
  clear Y_7
  clear E1_7
  have cv := conv_part OX_7.out 4 124 124 (by omega)
  rw [List.take_of_length_le (by rw [List.length_drop, HP.out]; omega)] at cv
  have HU := Lib.hid (fun w => refsum_any (strP (p.drop 4)) (by rw [strP_size, List.length_drop, HP.out]; omega) w)
  rw [byl_strP] at HU
  have hsl := sumL_lt (p.drop 4)
  have HF4 := Lib.hid (sum_fits (p.drop 4))
  have hz4 := sum_size (p.drop 4)
  have hl4 := sum_four (p.drop 4)
  obtain ⟨sm, hsm⟩ : ∃ q, q = sumL (p.drop 4) := ⟨_, rfl⟩
  rw [← hsm] at HU hsl HF4 hz4 hl4
  clear hsm
  have ew : IntKind.i64.wrap (sm : Int) = (sm : Int) := by simp [IntKind.wrap, IntKind.bits, IntKind.signed]; omega
  obtain ⟨s4, hs4⟩ : ∃ q, q = putB 4 (sm : Int) := ⟨_, rfl⟩
  rw [← hs4] at hz4 hl4
  obtain ⟨l, hl⟩ : ∃ q, q = s4.data.toList := ⟨_, rfl⟩
  rw [← hl] at hl4
  have HL4 := Lib.hid hl4
  have HSL : Hid (s4 = strP l) := Lib.hid (by rw [hl]; exact (strP_data s4).symm)
  have HS4 := Lib.hid hs4
  clear hl4 hl hs4
  go_wp2_with fail
  refine (HU.out _).mono ?_
  rintro e w6 ⟨rfl, hb⟩
  have hbm : Below w5.heap.size w5 w6 := hb
  clear hb
  have hm : Mv (fun k => No k ∨ k = BX) (fun k => No k ∨ k = BX) w5 w6 := Mv.of_below hbm
  have T_8 := Lib.hid (T_7.out.step hm)
  clear T_7
  have OX_8 := Lib.hid (OX_7.out.under hbm OX_7.out.lt)
  clear OX_7
  have HM_8 := Lib.hid (HM_7.out.trans hm)
  clear HM_7
  have WI_8 := Lib.hid (WI_7.out.mono hm.size)
  clear WI_7
  clear hm
  clear hbm
  clear cv
  go_wp2_with fail
  refine (rput_any (sm : Int) _ (by omega) HF4.out).mono ?_
  rintro e w7 ⟨rfl, hb⟩
  have hbm : Below w6.heap.size w6 w7 := hb
  clear hb
  have hm : Mv (fun k => No k ∨ k = BX) (fun k => No k ∨ k = BX) w6 w7 := Mv.of_below hbm
  have T_9 := Lib.hid (T_8.out.step hm)
  clear T_8
  have OX_9 := Lib.hid (OX_8.out.under hbm OX_8.out.lt)
  clear OX_8
  have HM_9 := Lib.hid (HM_8.out.trans hm)
  clear HM_8
  have WI_9 := Lib.hid (WI_8.out.mono hm.size)
  clear WI_8
  clear hm
  clear hbm
  rw [← HS4.out]
  clear HS4 hsl HF4 HU ew
  go_wp2_with fail
  go_loopg [13] 4 (fun gg s13 wr => ∃ i : Nat, i ≤ 4 ∧ 4 - i ≤ gg ∧ s13 = .int .i64 i ∧ Hid (Mv (fun k => No k ∨ k = BX) (fun k => No k ∨ k = BX) w7 wr ∧ PgAt wr BX (lay4 l p i)))
  case atStart => exact ⟨0, by omega, by omega, rfl, Lib.hid ⟨Mv.refl _ _, by rw [lay4_zero]; exact OX_9.out⟩⟩
  case round =>
    obtain ⟨i, hi, hg, rfl, HI⟩ := hrel
    by_cases hlt : i < 4
    · have hlz : (i : Int) < 4 := by omega
      obtain ⟨x, hx⟩ : ∃ x, l[i]? = some x := ⟨_, List.getElem?_eq_getElem (by rw [HL4.out]; omega)⟩
      obtain ⟨y, hy⟩ : ∃ y, (lay4 l p i)[i]? = some y := ⟨_, List.getElem?_eq_getElem (by rw [lay4_length l p HL4.out HP.out i (by omega)]; omega)⟩
      have cx := HI.out.2.byte i y hy
      have fx := HI.out.2.free i (by omega)
      have hb0 := byte_of l i x hx
      rw [← HSL.out] at hb0
      obtain ⟨hxs, hxe⟩ := hb0
      have HX := Lib.hid hx
      clear hx hy
      go_wp2_with fail
      have hpp := HI.out.2.put i x (by omega)
      rw [lay4_step l p HL4.out HP.out i hlt x HX.out] at hpp
      have hmm := HI.out.1.trans (Mv.set (S := (fun k => No k ∨ k = BX)) wr BX i (.int .u8 (x.toNat : Int)) (.inr rfl))
      have HN := Lib.hid (And.intro hmm hpp)
      clear hmm hpp hxe
      go_roundg (4 - (i + 1))
      case measure => omega
      case rel => exact ⟨i + 1, by omega, by omega, by go_num, HN⟩
    · have hlz : ¬ (i : Int) < 4 := by omega
      obtain rfl : i = 4 := by omega
      have hm := HI.out.1
      have hpx := HI.out.2
      have hql := lay4_length l p HL4.out HP.out 4 (by omega)
      obtain ⟨q, hq⟩ : ∃ q, q = lay4 l p 4 := ⟨_, rfl⟩
      rw [← hq] at hpx hql
      have HQ := Lib.hid hql
      clear hq hql HI
      have T_10 := Lib.hid (T_9.out.step hm)
      clear T_9
      have HM_10 := Lib.hid (HM_9.out.trans hm)
      clear HM_9
      have WI_10 := Lib.hid (WI_9.out.mono hm.size)
      clear WI_9
      clear hm
      clear OX_9
      have OX_10 := Lib.hid hpx
      clear hpx
      have HA := Lib.hid (fun w => read_fr q HQ.out w)
      have HC := Lib.hid (fun w => rread5 q HQ.out w)
      obtain ⟨qa, hqa⟩ : ∃ z, z = rdK q := ⟨_, rfl⟩
      rw [← hqa] at HA HC
      clear hqa
      obtain ⟨qs, hqs⟩ : ∃ z, z = rdD q := ⟨_, rfl⟩
      rw [← hqs] at HA HC
      clear hqs
      obtain ⟨qc, hqc⟩ : ∃ z, z = rdC q := ⟨_, rfl⟩
      rw [← hqc] at HA HC
      clear hqc
      go_wp2_with (first | ((with_reducible refine at_ld 35 (.tmp 6) ?_); refine ld_pr rfl _ rfl BX (0) rfl q ?_ ?_ ?_; exact HQ.out; exact OX_10.out.r))
      refine (HA.out _).mono ?_
      rintro e w8 ⟨v5, rfl, he, hb⟩
      have hbm : Below wr.heap.size wr w8 := hb
      clear hb
      have hm : Mv (fun k => No k ∨ k = BX) (fun k => No k ∨ k = BX) wr w8 := Mv.of_below hbm
      have hst := Stays.err he WI_10.out
      clear he
      have T_11 := Lib.hid (T_10.out.step hm)
      clear T_10
      have OX_11 := Lib.hid (OX_10.out.under hbm OX_10.out.lt)
      clear OX_10
      have HM_11 := Lib.hid (HM_10.out.trans hm)
      clear HM_10
      have WI_11 := Lib.hid (WI_10.out.mono hm.size)
      clear WI_10
      clear hm
      clear hbm
      have E5_12 := Lib.hid (hst)
      clear hst
      go_wp2_with (first | ((with_reducible refine at_ld 35 (.tmp 6) ?_); refine ld_pr rfl _ rfl BX (0) rfl q ?_ ?_ ?_; exact HQ.out; exact OX_11.out.r))
      refine (HC.out _).mono ?_
      rintro e w9 ⟨rfl, hb⟩
      have hbm : Below w8.heap.size w8 w9 := hb
      clear hb
      have hm : Mv (fun k => No k ∨ k = BX) (fun k => No k ∨ k = BX) w8 w9 := Mv.of_below hbm
      have T_13 := Lib.hid (T_11.out.step hm)
      clear T_11
      have E5_13 := Lib.hid (E5_12.out.step hm)
      clear E5_12
      have OX_13 := Lib.hid (OX_11.out.under hbm OX_11.out.lt)
      clear OX_11
      have HM_13 := Lib.hid (HM_11.out.trans hm)
      clear HM_11
      have WI_13 := Lib.hid (WI_11.out.mono hm.size)
      clear WI_11
      clear hm
      clear hbm
      go_wp2_with fail
      refine (Num_c _ v5 qc E5_13.out.now T_13.out.now).mono ?_
      rintro e w10 ⟨rfl, hb⟩
      have hbm : Below w9.heap.size w9 w10 := hb
      clear hb
      have hm : Mv (fun k => No k ∨ k = BX) (fun k => No k ∨ k = BX) w9 w10 := Mv.of_below hbm
      have T_14 := Lib.hid (T_13.out.step hm)
      clear T_13
      have E5_14 := Lib.hid (E5_13.out.step hm)
      clear E5_13
      have OX_14 := Lib.hid (OX_13.out.under hbm OX_13.out.lt)
      clear OX_13
      have HM_14 := Lib.hid (HM_13.out.trans hm)
      clear HM_13
      have WI_14 := Lib.hid (WI_13.out.mono hm.size)
      clear WI_13
      clear hm
      clear hbm
      go_wp2_with fail
      go_ret
      exact ⟨rfl, HM_14.out.below⟩
set_option maxHeartbeats 8000000 in
set_option maxRecDepth 100000 in
theorem plays_10 (k : Int) (d : ByteArray) (p : Pg) (hp : p.length = 128) (h0 : d.size ≤ 500) (g0 : ¬ k < 1) (h : 255 < k) (w : World) (tied : Tied w) : Calls Tryd.prog 5 #[.int .i64 k, .string d, .agg (pv p).toArray, .bool false] w fun e w' => e = .returned (.bool true) ∧ Below w.heap.size w w' := by
  have hd : decide (500 < (d.size : Int)) = false := by simp; omega
  have e0 : decide (k < 1) = false := by simp; omega
  have e1 : decide (255 < k) = true := by simp; omega
  have hfc : frC k d = 1 := by unfold frC; rw [if_pos (.inr h)]
  have HLY := Lib.hid (fun w => lay_m k d w)
  rw [hfc] at HLY
  have hlp : layP k d = zp := by unfold layP; rw [if_neg (by rw [hfc]; decide)]
  have hll := zp_length
  rw [hlp] at HLY
  obtain ⟨L, hL⟩ : ∃ q, q = zp := ⟨_, rfl⟩
  rw [← hL] at HLY hll
  have HLZ := Lib.hid hL
  clear hlp hL
  have HLL := Lib.hid hll
  have HP := Lib.hid hp
  clear hp hfc h0 hll g0 h
  have hbz := build_zp
  have HM0 := Lib.hid (Mv.refl No w)
  have T0 := Lib.hid (Stays.tied tied)
  have WI0 := Lib.hid (Wi.no w)
  clear tied
  go_enter Tryd.func5, Tryd.ntmps5
  go_upto_region 1 with fail
  obtain ⟨w1, hw1⟩ : ∃ q, q = w.alloc (.cells (pv (p)).toArray 35) := ⟨_, rfl⟩
  try rw [← hw1]
  have hbm : Below w.heap.size w w1 := by rw [hw1]; exact (Below.refl _ _).alloc (Nat.le_refl _) _
  have hm := Mv.own (S := No) hw1
  have hwi := Wi.own WI0.out hw1
  have hpx : PgAt w1 w.heap.size (p) := by rw [hw1]; exact PgAt.new _ _ _ HP.out
  obtain ⟨BX, hBX⟩ : ∃ q, q = w.heap.size := ⟨_, rfl⟩
  rw [← hBX] at hm hwi hpx
  try rw [← hBX]
  have T_1 := Lib.hid (T0.out.step hm)
  clear T0
  have HM_1 := Lib.hid (HM0.out.trans hm)
  clear HM0
  have WI_1 := Lib.hid (hwi)
  clear WI0
  clear hm
  clear hbm hw1 hBX hwi
  have OX_1 := Lib.hid hpx
  clear hpx
  go_wp2_with fail
  refine (awake5 _ T_1.out.now).mono ?_
  rintro e w2 ⟨rfl, hb⟩
  have hbm : Below w1.heap.size w1 w2 := hb
  clear hb
  have hm : Mv (fun k => No k ∨ k = BX) (fun k => No k ∨ k = BX) w1 w2 := Mv.of_below hbm
  have T_2 := Lib.hid (T_1.out.step hm)
  clear T_1
  have OX_2 := Lib.hid (OX_1.out.under hbm OX_1.out.lt)
  clear OX_1
  have HM_2 := Lib.hid (HM_1.out.trans hm)
  clear HM_1
  have WI_2 := Lib.hid (WI_1.out.mono hm.size)
  clear WI_1
  clear hm
  clear hbm
  go_wp2_with fail
  refine (HLY.out _).mono ?_
  rintro e w3 ⟨v1, rfl, he, hb⟩
  have hbm : Below w2.heap.size w2 w3 := hb
  clear hb
  have hm : Mv (fun k => No k ∨ k = BX) (fun k => No k ∨ k = BX) w2 w3 := Mv.of_below hbm
  have hst := Stays.err he WI_2.out
  clear he
  have T_3 := Lib.hid (T_2.out.step hm)
  clear T_2
  have OX_3 := Lib.hid (OX_2.out.under hbm OX_2.out.lt)
  clear OX_2
  have HM_3 := Lib.hid (HM_2.out.trans hm)
  clear HM_2
  have WI_3 := Lib.hid (WI_2.out.mono hm.size)
  clear WI_2
  clear hm
  clear hbm
  have E1_4 := Lib.hid (hst)
  clear hst
  go_wp2_with (first | ((with_reducible refine at_al 36 ?_); refine al_pg rfl rfl ?_) | ((with_reducible refine at_st 36 (.tmp 9) (.tmp 32) ?_); refine st_new rfl _ _ rfl _ _ _ rfl rfl L ?_ rfl ?_ ?_; exact HLL.out; exact zsz))
  obtain ⟨w4, hw4⟩ : ∃ q, q = w3.alloc (.cells (pv (L)).toArray 36) := ⟨_, rfl⟩
  try rw [← hw4]
  have hbm : Below w3.heap.size w3 w4 := by rw [hw4]; exact (Below.refl _ _).alloc (Nat.le_refl _) _
  have hm : Mv (fun k => No k ∨ k = BX) (fun k => No k ∨ k = BX) w3 w4 := Mv.of_below hbm
  have hbx : Stays (fun k => No k ∨ k = BX) w4 (fun W => PgAt W w3.heap.size (L)) := Stays.box HLL.out WI_3.out hw4
  obtain ⟨BY, hBY⟩ : ∃ q, q = w3.heap.size := ⟨_, rfl⟩
  try rw [← hBY]
  rw [← hBY] at hbx
  have T_5 := Lib.hid (T_3.out.step hm)
  clear T_3
  have E1_5 := Lib.hid (E1_4.out.step hm)
  clear E1_4
  have OX_5 := Lib.hid (OX_3.out.under hbm OX_3.out.lt)
  clear OX_3
  have HM_5 := Lib.hid (HM_3.out.trans hm)
  clear HM_3
  have WI_5 := Lib.hid (WI_3.out.mono hm.size)
  clear WI_3
  clear hm
  clear hbm hw4 hBY
  have Y_6 := Lib.hid (hbx)
  clear hbx
  go_upto_region 9 with fail
  refine wp_region_held_drew (S := fun w2 => KF w4 w2) (by kernel_rfl) ?_ (fun hHeld => ?_)
  · exact KF.drew (KF.refl _)
  have hKF0 : KF w4 w4.drew := KF.drew (KF.refl _)
  refine wpAnyH_take (i := 0) (oi := { dst := Option.some 43, op := Go.Op.move (Go.Operand.tmp 10), type := 26, pos := "law.go:48", after := #[], guard := Option.none }) (v := ?_) rfl (by kernel_rfl) (by kernel_rfl) (by kernel_rfl) (fun _ _ _ h => h) (Or.inl ⟨by rfl, ?_⟩) (by assumption) ?_
  rotate_left
  · intro w hSw; (try dsimp only at hSw); go_simp; (try with_reducible rfl)
  simp only [Act.put, List.setIfInBounds_toArray, List.set_cons_zero, List.set_cons_succ]
  refine wpAnyH_take (i := 2) (oi := { dst := Option.some 45, op := Go.Op.move (Go.Operand.tmp 11), type := 3, pos := "law.go:48", after := #[], guard := Option.none }) (v := ?_) rfl (by kernel_rfl) (by kernel_rfl) (by kernel_rfl) (fun _ _ _ h => h) (Or.inl ⟨by rfl, ?_⟩) (by assumption) ?_
  rotate_left
  · intro w hSw; (try dsimp only at hSw); go_simp; (try with_reducible rfl)
  simp only [Act.put, List.setIfInBounds_toArray, List.set_cons_zero, List.set_cons_succ]
  refine wpAnyH_ready (rs := [1]) (by kernel_rfl) (by simp) ?_
  refine AllReadyH.cons (o := { dst := Option.some 44, op := Go.Op.call { callee := Go.Callee.value (Go.Operand.func 21), args := #[Go.Operand.tmp 43], argTypes := #[26] }, type := 3, pos := "law.go:48", after := #[{ on := 0, ground := Go.Ground.data }], guard := Option.none }) rfl (fun K hK => ?_) AllReadyH.nil
  go_simp
  refine (Num_c _ v1 1 (E1_5.out.step (Mv.of_below hKF0)).now (T_5.out.step (Mv.of_below hKF0)).now).mono ?_
  rintro e w5 ⟨rfl, hb⟩
  have hKF1 : KF w4 w5 := KF.step hKF0 hb
  clear hb
  dsimp only
  refine hK.out _ _ hKF1 (fun hHeld1 => ?_)
  clear hK K
  try simp only [Act.put, List.setIfInBounds_toArray, List.set_cons_zero, List.set_cons_succ]
  refine wpAnyH_take (i := 3) (oi := { dst := Option.some 46, op := Go.Op.binOp Go.BinOp.neq 3 (Go.Operand.tmp 44) (Go.Operand.tmp 45) 3, type := 4, pos := "law.go:48", after := #[{ on := 1, ground := Go.Ground.data }, { on := 2, ground := Go.Ground.data }], guard := Option.none }) (v := ?_) rfl (by kernel_rfl) (by kernel_rfl) (by kernel_rfl) (fun _ _ _ h => h) (Or.inl ⟨by rfl, ?_⟩) (by assumption) ?_
  rotate_left
  · intro w hSw; (try dsimp only at hSw); go_simp; (try with_reducible rfl)
  simp only [Act.put, List.setIfInBounds_toArray, List.set_cons_zero, List.set_cons_succ]
  refine wpAnyH_take (i := 4) (oi := { dst := Option.some 47, op := Go.Op.move (Go.Operand.tmp 46), type := 4, pos := "law.go:48", after := #[{ on := 3, ground := Go.Ground.data }, { on := 1, ground := Go.Ground.chain }], guard := Option.none }) (v := ?_) rfl (by kernel_rfl) (by kernel_rfl) (by kernel_rfl) (fun _ _ _ h => h) (Or.inl ⟨by rfl, ?_⟩) (by assumption) ?_
  rotate_left
  · intro w hSw; (try dsimp only at hSw); go_simp; (try with_reducible rfl)
  simp only [Act.put, List.setIfInBounds_toArray, List.set_cons_zero, List.set_cons_succ]
  refine wpAnyH_take (i := 5) (oi := { dst := Option.some 48, op := Go.Op.move (Go.Operand.tmp 11), type := 3, pos := "law.go:48", after := #[{ on := 4, ground := Go.Ground.guard }], guard := Option.some (4, Bool.false) }) (v := ?_) rfl (by kernel_rfl) (by kernel_rfl) (by kernel_rfl) (fun _ _ _ h => h) (Or.inl ⟨by rfl, ?_⟩) (by assumption) ?_
  rotate_left
  · intro w hSw; (try dsimp only at hSw); go_simp; (try with_reducible rfl)
  simp only [Act.put, List.setIfInBounds_toArray, List.set_cons_zero, List.set_cons_succ]
  refine wpAnyH_take (i := 6) (oi := { dst := Option.some 49, op := Go.Op.binOp Go.BinOp.eql 3 (Go.Operand.tmp 48) (Go.Operand.const (Go.Value.int Go.IntKind.i64 0)) 3, type := 4, pos := "law.go:48", after := #[{ on := 5, ground := Go.Ground.data }, { on := 4, ground := Go.Ground.guard }], guard := Option.some (4, Bool.false) }) (v := ?_) rfl (by kernel_rfl) (by kernel_rfl) (by kernel_rfl) (fun _ _ _ h => h) (Or.inl ⟨by rfl, ?_⟩) (by assumption) ?_
  rotate_left
  · intro w hSw; (try dsimp only at hSw); go_simp; (try with_reducible rfl)
  simp only [Act.put, List.setIfInBounds_toArray, List.set_cons_zero, List.set_cons_succ]
  refine wpAnyH_take (i := 7) (oi := { dst := Option.some 50, op := Go.Op.move (Go.Operand.tmp 49), type := 4, pos := "law.go:48", after := #[{ on := 6, ground := Go.Ground.data }, { on := 4, ground := Go.Ground.chain }, { on := 4, ground := Go.Ground.guard }], guard := Option.some (4, Bool.false) }) (v := ?_) rfl (by kernel_rfl) (by kernel_rfl) (by kernel_rfl) (fun _ _ _ h => h) (Or.inl ⟨by rfl, ?_⟩) (by assumption) ?_
  rotate_left
  · intro w hSw; (try dsimp only at hSw); go_simp; (try with_reducible rfl)
  simp only [Act.put, List.setIfInBounds_toArray, List.set_cons_zero, List.set_cons_succ]
  refine wpAnyH_take (i := 8) (oi := { dst := Option.some 51, op := Go.Op.load 36 (Go.Operand.tmp 9), type := 36, pos := "law.go:48", after := #[{ on := 7, ground := Go.Ground.guard }], guard := Option.some (7, Bool.true) }) (v := undef) rfl (by kernel_rfl) (by kernel_rfl) (by kernel_rfl) (fun _ _ _ h => h) (Or.inr ⟨by rfl, rfl⟩) (by assumption) ?_
  simp only [Act.put, List.setIfInBounds_toArray, List.set_cons_zero, List.set_cons_succ]
  refine wpAnyH_take (i := 9) (oi := { dst := Option.some 52, op := Go.Op.move (Go.Operand.tmp 0), type := 3, pos := "law.go:48", after := #[{ on := 7, ground := Go.Ground.guard }], guard := Option.some (7, Bool.true) }) (v := undef) rfl (by kernel_rfl) (by kernel_rfl) (by kernel_rfl) (fun _ _ _ h => h) (Or.inr ⟨by rfl, rfl⟩) (by assumption) ?_
  simp only [Act.put, List.setIfInBounds_toArray, List.set_cons_zero, List.set_cons_succ]
  refine wpAnyH_take (i := 10) (oi := { dst := Option.some 53, op := Go.Op.move (Go.Operand.tmp 1), type := 9, pos := "law.go:48", after := #[{ on := 7, ground := Go.Ground.guard }], guard := Option.some (7, Bool.true) }) (v := undef) rfl (by kernel_rfl) (by kernel_rfl) (by kernel_rfl) (fun _ _ _ h => h) (Or.inr ⟨by rfl, rfl⟩) (by assumption) ?_
  simp only [Act.put, List.setIfInBounds_toArray, List.set_cons_zero, List.set_cons_succ]
  refine wpAnyH_take (i := 11) (oi := { dst := Option.some 54, op := Go.Op.call { callee := Go.Callee.value (Go.Operand.func 35), args := #[Go.Operand.tmp 52, Go.Operand.tmp 53], argTypes := #[3, 9] }, type := 35, pos := "law.go:48", after := #[{ on := 9, ground := Go.Ground.data }, { on := 10, ground := Go.Ground.data }, { on := 7, ground := Go.Ground.chain }, { on := 7, ground := Go.Ground.guard }], guard := Option.some (7, Bool.true) }) (v := undef) rfl (by kernel_rfl) (by kernel_rfl) (by kernel_rfl) (fun _ _ _ h => h) (Or.inr ⟨by rfl, rfl⟩) (by assumption) ?_
  simp only [Act.put, List.setIfInBounds_toArray, List.set_cons_zero, List.set_cons_succ]
  refine wpAnyH_take (i := 12) (oi := { dst := Option.some 55, op := Go.Op.binOp Go.BinOp.neq 36 (Go.Operand.tmp 51) (Go.Operand.tmp 54) 36, type := 4, pos := "law.go:48", after := #[{ on := 8, ground := Go.Ground.data }, { on := 11, ground := Go.Ground.data }, { on := 7, ground := Go.Ground.guard }], guard := Option.some (7, Bool.true) }) (v := undef) rfl (by kernel_rfl) (by kernel_rfl) (by kernel_rfl) (fun _ _ _ h => h) (Or.inr ⟨by rfl, rfl⟩) (by assumption) ?_
  simp only [Act.put, List.setIfInBounds_toArray, List.set_cons_zero, List.set_cons_succ]
  refine wpAnyH_take (i := 13) (oi := { dst := Option.some 56, op := Go.Op.pick (Go.Operand.tmp 50) (Go.Operand.tmp 55) (Go.Operand.const (Go.Value.bool Bool.false)), type := 4, pos := "law.go:48", after := #[{ on := 7, ground := Go.Ground.data }, { on := 12, ground := Go.Ground.data }, { on := 4, ground := Go.Ground.guard }], guard := Option.some (4, Bool.false) }) (v := ?_) rfl (by kernel_rfl) (by kernel_rfl) (by kernel_rfl) (fun _ _ _ h => h) (Or.inl ⟨by rfl, ?_⟩) (by assumption) ?_
  rotate_left
  · intro w hSw; (try dsimp only at hSw); go_simp; (try with_reducible rfl)
  simp only [Act.put, List.setIfInBounds_toArray, List.set_cons_zero, List.set_cons_succ]
  refine wpAnyH_take (i := 14) (oi := { dst := Option.some 57, op := Go.Op.pick (Go.Operand.tmp 47) (Go.Operand.const (Go.Value.bool Bool.true)) (Go.Operand.tmp 56), type := 4, pos := "law.go:48", after := #[{ on := 4, ground := Go.Ground.data }, { on := 13, ground := Go.Ground.data }], guard := Option.none }) (v := ?_) rfl (by kernel_rfl) (by kernel_rfl) (by kernel_rfl) (fun _ _ _ h => h) (Or.inl ⟨by rfl, ?_⟩) (by assumption) ?_
  rotate_left
  · intro w hSw; (try dsimp only at hSw); go_simp; (try with_reducible rfl)
  simp only [Act.put, List.setIfInBounds_toArray, List.set_cons_zero, List.set_cons_succ]
  refine wpAnyH_take (i := 15) (oi := { dst := Option.some 58, op := Go.Op.move (Go.Operand.tmp 57), type := 4, pos := "law.go:48", after := #[{ on := 14, ground := Go.Ground.data }, { on := 11, ground := Go.Ground.chain }], guard := Option.none }) (v := ?_) rfl (by kernel_rfl) (by kernel_rfl) (by kernel_rfl) (fun _ _ _ h => h) (Or.inl ⟨by rfl, ?_⟩) (by assumption) ?_
  rotate_left
  · intro w hSw; (try dsimp only at hSw); go_simp; (try with_reducible rfl)
  simp only [Act.put, List.setIfInBounds_toArray, List.set_cons_zero, List.set_cons_succ]
  refine wpAnyH_take (i := 16) (oi := { dst := Option.some 59, op := Go.Op.move (Go.Operand.tmp 11), type := 3, pos := "law.go:48", after := #[{ on := 15, ground := Go.Ground.guard }], guard := Option.some (15, Bool.false) }) (v := ?_) rfl (by kernel_rfl) (by kernel_rfl) (by kernel_rfl) (fun _ _ _ h => h) (Or.inl ⟨by rfl, ?_⟩) (by assumption) ?_
  rotate_left
  · intro w hSw; (try dsimp only at hSw); go_simp; (try with_reducible rfl)
  simp only [Act.put, List.setIfInBounds_toArray, List.set_cons_zero, List.set_cons_succ]
  refine wpAnyH_take (i := 17) (oi := { dst := Option.some 60, op := Go.Op.binOp Go.BinOp.neq 3 (Go.Operand.tmp 59) (Go.Operand.const (Go.Value.int Go.IntKind.i64 0)) 3, type := 4, pos := "law.go:48", after := #[{ on := 16, ground := Go.Ground.data }, { on := 15, ground := Go.Ground.guard }], guard := Option.some (15, Bool.false) }) (v := ?_) rfl (by kernel_rfl) (by kernel_rfl) (by kernel_rfl) (fun _ _ _ h => h) (Or.inl ⟨by rfl, ?_⟩) (by assumption) ?_
  rotate_left
  · intro w hSw; (try dsimp only at hSw); go_simp; (try with_reducible rfl)
  simp only [Act.put, List.setIfInBounds_toArray, List.set_cons_zero, List.set_cons_succ]
  refine wpAnyH_take (i := 18) (oi := { dst := Option.some 61, op := Go.Op.move (Go.Operand.tmp 60), type := 4, pos := "law.go:48", after := #[{ on := 17, ground := Go.Ground.data }, { on := 15, ground := Go.Ground.chain }, { on := 15, ground := Go.Ground.guard }], guard := Option.some (15, Bool.false) }) (v := ?_) rfl (by kernel_rfl) (by kernel_rfl) (by kernel_rfl) (fun _ _ _ h => h) (Or.inl ⟨by rfl, ?_⟩) (by assumption) ?_
  rotate_left
  · intro w hSw; (try dsimp only at hSw); go_simp; (try with_reducible rfl)
  simp only [Act.put, List.setIfInBounds_toArray, List.set_cons_zero, List.set_cons_succ]
  refine wpAnyH_take (i := 19) (oi := { dst := Option.some 62, op := Go.Op.load 36 (Go.Operand.tmp 9), type := 36, pos := "law.go:48", after := #[{ on := 18, ground := Go.Ground.guard }], guard := Option.some (18, Bool.true) }) rfl (by kernel_rfl) (by kernel_rfl) (by kernel_rfl) (fun _ _ _ h => h) (yieldsIf_load_mid (by rfl) 36 _ rfl BY 0 rfl (pv L) _ (fun W hW => (Y_6.out.step (Mv.of_below hW)).now.r) Tryd.underlying36 rfl (size_of HLL.out)) (by assumption) ?_
  simp only [Act.put, List.setIfInBounds_toArray, List.set_cons_zero, List.set_cons_succ]
  refine wpAnyH_take (i := 20) (oi := { dst := Option.some 63, op := Go.Op.build 36 #[], type := 36, pos := "law.go:48", after := #[{ on := 18, ground := Go.Ground.guard }], guard := Option.some (18, Bool.true) }) (v := ?_) rfl (by kernel_rfl) (by kernel_rfl) (by kernel_rfl) (fun _ _ _ h => h) (Or.inl ⟨by rfl, ?_⟩) (by assumption) ?_
  rotate_left
  · intro w hSw; (try dsimp only at hSw); go_simp; (try with_reducible rfl)
  simp only [Act.put, List.setIfInBounds_toArray, List.set_cons_zero, List.set_cons_succ]
  refine wpAnyH_take (i := 21) (oi := { dst := Option.some 64, op := Go.Op.binOp Go.BinOp.neq 36 (Go.Operand.tmp 62) (Go.Operand.tmp 63) 36, type := 4, pos := "law.go:48", after := #[{ on := 19, ground := Go.Ground.data }, { on := 20, ground := Go.Ground.data }, { on := 18, ground := Go.Ground.guard }], guard := Option.some (18, Bool.true) }) rfl (by kernel_rfl) (by kernel_rfl) (by kernel_rfl) (fun _ _ _ h => h) (yif_neq (by rfl) _ _ rfl L zp rfl rfl HLL.out zp_length false (by rw [HLZ.out]; simp)) (by assumption) ?_
  simp only [Act.put, List.setIfInBounds_toArray, List.set_cons_zero, List.set_cons_succ]
  refine wpAnyH_take (i := 22) (oi := { dst := Option.some 65, op := Go.Op.pick (Go.Operand.tmp 61) (Go.Operand.tmp 64) (Go.Operand.const (Go.Value.bool Bool.false)), type := 4, pos := "law.go:48", after := #[{ on := 18, ground := Go.Ground.data }, { on := 21, ground := Go.Ground.data }, { on := 15, ground := Go.Ground.guard }], guard := Option.some (15, Bool.false) }) (v := ?_) rfl (by kernel_rfl) (by kernel_rfl) (by kernel_rfl) (fun _ _ _ h => h) (Or.inl ⟨by rfl, ?_⟩) (by assumption) ?_
  rotate_left
  · intro w hSw; (try dsimp only at hSw); go_simp; (try with_reducible rfl)
  simp only [Act.put, List.setIfInBounds_toArray, List.set_cons_zero, List.set_cons_succ]
  refine wpAnyH_take (i := 23) (oi := { dst := Option.some 66, op := Go.Op.pick (Go.Operand.tmp 58) (Go.Operand.const (Go.Value.bool Bool.true)) (Go.Operand.tmp 65), type := 4, pos := "law.go:48", after := #[{ on := 15, ground := Go.Ground.data }, { on := 22, ground := Go.Ground.data }], guard := Option.none }) (v := ?_) rfl (by kernel_rfl) (by kernel_rfl) (by kernel_rfl) (fun _ _ _ h => h) (Or.inl ⟨by rfl, ?_⟩) (by assumption) ?_
  rotate_left
  · intro w hSw; (try dsimp only at hSw); go_simp; (try with_reducible rfl)
  simp only [Act.put, List.setIfInBounds_toArray, List.set_cons_zero, List.set_cons_succ]
  refine wpAnyH_done (by kernel_rfl) ?_ _
  have hbm : Below w4.heap.size w4 w5 := hKF1
  have hm : Mv (fun k => No k ∨ k = BX) (fun k => No k ∨ k = BX) w4 w5 := Mv.of_below hbm
  have T_7 := Lib.hid (T_5.out.step hm)
  clear T_5
  have E1_7 := Lib.hid (E1_5.out.step hm)
  clear E1_5
  have Y_7 := Lib.hid (Y_6.out.step hm)
  clear Y_6
  have OX_7 := Lib.hid (OX_5.out.under hbm OX_5.out.lt)
  clear OX_5
  have HM_7 := Lib.hid (HM_5.out.trans hm)
  clear HM_5
  have WI_7 := Lib.hid (WI_5.out.mono hm.size)
  clear WI_5
  clear hm
  clear hbm hKF0 hKF1
  clear Y_7
  clear E1_7
  have HA := Lib.hid (fun w => read_fr p HP.out w)
  have HC := Lib.hid (fun w => rread5 p HP.out w)
  obtain ⟨qa, hqa⟩ : ∃ z, z = rdK p := ⟨_, rfl⟩
  rw [← hqa] at HA HC
  clear hqa
  obtain ⟨qs, hqs⟩ : ∃ z, z = rdD p := ⟨_, rfl⟩
  rw [← hqs] at HA HC
  clear hqs
  obtain ⟨qc, hqc⟩ : ∃ z, z = rdC p := ⟨_, rfl⟩
  rw [← hqc] at HA HC
  clear hqc
  go_wp2_with (first | ((with_reducible refine at_ld 35 (.tmp 6) ?_); refine ld_pr rfl _ rfl BX (0) rfl p ?_ ?_ ?_; exact HP.out; exact OX_7.out.r))
  refine (HA.out _).mono ?_
  rintro e w6 ⟨v5, rfl, he, hb⟩
  have hbm : Below w5.heap.size w5 w6 := hb
  clear hb
  have hm : Mv (fun k => No k ∨ k = BX) (fun k => No k ∨ k = BX) w5 w6 := Mv.of_below hbm
  have hst := Stays.err he WI_7.out
  clear he
  have T_8 := Lib.hid (T_7.out.step hm)
  clear T_7
  have OX_8 := Lib.hid (OX_7.out.under hbm OX_7.out.lt)
  clear OX_7
  have HM_8 := Lib.hid (HM_7.out.trans hm)
  clear HM_7
  have WI_8 := Lib.hid (WI_7.out.mono hm.size)
  clear WI_7
  clear hm
  clear hbm
  have E5_9 := Lib.hid (hst)
  clear hst
  go_wp2_with (first | ((with_reducible refine at_ld 35 (.tmp 6) ?_); refine ld_pr rfl _ rfl BX (0) rfl p ?_ ?_ ?_; exact HP.out; exact OX_8.out.r))
  refine (HC.out _).mono ?_
  rintro e w7 ⟨rfl, hb⟩
  have hbm : Below w6.heap.size w6 w7 := hb
  clear hb
  have hm : Mv (fun k => No k ∨ k = BX) (fun k => No k ∨ k = BX) w6 w7 := Mv.of_below hbm
  have T_10 := Lib.hid (T_8.out.step hm)
  clear T_8
  have E5_10 := Lib.hid (E5_9.out.step hm)
  clear E5_9
  have OX_10 := Lib.hid (OX_8.out.under hbm OX_8.out.lt)
  clear OX_8
  have HM_10 := Lib.hid (HM_8.out.trans hm)
  clear HM_8
  have WI_10 := Lib.hid (WI_8.out.mono hm.size)
  clear WI_8
  clear hm
  clear hbm
  go_wp2_with fail
  refine (Num_c _ v5 qc E5_10.out.now T_10.out.now).mono ?_
  rintro e w8 ⟨rfl, hb⟩
  have hbm : Below w7.heap.size w7 w8 := hb
  clear hb
  have hm : Mv (fun k => No k ∨ k = BX) (fun k => No k ∨ k = BX) w7 w8 := Mv.of_below hbm
  have T_11 := Lib.hid (T_10.out.step hm)
  clear T_10
  have E5_11 := Lib.hid (E5_10.out.step hm)
  clear E5_10
  have OX_11 := Lib.hid (OX_10.out.under hbm OX_10.out.lt)
  clear OX_10
  have HM_11 := Lib.hid (HM_10.out.trans hm)
  clear HM_10
  have WI_11 := Lib.hid (WI_10.out.mono hm.size)
  clear WI_10
  clear hm
  clear hbm
  go_wp2_with fail
  go_ret
  exact ⟨rfl, HM_11.out.below⟩
set_option maxHeartbeats 8000000 in
set_option maxRecDepth 100000 in
theorem plays_11 (k : Int) (d : ByteArray) (p : Pg) (hp : p.length = 128) (h0 : d.size ≤ 500) (g0 : ¬ k < 1) (h : 255 < k) (w : World) (tied : Tied w) : Calls Tryd.prog 5 #[.int .i64 k, .string d, .agg (pv p).toArray, .bool true] w fun e w' => e = .returned (.bool true) ∧ Below w.heap.size w w' := by
  have hd : decide (500 < (d.size : Int)) = false := by simp; omega
  have e0 : decide (k < 1) = false := by simp; omega
  have e1 : decide (255 < k) = true := by simp; omega
  have hfc : frC k d = 1 := by unfold frC; rw [if_pos (.inr h)]
  have HLY := Lib.hid (fun w => lay_m k d w)
  rw [hfc] at HLY
  have hlp : layP k d = zp := by unfold layP; rw [if_neg (by rw [hfc]; decide)]
  have hll := zp_length
  rw [hlp] at HLY
  obtain ⟨L, hL⟩ : ∃ q, q = zp := ⟨_, rfl⟩
  rw [← hL] at HLY hll
  have HLZ := Lib.hid hL
  clear hlp hL
  have HLL := Lib.hid hll
  have HP := Lib.hid hp
  clear hp hfc h0 hll g0 h
  have hbz := build_zp
  have HM0 := Lib.hid (Mv.refl No w)
  have T0 := Lib.hid (Stays.tied tied)
  have WI0 := Lib.hid (Wi.no w)
  clear tied
  go_enter Tryd.func5, Tryd.ntmps5
  go_upto_region 1 with fail
  obtain ⟨w1, hw1⟩ : ∃ q, q = w.alloc (.cells (pv (p)).toArray 35) := ⟨_, rfl⟩
  try rw [← hw1]
  have hbm : Below w.heap.size w w1 := by rw [hw1]; exact (Below.refl _ _).alloc (Nat.le_refl _) _
  have hm := Mv.own (S := No) hw1
  have hwi := Wi.own WI0.out hw1
  have hpx : PgAt w1 w.heap.size (p) := by rw [hw1]; exact PgAt.new _ _ _ HP.out
  obtain ⟨BX, hBX⟩ : ∃ q, q = w.heap.size := ⟨_, rfl⟩
  rw [← hBX] at hm hwi hpx
  try rw [← hBX]
  have T_1 := Lib.hid (T0.out.step hm)
  clear T0
  have HM_1 := Lib.hid (HM0.out.trans hm)
  clear HM0
  have WI_1 := Lib.hid (hwi)
  clear WI0
  clear hm
  clear hbm hw1 hBX hwi
  have OX_1 := Lib.hid hpx
  clear hpx
  go_wp2_with fail
  refine (awake5 _ T_1.out.now).mono ?_
  rintro e w2 ⟨rfl, hb⟩
  have hbm : Below w1.heap.size w1 w2 := hb
  clear hb
  have hm : Mv (fun k => No k ∨ k = BX) (fun k => No k ∨ k = BX) w1 w2 := Mv.of_below hbm
  have T_2 := Lib.hid (T_1.out.step hm)
  clear T_1
  have OX_2 := Lib.hid (OX_1.out.under hbm OX_1.out.lt)
  clear OX_1
  have HM_2 := Lib.hid (HM_1.out.trans hm)
  clear HM_1
  have WI_2 := Lib.hid (WI_1.out.mono hm.size)
  clear WI_1
  clear hm
  clear hbm
  go_wp2_with fail
  refine (HLY.out _).mono ?_
  rintro e w3 ⟨v1, rfl, he, hb⟩
  have hbm : Below w2.heap.size w2 w3 := hb
  clear hb
  have hm : Mv (fun k => No k ∨ k = BX) (fun k => No k ∨ k = BX) w2 w3 := Mv.of_below hbm
  have hst := Stays.err he WI_2.out
  clear he
  have T_3 := Lib.hid (T_2.out.step hm)
  clear T_2
  have OX_3 := Lib.hid (OX_2.out.under hbm OX_2.out.lt)
  clear OX_2
  have HM_3 := Lib.hid (HM_2.out.trans hm)
  clear HM_2
  have WI_3 := Lib.hid (WI_2.out.mono hm.size)
  clear WI_2
  clear hm
  clear hbm
  have E1_4 := Lib.hid (hst)
  clear hst
  go_wp2_with (first | ((with_reducible refine at_al 36 ?_); refine al_pg rfl rfl ?_) | ((with_reducible refine at_st 36 (.tmp 9) (.tmp 32) ?_); refine st_new rfl _ _ rfl _ _ _ rfl rfl L ?_ rfl ?_ ?_; exact HLL.out; exact zsz))
  obtain ⟨w4, hw4⟩ : ∃ q, q = w3.alloc (.cells (pv (L)).toArray 36) := ⟨_, rfl⟩
  try rw [← hw4]
  have hbm : Below w3.heap.size w3 w4 := by rw [hw4]; exact (Below.refl _ _).alloc (Nat.le_refl _) _
  have hm : Mv (fun k => No k ∨ k = BX) (fun k => No k ∨ k = BX) w3 w4 := Mv.of_below hbm
  have hbx : Stays (fun k => No k ∨ k = BX) w4 (fun W => PgAt W w3.heap.size (L)) := Stays.box HLL.out WI_3.out hw4
  obtain ⟨BY, hBY⟩ : ∃ q, q = w3.heap.size := ⟨_, rfl⟩
  try rw [← hBY]
  rw [← hBY] at hbx
  have T_5 := Lib.hid (T_3.out.step hm)
  clear T_3
  have E1_5 := Lib.hid (E1_4.out.step hm)
  clear E1_4
  have OX_5 := Lib.hid (OX_3.out.under hbm OX_3.out.lt)
  clear OX_3
  have HM_5 := Lib.hid (HM_3.out.trans hm)
  clear HM_3
  have WI_5 := Lib.hid (WI_3.out.mono hm.size)
  clear WI_3
  clear hm
  clear hbm hw4 hBY
  have Y_6 := Lib.hid (hbx)
  clear hbx
  go_upto_region 9 with fail
  refine wp_region_held_drew (S := fun w2 => KF w4 w2) (by kernel_rfl) ?_ (fun hHeld => ?_)
  · exact KF.drew (KF.refl _)
  have hKF0 : KF w4 w4.drew := KF.drew (KF.refl _)
  refine wpAnyH_take (i := 0) (oi := { dst := Option.some 43, op := Go.Op.move (Go.Operand.tmp 10), type := 26, pos := "law.go:48", after := #[], guard := Option.none }) (v := ?_) rfl (by kernel_rfl) (by kernel_rfl) (by kernel_rfl) (fun _ _ _ h => h) (Or.inl ⟨by rfl, ?_⟩) (by assumption) ?_
  rotate_left
  · intro w hSw; (try dsimp only at hSw); go_simp; (try with_reducible rfl)
  simp only [Act.put, List.setIfInBounds_toArray, List.set_cons_zero, List.set_cons_succ]
  refine wpAnyH_take (i := 2) (oi := { dst := Option.some 45, op := Go.Op.move (Go.Operand.tmp 11), type := 3, pos := "law.go:48", after := #[], guard := Option.none }) (v := ?_) rfl (by kernel_rfl) (by kernel_rfl) (by kernel_rfl) (fun _ _ _ h => h) (Or.inl ⟨by rfl, ?_⟩) (by assumption) ?_
  rotate_left
  · intro w hSw; (try dsimp only at hSw); go_simp; (try with_reducible rfl)
  simp only [Act.put, List.setIfInBounds_toArray, List.set_cons_zero, List.set_cons_succ]
  refine wpAnyH_ready (rs := [1]) (by kernel_rfl) (by simp) ?_
  refine AllReadyH.cons (o := { dst := Option.some 44, op := Go.Op.call { callee := Go.Callee.value (Go.Operand.func 21), args := #[Go.Operand.tmp 43], argTypes := #[26] }, type := 3, pos := "law.go:48", after := #[{ on := 0, ground := Go.Ground.data }], guard := Option.none }) rfl (fun K hK => ?_) AllReadyH.nil
  go_simp
  refine (Num_c _ v1 1 (E1_5.out.step (Mv.of_below hKF0)).now (T_5.out.step (Mv.of_below hKF0)).now).mono ?_
  rintro e w5 ⟨rfl, hb⟩
  have hKF1 : KF w4 w5 := KF.step hKF0 hb
  clear hb
  dsimp only
  refine hK.out _ _ hKF1 (fun hHeld1 => ?_)
  clear hK K
  try simp only [Act.put, List.setIfInBounds_toArray, List.set_cons_zero, List.set_cons_succ]
  refine wpAnyH_take (i := 3) (oi := { dst := Option.some 46, op := Go.Op.binOp Go.BinOp.neq 3 (Go.Operand.tmp 44) (Go.Operand.tmp 45) 3, type := 4, pos := "law.go:48", after := #[{ on := 1, ground := Go.Ground.data }, { on := 2, ground := Go.Ground.data }], guard := Option.none }) (v := ?_) rfl (by kernel_rfl) (by kernel_rfl) (by kernel_rfl) (fun _ _ _ h => h) (Or.inl ⟨by rfl, ?_⟩) (by assumption) ?_
  rotate_left
  · intro w hSw; (try dsimp only at hSw); go_simp; (try with_reducible rfl)
  simp only [Act.put, List.setIfInBounds_toArray, List.set_cons_zero, List.set_cons_succ]
  refine wpAnyH_take (i := 4) (oi := { dst := Option.some 47, op := Go.Op.move (Go.Operand.tmp 46), type := 4, pos := "law.go:48", after := #[{ on := 3, ground := Go.Ground.data }, { on := 1, ground := Go.Ground.chain }], guard := Option.none }) (v := ?_) rfl (by kernel_rfl) (by kernel_rfl) (by kernel_rfl) (fun _ _ _ h => h) (Or.inl ⟨by rfl, ?_⟩) (by assumption) ?_
  rotate_left
  · intro w hSw; (try dsimp only at hSw); go_simp; (try with_reducible rfl)
  simp only [Act.put, List.setIfInBounds_toArray, List.set_cons_zero, List.set_cons_succ]
  refine wpAnyH_take (i := 5) (oi := { dst := Option.some 48, op := Go.Op.move (Go.Operand.tmp 11), type := 3, pos := "law.go:48", after := #[{ on := 4, ground := Go.Ground.guard }], guard := Option.some (4, Bool.false) }) (v := ?_) rfl (by kernel_rfl) (by kernel_rfl) (by kernel_rfl) (fun _ _ _ h => h) (Or.inl ⟨by rfl, ?_⟩) (by assumption) ?_
  rotate_left
  · intro w hSw; (try dsimp only at hSw); go_simp; (try with_reducible rfl)
  simp only [Act.put, List.setIfInBounds_toArray, List.set_cons_zero, List.set_cons_succ]
  refine wpAnyH_take (i := 6) (oi := { dst := Option.some 49, op := Go.Op.binOp Go.BinOp.eql 3 (Go.Operand.tmp 48) (Go.Operand.const (Go.Value.int Go.IntKind.i64 0)) 3, type := 4, pos := "law.go:48", after := #[{ on := 5, ground := Go.Ground.data }, { on := 4, ground := Go.Ground.guard }], guard := Option.some (4, Bool.false) }) (v := ?_) rfl (by kernel_rfl) (by kernel_rfl) (by kernel_rfl) (fun _ _ _ h => h) (Or.inl ⟨by rfl, ?_⟩) (by assumption) ?_
  rotate_left
  · intro w hSw; (try dsimp only at hSw); go_simp; (try with_reducible rfl)
  simp only [Act.put, List.setIfInBounds_toArray, List.set_cons_zero, List.set_cons_succ]
  refine wpAnyH_take (i := 7) (oi := { dst := Option.some 50, op := Go.Op.move (Go.Operand.tmp 49), type := 4, pos := "law.go:48", after := #[{ on := 6, ground := Go.Ground.data }, { on := 4, ground := Go.Ground.chain }, { on := 4, ground := Go.Ground.guard }], guard := Option.some (4, Bool.false) }) (v := ?_) rfl (by kernel_rfl) (by kernel_rfl) (by kernel_rfl) (fun _ _ _ h => h) (Or.inl ⟨by rfl, ?_⟩) (by assumption) ?_
  rotate_left
  · intro w hSw; (try dsimp only at hSw); go_simp; (try with_reducible rfl)
  simp only [Act.put, List.setIfInBounds_toArray, List.set_cons_zero, List.set_cons_succ]
  refine wpAnyH_take (i := 8) (oi := { dst := Option.some 51, op := Go.Op.load 36 (Go.Operand.tmp 9), type := 36, pos := "law.go:48", after := #[{ on := 7, ground := Go.Ground.guard }], guard := Option.some (7, Bool.true) }) (v := undef) rfl (by kernel_rfl) (by kernel_rfl) (by kernel_rfl) (fun _ _ _ h => h) (Or.inr ⟨by rfl, rfl⟩) (by assumption) ?_
  simp only [Act.put, List.setIfInBounds_toArray, List.set_cons_zero, List.set_cons_succ]
  refine wpAnyH_take (i := 9) (oi := { dst := Option.some 52, op := Go.Op.move (Go.Operand.tmp 0), type := 3, pos := "law.go:48", after := #[{ on := 7, ground := Go.Ground.guard }], guard := Option.some (7, Bool.true) }) (v := undef) rfl (by kernel_rfl) (by kernel_rfl) (by kernel_rfl) (fun _ _ _ h => h) (Or.inr ⟨by rfl, rfl⟩) (by assumption) ?_
  simp only [Act.put, List.setIfInBounds_toArray, List.set_cons_zero, List.set_cons_succ]
  refine wpAnyH_take (i := 10) (oi := { dst := Option.some 53, op := Go.Op.move (Go.Operand.tmp 1), type := 9, pos := "law.go:48", after := #[{ on := 7, ground := Go.Ground.guard }], guard := Option.some (7, Bool.true) }) (v := undef) rfl (by kernel_rfl) (by kernel_rfl) (by kernel_rfl) (fun _ _ _ h => h) (Or.inr ⟨by rfl, rfl⟩) (by assumption) ?_
  simp only [Act.put, List.setIfInBounds_toArray, List.set_cons_zero, List.set_cons_succ]
  refine wpAnyH_take (i := 11) (oi := { dst := Option.some 54, op := Go.Op.call { callee := Go.Callee.value (Go.Operand.func 35), args := #[Go.Operand.tmp 52, Go.Operand.tmp 53], argTypes := #[3, 9] }, type := 35, pos := "law.go:48", after := #[{ on := 9, ground := Go.Ground.data }, { on := 10, ground := Go.Ground.data }, { on := 7, ground := Go.Ground.chain }, { on := 7, ground := Go.Ground.guard }], guard := Option.some (7, Bool.true) }) (v := undef) rfl (by kernel_rfl) (by kernel_rfl) (by kernel_rfl) (fun _ _ _ h => h) (Or.inr ⟨by rfl, rfl⟩) (by assumption) ?_
  simp only [Act.put, List.setIfInBounds_toArray, List.set_cons_zero, List.set_cons_succ]
  refine wpAnyH_take (i := 12) (oi := { dst := Option.some 55, op := Go.Op.binOp Go.BinOp.neq 36 (Go.Operand.tmp 51) (Go.Operand.tmp 54) 36, type := 4, pos := "law.go:48", after := #[{ on := 8, ground := Go.Ground.data }, { on := 11, ground := Go.Ground.data }, { on := 7, ground := Go.Ground.guard }], guard := Option.some (7, Bool.true) }) (v := undef) rfl (by kernel_rfl) (by kernel_rfl) (by kernel_rfl) (fun _ _ _ h => h) (Or.inr ⟨by rfl, rfl⟩) (by assumption) ?_
  simp only [Act.put, List.setIfInBounds_toArray, List.set_cons_zero, List.set_cons_succ]
  refine wpAnyH_take (i := 13) (oi := { dst := Option.some 56, op := Go.Op.pick (Go.Operand.tmp 50) (Go.Operand.tmp 55) (Go.Operand.const (Go.Value.bool Bool.false)), type := 4, pos := "law.go:48", after := #[{ on := 7, ground := Go.Ground.data }, { on := 12, ground := Go.Ground.data }, { on := 4, ground := Go.Ground.guard }], guard := Option.some (4, Bool.false) }) (v := ?_) rfl (by kernel_rfl) (by kernel_rfl) (by kernel_rfl) (fun _ _ _ h => h) (Or.inl ⟨by rfl, ?_⟩) (by assumption) ?_
  rotate_left
  · intro w hSw; (try dsimp only at hSw); go_simp; (try with_reducible rfl)
  simp only [Act.put, List.setIfInBounds_toArray, List.set_cons_zero, List.set_cons_succ]
  refine wpAnyH_take (i := 14) (oi := { dst := Option.some 57, op := Go.Op.pick (Go.Operand.tmp 47) (Go.Operand.const (Go.Value.bool Bool.true)) (Go.Operand.tmp 56), type := 4, pos := "law.go:48", after := #[{ on := 4, ground := Go.Ground.data }, { on := 13, ground := Go.Ground.data }], guard := Option.none }) (v := ?_) rfl (by kernel_rfl) (by kernel_rfl) (by kernel_rfl) (fun _ _ _ h => h) (Or.inl ⟨by rfl, ?_⟩) (by assumption) ?_
  rotate_left
  · intro w hSw; (try dsimp only at hSw); go_simp; (try with_reducible rfl)
  simp only [Act.put, List.setIfInBounds_toArray, List.set_cons_zero, List.set_cons_succ]
  refine wpAnyH_take (i := 15) (oi := { dst := Option.some 58, op := Go.Op.move (Go.Operand.tmp 57), type := 4, pos := "law.go:48", after := #[{ on := 14, ground := Go.Ground.data }, { on := 11, ground := Go.Ground.chain }], guard := Option.none }) (v := ?_) rfl (by kernel_rfl) (by kernel_rfl) (by kernel_rfl) (fun _ _ _ h => h) (Or.inl ⟨by rfl, ?_⟩) (by assumption) ?_
  rotate_left
  · intro w hSw; (try dsimp only at hSw); go_simp; (try with_reducible rfl)
  simp only [Act.put, List.setIfInBounds_toArray, List.set_cons_zero, List.set_cons_succ]
  refine wpAnyH_take (i := 16) (oi := { dst := Option.some 59, op := Go.Op.move (Go.Operand.tmp 11), type := 3, pos := "law.go:48", after := #[{ on := 15, ground := Go.Ground.guard }], guard := Option.some (15, Bool.false) }) (v := ?_) rfl (by kernel_rfl) (by kernel_rfl) (by kernel_rfl) (fun _ _ _ h => h) (Or.inl ⟨by rfl, ?_⟩) (by assumption) ?_
  rotate_left
  · intro w hSw; (try dsimp only at hSw); go_simp; (try with_reducible rfl)
  simp only [Act.put, List.setIfInBounds_toArray, List.set_cons_zero, List.set_cons_succ]
  refine wpAnyH_take (i := 17) (oi := { dst := Option.some 60, op := Go.Op.binOp Go.BinOp.neq 3 (Go.Operand.tmp 59) (Go.Operand.const (Go.Value.int Go.IntKind.i64 0)) 3, type := 4, pos := "law.go:48", after := #[{ on := 16, ground := Go.Ground.data }, { on := 15, ground := Go.Ground.guard }], guard := Option.some (15, Bool.false) }) (v := ?_) rfl (by kernel_rfl) (by kernel_rfl) (by kernel_rfl) (fun _ _ _ h => h) (Or.inl ⟨by rfl, ?_⟩) (by assumption) ?_
  rotate_left
  · intro w hSw; (try dsimp only at hSw); go_simp; (try with_reducible rfl)
  simp only [Act.put, List.setIfInBounds_toArray, List.set_cons_zero, List.set_cons_succ]
  refine wpAnyH_take (i := 18) (oi := { dst := Option.some 61, op := Go.Op.move (Go.Operand.tmp 60), type := 4, pos := "law.go:48", after := #[{ on := 17, ground := Go.Ground.data }, { on := 15, ground := Go.Ground.chain }, { on := 15, ground := Go.Ground.guard }], guard := Option.some (15, Bool.false) }) (v := ?_) rfl (by kernel_rfl) (by kernel_rfl) (by kernel_rfl) (fun _ _ _ h => h) (Or.inl ⟨by rfl, ?_⟩) (by assumption) ?_
  rotate_left
  · intro w hSw; (try dsimp only at hSw); go_simp; (try with_reducible rfl)
  simp only [Act.put, List.setIfInBounds_toArray, List.set_cons_zero, List.set_cons_succ]
  refine wpAnyH_take (i := 19) (oi := { dst := Option.some 62, op := Go.Op.load 36 (Go.Operand.tmp 9), type := 36, pos := "law.go:48", after := #[{ on := 18, ground := Go.Ground.guard }], guard := Option.some (18, Bool.true) }) rfl (by kernel_rfl) (by kernel_rfl) (by kernel_rfl) (fun _ _ _ h => h) (yieldsIf_load_mid (by rfl) 36 _ rfl BY 0 rfl (pv L) _ (fun W hW => (Y_6.out.step (Mv.of_below hW)).now.r) Tryd.underlying36 rfl (size_of HLL.out)) (by assumption) ?_
  simp only [Act.put, List.setIfInBounds_toArray, List.set_cons_zero, List.set_cons_succ]
  refine wpAnyH_take (i := 20) (oi := { dst := Option.some 63, op := Go.Op.build 36 #[], type := 36, pos := "law.go:48", after := #[{ on := 18, ground := Go.Ground.guard }], guard := Option.some (18, Bool.true) }) (v := ?_) rfl (by kernel_rfl) (by kernel_rfl) (by kernel_rfl) (fun _ _ _ h => h) (Or.inl ⟨by rfl, ?_⟩) (by assumption) ?_
  rotate_left
  · intro w hSw; (try dsimp only at hSw); go_simp; (try with_reducible rfl)
  simp only [Act.put, List.setIfInBounds_toArray, List.set_cons_zero, List.set_cons_succ]
  refine wpAnyH_take (i := 21) (oi := { dst := Option.some 64, op := Go.Op.binOp Go.BinOp.neq 36 (Go.Operand.tmp 62) (Go.Operand.tmp 63) 36, type := 4, pos := "law.go:48", after := #[{ on := 19, ground := Go.Ground.data }, { on := 20, ground := Go.Ground.data }, { on := 18, ground := Go.Ground.guard }], guard := Option.some (18, Bool.true) }) rfl (by kernel_rfl) (by kernel_rfl) (by kernel_rfl) (fun _ _ _ h => h) (yif_neq (by rfl) _ _ rfl L zp rfl rfl HLL.out zp_length false (by rw [HLZ.out]; simp)) (by assumption) ?_
  simp only [Act.put, List.setIfInBounds_toArray, List.set_cons_zero, List.set_cons_succ]
  refine wpAnyH_take (i := 22) (oi := { dst := Option.some 65, op := Go.Op.pick (Go.Operand.tmp 61) (Go.Operand.tmp 64) (Go.Operand.const (Go.Value.bool Bool.false)), type := 4, pos := "law.go:48", after := #[{ on := 18, ground := Go.Ground.data }, { on := 21, ground := Go.Ground.data }, { on := 15, ground := Go.Ground.guard }], guard := Option.some (15, Bool.false) }) (v := ?_) rfl (by kernel_rfl) (by kernel_rfl) (by kernel_rfl) (fun _ _ _ h => h) (Or.inl ⟨by rfl, ?_⟩) (by assumption) ?_
  rotate_left
  · intro w hSw; (try dsimp only at hSw); go_simp; (try with_reducible rfl)
  simp only [Act.put, List.setIfInBounds_toArray, List.set_cons_zero, List.set_cons_succ]
  refine wpAnyH_take (i := 23) (oi := { dst := Option.some 66, op := Go.Op.pick (Go.Operand.tmp 58) (Go.Operand.const (Go.Value.bool Bool.true)) (Go.Operand.tmp 65), type := 4, pos := "law.go:48", after := #[{ on := 15, ground := Go.Ground.data }, { on := 22, ground := Go.Ground.data }], guard := Option.none }) (v := ?_) rfl (by kernel_rfl) (by kernel_rfl) (by kernel_rfl) (fun _ _ _ h => h) (Or.inl ⟨by rfl, ?_⟩) (by assumption) ?_
  rotate_left
  · intro w hSw; (try dsimp only at hSw); go_simp; (try with_reducible rfl)
  simp only [Act.put, List.setIfInBounds_toArray, List.set_cons_zero, List.set_cons_succ]
  refine wpAnyH_done (by kernel_rfl) ?_ _
  have hbm : Below w4.heap.size w4 w5 := hKF1
  have hm : Mv (fun k => No k ∨ k = BX) (fun k => No k ∨ k = BX) w4 w5 := Mv.of_below hbm
  have T_7 := Lib.hid (T_5.out.step hm)
  clear T_5
  have E1_7 := Lib.hid (E1_5.out.step hm)
  clear E1_5
  have Y_7 := Lib.hid (Y_6.out.step hm)
  clear Y_6
  have OX_7 := Lib.hid (OX_5.out.under hbm OX_5.out.lt)
  clear OX_5
  have HM_7 := Lib.hid (HM_5.out.trans hm)
  clear HM_5
  have WI_7 := Lib.hid (WI_5.out.mono hm.size)
  clear WI_5
  clear hm
  clear hbm hKF0 hKF1
  clear Y_7
  clear E1_7
  have cv := conv_part OX_7.out 4 124 124 (by omega)
  rw [List.take_of_length_le (by rw [List.length_drop, HP.out]; omega)] at cv
  have HU := Lib.hid (fun w => refsum_any (strP (p.drop 4)) (by rw [strP_size, List.length_drop, HP.out]; omega) w)
  rw [byl_strP] at HU
  have hsl := sumL_lt (p.drop 4)
  have HF4 := Lib.hid (sum_fits (p.drop 4))
  have hz4 := sum_size (p.drop 4)
  have hl4 := sum_four (p.drop 4)
  obtain ⟨sm, hsm⟩ : ∃ q, q = sumL (p.drop 4) := ⟨_, rfl⟩
  rw [← hsm] at HU hsl HF4 hz4 hl4
  clear hsm
  have ew : IntKind.i64.wrap (sm : Int) = (sm : Int) := by simp [IntKind.wrap, IntKind.bits, IntKind.signed]; omega
  obtain ⟨s4, hs4⟩ : ∃ q, q = putB 4 (sm : Int) := ⟨_, rfl⟩
  rw [← hs4] at hz4 hl4
  obtain ⟨l, hl⟩ : ∃ q, q = s4.data.toList := ⟨_, rfl⟩
  rw [← hl] at hl4
  have HL4 := Lib.hid hl4
  have HSL : Hid (s4 = strP l) := Lib.hid (by rw [hl]; exact (strP_data s4).symm)
  have HS4 := Lib.hid hs4
  clear hl4 hl hs4
  go_wp2_with fail
  refine (HU.out _).mono ?_
  rintro e w6 ⟨rfl, hb⟩
  have hbm : Below w5.heap.size w5 w6 := hb
  clear hb
  have hm : Mv (fun k => No k ∨ k = BX) (fun k => No k ∨ k = BX) w5 w6 := Mv.of_below hbm
  have T_8 := Lib.hid (T_7.out.step hm)
  clear T_7
  have OX_8 := Lib.hid (OX_7.out.under hbm OX_7.out.lt)
  clear OX_7
  have HM_8 := Lib.hid (HM_7.out.trans hm)
  clear HM_7
  have WI_8 := Lib.hid (WI_7.out.mono hm.size)
  clear WI_7
  clear hm
  clear hbm
  clear cv
  go_wp2_with fail
  refine (rput_any (sm : Int) _ (by omega) HF4.out).mono ?_
  rintro e w7 ⟨rfl, hb⟩
  have hbm : Below w6.heap.size w6 w7 := hb
  clear hb
  have hm : Mv (fun k => No k ∨ k = BX) (fun k => No k ∨ k = BX) w6 w7 := Mv.of_below hbm
  have T_9 := Lib.hid (T_8.out.step hm)
  clear T_8
  have OX_9 := Lib.hid (OX_8.out.under hbm OX_8.out.lt)
  clear OX_8
  have HM_9 := Lib.hid (HM_8.out.trans hm)
  clear HM_8
  have WI_9 := Lib.hid (WI_8.out.mono hm.size)
  clear WI_8
  clear hm
  clear hbm
  rw [← HS4.out]
  clear HS4 hsl HF4 HU ew
  go_wp2_with fail
  go_loopg [13] 4 (fun gg s13 wr => ∃ i : Nat, i ≤ 4 ∧ 4 - i ≤ gg ∧ s13 = .int .i64 i ∧ Hid (Mv (fun k => No k ∨ k = BX) (fun k => No k ∨ k = BX) w7 wr ∧ PgAt wr BX (lay4 l p i)))
  case atStart => exact ⟨0, by omega, by omega, rfl, Lib.hid ⟨Mv.refl _ _, by rw [lay4_zero]; exact OX_9.out⟩⟩
  case round =>
    obtain ⟨i, hi, hg, rfl, HI⟩ := hrel
    by_cases hlt : i < 4
    · have hlz : (i : Int) < 4 := by omega
      obtain ⟨x, hx⟩ : ∃ x, l[i]? = some x := ⟨_, List.getElem?_eq_getElem (by rw [HL4.out]; omega)⟩
      obtain ⟨y, hy⟩ : ∃ y, (lay4 l p i)[i]? = some y := ⟨_, List.getElem?_eq_getElem (by rw [lay4_length l p HL4.out HP.out i (by omega)]; omega)⟩
      have cx := HI.out.2.byte i y hy
      have fx := HI.out.2.free i (by omega)
      have hb0 := byte_of l i x hx
      rw [← HSL.out] at hb0
      obtain ⟨hxs, hxe⟩ := hb0
      have HX := Lib.hid hx
      clear hx hy
      go_wp2_with fail
      have hpp := HI.out.2.put i x (by omega)
      rw [lay4_step l p HL4.out HP.out i hlt x HX.out] at hpp
      have hmm := HI.out.1.trans (Mv.set (S := (fun k => No k ∨ k = BX)) wr BX i (.int .u8 (x.toNat : Int)) (.inr rfl))
      have HN := Lib.hid (And.intro hmm hpp)
      clear hmm hpp hxe
      go_roundg (4 - (i + 1))
      case measure => omega
      case rel => exact ⟨i + 1, by omega, by omega, by go_num, HN⟩
    · have hlz : ¬ (i : Int) < 4 := by omega
      obtain rfl : i = 4 := by omega
      have hm := HI.out.1
      have hpx := HI.out.2
      have hql := lay4_length l p HL4.out HP.out 4 (by omega)
      obtain ⟨q, hq⟩ : ∃ q, q = lay4 l p 4 := ⟨_, rfl⟩
      rw [← hq] at hpx hql
      have HQ := Lib.hid hql
      clear hq hql HI
      have T_10 := Lib.hid (T_9.out.step hm)
      clear T_9
      have HM_10 := Lib.hid (HM_9.out.trans hm)
      clear HM_9
      have WI_10 := Lib.hid (WI_9.out.mono hm.size)
      clear WI_9
      clear hm
      clear OX_9
      have OX_10 := Lib.hid hpx
      clear hpx
      have HA := Lib.hid (fun w => read_fr q HQ.out w)
      have HC := Lib.hid (fun w => rread5 q HQ.out w)
      obtain ⟨qa, hqa⟩ : ∃ z, z = rdK q := ⟨_, rfl⟩
      rw [← hqa] at HA HC
      clear hqa
      obtain ⟨qs, hqs⟩ : ∃ z, z = rdD q := ⟨_, rfl⟩
      rw [← hqs] at HA HC
      clear hqs
      obtain ⟨qc, hqc⟩ : ∃ z, z = rdC q := ⟨_, rfl⟩
      rw [← hqc] at HA HC
      clear hqc
      go_wp2_with (first | ((with_reducible refine at_ld 35 (.tmp 6) ?_); refine ld_pr rfl _ rfl BX (0) rfl q ?_ ?_ ?_; exact HQ.out; exact OX_10.out.r))
      refine (HA.out _).mono ?_
      rintro e w8 ⟨v5, rfl, he, hb⟩
      have hbm : Below wr.heap.size wr w8 := hb
      clear hb
      have hm : Mv (fun k => No k ∨ k = BX) (fun k => No k ∨ k = BX) wr w8 := Mv.of_below hbm
      have hst := Stays.err he WI_10.out
      clear he
      have T_11 := Lib.hid (T_10.out.step hm)
      clear T_10
      have OX_11 := Lib.hid (OX_10.out.under hbm OX_10.out.lt)
      clear OX_10
      have HM_11 := Lib.hid (HM_10.out.trans hm)
      clear HM_10
      have WI_11 := Lib.hid (WI_10.out.mono hm.size)
      clear WI_10
      clear hm
      clear hbm
      have E5_12 := Lib.hid (hst)
      clear hst
      go_wp2_with (first | ((with_reducible refine at_ld 35 (.tmp 6) ?_); refine ld_pr rfl _ rfl BX (0) rfl q ?_ ?_ ?_; exact HQ.out; exact OX_11.out.r))
      refine (HC.out _).mono ?_
      rintro e w9 ⟨rfl, hb⟩
      have hbm : Below w8.heap.size w8 w9 := hb
      clear hb
      have hm : Mv (fun k => No k ∨ k = BX) (fun k => No k ∨ k = BX) w8 w9 := Mv.of_below hbm
      have T_13 := Lib.hid (T_11.out.step hm)
      clear T_11
      have E5_13 := Lib.hid (E5_12.out.step hm)
      clear E5_12
      have OX_13 := Lib.hid (OX_11.out.under hbm OX_11.out.lt)
      clear OX_11
      have HM_13 := Lib.hid (HM_11.out.trans hm)
      clear HM_11
      have WI_13 := Lib.hid (WI_11.out.mono hm.size)
      clear WI_11
      clear hm
      clear hbm
      go_wp2_with fail
      refine (Num_c _ v5 qc E5_13.out.now T_13.out.now).mono ?_
      rintro e w10 ⟨rfl, hb⟩
      have hbm : Below w9.heap.size w9 w10 := hb
      clear hb
      have hm : Mv (fun k => No k ∨ k = BX) (fun k => No k ∨ k = BX) w9 w10 := Mv.of_below hbm
      have T_14 := Lib.hid (T_13.out.step hm)
      clear T_13
      have E5_14 := Lib.hid (E5_13.out.step hm)
      clear E5_13
      have OX_14 := Lib.hid (OX_13.out.under hbm OX_13.out.lt)
      clear OX_13
      have HM_14 := Lib.hid (HM_13.out.trans hm)
      clear HM_13
      have WI_14 := Lib.hid (WI_13.out.mono hm.size)
      clear WI_13
      clear hm
      clear hbm
      go_wp2_with fail
      go_ret
      exact ⟨rfl, HM_14.out.below⟩
set_option maxHeartbeats 8000000 in
set_option maxRecDepth 100000 in
theorem plays_20 (k : Int) (d : ByteArray) (p : Pg) (hp : p.length = 128) (h0 : d.size ≤ 500) (g0 : ¬ k < 1) (g1 : ¬ 255 < k) (h : 120 < d.size) (w : World) (tied : Tied w) : Calls Tryd.prog 5 #[.int .i64 k, .string d, .agg (pv p).toArray, .bool false] w fun e w' => e = .returned (.bool true) ∧ Below w.heap.size w w' := by
  have hd : decide (500 < (d.size : Int)) = false := by simp; omega
  have e0 : decide (k < 1) = false := by simp; omega
  have e1 : decide (255 < k) = false := by simp; omega
  have e2 : decide (120 < (d.size : Int)) = true := by simp; omega
  have hfc : frC k d = 8 := by unfold frC; rw [if_neg (by omega), if_pos h]
  have HLY := Lib.hid (fun w => lay_m k d w)
  rw [hfc] at HLY
  have hlp : layP k d = zp := by unfold layP; rw [if_neg (by rw [hfc]; decide)]
  have hll := zp_length
  rw [hlp] at HLY
  obtain ⟨L, hL⟩ : ∃ q, q = zp := ⟨_, rfl⟩
  rw [← hL] at HLY hll
  have HLZ := Lib.hid hL
  clear hlp hL
  have HLL := Lib.hid hll
  have HP := Lib.hid hp
  clear hp hfc h0 hll g0 g1 h
  have hbz := build_zp
  have HM0 := Lib.hid (Mv.refl No w)
  have T0 := Lib.hid (Stays.tied tied)
  have WI0 := Lib.hid (Wi.no w)
  clear tied
  go_enter Tryd.func5, Tryd.ntmps5
  go_upto_region 1 with fail
  obtain ⟨w1, hw1⟩ : ∃ q, q = w.alloc (.cells (pv (p)).toArray 35) := ⟨_, rfl⟩
  try rw [← hw1]
  have hbm : Below w.heap.size w w1 := by rw [hw1]; exact (Below.refl _ _).alloc (Nat.le_refl _) _
  have hm := Mv.own (S := No) hw1
  have hwi := Wi.own WI0.out hw1
  have hpx : PgAt w1 w.heap.size (p) := by rw [hw1]; exact PgAt.new _ _ _ HP.out
  obtain ⟨BX, hBX⟩ : ∃ q, q = w.heap.size := ⟨_, rfl⟩
  rw [← hBX] at hm hwi hpx
  try rw [← hBX]
  have T_1 := Lib.hid (T0.out.step hm)
  clear T0
  have HM_1 := Lib.hid (HM0.out.trans hm)
  clear HM0
  have WI_1 := Lib.hid (hwi)
  clear WI0
  clear hm
  clear hbm hw1 hBX hwi
  have OX_1 := Lib.hid hpx
  clear hpx
  go_wp2_with fail
  refine (awake5 _ T_1.out.now).mono ?_
  rintro e w2 ⟨rfl, hb⟩
  have hbm : Below w1.heap.size w1 w2 := hb
  clear hb
  have hm : Mv (fun k => No k ∨ k = BX) (fun k => No k ∨ k = BX) w1 w2 := Mv.of_below hbm
  have T_2 := Lib.hid (T_1.out.step hm)
  clear T_1
  have OX_2 := Lib.hid (OX_1.out.under hbm OX_1.out.lt)
  clear OX_1
  have HM_2 := Lib.hid (HM_1.out.trans hm)
  clear HM_1
  have WI_2 := Lib.hid (WI_1.out.mono hm.size)
  clear WI_1
  clear hm
  clear hbm
  go_wp2_with fail
  refine (HLY.out _).mono ?_
  rintro e w3 ⟨v1, rfl, he, hb⟩
  have hbm : Below w2.heap.size w2 w3 := hb
  clear hb
  have hm : Mv (fun k => No k ∨ k = BX) (fun k => No k ∨ k = BX) w2 w3 := Mv.of_below hbm
  have hst := Stays.err he WI_2.out
  clear he
  have T_3 := Lib.hid (T_2.out.step hm)
  clear T_2
  have OX_3 := Lib.hid (OX_2.out.under hbm OX_2.out.lt)
  clear OX_2
  have HM_3 := Lib.hid (HM_2.out.trans hm)
  clear HM_2
  have WI_3 := Lib.hid (WI_2.out.mono hm.size)
  clear WI_2
  clear hm
  clear hbm
  have E1_4 := Lib.hid (hst)
  clear hst
  go_wp2_with (first | ((with_reducible refine at_al 36 ?_); refine al_pg rfl rfl ?_) | ((with_reducible refine at_st 36 (.tmp 9) (.tmp 32) ?_); refine st_new rfl _ _ rfl _ _ _ rfl rfl L ?_ rfl ?_ ?_; exact HLL.out; exact zsz))
  obtain ⟨w4, hw4⟩ : ∃ q, q = w3.alloc (.cells (pv (L)).toArray 36) := ⟨_, rfl⟩
  try rw [← hw4]
  have hbm : Below w3.heap.size w3 w4 := by rw [hw4]; exact (Below.refl _ _).alloc (Nat.le_refl _) _
  have hm : Mv (fun k => No k ∨ k = BX) (fun k => No k ∨ k = BX) w3 w4 := Mv.of_below hbm
  have hbx : Stays (fun k => No k ∨ k = BX) w4 (fun W => PgAt W w3.heap.size (L)) := Stays.box HLL.out WI_3.out hw4
  obtain ⟨BY, hBY⟩ : ∃ q, q = w3.heap.size := ⟨_, rfl⟩
  try rw [← hBY]
  rw [← hBY] at hbx
  have T_5 := Lib.hid (T_3.out.step hm)
  clear T_3
  have E1_5 := Lib.hid (E1_4.out.step hm)
  clear E1_4
  have OX_5 := Lib.hid (OX_3.out.under hbm OX_3.out.lt)
  clear OX_3
  have HM_5 := Lib.hid (HM_3.out.trans hm)
  clear HM_3
  have WI_5 := Lib.hid (WI_3.out.mono hm.size)
  clear WI_3
  clear hm
  clear hbm hw4 hBY
  have Y_6 := Lib.hid (hbx)
  clear hbx
  go_upto_region 9 with fail
  refine wp_region_held_drew (S := fun w2 => KF w4 w2) (by kernel_rfl) ?_ (fun hHeld => ?_)
  · exact KF.drew (KF.refl _)
  have hKF0 : KF w4 w4.drew := KF.drew (KF.refl _)
  refine wpAnyH_take (i := 0) (oi := { dst := Option.some 43, op := Go.Op.move (Go.Operand.tmp 10), type := 26, pos := "law.go:48", after := #[], guard := Option.none }) (v := ?_) rfl (by kernel_rfl) (by kernel_rfl) (by kernel_rfl) (fun _ _ _ h => h) (Or.inl ⟨by rfl, ?_⟩) (by assumption) ?_
  rotate_left
  · intro w hSw; (try dsimp only at hSw); go_simp; (try with_reducible rfl)
  simp only [Act.put, List.setIfInBounds_toArray, List.set_cons_zero, List.set_cons_succ]
  refine wpAnyH_take (i := 2) (oi := { dst := Option.some 45, op := Go.Op.move (Go.Operand.tmp 11), type := 3, pos := "law.go:48", after := #[], guard := Option.none }) (v := ?_) rfl (by kernel_rfl) (by kernel_rfl) (by kernel_rfl) (fun _ _ _ h => h) (Or.inl ⟨by rfl, ?_⟩) (by assumption) ?_
  rotate_left
  · intro w hSw; (try dsimp only at hSw); go_simp; (try with_reducible rfl)
  simp only [Act.put, List.setIfInBounds_toArray, List.set_cons_zero, List.set_cons_succ]
  refine wpAnyH_ready (rs := [1]) (by kernel_rfl) (by simp) ?_
  refine AllReadyH.cons (o := { dst := Option.some 44, op := Go.Op.call { callee := Go.Callee.value (Go.Operand.func 21), args := #[Go.Operand.tmp 43], argTypes := #[26] }, type := 3, pos := "law.go:48", after := #[{ on := 0, ground := Go.Ground.data }], guard := Option.none }) rfl (fun K hK => ?_) AllReadyH.nil
  go_simp
  refine (Num_c _ v1 8 (E1_5.out.step (Mv.of_below hKF0)).now (T_5.out.step (Mv.of_below hKF0)).now).mono ?_
  rintro e w5 ⟨rfl, hb⟩
  have hKF1 : KF w4 w5 := KF.step hKF0 hb
  clear hb
  dsimp only
  refine hK.out _ _ hKF1 (fun hHeld1 => ?_)
  clear hK K
  try simp only [Act.put, List.setIfInBounds_toArray, List.set_cons_zero, List.set_cons_succ]
  refine wpAnyH_take (i := 3) (oi := { dst := Option.some 46, op := Go.Op.binOp Go.BinOp.neq 3 (Go.Operand.tmp 44) (Go.Operand.tmp 45) 3, type := 4, pos := "law.go:48", after := #[{ on := 1, ground := Go.Ground.data }, { on := 2, ground := Go.Ground.data }], guard := Option.none }) (v := ?_) rfl (by kernel_rfl) (by kernel_rfl) (by kernel_rfl) (fun _ _ _ h => h) (Or.inl ⟨by rfl, ?_⟩) (by assumption) ?_
  rotate_left
  · intro w hSw; (try dsimp only at hSw); go_simp; (try with_reducible rfl)
  simp only [Act.put, List.setIfInBounds_toArray, List.set_cons_zero, List.set_cons_succ]
  refine wpAnyH_take (i := 4) (oi := { dst := Option.some 47, op := Go.Op.move (Go.Operand.tmp 46), type := 4, pos := "law.go:48", after := #[{ on := 3, ground := Go.Ground.data }, { on := 1, ground := Go.Ground.chain }], guard := Option.none }) (v := ?_) rfl (by kernel_rfl) (by kernel_rfl) (by kernel_rfl) (fun _ _ _ h => h) (Or.inl ⟨by rfl, ?_⟩) (by assumption) ?_
  rotate_left
  · intro w hSw; (try dsimp only at hSw); go_simp; (try with_reducible rfl)
  simp only [Act.put, List.setIfInBounds_toArray, List.set_cons_zero, List.set_cons_succ]
  refine wpAnyH_take (i := 5) (oi := { dst := Option.some 48, op := Go.Op.move (Go.Operand.tmp 11), type := 3, pos := "law.go:48", after := #[{ on := 4, ground := Go.Ground.guard }], guard := Option.some (4, Bool.false) }) (v := ?_) rfl (by kernel_rfl) (by kernel_rfl) (by kernel_rfl) (fun _ _ _ h => h) (Or.inl ⟨by rfl, ?_⟩) (by assumption) ?_
  rotate_left
  · intro w hSw; (try dsimp only at hSw); go_simp; (try with_reducible rfl)
  simp only [Act.put, List.setIfInBounds_toArray, List.set_cons_zero, List.set_cons_succ]
  refine wpAnyH_take (i := 6) (oi := { dst := Option.some 49, op := Go.Op.binOp Go.BinOp.eql 3 (Go.Operand.tmp 48) (Go.Operand.const (Go.Value.int Go.IntKind.i64 0)) 3, type := 4, pos := "law.go:48", after := #[{ on := 5, ground := Go.Ground.data }, { on := 4, ground := Go.Ground.guard }], guard := Option.some (4, Bool.false) }) (v := ?_) rfl (by kernel_rfl) (by kernel_rfl) (by kernel_rfl) (fun _ _ _ h => h) (Or.inl ⟨by rfl, ?_⟩) (by assumption) ?_
  rotate_left
  · intro w hSw; (try dsimp only at hSw); go_simp; (try with_reducible rfl)
  simp only [Act.put, List.setIfInBounds_toArray, List.set_cons_zero, List.set_cons_succ]
  refine wpAnyH_take (i := 7) (oi := { dst := Option.some 50, op := Go.Op.move (Go.Operand.tmp 49), type := 4, pos := "law.go:48", after := #[{ on := 6, ground := Go.Ground.data }, { on := 4, ground := Go.Ground.chain }, { on := 4, ground := Go.Ground.guard }], guard := Option.some (4, Bool.false) }) (v := ?_) rfl (by kernel_rfl) (by kernel_rfl) (by kernel_rfl) (fun _ _ _ h => h) (Or.inl ⟨by rfl, ?_⟩) (by assumption) ?_
  rotate_left
  · intro w hSw; (try dsimp only at hSw); go_simp; (try with_reducible rfl)
  simp only [Act.put, List.setIfInBounds_toArray, List.set_cons_zero, List.set_cons_succ]
  refine wpAnyH_take (i := 8) (oi := { dst := Option.some 51, op := Go.Op.load 36 (Go.Operand.tmp 9), type := 36, pos := "law.go:48", after := #[{ on := 7, ground := Go.Ground.guard }], guard := Option.some (7, Bool.true) }) (v := undef) rfl (by kernel_rfl) (by kernel_rfl) (by kernel_rfl) (fun _ _ _ h => h) (Or.inr ⟨by rfl, rfl⟩) (by assumption) ?_
  simp only [Act.put, List.setIfInBounds_toArray, List.set_cons_zero, List.set_cons_succ]
  refine wpAnyH_take (i := 9) (oi := { dst := Option.some 52, op := Go.Op.move (Go.Operand.tmp 0), type := 3, pos := "law.go:48", after := #[{ on := 7, ground := Go.Ground.guard }], guard := Option.some (7, Bool.true) }) (v := undef) rfl (by kernel_rfl) (by kernel_rfl) (by kernel_rfl) (fun _ _ _ h => h) (Or.inr ⟨by rfl, rfl⟩) (by assumption) ?_
  simp only [Act.put, List.setIfInBounds_toArray, List.set_cons_zero, List.set_cons_succ]
  refine wpAnyH_take (i := 10) (oi := { dst := Option.some 53, op := Go.Op.move (Go.Operand.tmp 1), type := 9, pos := "law.go:48", after := #[{ on := 7, ground := Go.Ground.guard }], guard := Option.some (7, Bool.true) }) (v := undef) rfl (by kernel_rfl) (by kernel_rfl) (by kernel_rfl) (fun _ _ _ h => h) (Or.inr ⟨by rfl, rfl⟩) (by assumption) ?_
  simp only [Act.put, List.setIfInBounds_toArray, List.set_cons_zero, List.set_cons_succ]
  refine wpAnyH_take (i := 11) (oi := { dst := Option.some 54, op := Go.Op.call { callee := Go.Callee.value (Go.Operand.func 35), args := #[Go.Operand.tmp 52, Go.Operand.tmp 53], argTypes := #[3, 9] }, type := 35, pos := "law.go:48", after := #[{ on := 9, ground := Go.Ground.data }, { on := 10, ground := Go.Ground.data }, { on := 7, ground := Go.Ground.chain }, { on := 7, ground := Go.Ground.guard }], guard := Option.some (7, Bool.true) }) (v := undef) rfl (by kernel_rfl) (by kernel_rfl) (by kernel_rfl) (fun _ _ _ h => h) (Or.inr ⟨by rfl, rfl⟩) (by assumption) ?_
  simp only [Act.put, List.setIfInBounds_toArray, List.set_cons_zero, List.set_cons_succ]
  refine wpAnyH_take (i := 12) (oi := { dst := Option.some 55, op := Go.Op.binOp Go.BinOp.neq 36 (Go.Operand.tmp 51) (Go.Operand.tmp 54) 36, type := 4, pos := "law.go:48", after := #[{ on := 8, ground := Go.Ground.data }, { on := 11, ground := Go.Ground.data }, { on := 7, ground := Go.Ground.guard }], guard := Option.some (7, Bool.true) }) (v := undef) rfl (by kernel_rfl) (by kernel_rfl) (by kernel_rfl) (fun _ _ _ h => h) (Or.inr ⟨by rfl, rfl⟩) (by assumption) ?_
  simp only [Act.put, List.setIfInBounds_toArray, List.set_cons_zero, List.set_cons_succ]
  refine wpAnyH_take (i := 13) (oi := { dst := Option.some 56, op := Go.Op.pick (Go.Operand.tmp 50) (Go.Operand.tmp 55) (Go.Operand.const (Go.Value.bool Bool.false)), type := 4, pos := "law.go:48", after := #[{ on := 7, ground := Go.Ground.data }, { on := 12, ground := Go.Ground.data }, { on := 4, ground := Go.Ground.guard }], guard := Option.some (4, Bool.false) }) (v := ?_) rfl (by kernel_rfl) (by kernel_rfl) (by kernel_rfl) (fun _ _ _ h => h) (Or.inl ⟨by rfl, ?_⟩) (by assumption) ?_
  rotate_left
  · intro w hSw; (try dsimp only at hSw); go_simp; (try with_reducible rfl)
  simp only [Act.put, List.setIfInBounds_toArray, List.set_cons_zero, List.set_cons_succ]
  refine wpAnyH_take (i := 14) (oi := { dst := Option.some 57, op := Go.Op.pick (Go.Operand.tmp 47) (Go.Operand.const (Go.Value.bool Bool.true)) (Go.Operand.tmp 56), type := 4, pos := "law.go:48", after := #[{ on := 4, ground := Go.Ground.data }, { on := 13, ground := Go.Ground.data }], guard := Option.none }) (v := ?_) rfl (by kernel_rfl) (by kernel_rfl) (by kernel_rfl) (fun _ _ _ h => h) (Or.inl ⟨by rfl, ?_⟩) (by assumption) ?_
  rotate_left
  · intro w hSw; (try dsimp only at hSw); go_simp; (try with_reducible rfl)
  simp only [Act.put, List.setIfInBounds_toArray, List.set_cons_zero, List.set_cons_succ]
  refine wpAnyH_take (i := 15) (oi := { dst := Option.some 58, op := Go.Op.move (Go.Operand.tmp 57), type := 4, pos := "law.go:48", after := #[{ on := 14, ground := Go.Ground.data }, { on := 11, ground := Go.Ground.chain }], guard := Option.none }) (v := ?_) rfl (by kernel_rfl) (by kernel_rfl) (by kernel_rfl) (fun _ _ _ h => h) (Or.inl ⟨by rfl, ?_⟩) (by assumption) ?_
  rotate_left
  · intro w hSw; (try dsimp only at hSw); go_simp; (try with_reducible rfl)
  simp only [Act.put, List.setIfInBounds_toArray, List.set_cons_zero, List.set_cons_succ]
  refine wpAnyH_take (i := 16) (oi := { dst := Option.some 59, op := Go.Op.move (Go.Operand.tmp 11), type := 3, pos := "law.go:48", after := #[{ on := 15, ground := Go.Ground.guard }], guard := Option.some (15, Bool.false) }) (v := ?_) rfl (by kernel_rfl) (by kernel_rfl) (by kernel_rfl) (fun _ _ _ h => h) (Or.inl ⟨by rfl, ?_⟩) (by assumption) ?_
  rotate_left
  · intro w hSw; (try dsimp only at hSw); go_simp; (try with_reducible rfl)
  simp only [Act.put, List.setIfInBounds_toArray, List.set_cons_zero, List.set_cons_succ]
  refine wpAnyH_take (i := 17) (oi := { dst := Option.some 60, op := Go.Op.binOp Go.BinOp.neq 3 (Go.Operand.tmp 59) (Go.Operand.const (Go.Value.int Go.IntKind.i64 0)) 3, type := 4, pos := "law.go:48", after := #[{ on := 16, ground := Go.Ground.data }, { on := 15, ground := Go.Ground.guard }], guard := Option.some (15, Bool.false) }) (v := ?_) rfl (by kernel_rfl) (by kernel_rfl) (by kernel_rfl) (fun _ _ _ h => h) (Or.inl ⟨by rfl, ?_⟩) (by assumption) ?_
  rotate_left
  · intro w hSw; (try dsimp only at hSw); go_simp; (try with_reducible rfl)
  simp only [Act.put, List.setIfInBounds_toArray, List.set_cons_zero, List.set_cons_succ]
  refine wpAnyH_take (i := 18) (oi := { dst := Option.some 61, op := Go.Op.move (Go.Operand.tmp 60), type := 4, pos := "law.go:48", after := #[{ on := 17, ground := Go.Ground.data }, { on := 15, ground := Go.Ground.chain }, { on := 15, ground := Go.Ground.guard }], guard := Option.some (15, Bool.false) }) (v := ?_) rfl (by kernel_rfl) (by kernel_rfl) (by kernel_rfl) (fun _ _ _ h => h) (Or.inl ⟨by rfl, ?_⟩) (by assumption) ?_
  rotate_left
  · intro w hSw; (try dsimp only at hSw); go_simp; (try with_reducible rfl)
  simp only [Act.put, List.setIfInBounds_toArray, List.set_cons_zero, List.set_cons_succ]
  refine wpAnyH_take (i := 19) (oi := { dst := Option.some 62, op := Go.Op.load 36 (Go.Operand.tmp 9), type := 36, pos := "law.go:48", after := #[{ on := 18, ground := Go.Ground.guard }], guard := Option.some (18, Bool.true) }) rfl (by kernel_rfl) (by kernel_rfl) (by kernel_rfl) (fun _ _ _ h => h) (yieldsIf_load_mid (by rfl) 36 _ rfl BY 0 rfl (pv L) _ (fun W hW => (Y_6.out.step (Mv.of_below hW)).now.r) Tryd.underlying36 rfl (size_of HLL.out)) (by assumption) ?_
  simp only [Act.put, List.setIfInBounds_toArray, List.set_cons_zero, List.set_cons_succ]
  refine wpAnyH_take (i := 20) (oi := { dst := Option.some 63, op := Go.Op.build 36 #[], type := 36, pos := "law.go:48", after := #[{ on := 18, ground := Go.Ground.guard }], guard := Option.some (18, Bool.true) }) (v := ?_) rfl (by kernel_rfl) (by kernel_rfl) (by kernel_rfl) (fun _ _ _ h => h) (Or.inl ⟨by rfl, ?_⟩) (by assumption) ?_
  rotate_left
  · intro w hSw; (try dsimp only at hSw); go_simp; (try with_reducible rfl)
  simp only [Act.put, List.setIfInBounds_toArray, List.set_cons_zero, List.set_cons_succ]
  refine wpAnyH_take (i := 21) (oi := { dst := Option.some 64, op := Go.Op.binOp Go.BinOp.neq 36 (Go.Operand.tmp 62) (Go.Operand.tmp 63) 36, type := 4, pos := "law.go:48", after := #[{ on := 19, ground := Go.Ground.data }, { on := 20, ground := Go.Ground.data }, { on := 18, ground := Go.Ground.guard }], guard := Option.some (18, Bool.true) }) rfl (by kernel_rfl) (by kernel_rfl) (by kernel_rfl) (fun _ _ _ h => h) (yif_neq (by rfl) _ _ rfl L zp rfl rfl HLL.out zp_length false (by rw [HLZ.out]; simp)) (by assumption) ?_
  simp only [Act.put, List.setIfInBounds_toArray, List.set_cons_zero, List.set_cons_succ]
  refine wpAnyH_take (i := 22) (oi := { dst := Option.some 65, op := Go.Op.pick (Go.Operand.tmp 61) (Go.Operand.tmp 64) (Go.Operand.const (Go.Value.bool Bool.false)), type := 4, pos := "law.go:48", after := #[{ on := 18, ground := Go.Ground.data }, { on := 21, ground := Go.Ground.data }, { on := 15, ground := Go.Ground.guard }], guard := Option.some (15, Bool.false) }) (v := ?_) rfl (by kernel_rfl) (by kernel_rfl) (by kernel_rfl) (fun _ _ _ h => h) (Or.inl ⟨by rfl, ?_⟩) (by assumption) ?_
  rotate_left
  · intro w hSw; (try dsimp only at hSw); go_simp; (try with_reducible rfl)
  simp only [Act.put, List.setIfInBounds_toArray, List.set_cons_zero, List.set_cons_succ]
  refine wpAnyH_take (i := 23) (oi := { dst := Option.some 66, op := Go.Op.pick (Go.Operand.tmp 58) (Go.Operand.const (Go.Value.bool Bool.true)) (Go.Operand.tmp 65), type := 4, pos := "law.go:48", after := #[{ on := 15, ground := Go.Ground.data }, { on := 22, ground := Go.Ground.data }], guard := Option.none }) (v := ?_) rfl (by kernel_rfl) (by kernel_rfl) (by kernel_rfl) (fun _ _ _ h => h) (Or.inl ⟨by rfl, ?_⟩) (by assumption) ?_
  rotate_left
  · intro w hSw; (try dsimp only at hSw); go_simp; (try with_reducible rfl)
  simp only [Act.put, List.setIfInBounds_toArray, List.set_cons_zero, List.set_cons_succ]
  refine wpAnyH_done (by kernel_rfl) ?_ _
  have hbm : Below w4.heap.size w4 w5 := hKF1
  have hm : Mv (fun k => No k ∨ k = BX) (fun k => No k ∨ k = BX) w4 w5 := Mv.of_below hbm
  have T_7 := Lib.hid (T_5.out.step hm)
  clear T_5
  have E1_7 := Lib.hid (E1_5.out.step hm)
  clear E1_5
  have Y_7 := Lib.hid (Y_6.out.step hm)
  clear Y_6
  have OX_7 := Lib.hid (OX_5.out.under hbm OX_5.out.lt)
  clear OX_5
  have HM_7 := Lib.hid (HM_5.out.trans hm)
  clear HM_5
  have WI_7 := Lib.hid (WI_5.out.mono hm.size)
  clear WI_5
  clear hm
  clear hbm hKF0 hKF1
  clear Y_7
  clear E1_7
  have HA := Lib.hid (fun w => read_fr p HP.out w)
  have HC := Lib.hid (fun w => rread5 p HP.out w)
  obtain ⟨qa, hqa⟩ : ∃ z, z = rdK p := ⟨_, rfl⟩
  rw [← hqa] at HA HC
  clear hqa
  obtain ⟨qs, hqs⟩ : ∃ z, z = rdD p := ⟨_, rfl⟩
  rw [← hqs] at HA HC
  clear hqs
  obtain ⟨qc, hqc⟩ : ∃ z, z = rdC p := ⟨_, rfl⟩
  rw [← hqc] at HA HC
  clear hqc
  go_wp2_with (first | ((with_reducible refine at_ld 35 (.tmp 6) ?_); refine ld_pr rfl _ rfl BX (0) rfl p ?_ ?_ ?_; exact HP.out; exact OX_7.out.r))
  refine (HA.out _).mono ?_
  rintro e w6 ⟨v5, rfl, he, hb⟩
  have hbm : Below w5.heap.size w5 w6 := hb
  clear hb
  have hm : Mv (fun k => No k ∨ k = BX) (fun k => No k ∨ k = BX) w5 w6 := Mv.of_below hbm
  have hst := Stays.err he WI_7.out
  clear he
  have T_8 := Lib.hid (T_7.out.step hm)
  clear T_7
  have OX_8 := Lib.hid (OX_7.out.under hbm OX_7.out.lt)
  clear OX_7
  have HM_8 := Lib.hid (HM_7.out.trans hm)
  clear HM_7
  have WI_8 := Lib.hid (WI_7.out.mono hm.size)
  clear WI_7
  clear hm
  clear hbm
  have E5_9 := Lib.hid (hst)
  clear hst
  go_wp2_with (first | ((with_reducible refine at_ld 35 (.tmp 6) ?_); refine ld_pr rfl _ rfl BX (0) rfl p ?_ ?_ ?_; exact HP.out; exact OX_8.out.r))
  refine (HC.out _).mono ?_
  rintro e w7 ⟨rfl, hb⟩
  have hbm : Below w6.heap.size w6 w7 := hb
  clear hb
  have hm : Mv (fun k => No k ∨ k = BX) (fun k => No k ∨ k = BX) w6 w7 := Mv.of_below hbm
  have T_10 := Lib.hid (T_8.out.step hm)
  clear T_8
  have E5_10 := Lib.hid (E5_9.out.step hm)
  clear E5_9
  have OX_10 := Lib.hid (OX_8.out.under hbm OX_8.out.lt)
  clear OX_8
  have HM_10 := Lib.hid (HM_8.out.trans hm)
  clear HM_8
  have WI_10 := Lib.hid (WI_8.out.mono hm.size)
  clear WI_8
  clear hm
  clear hbm
  go_wp2_with fail
  refine (Num_c _ v5 qc E5_10.out.now T_10.out.now).mono ?_
  rintro e w8 ⟨rfl, hb⟩
  have hbm : Below w7.heap.size w7 w8 := hb
  clear hb
  have hm : Mv (fun k => No k ∨ k = BX) (fun k => No k ∨ k = BX) w7 w8 := Mv.of_below hbm
  have T_11 := Lib.hid (T_10.out.step hm)
  clear T_10
  have E5_11 := Lib.hid (E5_10.out.step hm)
  clear E5_10
  have OX_11 := Lib.hid (OX_10.out.under hbm OX_10.out.lt)
  clear OX_10
  have HM_11 := Lib.hid (HM_10.out.trans hm)
  clear HM_10
  have WI_11 := Lib.hid (WI_10.out.mono hm.size)
  clear WI_10
  clear hm
  clear hbm
  go_wp2_with fail
  go_ret
  exact ⟨rfl, HM_11.out.below⟩
set_option maxHeartbeats 8000000 in
set_option maxRecDepth 100000 in
theorem plays_21 (k : Int) (d : ByteArray) (p : Pg) (hp : p.length = 128) (h0 : d.size ≤ 500) (g0 : ¬ k < 1) (g1 : ¬ 255 < k) (h : 120 < d.size) (w : World) (tied : Tied w) : Calls Tryd.prog 5 #[.int .i64 k, .string d, .agg (pv p).toArray, .bool true] w fun e w' => e = .returned (.bool true) ∧ Below w.heap.size w w' := by
  have hd : decide (500 < (d.size : Int)) = false := by simp; omega
  have e0 : decide (k < 1) = false := by simp; omega
  have e1 : decide (255 < k) = false := by simp; omega
  have e2 : decide (120 < (d.size : Int)) = true := by simp; omega
  have hfc : frC k d = 8 := by unfold frC; rw [if_neg (by omega), if_pos h]
  have HLY := Lib.hid (fun w => lay_m k d w)
  rw [hfc] at HLY
  have hlp : layP k d = zp := by unfold layP; rw [if_neg (by rw [hfc]; decide)]
  have hll := zp_length
  rw [hlp] at HLY
  obtain ⟨L, hL⟩ : ∃ q, q = zp := ⟨_, rfl⟩
  rw [← hL] at HLY hll
  have HLZ := Lib.hid hL
  clear hlp hL
  have HLL := Lib.hid hll
  have HP := Lib.hid hp
  clear hp hfc h0 hll g0 g1 h
  have hbz := build_zp
  have HM0 := Lib.hid (Mv.refl No w)
  have T0 := Lib.hid (Stays.tied tied)
  have WI0 := Lib.hid (Wi.no w)
  clear tied
  go_enter Tryd.func5, Tryd.ntmps5
  go_upto_region 1 with fail
  obtain ⟨w1, hw1⟩ : ∃ q, q = w.alloc (.cells (pv (p)).toArray 35) := ⟨_, rfl⟩
  try rw [← hw1]
  have hbm : Below w.heap.size w w1 := by rw [hw1]; exact (Below.refl _ _).alloc (Nat.le_refl _) _
  have hm := Mv.own (S := No) hw1
  have hwi := Wi.own WI0.out hw1
  have hpx : PgAt w1 w.heap.size (p) := by rw [hw1]; exact PgAt.new _ _ _ HP.out
  obtain ⟨BX, hBX⟩ : ∃ q, q = w.heap.size := ⟨_, rfl⟩
  rw [← hBX] at hm hwi hpx
  try rw [← hBX]
  have T_1 := Lib.hid (T0.out.step hm)
  clear T0
  have HM_1 := Lib.hid (HM0.out.trans hm)
  clear HM0
  have WI_1 := Lib.hid (hwi)
  clear WI0
  clear hm
  clear hbm hw1 hBX hwi
  have OX_1 := Lib.hid hpx
  clear hpx
  go_wp2_with fail
  refine (awake5 _ T_1.out.now).mono ?_
  rintro e w2 ⟨rfl, hb⟩
  have hbm : Below w1.heap.size w1 w2 := hb
  clear hb
  have hm : Mv (fun k => No k ∨ k = BX) (fun k => No k ∨ k = BX) w1 w2 := Mv.of_below hbm
  have T_2 := Lib.hid (T_1.out.step hm)
  clear T_1
  have OX_2 := Lib.hid (OX_1.out.under hbm OX_1.out.lt)
  clear OX_1
  have HM_2 := Lib.hid (HM_1.out.trans hm)
  clear HM_1
  have WI_2 := Lib.hid (WI_1.out.mono hm.size)
  clear WI_1
  clear hm
  clear hbm
  go_wp2_with fail
  refine (HLY.out _).mono ?_
  rintro e w3 ⟨v1, rfl, he, hb⟩
  have hbm : Below w2.heap.size w2 w3 := hb
  clear hb
  have hm : Mv (fun k => No k ∨ k = BX) (fun k => No k ∨ k = BX) w2 w3 := Mv.of_below hbm
  have hst := Stays.err he WI_2.out
  clear he
  have T_3 := Lib.hid (T_2.out.step hm)
  clear T_2
  have OX_3 := Lib.hid (OX_2.out.under hbm OX_2.out.lt)
  clear OX_2
  have HM_3 := Lib.hid (HM_2.out.trans hm)
  clear HM_2
  have WI_3 := Lib.hid (WI_2.out.mono hm.size)
  clear WI_2
  clear hm
  clear hbm
  have E1_4 := Lib.hid (hst)
  clear hst
  go_wp2_with (first | ((with_reducible refine at_al 36 ?_); refine al_pg rfl rfl ?_) | ((with_reducible refine at_st 36 (.tmp 9) (.tmp 32) ?_); refine st_new rfl _ _ rfl _ _ _ rfl rfl L ?_ rfl ?_ ?_; exact HLL.out; exact zsz))
  obtain ⟨w4, hw4⟩ : ∃ q, q = w3.alloc (.cells (pv (L)).toArray 36) := ⟨_, rfl⟩
  try rw [← hw4]
  have hbm : Below w3.heap.size w3 w4 := by rw [hw4]; exact (Below.refl _ _).alloc (Nat.le_refl _) _
  have hm : Mv (fun k => No k ∨ k = BX) (fun k => No k ∨ k = BX) w3 w4 := Mv.of_below hbm
  have hbx : Stays (fun k => No k ∨ k = BX) w4 (fun W => PgAt W w3.heap.size (L)) := Stays.box HLL.out WI_3.out hw4
  obtain ⟨BY, hBY⟩ : ∃ q, q = w3.heap.size := ⟨_, rfl⟩
  try rw [← hBY]
  rw [← hBY] at hbx
  have T_5 := Lib.hid (T_3.out.step hm)
  clear T_3
  have E1_5 := Lib.hid (E1_4.out.step hm)
  clear E1_4
  have OX_5 := Lib.hid (OX_3.out.under hbm OX_3.out.lt)
  clear OX_3
  have HM_5 := Lib.hid (HM_3.out.trans hm)
  clear HM_3
  have WI_5 := Lib.hid (WI_3.out.mono hm.size)
  clear WI_3
  clear hm
  clear hbm hw4 hBY
  have Y_6 := Lib.hid (hbx)
  clear hbx
  go_upto_region 9 with fail
  refine wp_region_held_drew (S := fun w2 => KF w4 w2) (by kernel_rfl) ?_ (fun hHeld => ?_)
  · exact KF.drew (KF.refl _)
  have hKF0 : KF w4 w4.drew := KF.drew (KF.refl _)
  refine wpAnyH_take (i := 0) (oi := { dst := Option.some 43, op := Go.Op.move (Go.Operand.tmp 10), type := 26, pos := "law.go:48", after := #[], guard := Option.none }) (v := ?_) rfl (by kernel_rfl) (by kernel_rfl) (by kernel_rfl) (fun _ _ _ h => h) (Or.inl ⟨by rfl, ?_⟩) (by assumption) ?_
  rotate_left
  · intro w hSw; (try dsimp only at hSw); go_simp; (try with_reducible rfl)
  simp only [Act.put, List.setIfInBounds_toArray, List.set_cons_zero, List.set_cons_succ]
  refine wpAnyH_take (i := 2) (oi := { dst := Option.some 45, op := Go.Op.move (Go.Operand.tmp 11), type := 3, pos := "law.go:48", after := #[], guard := Option.none }) (v := ?_) rfl (by kernel_rfl) (by kernel_rfl) (by kernel_rfl) (fun _ _ _ h => h) (Or.inl ⟨by rfl, ?_⟩) (by assumption) ?_
  rotate_left
  · intro w hSw; (try dsimp only at hSw); go_simp; (try with_reducible rfl)
  simp only [Act.put, List.setIfInBounds_toArray, List.set_cons_zero, List.set_cons_succ]
  refine wpAnyH_ready (rs := [1]) (by kernel_rfl) (by simp) ?_
  refine AllReadyH.cons (o := { dst := Option.some 44, op := Go.Op.call { callee := Go.Callee.value (Go.Operand.func 21), args := #[Go.Operand.tmp 43], argTypes := #[26] }, type := 3, pos := "law.go:48", after := #[{ on := 0, ground := Go.Ground.data }], guard := Option.none }) rfl (fun K hK => ?_) AllReadyH.nil
  go_simp
  refine (Num_c _ v1 8 (E1_5.out.step (Mv.of_below hKF0)).now (T_5.out.step (Mv.of_below hKF0)).now).mono ?_
  rintro e w5 ⟨rfl, hb⟩
  have hKF1 : KF w4 w5 := KF.step hKF0 hb
  clear hb
  dsimp only
  refine hK.out _ _ hKF1 (fun hHeld1 => ?_)
  clear hK K
  try simp only [Act.put, List.setIfInBounds_toArray, List.set_cons_zero, List.set_cons_succ]
  refine wpAnyH_take (i := 3) (oi := { dst := Option.some 46, op := Go.Op.binOp Go.BinOp.neq 3 (Go.Operand.tmp 44) (Go.Operand.tmp 45) 3, type := 4, pos := "law.go:48", after := #[{ on := 1, ground := Go.Ground.data }, { on := 2, ground := Go.Ground.data }], guard := Option.none }) (v := ?_) rfl (by kernel_rfl) (by kernel_rfl) (by kernel_rfl) (fun _ _ _ h => h) (Or.inl ⟨by rfl, ?_⟩) (by assumption) ?_
  rotate_left
  · intro w hSw; (try dsimp only at hSw); go_simp; (try with_reducible rfl)
  simp only [Act.put, List.setIfInBounds_toArray, List.set_cons_zero, List.set_cons_succ]
  refine wpAnyH_take (i := 4) (oi := { dst := Option.some 47, op := Go.Op.move (Go.Operand.tmp 46), type := 4, pos := "law.go:48", after := #[{ on := 3, ground := Go.Ground.data }, { on := 1, ground := Go.Ground.chain }], guard := Option.none }) (v := ?_) rfl (by kernel_rfl) (by kernel_rfl) (by kernel_rfl) (fun _ _ _ h => h) (Or.inl ⟨by rfl, ?_⟩) (by assumption) ?_
  rotate_left
  · intro w hSw; (try dsimp only at hSw); go_simp; (try with_reducible rfl)
  simp only [Act.put, List.setIfInBounds_toArray, List.set_cons_zero, List.set_cons_succ]
  refine wpAnyH_take (i := 5) (oi := { dst := Option.some 48, op := Go.Op.move (Go.Operand.tmp 11), type := 3, pos := "law.go:48", after := #[{ on := 4, ground := Go.Ground.guard }], guard := Option.some (4, Bool.false) }) (v := ?_) rfl (by kernel_rfl) (by kernel_rfl) (by kernel_rfl) (fun _ _ _ h => h) (Or.inl ⟨by rfl, ?_⟩) (by assumption) ?_
  rotate_left
  · intro w hSw; (try dsimp only at hSw); go_simp; (try with_reducible rfl)
  simp only [Act.put, List.setIfInBounds_toArray, List.set_cons_zero, List.set_cons_succ]
  refine wpAnyH_take (i := 6) (oi := { dst := Option.some 49, op := Go.Op.binOp Go.BinOp.eql 3 (Go.Operand.tmp 48) (Go.Operand.const (Go.Value.int Go.IntKind.i64 0)) 3, type := 4, pos := "law.go:48", after := #[{ on := 5, ground := Go.Ground.data }, { on := 4, ground := Go.Ground.guard }], guard := Option.some (4, Bool.false) }) (v := ?_) rfl (by kernel_rfl) (by kernel_rfl) (by kernel_rfl) (fun _ _ _ h => h) (Or.inl ⟨by rfl, ?_⟩) (by assumption) ?_
  rotate_left
  · intro w hSw; (try dsimp only at hSw); go_simp; (try with_reducible rfl)
  simp only [Act.put, List.setIfInBounds_toArray, List.set_cons_zero, List.set_cons_succ]
  refine wpAnyH_take (i := 7) (oi := { dst := Option.some 50, op := Go.Op.move (Go.Operand.tmp 49), type := 4, pos := "law.go:48", after := #[{ on := 6, ground := Go.Ground.data }, { on := 4, ground := Go.Ground.chain }, { on := 4, ground := Go.Ground.guard }], guard := Option.some (4, Bool.false) }) (v := ?_) rfl (by kernel_rfl) (by kernel_rfl) (by kernel_rfl) (fun _ _ _ h => h) (Or.inl ⟨by rfl, ?_⟩) (by assumption) ?_
  rotate_left
  · intro w hSw; (try dsimp only at hSw); go_simp; (try with_reducible rfl)
  simp only [Act.put, List.setIfInBounds_toArray, List.set_cons_zero, List.set_cons_succ]
  refine wpAnyH_take (i := 8) (oi := { dst := Option.some 51, op := Go.Op.load 36 (Go.Operand.tmp 9), type := 36, pos := "law.go:48", after := #[{ on := 7, ground := Go.Ground.guard }], guard := Option.some (7, Bool.true) }) (v := undef) rfl (by kernel_rfl) (by kernel_rfl) (by kernel_rfl) (fun _ _ _ h => h) (Or.inr ⟨by rfl, rfl⟩) (by assumption) ?_
  simp only [Act.put, List.setIfInBounds_toArray, List.set_cons_zero, List.set_cons_succ]
  refine wpAnyH_take (i := 9) (oi := { dst := Option.some 52, op := Go.Op.move (Go.Operand.tmp 0), type := 3, pos := "law.go:48", after := #[{ on := 7, ground := Go.Ground.guard }], guard := Option.some (7, Bool.true) }) (v := undef) rfl (by kernel_rfl) (by kernel_rfl) (by kernel_rfl) (fun _ _ _ h => h) (Or.inr ⟨by rfl, rfl⟩) (by assumption) ?_
  simp only [Act.put, List.setIfInBounds_toArray, List.set_cons_zero, List.set_cons_succ]
  refine wpAnyH_take (i := 10) (oi := { dst := Option.some 53, op := Go.Op.move (Go.Operand.tmp 1), type := 9, pos := "law.go:48", after := #[{ on := 7, ground := Go.Ground.guard }], guard := Option.some (7, Bool.true) }) (v := undef) rfl (by kernel_rfl) (by kernel_rfl) (by kernel_rfl) (fun _ _ _ h => h) (Or.inr ⟨by rfl, rfl⟩) (by assumption) ?_
  simp only [Act.put, List.setIfInBounds_toArray, List.set_cons_zero, List.set_cons_succ]
  refine wpAnyH_take (i := 11) (oi := { dst := Option.some 54, op := Go.Op.call { callee := Go.Callee.value (Go.Operand.func 35), args := #[Go.Operand.tmp 52, Go.Operand.tmp 53], argTypes := #[3, 9] }, type := 35, pos := "law.go:48", after := #[{ on := 9, ground := Go.Ground.data }, { on := 10, ground := Go.Ground.data }, { on := 7, ground := Go.Ground.chain }, { on := 7, ground := Go.Ground.guard }], guard := Option.some (7, Bool.true) }) (v := undef) rfl (by kernel_rfl) (by kernel_rfl) (by kernel_rfl) (fun _ _ _ h => h) (Or.inr ⟨by rfl, rfl⟩) (by assumption) ?_
  simp only [Act.put, List.setIfInBounds_toArray, List.set_cons_zero, List.set_cons_succ]
  refine wpAnyH_take (i := 12) (oi := { dst := Option.some 55, op := Go.Op.binOp Go.BinOp.neq 36 (Go.Operand.tmp 51) (Go.Operand.tmp 54) 36, type := 4, pos := "law.go:48", after := #[{ on := 8, ground := Go.Ground.data }, { on := 11, ground := Go.Ground.data }, { on := 7, ground := Go.Ground.guard }], guard := Option.some (7, Bool.true) }) (v := undef) rfl (by kernel_rfl) (by kernel_rfl) (by kernel_rfl) (fun _ _ _ h => h) (Or.inr ⟨by rfl, rfl⟩) (by assumption) ?_
  simp only [Act.put, List.setIfInBounds_toArray, List.set_cons_zero, List.set_cons_succ]
  refine wpAnyH_take (i := 13) (oi := { dst := Option.some 56, op := Go.Op.pick (Go.Operand.tmp 50) (Go.Operand.tmp 55) (Go.Operand.const (Go.Value.bool Bool.false)), type := 4, pos := "law.go:48", after := #[{ on := 7, ground := Go.Ground.data }, { on := 12, ground := Go.Ground.data }, { on := 4, ground := Go.Ground.guard }], guard := Option.some (4, Bool.false) }) (v := ?_) rfl (by kernel_rfl) (by kernel_rfl) (by kernel_rfl) (fun _ _ _ h => h) (Or.inl ⟨by rfl, ?_⟩) (by assumption) ?_
  rotate_left
  · intro w hSw; (try dsimp only at hSw); go_simp; (try with_reducible rfl)
  simp only [Act.put, List.setIfInBounds_toArray, List.set_cons_zero, List.set_cons_succ]
  refine wpAnyH_take (i := 14) (oi := { dst := Option.some 57, op := Go.Op.pick (Go.Operand.tmp 47) (Go.Operand.const (Go.Value.bool Bool.true)) (Go.Operand.tmp 56), type := 4, pos := "law.go:48", after := #[{ on := 4, ground := Go.Ground.data }, { on := 13, ground := Go.Ground.data }], guard := Option.none }) (v := ?_) rfl (by kernel_rfl) (by kernel_rfl) (by kernel_rfl) (fun _ _ _ h => h) (Or.inl ⟨by rfl, ?_⟩) (by assumption) ?_
  rotate_left
  · intro w hSw; (try dsimp only at hSw); go_simp; (try with_reducible rfl)
  simp only [Act.put, List.setIfInBounds_toArray, List.set_cons_zero, List.set_cons_succ]
  refine wpAnyH_take (i := 15) (oi := { dst := Option.some 58, op := Go.Op.move (Go.Operand.tmp 57), type := 4, pos := "law.go:48", after := #[{ on := 14, ground := Go.Ground.data }, { on := 11, ground := Go.Ground.chain }], guard := Option.none }) (v := ?_) rfl (by kernel_rfl) (by kernel_rfl) (by kernel_rfl) (fun _ _ _ h => h) (Or.inl ⟨by rfl, ?_⟩) (by assumption) ?_
  rotate_left
  · intro w hSw; (try dsimp only at hSw); go_simp; (try with_reducible rfl)
  simp only [Act.put, List.setIfInBounds_toArray, List.set_cons_zero, List.set_cons_succ]
  refine wpAnyH_take (i := 16) (oi := { dst := Option.some 59, op := Go.Op.move (Go.Operand.tmp 11), type := 3, pos := "law.go:48", after := #[{ on := 15, ground := Go.Ground.guard }], guard := Option.some (15, Bool.false) }) (v := ?_) rfl (by kernel_rfl) (by kernel_rfl) (by kernel_rfl) (fun _ _ _ h => h) (Or.inl ⟨by rfl, ?_⟩) (by assumption) ?_
  rotate_left
  · intro w hSw; (try dsimp only at hSw); go_simp; (try with_reducible rfl)
  simp only [Act.put, List.setIfInBounds_toArray, List.set_cons_zero, List.set_cons_succ]
  refine wpAnyH_take (i := 17) (oi := { dst := Option.some 60, op := Go.Op.binOp Go.BinOp.neq 3 (Go.Operand.tmp 59) (Go.Operand.const (Go.Value.int Go.IntKind.i64 0)) 3, type := 4, pos := "law.go:48", after := #[{ on := 16, ground := Go.Ground.data }, { on := 15, ground := Go.Ground.guard }], guard := Option.some (15, Bool.false) }) (v := ?_) rfl (by kernel_rfl) (by kernel_rfl) (by kernel_rfl) (fun _ _ _ h => h) (Or.inl ⟨by rfl, ?_⟩) (by assumption) ?_
  rotate_left
  · intro w hSw; (try dsimp only at hSw); go_simp; (try with_reducible rfl)
  simp only [Act.put, List.setIfInBounds_toArray, List.set_cons_zero, List.set_cons_succ]
  refine wpAnyH_take (i := 18) (oi := { dst := Option.some 61, op := Go.Op.move (Go.Operand.tmp 60), type := 4, pos := "law.go:48", after := #[{ on := 17, ground := Go.Ground.data }, { on := 15, ground := Go.Ground.chain }, { on := 15, ground := Go.Ground.guard }], guard := Option.some (15, Bool.false) }) (v := ?_) rfl (by kernel_rfl) (by kernel_rfl) (by kernel_rfl) (fun _ _ _ h => h) (Or.inl ⟨by rfl, ?_⟩) (by assumption) ?_
  rotate_left
  · intro w hSw; (try dsimp only at hSw); go_simp; (try with_reducible rfl)
  simp only [Act.put, List.setIfInBounds_toArray, List.set_cons_zero, List.set_cons_succ]
  refine wpAnyH_take (i := 19) (oi := { dst := Option.some 62, op := Go.Op.load 36 (Go.Operand.tmp 9), type := 36, pos := "law.go:48", after := #[{ on := 18, ground := Go.Ground.guard }], guard := Option.some (18, Bool.true) }) rfl (by kernel_rfl) (by kernel_rfl) (by kernel_rfl) (fun _ _ _ h => h) (yieldsIf_load_mid (by rfl) 36 _ rfl BY 0 rfl (pv L) _ (fun W hW => (Y_6.out.step (Mv.of_below hW)).now.r) Tryd.underlying36 rfl (size_of HLL.out)) (by assumption) ?_
  simp only [Act.put, List.setIfInBounds_toArray, List.set_cons_zero, List.set_cons_succ]
  refine wpAnyH_take (i := 20) (oi := { dst := Option.some 63, op := Go.Op.build 36 #[], type := 36, pos := "law.go:48", after := #[{ on := 18, ground := Go.Ground.guard }], guard := Option.some (18, Bool.true) }) (v := ?_) rfl (by kernel_rfl) (by kernel_rfl) (by kernel_rfl) (fun _ _ _ h => h) (Or.inl ⟨by rfl, ?_⟩) (by assumption) ?_
  rotate_left
  · intro w hSw; (try dsimp only at hSw); go_simp; (try with_reducible rfl)
  simp only [Act.put, List.setIfInBounds_toArray, List.set_cons_zero, List.set_cons_succ]
  refine wpAnyH_take (i := 21) (oi := { dst := Option.some 64, op := Go.Op.binOp Go.BinOp.neq 36 (Go.Operand.tmp 62) (Go.Operand.tmp 63) 36, type := 4, pos := "law.go:48", after := #[{ on := 19, ground := Go.Ground.data }, { on := 20, ground := Go.Ground.data }, { on := 18, ground := Go.Ground.guard }], guard := Option.some (18, Bool.true) }) rfl (by kernel_rfl) (by kernel_rfl) (by kernel_rfl) (fun _ _ _ h => h) (yif_neq (by rfl) _ _ rfl L zp rfl rfl HLL.out zp_length false (by rw [HLZ.out]; simp)) (by assumption) ?_
  simp only [Act.put, List.setIfInBounds_toArray, List.set_cons_zero, List.set_cons_succ]
  refine wpAnyH_take (i := 22) (oi := { dst := Option.some 65, op := Go.Op.pick (Go.Operand.tmp 61) (Go.Operand.tmp 64) (Go.Operand.const (Go.Value.bool Bool.false)), type := 4, pos := "law.go:48", after := #[{ on := 18, ground := Go.Ground.data }, { on := 21, ground := Go.Ground.data }, { on := 15, ground := Go.Ground.guard }], guard := Option.some (15, Bool.false) }) (v := ?_) rfl (by kernel_rfl) (by kernel_rfl) (by kernel_rfl) (fun _ _ _ h => h) (Or.inl ⟨by rfl, ?_⟩) (by assumption) ?_
  rotate_left
  · intro w hSw; (try dsimp only at hSw); go_simp; (try with_reducible rfl)
  simp only [Act.put, List.setIfInBounds_toArray, List.set_cons_zero, List.set_cons_succ]
  refine wpAnyH_take (i := 23) (oi := { dst := Option.some 66, op := Go.Op.pick (Go.Operand.tmp 58) (Go.Operand.const (Go.Value.bool Bool.true)) (Go.Operand.tmp 65), type := 4, pos := "law.go:48", after := #[{ on := 15, ground := Go.Ground.data }, { on := 22, ground := Go.Ground.data }], guard := Option.none }) (v := ?_) rfl (by kernel_rfl) (by kernel_rfl) (by kernel_rfl) (fun _ _ _ h => h) (Or.inl ⟨by rfl, ?_⟩) (by assumption) ?_
  rotate_left
  · intro w hSw; (try dsimp only at hSw); go_simp; (try with_reducible rfl)
  simp only [Act.put, List.setIfInBounds_toArray, List.set_cons_zero, List.set_cons_succ]
  refine wpAnyH_done (by kernel_rfl) ?_ _
  have hbm : Below w4.heap.size w4 w5 := hKF1
  have hm : Mv (fun k => No k ∨ k = BX) (fun k => No k ∨ k = BX) w4 w5 := Mv.of_below hbm
  have T_7 := Lib.hid (T_5.out.step hm)
  clear T_5
  have E1_7 := Lib.hid (E1_5.out.step hm)
  clear E1_5
  have Y_7 := Lib.hid (Y_6.out.step hm)
  clear Y_6
  have OX_7 := Lib.hid (OX_5.out.under hbm OX_5.out.lt)
  clear OX_5
  have HM_7 := Lib.hid (HM_5.out.trans hm)
  clear HM_5
  have WI_7 := Lib.hid (WI_5.out.mono hm.size)
  clear WI_5
  clear hm
  clear hbm hKF0 hKF1
  clear Y_7
  clear E1_7
  have cv := conv_part OX_7.out 4 124 124 (by omega)
  rw [List.take_of_length_le (by rw [List.length_drop, HP.out]; omega)] at cv
  have HU := Lib.hid (fun w => refsum_any (strP (p.drop 4)) (by rw [strP_size, List.length_drop, HP.out]; omega) w)
  rw [byl_strP] at HU
  have hsl := sumL_lt (p.drop 4)
  have HF4 := Lib.hid (sum_fits (p.drop 4))
  have hz4 := sum_size (p.drop 4)
  have hl4 := sum_four (p.drop 4)
  obtain ⟨sm, hsm⟩ : ∃ q, q = sumL (p.drop 4) := ⟨_, rfl⟩
  rw [← hsm] at HU hsl HF4 hz4 hl4
  clear hsm
  have ew : IntKind.i64.wrap (sm : Int) = (sm : Int) := by simp [IntKind.wrap, IntKind.bits, IntKind.signed]; omega
  obtain ⟨s4, hs4⟩ : ∃ q, q = putB 4 (sm : Int) := ⟨_, rfl⟩
  rw [← hs4] at hz4 hl4
  obtain ⟨l, hl⟩ : ∃ q, q = s4.data.toList := ⟨_, rfl⟩
  rw [← hl] at hl4
  have HL4 := Lib.hid hl4
  have HSL : Hid (s4 = strP l) := Lib.hid (by rw [hl]; exact (strP_data s4).symm)
  have HS4 := Lib.hid hs4
  clear hl4 hl hs4
  go_wp2_with fail
  refine (HU.out _).mono ?_
  rintro e w6 ⟨rfl, hb⟩
  have hbm : Below w5.heap.size w5 w6 := hb
  clear hb
  have hm : Mv (fun k => No k ∨ k = BX) (fun k => No k ∨ k = BX) w5 w6 := Mv.of_below hbm
  have T_8 := Lib.hid (T_7.out.step hm)
  clear T_7
  have OX_8 := Lib.hid (OX_7.out.under hbm OX_7.out.lt)
  clear OX_7
  have HM_8 := Lib.hid (HM_7.out.trans hm)
  clear HM_7
  have WI_8 := Lib.hid (WI_7.out.mono hm.size)
  clear WI_7
  clear hm
  clear hbm
  clear cv
  go_wp2_with fail
  refine (rput_any (sm : Int) _ (by omega) HF4.out).mono ?_
  rintro e w7 ⟨rfl, hb⟩
  have hbm : Below w6.heap.size w6 w7 := hb
  clear hb
  have hm : Mv (fun k => No k ∨ k = BX) (fun k => No k ∨ k = BX) w6 w7 := Mv.of_below hbm
  have T_9 := Lib.hid (T_8.out.step hm)
  clear T_8
  have OX_9 := Lib.hid (OX_8.out.under hbm OX_8.out.lt)
  clear OX_8
  have HM_9 := Lib.hid (HM_8.out.trans hm)
  clear HM_8
  have WI_9 := Lib.hid (WI_8.out.mono hm.size)
  clear WI_8
  clear hm
  clear hbm
  rw [← HS4.out]
  clear HS4 hsl HF4 HU ew
  go_wp2_with fail
  go_loopg [13] 4 (fun gg s13 wr => ∃ i : Nat, i ≤ 4 ∧ 4 - i ≤ gg ∧ s13 = .int .i64 i ∧ Hid (Mv (fun k => No k ∨ k = BX) (fun k => No k ∨ k = BX) w7 wr ∧ PgAt wr BX (lay4 l p i)))
  case atStart => exact ⟨0, by omega, by omega, rfl, Lib.hid ⟨Mv.refl _ _, by rw [lay4_zero]; exact OX_9.out⟩⟩
  case round =>
    obtain ⟨i, hi, hg, rfl, HI⟩ := hrel
    by_cases hlt : i < 4
    · have hlz : (i : Int) < 4 := by omega
      obtain ⟨x, hx⟩ : ∃ x, l[i]? = some x := ⟨_, List.getElem?_eq_getElem (by rw [HL4.out]; omega)⟩
      obtain ⟨y, hy⟩ : ∃ y, (lay4 l p i)[i]? = some y := ⟨_, List.getElem?_eq_getElem (by rw [lay4_length l p HL4.out HP.out i (by omega)]; omega)⟩
      have cx := HI.out.2.byte i y hy
      have fx := HI.out.2.free i (by omega)
      have hb0 := byte_of l i x hx
      rw [← HSL.out] at hb0
      obtain ⟨hxs, hxe⟩ := hb0
      have HX := Lib.hid hx
      clear hx hy
      go_wp2_with fail
      have hpp := HI.out.2.put i x (by omega)
      rw [lay4_step l p HL4.out HP.out i hlt x HX.out] at hpp
      have hmm := HI.out.1.trans (Mv.set (S := (fun k => No k ∨ k = BX)) wr BX i (.int .u8 (x.toNat : Int)) (.inr rfl))
      have HN := Lib.hid (And.intro hmm hpp)
      clear hmm hpp hxe
      go_roundg (4 - (i + 1))
      case measure => omega
      case rel => exact ⟨i + 1, by omega, by omega, by go_num, HN⟩
    · have hlz : ¬ (i : Int) < 4 := by omega
      obtain rfl : i = 4 := by omega
      have hm := HI.out.1
      have hpx := HI.out.2
      have hql := lay4_length l p HL4.out HP.out 4 (by omega)
      obtain ⟨q, hq⟩ : ∃ q, q = lay4 l p 4 := ⟨_, rfl⟩
      rw [← hq] at hpx hql
      have HQ := Lib.hid hql
      clear hq hql HI
      have T_10 := Lib.hid (T_9.out.step hm)
      clear T_9
      have HM_10 := Lib.hid (HM_9.out.trans hm)
      clear HM_9
      have WI_10 := Lib.hid (WI_9.out.mono hm.size)
      clear WI_9
      clear hm
      clear OX_9
      have OX_10 := Lib.hid hpx
      clear hpx
      have HA := Lib.hid (fun w => read_fr q HQ.out w)
      have HC := Lib.hid (fun w => rread5 q HQ.out w)
      obtain ⟨qa, hqa⟩ : ∃ z, z = rdK q := ⟨_, rfl⟩
      rw [← hqa] at HA HC
      clear hqa
      obtain ⟨qs, hqs⟩ : ∃ z, z = rdD q := ⟨_, rfl⟩
      rw [← hqs] at HA HC
      clear hqs
      obtain ⟨qc, hqc⟩ : ∃ z, z = rdC q := ⟨_, rfl⟩
      rw [← hqc] at HA HC
      clear hqc
      go_wp2_with (first | ((with_reducible refine at_ld 35 (.tmp 6) ?_); refine ld_pr rfl _ rfl BX (0) rfl q ?_ ?_ ?_; exact HQ.out; exact OX_10.out.r))
      refine (HA.out _).mono ?_
      rintro e w8 ⟨v5, rfl, he, hb⟩
      have hbm : Below wr.heap.size wr w8 := hb
      clear hb
      have hm : Mv (fun k => No k ∨ k = BX) (fun k => No k ∨ k = BX) wr w8 := Mv.of_below hbm
      have hst := Stays.err he WI_10.out
      clear he
      have T_11 := Lib.hid (T_10.out.step hm)
      clear T_10
      have OX_11 := Lib.hid (OX_10.out.under hbm OX_10.out.lt)
      clear OX_10
      have HM_11 := Lib.hid (HM_10.out.trans hm)
      clear HM_10
      have WI_11 := Lib.hid (WI_10.out.mono hm.size)
      clear WI_10
      clear hm
      clear hbm
      have E5_12 := Lib.hid (hst)
      clear hst
      go_wp2_with (first | ((with_reducible refine at_ld 35 (.tmp 6) ?_); refine ld_pr rfl _ rfl BX (0) rfl q ?_ ?_ ?_; exact HQ.out; exact OX_11.out.r))
      refine (HC.out _).mono ?_
      rintro e w9 ⟨rfl, hb⟩
      have hbm : Below w8.heap.size w8 w9 := hb
      clear hb
      have hm : Mv (fun k => No k ∨ k = BX) (fun k => No k ∨ k = BX) w8 w9 := Mv.of_below hbm
      have T_13 := Lib.hid (T_11.out.step hm)
      clear T_11
      have E5_13 := Lib.hid (E5_12.out.step hm)
      clear E5_12
      have OX_13 := Lib.hid (OX_11.out.under hbm OX_11.out.lt)
      clear OX_11
      have HM_13 := Lib.hid (HM_11.out.trans hm)
      clear HM_11
      have WI_13 := Lib.hid (WI_11.out.mono hm.size)
      clear WI_11
      clear hm
      clear hbm
      go_wp2_with fail
      refine (Num_c _ v5 qc E5_13.out.now T_13.out.now).mono ?_
      rintro e w10 ⟨rfl, hb⟩
      have hbm : Below w9.heap.size w9 w10 := hb
      clear hb
      have hm : Mv (fun k => No k ∨ k = BX) (fun k => No k ∨ k = BX) w9 w10 := Mv.of_below hbm
      have T_14 := Lib.hid (T_13.out.step hm)
      clear T_13
      have E5_14 := Lib.hid (E5_13.out.step hm)
      clear E5_13
      have OX_14 := Lib.hid (OX_13.out.under hbm OX_13.out.lt)
      clear OX_13
      have HM_14 := Lib.hid (HM_13.out.trans hm)
      clear HM_13
      have WI_14 := Lib.hid (WI_13.out.mono hm.size)
      clear WI_13
      clear hm
      clear hbm
      go_wp2_with fail
      go_ret
      exact ⟨rfl, HM_14.out.below⟩
set_option maxHeartbeats 8000000 in
set_option maxRecDepth 100000 in
theorem plays_30 (k : Int) (d : ByteArray) (p : Pg) (hp : p.length = 128) (h0 : d.size ≤ 500) (g0 : ¬ k < 1) (g1 : ¬ 255 < k) (g2 : ¬ 120 < d.size) (w : World) (tied : Tied w) : Calls Tryd.prog 5 #[.int .i64 k, .string d, .agg (pv p).toArray, .bool false] w fun e w' => e = .returned (.bool true) ∧ Below w.heap.size w w' := by
  have hd : decide (500 < (d.size : Int)) = false := by simp; omega
  have e0 : decide (k < 1) = false := by simp; omega
  have e1 : decide (255 < k) = false := by simp; omega
  have e2 : decide (120 < (d.size : Int)) = false := by simp; omega
  have hfc : frC k d = 0 := by unfold frC; rw [if_neg (by omega), if_neg (by omega)]
  have HLY := Lib.hid (fun w => lay_m k d w)
  rw [hfc] at HLY
  have HRL := Lib.hid (fun w => rlay5 k d hfc w)
  have hlp : layP k d = framP k d := by unfold layP; rw [if_pos hfc]
  have hll := layP_length k d
  rw [hlp] at HLY hll
  obtain ⟨L, hL⟩ : ∃ q, q = framP k d := ⟨_, rfl⟩
  rw [← hL] at HLY HRL hll
  clear hlp hL
  have HLL := Lib.hid hll
  have HP := Lib.hid hp
  clear hp hfc h0 hll g0 g1 g2
  have hbz := build_zp
  have HM0 := Lib.hid (Mv.refl No w)
  have T0 := Lib.hid (Stays.tied tied)
  have WI0 := Lib.hid (Wi.no w)
  clear tied
  go_enter Tryd.func5, Tryd.ntmps5
  go_upto_region 1 with fail
  obtain ⟨w1, hw1⟩ : ∃ q, q = w.alloc (.cells (pv (p)).toArray 35) := ⟨_, rfl⟩
  try rw [← hw1]
  have hbm : Below w.heap.size w w1 := by rw [hw1]; exact (Below.refl _ _).alloc (Nat.le_refl _) _
  have hm := Mv.own (S := No) hw1
  have hwi := Wi.own WI0.out hw1
  have hpx : PgAt w1 w.heap.size (p) := by rw [hw1]; exact PgAt.new _ _ _ HP.out
  obtain ⟨BX, hBX⟩ : ∃ q, q = w.heap.size := ⟨_, rfl⟩
  rw [← hBX] at hm hwi hpx
  try rw [← hBX]
  have T_1 := Lib.hid (T0.out.step hm)
  clear T0
  have HM_1 := Lib.hid (HM0.out.trans hm)
  clear HM0
  have WI_1 := Lib.hid (hwi)
  clear WI0
  clear hm
  clear hbm hw1 hBX hwi
  have OX_1 := Lib.hid hpx
  clear hpx
  go_wp2_with fail
  refine (awake5 _ T_1.out.now).mono ?_
  rintro e w2 ⟨rfl, hb⟩
  have hbm : Below w1.heap.size w1 w2 := hb
  clear hb
  have hm : Mv (fun k => No k ∨ k = BX) (fun k => No k ∨ k = BX) w1 w2 := Mv.of_below hbm
  have T_2 := Lib.hid (T_1.out.step hm)
  clear T_1
  have OX_2 := Lib.hid (OX_1.out.under hbm OX_1.out.lt)
  clear OX_1
  have HM_2 := Lib.hid (HM_1.out.trans hm)
  clear HM_1
  have WI_2 := Lib.hid (WI_1.out.mono hm.size)
  clear WI_1
  clear hm
  clear hbm
  go_wp2_with fail
  refine (HLY.out _).mono ?_
  rintro e w3 ⟨v1, rfl, he, hb⟩
  have hbm : Below w2.heap.size w2 w3 := hb
  clear hb
  have hm : Mv (fun k => No k ∨ k = BX) (fun k => No k ∨ k = BX) w2 w3 := Mv.of_below hbm
  have T_3 := Lib.hid (T_2.out.step hm)
  clear T_2
  have OX_3 := Lib.hid (OX_2.out.under hbm OX_2.out.lt)
  clear OX_2
  have HM_3 := Lib.hid (HM_2.out.trans hm)
  clear HM_2
  have WI_3 := Lib.hid (WI_2.out.mono hm.size)
  clear WI_2
  clear hm
  clear hbm
  obtain rfl := ErrC.zero he
  clear he
  go_wp2_with (first | ((with_reducible refine at_al 36 ?_); refine al_pg rfl rfl ?_) | ((with_reducible refine at_st 36 (.tmp 9) (.tmp 32) ?_); refine st_new rfl _ _ rfl _ _ _ rfl rfl L ?_ rfl ?_ ?_; exact HLL.out; exact zsz))
  obtain ⟨w4, hw4⟩ : ∃ q, q = w3.alloc (.cells (pv (L)).toArray 36) := ⟨_, rfl⟩
  try rw [← hw4]
  have hbm : Below w3.heap.size w3 w4 := by rw [hw4]; exact (Below.refl _ _).alloc (Nat.le_refl _) _
  have hm : Mv (fun k => No k ∨ k = BX) (fun k => No k ∨ k = BX) w3 w4 := Mv.of_below hbm
  have hbx : Stays (fun k => No k ∨ k = BX) w4 (fun W => PgAt W w3.heap.size (L)) := Stays.box HLL.out WI_3.out hw4
  obtain ⟨BY, hBY⟩ : ∃ q, q = w3.heap.size := ⟨_, rfl⟩
  try rw [← hBY]
  rw [← hBY] at hbx
  have T_4 := Lib.hid (T_3.out.step hm)
  clear T_3
  have OX_4 := Lib.hid (OX_3.out.under hbm OX_3.out.lt)
  clear OX_3
  have HM_4 := Lib.hid (HM_3.out.trans hm)
  clear HM_3
  have WI_4 := Lib.hid (WI_3.out.mono hm.size)
  clear WI_3
  clear hm
  clear hbm hw4 hBY
  have Y_5 := Lib.hid (hbx)
  clear hbx
  go_upto_region 9 with fail
  refine wp_region_held_drew (S := fun w2 => KF w4 w2) (by kernel_rfl) ?_ (fun hHeld => ?_)
  · exact KF.drew (KF.refl _)
  have hKF0 : KF w4 w4.drew := KF.drew (KF.refl _)
  refine wpAnyH_take (i := 0) (oi := { dst := Option.some 43, op := Go.Op.move (Go.Operand.tmp 10), type := 26, pos := "law.go:48", after := #[], guard := Option.none }) (v := ?_) rfl (by kernel_rfl) (by kernel_rfl) (by kernel_rfl) (fun _ _ _ h => h) (Or.inl ⟨by rfl, ?_⟩) (by assumption) ?_
  rotate_left
  · intro w hSw; (try dsimp only at hSw); go_simp; (try with_reducible rfl)
  simp only [Act.put, List.setIfInBounds_toArray, List.set_cons_zero, List.set_cons_succ]
  refine wpAnyH_take (i := 2) (oi := { dst := Option.some 45, op := Go.Op.move (Go.Operand.tmp 11), type := 3, pos := "law.go:48", after := #[], guard := Option.none }) (v := ?_) rfl (by kernel_rfl) (by kernel_rfl) (by kernel_rfl) (fun _ _ _ h => h) (Or.inl ⟨by rfl, ?_⟩) (by assumption) ?_
  rotate_left
  · intro w hSw; (try dsimp only at hSw); go_simp; (try with_reducible rfl)
  simp only [Act.put, List.setIfInBounds_toArray, List.set_cons_zero, List.set_cons_succ]
  refine wpAnyH_ready (rs := [1]) (by kernel_rfl) (by simp) ?_
  refine AllReadyH.cons (o := { dst := Option.some 44, op := Go.Op.call { callee := Go.Callee.value (Go.Operand.func 21), args := #[Go.Operand.tmp 43], argTypes := #[26] }, type := 3, pos := "law.go:48", after := #[{ on := 0, ground := Go.Ground.data }], guard := Option.none }) rfl (fun K hK => ?_) AllReadyH.nil
  go_simp
  refine (num_nil_b _).mono ?_
  rintro e w5 ⟨rfl, hb⟩
  have hKF1 : KF w4 w5 := KF.step hKF0 hb
  clear hb
  dsimp only
  refine hK.out _ _ hKF1 (fun hHeld1 => ?_)
  clear hK K
  try simp only [Act.put, List.setIfInBounds_toArray, List.set_cons_zero, List.set_cons_succ]
  refine wpAnyH_take (i := 3) (oi := { dst := Option.some 46, op := Go.Op.binOp Go.BinOp.neq 3 (Go.Operand.tmp 44) (Go.Operand.tmp 45) 3, type := 4, pos := "law.go:48", after := #[{ on := 1, ground := Go.Ground.data }, { on := 2, ground := Go.Ground.data }], guard := Option.none }) (v := ?_) rfl (by kernel_rfl) (by kernel_rfl) (by kernel_rfl) (fun _ _ _ h => h) (Or.inl ⟨by rfl, ?_⟩) (by assumption) ?_
  rotate_left
  · intro w hSw; (try dsimp only at hSw); go_simp; (try with_reducible rfl)
  simp only [Act.put, List.setIfInBounds_toArray, List.set_cons_zero, List.set_cons_succ]
  refine wpAnyH_take (i := 4) (oi := { dst := Option.some 47, op := Go.Op.move (Go.Operand.tmp 46), type := 4, pos := "law.go:48", after := #[{ on := 3, ground := Go.Ground.data }, { on := 1, ground := Go.Ground.chain }], guard := Option.none }) (v := ?_) rfl (by kernel_rfl) (by kernel_rfl) (by kernel_rfl) (fun _ _ _ h => h) (Or.inl ⟨by rfl, ?_⟩) (by assumption) ?_
  rotate_left
  · intro w hSw; (try dsimp only at hSw); go_simp; (try with_reducible rfl)
  simp only [Act.put, List.setIfInBounds_toArray, List.set_cons_zero, List.set_cons_succ]
  refine wpAnyH_take (i := 5) (oi := { dst := Option.some 48, op := Go.Op.move (Go.Operand.tmp 11), type := 3, pos := "law.go:48", after := #[{ on := 4, ground := Go.Ground.guard }], guard := Option.some (4, Bool.false) }) (v := ?_) rfl (by kernel_rfl) (by kernel_rfl) (by kernel_rfl) (fun _ _ _ h => h) (Or.inl ⟨by rfl, ?_⟩) (by assumption) ?_
  rotate_left
  · intro w hSw; (try dsimp only at hSw); go_simp; (try with_reducible rfl)
  simp only [Act.put, List.setIfInBounds_toArray, List.set_cons_zero, List.set_cons_succ]
  refine wpAnyH_take (i := 6) (oi := { dst := Option.some 49, op := Go.Op.binOp Go.BinOp.eql 3 (Go.Operand.tmp 48) (Go.Operand.const (Go.Value.int Go.IntKind.i64 0)) 3, type := 4, pos := "law.go:48", after := #[{ on := 5, ground := Go.Ground.data }, { on := 4, ground := Go.Ground.guard }], guard := Option.some (4, Bool.false) }) (v := ?_) rfl (by kernel_rfl) (by kernel_rfl) (by kernel_rfl) (fun _ _ _ h => h) (Or.inl ⟨by rfl, ?_⟩) (by assumption) ?_
  rotate_left
  · intro w hSw; (try dsimp only at hSw); go_simp; (try with_reducible rfl)
  simp only [Act.put, List.setIfInBounds_toArray, List.set_cons_zero, List.set_cons_succ]
  refine wpAnyH_take (i := 7) (oi := { dst := Option.some 50, op := Go.Op.move (Go.Operand.tmp 49), type := 4, pos := "law.go:48", after := #[{ on := 6, ground := Go.Ground.data }, { on := 4, ground := Go.Ground.chain }, { on := 4, ground := Go.Ground.guard }], guard := Option.some (4, Bool.false) }) (v := ?_) rfl (by kernel_rfl) (by kernel_rfl) (by kernel_rfl) (fun _ _ _ h => h) (Or.inl ⟨by rfl, ?_⟩) (by assumption) ?_
  rotate_left
  · intro w hSw; (try dsimp only at hSw); go_simp; (try with_reducible rfl)
  simp only [Act.put, List.setIfInBounds_toArray, List.set_cons_zero, List.set_cons_succ]
  refine wpAnyH_take (i := 8) (oi := { dst := Option.some 51, op := Go.Op.load 36 (Go.Operand.tmp 9), type := 36, pos := "law.go:48", after := #[{ on := 7, ground := Go.Ground.guard }], guard := Option.some (7, Bool.true) }) rfl (by kernel_rfl) (by kernel_rfl) (by kernel_rfl) (fun _ _ _ h => h) (yieldsIf_load_mid (by rfl) 36 _ rfl BY 0 rfl (pv L) _ (fun W hW => (Y_5.out.step (Mv.of_below hW)).now.r) Tryd.underlying36 rfl (size_of HLL.out)) (by assumption) ?_
  simp only [Act.put, List.setIfInBounds_toArray, List.set_cons_zero, List.set_cons_succ]
  refine wpAnyH_take (i := 9) (oi := { dst := Option.some 52, op := Go.Op.move (Go.Operand.tmp 0), type := 3, pos := "law.go:48", after := #[{ on := 7, ground := Go.Ground.guard }], guard := Option.some (7, Bool.true) }) (v := ?_) rfl (by kernel_rfl) (by kernel_rfl) (by kernel_rfl) (fun _ _ _ h => h) (Or.inl ⟨by rfl, ?_⟩) (by assumption) ?_
  rotate_left
  · intro w hSw; (try dsimp only at hSw); go_simp; (try with_reducible rfl)
  simp only [Act.put, List.setIfInBounds_toArray, List.set_cons_zero, List.set_cons_succ]
  refine wpAnyH_take (i := 10) (oi := { dst := Option.some 53, op := Go.Op.move (Go.Operand.tmp 1), type := 9, pos := "law.go:48", after := #[{ on := 7, ground := Go.Ground.guard }], guard := Option.some (7, Bool.true) }) (v := ?_) rfl (by kernel_rfl) (by kernel_rfl) (by kernel_rfl) (fun _ _ _ h => h) (Or.inl ⟨by rfl, ?_⟩) (by assumption) ?_
  rotate_left
  · intro w hSw; (try dsimp only at hSw); go_simp; (try with_reducible rfl)
  simp only [Act.put, List.setIfInBounds_toArray, List.set_cons_zero, List.set_cons_succ]
  refine wpAnyH_ready (rs := [11]) (by kernel_rfl) (by simp) ?_
  refine AllReadyH.cons (o := { dst := Option.some 54, op := Go.Op.call { callee := Go.Callee.value (Go.Operand.func 35), args := #[Go.Operand.tmp 52, Go.Operand.tmp 53], argTypes := #[3, 9] }, type := 35, pos := "law.go:48", after := #[{ on := 9, ground := Go.Ground.data }, { on := 10, ground := Go.Ground.data }, { on := 7, ground := Go.Ground.chain }, { on := 7, ground := Go.Ground.guard }], guard := Option.some (7, Bool.true) }) rfl (fun K hK => ?_) AllReadyH.nil
  go_simp
  refine (HRL.out _).mono ?_
  rintro e w6 ⟨rfl, hb⟩
  have hKF2 : KF w4 w6 := KF.step hKF1 hb
  clear hb
  dsimp only
  refine hK.out _ _ hKF2 (fun hHeld2 => ?_)
  clear hK K
  try simp only [Act.put, List.setIfInBounds_toArray, List.set_cons_zero, List.set_cons_succ]
  refine wpAnyH_take (i := 12) (oi := { dst := Option.some 55, op := Go.Op.binOp Go.BinOp.neq 36 (Go.Operand.tmp 51) (Go.Operand.tmp 54) 36, type := 4, pos := "law.go:48", after := #[{ on := 8, ground := Go.Ground.data }, { on := 11, ground := Go.Ground.data }, { on := 7, ground := Go.Ground.guard }], guard := Option.some (7, Bool.true) }) rfl (by kernel_rfl) (by kernel_rfl) (by kernel_rfl) (fun _ _ _ h => h) (yif_neq (by rfl) _ _ rfl L L rfl rfl HLL.out HLL.out false (by simp)) (by assumption) ?_
  simp only [Act.put, List.setIfInBounds_toArray, List.set_cons_zero, List.set_cons_succ]
  refine wpAnyH_take (i := 13) (oi := { dst := Option.some 56, op := Go.Op.pick (Go.Operand.tmp 50) (Go.Operand.tmp 55) (Go.Operand.const (Go.Value.bool Bool.false)), type := 4, pos := "law.go:48", after := #[{ on := 7, ground := Go.Ground.data }, { on := 12, ground := Go.Ground.data }, { on := 4, ground := Go.Ground.guard }], guard := Option.some (4, Bool.false) }) (v := ?_) rfl (by kernel_rfl) (by kernel_rfl) (by kernel_rfl) (fun _ _ _ h => h) (Or.inl ⟨by rfl, ?_⟩) (by assumption) ?_
  rotate_left
  · intro w hSw; (try dsimp only at hSw); go_simp; (try with_reducible rfl)
  simp only [Act.put, List.setIfInBounds_toArray, List.set_cons_zero, List.set_cons_succ]
  refine wpAnyH_take (i := 14) (oi := { dst := Option.some 57, op := Go.Op.pick (Go.Operand.tmp 47) (Go.Operand.const (Go.Value.bool Bool.true)) (Go.Operand.tmp 56), type := 4, pos := "law.go:48", after := #[{ on := 4, ground := Go.Ground.data }, { on := 13, ground := Go.Ground.data }], guard := Option.none }) (v := ?_) rfl (by kernel_rfl) (by kernel_rfl) (by kernel_rfl) (fun _ _ _ h => h) (Or.inl ⟨by rfl, ?_⟩) (by assumption) ?_
  rotate_left
  · intro w hSw; (try dsimp only at hSw); go_simp; (try with_reducible rfl)
  simp only [Act.put, List.setIfInBounds_toArray, List.set_cons_zero, List.set_cons_succ]
  refine wpAnyH_take (i := 15) (oi := { dst := Option.some 58, op := Go.Op.move (Go.Operand.tmp 57), type := 4, pos := "law.go:48", after := #[{ on := 14, ground := Go.Ground.data }, { on := 11, ground := Go.Ground.chain }], guard := Option.none }) (v := ?_) rfl (by kernel_rfl) (by kernel_rfl) (by kernel_rfl) (fun _ _ _ h => h) (Or.inl ⟨by rfl, ?_⟩) (by assumption) ?_
  rotate_left
  · intro w hSw; (try dsimp only at hSw); go_simp; (try with_reducible rfl)
  simp only [Act.put, List.setIfInBounds_toArray, List.set_cons_zero, List.set_cons_succ]
  refine wpAnyH_take (i := 16) (oi := { dst := Option.some 59, op := Go.Op.move (Go.Operand.tmp 11), type := 3, pos := "law.go:48", after := #[{ on := 15, ground := Go.Ground.guard }], guard := Option.some (15, Bool.false) }) (v := ?_) rfl (by kernel_rfl) (by kernel_rfl) (by kernel_rfl) (fun _ _ _ h => h) (Or.inl ⟨by rfl, ?_⟩) (by assumption) ?_
  rotate_left
  · intro w hSw; (try dsimp only at hSw); go_simp; (try with_reducible rfl)
  simp only [Act.put, List.setIfInBounds_toArray, List.set_cons_zero, List.set_cons_succ]
  refine wpAnyH_take (i := 17) (oi := { dst := Option.some 60, op := Go.Op.binOp Go.BinOp.neq 3 (Go.Operand.tmp 59) (Go.Operand.const (Go.Value.int Go.IntKind.i64 0)) 3, type := 4, pos := "law.go:48", after := #[{ on := 16, ground := Go.Ground.data }, { on := 15, ground := Go.Ground.guard }], guard := Option.some (15, Bool.false) }) (v := ?_) rfl (by kernel_rfl) (by kernel_rfl) (by kernel_rfl) (fun _ _ _ h => h) (Or.inl ⟨by rfl, ?_⟩) (by assumption) ?_
  rotate_left
  · intro w hSw; (try dsimp only at hSw); go_simp; (try with_reducible rfl)
  simp only [Act.put, List.setIfInBounds_toArray, List.set_cons_zero, List.set_cons_succ]
  refine wpAnyH_take (i := 18) (oi := { dst := Option.some 61, op := Go.Op.move (Go.Operand.tmp 60), type := 4, pos := "law.go:48", after := #[{ on := 17, ground := Go.Ground.data }, { on := 15, ground := Go.Ground.chain }, { on := 15, ground := Go.Ground.guard }], guard := Option.some (15, Bool.false) }) (v := ?_) rfl (by kernel_rfl) (by kernel_rfl) (by kernel_rfl) (fun _ _ _ h => h) (Or.inl ⟨by rfl, ?_⟩) (by assumption) ?_
  rotate_left
  · intro w hSw; (try dsimp only at hSw); go_simp; (try with_reducible rfl)
  simp only [Act.put, List.setIfInBounds_toArray, List.set_cons_zero, List.set_cons_succ]
  refine wpAnyH_take (i := 19) (oi := { dst := Option.some 62, op := Go.Op.load 36 (Go.Operand.tmp 9), type := 36, pos := "law.go:48", after := #[{ on := 18, ground := Go.Ground.guard }], guard := Option.some (18, Bool.true) }) (v := undef) rfl (by kernel_rfl) (by kernel_rfl) (by kernel_rfl) (fun _ _ _ h => h) (Or.inr ⟨by rfl, rfl⟩) (by assumption) ?_
  simp only [Act.put, List.setIfInBounds_toArray, List.set_cons_zero, List.set_cons_succ]
  refine wpAnyH_take (i := 20) (oi := { dst := Option.some 63, op := Go.Op.build 36 #[], type := 36, pos := "law.go:48", after := #[{ on := 18, ground := Go.Ground.guard }], guard := Option.some (18, Bool.true) }) (v := undef) rfl (by kernel_rfl) (by kernel_rfl) (by kernel_rfl) (fun _ _ _ h => h) (Or.inr ⟨by rfl, rfl⟩) (by assumption) ?_
  simp only [Act.put, List.setIfInBounds_toArray, List.set_cons_zero, List.set_cons_succ]
  refine wpAnyH_take (i := 21) (oi := { dst := Option.some 64, op := Go.Op.binOp Go.BinOp.neq 36 (Go.Operand.tmp 62) (Go.Operand.tmp 63) 36, type := 4, pos := "law.go:48", after := #[{ on := 19, ground := Go.Ground.data }, { on := 20, ground := Go.Ground.data }, { on := 18, ground := Go.Ground.guard }], guard := Option.some (18, Bool.true) }) (v := undef) rfl (by kernel_rfl) (by kernel_rfl) (by kernel_rfl) (fun _ _ _ h => h) (Or.inr ⟨by rfl, rfl⟩) (by assumption) ?_
  simp only [Act.put, List.setIfInBounds_toArray, List.set_cons_zero, List.set_cons_succ]
  refine wpAnyH_take (i := 22) (oi := { dst := Option.some 65, op := Go.Op.pick (Go.Operand.tmp 61) (Go.Operand.tmp 64) (Go.Operand.const (Go.Value.bool Bool.false)), type := 4, pos := "law.go:48", after := #[{ on := 18, ground := Go.Ground.data }, { on := 21, ground := Go.Ground.data }, { on := 15, ground := Go.Ground.guard }], guard := Option.some (15, Bool.false) }) (v := ?_) rfl (by kernel_rfl) (by kernel_rfl) (by kernel_rfl) (fun _ _ _ h => h) (Or.inl ⟨by rfl, ?_⟩) (by assumption) ?_
  rotate_left
  · intro w hSw; (try dsimp only at hSw); go_simp; (try with_reducible rfl)
  simp only [Act.put, List.setIfInBounds_toArray, List.set_cons_zero, List.set_cons_succ]
  refine wpAnyH_take (i := 23) (oi := { dst := Option.some 66, op := Go.Op.pick (Go.Operand.tmp 58) (Go.Operand.const (Go.Value.bool Bool.true)) (Go.Operand.tmp 65), type := 4, pos := "law.go:48", after := #[{ on := 15, ground := Go.Ground.data }, { on := 22, ground := Go.Ground.data }], guard := Option.none }) (v := ?_) rfl (by kernel_rfl) (by kernel_rfl) (by kernel_rfl) (fun _ _ _ h => h) (Or.inl ⟨by rfl, ?_⟩) (by assumption) ?_
  rotate_left
  · intro w hSw; (try dsimp only at hSw); go_simp; (try with_reducible rfl)
  simp only [Act.put, List.setIfInBounds_toArray, List.set_cons_zero, List.set_cons_succ]
  refine wpAnyH_done (by kernel_rfl) ?_ _
  have hbm : Below w4.heap.size w4 w6 := hKF2
  have hm : Mv (fun k => No k ∨ k = BX) (fun k => No k ∨ k = BX) w4 w6 := Mv.of_below hbm
  have T_6 := Lib.hid (T_4.out.step hm)
  clear T_4
  have Y_6 := Lib.hid (Y_5.out.step hm)
  clear Y_5
  have OX_6 := Lib.hid (OX_4.out.under hbm OX_4.out.lt)
  clear OX_4
  have HM_6 := Lib.hid (HM_4.out.trans hm)
  clear HM_4
  have WI_6 := Lib.hid (WI_4.out.mono hm.size)
  clear WI_4
  clear hm
  clear hbm hKF0 hKF1 hKF2
  clear Y_6
  have HA := Lib.hid (fun w => read_fr p HP.out w)
  have HC := Lib.hid (fun w => rread5 p HP.out w)
  obtain ⟨qa, hqa⟩ : ∃ z, z = rdK p := ⟨_, rfl⟩
  rw [← hqa] at HA HC
  clear hqa
  obtain ⟨qs, hqs⟩ : ∃ z, z = rdD p := ⟨_, rfl⟩
  rw [← hqs] at HA HC
  clear hqs
  obtain ⟨qc, hqc⟩ : ∃ z, z = rdC p := ⟨_, rfl⟩
  rw [← hqc] at HA HC
  clear hqc
  go_wp2_with (first | ((with_reducible refine at_ld 35 (.tmp 6) ?_); refine ld_pr rfl _ rfl BX (0) rfl p ?_ ?_ ?_; exact HP.out; exact OX_6.out.r))
  refine (HA.out _).mono ?_
  rintro e w7 ⟨v5, rfl, he, hb⟩
  have hbm : Below w6.heap.size w6 w7 := hb
  clear hb
  have hm : Mv (fun k => No k ∨ k = BX) (fun k => No k ∨ k = BX) w6 w7 := Mv.of_below hbm
  have hst := Stays.err he WI_6.out
  clear he
  have T_7 := Lib.hid (T_6.out.step hm)
  clear T_6
  have OX_7 := Lib.hid (OX_6.out.under hbm OX_6.out.lt)
  clear OX_6
  have HM_7 := Lib.hid (HM_6.out.trans hm)
  clear HM_6
  have WI_7 := Lib.hid (WI_6.out.mono hm.size)
  clear WI_6
  clear hm
  clear hbm
  have E5_8 := Lib.hid (hst)
  clear hst
  go_wp2_with (first | ((with_reducible refine at_ld 35 (.tmp 6) ?_); refine ld_pr rfl _ rfl BX (0) rfl p ?_ ?_ ?_; exact HP.out; exact OX_7.out.r))
  refine (HC.out _).mono ?_
  rintro e w8 ⟨rfl, hb⟩
  have hbm : Below w7.heap.size w7 w8 := hb
  clear hb
  have hm : Mv (fun k => No k ∨ k = BX) (fun k => No k ∨ k = BX) w7 w8 := Mv.of_below hbm
  have T_9 := Lib.hid (T_7.out.step hm)
  clear T_7
  have E5_9 := Lib.hid (E5_8.out.step hm)
  clear E5_8
  have OX_9 := Lib.hid (OX_7.out.under hbm OX_7.out.lt)
  clear OX_7
  have HM_9 := Lib.hid (HM_7.out.trans hm)
  clear HM_7
  have WI_9 := Lib.hid (WI_7.out.mono hm.size)
  clear WI_7
  clear hm
  clear hbm
  go_wp2_with fail
  refine (Num_c _ v5 qc E5_9.out.now T_9.out.now).mono ?_
  rintro e w9 ⟨rfl, hb⟩
  have hbm : Below w8.heap.size w8 w9 := hb
  clear hb
  have hm : Mv (fun k => No k ∨ k = BX) (fun k => No k ∨ k = BX) w8 w9 := Mv.of_below hbm
  have T_10 := Lib.hid (T_9.out.step hm)
  clear T_9
  have E5_10 := Lib.hid (E5_9.out.step hm)
  clear E5_9
  have OX_10 := Lib.hid (OX_9.out.under hbm OX_9.out.lt)
  clear OX_9
  have HM_10 := Lib.hid (HM_9.out.trans hm)
  clear HM_9
  have WI_10 := Lib.hid (WI_9.out.mono hm.size)
  clear WI_9
  clear hm
  clear hbm
  go_wp2_with fail
  go_ret
  exact ⟨rfl, HM_10.out.below⟩
set_option maxHeartbeats 8000000 in
set_option maxRecDepth 100000 in
theorem plays_31 (k : Int) (d : ByteArray) (p : Pg) (hp : p.length = 128) (h0 : d.size ≤ 500) (g0 : ¬ k < 1) (g1 : ¬ 255 < k) (g2 : ¬ 120 < d.size) (w : World) (tied : Tied w) : Calls Tryd.prog 5 #[.int .i64 k, .string d, .agg (pv p).toArray, .bool true] w fun e w' => e = .returned (.bool true) ∧ Below w.heap.size w w' := by
  have hd : decide (500 < (d.size : Int)) = false := by simp; omega
  have e0 : decide (k < 1) = false := by simp; omega
  have e1 : decide (255 < k) = false := by simp; omega
  have e2 : decide (120 < (d.size : Int)) = false := by simp; omega
  have hfc : frC k d = 0 := by unfold frC; rw [if_neg (by omega), if_neg (by omega)]
  have HLY := Lib.hid (fun w => lay_m k d w)
  rw [hfc] at HLY
  have HRL := Lib.hid (fun w => rlay5 k d hfc w)
  have hlp : layP k d = framP k d := by unfold layP; rw [if_pos hfc]
  have hll := layP_length k d
  rw [hlp] at HLY hll
  obtain ⟨L, hL⟩ : ∃ q, q = framP k d := ⟨_, rfl⟩
  rw [← hL] at HLY HRL hll
  clear hlp hL
  have HLL := Lib.hid hll
  have HP := Lib.hid hp
  clear hp hfc h0 hll g0 g1 g2
  have hbz := build_zp
  have HM0 := Lib.hid (Mv.refl No w)
  have T0 := Lib.hid (Stays.tied tied)
  have WI0 := Lib.hid (Wi.no w)
  clear tied
  go_enter Tryd.func5, Tryd.ntmps5
  go_upto_region 1 with fail
  obtain ⟨w1, hw1⟩ : ∃ q, q = w.alloc (.cells (pv (p)).toArray 35) := ⟨_, rfl⟩
  try rw [← hw1]
  have hbm : Below w.heap.size w w1 := by rw [hw1]; exact (Below.refl _ _).alloc (Nat.le_refl _) _
  have hm := Mv.own (S := No) hw1
  have hwi := Wi.own WI0.out hw1
  have hpx : PgAt w1 w.heap.size (p) := by rw [hw1]; exact PgAt.new _ _ _ HP.out
  obtain ⟨BX, hBX⟩ : ∃ q, q = w.heap.size := ⟨_, rfl⟩
  rw [← hBX] at hm hwi hpx
  try rw [← hBX]
  have T_1 := Lib.hid (T0.out.step hm)
  clear T0
  have HM_1 := Lib.hid (HM0.out.trans hm)
  clear HM0
  have WI_1 := Lib.hid (hwi)
  clear WI0
  clear hm
  clear hbm hw1 hBX hwi
  have OX_1 := Lib.hid hpx
  clear hpx
  go_wp2_with fail
  refine (awake5 _ T_1.out.now).mono ?_
  rintro e w2 ⟨rfl, hb⟩
  have hbm : Below w1.heap.size w1 w2 := hb
  clear hb
  have hm : Mv (fun k => No k ∨ k = BX) (fun k => No k ∨ k = BX) w1 w2 := Mv.of_below hbm
  have T_2 := Lib.hid (T_1.out.step hm)
  clear T_1
  have OX_2 := Lib.hid (OX_1.out.under hbm OX_1.out.lt)
  clear OX_1
  have HM_2 := Lib.hid (HM_1.out.trans hm)
  clear HM_1
  have WI_2 := Lib.hid (WI_1.out.mono hm.size)
  clear WI_1
  clear hm
  clear hbm
  go_wp2_with fail
  refine (HLY.out _).mono ?_
  rintro e w3 ⟨v1, rfl, he, hb⟩
  have hbm : Below w2.heap.size w2 w3 := hb
  clear hb
  have hm : Mv (fun k => No k ∨ k = BX) (fun k => No k ∨ k = BX) w2 w3 := Mv.of_below hbm
  have T_3 := Lib.hid (T_2.out.step hm)
  clear T_2
  have OX_3 := Lib.hid (OX_2.out.under hbm OX_2.out.lt)
  clear OX_2
  have HM_3 := Lib.hid (HM_2.out.trans hm)
  clear HM_2
  have WI_3 := Lib.hid (WI_2.out.mono hm.size)
  clear WI_2
  clear hm
  clear hbm
  obtain rfl := ErrC.zero he
  clear he
  go_wp2_with (first | ((with_reducible refine at_al 36 ?_); refine al_pg rfl rfl ?_) | ((with_reducible refine at_st 36 (.tmp 9) (.tmp 32) ?_); refine st_new rfl _ _ rfl _ _ _ rfl rfl L ?_ rfl ?_ ?_; exact HLL.out; exact zsz))
  obtain ⟨w4, hw4⟩ : ∃ q, q = w3.alloc (.cells (pv (L)).toArray 36) := ⟨_, rfl⟩
  try rw [← hw4]
  have hbm : Below w3.heap.size w3 w4 := by rw [hw4]; exact (Below.refl _ _).alloc (Nat.le_refl _) _
  have hm : Mv (fun k => No k ∨ k = BX) (fun k => No k ∨ k = BX) w3 w4 := Mv.of_below hbm
  have hbx : Stays (fun k => No k ∨ k = BX) w4 (fun W => PgAt W w3.heap.size (L)) := Stays.box HLL.out WI_3.out hw4
  obtain ⟨BY, hBY⟩ : ∃ q, q = w3.heap.size := ⟨_, rfl⟩
  try rw [← hBY]
  rw [← hBY] at hbx
  have T_4 := Lib.hid (T_3.out.step hm)
  clear T_3
  have OX_4 := Lib.hid (OX_3.out.under hbm OX_3.out.lt)
  clear OX_3
  have HM_4 := Lib.hid (HM_3.out.trans hm)
  clear HM_3
  have WI_4 := Lib.hid (WI_3.out.mono hm.size)
  clear WI_3
  clear hm
  clear hbm hw4 hBY
  have Y_5 := Lib.hid (hbx)
  clear hbx
  go_upto_region 9 with fail
  refine wp_region_held_drew (S := fun w2 => KF w4 w2) (by kernel_rfl) ?_ (fun hHeld => ?_)
  · exact KF.drew (KF.refl _)
  have hKF0 : KF w4 w4.drew := KF.drew (KF.refl _)
  refine wpAnyH_take (i := 0) (oi := { dst := Option.some 43, op := Go.Op.move (Go.Operand.tmp 10), type := 26, pos := "law.go:48", after := #[], guard := Option.none }) (v := ?_) rfl (by kernel_rfl) (by kernel_rfl) (by kernel_rfl) (fun _ _ _ h => h) (Or.inl ⟨by rfl, ?_⟩) (by assumption) ?_
  rotate_left
  · intro w hSw; (try dsimp only at hSw); go_simp; (try with_reducible rfl)
  simp only [Act.put, List.setIfInBounds_toArray, List.set_cons_zero, List.set_cons_succ]
  refine wpAnyH_take (i := 2) (oi := { dst := Option.some 45, op := Go.Op.move (Go.Operand.tmp 11), type := 3, pos := "law.go:48", after := #[], guard := Option.none }) (v := ?_) rfl (by kernel_rfl) (by kernel_rfl) (by kernel_rfl) (fun _ _ _ h => h) (Or.inl ⟨by rfl, ?_⟩) (by assumption) ?_
  rotate_left
  · intro w hSw; (try dsimp only at hSw); go_simp; (try with_reducible rfl)
  simp only [Act.put, List.setIfInBounds_toArray, List.set_cons_zero, List.set_cons_succ]
  refine wpAnyH_ready (rs := [1]) (by kernel_rfl) (by simp) ?_
  refine AllReadyH.cons (o := { dst := Option.some 44, op := Go.Op.call { callee := Go.Callee.value (Go.Operand.func 21), args := #[Go.Operand.tmp 43], argTypes := #[26] }, type := 3, pos := "law.go:48", after := #[{ on := 0, ground := Go.Ground.data }], guard := Option.none }) rfl (fun K hK => ?_) AllReadyH.nil
  go_simp
  refine (num_nil_b _).mono ?_
  rintro e w5 ⟨rfl, hb⟩
  have hKF1 : KF w4 w5 := KF.step hKF0 hb
  clear hb
  dsimp only
  refine hK.out _ _ hKF1 (fun hHeld1 => ?_)
  clear hK K
  try simp only [Act.put, List.setIfInBounds_toArray, List.set_cons_zero, List.set_cons_succ]
  refine wpAnyH_take (i := 3) (oi := { dst := Option.some 46, op := Go.Op.binOp Go.BinOp.neq 3 (Go.Operand.tmp 44) (Go.Operand.tmp 45) 3, type := 4, pos := "law.go:48", after := #[{ on := 1, ground := Go.Ground.data }, { on := 2, ground := Go.Ground.data }], guard := Option.none }) (v := ?_) rfl (by kernel_rfl) (by kernel_rfl) (by kernel_rfl) (fun _ _ _ h => h) (Or.inl ⟨by rfl, ?_⟩) (by assumption) ?_
  rotate_left
  · intro w hSw; (try dsimp only at hSw); go_simp; (try with_reducible rfl)
  simp only [Act.put, List.setIfInBounds_toArray, List.set_cons_zero, List.set_cons_succ]
  refine wpAnyH_take (i := 4) (oi := { dst := Option.some 47, op := Go.Op.move (Go.Operand.tmp 46), type := 4, pos := "law.go:48", after := #[{ on := 3, ground := Go.Ground.data }, { on := 1, ground := Go.Ground.chain }], guard := Option.none }) (v := ?_) rfl (by kernel_rfl) (by kernel_rfl) (by kernel_rfl) (fun _ _ _ h => h) (Or.inl ⟨by rfl, ?_⟩) (by assumption) ?_
  rotate_left
  · intro w hSw; (try dsimp only at hSw); go_simp; (try with_reducible rfl)
  simp only [Act.put, List.setIfInBounds_toArray, List.set_cons_zero, List.set_cons_succ]
  refine wpAnyH_take (i := 5) (oi := { dst := Option.some 48, op := Go.Op.move (Go.Operand.tmp 11), type := 3, pos := "law.go:48", after := #[{ on := 4, ground := Go.Ground.guard }], guard := Option.some (4, Bool.false) }) (v := ?_) rfl (by kernel_rfl) (by kernel_rfl) (by kernel_rfl) (fun _ _ _ h => h) (Or.inl ⟨by rfl, ?_⟩) (by assumption) ?_
  rotate_left
  · intro w hSw; (try dsimp only at hSw); go_simp; (try with_reducible rfl)
  simp only [Act.put, List.setIfInBounds_toArray, List.set_cons_zero, List.set_cons_succ]
  refine wpAnyH_take (i := 6) (oi := { dst := Option.some 49, op := Go.Op.binOp Go.BinOp.eql 3 (Go.Operand.tmp 48) (Go.Operand.const (Go.Value.int Go.IntKind.i64 0)) 3, type := 4, pos := "law.go:48", after := #[{ on := 5, ground := Go.Ground.data }, { on := 4, ground := Go.Ground.guard }], guard := Option.some (4, Bool.false) }) (v := ?_) rfl (by kernel_rfl) (by kernel_rfl) (by kernel_rfl) (fun _ _ _ h => h) (Or.inl ⟨by rfl, ?_⟩) (by assumption) ?_
  rotate_left
  · intro w hSw; (try dsimp only at hSw); go_simp; (try with_reducible rfl)
  simp only [Act.put, List.setIfInBounds_toArray, List.set_cons_zero, List.set_cons_succ]
  refine wpAnyH_take (i := 7) (oi := { dst := Option.some 50, op := Go.Op.move (Go.Operand.tmp 49), type := 4, pos := "law.go:48", after := #[{ on := 6, ground := Go.Ground.data }, { on := 4, ground := Go.Ground.chain }, { on := 4, ground := Go.Ground.guard }], guard := Option.some (4, Bool.false) }) (v := ?_) rfl (by kernel_rfl) (by kernel_rfl) (by kernel_rfl) (fun _ _ _ h => h) (Or.inl ⟨by rfl, ?_⟩) (by assumption) ?_
  rotate_left
  · intro w hSw; (try dsimp only at hSw); go_simp; (try with_reducible rfl)
  simp only [Act.put, List.setIfInBounds_toArray, List.set_cons_zero, List.set_cons_succ]
  refine wpAnyH_take (i := 8) (oi := { dst := Option.some 51, op := Go.Op.load 36 (Go.Operand.tmp 9), type := 36, pos := "law.go:48", after := #[{ on := 7, ground := Go.Ground.guard }], guard := Option.some (7, Bool.true) }) rfl (by kernel_rfl) (by kernel_rfl) (by kernel_rfl) (fun _ _ _ h => h) (yieldsIf_load_mid (by rfl) 36 _ rfl BY 0 rfl (pv L) _ (fun W hW => (Y_5.out.step (Mv.of_below hW)).now.r) Tryd.underlying36 rfl (size_of HLL.out)) (by assumption) ?_
  simp only [Act.put, List.setIfInBounds_toArray, List.set_cons_zero, List.set_cons_succ]
  refine wpAnyH_take (i := 9) (oi := { dst := Option.some 52, op := Go.Op.move (Go.Operand.tmp 0), type := 3, pos := "law.go:48", after := #[{ on := 7, ground := Go.Ground.guard }], guard := Option.some (7, Bool.true) }) (v := ?_) rfl (by kernel_rfl) (by kernel_rfl) (by kernel_rfl) (fun _ _ _ h => h) (Or.inl ⟨by rfl, ?_⟩) (by assumption) ?_
  rotate_left
  · intro w hSw; (try dsimp only at hSw); go_simp; (try with_reducible rfl)
  simp only [Act.put, List.setIfInBounds_toArray, List.set_cons_zero, List.set_cons_succ]
  refine wpAnyH_take (i := 10) (oi := { dst := Option.some 53, op := Go.Op.move (Go.Operand.tmp 1), type := 9, pos := "law.go:48", after := #[{ on := 7, ground := Go.Ground.guard }], guard := Option.some (7, Bool.true) }) (v := ?_) rfl (by kernel_rfl) (by kernel_rfl) (by kernel_rfl) (fun _ _ _ h => h) (Or.inl ⟨by rfl, ?_⟩) (by assumption) ?_
  rotate_left
  · intro w hSw; (try dsimp only at hSw); go_simp; (try with_reducible rfl)
  simp only [Act.put, List.setIfInBounds_toArray, List.set_cons_zero, List.set_cons_succ]
  refine wpAnyH_ready (rs := [11]) (by kernel_rfl) (by simp) ?_
  refine AllReadyH.cons (o := { dst := Option.some 54, op := Go.Op.call { callee := Go.Callee.value (Go.Operand.func 35), args := #[Go.Operand.tmp 52, Go.Operand.tmp 53], argTypes := #[3, 9] }, type := 35, pos := "law.go:48", after := #[{ on := 9, ground := Go.Ground.data }, { on := 10, ground := Go.Ground.data }, { on := 7, ground := Go.Ground.chain }, { on := 7, ground := Go.Ground.guard }], guard := Option.some (7, Bool.true) }) rfl (fun K hK => ?_) AllReadyH.nil
  go_simp
  refine (HRL.out _).mono ?_
  rintro e w6 ⟨rfl, hb⟩
  have hKF2 : KF w4 w6 := KF.step hKF1 hb
  clear hb
  dsimp only
  refine hK.out _ _ hKF2 (fun hHeld2 => ?_)
  clear hK K
  try simp only [Act.put, List.setIfInBounds_toArray, List.set_cons_zero, List.set_cons_succ]
  refine wpAnyH_take (i := 12) (oi := { dst := Option.some 55, op := Go.Op.binOp Go.BinOp.neq 36 (Go.Operand.tmp 51) (Go.Operand.tmp 54) 36, type := 4, pos := "law.go:48", after := #[{ on := 8, ground := Go.Ground.data }, { on := 11, ground := Go.Ground.data }, { on := 7, ground := Go.Ground.guard }], guard := Option.some (7, Bool.true) }) rfl (by kernel_rfl) (by kernel_rfl) (by kernel_rfl) (fun _ _ _ h => h) (yif_neq (by rfl) _ _ rfl L L rfl rfl HLL.out HLL.out false (by simp)) (by assumption) ?_
  simp only [Act.put, List.setIfInBounds_toArray, List.set_cons_zero, List.set_cons_succ]
  refine wpAnyH_take (i := 13) (oi := { dst := Option.some 56, op := Go.Op.pick (Go.Operand.tmp 50) (Go.Operand.tmp 55) (Go.Operand.const (Go.Value.bool Bool.false)), type := 4, pos := "law.go:48", after := #[{ on := 7, ground := Go.Ground.data }, { on := 12, ground := Go.Ground.data }, { on := 4, ground := Go.Ground.guard }], guard := Option.some (4, Bool.false) }) (v := ?_) rfl (by kernel_rfl) (by kernel_rfl) (by kernel_rfl) (fun _ _ _ h => h) (Or.inl ⟨by rfl, ?_⟩) (by assumption) ?_
  rotate_left
  · intro w hSw; (try dsimp only at hSw); go_simp; (try with_reducible rfl)
  simp only [Act.put, List.setIfInBounds_toArray, List.set_cons_zero, List.set_cons_succ]
  refine wpAnyH_take (i := 14) (oi := { dst := Option.some 57, op := Go.Op.pick (Go.Operand.tmp 47) (Go.Operand.const (Go.Value.bool Bool.true)) (Go.Operand.tmp 56), type := 4, pos := "law.go:48", after := #[{ on := 4, ground := Go.Ground.data }, { on := 13, ground := Go.Ground.data }], guard := Option.none }) (v := ?_) rfl (by kernel_rfl) (by kernel_rfl) (by kernel_rfl) (fun _ _ _ h => h) (Or.inl ⟨by rfl, ?_⟩) (by assumption) ?_
  rotate_left
  · intro w hSw; (try dsimp only at hSw); go_simp; (try with_reducible rfl)
  simp only [Act.put, List.setIfInBounds_toArray, List.set_cons_zero, List.set_cons_succ]
  refine wpAnyH_take (i := 15) (oi := { dst := Option.some 58, op := Go.Op.move (Go.Operand.tmp 57), type := 4, pos := "law.go:48", after := #[{ on := 14, ground := Go.Ground.data }, { on := 11, ground := Go.Ground.chain }], guard := Option.none }) (v := ?_) rfl (by kernel_rfl) (by kernel_rfl) (by kernel_rfl) (fun _ _ _ h => h) (Or.inl ⟨by rfl, ?_⟩) (by assumption) ?_
  rotate_left
  · intro w hSw; (try dsimp only at hSw); go_simp; (try with_reducible rfl)
  simp only [Act.put, List.setIfInBounds_toArray, List.set_cons_zero, List.set_cons_succ]
  refine wpAnyH_take (i := 16) (oi := { dst := Option.some 59, op := Go.Op.move (Go.Operand.tmp 11), type := 3, pos := "law.go:48", after := #[{ on := 15, ground := Go.Ground.guard }], guard := Option.some (15, Bool.false) }) (v := ?_) rfl (by kernel_rfl) (by kernel_rfl) (by kernel_rfl) (fun _ _ _ h => h) (Or.inl ⟨by rfl, ?_⟩) (by assumption) ?_
  rotate_left
  · intro w hSw; (try dsimp only at hSw); go_simp; (try with_reducible rfl)
  simp only [Act.put, List.setIfInBounds_toArray, List.set_cons_zero, List.set_cons_succ]
  refine wpAnyH_take (i := 17) (oi := { dst := Option.some 60, op := Go.Op.binOp Go.BinOp.neq 3 (Go.Operand.tmp 59) (Go.Operand.const (Go.Value.int Go.IntKind.i64 0)) 3, type := 4, pos := "law.go:48", after := #[{ on := 16, ground := Go.Ground.data }, { on := 15, ground := Go.Ground.guard }], guard := Option.some (15, Bool.false) }) (v := ?_) rfl (by kernel_rfl) (by kernel_rfl) (by kernel_rfl) (fun _ _ _ h => h) (Or.inl ⟨by rfl, ?_⟩) (by assumption) ?_
  rotate_left
  · intro w hSw; (try dsimp only at hSw); go_simp; (try with_reducible rfl)
  simp only [Act.put, List.setIfInBounds_toArray, List.set_cons_zero, List.set_cons_succ]
  refine wpAnyH_take (i := 18) (oi := { dst := Option.some 61, op := Go.Op.move (Go.Operand.tmp 60), type := 4, pos := "law.go:48", after := #[{ on := 17, ground := Go.Ground.data }, { on := 15, ground := Go.Ground.chain }, { on := 15, ground := Go.Ground.guard }], guard := Option.some (15, Bool.false) }) (v := ?_) rfl (by kernel_rfl) (by kernel_rfl) (by kernel_rfl) (fun _ _ _ h => h) (Or.inl ⟨by rfl, ?_⟩) (by assumption) ?_
  rotate_left
  · intro w hSw; (try dsimp only at hSw); go_simp; (try with_reducible rfl)
  simp only [Act.put, List.setIfInBounds_toArray, List.set_cons_zero, List.set_cons_succ]
  refine wpAnyH_take (i := 19) (oi := { dst := Option.some 62, op := Go.Op.load 36 (Go.Operand.tmp 9), type := 36, pos := "law.go:48", after := #[{ on := 18, ground := Go.Ground.guard }], guard := Option.some (18, Bool.true) }) (v := undef) rfl (by kernel_rfl) (by kernel_rfl) (by kernel_rfl) (fun _ _ _ h => h) (Or.inr ⟨by rfl, rfl⟩) (by assumption) ?_
  simp only [Act.put, List.setIfInBounds_toArray, List.set_cons_zero, List.set_cons_succ]
  refine wpAnyH_take (i := 20) (oi := { dst := Option.some 63, op := Go.Op.build 36 #[], type := 36, pos := "law.go:48", after := #[{ on := 18, ground := Go.Ground.guard }], guard := Option.some (18, Bool.true) }) (v := undef) rfl (by kernel_rfl) (by kernel_rfl) (by kernel_rfl) (fun _ _ _ h => h) (Or.inr ⟨by rfl, rfl⟩) (by assumption) ?_
  simp only [Act.put, List.setIfInBounds_toArray, List.set_cons_zero, List.set_cons_succ]
  refine wpAnyH_take (i := 21) (oi := { dst := Option.some 64, op := Go.Op.binOp Go.BinOp.neq 36 (Go.Operand.tmp 62) (Go.Operand.tmp 63) 36, type := 4, pos := "law.go:48", after := #[{ on := 19, ground := Go.Ground.data }, { on := 20, ground := Go.Ground.data }, { on := 18, ground := Go.Ground.guard }], guard := Option.some (18, Bool.true) }) (v := undef) rfl (by kernel_rfl) (by kernel_rfl) (by kernel_rfl) (fun _ _ _ h => h) (Or.inr ⟨by rfl, rfl⟩) (by assumption) ?_
  simp only [Act.put, List.setIfInBounds_toArray, List.set_cons_zero, List.set_cons_succ]
  refine wpAnyH_take (i := 22) (oi := { dst := Option.some 65, op := Go.Op.pick (Go.Operand.tmp 61) (Go.Operand.tmp 64) (Go.Operand.const (Go.Value.bool Bool.false)), type := 4, pos := "law.go:48", after := #[{ on := 18, ground := Go.Ground.data }, { on := 21, ground := Go.Ground.data }, { on := 15, ground := Go.Ground.guard }], guard := Option.some (15, Bool.false) }) (v := ?_) rfl (by kernel_rfl) (by kernel_rfl) (by kernel_rfl) (fun _ _ _ h => h) (Or.inl ⟨by rfl, ?_⟩) (by assumption) ?_
  rotate_left
  · intro w hSw; (try dsimp only at hSw); go_simp; (try with_reducible rfl)
  simp only [Act.put, List.setIfInBounds_toArray, List.set_cons_zero, List.set_cons_succ]
  refine wpAnyH_take (i := 23) (oi := { dst := Option.some 66, op := Go.Op.pick (Go.Operand.tmp 58) (Go.Operand.const (Go.Value.bool Bool.true)) (Go.Operand.tmp 65), type := 4, pos := "law.go:48", after := #[{ on := 15, ground := Go.Ground.data }, { on := 22, ground := Go.Ground.data }], guard := Option.none }) (v := ?_) rfl (by kernel_rfl) (by kernel_rfl) (by kernel_rfl) (fun _ _ _ h => h) (Or.inl ⟨by rfl, ?_⟩) (by assumption) ?_
  rotate_left
  · intro w hSw; (try dsimp only at hSw); go_simp; (try with_reducible rfl)
  simp only [Act.put, List.setIfInBounds_toArray, List.set_cons_zero, List.set_cons_succ]
  refine wpAnyH_done (by kernel_rfl) ?_ _
  have hbm : Below w4.heap.size w4 w6 := hKF2
  have hm : Mv (fun k => No k ∨ k = BX) (fun k => No k ∨ k = BX) w4 w6 := Mv.of_below hbm
  have T_6 := Lib.hid (T_4.out.step hm)
  clear T_4
  have Y_6 := Lib.hid (Y_5.out.step hm)
  clear Y_5
  have OX_6 := Lib.hid (OX_4.out.under hbm OX_4.out.lt)
  clear OX_4
  have HM_6 := Lib.hid (HM_4.out.trans hm)
  clear HM_4
  have WI_6 := Lib.hid (WI_4.out.mono hm.size)
  clear WI_4
  clear hm
  clear hbm hKF0 hKF1 hKF2
  clear Y_6
  have cv := conv_part OX_6.out 4 124 124 (by omega)
  rw [List.take_of_length_le (by rw [List.length_drop, HP.out]; omega)] at cv
  have HU := Lib.hid (fun w => refsum_any (strP (p.drop 4)) (by rw [strP_size, List.length_drop, HP.out]; omega) w)
  rw [byl_strP] at HU
  have hsl := sumL_lt (p.drop 4)
  have HF4 := Lib.hid (sum_fits (p.drop 4))
  have hz4 := sum_size (p.drop 4)
  have hl4 := sum_four (p.drop 4)
  obtain ⟨sm, hsm⟩ : ∃ q, q = sumL (p.drop 4) := ⟨_, rfl⟩
  rw [← hsm] at HU hsl HF4 hz4 hl4
  clear hsm
  have ew : IntKind.i64.wrap (sm : Int) = (sm : Int) := by simp [IntKind.wrap, IntKind.bits, IntKind.signed]; omega
  obtain ⟨s4, hs4⟩ : ∃ q, q = putB 4 (sm : Int) := ⟨_, rfl⟩
  rw [← hs4] at hz4 hl4
  obtain ⟨l, hl⟩ : ∃ q, q = s4.data.toList := ⟨_, rfl⟩
  rw [← hl] at hl4
  have HL4 := Lib.hid hl4
  have HSL : Hid (s4 = strP l) := Lib.hid (by rw [hl]; exact (strP_data s4).symm)
  have HS4 := Lib.hid hs4
  clear hl4 hl hs4
  go_wp2_with fail
  refine (HU.out _).mono ?_
  rintro e w7 ⟨rfl, hb⟩
  have hbm : Below w6.heap.size w6 w7 := hb
  clear hb
  have hm : Mv (fun k => No k ∨ k = BX) (fun k => No k ∨ k = BX) w6 w7 := Mv.of_below hbm
  have T_7 := Lib.hid (T_6.out.step hm)
  clear T_6
  have OX_7 := Lib.hid (OX_6.out.under hbm OX_6.out.lt)
  clear OX_6
  have HM_7 := Lib.hid (HM_6.out.trans hm)
  clear HM_6
  have WI_7 := Lib.hid (WI_6.out.mono hm.size)
  clear WI_6
  clear hm
  clear hbm
  clear cv
  go_wp2_with fail
  refine (rput_any (sm : Int) _ (by omega) HF4.out).mono ?_
  rintro e w8 ⟨rfl, hb⟩
  have hbm : Below w7.heap.size w7 w8 := hb
  clear hb
  have hm : Mv (fun k => No k ∨ k = BX) (fun k => No k ∨ k = BX) w7 w8 := Mv.of_below hbm
  have T_8 := Lib.hid (T_7.out.step hm)
  clear T_7
  have OX_8 := Lib.hid (OX_7.out.under hbm OX_7.out.lt)
  clear OX_7
  have HM_8 := Lib.hid (HM_7.out.trans hm)
  clear HM_7
  have WI_8 := Lib.hid (WI_7.out.mono hm.size)
  clear WI_7
  clear hm
  clear hbm
  rw [← HS4.out]
  clear HS4 hsl HF4 HU ew
  go_wp2_with fail
  go_loopg [13] 4 (fun gg s13 wr => ∃ i : Nat, i ≤ 4 ∧ 4 - i ≤ gg ∧ s13 = .int .i64 i ∧ Hid (Mv (fun k => No k ∨ k = BX) (fun k => No k ∨ k = BX) w8 wr ∧ PgAt wr BX (lay4 l p i)))
  case atStart => exact ⟨0, by omega, by omega, rfl, Lib.hid ⟨Mv.refl _ _, by rw [lay4_zero]; exact OX_8.out⟩⟩
  case round =>
    obtain ⟨i, hi, hg, rfl, HI⟩ := hrel
    by_cases hlt : i < 4
    · have hlz : (i : Int) < 4 := by omega
      obtain ⟨x, hx⟩ : ∃ x, l[i]? = some x := ⟨_, List.getElem?_eq_getElem (by rw [HL4.out]; omega)⟩
      obtain ⟨y, hy⟩ : ∃ y, (lay4 l p i)[i]? = some y := ⟨_, List.getElem?_eq_getElem (by rw [lay4_length l p HL4.out HP.out i (by omega)]; omega)⟩
      have cx := HI.out.2.byte i y hy
      have fx := HI.out.2.free i (by omega)
      have hb0 := byte_of l i x hx
      rw [← HSL.out] at hb0
      obtain ⟨hxs, hxe⟩ := hb0
      have HX := Lib.hid hx
      clear hx hy
      go_wp2_with fail
      have hpp := HI.out.2.put i x (by omega)
      rw [lay4_step l p HL4.out HP.out i hlt x HX.out] at hpp
      have hmm := HI.out.1.trans (Mv.set (S := (fun k => No k ∨ k = BX)) wr BX i (.int .u8 (x.toNat : Int)) (.inr rfl))
      have HN := Lib.hid (And.intro hmm hpp)
      clear hmm hpp hxe
      go_roundg (4 - (i + 1))
      case measure => omega
      case rel => exact ⟨i + 1, by omega, by omega, by go_num, HN⟩
    · have hlz : ¬ (i : Int) < 4 := by omega
      obtain rfl : i = 4 := by omega
      have hm := HI.out.1
      have hpx := HI.out.2
      have hql := lay4_length l p HL4.out HP.out 4 (by omega)
      obtain ⟨q, hq⟩ : ∃ q, q = lay4 l p 4 := ⟨_, rfl⟩
      rw [← hq] at hpx hql
      have HQ := Lib.hid hql
      clear hq hql HI
      have T_9 := Lib.hid (T_8.out.step hm)
      clear T_8
      have HM_9 := Lib.hid (HM_8.out.trans hm)
      clear HM_8
      have WI_9 := Lib.hid (WI_8.out.mono hm.size)
      clear WI_8
      clear hm
      clear OX_8
      have OX_9 := Lib.hid hpx
      clear hpx
      have HA := Lib.hid (fun w => read_fr q HQ.out w)
      have HC := Lib.hid (fun w => rread5 q HQ.out w)
      obtain ⟨qa, hqa⟩ : ∃ z, z = rdK q := ⟨_, rfl⟩
      rw [← hqa] at HA HC
      clear hqa
      obtain ⟨qs, hqs⟩ : ∃ z, z = rdD q := ⟨_, rfl⟩
      rw [← hqs] at HA HC
      clear hqs
      obtain ⟨qc, hqc⟩ : ∃ z, z = rdC q := ⟨_, rfl⟩
      rw [← hqc] at HA HC
      clear hqc
      go_wp2_with (first | ((with_reducible refine at_ld 35 (.tmp 6) ?_); refine ld_pr rfl _ rfl BX (0) rfl q ?_ ?_ ?_; exact HQ.out; exact OX_9.out.r))
      refine (HA.out _).mono ?_
      rintro e w9 ⟨v5, rfl, he, hb⟩
      have hbm : Below wr.heap.size wr w9 := hb
      clear hb
      have hm : Mv (fun k => No k ∨ k = BX) (fun k => No k ∨ k = BX) wr w9 := Mv.of_below hbm
      have hst := Stays.err he WI_9.out
      clear he
      have T_10 := Lib.hid (T_9.out.step hm)
      clear T_9
      have OX_10 := Lib.hid (OX_9.out.under hbm OX_9.out.lt)
      clear OX_9
      have HM_10 := Lib.hid (HM_9.out.trans hm)
      clear HM_9
      have WI_10 := Lib.hid (WI_9.out.mono hm.size)
      clear WI_9
      clear hm
      clear hbm
      have E5_11 := Lib.hid (hst)
      clear hst
      go_wp2_with (first | ((with_reducible refine at_ld 35 (.tmp 6) ?_); refine ld_pr rfl _ rfl BX (0) rfl q ?_ ?_ ?_; exact HQ.out; exact OX_10.out.r))
      refine (HC.out _).mono ?_
      rintro e w10 ⟨rfl, hb⟩
      have hbm : Below w9.heap.size w9 w10 := hb
      clear hb
      have hm : Mv (fun k => No k ∨ k = BX) (fun k => No k ∨ k = BX) w9 w10 := Mv.of_below hbm
      have T_12 := Lib.hid (T_10.out.step hm)
      clear T_10
      have E5_12 := Lib.hid (E5_11.out.step hm)
      clear E5_11
      have OX_12 := Lib.hid (OX_10.out.under hbm OX_10.out.lt)
      clear OX_10
      have HM_12 := Lib.hid (HM_10.out.trans hm)
      clear HM_10
      have WI_12 := Lib.hid (WI_10.out.mono hm.size)
      clear WI_10
      clear hm
      clear hbm
      go_wp2_with fail
      refine (Num_c _ v5 qc E5_12.out.now T_12.out.now).mono ?_
      rintro e w11 ⟨rfl, hb⟩
      have hbm : Below w10.heap.size w10 w11 := hb
      clear hb
      have hm : Mv (fun k => No k ∨ k = BX) (fun k => No k ∨ k = BX) w10 w11 := Mv.of_below hbm
      have T_13 := Lib.hid (T_12.out.step hm)
      clear T_12
      have E5_13 := Lib.hid (E5_12.out.step hm)
      clear E5_12
      have OX_13 := Lib.hid (OX_12.out.under hbm OX_12.out.lt)
      clear OX_12
      have HM_13 := Lib.hid (HM_12.out.trans hm)
      clear HM_12
      have WI_13 := Lib.hid (WI_12.out.mono hm.size)
      clear WI_12
      clear hm
      clear hbm
      go_wp2_with fail
      go_ret
      exact ⟨rfl, HM_13.out.below⟩
theorem fplays_walk (k : Int) (d : ByteArray) (p : Pg) (m : Bool) (w : World) (wk : (Lit.int .i64 k).wf = true) (wd : d.size ≤ 140737488351232) (hp : p.length = 128) (tied : Tied w) : Calls Tryd.prog 5 #[.int .i64 k, .string d, .agg (pv p).toArray, .bool m] w fun e w' => e = .returned (.bool true) ∧ Below w.heap.size w w' := by
  by_cases h : 500 < d.size
  · exact plays_big k d p m hp h w tied
  have h0 : d.size ≤ 500 := by omega
  by_cases g0 : k < 1
  · cases m
    · exact plays_00 k d p hp h0 g0 w tied
    · exact plays_01 k d p hp h0 g0 w tied
  by_cases g1 : 255 < k
  · cases m
    · exact plays_10 k d p hp h0 g0 g1 w tied
    · exact plays_11 k d p hp h0 g0 g1 w tied
  by_cases g2 : 120 < d.size
  · cases m
    · exact plays_20 k d p hp h0 g0 g1 g2 w tied
    · exact plays_21 k d p hp h0 g0 g1 g2 w tied
  · cases m
    · exact plays_30 k d p hp h0 g0 g1 g2 w tied
    · exact plays_31 k d p hp h0 g0 g1 g2 w tied
end Go.Proofs.YtmnkgcgmbdkjaaaDoor
