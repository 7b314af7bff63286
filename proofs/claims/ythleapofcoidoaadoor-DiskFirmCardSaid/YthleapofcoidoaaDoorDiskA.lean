/- dynamolaw04.awake: the document's example. -/
import Derived.Test.YthleapofcoidoaaDoorDiskC
namespace Go.Proofs.YthleapofcoidoaaDoor
open Go.RowKit Go.Extern.Stop Go.Stop Go.Extern
set_option linter.unusedVariables false
set_option linter.unusedSimpArgs false

def p5 : Pg := [1, 1, 1, 1, 1] ++ List.replicate 123 0
def p3 : Pg := [1, 1, 1] ++ List.replicate 125 0
theorem p5_length : p5.length = 128 := by rfl
theorem p3_length : p3.length = 128 := by rfl
theorem aw_firm : crashP 0 3 (List.replicate 4 zp) [(0, p5)] = [p3, zp, zp, zp] := by kernel_rfl
theorem aw_read : readP [p3, zp, zp, zp] [] 0 = p3 := by rfl
theorem build_p5 (w : World) : (Instr.build 36 #[(0, .int .u8 1), (1, .int .u8 1), (2, .int .u8 1), (3, .int .u8 1), (4, .int .u8 1)]).run Tryd.prog w = .ok (.agg (pv p5).toArray) w := by kernel_rfl
theorem build_p3 (w : World) : (Instr.build 36 #[(0, .int .u8 1), (1, .int .u8 1), (2, .int .u8 1)]).run Tryd.prog w = .ok (.agg (pv p3).toArray) w := by kernel_rfl
theorem beq_pg (p : Pg) : (p == p) = true := by simp
theorem wpList_want {P : Program} {ops : Array Oper} {rest : List Oper} {op : Oper} {a : Act} {w : World} {Q : Exit → Act → World → Prop} (hw : Region.wanted op (yielded ops a.tmps) = true)
    (h : ∀ K : Act → World → Prop, (∀ a w, wpList P ops Q rest a w → K a w) → op.wp P a w K Q) : wpList P ops Q (op :: rest) a w := wpList_step fun K hK => by rw [if_pos hw]; exact h K hK
section
variable {ops : Array Oper} {rest : List Oper} {op : Oper} {a : Act} {w : World} {Q : Exit → Act → World → Prop}
/-- a page out of wherever it lies, behind a test -/
theorem ldw_pg (hw : Region.wanted op (yielded ops a.tmps) = true) (x : Operand) (ho : op.op = .load 36 x) (b o : Nat) (hx : a.eval x = .pointer (some ⟨b, o, none⟩)) (p : Pg) (hp : p.length = 128) (hc : w.rangeAt b o (pv p))
    (h : wpList Tryd.prog ops Q rest (a.put op.dst (.agg (pv p).toArray)) w) : wpList Tryd.prog ops Q (op :: rest) a w :=
  wpList_want hw fun _ hK => wp_load_mid 36 x ho b o hx (pv p) _ hc Tryd.underlying36 rfl (size_of hp) (hK _ _ h)
theorem at_bin {P : Program} (o : BinOp) (ty : TypeId) (x y : Operand) {ty' : TypeId} {d : Option Tmp} {t : TypeId} {s : String} {f : Array Edge} {g : Option (Nat × Bool)} (h : wpList P ops Q (⟨d, .binOp o ty x y ty', t, s, f, g⟩ :: rest) a w) : wpList P ops Q (⟨d, .binOp o ty x y ty', t, s, f, g⟩ :: rest) a w := h
set_option maxRecDepth 100000 in
/-- two pages side by side, behind a test -/
theorem eqw_pg (hw : Region.wanted op (yielded ops a.tmps) = true) (x y : Operand) (ho : op.op = .binOp .eql 36 x y 36) (p q : Pg) (hx : a.eval x = .agg (pv p).toArray) (hy : a.eval y = .agg (pv q).toArray) (hp : p.length = 128) (hq : q.length = 128)
    (h : wpList Tryd.prog ops Q rest (a.put op.dst (.bool (p == q))) w) : wpList Tryd.prog ops Q (op :: rest) a w := by
  refine wpList_want hw fun K hK => ?_
  unfold Oper.wp execOp
  have he := eql_pg w p q hp hq
  have hgq := run_eqGuard_agg (P := Tryd.prog) w .eql 36 x y (pv p).toArray (pv q).toArray (by kernel_rfl)
  simp only [ho, hx, hy, Sem.run_bind, Sem.run_pure, Result.andThen_ok, he, hgq]
  exact hK _ _ h
end
theorem its_ge {w : World} {base D F : Nat} {v : Value} {firm : List Pg} {loose : Ls} {down : Bool} (h : DiskIn w base D F v firm loose down) : ∀ k, Its D F v k → base ≤ k := fun k hk => by
  rcases hk with rfl | rfl | hk
  · exact h.bD
  · exact h.bF
  · exact (h.hl.lt k hk).1
theorem DiskIn.low {w w' : World} {base D F : Nat} {v : Value} {firm : List Pg} {loose : Ls} {down : Bool} (h : DiskIn w base D F v firm loose down) (ht : Touch (Its D F v) w w') : Below base w w' :=
  ht.below (by have := h.bF; have := h.lF; omega) (its_ge h)
set_option maxHeartbeats 1000000 in
set_option maxRecDepth 100000 in
theorem awake_true (w : World) (hT : Tied w) : Calls Tryd.prog 16 #[] w fun e w' => e = .returned (.bool true) ∧ Below w.heap.size w w' := by
  have HT := Lib.hid hT
  clear hT
  have hb5 := build_p5
  have hb3 := build_p3
  go_enter Tryd.func16, Tryd.ntmps16
  go_wp2_with fail
  refine (new_ok 4 _ (by omega) (by omega)).mono ?_
  rintro e w1 ⟨D, F, rfl, hd, hb⟩
  have HB1 := Lib.hid hb
  have HD1 := Lib.hid hd
  clear hd hb
  go_wp2_with fail
  refine (write_any 0 p5 HD1.out (by simp) p5_length).mono ?_
  rintro e w2 ⟨ev, rfl, he, hor⟩
  obtain rfl : ev = .nilIface := ErrC.zero he
  obtain ⟨v2, HD2, HV2, HT2⟩ : ∃ v2, Hid (DiskIn w2 w.heap.size D F v2 (List.replicate 4 zp) [(0, p5)] false) ∧ Hid (v2.ownBlock = (Value.slice none 0 0).ownBlock ∨ ∃ k, v2.ownBlock = some k ∧ w1.heap.size ≤ k) ∧ Hid (Touch (Its D F (.slice none 0 0)) w1 w2) := by
    rcases hor with ⟨h, _⟩ | ⟨_, v2, h1, h2, h3⟩
    · exact absurd rfl h
    · exact ⟨v2, Lib.hid h1, Lib.hid h2, Lib.hid h3⟩
  clear he hor
  go_wp2_with fail
  refine (crash_any 0 3 HD2.out (by simp) (by omega) (by omega) (by omega)).mono ?_
  rintro e w3 ⟨rfl, hd, ht⟩
  rw [aw_firm] at hd
  have HD3 := Lib.hid hd
  have HT3 := Lib.hid ht
  clear hd ht
  go_wp2_with fail
  refine (read_any 0 HD3.out (by simp)).mono ?_
  rintro e w4 ⟨ev, rfl, he, hb⟩
  rw [show mayC true ([p3, zp, zp, zp] : List Pg).length 0 = 7 from rfl] at he ⊢
  rw [if_neg (by decide)]
  have HE4 := Lib.hid he
  have HB4 := Lib.hid hb
  clear he hb
  go_wp2_with (first | ((with_reducible refine at_al 36 ?_); refine al_pg rfl rfl ?_) | ((with_reducible refine at_st 36 (.tmp 4) (.tmp 20) ?_); refine st_new rfl _ _ rfl _ _ _ rfl rfl zp ?_ rfl ?_ ?_; exact zp_length; exact zsz))
  have HB5 := Lib.hid (HB4.out.trans ((Below.refl w4.heap.size w4).alloc (Nat.le_refl _) (.cells (pv zp).toArray 36) |>.mono HB4.out.size))
  have HE5 := Lib.hid (HE4.out.alloc (.cells (pv zp).toArray 36))
  have HD5 := Lib.hid (HD3.out.under HB5.out)
  obtain ⟨w5, hw5⟩ : ∃ q, q = w4.alloc (.cells (pv zp).toArray 36) := ⟨_, rfl⟩
  rw [← hw5] at HB5 HE5 HD5 ⊢
  clear hw5
  refine (up_any HD5.out).mono ?_
  rintro e w6 ⟨rfl, hd, ht⟩
  have HD6 := Lib.hid hd
  have HT6 := Lib.hid ht
  clear hd ht
  go_wp2_with fail
  refine (read_any 0 HD6.out (by simp)).mono ?_
  rintro e w7 ⟨eh, rfl, he, hb⟩
  rw [show mayC false ([p3, zp, zp, zp] : List Pg).length 0 = 0 from rfl] at he ⊢
  rw [if_pos rfl, aw_read]
  obtain rfl : eh = .nilIface := ErrC.zero he
  have HB7 := Lib.hid hb
  clear he hb
  go_wp2_with (first | ((with_reducible refine at_al 36 ?_); refine al_pg rfl rfl ?_) | ((with_reducible refine at_st 36 (.tmp 6) (.tmp 27) ?_); refine st_new rfl _ _ rfl _ _ _ rfl rfl p3 ?_ rfl ?_ ?_; exact p3_length; exact zsz))
  have B2 : Below w.heap.size w w2 := HB1.out.trans (HD1.out.low HT2.out)
  have B3 : Below w.heap.size w w3 := B2.trans (HD2.out.low HT3.out)
  have B5 : Below w.heap.size w w5 := B3.trans (HB5.out.mono B3.size)
  have B6 : Below w.heap.size w w6 := B5.trans (HD5.out.low HT6.out)
  have B7 : Below w.heap.size w w7 := B6.trans (HB7.out.mono B6.size)
  have hb8 := (Below.refl w7.heap.size w7).alloc (Nat.le_refl _) (.cells (pv p3).toArray 36)
  have HR8 := Lib.hid (range_new w7 p3 36)
  obtain ⟨w8, hw8⟩ : ∃ q, q = w7.alloc (.cells (pv p3).toArray 36) := ⟨_, rfl⟩
  rw [← hw8] at hb8 HR8 ⊢
  have HB8 := Lib.hid (B7.trans (hb8.mono B7.size))
  have HT8 := Lib.hid (HT.out.under HT.out.lt HB8.out)
  have hE6 : ErrC w3.heap.size w6 ev 7 := err_touch HE5.out HT6.out (fun k hk hs => by
    have h1 := HD3.out.lD
    have h2 := HD3.out.lF
    rcases hs with rfl | rfl | hs
    · omega
    · omega
    · simp [Value.ownBlock] at hs)
  have HE8 := Lib.hid ((hE6.under HB7.out).under hb8)
  clear B2 B3 B5 B6 B7 hw8 hb8 hE6
  refine (Num_nil w8).mono ?_
  rintro e _ ⟨rfl, rfl⟩
  go_wp2_with fail
  refine (Num_nil w8).mono ?_
  rintro e _ ⟨rfl, rfl⟩
  go_wp2_with fail
  refine (Num_c w8 _ 7 HE8.out HT8.out).mono ?_
  rintro e w9 ⟨rfl, hb⟩
  have HB9 := Lib.hid hb
  clear hb
  go_wp2_with fail
  refine (Num_nil w9).mono ?_
  rintro e _ ⟨rfl, rfl⟩
  have HR9 : Hid (w9.rangeAt w7.heap.size 0 (pv p3)) := Lib.hid ((Touch.of_below (S := fun _ => False) HB9.out).range HR8.out (fun h => h))
  have hbq := beq_pg p3
  go_wp2_with (first | ((with_reducible refine at_ld 36 (.tmp 6) ?_); refine ldw_pg (by first | rfl | go_simp) (.tmp 6) rfl w7.heap.size 0 rfl p3 ?_ ?_ ?_; exact p3_length; exact HR9.out) | ((with_reducible refine at_bin .eql 36 (.tmp 48) (.tmp 49) ?_); refine eqw_pg (by first | rfl | go_simp) (.tmp 48) (.tmp 49) rfl p3 p3 ?_ ?_ ?_ ?_ ?_; rfl; rfl; exact p3_length; exact p3_length))
  go_ret
  exact ⟨rfl, HB8.out.trans (HB9.out.mono HB8.out.size)⟩
end Go.Proofs.YthleapofcoidoaaDoor
