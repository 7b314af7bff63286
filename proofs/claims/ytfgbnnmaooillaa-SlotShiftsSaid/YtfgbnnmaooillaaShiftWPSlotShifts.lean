/- SlotShifts: the walk. -/
import Derived.Test.YtfgbnnmaooillaaShiftPPSlotShifts
import Derived.Deep.LoopGhost
import Derived.Deep.AppendLies
import Derived.Outline
namespace Go.Proofs.Ytfgbnnmaooillaa
open Go.ChangeShapes Go.WideShapes Go.RowKit Go.Lib Go.Proofs.YtfgbnnmaooillaaW.PrintWords Go.Proofs.YtfgbnnmaooillaaW.PrintLast Go.Proofs.YtfgbnnmaooillaaW.PrintMore Go.Proofs.Ytfgbnnmaooillaa.PSlotShifts
set_option linter.unusedVariables false
set_option linter.unusedSimpArgs false

theorem news3 (w : World) (x y z : Value) (t : TypeId) : ∀ j u, [x, y, z][j]? = some u → (w.alloc (.cells #[x, y, z] t)).cell? ((⟨w.heap.size, 0, none⟩ : Addr).add j) = some u := by
  intro j u hj
  rw [Go.WideShapes.add_plain, Nat.zero_add]
  match j, hj with
  | 0, hj => simp at hj; subst hj; simp
  | 1, hj => simp at hj; subst hj; simp
  | 2, hj => simp at hj; subst hj; simp
theorem news3' (w : World) (n : Nat) (hn : n = w.heap.size) (x y z : Value) (t : TypeId) : ∀ j u, [x, y, z][j]? = some u → (w.alloc (.cells #[x, y, z] t)).cell? ((⟨n, 0, none⟩ : Addr).add j) = some u := by
  subst hn; exact news3 w x y z t
theorem own_under {w w' : World} {base : Nat} {e : TypeId} {size n : Nat} {v : Value} {xs : List Value} (h : w.ownsRow base e size v n xs) (hb : Below w.heap.size w w') : w'.ownsRow base e size v n xs :=
  own_move h (fun k hk => hb.block k (own_lt h k hk))
/-- two rows in blocks of their own -/
def Apt (a b : Value) : Prop := ∀ k, a.ownBlock = some k → b.ownBlock ≠ some k
theorem Apt.ne {a b : Value} (h : Apt a b) : b.ownBlock = none ∨ b.ownBlock ≠ a.ownBlock := by
  cases hb : b.ownBlock with
  | none => exact .inl rfl
  | some k => exact .inr fun e => h k e.symm hb
theorem Apt.symm {a b : Value} (h : Apt a b) : Apt b a := fun k hk hk' => h k hk' hk
/-- what holds of both rows at a round's head -/
structure Two (W wr : World) (d : Int) (L : List SB) (a b : Value) : Prop where
  oa : wr.ownsRow W.heap.size 31 3 a L.length (cells3 L)
  ob : wr.ownsRow W.heap.size 31 3 b L.length (cells3 (L.map (shB d)))
  ap : Apt a b
  below : Below W.heap.size W wr
theorem Two.under {W w w' : World} {d : Int} {L : List SB} {a b : Value} (h : Two W w d L a b) (hb : Below w.heap.size w w') : Two W w' d L a b :=
  ⟨own_under h.oa hb, own_under h.ob hb, h.ap, h.below.trans (hb.mono h.below.size)⟩
theorem own_nil0 (W : World) (base : Nat) (e : TypeId) (size : Nat) : W.ownsRow base e size (.slice none 0 0) 0 [] := ⟨by simp, .inl ⟨rfl, rfl⟩⟩
theorem grown_cell {w w' : World} {row : Option Nat} (hg : w.grownBy w' row) {a : Addr} {v : Value} (h : w.cell? a = some v) (hne : ∀ k, row = some k → k ≠ a.block) : w'.cell? a = some v :=
  hg.cell h (fun e => hne _ e.symm rfl)
theorem grown_frozen {w w' : World} {row : Option Nat} (hg : w.grownBy w' row) {a : Addr} (hlt : a.block < w.heap.size) (h : w.frozen? a = false) (hne : ∀ k, row = some k → k ≠ a.block) : w'.frozen? a = false := by
  rw [World.frozen?_of_block (hg.block a.block hlt (fun e => hne _ e.symm rfl))]; exact h
theorem kept_setCell {w : World} {base : Nat} {e : TypeId} {size n : Nat} {v : Value} {xs : List Value} (h : w.ownsRow base e size v n xs) {a : Addr} (ha : ∀ k, v.ownBlock = some k → k ≠ a.block) (u : Value) : (w.setCell a u).ownsRow base e size v n xs :=
  own_move h (fun k hk => Below.heap_setCell w a u k (ha k hk))

/-- a struct of the call's own, behind an append to another row -/
theorem box_after {w3 w5 : World} {o2 : Obj} {x y z : Value} {t : TypeId} {base n : Nat} {e : TypeId} {v : Value} {xs : List Value} (ho : w3.ownsRow base e 3 v n xs) (hg : ((w3.alloc (.cells #[x, y, z] t)).alloc o2).grownBy w5 v.ownBlock) :
    (w5.cell? ⟨w3.heap.size, 0, none⟩ = some x ∧ w5.cell? ⟨w3.heap.size, 1, none⟩ = some y ∧ w5.cell? ⟨w3.heap.size, 2, none⟩ = some z) ∧ w5.frozen? ⟨w3.heap.size, 1, none⟩ = false ∧ w5.frozen? ⟨w3.heap.size, 2, none⟩ = false ∧ w3.heap.size + 2 ≤ w5.heap.size := by
  have hne : ∀ k, v.ownBlock = some k → k ≠ w3.heap.size := fun k hk => by have := own_lt ho k hk; omega
  have hs := hg.size
  simp at hs
  exact ⟨⟨grown_cell hg (by simp) hne, grown_cell hg (by simp) hne, grown_cell hg (by simp) hne⟩, grown_frozen hg (by simp; omega) (by simp) hne, grown_frozen hg (by simp; omega) (by simp) hne, hs⟩

theorem cell_set_other (w : World) (b o o' : Nat) (u : Value) (h : o ≠ o') : (w.setCell ⟨b, o, none⟩ u).cell? ⟨b, o', none⟩ = w.cell? ⟨b, o', none⟩ :=
  World.cell?_setCell_other w _ _ u (fun e => by injection e with _ e2 _; omega)
/-- both rows behind a round that adds -/
theorem Two.add {W w3 w5 w7 w8 : World} {d f0 f1 f2 : Int} {L : List SB} {a b va vb : Value} {o2 o4 : Obj} {x y z u1 u2 : Value} {t : TypeId} (h : Two W w3 d L a b)
    (oa : w5.ownsRow W.heap.size 31 3 va (L.length + 1) (cells3 L ++ [.int .i64 f0, .int .i64 f1, .int .i64 f2])) (hg : ((w3.alloc (.cells #[x, y, z] t)).alloc o2).grownBy w5 a.ownBlock)
    (hat : va.ownBlock = a.ownBlock ∨ va.ownBlock = some ((w3.alloc (.cells #[x, y, z] t)).alloc o2).heap.size)
    (h7 : w7 = ((w5.setCell ⟨w3.heap.size, 1, none⟩ u1).setCell ⟨w3.heap.size, 2, none⟩ u2).alloc o4)
    (ob : w8.ownsRow W.heap.size 31 3 vb ((L.map (shB d)).length + 1) (cells3 (L.map (shB d)) ++ [.int .i64 f0, .int .i64 (f1 + d), .int .i64 (f2 + d)])) (hg2 : w7.grownBy w8 b.ownBlock)
    (hat2 : vb.ownBlock = b.ownBlock ∨ vb.ownBlock = some w7.heap.size) : Two W w8 d (L ++ [⟨f0, f1, f2⟩]) va vb := by
  have hlt : ∀ k, b.ownBlock = some k → k < w3.heap.size := fun k hk => own_lt h.ob k hk
  have hlta : ∀ k, va.ownBlock = some k → k < w5.heap.size := fun k hk => own_lt oa k hk
  have hs5 := hg.size
  simp at hs5
  have hs7 : w7.heap.size = w5.heap.size + 1 := by rw [h7]; simp
  have hbase : W.heap.size ≤ w3.heap.size := h.below.size
  have apA : ∀ k, va.ownBlock = some k → b.ownBlock ≠ some k := fun k hk hb => by
    rcases hat with e | e
    · exact h.ap k (e ▸ hk) hb
    · have := hlt k hb; rw [hk] at e; simp at e; omega
  have hneA : ∀ k, va.ownBlock = some k → k ≠ w3.heap.size := fun k hk => by
    rcases hat with e | e
    · have := own_lt h.oa k (e ▸ hk); omega
    · rw [hk] at e; simp at e; omega
  refine ⟨?_, ?_, fun k hk hk' => ?_, ?_⟩
  · rw [List.length_append, cells3_snoc]
    have h6 : ((w5.setCell ⟨w3.heap.size, 1, none⟩ u1).setCell ⟨w3.heap.size, 2, none⟩ u2).ownsRow W.heap.size 31 3 va (L.length + 1) (cells3 L ++ [.int .i64 f0, .int .i64 f1, .int .i64 f2]) := kept_setCell (kept_setCell oa hneA _) hneA _
    have h7' := h6.alloc o4
    rw [← h7] at h7'
    exact own_move h7' (fun k hk => hg2.block k (by rw [hs7]; have := hlta k hk; omega) (fun e => apA k hk e.symm))
  · rw [List.map_append, List.length_append, List.map_singleton, cells3_snoc]
    rw [List.length_map] at ob
    exact ob
  · rcases hat2 with e | e
    · exact apA k hk (e ▸ hk')
    · have := hlta k hk; rw [hk'] at e; simp at e; omega
  · have hb5 : Below W.heap.size W w5 := ((h.below.alloc hbase _).alloc (by simp; omega) _).grown hg (by simp; omega) (fun k hk => (h.oa.lt k hk).1)
    have hb7 : Below W.heap.size W w7 := by rw [h7]; exact ((hb5.setCell (by exact hbase) _).setCell (by exact hbase) _).alloc (by simp; omega) _
    exact hb7.grown hg2 (by omega) (fun k hk => (h.ob.lt k hk).1)

theorem shifts_long (A : Option Addr) (cp : Nat) (l : List RB) (d p q : Int) (W : World) (h : RBs W A l cp) (hl : 60 < l.length) :
    Calls Try.prog 4 #[.slice A l.length cp, .int .u8 d, .int .u8 p, .int .u8 q] W fun e w' => e = .returned (.bool true) ∧ Below W.heap.size W w' := by
  have hd : decide ((60 : Int) < (l.length : Int)) = true := by simp; omega
  have HR := Lib.hid h
  clear h
  go_enter Try.func4, Try.ntmps4
  go_wp2_with fail
  refine (awake_call _).mono ?_
  rintro e w1 ⟨rfl, hb⟩
  have HB := Lib.hid hb
  clear hb
  go_wp2_with fail
  refine (awake_call _).mono ?_
  rintro e w2 ⟨rfl, hb⟩
  have HB2 := Lib.hid (bstep0 HB.out hb)
  clear hb
  go_wp2_with fail
  go_ret
  exact ⟨rfl, HB2.out⟩
set_option maxHeartbeats 1000000 in
theorem shifts_short (A : Option Addr) (cp : Nat) (l : List RB) (d p q : Int) (W : World) (h : RBs W A l cp) (hl : l.length ≤ 60) (d0 : 0 ≤ d) (d1 : d ≤ 255) (p0 : 0 ≤ p) (p1 : p ≤ 255) (q0 : 0 ≤ q) (q1 : q ≤ 255) :
    Calls Try.prog 4 #[.slice A l.length cp, .int .u8 d, .int .u8 p, .int .u8 q] W fun e w' => e = .returned (.bool true) ∧ Below W.heap.size W w' := by
  obtain ⟨L, hL⟩ : ∃ L, L = l.map ofR := ⟨_, rfl⟩
  have hLl : L.length = l.length := by rw [hL]; simp
  have HL := Lib.hid hL
  have HLl := Lib.hid hLl
  have hd : decide ((60 : Int) < (l.length : Int)) = false := by simp; omega
  have HR := Lib.hid h
  clear h hL hLl
  obtain ⟨i0, hi, hz0, hz1, hz2⟩ := info_parts info_bk
  go_enter Try.func4, Try.ntmps4
  go_wp2_with fail
  refine (awake_call _).mono ?_
  rintro e w1 ⟨rfl, hb⟩
  have HB := Lib.hid hb
  clear hb
  go_wp2_with fail
  go_loopg [9, 10, 11] l.length (fun gg s9 s10 s11 wr => ∃ j : Nat, j ≤ l.length ∧ l.length - j ≤ gg ∧ s11 = .int .i64 j ∧ Hid (Two W wr d (selL (l.take j)) s9 s10))
  case atStart => exact ⟨0, Nat.zero_le _, by omega, rfl, Lib.hid ⟨own_nil0 _ _ _ _, own_nil0 _ _ _ _, fun k hk => by simp [Value.ownBlock] at hk, HB.out⟩⟩
  case round =>
    obtain ⟨j, hj, hg, rfl, HT⟩ := hrel
    by_cases hlt : j < l.length
    · have hltz : (j : Int) < (l.length : Int) := by omega
      have hLj : j < L.length := by have := HLl.out; omega
      have hcpl : l.length ≤ cp := HR.out.2.1
      obtain ⟨ad, e, y0, y1, y2⟩ := at_T30 (HR.out.below HT.out.below).1 (j : Int) (by omega) hltz
      subst e
      rw [rdR_nat l j hlt, Int.toNat_natCast] at y0 y1 y2
      have hLjr : Hid (L[j] = ofR l[j]) := by show _ = _; simp [HL.out]
      obtain ⟨t, ht⟩ : ∃ t, t = l[j] := ⟨_, rfl⟩
      rw [← ht] at hLjr y0 y1 y2
      have hsn := sel_snoc l j hlt
      rw [← ht] at hsn
      have HSN := Lib.hid hsn
      have HRt := Lib.hid (fun w => dynamoref20_Right.calls t.f0 t.f1 t.f2 _ w (rRight_f t.f0 t.f1 t.f2))
      clear ht hsn
      have hkj : (selL (l.take j)).length ≤ j := by
        have h1 := sel_len (l.take j)
        have h2 : (l.take j).length ≤ j := by rw [List.length_take]; omega
        omega
      obtain ⟨K, hK⟩ : ∃ K, K = selL (l.take j) := ⟨_, rfl⟩
      rw [← hK] at HT HSN hkj
      clear hK
      cases hrb : rightB ⟨t.f0, t.f1, t.f2⟩ with
      | false =>
        rw [hrb] at HRt
        have HE : Hid (selL (l.take (j + 1)) = K) := by
          show _ = _
          rw [HSN.out, if_neg (by simp [okS, toBkR, hrb]), List.append_nil]
        clear hrb
        go_wp2_with fail
        refine (HRt.out _).mono ?_
        rintro e w2 ⟨rfl, hb⟩
        have HT2 := Lib.hid (HT.out.under hb)
        clear hb
        go_wp2_with fail
        go_roundg (l.length - (j + 1))
        case measure => omega
        case rel => exact ⟨j + 1, by omega, by omega, by go_num, by rw [HE.out]; exact HT2⟩
      | true =>
        rw [hrb] at HRt
        have hr5 : 0 ≤ t.f0 ∧ t.f0 ≤ 9 ∧ 0 ≤ t.f1 ∧ t.f1 < t.f2 ∧ t.f2 ≤ 2147483647 := of_decide_eq_true hrb
        obtain ⟨r0, r1, r2, r3, r4⟩ := hr5
        by_cases hbig : t.f2 < 1073741824
        · have HE : Hid (selL (l.take (j + 1)) = K ++ [ofR t]) := by
            show _ = _
            rw [HSN.out, if_pos (by simp [okS, toBkR, hrb, hbig])]
          clear hrb
          go_wp2_with fail
          refine (HRt.out _).mono ?_
          rintro e w2 ⟨rfl, hb⟩
          have HT2 := Lib.hid (HT.out.under hb)
          have z2 : w2.cell? ⟨(ad.add (j * 3)).block, (ad.add (j * 3)).off + 2, none⟩ = some (.int .i64 t.f2) := (hb.cell (cell_old y2)).trans y2
          clear hb y0 y1 y2
          go_wp2_with fail
          refine (of_call (some ad) cp l _ (HR.out.below HT2.out.below) (by omega)).mono ?_
          rintro e w3 ⟨v3, rfl, hv, hb⟩
          rw [← HL.out] at hv
          obtain ⟨g4, cap4, rfl, x0, x1, x2⟩ := R_cells hv j hLj
          rw [HLl.out]
          have e0 : L[j].f0 = t.f0 := by rw [hLjr.out]; rfl
          have e1 : L[j].f1 = t.f1 := by rw [hLjr.out]; rfl
          have e2 : L[j].f2 = t.f2 := by rw [hLjr.out]; rfl
          rw [e0] at x0; rw [e1] at x1; rw [e2] at x2
          have HT3 := Lib.hid (HT2.out.under hb)
          have hs3 : W.heap.size ≤ w3.heap.size := HT3.out.below.size
          clear hv hb e0 e1 e2
          obtain ⟨f0, hf0⟩ : ∃ f, f = t.f0 := ⟨_, rfl⟩
          obtain ⟨f1, hf1⟩ : ∃ f, f = t.f1 := ⟨_, rfl⟩
          obtain ⟨f2, hf2⟩ : ∃ f, f = t.f2 := ⟨_, rfl⟩
          rw [← hf0] at r0 r1 x0
          rw [← hf1] at r2 r3 x1
          rw [← hf2] at r3 r4 x2 hbig
          have HF := Lib.hid (show ofR t = ⟨f0, f1, f2⟩ by rw [hf0, hf1, hf2]; rfl)
          clear hf0 hf1 hf2 z2
          have HNews := Lib.hid (show ∀ j u, [Value.int .i64 f0, .int .i64 f1, .int .i64 f2][j]? = some u → ((w3.alloc (.cells #[.int .i64 f0, .int .i64 f1, .int .i64 f2] 31)).alloc (.cells #[.int .i64 f0, .int .i64 f1, .int .i64 f2] 31)).cell? ((⟨w3.heap.size + 1, 0, none⟩ : Addr).add j) = some u from
            news3' _ _ (by simp) _ _ _ _)
          go_upto_region 12 with (at_builtin; refine wpList_append_own_at _ rfl _ _ 24 rfl W.heap.size 31 i0 (.agg #[.int .i64 0, .int .i64 0, .int .i64 0]) 3 24 Try.underlying24 hi hz0 hz1 hz2 rfl (by decide) _ _ _ rfl ((HT3.out.oa.alloc _).alloc _) ⟨w3.heap.size + 1, 0, none⟩ 1 1 [.int .i64 f0, .int .i64 f1, .int .i64 f2] rfl rfl HNews.out (fun u hu => by simp at hu; rcases hu with rfl | rfl | rfl <;> rfl) (by unfold maxLen; omega) (by omega) (by simp; omega) ?_; intro va w5 hown' hg _ hat; have O5 := Lib.hid hown'; have G5 := Lib.hid hg; have AT5 := Lib.hid hat; obtain ⟨⟨X0, X1, X2⟩, F1, F2, S5⟩ := box_after HT3.out.oa hg; clear hown' hg hat)
          have HNews2 := Lib.hid (show ∀ j u, [Value.int .i64 f0, .int .i64 (f1 + d), .int .i64 (f2 + d)][j]? = some u → (((w5.setCell ⟨w3.heap.size, 1, none⟩ (.int .i64 (f1 + d))).setCell ⟨w3.heap.size, 2, none⟩ (.int .i64 (f2 + d))).alloc (.cells #[.int .i64 f0, .int .i64 (f1 + d), .int .i64 (f2 + d)] 31)).cell? ((⟨w5.heap.size, 0, none⟩ : Addr).add j) = some u from
            news3' _ _ (by simp only [size_setCell']) _ _ _ _)
          have HOB := Lib.hid (show ((w5.setCell ⟨w3.heap.size, 1, none⟩ (.int .i64 (f1 + d))).setCell ⟨w3.heap.size, 2, none⟩ (.int .i64 (f2 + d))).ownsRow W.heap.size 31 3 u10 (K.map (shB d)).length (cells3 (K.map (shB d))) from by
            rw [List.length_map]
            have hne : ∀ k, u10.ownBlock = some k → k ≠ w3.heap.size := fun k hk => by have := own_lt HT3.out.ob k hk; omega
            exact kept_setCell (kept_setCell (own_move ((HT3.out.ob.alloc _).alloc _) (fun k hk => G5.out.block k (by have := own_lt HT3.out.ob k hk; simp; omega) (fun e => HT3.out.ap k e.symm hk))) (a := ⟨w3.heap.size, 1, none⟩) hne _) (a := ⟨w3.heap.size, 2, none⟩) hne _)
          have hkm : (K.map (shB d)).length ≤ j := by rw [List.length_map]; exact hkj
          go_wp2_with (at_builtin; refine wpList_append_own_at _ rfl _ _ 24 rfl W.heap.size 31 i0 (.agg #[.int .i64 0, .int .i64 0, .int .i64 0]) 3 24 Try.underlying24 hi hz0 hz1 hz2 rfl (by decide) _ _ _ rfl (HOB.out.alloc _) ⟨w5.heap.size, 0, none⟩ 1 1 [.int .i64 f0, .int .i64 (f1 + d), .int .i64 (f2 + d)] rfl rfl HNews2.out (fun u hu => by simp at hu; rcases hu with rfl | rfl | rfl <;> rfl) (by unfold maxLen; omega) (by omega) (by simp; omega) ?_; intro vb w8 hown' hg _ hat; have O8 := Lib.hid hown'; have G8 := Lib.hid hg; have AT8 := Lib.hid hat; clear hown' hg hat)
          go_roundg (l.length - (j + 1))
          case measure => omega
          case rel => exact ⟨j + 1, by omega, by omega, by go_num, by rw [HE.out, HF.out]; exact Lib.hid (HT3.out.add O5.out G5.out AT5.out rfl O8.out G8.out AT8.out)⟩
        · have HE : Hid (selL (l.take (j + 1)) = K) := by
            show _ = _
            rw [HSN.out, if_neg (by simp [okS, toBkR, hbig]), List.append_nil]
          clear hrb
          go_wp2_with fail
          refine (HRt.out _).mono ?_
          rintro e w2 ⟨rfl, hb⟩
          have HT2 := Lib.hid (HT.out.under hb)
          have z2 : w2.cell? ⟨(ad.add (j * 3)).block, (ad.add (j * 3)).off + 2, none⟩ = some (.int .i64 t.f2) := (hb.cell (cell_old y2)).trans y2
          clear hb y0 y1 y2
          go_wp2_with fail
          go_roundg (l.length - (j + 1))
          case measure => omega
          case rel => exact ⟨j + 1, by omega, by omega, by go_num, by rw [HE.out]; exact HT2⟩
    · have hltb : decide ((j : Int) < (l.length : Int)) = false := by simp; omega
      have hse : selL (l.take j) = selL l := by rw [List.take_of_length_le (by omega)]
      rw [hse] at HT
      clear hse
      obtain ⟨K, hK⟩ : ∃ K, K = selL l := ⟨_, rfl⟩
      have hsm := sel_small l
      have hkl := sel_len l
      rw [← hK] at HT hsm hkl
      clear hK
      have hpk := peak_shift d p q d0 d1 K hsm
      have hpa := past_shift d p K
      have HPK := Lib.hid hpk
      have HPA := Lib.hid hpa
      clear hpk hpa hsm
      have HRa := Lib.hid (fun w (hb : Below wr.heap.size wr w) => R_of_cells (HT.out.under hb).oa)
      have HRb := Lib.hid (fun w (hb : Below wr.heap.size wr w) => R_of_cells (L := K.map (shB d)) (v := _) (w := w) (by rw [List.length_map]; exact (HT.out.under hb).ob))
      have hB0 := Lib.hid (Below.refl wr.heap.size wr)
      go_wp2_with fail
      refine (peak_call p q _ (HRa.out _ hB0.out) (by omega)).mono ?_
      rintro e w2 ⟨rfl, hb⟩
      have hB2 := Lib.hid hb
      clear hb
      go_wp2_with fail
      refine (peak_call (p + d) (q + d) _ (HRb.out _ hB2.out) (by rw [List.length_map]; omega)).mono ?_
      rintro e w3 ⟨rfl, hb⟩
      rw [HPK.out]
      have hB3 := Lib.hid (bstep0 hB2.out hb)
      clear hb
      go_wp2_with fail
      refine (past_any _ K p _ (HRa.out _ hB3.out) (by omega)).mono ?_
      rintro e w4 ⟨v4, rfl, ⟨A4, c4, rfl, _, _⟩, hb⟩
      have hB4 := Lib.hid (bstep0 hB3.out hb)
      clear hb
      go_wp2_with fail
      refine (past_any _ (K.map (shB d)) (p + d) _ (HRb.out _ hB4.out) (by rw [List.length_map]; omega)).mono ?_
      rintro e w5 ⟨v5, rfl, ⟨A5, c5, rfl, _, _⟩, hb⟩
      rw [HPA.out]
      have hB5 := Lib.hid (bstep0 hB4.out hb)
      clear hb
      go_wp2_with fail
      go_ret
      exact ⟨by simp, HT.out.below.trans (hB5.out.mono HT.out.below.size)⟩
theorem shifts_walk (A : Option Addr) (cp : Nat) (l : List RB) (d p q : Int) (W : World) (h : RBs W A l cp) (w1 : (Lit.int .u8 d).wf = true) (w2 : (Lit.int .u8 p).wf = true) (w3 : (Lit.int .u8 q).wf = true) :
    Calls Try.prog 4 #[.slice A l.length cp, .int .u8 d, .int .u8 p, .int .u8 q] W fun e w' => e = .returned (.bool true) ∧ Below W.heap.size W w' := by
  have wf : ∀ {n : Int}, (Lit.int .u8 n).wf = true → 0 ≤ n ∧ n ≤ 255 := fun h => by simpa [Lit.wf, IntKind.min, IntKind.max, IntKind.signed, IntKind.bits] using h
  by_cases hl : l.length ≤ 60
  · exact shifts_short A cp l d p q W h hl (wf w1).1 (wf w1).2 (wf w2).1 (wf w2).2 (wf w3).1 (wf w3).2
  · exact shifts_long A cp l d p q W h (by omega)
end Go.Proofs.Ytfgbnnmaooillaa
