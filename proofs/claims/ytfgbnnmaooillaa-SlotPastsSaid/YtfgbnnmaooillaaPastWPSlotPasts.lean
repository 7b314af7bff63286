/- SlotPasts: the walk. -/
import Derived.Test.YtfgbnnmaooillaaFnEPSlotPasts
import Derived.Test.YtfgbnnmaooillaaSlotAPSlotPasts
import Derived.Test.YtfgbnnmaooillaaReg
import Derived.Deep.CutRange
import Derived.Deep.RegionHeld3
import Derived.Deep.Cut
import Derived.Deep.DeepCutAuto
import Derived.Deep.LoopGhost
import Derived.Outline
namespace Go.Proofs.Ytfgbnnmaooillaa
open Go.ChangeShapes Go.WideShapes Go.RowKit Go.Lib Go.Proofs.YtfgbnnmaooillaaW.PrintWords Go.Proofs.YtfgbnnmaooillaaW.PrintLast Go.Proofs.YtfgbnnmaooillaaW.PrintMore Go.Proofs.Ytfgbnnmaooillaa.PSlotPasts
set_option linter.unusedVariables false
set_option linter.unusedSimpArgs false

theorem rRight_f (a b c : Int) : dynamoref20_Right.f a b c = some (rightB ⟨a, b, c⟩) := by
  unfold dynamoref20_Right.f
  by_cases h1 : a ≥ 0
  · rw [if_pos h1]
    by_cases h2 : a ≤ 9
    · rw [if_pos h2]
      by_cases h3 : b ≥ 0
      · rw [if_pos h3]
        by_cases h4 : b < c
        · rw [if_pos h4]; congr 1; rw [Bool.eq_iff_iff]; simp [rightB]; omega
        · rw [if_neg h4]; congr 1; symm; simp [rightB]; omega
      · rw [if_neg h3]; congr 1; symm; simp [rightB]; omega
    · rw [if_neg h2]; congr 1; symm; simp [rightB]; omega
  · rw [if_neg h1]; congr 1; symm; simp [rightB]; omega
def toBkR (s : RB) : Bk := ⟨s.f0, s.f1, s.f2⟩
theorem rCount_end (l : List RB) (x y acc : Int) (k : Nat) (hk : 0 < k) (hl : l.length = 1) : dynamoref20_Count.l0 k l x y acc 1 = some acc := by
  obtain ⟨k, rfl⟩ : ∃ j, k = j + 1 := ⟨k - 1, by omega⟩
  rw [dynamoref20_Count.l0, if_neg (by omega)]
theorem rCount_one (s : RB) (x : Int) (k : Nat) (hk : 2 < k) : dynamoref20_Count.f k [s] x (-1) = some (if holdsB (toBkR s) x = true then 1 else 0) := by
  obtain ⟨k, rfl⟩ : ∃ j, k = j + 1 := ⟨k - 1, by omega⟩
  have hr : rd_T30 [s] 0 = s := rfl
  have w1 : wrap64 (0 + 1) = 1 := by unfold wrap64; omega
  unfold dynamoref20_Count.f
  rw [dynamoref20_Count.l0, if_pos (by simp), if_pos (by omega), hr, rRight_f]
  simp only [Option.bind_some]
  have he : ∀ acc, dynamoref20_Count.l0 k [s] x (-1) acc (wrap64 (0 + 1)) = some acc := fun acc => by rw [w1]; exact rCount_end [s] x (-1) acc k (by omega) rfl
  rw [he, he, w1, if_pos (show (-1 : Int) < 0 by omega)]
  have hh : holdsB (toBkR s) x = (rightB ⟨s.f0, s.f1, s.f2⟩ && decide (s.f1 ≤ x ∧ x < s.f2)) := rfl
  rw [hh]
  cases h : rightB ⟨s.f0, s.f1, s.f2⟩ with
  | false => rw [if_neg (by simp), if_neg (by simp)]
  | true =>
    rw [if_pos rfl]
    by_cases h1 : x ≥ s.f1
    · rw [if_pos h1]
      by_cases h2 : x < s.f2
      · rw [if_pos h2, if_pos (by simp; omega)]
      · rw [if_neg h2, if_neg (by simp; omega)]
    · rw [if_neg h1, if_neg (by simp; omega)]
theorem past_snoc (tick : Int) (l : List SB) (i : Nat) (h : i < l.length) : pastB tick (l.take (i + 1)) = pastB tick (l.take i) ++ if tick < l[i].f2 then [l[i]] else [] := by
  unfold pastB
  rw [List.take_succ_eq_append_getElem h, List.filter_append]
  by_cases hh : tick < l[i].f2 <;> simp [hh]
theorem past_at (tick : Int) (l : List SB) (i : Nat) (h : i < l.length) (hp : tick < l[i].f2) : ∃ hk : (pastB tick (l.take i)).length < (pastB tick l).length, (pastB tick l)[(pastB tick (l.take i)).length] = l[i] := by
  have e : pastB tick l = pastB tick (l.take i) ++ (l[i] :: pastB tick (l.drop (i + 1))) := by
    conv => lhs; rw [← List.take_append_drop i l, List.drop_eq_getElem_cons h]
    unfold pastB
    rw [List.filter_append, List.filter_cons, if_pos (by simpa using hp)]
  have hk : (pastB tick (l.take i)).length < (pastB tick l).length := by rw [e]; simp
  refine ⟨hk, ?_⟩
  apply Option.some.inj
  rw [← List.getElem?_eq_getElem hk]
  conv => lhs; rw [e]
  simp
theorem of_snoc (r x : Int) (l : List SB) (i : Nat) (h : i < l.length) : ofB r x (l.take (i + 1)) = (ofB r x (l.take i) || ofP r x l[i].f0 l[i].f1 l[i].f2) := by
  unfold ofB
  rw [List.take_succ_eq_append_getElem h, List.any_append]
  simp
theorem of_call (A : Option Addr) (cp : Nat) (l : List RB) (W : World) (h : RBs W A l cp) (hl : l.length ≤ 1000) :
    Calls Try.prog 7 #[.slice A l.length cp] W fun e w' => ∃ v0_ : Value, e = .returned v0_ ∧ Kd.R kSB 31 w' W.heap.size (fun _ => True) v0_ (l.map ofR) ∧ Below W.heap.size W w' :=
  dynamolaw20_of.calls 1001 A cp l _ W h.1 h.2.1 (sof_f l hl 1001 (by omega))
theorem awake_call (W : World) : Calls Try.prog 6 #[] W fun e w' => e = .returned (.bool true) ∧ Below W.heap.size W w' := dynamolaw20_awake.calls 7 true W (sawake_f 7 (by omega))
theorem RBs.below {W w' : World} {A : Option Addr} {l : List RB} {cp : Nat} (h : RBs W A l cp) (hb : Below W.heap.size W w') : RBs w' A l cp := ⟨Kd.C_below h.1 hb, h.2.1, h.2.2⟩
theorem bstep0 {W w1 w2 : World} (h : Below W.heap.size W w1) (k : Below w1.heap.size w1 w2) : Below W.heap.size W w2 := h.trans (k.mono h.size)

theorem R_cells {w : World} {base : Nat} {ok : Nat → Prop} {v : Value} {l : List SB} (h : Kd.R kSB 31 w base ok v l) (j : Nat) (hj : j < l.length) :
    ∃ g cap, v = .slice (some ⟨g, 0, none⟩) l.length cap ∧ w.cell? ⟨g, j * 3, none⟩ = some (.int .i64 l[j].f0) ∧ w.cell? ⟨g, j * 3 + 1, none⟩ = some (.int .i64 l[j].f1) ∧ w.cell? ⟨g, j * 3 + 2, none⟩ = some (.int .i64 l[j].f2) := by
  rcases R_own3 h with ⟨_, rfl⟩ | ⟨g, cap, rfl, hc, _, hlt, hB⟩
  · cases hj
  · obtain ⟨a, b, c⟩ := mOf_at l j hj
    obtain ⟨x0, x1, x2⟩ := load3 hB j hj
    simp only [Nat.zero_add] at x0 x1 x2
    rw [a] at x0; rw [b] at x1; rw [c] at x2
    exact ⟨g, cap, rfl, x0, x1, x2⟩
theorem rdS_at (l : List SB) (i : Nat) (h : i < l.length) : rd_T31 l (i : Int) = l[i] := rdS_nat l i h
/-- the next of what isn't past, in memory -/
theorem past_cells {w : World} {A : Option Addr} (x : Int) (L : List SB) (j : Nat) (hj : j < L.length) (hp : x < L[j].f2) (h : Kd.C kSB w A (pastB x L).length (pastB x L)) :
    ∃ ad, A = some ad ∧ (pastB x (L.take j)).length < (pastB x L).length ∧ w.cell? (ad.add ((pastB x (L.take j)).length * 3)) = some (.int .i64 L[j].f0) ∧ w.cell? ⟨(ad.add ((pastB x (L.take j)).length * 3)).block, (ad.add ((pastB x (L.take j)).length * 3)).off + 1, none⟩ = some (.int .i64 L[j].f1) ∧ w.cell? ⟨(ad.add ((pastB x (L.take j)).length * 3)).block, (ad.add ((pastB x (L.take j)).length * 3)).off + 2, none⟩ = some (.int .i64 L[j].f2) := by
  obtain ⟨hk, e⟩ := past_at x L j hj hp
  obtain ⟨ad, rfl, a, b, c⟩ := at_T31 h ((pastB x (L.take j)).length : Int) (by omega) (by omega)
  rw [rdS_at _ _ hk, Int.toNat_natCast, e] at a b c
  exact ⟨ad, rfl, hk, a, b, c⟩

theorem C_one {w : World} {ad : Addr} {l : List RB} (h : Kd.C k30 w (some ad) l.length l) (j : Nat) (hj : j < l.length) : Kd.C k30 w (some (ad.add (j * 3))) 1 [l[j]] := by
  have h1 := Kd.C_mid (c := l.length) h (Nat.le_succ j) hj (Nat.le_refl _)
  rw [if_neg (by omega)] at h1
  have e : (l.take (j + 1)).drop j = [l[j]] := by
    rw [List.take_succ_eq_append_getElem hj, List.drop_append_of_le_length (by rw [List.length_take]; omega), List.drop_of_length_le (by rw [List.length_take]; omega), List.nil_append]
  rw [e] at h1
  exact h1
theorem pasts_long (A : Option Addr) (cp : Nat) (l : List RB) (r x : Int) (W : World) (h : RBs W A l cp) (hl : 60 < l.length) :
    Calls Try.prog 5 #[.slice A l.length cp, .int .i64 r, .int .i64 x] W fun e w' => e = .returned (.bool true) ∧ Below W.heap.size W w' := by
  have hd : decide ((60 : Int) < (l.length : Int)) = true := by simp; omega
  have HR := Lib.hid h
  clear h
  go_enter Try.func5, Try.ntmps5
  go_wp2_with fail
  refine (awake_call _).mono ?_
  rintro e w1 ⟨rfl, hb⟩
  have HB := Lib.hid hb
  clear hb
  go_wp2_with fail
  refine (awake_call _).mono ?_
  rintro e w2 ⟨rfl, hb⟩
  have HB2 := Lib.hid (bstep0 HB.out hb)
  clear hb
  go_wp2_with fail
  go_ret
  exact ⟨rfl, HB2.out⟩
set_option maxHeartbeats 1000000 in
theorem pasts_short (A : Option Addr) (cp : Nat) (l : List RB) (r x : Int) (W : World) (h : RBs W A l cp) (hl : l.length ≤ 60) :
    Calls Try.prog 5 #[.slice A l.length cp, .int .i64 r, .int .i64 x] W fun e w' => e = .returned (.bool true) ∧ Below W.heap.size W w' := by
  obtain ⟨L, hL⟩ : ∃ L, L = l.map ofR := ⟨_, rfl⟩
  have hLl : L.length = l.length := by rw [hL]; simp
  have HL := Lib.hid hL
  have HLl := Lib.hid hLl
  have hd : decide ((60 : Int) < (l.length : Int)) = false := by simp; omega
  have HR := Lib.hid h
  clear h hL hLl
  go_enter Try.func5, Try.ntmps5
  go_wp2_with fail
  refine (awake_call _).mono ?_
  rintro e w1 ⟨rfl, hb⟩
  have HB := Lib.hid hb
  clear hb
  go_wp2_with fail
  refine (of_call A cp l _ (HR.out.below HB.out) (by omega)).mono ?_
  rintro e w2 ⟨v2, rfl, hv, hb⟩
  have HV := Lib.hid hv
  have HB2 := Lib.hid (bstep0 HB.out hb)
  clear hv hb
  go_wp2_with fail
  rw [← HL.out] at HV
  refine (past_any v2 L x _ HV.out (by have := HLl.out; omega)).mono ?_
  rintro e w3 ⟨v3, rfl, ⟨Ap, cap, rfl, hcap, hC⟩, hb⟩
  have HC := Lib.hid hC
  have HCap := Lib.hid hcap
  have HB3 := Lib.hid (bstep0 HB2.out hb)
  clear hC hcap hb
  obtain ⟨np, hnp⟩ : ∃ np, np = (pastB x L).length := ⟨_, rfl⟩
  rw [← hnp]
  have HNP := Lib.hid hnp
  clear hnp
  go_wp2_with fail
  go_loopg [8, 9, 10] l.length (fun gg s8 s9 s10 wr => ∃ j : Nat, j ≤ l.length ∧ l.length - j ≤ gg ∧ s10 = .int .i64 j ∧ s8 = .int .i64 (pastB x (L.take j)).length ∧ s9 = .bool (ofB r x (L.take j)) ∧ Hid (Below w3.heap.size w3 wr))
  case atStart => exact ⟨0, Nat.zero_le _, by omega, rfl, rfl, rfl, Lib.hid (Below.refl _ _)⟩
  case round =>
    obtain ⟨j, hj, hg, rfl, rfl, rfl, HBW⟩ := hrel
    have HBA := Lib.hid (bstep0 HB3.out HBW.out)
    by_cases hlt : j < l.length
    · have hltz : (j : Int) < (l.length : Int) := by omega
      have hLj : j < L.length := by have := HLl.out; omega
      have hcpl : l.length ≤ cp := HR.out.2.1
      have hcpj : ¬ cp = j := by omega
      obtain ⟨ad, e, y0, y1, y2⟩ := at_T30 (HR.out.below HBA.out).1 (j : Int) (by omega) hltz
      subst e
      rw [rdR_nat l j hlt, Int.toNat_natCast] at y0 y1 y2
      have hLjr : Hid (L[j] = ofR l[j]) := by show _ = _; simp [HL.out]
      have HOne := Lib.hid (show ∀ w, Below W.heap.size W w → Calls Try.prog 11 #[.slice (some (ad.add (j * 3))) 1 (cp - j), .int .i64 x, .int .i64 (-1)] w fun e w' => e = .returned (.int .i64 (if holdsB (toBkR l[j]) x = true then 1 else 0)) ∧ Below w.heap.size w w' from
        fun w hb => dynamoref20_Count.calls 3 (some (ad.add (j * 3))) (cp - j) [l[j]] x (-1) _ w (C_one (HR.out.below hb).1 j hlt) (by simp; omega) (rCount_one l[j] x 3 (by omega)))
      obtain ⟨hv, hhv⟩ : ∃ b, b = holdsB (toBkR l[j]) x := ⟨_, rfl⟩
      rw [← hhv] at HOne
      have HHV := Lib.hid hhv
      obtain ⟨q0, hq0⟩ : ∃ q, q = l[j].f0 := ⟨_, rfl⟩
      obtain ⟨q1, hq1⟩ : ∃ q, q = l[j].f1 := ⟨_, rfl⟩
      obtain ⟨q2, hq2⟩ : ∃ q, q = l[j].f2 := ⟨_, rfl⟩
      rw [← hq0] at y0
      rw [← hq1] at y1
      rw [← hq2] at y2
      have hL0 : L[j].f0 = q0 ∧ L[j].f1 = q1 ∧ L[j].f2 = q2 := by rw [hLjr.out]; exact ⟨hq0.symm, hq1.symm, hq2.symm⟩
      have HLj := Lib.hid hL0
      have hofs : ofP r x L[j].f0 L[j].f1 L[j].f2 = (q0 == r && hv) := by
        rw [hLjr.out, hhv, hq0]; rfl
      have HOF := Lib.hid ((of_snoc r x L j hLj).trans (by rw [hofs]))
      have HPS := Lib.hid (past_snoc x L j hLj)
      clear hL0 hq0 hq1 hq2 hofs hhv
      have hkj : (pastB x (L.take j)).length ≤ j := by
        have h1 := List.length_filter_le (fun s : SB => decide (x < s.f2)) (L.take j)
        have h2 : (L.take j).length ≤ j := by simp; omega
        exact Nat.le_trans h1 h2
      go_upto_if 35 with fail
      go_cut [8] from 23 to 73 (fun s8 wx => s8 = .int .i64 (pastB x (L.take (j + 1))).length ∧ Hid (Below w3.heap.size w3 wx))
      case first =>
        by_cases hx : x < q2
        · obtain ⟨adp, rfl, hkl, p0, p1, p2⟩ := past_cells x L j hLj (by rw [HLj.out.2.2]; exact hx) (Kd.C_below HC.out HBW.out)
          rw [HLj.out.1] at p0; rw [HLj.out.2.1] at p1; rw [HLj.out.2.2] at p2
          have hpl : (pastB x (L.take (j + 1))).length = (pastB x (L.take j)).length + 1 := by rw [HPS.out, HLj.out.2.2, if_pos hx]; simp
          have HPL := Lib.hid hpl
          obtain ⟨kk, hkk⟩ : ∃ kk, kk = (pastB x (L.take j)).length := ⟨_, rfl⟩
          rw [← hkk] at p0 p1 p2 hkl hkj HPL ⊢
          rw [← HNP.out] at hkl
          have hklz : (kk : Int) < (np : Int) := by omega
          have hkld : decide (np ≤ kk) = false := by simp; omega
          have HCell := Lib.hid (show ∀ (w : World) (base : Nat) (ok : Nat → Prop) (v : Value), Kd.R kSB 31 w base ok v L → ∃ g cap, v = .slice (some ⟨g, 0, none⟩) L.length cap ∧ w.cell? ⟨g, j * 3, none⟩ = some (.int .i64 q0) ∧ w.cell? ⟨g, j * 3 + 1, none⟩ = some (.int .i64 q1) ∧ w.cell? ⟨g, j * 3 + 2, none⟩ = some (.int .i64 q2) from fun w base ok v h => by
            obtain ⟨g, cap, e, x0, x1, x2⟩ := R_cells h j hLj
            rw [HLj.out.1] at x0; rw [HLj.out.2.1] at x1; rw [HLj.out.2.2] at x2
            exact ⟨g, cap, e, x0, x1, x2⟩)
          clear hkk hpl
          have HS := Lib.hid (show ∀ w', Below wr.heap.size wr w' → w'.cell? (adp.add (kk * 3)) = some (.int .i64 q0) ∧ w'.cell? ⟨(adp.add (kk * 3)).block, (adp.add (kk * 3)).off + 1, none⟩ = some (.int .i64 q1) ∧ w'.cell? ⟨(adp.add (kk * 3)).block, (adp.add (kk * 3)).off + 2, none⟩ = some (.int .i64 q2) ∧ Below wr.heap.size wr w' from
            fun w' h => ⟨(h.cell (cell_old p0)).trans p0, (h.cell (p := ⟨(adp.add (kk * 3)).block, (adp.add (kk * 3)).off + 1, none⟩) (cell_old p1)).trans p1, (h.cell (p := ⟨(adp.add (kk * 3)).block, (adp.add (kk * 3)).off + 2, none⟩) (cell_old p2)).trans p2, h⟩)
          have HP := Lib.hid (show ∀ w', (w'.cell? (adp.add (kk * 3)) = some (.int .i64 q0) ∧ w'.cell? ⟨(adp.add (kk * 3)).block, (adp.add (kk * 3)).off + 1, none⟩ = some (.int .i64 q1) ∧ w'.cell? ⟨(adp.add (kk * 3)).block, (adp.add (kk * 3)).off + 2, none⟩ = some (.int .i64 q2) ∧ Below wr.heap.size wr w') → Below wr.heap.size wr w' from fun w' h => h.2.2.2)
          clear p0 p1 p2
          go_upto_region 10 with fail
          go_cut [51] from 23 to 73 (fun s51 wx => s51 = .bool false ∧ Hid (Below wr.heap.size wr wx))
          case first =>
            refine wp_region_held_drew (S := (fun w' => w'.cell? (adp.add (kk * 3)) = some (.int .i64 q0) ∧ w'.cell? ⟨(adp.add (kk * 3)).block, (adp.add (kk * 3)).off + 1, none⟩ = some (.int .i64 q1) ∧ w'.cell? ⟨(adp.add (kk * 3)).block, (adp.add (kk * 3)).off + 2, none⟩ = some (.int .i64 q2) ∧ Below wr.heap.size wr w')) (by kernel_rfl) ?_ (fun hHeld => ?_)
            · exact HS.out _ (Below.drew (Below.refl _ _))
            refine wpAnyH_take (i := 0) (oi := { dst := some 36, op := Go.Op.move (Go.Operand.tmp 8), type := 3, pos := "law.go:104", after := #[], guard := none }) (v := ?_) rfl (by kernel_rfl) (by kernel_rfl) (by kernel_rfl) (fun _ _ _ h => h) (Or.inl ⟨by rfl, ?_⟩) (by assumption) ?_
            rotate_left
            · intro w hSw; (try dsimp only at hSw); go_simp; (try with_reducible rfl)
            simp only [Act.put, List.setIfInBounds_toArray, List.set_cons_zero, List.set_cons_succ]
            refine wpAnyH_take (i := 1) (oi := { dst := some 37, op := Go.Op.move (Go.Operand.tmp 7), type := 24, pos := "law.go:104", after := #[], guard := none }) (v := ?_) rfl (by kernel_rfl) (by kernel_rfl) (by kernel_rfl) (fun _ _ _ h => h) (Or.inl ⟨by rfl, ?_⟩) (by assumption) ?_
            rotate_left
            · intro w hSw; (try dsimp only at hSw); go_simp; (try with_reducible rfl)
            simp only [Act.put, List.setIfInBounds_toArray, List.set_cons_zero, List.set_cons_succ]
            refine wpAnyH_take (i := 2) (oi := { dst := some 38, op := Go.Op.call { callee := Go.Callee.builtin Go.Builtin.len, args := #[Go.Operand.tmp 37], argTypes := #[24] }, type := 3, pos := "law.go:104", after := #[{ on := 1, ground := Go.Ground.data }], guard := none }) (v := ?_) rfl (by kernel_rfl) (by kernel_rfl) (by kernel_rfl) (fun _ _ _ h => h) (Or.inl ⟨by rfl, ?_⟩) (by assumption) ?_
            rotate_left
            · intro w hSw; (try dsimp only at hSw); go_simp; (try with_reducible rfl)
            simp only [Act.put, List.setIfInBounds_toArray, List.set_cons_zero, List.set_cons_succ]
            refine wpAnyH_take (i := 3) (oi := { dst := some 39, op := Go.Op.binOp Go.BinOp.geq 3 (Go.Operand.tmp 36) (Go.Operand.tmp 38) 3, type := 4, pos := "law.go:104", after := #[{ on := 0, ground := Go.Ground.data }, { on := 2, ground := Go.Ground.data }], guard := none }) (v := ?_) rfl (by kernel_rfl) (by kernel_rfl) (by kernel_rfl) (fun _ _ _ h => h) (Or.inl ⟨by rfl, ?_⟩) (by assumption) ?_
            rotate_left
            · intro w hSw; (try dsimp only at hSw); go_simp; (try with_reducible rfl)
            simp only [Act.put, List.setIfInBounds_toArray, List.set_cons_zero, List.set_cons_succ]
            refine wpAnyH_take (i := 4) (oi := { dst := some 40, op := Go.Op.move (Go.Operand.tmp 39), type := 4, pos := "law.go:104", after := #[{ on := 3, ground := Go.Ground.data }], guard := none }) (v := ?_) rfl (by kernel_rfl) (by kernel_rfl) (by kernel_rfl) (fun _ _ _ h => h) (Or.inl ⟨by rfl, ?_⟩) (by assumption) ?_
            rotate_left
            · intro w hSw; (try dsimp only at hSw); go_simp; (try with_reducible rfl)
            simp only [Act.put, List.setIfInBounds_toArray, List.set_cons_zero, List.set_cons_succ]
            refine wpAnyH_take (i := 5) (oi := { dst := some 41, op := Go.Op.move (Go.Operand.tmp 7), type := 24, pos := "law.go:104", after := #[{ on := 4, ground := Go.Ground.guard }], guard := some (4, false) }) (v := ?_) rfl (by kernel_rfl) (by kernel_rfl) (by kernel_rfl) (fun _ _ _ h => h) (Or.inl ⟨by rfl, ?_⟩) (by assumption) ?_
            rotate_left
            · intro w hSw; (try dsimp only at hSw); go_simp; (try with_reducible rfl)
            simp only [Act.put, List.setIfInBounds_toArray, List.set_cons_zero, List.set_cons_succ]
            refine wpAnyH_take (i := 6) (oi := { dst := some 42, op := Go.Op.move (Go.Operand.tmp 8), type := 3, pos := "law.go:104", after := #[{ on := 4, ground := Go.Ground.guard }], guard := some (4, false) }) (v := ?_) rfl (by kernel_rfl) (by kernel_rfl) (by kernel_rfl) (fun _ _ _ h => h) (Or.inl ⟨by rfl, ?_⟩) (by assumption) ?_
            rotate_left
            · intro w hSw; (try dsimp only at hSw); go_simp; (try with_reducible rfl)
            simp only [Act.put, List.setIfInBounds_toArray, List.set_cons_zero, List.set_cons_succ]
            refine wpAnyH_take (i := 7) (oi := { dst := some 43, op := Go.Op.indexAddr 24 (Go.Operand.tmp 41) (Go.Operand.tmp 42), type := 0, pos := "law.go:104", after := #[{ on := 5, ground := Go.Ground.data }, { on := 6, ground := Go.Ground.data }, { on := 4, ground := Go.Ground.guard }], guard := some (4, false) }) (v := ?_) rfl (by kernel_rfl) (by kernel_rfl) (by kernel_rfl) (fun _ _ _ h => h) (Or.inl ⟨by rfl, ?_⟩) (by assumption) ?_
            rotate_left
            · intro w hSw; (try dsimp only at hSw); go_simp; (try with_reducible rfl)
            simp only [Act.put, List.setIfInBounds_toArray, List.set_cons_zero, List.set_cons_succ]
            refine wpAnyH_take (i := 8) (oi := { dst := some 44, op := Go.Op.load 31 (Go.Operand.tmp 43), type := 31, pos := "law.go:104", after := #[{ on := 7, ground := Go.Ground.data }, { on := 4, ground := Go.Ground.guard }], guard := some (4, false) }) (v := ?_) rfl (by kernel_rfl) (by kernel_rfl) (by kernel_rfl) (fun _ _ _ h => h) (Or.inl ⟨by rfl, ?_⟩) (by assumption) ?_
            rotate_left
            · intro w hSw; (try dsimp only at hSw); go_simp; (try with_reducible rfl)
            simp only [Act.put, List.setIfInBounds_toArray, List.set_cons_zero, List.set_cons_succ]
            refine wpAnyH_take (i := 9) (oi := { dst := some 45, op := Go.Op.move (Go.Operand.tmp 0), type := 22, pos := "law.go:104", after := #[{ on := 4, ground := Go.Ground.guard }], guard := some (4, false) }) (v := ?_) rfl (by kernel_rfl) (by kernel_rfl) (by kernel_rfl) (fun _ _ _ h => h) (Or.inl ⟨by rfl, ?_⟩) (by assumption) ?_
            rotate_left
            · intro w hSw; (try dsimp only at hSw); go_simp; (try with_reducible rfl)
            simp only [Act.put, List.setIfInBounds_toArray, List.set_cons_zero, List.set_cons_succ]
            refine wpAnyH_take (i := 11) (oi := { dst := some 47, op := Go.Op.move (Go.Operand.tmp 10), type := 3, pos := "law.go:104", after := #[{ on := 4, ground := Go.Ground.guard }], guard := some (4, false) }) (v := ?_) rfl (by kernel_rfl) (by kernel_rfl) (by kernel_rfl) (fun _ _ _ h => h) (Or.inl ⟨by rfl, ?_⟩) (by assumption) ?_
            rotate_left
            · intro w hSw; (try dsimp only at hSw); go_simp; (try with_reducible rfl)
            simp only [Act.put, List.setIfInBounds_toArray, List.set_cons_zero, List.set_cons_succ]
            refine wpAnyH_ready (rs := [10]) (by kernel_rfl) (by simp) ?_
            refine AllReadyH.cons (o := { dst := some 46, op := Go.Op.call { callee := Go.Callee.value (Go.Operand.func 7), args := #[Go.Operand.tmp 45], argTypes := #[22] }, type := 24, pos := "law.go:104", after := #[{ on := 9, ground := Go.Ground.data }, { on := 4, ground := Go.Ground.chain }, { on := 4, ground := Go.Ground.guard }], guard := some (4, false) }) rfl (fun K hK => ?_) AllReadyH.nil
            go_simp
            (go_at_call 7; (with_reducible refine (of_call (some ad) cp l _ ((HR.out.below HBA.out).below (HP.out _ (by assumption))) (by omega)).mono ?_); rintro e wn ⟨v4, rfl, hv, hb⟩; rw [← HL.out] at hv; obtain ⟨g4, cap4, rfl, z0, z1, z2⟩ := HCell.out _ _ _ _ hv; rw [HLl.out]; have HBN := Lib.hid (bstep0 (HP.out _ (by assumption)) hb); clear hb hv)
            go_wp2_with fail
            refine hK.out _ _ (HS.out _ HBN.out) (fun _ => wpAnyH_switch (S' := (fun w' => w'.cell? ⟨g4, j * 3, none⟩ = some (.int .i64 q0) ∧ w'.cell? ⟨g4, j * 3 + 1, none⟩ = some (.int .i64 q1) ∧ w'.cell? ⟨g4, j * 3 + 2, none⟩ = some (.int .i64 q2) ∧ Below wr.heap.size wr w')) (fun w h => HS.out w h.2.2.2) _ _ _ _ ?_)
            have hHeld2 : (fun w' => w'.cell? ⟨g4, j * 3, none⟩ = some (.int .i64 q0) ∧ w'.cell? ⟨g4, j * 3 + 1, none⟩ = some (.int .i64 q1) ∧ w'.cell? ⟨g4, j * 3 + 2, none⟩ = some (.int .i64 q2) ∧ Below wr.heap.size wr w') wn := ⟨z0, z1, z2, HBN.out⟩
            clear hK K
            try simp only [Act.put, List.setIfInBounds_toArray, List.set_cons_zero, List.set_cons_succ]
            refine wpAnyH_take (i := 12) (oi := { dst := some 48, op := Go.Op.indexAddr 24 (Go.Operand.tmp 46) (Go.Operand.tmp 47), type := 0, pos := "law.go:104", after := #[{ on := 10, ground := Go.Ground.data }, { on := 11, ground := Go.Ground.data }, { on := 4, ground := Go.Ground.guard }], guard := some (4, false) }) (v := ?_) rfl (by kernel_rfl) (by kernel_rfl) (by kernel_rfl) (fun _ _ _ h => h) (Or.inl ⟨by rfl, ?_⟩) (by assumption) ?_
            rotate_left
            · intro w hSw; (try dsimp only at hSw); go_simp; (try with_reducible rfl)
            simp only [Act.put, List.setIfInBounds_toArray, List.set_cons_zero, List.set_cons_succ]
            refine wpAnyH_take (i := 13) (oi := { dst := some 49, op := Go.Op.load 31 (Go.Operand.tmp 48), type := 31, pos := "law.go:104", after := #[{ on := 12, ground := Go.Ground.data }, { on := 4, ground := Go.Ground.guard }], guard := some (4, false) }) (v := ?_) rfl (by kernel_rfl) (by kernel_rfl) (by kernel_rfl) (fun _ _ _ h => h) (Or.inl ⟨by rfl, ?_⟩) (by assumption) ?_
            rotate_left
            · intro w hSw; (try dsimp only at hSw); go_simp; (try with_reducible rfl)
            simp only [Act.put, List.setIfInBounds_toArray, List.set_cons_zero, List.set_cons_succ]
            refine wpAnyH_take (i := 14) (oi := { dst := some 50, op := Go.Op.binOp Go.BinOp.neq 31 (Go.Operand.tmp 44) (Go.Operand.tmp 49) 31, type := 4, pos := "law.go:104", after := #[{ on := 8, ground := Go.Ground.data }, { on := 13, ground := Go.Ground.data }, { on := 4, ground := Go.Ground.guard }], guard := some (4, false) }) (v := ?_) rfl (by kernel_rfl) (by kernel_rfl) (by kernel_rfl) (fun _ _ _ h => h) (Or.inl ⟨by rfl, ?_⟩) (by assumption) ?_
            rotate_left
            · intro w hSw; (try dsimp only at hSw); go_simp; (try with_reducible rfl)
            simp only [Act.put, List.setIfInBounds_toArray, List.set_cons_zero, List.set_cons_succ]
            refine wpAnyH_take (i := 15) (oi := { dst := some 51, op := Go.Op.pick (Go.Operand.tmp 40) (Go.Operand.const (Go.Value.bool true)) (Go.Operand.tmp 50), type := 4, pos := "law.go:104", after := #[{ on := 4, ground := Go.Ground.data }, { on := 14, ground := Go.Ground.data }], guard := none }) (v := ?_) rfl (by kernel_rfl) (by kernel_rfl) (by kernel_rfl) (fun _ _ _ h => h) (Or.inl ⟨by rfl, ?_⟩) (by assumption) ?_
            rotate_left
            · intro w hSw; (try dsimp only at hSw); go_simp; (try with_reducible rfl)
            simp only [Act.put, List.setIfInBounds_toArray, List.set_cons_zero, List.set_cons_succ]
            refine wpAnyH_done (by kernel_rfl) ?_ _
            go_wp2_with fail
            go_meet
            exact ⟨rfl, Lib.hid (HP.out _ (by assumption))⟩
          obtain ⟨rfl, HBX⟩ := hcut
          have hk6 : kk ≤ 1000000 := by omega
          go_wp2_with fail
          go_meet
          exact ⟨by rw [HPL.out]; go_num, Lib.hid (bstep0 HBW.out HBX.out)⟩
        · have hpl : (pastB x (L.take (j + 1))).length = (pastB x (L.take j)).length := by rw [HPS.out, HLj.out.2.2, if_neg hx]; simp
          have HPL := Lib.hid hpl
          have hxd : decide (x < q2) = false := by simpa using hx
          clear hpl
          go_wp2_with fail
          go_meet
          exact ⟨by rw [HPL.out], HBW⟩
      obtain ⟨w5, rfl⟩ : ∃ x : World, x = wc := ⟨_, rfl⟩
      obtain ⟨rfl, HB5⟩ := hcut
      have HBA5 := Lib.hid (bstep0 HB3.out HB5.out)
      have hj6 : j ≤ 1000000 := by omega
      obtain ⟨z0, z1⟩ : w5.cell? (ad.add (j * 3)) = some (.int .i64 q0) ∧ True := by
        obtain ⟨ad', e, y0', _, _⟩ := at_T30 (HR.out.below HBA5.out).1 (j : Int) (by omega) hltz
        obtain rfl := Option.some.inj e
        rw [rdR_nat l j hlt, Int.toNat_natCast] at y0'
        refine ⟨?_, trivial⟩
        rw [y0']
        have := HLj.out.1
        rw [hLjr.out] at this
        exact congrArg (fun q => some (Value.int .i64 q)) this
      clear y0 y1 y2
      obtain ⟨own, hown⟩ : ∃ b, b = ofB r x (L.take j) := ⟨_, rfl⟩
      rw [← hown] at HOF ⊢
      clear hown
      obtain ⟨kn, hkn⟩ : ∃ b, b = (pastB x (L.take (j + 1))).length := ⟨_, rfl⟩
      rw [← hkn]
      have HKN := Lib.hid hkn
      clear hkn hkj
      cases own with
      | true =>
        go_wp2_with fail
        go_roundg (l.length - (j + 1))
        case measure => omega
        case rel => exact ⟨j + 1, by omega, by omega, by go_num, by rw [HKN.out], by rw [HOF.out]; rfl, HB5⟩
      | false =>
        by_cases hq : q0 = r
        · have hqb : (q0 == r) = true := by simpa using hq
          clear hq
          have HOF2 : Hid (ofB r x (L.take (j + 1)) = hv) := by show _ = _; rw [HOF.out, hqb]; simp
          cases hv with
          | true =>
            go_wp2_with fail
            refine (HOne.out _ HBA5.out).mono ?_
            rintro e w6 ⟨rfl, hb⟩
            have HB6 := Lib.hid (bstep0 HB5.out hb)
            clear hb
            go_wp2_with fail
            go_roundg (l.length - (j + 1))
            case measure => omega
            case rel => exact ⟨j + 1, by omega, by omega, by go_num, by rw [HKN.out], by rw [HOF2.out], HB6⟩
          | false =>
            go_wp2_with fail
            refine (HOne.out _ HBA5.out).mono ?_
            rintro e w6 ⟨rfl, hb⟩
            have HB6 := Lib.hid (bstep0 HB5.out hb)
            clear hb
            go_wp2_with fail
            go_roundg (l.length - (j + 1))
            case measure => omega
            case rel => exact ⟨j + 1, by omega, by omega, by go_num, by rw [HKN.out], by rw [HOF2.out], HB6⟩
        · have hqb : (q0 == r) = false := by simpa using hq
          clear hq
          have HOF2 : Hid (ofB r x (L.take (j + 1)) = false) := by show _ = _; rw [HOF.out, hqb]; simp
          go_wp2_with fail
          go_roundg (l.length - (j + 1))
          case measure => omega
          case rel => exact ⟨j + 1, by omega, by omega, by go_num, by rw [HKN.out], by rw [HOF2.out], HB5⟩
    · have hjl : j = l.length := by omega
      have hpe : pastB x (L.take j) = pastB x L := by rw [List.take_of_length_le (by have := HLl.out; omega)]
      have hoe : ofB r x (L.take j) = ofB r x L := by rw [List.take_of_length_le (by have := HLl.out; omega)]
      rw [hpe, hoe, ← HNP.out]
      have hltb : decide ((j : Int) < (l.length : Int)) = false := by simp; omega
      clear hjl hpe hoe
      go_wp2_with fail
      refine (of_call A cp l _ (HR.out.below HBA.out) (by omega)).mono ?_
      rintro e w6 ⟨v6, rfl, hv, hb⟩
      have HV6 := Lib.hid hv
      have HB6 := Lib.hid (bstep0 HBA.out hb)
      clear hv hb
      go_wp2_with fail
      rw [← HL.out] at HV6
      refine (of_any v6 L r x _ HV6.out (by have := HLl.out; omega)).mono ?_
      rintro e w7 ⟨rfl, hb⟩
      have HB7 := Lib.hid (bstep0 HB6.out hb)
      clear hb
      go_wp2_with fail
      go_ret
      exact ⟨by simp, HB7.out⟩
theorem pasts_walk (A : Option Addr) (cp : Nat) (l : List RB) (r x : Int) (W : World) (h : RBs W A l cp) (_ : (Lit.int .i64 r).wf = true) (_ : (Lit.int .i64 x).wf = true) :
    Calls Try.prog 5 #[.slice A l.length cp, .int .i64 r, .int .i64 x] W fun e w' => e = .returned (.bool true) ∧ Below W.heap.size W w' := by
  by_cases hl : l.length ≤ 60
  · exact pasts_short A cp l r x W h hl
  · exact pasts_long A cp l r x W h (by omega)
end Go.Proofs.Ytfgbnnmaooillaa
