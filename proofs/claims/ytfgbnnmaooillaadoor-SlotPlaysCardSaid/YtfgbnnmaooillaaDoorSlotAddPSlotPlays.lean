/- slot.Add, by its contract. -/
import Derived.Test.YtfgbnnmaooillaaDoorSlotEPSlotPlays
import Derived.Deep.AppendLies
import Derived.Outline
namespace Go.Proofs.YtfgbnnmaooillaaDoor
open Go.ChangeShapes Go.WideShapes Go.RowKit Go.Lib Go.Proofs.YtfgbnnmaooillaaDoorW.PrintWords Go.Proofs.YtfgbnnmaooillaaDoorW.PrintLast Go.Proofs.YtfgbnnmaooillaaDoorW.PrintMore Go.Proofs.YtfgbnnmaooillaaDoor.PSlotPlays
set_option linter.unusedVariables false
set_option linter.unusedSimpArgs false

def ownL (r : Int) (L : List SB) : List SB := L.filter fun s => s.f0 == r
def addC (L : List SB) (room : Int) (b : SB) : Int :=
  if rightB (toBk b) = false ∨ room < 1 ∨ 10 < room then 1 else if 0 < peakL (bks (ownL b.f0 L)) b.f1 b.f2 then 5 else if room ≤ (peakL (bks L) b.f1 b.f2 : Nat) then 10 else 0
def addL (L : List SB) (room : Int) (b : SB) : List SB := if addC L room b = 0 then L ++ [b] else []
def addP (r : Int) : Int → Int → Int → Bool := fun x _ _ => x != r
theorem add_pred (r : Int) (a : Nat) (base : Nat) (W : World) (ha : a < base) (hc : W.cell? ⟨a, 0, none⟩ = some (.int .i64 r)) : PredB 39 #[.pointer (some ⟨a, 0, none⟩)] (addP r) base W := fun w x y z hb => by
  have hc2 : w.cell? ⟨a, 0, none⟩ = some (.int .i64 r) := (hb.cell (p := ⟨a, 0, none⟩) ha).trans hc
  have hne : a < w.heap.size := cell_old hc2
  have hne2 : a ≠ w.heap.size := by omega
  have hc3 : (w.alloc (.cells #[.int .i64 x, .int .i64 y, .int .i64 z] 42)).cell? ⟨a, 0, none⟩ = some (.int .i64 r) := Lib.cell?_alloc_some _ hc2
  clear hb hc hc2
  show Calls Tryd.prog 39 #[.agg #[.int .i64 x, .int .i64 y, .int .i64 z], .pointer (some ⟨a, 0, none⟩)] w _
  go_enter Tryd.func39, Tryd.ntmps39
  go_wp2
  go_ret
  exact ⟨rfl, (Below.refl _ w).alloc (Nat.le_refl _) _⟩
/-- slices.Clone at whatever bookings -/
theorem flat_cells3 (L : List SB) : flat (mOf L) L.length = cells3 L := by
  have h : ∀ L : List SB, cells3 L = (rowsOf (mOf L) L.length).flatMap fun t => [.int .i64 t.1, .int .i64 t.2.1, .int .i64 t.2.2] := fun L => by
    rw [rowsOf_mOf]; unfold cells3; rw [List.flatMap_map]; rfl
  rw [h]
  generalize mOf L = m
  generalize L.length = n
  induction n with
  | zero => rfl
  | succ n ih =>
    rw [rowsOf_succ, List.flatMap_append, ← ih]
    unfold flat
    rw [Nat.succ_mul, List.range_succ, List.range_succ, List.range_succ]
    simp
theorem clone_any {base : Nat} {ok : Nat → Prop} (v : Value) (L : List SB) (W : World) (h : Kd.R kSB 42 W base ok v L) (hl : L.length ≤ 1000000) :
    Calls Tryd.prog 38 #[v] W (CloneOwn L.length (cells3 L) W) := by
  rcases R_own3 h with ⟨rfl, rfl⟩ | ⟨g, cap, rfl, hc, _, hlt, hB⟩
  · refine (clone_nil 0 W).mono ?_
    rintro e w' ⟨rfl, rfl⟩
    exact ⟨_, rfl, own_nil0 _ _ _ _, Below.refl _ _⟩
  · have := clone_own g 0 L.length cap (mOf L) W hl hc hB
    rw [flat_cells3] at this
    exact this
/-- the bookings of the same robot -/
def OwnPost (r : Int) (L : List SB) (W : World) (e : Ending) (w' : World) : Prop := ∃ A k c', e = .returned (.slice A k c') ∧ k = (ownL r L).length ∧ k ≤ c' ∧ Kd.C kSB w' A k (ownL r L) ∧ Below W.heap.size W w'
theorem own_filter (r : Int) (L : List SB) : (L.filter fun s => !addP r s.f0 s.f1 s.f2) = ownL r L := by
  unfold ownL; congr 1; funext s; simp [addP, bne]
theorem delete_own {W : World} {base : Nat} {v : Value} {L : List SB} (a r : Int) (x : Nat) (h : W.ownsRow base 42 3 v L.length (cells3 L)) (hx : x < base) (hc : W.cell? ⟨x, 0, none⟩ = some (.int .i64 r)) (hl : L.length ≤ 1000000) (B : Nat) (hB : B ≤ base) (hBW : B ≤ W.heap.size) :
    Calls Tryd.prog 37 #[v, .func (.func 39) #[] #[.pointer (some ⟨x, 0, none⟩)]] W fun e w' => ∃ A k c', e = .returned (.slice A k c') ∧ k = (ownL r L).length ∧ k ≤ c' ∧ Kd.C kSB w' A k (ownL r L) ∧ Below B W w' := by
  rcases h.2 with ⟨rfl, hn⟩ | ⟨g, cap, cur, rfl, hgb, _⟩
  · obtain rfl := List.eq_nil_of_length_eq_zero hn
    refine (delete_none _ 0 W).mono ?_
    rintro e w' ⟨rfl, rfl⟩
    exact ⟨none, 0, 0, rfl, rfl, Nat.le_refl _, ⟨rfl, by omega, fun h => absurd h (Nat.lt_irrefl _)⟩, Below.refl _ _⟩
  · have hcc : B0 W g L.length (mOf L) := fun t ht => by rw [h.cellAt t ht, ← flat_cells3, flat_at _ _ t ht]
    refine (delete_add ⟨x, 0, none⟩ (addP r) base g L.length cap (mOf L) W (add_pred r x base W hx hc) hgb (h.lt g rfl).2 hl (own_cap h) hcc (fun t _ => h.frozenAt t)).mono ?_
    rintro e w' ⟨⟨k, m', rfl, hk, hkc, hB', hr⟩, hb⟩
    rw [rowsOf_mOf, filter_tri, own_filter] at hr
    have hkl : k = (ownL r L).length := by have := congrArg List.length hr; rwa [rowsOf_length, List.length_map] at this
    exact ⟨_, k, cap, rfl, hkl, hkc, C_of_rows (fun _ => hB') hr (by omega), hb.mono hB⟩
theorem peak_c {A : Option Addr} {c : Nat} {L : List SB} (a b : Int) (k : Nat) (W : World) (h : Kd.C kSB W A k L) (hk : k = L.length) (hc : k ≤ c) (hl : L.length ≤ 1000) :
    Calls Tryd.prog 23 #[.slice A k c, .int .i64 a, .int .i64 b] W fun e w' => e = .returned (.int .i64 (peakL (bks L) a b : Nat)) ∧ Below W.heap.size W w' := by
  subst hk
  exact slot_Peak.calls 3000 A c L a b _ W h hc (speak_f L a b hl 3000 (by omega))
theorem right_call (b : SB) (W : World) : Calls Tryd.prog 21 #[.agg #[.int .i64 b.f0, .int .i64 b.f1, .int .i64 b.f2]] W fun e w' => e = .returned (.bool (rightB (toBk b))) ∧ Below W.heap.size W w' := slot_Right.calls b.f0 b.f1 b.f2 _ W (sRight_f _ _ _)
theorem own_low {w : World} {base base' : Nat} {e : TypeId} {size n : Nat} {v : Value} {xs : List Value} (h : w.ownsRow base e size v n xs) (hb : base' ≤ base) : w.ownsRow base' e size v n xs := own_weaken h hb
def AddPost (L : List SB) (room : Int) (b : SB) (W : World) (e : Ending) (w' : World) : Prop :=
  ∃ v ev, e = .returned (.tuple #[v, ev]) ∧ Kd.R kSB 42 w' W.heap.size (fun _ => True) v (addL L room b) ∧ ErrC W.heap.size w' ev (addC L room b) ∧ Below W.heap.size W w'
set_option maxHeartbeats 1000000 in
theorem add_any {base : Nat} {ok : Nat → Prop} (v : Value) (L : List SB) (room : Int) (b : SB) (W : World) (h : Kd.R kSB 42 W base ok v L) (hl : L.length ≤ 1000) :
    Calls Tryd.prog 26 #[v, .int .i64 room, .agg #[.int .i64 b.f0, .int .i64 b.f1, .int .i64 b.f2]] W (AddPost L room b W) := by
  have HR := Lib.hid h
  clear h
  obtain ⟨W1, hW1⟩ : ∃ W1, W1 = W.alloc (.cells #[.int .i64 b.f0, .int .i64 b.f1, .int .i64 b.f2] 42) := ⟨_, rfl⟩
  have k0 : W1.cell? ⟨W.heap.size, 0, none⟩ = some (.int .i64 b.f0) := by rw [hW1]; simp
  have k1 : W1.cell? ⟨W.heap.size, 1, none⟩ = some (.int .i64 b.f1) := by rw [hW1]; simp
  have k2 : W1.cell? ⟨W.heap.size, 2, none⟩ = some (.int .i64 b.f2) := by rw [hW1]; simp
  have hs1 : W1.heap.size = W.heap.size + 1 := by rw [hW1]; simp
  have HBox := Lib.hid (show ∀ w, Below W1.heap.size W1 w → w.cell? ⟨W.heap.size, 0, none⟩ = some (.int .i64 b.f0) ∧ w.cell? ⟨W.heap.size, 1, none⟩ = some (.int .i64 b.f1) ∧ w.cell? ⟨W.heap.size, 2, none⟩ = some (.int .i64 b.f2) from
    fun w hb => ⟨(hb.cell (p := ⟨W.heap.size, 0, none⟩) (by rw [hs1]; simp)).trans k0, (hb.cell (p := ⟨W.heap.size, 1, none⟩) (by rw [hs1]; simp)).trans k1, (hb.cell (p := ⟨W.heap.size, 2, none⟩) (by rw [hs1]; simp)).trans k2⟩)
  have HB1 := Lib.hid (show Below W.heap.size W W1 by rw [hW1]; exact (Below.refl _ _).alloc (Nat.le_refl _) _)
  have HR1 := Lib.hid (Kd.R_below HR.out HB1.out)
  have HCl := Lib.hid (clone_any v L W1 HR1.out (by omega))
  have HS1 := Lib.hid hs1
  rw [hW1] at HCl
  have HW1 := Lib.hid hW1
  clear hW1 k0 k1 k2 hs1
  go_enter Tryd.func26, Tryd.ntmps26
  go_wp2_with fail
  refine HCl.out.mono ?_
  rw [← HW1.out]
  rintro e w2 ⟨v2, rfl, ho, hb⟩
  have HO := Lib.hid ho
  have HB2 := Lib.hid hb
  clear ho hb
  go_wp2_with fail
  refine (delete_own 0 b.f0 W.heap.size HO.out (by have := HS1.out; omega) (HBox.out _ HB2.out).1 (by omega) W1.heap.size (Nat.le_refl _) HB2.out.size).mono ?_
  rintro e w3 ⟨A3, k3, c3, rfl, hk3, hc3, hC3, hb⟩
  have HC3 := Lib.hid (And.intro hk3 (And.intro hc3 hC3))
  have HB3 := Lib.hid (HB2.out.trans hb)
  obtain ⟨x0, x1, x2⟩ := HBox.out _ HB3.out
  have hn3 : W.heap.size < w3.heap.size := by have := HB3.out.size; have := HS1.out; omega
  clear hk3 hc3 hC3 hb
  go_wp2_with fail
  refine (right_call b _).mono ?_
  rintro e w4 ⟨rfl, hb⟩
  have HB4 := Lib.hid (bstep0 HB3.out hb)
  have HB34 := Lib.hid hb
  clear hb x0 x1 x2
  obtain ⟨x0, x1, x2⟩ := HBox.out _ HB4.out
  obtain ⟨i0, hi, hz0, hz1, hz2⟩ := info_parts info_bk
  cases hrb : rightB (toBk b) with
  | false =>
    have hbad : Hid (addC L room b = 1) := by show _ = _; unfold addC; rw [if_pos (.inl hrb)]
    clear hrb
    go_wp2_with fail
    refine (Tag_err _ 1 _).mono ?_
    rintro e w5 ⟨ev, rfl, he, hb⟩
    have HE := Lib.hid he
    have HB5 := Lib.hid (bstep0 HB4.out hb)
    clear he hb
    go_wp2_with fail
    go_ret2
    exact ⟨_, ev, rfl, by unfold addL; rw [hbad.out, if_neg (by omega)]; exact Kd.R_nil _ _ _ _ _, by rw [hbad.out]; exact HE.out.mono (Nat.le_trans HB1.out.size HB4.out.size), HB1.out.trans (HB5.out.mono HB1.out.size)⟩
  | true =>
    by_cases hr1 : room < 1
    · have hbad : Hid (addC L room b = 1) := by show _ = _; unfold addC; rw [if_pos (.inr (.inl hr1))]
      have hd1 : decide (room < 1) = true := by simpa using hr1
      clear hrb
      go_wp2_with fail
      refine (Tag_err _ 1 _).mono ?_
      rintro e w5 ⟨ev, rfl, he, hb⟩
      have HE := Lib.hid he
      have HB5 := Lib.hid (bstep0 HB4.out hb)
      clear he hb
      go_wp2_with fail
      go_ret2
      exact ⟨_, ev, rfl, by unfold addL; rw [hbad.out, if_neg (by omega)]; exact Kd.R_nil _ _ _ _ _, by rw [hbad.out]; exact HE.out.mono (Nat.le_trans HB1.out.size HB4.out.size), HB1.out.trans (HB5.out.mono HB1.out.size)⟩
    have hd1 : decide (room < 1) = false := by simpa using hr1
    by_cases hr2 : 10 < room
    · have hbad : Hid (addC L room b = 1) := by show _ = _; unfold addC; rw [if_pos (.inr (.inr hr2))]
      have hd2 : decide (10 < room) = true := by simpa using hr2
      clear hrb
      go_wp2_with fail
      refine (Tag_err _ 1 _).mono ?_
      rintro e w5 ⟨ev, rfl, he, hb⟩
      have HE := Lib.hid he
      have HB5 := Lib.hid (bstep0 HB4.out hb)
      clear he hb
      go_wp2_with fail
      go_ret2
      exact ⟨_, ev, rfl, by unfold addL; rw [hbad.out, if_neg (by omega)]; exact Kd.R_nil _ _ _ _ _, by rw [hbad.out]; exact HE.out.mono (Nat.le_trans HB1.out.size HB4.out.size), HB1.out.trans (HB5.out.mono HB1.out.size)⟩
    have hd2 : decide (10 < room) = false := by simpa using hr2
    have hcode : addC L room b = if 0 < peakL (bks (ownL b.f0 L)) b.f1 b.f2 then 5 else if room ≤ (peakL (bks L) b.f1 b.f2 : Nat) then 10 else 0 := by
      unfold addC; rw [if_neg (fun h => h.elim (fun h => by rw [hrb] at h; cases h) (fun h => h.elim hr1 hr2))]
    have HCode := Lib.hid hcode
    obtain ⟨f0, hf0⟩ : ∃ f, f = b.f0 := ⟨_, rfl⟩
    obtain ⟨f1, hf1⟩ : ∃ f, f = b.f1 := ⟨_, rfl⟩
    obtain ⟨f2, hf2⟩ : ∃ f, f = b.f2 := ⟨_, rfl⟩
    rw [← hf1, ← hf2] at HCode
    rw [← hf0] at HBox x0
    rw [← hf1] at HBox x1
    rw [← hf2] at HBox x2
    have HFb := Lib.hid (show b = ⟨f0, f1, f2⟩ by rw [hf0, hf1, hf2])
    clear hrb hcode hf0 hf1 hf2
    obtain ⟨po, hpo⟩ : ∃ p, p = peakL (bks (ownL b.f0 L)) f1 f2 := ⟨_, rfl⟩
    obtain ⟨pa, hpa⟩ : ∃ p, p = peakL (bks L) f1 f2 := ⟨_, rfl⟩
    rw [← hpo, ← hpa] at HCode
    have HPO := Lib.hid hpo
    have HPA := Lib.hid hpa
    clear hpo hpa
    go_wp2_with fail
    refine (peak_c f1 f2 k3 _ (Kd.C_below HC3.out.2.2 HB34.out) HC3.out.1 HC3.out.2.1 (Nat.le_trans (List.length_filter_le _ _) hl)).mono ?_
    rw [← HPO.out]
    rintro e w5 ⟨rfl, hb⟩
    have HB5 := Lib.hid (bstep0 HB4.out hb)
    clear hb x0 x1 x2
    obtain ⟨x0, x1, x2⟩ := HBox.out _ HB5.out
    by_cases hp5 : 0 < po
    · have hbad : Hid (addC L room b = 5) := by show _ = _; rw [HCode.out, if_pos hp5]
      have hd5 : (0 : Int) < (po : Int) := by omega
      go_wp2_with fail
      refine (Tag_err _ 5 _).mono ?_
      rintro e w6 ⟨ev, rfl, he, hb⟩
      have HE := Lib.hid he
      have HB6 := Lib.hid (bstep0 HB5.out hb)
      clear he hb
      go_wp2_with fail
      go_ret2
      exact ⟨_, ev, rfl, by unfold addL; rw [hbad.out, if_neg (by omega)]; exact Kd.R_nil _ _ _ _ _, by rw [hbad.out]; exact HE.out.mono (Nat.le_trans HB1.out.size HB5.out.size), HB1.out.trans (HB6.out.mono HB1.out.size)⟩
    have hd5 : ¬ (0 : Int) < (po : Int) := by omega
    go_wp2_with fail
    refine (peak_call f1 f2 _ (Kd.R_below HR1.out HB5.out) hl).mono ?_
    rw [← HPA.out]
    rintro e w6 ⟨rfl, hb⟩
    have HB6 := Lib.hid (bstep0 HB5.out hb)
    clear hb x0 x1 x2
    obtain ⟨x0, x1, x2⟩ := HBox.out _ HB6.out
    by_cases hpr : room ≤ (pa : Int)
    · have hbad : Hid (addC L room b = 10) := by show _ = _; rw [HCode.out, if_neg hp5, if_pos hpr]
      have hd6 : decide (room ≤ (pa : Int)) = true := by simpa using hpr
      go_wp2_with fail
      refine (Tag_err _ 10 _).mono ?_
      rintro e w7 ⟨ev, rfl, he, hb⟩
      have HE := Lib.hid he
      have HB7 := Lib.hid (bstep0 HB6.out hb)
      clear he hb
      go_wp2_with fail
      go_ret2
      exact ⟨_, ev, rfl, by unfold addL; rw [hbad.out, if_neg (by omega)]; exact Kd.R_nil _ _ _ _ _, by rw [hbad.out]; exact HE.out.mono (Nat.le_trans HB1.out.size HB6.out.size), HB1.out.trans (HB7.out.mono HB1.out.size)⟩
    have hd6 : decide (room ≤ (pa : Int)) = false := by simpa using hpr
    have hok : Hid (addC L room b = 0) := by show _ = _; rw [HCode.out, if_neg hp5, if_neg hpr]
    have HR6 := Lib.hid (Kd.R_below HR1.out HB6.out)
    have HS := Lib.hid (show ∀ w', Below w6.heap.size w6 w' → (w'.cell? ⟨W.heap.size, 0, none⟩ = some (.int .i64 f0) ∧ w'.cell? ⟨W.heap.size, 1, none⟩ = some (.int .i64 f1) ∧ w'.cell? ⟨W.heap.size, 2, none⟩ = some (.int .i64 f2)) ∧ Below w6.heap.size w6 w' from fun w' hb => ⟨HBox.out _ (bstep0 HB6.out hb), hb⟩)
    have HP := Lib.hid (show ∀ w', ((w'.cell? ⟨W.heap.size, 0, none⟩ = some (.int .i64 f0) ∧ w'.cell? ⟨W.heap.size, 1, none⟩ = some (.int .i64 f1) ∧ w'.cell? ⟨W.heap.size, 2, none⟩ = some (.int .i64 f2)) ∧ Below w6.heap.size w6 w') → Below w6.heap.size w6 w' from fun w' h => h.2)
    have hn6 : W.heap.size < w6.heap.size := by have := HB6.out.size; have := HS1.out; omega
    have HFin := Lib.hid (show ∀ (w : World) (u : Value), w.ownsRow W.heap.size 42 3 u (L.length + 1) (cells3 L ++ [.int .i64 f0, .int .i64 f1, .int .i64 f2]) → Kd.R kSB 42 w W.heap.size (fun _ => True) u (addL L room b) from fun w u h => by
      unfold addL
      rw [if_pos hok.out, HFb.out]
      refine R_of_cells ?_
      rw [List.length_append, cells3_snoc]
      exact h)
    clear x0 x1 x2 hp5 hpr
    go_wp2_with fail
    refine wp_region_held_drew (S := (fun w' => (w'.cell? ⟨W.heap.size, 0, none⟩ = some (.int .i64 f0) ∧ w'.cell? ⟨W.heap.size, 1, none⟩ = some (.int .i64 f1) ∧ w'.cell? ⟨W.heap.size, 2, none⟩ = some (.int .i64 f2)) ∧ Below w6.heap.size w6 w')) (by kernel_rfl) ?_ (fun hHeld => ?_)
    · exact HS.out _ (Below.drew (Below.refl _ _))
    refine wpAnyH_take (i := 0) (oi := { dst := some 48, op := Go.Op.move (Go.Operand.tmp 0), type := 46, pos := "slot.go:64", after := #[], guard := none }) (v := ?_) rfl (by kernel_rfl) (by kernel_rfl) (by kernel_rfl) (fun _ _ _ h => h) (Or.inl ⟨by rfl, ?_⟩) (by assumption) ?_
    rotate_left
    · intro w hSw; (try dsimp only at hSw); go_simp; (try with_reducible rfl)
    try simp only [Act.put, List.setIfInBounds_toArray, List.set_cons_zero, List.set_cons_succ]
    refine wpAnyH_take (i := 2) (oi := { dst := some 50, op := Go.Op.load 42 (Go.Operand.tmp 5), type := 42, pos := "slot.go:64", after := #[], guard := none }) (v := ?_) rfl (by kernel_rfl) (by kernel_rfl) (by kernel_rfl) (fun _ _ _ h => h) (Or.inl ⟨by rfl, ?_⟩) (by assumption) ?_
    rotate_left
    · intro w hSw; (try dsimp only at hSw); go_simp; (try with_reducible rfl)
    try simp only [Act.put, List.setIfInBounds_toArray, List.set_cons_zero, List.set_cons_succ]
    refine wpAnyH_ready (rs := [1, 3]) (by kernel_rfl) (by simp) ?_
    refine AllReadyH.cons (o := { dst := some 49, op := Go.Op.call { callee := Go.Callee.value (Go.Operand.func 38), args := #[Go.Operand.tmp 48], argTypes := #[46] }, type := 46, pos := "slot.go:64", after := #[{ on := 0, ground := Go.Ground.data }], guard := none }) rfl (fun K hK => ?_) ?_
    · go_simp
      (go_at_call 38; (with_reducible refine (clone_any v L _ (Kd.R_below HR6.out (HP.out _ (by assumption))) (by omega)).mono ?_); rintro e w7 ⟨v7, rfl, ho, hb⟩)
      have HB7 := Lib.hid (bstep0 (HP.out _ (by assumption)) hb)
      have HO7 := Lib.hid (own_low ho (by have := (HP.out _ (by assumption)).size; omega : W.heap.size ≤ _))
      have HV7 := Lib.hid (fun k hk => Nat.le_trans (HP.out _ (by assumption)).size (ho.lt k hk).1)
      clear ho hb
      go_wp2_with fail
      refine hK.out _ _ (HS.out _ HB7.out) (fun hHeld2 => ?_)
      clear hK K
      try simp only [Act.put, List.setIfInBounds_toArray, List.set_cons_zero, List.set_cons_succ]
      refine wpAnyH_ready (rs := [3]) (by kernel_rfl) (by simp) ?_
      refine AllReadyH.cons (o := { dst := some 51, op := Go.Op.buildSlice 46 1 #[(0, Go.Operand.tmp 50)], type := 46, pos := "slot.go:64", after := #[{ on := 2, ground := Go.Ground.data }], guard := none }) rfl (fun K hK => ?_) AllReadyH.nil
      go_simp
      go_wp2_with fail
      refine hK.out _ _ (HS.out _ (HB7.out.alloc HB7.out.size _)) (fun hHeld3 => ?_)
      clear hK K
      try simp only [Act.put, List.setIfInBounds_toArray, List.set_cons_zero, List.set_cons_succ]
      refine wpAnyH_ready (rs := [4]) (by kernel_rfl) (by simp) ?_
      refine AllReadyH.cons (o := { dst := some 52, op := Go.Op.call { callee := Go.Callee.builtin Go.Builtin.append, args := #[Go.Operand.tmp 49, Go.Operand.tmp 51], argTypes := #[46, 46] }, type := 46, pos := "slot.go:64", after := #[{ on := 1, ground := Go.Ground.data }, { on := 3, ground := Go.Ground.data }, { on := 1, ground := Go.Ground.chain }], guard := none }) rfl (fun K hK => ?_) AllReadyH.nil
      refine step_append_lies _ (by rfl) _ _ _ (by rfl) W.heap.size 42 i0 (.agg #[.int .i64 0, .int .i64 0, .int .i64 0]) 3 24 Tryd.underlying46 hi hz0 hz1 hz2 rfl (by omega) v7 L.length (cells3 L) (by rfl) (HO7.out.alloc _) ⟨w7.heap.size, 0, none⟩ 1 1 [.int .i64 f0, .int .i64 f1, .int .i64 f2] (by rfl) (by rfl) (news3 _ _ _ _ _) (by simp [Value.oneCell']) (by omega) (by unfold maxLen; omega) (by omega) (by have := HB7.out.size; simp; omega) _ rfl ?_
      intro gg cap w8 hown8 hgrow hat hlt
      have HB8 := Lib.hid ((HB7.out.alloc HB7.out.size _).grown hgrow (by have := HB7.out.size; simp; omega) (fun k hk => HV7.out k hk))
      refine hK.out _ _ (HS.out _ HB8.out) (fun hHeld2 => ?_)
      have HO8 := Lib.hid hown8
      clear hK K
      try simp only [Act.put, List.setIfInBounds_toArray, List.set_cons_zero, List.set_cons_succ]
      refine wpAnyH_take (i := 5) (oi := { dst := some 6, op := Go.Op.assign (Go.Operand.tmp 52), type := 46, pos := "slot.go:64", after := #[{ on := 4, ground := Go.Ground.data }, { on := 4, ground := Go.Ground.chain }, { on := 0, ground := Go.Ground.phase }, { on := 1, ground := Go.Ground.phase }, { on := 2, ground := Go.Ground.phase }, { on := 3, ground := Go.Ground.phase }, { on := 4, ground := Go.Ground.phase }], guard := none }) (v := ?_) rfl (by kernel_rfl) (by kernel_rfl) (by kernel_rfl) (fun _ _ _ h => h) (Or.inl ⟨by rfl, ?_⟩) (by assumption) ?_
      rotate_left
      · intro w hSw; (try dsimp only at hSw); go_simp; (try with_reducible rfl)
      try simp only [Act.put, List.setIfInBounds_toArray, List.set_cons_zero, List.set_cons_succ]
      refine wpAnyH_take (i := 6) (oi := { dst := some 7, op := Go.Op.assign (Go.Operand.const Go.Value.nilIface), type := 26, pos := "slot.go:64", after := #[{ on := 5, ground := Go.Ground.chain }, { on := 0, ground := Go.Ground.phase }, { on := 1, ground := Go.Ground.phase }, { on := 2, ground := Go.Ground.phase }, { on := 3, ground := Go.Ground.phase }, { on := 4, ground := Go.Ground.phase }, { on := 5, ground := Go.Ground.phase }], guard := none }) (v := ?_) rfl (by kernel_rfl) (by kernel_rfl) (by kernel_rfl) (fun _ _ _ h => h) (Or.inl ⟨by rfl, ?_⟩) (by assumption) ?_
      rotate_left
      · intro w hSw; (try dsimp only at hSw); go_simp; (try with_reducible rfl)
      try simp only [Act.put, List.setIfInBounds_toArray, List.set_cons_zero, List.set_cons_succ]
      refine wpAnyH_done (by kernel_rfl) ?_ _
      go_wp2_with fail
      go_ret2
      exact ⟨_, _, rfl, HFin.out _ _ HO8.out, by rw [hok.out]; exact ErrC.nil _ _, HB1.out.trans ((HB6.out.trans (HB8.out.mono HB6.out.size)).mono HB1.out.size)⟩
    refine AllReadyH.cons (o := { dst := some 51, op := Go.Op.buildSlice 46 1 #[(0, Go.Operand.tmp 50)], type := 46, pos := "slot.go:64", after := #[{ on := 2, ground := Go.Ground.data }], guard := none }) rfl (fun K hK => ?_) AllReadyH.nil
    go_simp
    go_wp2_with fail
    refine hK.out _ _ (HS.out _ ((Below.drew (Below.refl _ w6)).alloc (Nat.le_refl _) _)) (fun hHeld2 => ?_)
    clear hK K
    try simp only [Act.put, List.setIfInBounds_toArray, List.set_cons_zero, List.set_cons_succ]
    refine wpAnyH_ready (rs := [1]) (by kernel_rfl) (by simp) ?_
    refine AllReadyH.cons (o := { dst := some 49, op := Go.Op.call { callee := Go.Callee.value (Go.Operand.func 38), args := #[Go.Operand.tmp 48], argTypes := #[46] }, type := 46, pos := "slot.go:64", after := #[{ on := 0, ground := Go.Ground.data }], guard := none }) rfl (fun K hK => ?_) AllReadyH.nil
    go_simp
    (go_at_call 38; (with_reducible refine (clone_any v L _ (Kd.R_below HR6.out (HP.out _ (by assumption))) (by omega)).mono ?_); rintro e w7 ⟨v7, rfl, ho, hb⟩)
    have HN7 := Lib.hid (show ∀ j u, [Value.int .i64 f0, .int .i64 f1, .int .i64 f2][j]? = some u → w7.cell? ((⟨w6.heap.size, 0, none⟩ : Addr).add j) = some u from fun j u hj => by rw [Go.WideShapes.add_plain, hb.cell (by simp), ← Go.WideShapes.add_plain]; exact news3' _ _ (by simp) _ _ _ _ j u hj)
    have HB7 := Lib.hid (bstep0 (HP.out _ (by assumption)) hb)
    have HO7 := Lib.hid (own_low ho (by have := (HP.out _ (by assumption)).size; omega : W.heap.size ≤ _))
    have HV7 := Lib.hid (fun k hk => Nat.le_trans (HP.out _ (by assumption)).size (ho.lt k hk).1)
    clear ho hb
    go_wp2_with fail
    refine hK.out _ _ (HS.out _ HB7.out) (fun hHeld3 => ?_)
    clear hK K
    try simp only [Act.put, List.setIfInBounds_toArray, List.set_cons_zero, List.set_cons_succ]
    refine wpAnyH_ready (rs := [4]) (by kernel_rfl) (by simp) ?_
    refine AllReadyH.cons (o := { dst := some 52, op := Go.Op.call { callee := Go.Callee.builtin Go.Builtin.append, args := #[Go.Operand.tmp 49, Go.Operand.tmp 51], argTypes := #[46, 46] }, type := 46, pos := "slot.go:64", after := #[{ on := 1, ground := Go.Ground.data }, { on := 3, ground := Go.Ground.data }, { on := 1, ground := Go.Ground.chain }], guard := none }) rfl (fun K hK => ?_) AllReadyH.nil
    refine step_append_lies _ (by rfl) _ _ _ (by rfl) W.heap.size 42 i0 (.agg #[.int .i64 0, .int .i64 0, .int .i64 0]) 3 24 Tryd.underlying46 hi hz0 hz1 hz2 rfl (by omega) v7 L.length (cells3 L) (by rfl) HO7.out ⟨w6.heap.size, 0, none⟩ 1 1 [.int .i64 f0, .int .i64 f1, .int .i64 f2] (by rfl) (by rfl) HN7.out (by simp [Value.oneCell']) (by omega) (by unfold maxLen; omega) (by omega) (by have := HB7.out.size; simp; omega) _ rfl ?_
    intro gg cap w8 hown8 hgrow hat hlt
    have HB8 := Lib.hid (HB7.out.grown hgrow (by have := HB7.out.size; simp; omega) (fun k hk => HV7.out k hk))
    refine hK.out _ _ (HS.out _ HB8.out) (fun hHeld2 => ?_)
    have HO8 := Lib.hid hown8
    clear hK K
    try simp only [Act.put, List.setIfInBounds_toArray, List.set_cons_zero, List.set_cons_succ]
    refine wpAnyH_take (i := 5) (oi := { dst := some 6, op := Go.Op.assign (Go.Operand.tmp 52), type := 46, pos := "slot.go:64", after := #[{ on := 4, ground := Go.Ground.data }, { on := 4, ground := Go.Ground.chain }, { on := 0, ground := Go.Ground.phase }, { on := 1, ground := Go.Ground.phase }, { on := 2, ground := Go.Ground.phase }, { on := 3, ground := Go.Ground.phase }, { on := 4, ground := Go.Ground.phase }], guard := none }) (v := ?_) rfl (by kernel_rfl) (by kernel_rfl) (by kernel_rfl) (fun _ _ _ h => h) (Or.inl ⟨by rfl, ?_⟩) (by assumption) ?_
    rotate_left
    · intro w hSw; (try dsimp only at hSw); go_simp; (try with_reducible rfl)
    try simp only [Act.put, List.setIfInBounds_toArray, List.set_cons_zero, List.set_cons_succ]
    refine wpAnyH_take (i := 6) (oi := { dst := some 7, op := Go.Op.assign (Go.Operand.const Go.Value.nilIface), type := 26, pos := "slot.go:64", after := #[{ on := 5, ground := Go.Ground.chain }, { on := 0, ground := Go.Ground.phase }, { on := 1, ground := Go.Ground.phase }, { on := 2, ground := Go.Ground.phase }, { on := 3, ground := Go.Ground.phase }, { on := 4, ground := Go.Ground.phase }, { on := 5, ground := Go.Ground.phase }], guard := none }) (v := ?_) rfl (by kernel_rfl) (by kernel_rfl) (by kernel_rfl) (fun _ _ _ h => h) (Or.inl ⟨by rfl, ?_⟩) (by assumption) ?_
    rotate_left
    · intro w hSw; (try dsimp only at hSw); go_simp; (try with_reducible rfl)
    try simp only [Act.put, List.setIfInBounds_toArray, List.set_cons_zero, List.set_cons_succ]
    refine wpAnyH_done (by kernel_rfl) ?_ _
    go_wp2_with fail
    go_ret2
    exact ⟨_, _, rfl, HFin.out _ _ HO8.out, by rw [hok.out]; exact ErrC.nil _ _, HB1.out.trans ((HB6.out.trans (HB8.out.mono HB6.out.size)).mono HB1.out.size)⟩
end Go.Proofs.YtfgbnnmaooillaaDoor
