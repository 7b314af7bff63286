/- NodeBack: the walk. -/
import Derived.Test.YtbiijkpffllimaaDoorNodeFPNodeUnlike
namespace Go.Proofs.YtbiijkpffllimaaDoor
open Go.RowKit Go.Extern.Stop Go.Stop Go.Extern Go.Proofs.YtbiijkpffllimaaDoorW.PrintWords Go.Proofs.YtbiijkpffllimaaDoorW.PrintLast Go.Proofs.YtbiijkpffllimaaDoorW.PrintMore Go.Proofs.YtbiijkpffllimaaDoor.PNodeUnlike
set_option linter.unusedVariables false
set_option linter.unusedSimpArgs false

theorem catN_size (w : Nat) : ∀ l : List Int, (∀ x ∈ l, fitsB (w : Int) x = true) → (catN w l).size = w * l.length
  | [], _ => rfl
  | x :: l, h => by
    have h1 := putB_size (h x List.mem_cons_self)
    rw [catN, ByteArray.size_append, catN_size w l (fun y hy => h y (List.mem_cons_of_mem _ hy)), List.length_cons, Nat.mul_succ]; omega
theorem catV_size : ∀ l : List ByteArray, (∀ x ∈ l, x.size = 12) → (catV l).size = 12 * l.length
  | [], _ => rfl
  | x :: l, h => by
    rw [catV, ByteArray.size_append, catV_size l (fun y hy => h y (List.mem_cons_of_mem _ hy)), List.length_cons, h x List.mem_cons_self]; omega
theorem lay_len {ks : List Int} {vs : List ByteArray} {kd : List Int} (h : nodeB ks vs kd = true) : (layS ks vs kd).size ≤ 120 := by
  have g := node_g h
  have f := node_facts h
  have h1 := putB_size g.h1
  have h2 := putB_size g.h2
  rw [layS_cat]
  simp only [ByteArray.size_append, catN_size 4 _ g.k, catN_size 1 _ g.d, catV_size _ g.v]
  have a := g.nv
  have b := g.nd
  have k7 := f.k7
  unfold kindI at a b
  split at a <;> rename_i hk
  · simp only [hk, if_true] at b
    have e1 : ((1 : Nat) : Int) = 1 := rfl
    rw [e1] at h1 h2
    omega
  · simp only [hk, if_false] at b
    have e1 : ((1 : Nat) : Int) = 1 := rfl
    rw [e1] at h1 h2
    omega
theorem x_size : (⟨#[120]⟩ : ByteArray).size = 1 := rfl
theorem parts_x {ks : List Int} {vs : List ByteArray} {kd : List Int} (h : nodeB ks vs kd = true) : partsR (layS ks vs kd ++ ⟨#[120]⟩) = ⟨ks, vs, kd, false⟩ := by
  rw [parts_at h, x_size]; rfl
theorem x_sum (s : ByteArray) : (s ++ (⟨#[120]⟩ : ByteArray)).size = s.size + 1 := by rw [ByteArray.size_append, x_size]
theorem read_any_bad (d : ByteArray) (ks : List Int) (vs : List ByteArray) (kd : List Int) (n : Nat) (hn : n ≤ 121) (hd : d.size = n) (hP : partsR d = ⟨ks, vs, kd, false⟩) (W : World) : Calls Tryd.prog 29 #[.string d] W (ReadBad W) := by
  refine read_bad_a d ks vs kd false W ?_ hP rfl
  omega
theorem read_x {ks : List Int} {vs : List ByteArray} {kd : List Int} (h : nodeB ks vs kd = true) (W : World) : Calls Tryd.prog 29 #[.string (layS ks vs kd ++ ⟨#[120]⟩)] W (ReadBad W) := by
  have hl := lay_len h
  have hx := x_sum (layS ks vs kd)
  have hp := parts_x h
  generalize layS ks vs kd ++ (⟨#[120]⟩ : ByteArray) = d at hx hp ⊢
  exact read_any_bad d ks vs kd _ (by omega) hx hp W
set_option maxHeartbeats 2000000 in
set_option maxRecDepth 100000 in
theorem back_a (A0 : Option Addr) (ks : List Int) (c0 : Nat) (A1 : Option Addr) (vs : List ByteArray) (c1 : Nat) (A2 : Option Addr) (kd : List Int) (c2 : Nat) (w : World) (ha : NodeIn w A0 ks c0 A1 vs c1 A2 kd c2) (tied : Tied w) (fa : fewB ks vs kd = false) :
    Calls Tryd.prog 9 #[.agg #[.slice A0 ks.length c0, .slice A1 vs.length c1, .slice A2 kd.length c2]] w fun e w' => e = .returned (.bool true) ∧ Below w.heap.size w w' := by
  have HN := Lib.hid fa
  clear fa
  have Ha := Lib.hid ha
  have HT := Lib.hid tied
  have HB0 : Hid (Below w.heap.size w (w.alloc (.cells #[.slice A0 ks.length c0, .slice A1 vs.length c1, .slice A2 kd.length c2] 25))) := Lib.hid ((Below.refl _ _).alloc (Nat.le_refl _) _)
  clear ha tied
  go_enter Tryd.func9, Tryd.ntmps9
  go_wp2_with fail
  refine (node_awake _).mono ?_
  rintro e w1 ⟨rfl, hb⟩
  have HB1 := Lib.hid (hb)
  obtain ⟨x0, x1, x2⟩ := box_cells HB1.out
  clear hb
  go_wp2_with fail
  refine (few_no A0 ks c0 A1 vs c1 A2 kd c2 _ (Ha.out.below (HB0.out.trans (HB1.out.mono (by simp)))) HN.out).mono ?_
  rintro e w2 ⟨rfl, hb⟩
  have HB2 := Lib.hid (HB1.out.trans (hb.mono HB1.out.size))
  obtain ⟨x0, x1, x2⟩ := box_cells HB2.out
  clear hb
  go_wp2_with fail
  refine (node_awake _).mono ?_
  rintro e w3 ⟨rfl, hb⟩
  have HB3 := Lib.hid (HB2.out.trans (hb.mono HB2.out.size))
  obtain ⟨x0, x1, x2⟩ := box_cells HB3.out
  clear hb
  go_wp2_with fail
  go_ret
  exact ⟨rfl, (HB0.out.trans (HB3.out.mono (by simp)))⟩
set_option maxHeartbeats 2000000 in
set_option maxRecDepth 100000 in
theorem back_b (A0 : Option Addr) (ks : List Int) (c0 : Nat) (A1 : Option Addr) (vs : List ByteArray) (c1 : Nat) (A2 : Option Addr) (kd : List Int) (c2 : Nat) (w : World) (ha : NodeIn w A0 ks c0 A1 vs c1 A2 kd c2) (tied : Tied w) (fa : fewB ks vs kd = true) (ra : nodeB ks vs kd = false) :
    Calls Tryd.prog 9 #[.agg #[.slice A0 ks.length c0, .slice A1 vs.length c1, .slice A2 kd.length c2]] w fun e w' => e = .returned (.bool true) ∧ Below w.heap.size w w' := by
  have HF := Lib.hid fa
  have HR := Lib.hid ra
  have f1 := fewB_iff.1 fa
  have HL := Lib.hid (show ks.length ≤ 1000 ∧ vs.length ≤ 1000 ∧ kd.length ≤ 1000 by omega)
  clear fa ra f1
  have Ha := Lib.hid ha
  have HT := Lib.hid tied
  have HB0 : Hid (Below w.heap.size w (w.alloc (.cells #[.slice A0 ks.length c0, .slice A1 vs.length c1, .slice A2 kd.length c2] 25))) := Lib.hid ((Below.refl _ _).alloc (Nat.le_refl _) _)
  clear ha tied
  go_enter Tryd.func9, Tryd.ntmps9
  go_wp2_with fail
  refine (node_awake _).mono ?_
  rintro e w1 ⟨rfl, hb⟩
  have HB1 := Lib.hid (hb)
  obtain ⟨x0, x1, x2⟩ := box_cells HB1.out
  clear hb
  go_wp2_with fail
  refine (few_yes A0 ks c0 A1 vs c1 A2 kd c2 _ (Ha.out.below (HB0.out.trans (HB1.out.mono (by simp)))) HF.out).mono ?_
  rintro e w2 ⟨rfl, hb⟩
  have HB2 := Lib.hid (HB1.out.trans (hb.mono HB1.out.size))
  obtain ⟨x0, x1, x2⟩ := box_cells HB2.out
  clear hb
  go_wp2_with fail
  refine (of_call A0 ks c0 A1 vs c1 A2 kd c2 _).mono ?_
  rintro e w3 ⟨rfl, hb⟩
  have HB3 := Lib.hid (HB2.out.trans (hb.mono HB2.out.size))
  obtain ⟨x0, x1, x2⟩ := box_cells HB3.out
  clear hb
  go_wp2_with fail
  refine (lay_bad A0 ks c0 A1 vs c1 A2 kd c2 _ (Ha.out.below (HB0.out.trans (HB3.out.mono (by simp)))).k (Ha.out.below (HB0.out.trans (HB3.out.mono (by simp)))).v (Ha.out.below (HB0.out.trans (HB3.out.mono (by simp)))).d HL.out.1 HL.out.2.1 HL.out.2.2 HR.out).mono ?_
  rintro e w4 ⟨v, rfl, he, hb⟩
  have HB4 := Lib.hid (HB3.out.trans (hb.mono HB3.out.size))
  obtain ⟨x0, x1, x2⟩ := box_cells HB4.out
  clear hb
  have HE := Lib.hid he
  obtain ⟨tt, xx, rfl⟩ := he.iface (by decide)
  clear he
  go_wp2_with fail
  refine (Num_any (B := w3.heap.size) _ _ 1 HE.out.r (HT.out.under HT.out.lt (HB0.out.trans (HB4.out.mono (by simp))))).mono ?_
  rintro e w5 ⟨rfl, hb⟩
  have HB5 := Lib.hid (HB4.out.trans (hb.mono HB4.out.size))
  obtain ⟨x0, x1, x2⟩ := box_cells HB5.out
  have HE2 := Lib.hid (HE.out.under hb)
  clear hb
  go_wp2_with fail
  refine (Num_any (B := w3.heap.size) _ _ 1 HE2.out.r (HT.out.under HT.out.lt (HB0.out.trans (HB5.out.mono (by simp))))).mono ?_
  rintro e w6 ⟨rfl, hb⟩
  have HB6 := Lib.hid (HB5.out.trans (hb.mono HB5.out.size))
  obtain ⟨x0, x1, x2⟩ := box_cells HB6.out
  clear hb
  go_wp2_with fail
  refine (of_call A0 ks c0 A1 vs c1 A2 kd c2 _).mono ?_
  rintro e w7 ⟨rfl, hb⟩
  have HB7 := Lib.hid (HB6.out.trans (hb.mono HB6.out.size))
  obtain ⟨x0, x1, x2⟩ := box_cells HB7.out
  clear hb
  go_wp2_with fail
  refine (right_in A0 ks c0 A1 vs c1 A2 kd c2 _ (Ha.out.below (HB0.out.trans (HB7.out.mono (by simp)))) HF.out false HR.out).mono ?_
  rintro e w8 ⟨rfl, hb⟩
  have HB8 := Lib.hid (HB7.out.trans (hb.mono HB7.out.size))
  obtain ⟨x0, x1, x2⟩ := box_cells HB8.out
  clear hb
  go_wp2_with fail
  go_ret
  exact ⟨rfl, (HB0.out.trans (HB8.out.mono (by simp)))⟩
set_option maxHeartbeats 2000000 in
set_option maxRecDepth 100000 in
theorem back_c (A0 : Option Addr) (ks : List Int) (c0 : Nat) (A1 : Option Addr) (vs : List ByteArray) (c1 : Nat) (A2 : Option Addr) (kd : List Int) (c2 : Nat) (w : World) (ha : NodeIn w A0 ks c0 A1 vs c1 A2 kd c2) (tied : Tied w) (fa : fewB ks vs kd = true) (ra : nodeB ks vs kd = true) :
    Calls Tryd.prog 9 #[.agg #[.slice A0 ks.length c0, .slice A1 vs.length c1, .slice A2 kd.length c2]] w fun e w' => e = .returned (.bool true) ∧ Below w.heap.size w w' := by
  have HF := Lib.hid fa
  have HR := Lib.hid ra
  have f1 := fewB_iff.1 fa
  have HL := Lib.hid (show ks.length ≤ 1000 ∧ vs.length ≤ 1000 ∧ kd.length ≤ 1000 by omega)
  have hlen := lay_len ra
  have HP1 := Lib.hid (parts_lay ra)
  have HRB : Hid (∀ W : World, Calls Tryd.prog 29 #[.string (layS ks vs kd ++ ⟨#[120]⟩)] W (ReadBad W)) := Lib.hid (fun W => read_x ra W)
  clear fa ra f1
  obtain ⟨s, hs⟩ : ∃ q, q = layS ks vs kd := ⟨_, rfl⟩
  rw [← hs] at hlen HP1 HRB
  have HSe := Lib.hid hs
  clear hs
  have hx1 : (⟨#[120]⟩ : ByteArray).size = 1 := rfl
  have hadd := add_run (a := s) (b := ⟨#[120]⟩) (by rw [hx1]; omega)
  have HRO : Hid (∀ W : World, Calls Tryd.prog 29 #[.string s] W (ReadOk ks vs kd W)) := Lib.hid (fun W => read_ok s ks vs kd true W (by omega) HP1.out rfl HR.out)
  clear hx1
  have Ha := Lib.hid ha
  have HT := Lib.hid tied
  have HB0 : Hid (Below w.heap.size w (w.alloc (.cells #[.slice A0 ks.length c0, .slice A1 vs.length c1, .slice A2 kd.length c2] 25))) := Lib.hid ((Below.refl _ _).alloc (Nat.le_refl _) _)
  clear ha tied
  go_enter Tryd.func9, Tryd.ntmps9
  go_wp2_with fail
  refine (node_awake _).mono ?_
  rintro e w1 ⟨rfl, hb⟩
  have HB1 := Lib.hid (hb)
  obtain ⟨x0, x1, x2⟩ := box_cells HB1.out
  clear hb
  go_wp2_with fail
  refine (few_yes A0 ks c0 A1 vs c1 A2 kd c2 _ (Ha.out.below (HB0.out.trans (HB1.out.mono (by simp)))) HF.out).mono ?_
  rintro e w2 ⟨rfl, hb⟩
  have HB2 := Lib.hid (HB1.out.trans (hb.mono HB1.out.size))
  obtain ⟨x0, x1, x2⟩ := box_cells HB2.out
  clear hb
  go_wp2_with fail
  refine (of_call A0 ks c0 A1 vs c1 A2 kd c2 _).mono ?_
  rintro e w3 ⟨rfl, hb⟩
  have HB3 := Lib.hid (HB2.out.trans (hb.mono HB2.out.size))
  obtain ⟨x0, x1, x2⟩ := box_cells HB3.out
  clear hb
  go_wp2_with fail
  refine (layok_in A0 ks c0 A1 vs c1 A2 kd c2 _ (Ha.out.below (HB0.out.trans (HB3.out.mono (by simp)))) HF.out HR.out).mono ?_
  rintro e w4 ⟨rfl, hb⟩
  have HB4 := Lib.hid (HB3.out.trans (hb.mono HB3.out.size))
  obtain ⟨x0, x1, x2⟩ := box_cells HB4.out
  clear hb
  rw [← HSe.out]
  go_wp2_with fail
  refine (Num_nil _).mono ?_
  rintro e _ ⟨rfl, rfl⟩
  go_wp2_with fail
  refine (HRO.out _).mono ?_
  rintro e w5 ⟨X0, e0, X1, e1, X2, e2, rfl, hx, hb⟩
  have HX := Lib.hid hx
  have HB5 := Lib.hid (HB4.out.trans (hb.mono HB4.out.size))
  clear hx hb
  have HBy : Hid (Below w5.heap.size w5 (w5.alloc (.cells #[.slice X0 ks.length e0, .slice X1 vs.length e1, .slice X2 kd.length e2] 33))) := Lib.hid ((Below.refl _ _).alloc (Nat.le_refl _) _)
  go_wp2_with fail
  refine (HRB.out _).mono ?_
  rintro e w6 ⟨v, rfl, he, hb⟩
  have HE := Lib.hid he
  obtain ⟨tt, xx, rfl⟩ := he.iface (by decide)
  have HY6 := Lib.hid hb
  have HB6 := Lib.hid (HB5.out.trans (HBy.out.trans (hb.mono (by simp)) |>.mono HB5.out.size))
  clear he hb
  have HTy := Lib.hid (show ∀ w', KF w6 w' → (w'.cell? ⟨w5.heap.size, 0, none⟩ = some (.slice X0 ks.length e0) ∧ w'.cell? ⟨w5.heap.size, 1, none⟩ = some (.slice X1 vs.length e1) ∧ w'.cell? ⟨w5.heap.size, 2, none⟩ = some (.slice X2 kd.length e2)) from fun w' h => box_cells (HY6.out.trans (Below.mono h HY6.out.size)))
  have HTn := Lib.hid (show ∀ w', KF w6 w' → (w'.cell? ⟨w.heap.size, 0, none⟩ = some (.slice A0 ks.length c0) ∧ w'.cell? ⟨w.heap.size, 1, none⟩ = some (.slice A1 vs.length c1) ∧ w'.cell? ⟨w.heap.size, 2, none⟩ = some (.slice A2 kd.length c2)) from fun w' h => box_cells (HB6.out.trans (Below.mono h HB6.out.size)))
  have HNa : Hid (∀ w', KF w6 w' → NodeIn w' A0 ks c0 A1 vs c1 A2 kd c2) := Lib.hid (fun w' h => (Ha.out.below (HB0.out.trans (HB6.out.mono (by simp)))).below h)
  have HNx : Hid (∀ w', KF w6 w' → NodeIn w' X0 ks e0 X1 vs e1 X2 kd e2) := Lib.hid (fun w' h => (HX.out.below (HBy.out.trans (HY6.out.mono (by simp)))).below h)
  have HTd : Hid (Tied w6) := Lib.hid (HT.out.under HT.out.lt (HB0.out.trans (HB6.out.mono (by simp))))
  have hsame : sameB ks vs kd ks vs kd = true := sameB_iff.2 ⟨rfl, rfl, rfl⟩
  have HSm : Hid (∀ w', KF w6 w' → Calls Tryd.prog 19 #[.agg #[.slice X0 ks.length e0, .slice X1 vs.length e1, .slice X2 kd.length e2], .agg #[.slice A0 ks.length c0, .slice A1 vs.length c1, .slice A2 kd.length c2]] w' fun e w'' => e = .returned (.int .i64 1) ∧ Below w'.heap.size w' w'') := Lib.hid (fun w' h => by
    have := same_any X0 ks e0 X1 vs e1 X2 kd e2 w' A0 ks c0 A1 vs c1 A2 kd c2 (HNx.out w' h) (HNa.out w' h) HL.out.1 HL.out.2.1 HL.out.2.2
    rw [hsame] at this
    exact this)
  have HLf : Hid (∀ w', KF w6 w' → Calls Tryd.prog 30 #[.agg #[.slice X0 ks.length e0, .slice X1 vs.length e1, .slice X2 kd.length e2]] w' fun e w'' => e = .returned (.bool (decide (kd.length = 0))) ∧ Below w'.heap.size w' w'') := Lib.hid (fun w' h =>
    leaf_any X0 ks e0 X1 vs e1 X2 kd e2 w' (HNx.out w' h).k (HNx.out w' h).v (HNx.out w' h).d)
  have HNu : Hid (∀ w', KF w6 w' → Calls Tryd.prog 18 #[.iface tt xx] w' fun e w'' => e = .returned (.int .i64 2) ∧ Below w'.heap.size w' w'') := Lib.hid (fun w' h => Num_c w' _ 2 (HE.out.under h) (HTd.out.under HTd.out.lt h))
  have hlz : (s.size : Int) ≤ 120 := by omega
  have hlz2 : decide ((s.size : Int) ≤ 120) = true := decide_eq_true hlz
  clear hsame
  go_wp2_with fail
  obtain ⟨wq, hwq⟩ : ∃ q, q = w6.alloc (.cells #[.slice none 0 0, .slice none 0 0, .slice none 0 0] 33) := ⟨_, rfl⟩
  have HQ : Hid (KF w6 wq) := Lib.hid (by rw [hwq]; exact (Below.refl _ _).alloc (Nat.le_refl _) _)
  rw [← hwq]
  have HSt := Lib.hid (show ∀ w', KF w6 w' → (w'.cell? ⟨w5.heap.size, 0, none⟩ = some (.slice X0 ks.length e0) ∧ w'.cell? ⟨w5.heap.size, 1, none⟩ = some (.slice X1 vs.length e1) ∧ w'.cell? ⟨w5.heap.size, 2, none⟩ = some (.slice X2 kd.length e2)) ∧ (w'.cell? ⟨w.heap.size, 0, none⟩ = some (.slice A0 ks.length c0) ∧ w'.cell? ⟨w.heap.size, 1, none⟩ = some (.slice A1 vs.length c1) ∧ w'.cell? ⟨w.heap.size, 2, none⟩ = some (.slice A2 kd.length c2)) ∧ KF w6 w' from fun w' h => ⟨HTy.out w' h, HTn.out w' h, h⟩)
  have HSf := Lib.hid (show ∀ w', ((w'.cell? ⟨w5.heap.size, 0, none⟩ = some (.slice X0 ks.length e0) ∧ w'.cell? ⟨w5.heap.size, 1, none⟩ = some (.slice X1 vs.length e1) ∧ w'.cell? ⟨w5.heap.size, 2, none⟩ = some (.slice X2 kd.length e2)) ∧ (w'.cell? ⟨w.heap.size, 0, none⟩ = some (.slice A0 ks.length c0) ∧ w'.cell? ⟨w.heap.size, 1, none⟩ = some (.slice A1 vs.length c1) ∧ w'.cell? ⟨w.heap.size, 2, none⟩ = some (.slice A2 kd.length c2)) ∧ KF w6 w') → KF w6 w' from fun w' h => h.2.2)
  clear hwq
  by_cases hkd : kd.length = 0
  · have hk1 : decide (kd.length = 0) = true := decide_eq_true hkd
    have hk2 : ((kd.length : Int) == 0) = true := by rw [beq_iff_eq]; omega
    have hk3 : (kd.length == 0) = true := by rw [beq_iff_eq]; exact hkd
    rw [hk1] at HLf
    have HKD := Lib.hid hkd
    clear hk1 hkd
    go_region_held3 (fun w' => (w'.cell? ⟨w5.heap.size, 0, none⟩ = some (.slice X0 ks.length e0) ∧ w'.cell? ⟨w5.heap.size, 1, none⟩ = some (.slice X1 vs.length e1) ∧ w'.cell? ⟨w5.heap.size, 2, none⟩ = some (.slice X2 kd.length e2)) ∧ (w'.cell? ⟨w.heap.size, 0, none⟩ = some (.slice A0 ks.length c0) ∧ w'.cell? ⟨w.heap.size, 1, none⟩ = some (.slice A1 vs.length c1) ∧ w'.cell? ⟨w.heap.size, 2, none⟩ = some (.slice A2 kd.length c2)) ∧ KF w6 w') ((refine HSt.out _ ?_; first | assumption | exact KF.step HQ.out (Below.drew (Below.refl _ _)))) (first | (go_at_call 18; (with_reducible refine (Num_nil _).mono ?_); rintro e wn ⟨rfl, rfl⟩) | (go_at_call 18; (with_reducible refine (HNu.out _ (HSf.out _ (by assumption))).mono ?_); rintro e wn ⟨rfl, hb⟩; have hKK := KF.step (HSf.out _ (by assumption)) hb; clear hb) | (go_at_call 19; (with_reducible refine (HSm.out _ (HSf.out _ (by assumption))).mono ?_); rintro e wn ⟨rfl, hb⟩; have hKK := KF.step (HSf.out _ (by assumption)) hb; clear hb) | (go_at_call 30; (with_reducible refine (HLf.out _ (HSf.out _ (by assumption))).mono ?_); rintro e wn ⟨rfl, hb⟩; have hKK := KF.step (HSf.out _ (by assumption)) hb; clear hb))
    go_wp2_with fail
    go_ret
    exact ⟨rfl, (HB0.out.trans (HB6.out.mono (by simp))).trans (Below.mono hKK (by have := HB0.out.size; have := HB6.out.size; omega))⟩
  · have hk1 : decide (kd.length = 0) = false := decide_eq_false hkd
    have hk2 : ((kd.length : Int) == 0) = false := by rw [beq_eq_false_iff_ne]; omega
    have hk3 : (kd.length == 0) = false := by rw [beq_eq_false_iff_ne]; exact hkd
    rw [hk1] at HLf
    have HKD := Lib.hid hkd
    clear hk1 hkd
    go_region_held3 (fun w' => (w'.cell? ⟨w5.heap.size, 0, none⟩ = some (.slice X0 ks.length e0) ∧ w'.cell? ⟨w5.heap.size, 1, none⟩ = some (.slice X1 vs.length e1) ∧ w'.cell? ⟨w5.heap.size, 2, none⟩ = some (.slice X2 kd.length e2)) ∧ (w'.cell? ⟨w.heap.size, 0, none⟩ = some (.slice A0 ks.length c0) ∧ w'.cell? ⟨w.heap.size, 1, none⟩ = some (.slice A1 vs.length c1) ∧ w'.cell? ⟨w.heap.size, 2, none⟩ = some (.slice A2 kd.length c2)) ∧ KF w6 w') ((refine HSt.out _ ?_; first | assumption | exact KF.step HQ.out (Below.drew (Below.refl _ _)))) (first | (go_at_call 18; (with_reducible refine (Num_nil _).mono ?_); rintro e wn ⟨rfl, rfl⟩) | (go_at_call 18; (with_reducible refine (HNu.out _ (HSf.out _ (by assumption))).mono ?_); rintro e wn ⟨rfl, hb⟩; have hKK := KF.step (HSf.out _ (by assumption)) hb; clear hb) | (go_at_call 19; (with_reducible refine (HSm.out _ (HSf.out _ (by assumption))).mono ?_); rintro e wn ⟨rfl, hb⟩; have hKK := KF.step (HSf.out _ (by assumption)) hb; clear hb) | (go_at_call 30; (with_reducible refine (HLf.out _ (HSf.out _ (by assumption))).mono ?_); rintro e wn ⟨rfl, hb⟩; have hKK := KF.step (HSf.out _ (by assumption)) hb; clear hb))
    go_wp2_with fail
    go_ret
    exact ⟨rfl, (HB0.out.trans (HB6.out.mono (by simp))).trans (Below.mono hKK (by have := HB0.out.size; have := HB6.out.size; omega))⟩
theorem back_walk (A0 : Option Addr) (ks : List Int) (c0 : Nat) (A1 : Option Addr) (vs : List ByteArray) (c1 : Nat) (A2 : Option Addr) (kd : List Int) (c2 : Nat) (w : World) (ha : NodeIn w A0 ks c0 A1 vs c1 A2 kd c2) (tied : Tied w) :
    Calls Tryd.prog 9 #[.agg #[.slice A0 ks.length c0, .slice A1 vs.length c1, .slice A2 kd.length c2]] w fun e w' => e = .returned (.bool true) ∧ Below w.heap.size w w' := by
  cases fa : fewB ks vs kd with
  | false => exact back_a A0 ks c0 A1 vs c1 A2 kd c2 w ha tied fa
  | true =>
    cases ra : nodeB ks vs kd with
    | false => exact back_b A0 ks c0 A1 vs c1 A2 kd c2 w ha tied fa ra
    | true => exact back_c A0 ks c0 A1 vs c1 A2 kd c2 w ha tied fa ra
end Go.Proofs.YtbiijkpffllimaaDoor
