/- NodeParts: the walk. -/
import Derived.Test.YtbiijkpffllimaaDoorNodeVPNodeUnlike
import Derived.Deep.RegionHeld3
namespace Go.Proofs.YtbiijkpffllimaaDoor
open Go.RowKit Go.Extern.Stop Go.Stop Go.Extern Go.Proofs.YtbiijkpffllimaaDoorW.PrintWords Go.Proofs.YtbiijkpffllimaaDoorW.PrintLast Go.Proofs.YtbiijkpffllimaaDoorW.PrintMore Go.Proofs.YtbiijkpffllimaaDoor.PNodeUnlike
set_option linter.unusedVariables false
set_option linter.unusedSimpArgs false

theorem right_is (A0 : Option Addr) (ks : List Int) (c0 : Nat) (A1 : Option Addr) (vs : List ByteArray) (c1 : Nat) (A2 : Option Addr) (kd : List Int) (c2 : Nat) (w : World) (n0 n1 n2 : Nat) (h0 : Ints w A0 ks c0) (h1 : Strs w A1 vs c1) (h2 : Ints w A2 kd c2) (b : Bool) (hb : nodeB ks vs kd = b) (e0 : ks.length = n0) (e1 : vs.length = n1) (e2 : kd.length = n2) (hl0 : n0 ≤ 1000) (hl1 : n1 ≤ 1000) (hl2 : n2 ≤ 1000) :
    Calls Tryd.prog 20 #[.agg #[.slice A0 n0 c0, .slice A1 n1 c1, .slice A2 n2 c2]] w fun e w' => e = .returned (.bool b) ∧ Below w.heap.size w w' := by
  subst e0; subst e1; subst e2
  have h := right_any A0 ks c0 A1 vs c1 A2 kd c2 w h0 h1 h2 hl0 hl1 hl2
  rw [hb] at h
  exact h
set_option maxHeartbeats 800000 in
set_option maxRecDepth 100000 in
theorem parts_a (A0 : Option Addr) (ks : List Int) (c0 : Nat) (A1 : Option Addr) (vs : List ByteArray) (c1 : Nat) (A2 : Option Addr) (kd : List Int) (c2 : Nat) (cut : Int) (w : World) (ha : NodeIn w A0 ks c0 A1 vs c1 A2 kd c2) (u0 : 0 ≤ cut) (u1 : cut ≤ 255) (tied : Tied w) (fa : fewB ks vs kd = false) :
    Calls Tryd.prog 4 #[.agg #[.slice A0 ks.length c0, .slice A1 vs.length c1, .slice A2 kd.length c2], .int .u8 cut] w fun e w' => e = .returned (.bool true) ∧ Below w.heap.size w w' := by
  have HN := Lib.hid fa
  clear fa
  have Ha := Lib.hid ha
  have HB0 : Hid (Below w.heap.size w (w.alloc (.cells #[.slice A0 ks.length c0, .slice A1 vs.length c1, .slice A2 kd.length c2] 25))) := Lib.hid ((Below.refl _ _).alloc (Nat.le_refl _) _)
  clear ha tied
  go_enter Tryd.func4, Tryd.ntmps4
  go_wp2_with fail
  refine (node_awake _).mono ?_
  rintro e w1 ⟨rfl, hb⟩
  have HB1 := Lib.hid (hb)
  obtain ⟨x0, x1, x2⟩ := box_cells HB1.out
  clear hb
  go_wp2_with fail
  refine (few_no A0 ks c0 A1 vs c1 A2 kd c2 _ (Ha.out.below (HB0.out.trans (HB1.out.mono (by simp)))) HN.out).mono ?_
  rintro e w2 ⟨rfl, hb⟩
  have HB2 := Lib.hid (HB1.out.trans (hb.mono HB1.out.size))
  obtain ⟨x0, x1, x2⟩ := box_cells HB2.out
  clear hb
  go_wp2_with fail
  refine (node_awake _).mono ?_
  rintro e w3 ⟨rfl, hb⟩
  have HB3 := Lib.hid (HB2.out.trans (hb.mono HB2.out.size))
  obtain ⟨x0, x1, x2⟩ := box_cells HB3.out
  clear hb
  go_wp2_with fail
  go_ret
  exact ⟨rfl, (HB0.out.trans (HB3.out.mono (by simp)))⟩
set_option maxHeartbeats 800000 in
set_option maxRecDepth 100000 in
theorem parts_b (A0 : Option Addr) (ks : List Int) (c0 : Nat) (A1 : Option Addr) (vs : List ByteArray) (c1 : Nat) (A2 : Option Addr) (kd : List Int) (c2 : Nat) (cut : Int) (w : World) (ha : NodeIn w A0 ks c0 A1 vs c1 A2 kd c2) (u0 : 0 ≤ cut) (u1 : cut ≤ 255) (tied : Tied w) (fa : fewB ks vs kd = true) (ra : nodeB ks vs kd = false) :
    Calls Tryd.prog 4 #[.agg #[.slice A0 ks.length c0, .slice A1 vs.length c1, .slice A2 kd.length c2], .int .u8 cut] w fun e w' => e = .returned (.bool true) ∧ Below w.heap.size w w' := by
  have HF := Lib.hid fa
  have HR := Lib.hid ra
  clear fa ra
  have Ha := Lib.hid ha
  have HB0 : Hid (Below w.heap.size w (w.alloc (.cells #[.slice A0 ks.length c0, .slice A1 vs.length c1, .slice A2 kd.length c2] 25))) := Lib.hid ((Below.refl _ _).alloc (Nat.le_refl _) _)
  clear ha tied
  go_enter Tryd.func4, Tryd.ntmps4
  go_wp2_with fail
  refine (node_awake _).mono ?_
  rintro e w1 ⟨rfl, hb⟩
  have HB1 := Lib.hid (hb)
  obtain ⟨x0, x1, x2⟩ := box_cells HB1.out
  clear hb
  go_wp2_with fail
  refine (few_yes A0 ks c0 A1 vs c1 A2 kd c2 _ (Ha.out.below (HB0.out.trans (HB1.out.mono (by simp)))) HF.out).mono ?_
  rintro e w2 ⟨rfl, hb⟩
  have HB2 := Lib.hid (HB1.out.trans (hb.mono HB1.out.size))
  obtain ⟨x0, x1, x2⟩ := box_cells HB2.out
  clear hb
  go_wp2_with fail
  refine (rright_is A0 ks c0 A1 vs c1 A2 kd c2 _ (Ha.out.below (HB0.out.trans (HB2.out.mono (by simp)))) HF.out false HR.out).mono ?_
  rintro e w3 ⟨rfl, hb⟩
  have HB3 := Lib.hid (HB2.out.trans (hb.mono HB2.out.size))
  obtain ⟨x0, x1, x2⟩ := box_cells HB3.out
  clear hb
  go_wp2_with fail
  refine (node_awake _).mono ?_
  rintro e w4 ⟨rfl, hb⟩
  have HB4 := Lib.hid (HB3.out.trans (hb.mono HB3.out.size))
  obtain ⟨x0, x1, x2⟩ := box_cells HB4.out
  clear hb
  go_wp2_with fail
  go_ret
  exact ⟨rfl, (HB0.out.trans (HB4.out.mono (by simp)))⟩
set_option maxHeartbeats 2000000 in
set_option maxRecDepth 100000 in
theorem parts_c (A0 : Option Addr) (ks : List Int) (c0 : Nat) (A1 : Option Addr) (vs : List ByteArray) (c1 : Nat) (A2 : Option Addr) (kd : List Int) (c2 : Nat) (cut : Int) (w : World) (ha : NodeIn w A0 ks c0 A1 vs c1 A2 kd c2) (u0 : 0 ≤ cut) (u1 : cut ≤ 255) (tied : Tied w) (fa : fewB ks vs kd = true) (ra : nodeB ks vs kd = true) (hk : kd.length = 0) :
    Calls Tryd.prog 4 #[.agg #[.slice A0 ks.length c0, .slice A1 vs.length c1, .slice A2 kd.length c2], .int .u8 cut] w fun e w' => e = .returned (.bool true) ∧ Below w.heap.size w w' := by
  have HF := Lib.hid fa
  have HR := Lib.hid ra
  have HK := Lib.hid hk
  have hk7 := (node_facts ra).k7
  have hv7 := (node_facts ra).v7
  have hd8 := (node_facts ra).d8
  obtain ⟨q, hq⟩ : ∃ q : Nat, cut % ((ks.length : Int) + 1) = (q : Int) := ⟨(cut % ((ks.length : Int) + 1)).toNat, by have := Int.emod_nonneg cut (show (ks.length : Int) + 1 ≠ 0 by omega); omega⟩
  have hqk : q ≤ ks.length := by have := Int.emod_lt_of_pos cut (show (0 : Int) < (ks.length : Int) + 1 by omega); omega
  have ra' : nodeB ks vs [] = true := by rw [← List.eq_nil_of_length_eq_zero hk]; exact ra
  have hvl := (leaf_iff.1 ra').2.2
  have hkb : ((kd.length : Int) == 0) = true := by rw [beq_iff_eq]; omega
  have hkb2 : (kd.length == 0) = true := by rw [beq_iff_eq]; omega
  have hcc0 := ha.k.2
  have hcc1 := ha.v.2
  have hcc2 := ha.d.2
  obtain ⟨kt, kf⟩ := cuts_i A0 ks.length c0 q hqk hcc0
  obtain ⟨vt, vf⟩ := cuts_s A1 vs.length c1 q (by omega) hcc1
  have HQ1 := Lib.hid (leaf_take ra' hqk)
  have HQ2 := Lib.hid (leaf_drop ra' hqk)
  obtain ⟨K', hK'⟩ : ∃ x : Option Addr, x = (if c0 = q then A0 else A0.map (·.add (q * 1))) := ⟨_, rfl⟩
  obtain ⟨V', hV'⟩ : ∃ x : Option Addr, x = (if c1 = q then A1 else A1.map (·.add (q * 1))) := ⟨_, rfl⟩
  rw [← hK'] at kf
  rw [← hV'] at vf
  have HKV := Lib.hid (And.intro hK' hV')
  have HL := Lib.hid (show vs.length = ks.length ∧ q ≤ ks.length ∧ ks.length ≤ 7 by omega)
  clear hK' hV' hvl ra'
  clear fa ra hk
  have Ha := Lib.hid ha
  have HB0 : Hid (Below w.heap.size w (w.alloc (.cells #[.slice A0 ks.length c0, .slice A1 vs.length c1, .slice A2 kd.length c2] 25))) := Lib.hid ((Below.refl _ _).alloc (Nat.le_refl _) _)
  clear ha tied
  go_enter Tryd.func4, Tryd.ntmps4
  go_wp2_with fail
  refine (node_awake _).mono ?_
  rintro e w1 ⟨rfl, hb⟩
  have HB1 := Lib.hid (hb)
  obtain ⟨x0, x1, x2⟩ := box_cells HB1.out
  clear hb
  go_wp2_with fail
  refine (few_yes A0 ks c0 A1 vs c1 A2 kd c2 _ (Ha.out.below (HB0.out.trans (HB1.out.mono (by simp)))) HF.out).mono ?_
  rintro e w2 ⟨rfl, hb⟩
  have HB2 := Lib.hid (HB1.out.trans (hb.mono HB1.out.size))
  obtain ⟨x0, x1, x2⟩ := box_cells HB2.out
  clear hb
  go_wp2_with fail
  refine (rright_is A0 ks c0 A1 vs c1 A2 kd c2 _ (Ha.out.below (HB0.out.trans (HB2.out.mono (by simp)))) HF.out true HR.out).mono ?_
  rintro e w3 ⟨rfl, hb⟩
  have HB3 := Lib.hid (HB2.out.trans (hb.mono HB2.out.size))
  obtain ⟨x0, x1, x2⟩ := box_cells HB3.out
  clear hb
  have HSt := Lib.hid (show ∀ w', KF w3 w' → (w'.cell? ⟨w.heap.size, 0, none⟩ = some (.slice A0 ks.length c0) ∧ w'.cell? ⟨w.heap.size, 1, none⟩ = some (.slice A1 vs.length c1) ∧ w'.cell? ⟨w.heap.size, 2, none⟩ = some (.slice A2 kd.length c2)) ∧ KF w3 w' from fun w' h => ⟨box_cells (HB3.out.trans (Below.mono h HB3.out.size)), h⟩)
  have HSf := Lib.hid (show ∀ w', ((w'.cell? ⟨w.heap.size, 0, none⟩ = some (.slice A0 ks.length c0) ∧ w'.cell? ⟨w.heap.size, 1, none⟩ = some (.slice A1 vs.length c1) ∧ w'.cell? ⟨w.heap.size, 2, none⟩ = some (.slice A2 kd.length c2)) ∧ KF w3 w') → KF w3 w' from fun w' h => h.2)
  have HNa : Hid (∀ w', KF w3 w' → NodeIn w' A0 ks c0 A1 vs c1 A2 kd c2) := Lib.hid (fun w' h => (Ha.out.below (HB0.out.trans (HB3.out.mono (by simp)))).below h)
  have HBw := Lib.hid (HB0.out.trans (HB3.out.mono (by simp)))
  have HR1 : Hid (∀ w', KF w3 w' → Calls Tryd.prog 20 #[.agg #[.slice A0 q c0, .slice A1 q c1, .slice none 0 0]] w' fun e w'' => e = .returned (.bool true) ∧ Below w'.heap.size w' w'') := Lib.hid (fun w' h =>
    right_is A0 (ks.take q) c0 A1 (vs.take q) c1 none [] 0 w' q q 0 (ints_take (HNa.out w' h).k HL.out.2.1) (strs_take (HNa.out w' h).v (by have := HL.out; omega)) (ints_nil _ _ _) true HQ1.out (by have := HL.out; rw [List.length_take]; omega) (by have := HL.out; rw [List.length_take]; omega) rfl (by have := HL.out; omega) (by have := HL.out; omega) (by omega))
  have HR2 : Hid (∀ w', KF w3 w' → Calls Tryd.prog 20 #[.agg #[.slice K' (ks.length - q) (c0 - q), .slice V' (vs.length - q) (c1 - q), .slice none 0 0]] w' fun e w'' => e = .returned (.bool true) ∧ Below w'.heap.size w' w'') := Lib.hid (fun w' h =>
    right_is K' (ks.drop q) (c0 - q) V' (vs.drop q) (c1 - q) none [] 0 w' (ks.length - q) (vs.length - q) 0 (by rw [HKV.out.1]; exact ints_drop (HNa.out w' h).k HL.out.2.1) (by rw [HKV.out.2]; exact strs_drop (HNa.out w' h).v (by have := HL.out; omega)) (ints_nil _ _ _) true HQ2.out List.length_drop List.length_drop rfl (by have := HL.out; omega) (by have := HL.out; omega) (by omega))
  go_wp2_with fail
  rw [hq]
  clear hq
  go_region_held3 (fun w' => (w'.cell? ⟨w.heap.size, 0, none⟩ = some (.slice A0 ks.length c0) ∧ w'.cell? ⟨w.heap.size, 1, none⟩ = some (.slice A1 vs.length c1) ∧ w'.cell? ⟨w.heap.size, 2, none⟩ = some (.slice A2 kd.length c2)) ∧ KF w3 w') ((refine HSt.out _ ?_; first | assumption | exact Below.drew (Below.refl _ _) | (refine KF.step (HSf.out _ (by assumption)) ?_; exact (Below.refl _ _).alloc (Nat.le_refl _) _))) (first | (go_at_call 20; (with_reducible refine (HR1.out _ (HSf.out _ (by assumption))).mono ?_); rintro e wn ⟨rfl, hb⟩; have hKK := KF.step (HSf.out _ (by assumption)) hb; clear hb) | (go_at_call 20; (with_reducible refine (HR2.out _ (HSf.out _ (by assumption))).mono ?_); rintro e wn ⟨rfl, hb⟩; have hKK := KF.step (HSf.out _ (by assumption)) hb; clear hb))
  go_wp2_with fail
  go_ret
  exact ⟨rfl, HBw.out.trans (Below.mono hKK HBw.out.size)⟩
set_option maxHeartbeats 2000000 in
set_option maxRecDepth 100000 in
theorem parts_d (A0 : Option Addr) (ks : List Int) (c0 : Nat) (A1 : Option Addr) (vs : List ByteArray) (c1 : Nat) (A2 : Option Addr) (kd : List Int) (c2 : Nat) (cut : Int) (w : World) (ha : NodeIn w A0 ks c0 A1 vs c1 A2 kd c2) (u0 : 0 ≤ cut) (u1 : cut ≤ 255) (tied : Tied w) (fa : fewB ks vs kd = true) (ra : nodeB ks vs kd = true) (hk : kd.length ≠ 0) :
    Calls Tryd.prog 4 #[.agg #[.slice A0 ks.length c0, .slice A1 vs.length c1, .slice A2 kd.length c2], .int .u8 cut] w fun e w' => e = .returned (.bool true) ∧ Below w.heap.size w w' := by
  have HF := Lib.hid fa
  have HR := Lib.hid ra
  have HK := Lib.hid hk
  have hk7 := (node_facts ra).k7
  have hv7 := (node_facts ra).v7
  have hd8 := (node_facts ra).d8
  obtain ⟨q, hq⟩ : ∃ q : Nat, cut % ((ks.length : Int) + 1) = (q : Int) := ⟨(cut % ((ks.length : Int) + 1)).toNat, by have := Int.emod_nonneg cut (show (ks.length : Int) + 1 ≠ 0 by omega); omega⟩
  have hqk : q ≤ ks.length := by have := Int.emod_lt_of_pos cut (show (0 : Int) < (ks.length : Int) + 1 by omega); omega
  have hin := (inner_iff hk).1 ra
  have hkl := hin.2.2.2.2
  have hvl := hin.2.2.1
  have hkb : ((kd.length : Int) == 0) = false := by rw [beq_eq_false_iff_ne]; omega
  have hkb2 : (kd.length == 0) = false := by rw [beq_eq_false_iff_ne]; omega
  clear hin
  have hcc0 := ha.k.2
  have hcc1 := ha.v.2
  have hcc2 := ha.d.2
  obtain ⟨kt, kf⟩ := cuts_i A0 ks.length c0 q hqk hcc0
  obtain ⟨dt, df⟩ := cuts_i A2 kd.length c2 (q + 1) (by omega) hcc2
  have HQ1 := Lib.hid (inner_take hk ra hqk)
  have HQ2 := Lib.hid (inner_vals (vs' := List.replicate ks.length ⟨#[]⟩) hk ra (by rw [List.length_replicate]))
  have hmk := print_make_of (P := Tryd.prog) 23 9 (.string ⟨#[]⟩) 16 Tryd.underlying23 info_str rfl (by omega) ks.length (by omega)
  have HL := Lib.hid (show kd.length = ks.length + 1 ∧ q ≤ ks.length ∧ ks.length ≤ 7 by omega)
  rw [show (((q + 1 : Nat)) : Int) = (q : Int) + 1 by omega] at dt
  have hq1 : IntKind.i64.wrap ((q : Int) + 1) = (q : Int) + 1 := IntWalk.i64_in _ (by omega)
  clear df kf hvl hkl
  clear fa ra hk
  have Ha := Lib.hid ha
  have HB0 : Hid (Below w.heap.size w (w.alloc (.cells #[.slice A0 ks.length c0, .slice A1 vs.length c1, .slice A2 kd.length c2] 25))) := Lib.hid ((Below.refl _ _).alloc (Nat.le_refl _) _)
  clear ha tied
  go_enter Tryd.func4, Tryd.ntmps4
  go_wp2_with fail
  refine (node_awake _).mono ?_
  rintro e w1 ⟨rfl, hb⟩
  have HB1 := Lib.hid (hb)
  obtain ⟨x0, x1, x2⟩ := box_cells HB1.out
  clear hb
  go_wp2_with fail
  refine (few_yes A0 ks c0 A1 vs c1 A2 kd c2 _ (Ha.out.below (HB0.out.trans (HB1.out.mono (by simp)))) HF.out).mono ?_
  rintro e w2 ⟨rfl, hb⟩
  have HB2 := Lib.hid (HB1.out.trans (hb.mono HB1.out.size))
  obtain ⟨x0, x1, x2⟩ := box_cells HB2.out
  clear hb
  go_wp2_with fail
  refine (rright_is A0 ks c0 A1 vs c1 A2 kd c2 _ (Ha.out.below (HB0.out.trans (HB2.out.mono (by simp)))) HF.out true HR.out).mono ?_
  rintro e w3 ⟨rfl, hb⟩
  have HB3 := Lib.hid (HB2.out.trans (hb.mono HB2.out.size))
  obtain ⟨x0, x1, x2⟩ := box_cells HB3.out
  clear hb
  have HSt := Lib.hid (show ∀ w', KF w3 w' → (w'.cell? ⟨w.heap.size, 0, none⟩ = some (.slice A0 ks.length c0) ∧ w'.cell? ⟨w.heap.size, 1, none⟩ = some (.slice A1 vs.length c1) ∧ w'.cell? ⟨w.heap.size, 2, none⟩ = some (.slice A2 kd.length c2)) ∧ KF w3 w' from fun w' h => ⟨box_cells (HB3.out.trans (Below.mono h HB3.out.size)), h⟩)
  have HSf := Lib.hid (show ∀ w', ((w'.cell? ⟨w.heap.size, 0, none⟩ = some (.slice A0 ks.length c0) ∧ w'.cell? ⟨w.heap.size, 1, none⟩ = some (.slice A1 vs.length c1) ∧ w'.cell? ⟨w.heap.size, 2, none⟩ = some (.slice A2 kd.length c2)) ∧ KF w3 w') → KF w3 w' from fun w' h => h.2)
  have HNa : Hid (∀ w', KF w3 w' → NodeIn w' A0 ks c0 A1 vs c1 A2 kd c2) := Lib.hid (fun w' h => (Ha.out.below (HB0.out.trans (HB3.out.mono (by simp)))).below h)
  have HBw := Lib.hid (HB0.out.trans (HB3.out.mono (by simp)))
  have HR1 : Hid (∀ w', KF w3 w' → Calls Tryd.prog 20 #[.agg #[.slice A0 q c0, .slice none 0 0, .slice A2 (q + 1) c2]] w' fun e w'' => e = .returned (.bool (decide (0 < q))) ∧ Below w'.heap.size w' w'') := Lib.hid (fun w' h =>
    right_is A0 (ks.take q) c0 none [] 0 A2 (kd.take (q + 1)) c2 w' q 0 (q + 1) (ints_take (HNa.out w' h).k HL.out.2.1) (strs_nil _ _ _) (ints_take (HNa.out w' h).d (by have := HL.out; omega)) _ HQ1.out (by have := HL.out; rw [List.length_take]; omega) rfl (by have := HL.out; rw [List.length_take]; omega) (by have := HL.out; omega) (by omega) (by have := HL.out; omega))
  have HR2 : Hid (∀ w' M, KF w3 w' → Strs w' M (List.replicate ks.length ⟨#[]⟩) ks.length → Calls Tryd.prog 20 #[.agg #[.slice A0 ks.length c0, .slice M ks.length ks.length, .slice A2 kd.length c2]] w' fun e w'' => e = .returned (.bool false) ∧ Below w'.heap.size w' w'') := Lib.hid (fun w' M h hM =>
    right_is A0 ks c0 M (List.replicate ks.length ⟨#[]⟩) ks.length A2 kd c2 w' ks.length ks.length kd.length (HNa.out w' h).k hM (HNa.out w' h).d false HQ2.out rfl List.length_replicate rfl (by have := HL.out; omega) (by have := HL.out; omega) (by have := HL.out; omega))
  go_wp2_with fail
  rw [hq]
  clear hq
  go_region_held3 (fun w' => (w'.cell? ⟨w.heap.size, 0, none⟩ = some (.slice A0 ks.length c0) ∧ w'.cell? ⟨w.heap.size, 1, none⟩ = some (.slice A1 vs.length c1) ∧ w'.cell? ⟨w.heap.size, 2, none⟩ = some (.slice A2 kd.length c2)) ∧ KF w3 w') ((refine HSt.out _ ?_; first | assumption | exact Below.drew (Below.refl _ _) | (refine KF.step (HSf.out _ (by assumption)) ?_; exact (Below.refl _ _).alloc (Nat.le_refl _) _))) (first | (go_at_call 20; (with_reducible refine (HR1.out _ (HSf.out _ (by assumption))).mono ?_); rintro e wn ⟨rfl, hb⟩; have hKK := KF.step (HSf.out _ (by assumption)) hb; clear hb) | (go_at_call 20; (with_reducible refine (HR2.out _ _ (HSf.out _ (by assumption)) (strs_made _ _ _ (by omega))).mono ?_); rintro e wn ⟨rfl, hb⟩; have hKK := KF.step (HSf.out _ (by assumption)) hb; clear hb))
  go_wp2_with fail
  go_ret
  exact ⟨rfl, HBw.out.trans (Below.mono hKK HBw.out.size)⟩
theorem parts_walk (A0 : Option Addr) (ks : List Int) (c0 : Nat) (A1 : Option Addr) (vs : List ByteArray) (c1 : Nat) (A2 : Option Addr) (kd : List Int) (c2 : Nat) (cut : Int) (w : World) (ha : NodeIn w A0 ks c0 A1 vs c1 A2 kd c2) (u0 : 0 ≤ cut) (u1 : cut ≤ 255) (tied : Tied w) :
    Calls Tryd.prog 4 #[.agg #[.slice A0 ks.length c0, .slice A1 vs.length c1, .slice A2 kd.length c2], .int .u8 cut] w fun e w' => e = .returned (.bool true) ∧ Below w.heap.size w w' := by
  cases fa : fewB ks vs kd with
  | false => exact parts_a A0 ks c0 A1 vs c1 A2 kd c2 cut w ha u0 u1 tied fa
  | true =>
    cases ra : nodeB ks vs kd with
    | false => exact parts_b A0 ks c0 A1 vs c1 A2 kd c2 cut w ha u0 u1 tied fa ra
    | true =>
      by_cases hk : kd.length = 0
      · exact parts_c A0 ks c0 A1 vs c1 A2 kd c2 cut w ha u0 u1 tied fa ra hk
      · exact parts_d A0 ks c0 A1 vs c1 A2 kd c2 cut w ha u0 u1 tied fa ra hk
theorem wf_u8 {n : Int} (h : (Lit.int .u8 n).wf = true) : 0 ≤ n ∧ n ≤ 255 := by
  simpa [Lit.wf, IntKind.min, IntKind.max, IntKind.signed, IntKind.bits] using h
theorem nodeparts_walk (A0 : Option Addr) (ks : List Int) (c0 : Nat) (A1 : Option Addr) (vs : List ByteArray) (c1 : Nat) (A2 : Option Addr) (kd : List Int) (c2 : Nat) (cut : Int) (w : World) (ha : NodeIn w A0 ks c0 A1 vs c1 A2 kd c2) (wc : (Lit.int .u8 cut).wf = true) (tied : Tied w) :
    Calls Tryd.prog 4 #[.agg #[.slice A0 ks.length c0, .slice A1 vs.length c1, .slice A2 kd.length c2], .int .u8 cut] w fun e w' => e = .returned (.bool true) ∧ Below w.heap.size w w' := by
  have h := wf_u8 wc
  exact parts_walk A0 ks c0 A1 vs c1 A2 kd c2 cut w ha h.1 h.2 tied
end Go.Proofs.YtbiijkpffllimaaDoor
