/- node.Read by its contracts. -/
import Derived.Test.YtbiijkpffllimaaDoorNodeZPNodeUnlike
namespace Go.Proofs.YtbiijkpffllimaaDoor
open Go.RowKit Go.Extern.Stop Go.Stop Go.Extern Go.Proofs.YtbiijkpffllimaaDoorW.PrintWords Go.Proofs.YtbiijkpffllimaaDoorW.PrintLast Go.Proofs.YtbiijkpffllimaaDoorW.PrintMore Go.Proofs.YtbiijkpffllimaaDoor.PNodeUnlike
set_option linter.unusedVariables false
set_option linter.unusedSimpArgs false

structure PLen (d : ByteArray) : Prop where
  k : (partsR d).ks.length ≤ 7
  v : (partsR d).vs.length ≤ 7
  d : (partsR d).kd.length ≤ 8
theorem parts_len (d : ByteArray) : PLen d := by
  have hk := nb_bd 1 (d, true) (by omega)
  have hc := nb_bd 1 (nb 1 (d, true)).2 (by omega)
  have e1 : kindS d = nb 1 (d, true) := rfl
  have e2 : countS d = nb 1 (nb 1 (d, true)).2 := rfl
  rw [← e1] at hk
  rw [← e2] at hc
  have eP : partsR d = if 1 < (kindS d).1 ∨ 7 < (countS d).1 then ⟨[], [], [], false⟩ else ⟨(keysP d).1, (valsP d).1, (kidsP d).1, (kidsP d).2.2 && decide ((kidsP d).2.1.size = 0)⟩ := rfl
  by_cases h : 1 < (kindS d).1 ∨ 7 < (countS d).1
  · rw [if_pos h] at eP
    constructor <;> (rw [eP]; simp)
  · have l1 : (keysP d).1.length ≤ 7 := by unfold keysP; rw [runN_length]; omega
    rcases (show (kindS d).1 = 0 ∨ (kindS d).1 = 1 by omega) with e | e
    · have l2 : (valsP d).1.length ≤ 7 := by unfold valsP; rw [runV_length, e]; omega
      have l3 : (kidsP d).1.length ≤ 8 := by unfold kidsP; rw [runN_length, e]; omega
      rw [if_neg h] at eP
      constructor <;> (rw [eP]; assumption)
    · have l2 : (valsP d).1.length ≤ 7 := by unfold valsP; rw [runV_length, e]; omega
      have l3 : (kidsP d).1.length ≤ 8 := by unfold kidsP; rw [runN_length, e]; omega
      rw [if_neg h] at eP
      constructor <;> (rw [eP]; assumption)
def ReadOk (ks : List Int) (vs : List ByteArray) (kd : List Int) (w : World) (e : Ending) (w' : World) : Prop := ∃ A0 c0 A1 c1 A2 c2, e = .returned (.tuple #[.agg #[.slice A0 ks.length c0, .slice A1 vs.length c1, .slice A2 kd.length c2], .nilIface]) ∧ NodeIn w' A0 ks c0 A1 vs c1 A2 kd c2 ∧ Below w.heap.size w w'
def ReadBad (w : World) (e : Ending) (w' : World) : Prop := ∃ v, e = .returned (.tuple #[.agg #[.slice none 0 0, .slice none 0 0, .slice none 0 0], v]) ∧ ErrC w.heap.size w' v 2 ∧ Below w.heap.size w w'
set_option maxHeartbeats 1000000 in
set_option maxRecDepth 100000 in
theorem read_bad_a (d : ByteArray) (ks : List Int) (vs : List ByteArray) (kd : List Int) (ok : Bool) (w : World) (hz : d.size ≤ 1000000) (hP : partsR d = ⟨ks, vs, kd, ok⟩) (ho : ok = false) :
    Calls Tryd.prog 29 #[.string d] w (ReadBad w) := by
  have hl := parts_len d
  have hk7 := hl.k
  have hv7 := hl.v
  have hd8 := hl.d
  rw [hP] at hk7 hv7 hd8
  simp only at hk7 hv7 hd8
  have HPa := Lib.hid (parts_any d (w.alloc (.cells #[.slice none 0 0, .slice none 0 0, .slice none 0 0] 33)) hz)
  have HP := Lib.hid hP
  clear hl hz hP
  subst ho
  go_enter Tryd.func29, Tryd.ntmps29
  go_wp2_with fail
  refine HPa.out.mono ?_
  rintro e w1 ⟨A0, c0, A1, c1, A2, c2, he, hn, hb⟩
  rw [HP.out] at he hn
  simp only at he hn
  obtain rfl := he
  have HFar := Lib.hid hn
  have HN := Lib.hid (hn w1 (fun _ _ _ => rfl))
  have HB1 := Lib.hid hb
  have hs1 : w.heap.size < w1.heap.size := by have := hb.size; simp at this; omega
  have r0 : w1.cell? ⟨w.heap.size, 0, none⟩ = some (.slice none 0 0) := (hb.cell (by simp)).trans (by simp)
  have r1 : w1.cell? ⟨w.heap.size, 1, none⟩ = some (.slice none 0 0) := (hb.cell (by simp)).trans (by simp)
  have r2 : w1.cell? ⟨w.heap.size, 2, none⟩ = some (.slice none 0 0) := (hb.cell (by simp)).trans (by simp)
  have f0 : ∀ i, w1.frozen? ⟨w.heap.size, i, none⟩ = false := fun i => (hb.frozen (by simp)).trans (by simp)
  have HB1w : Hid (Below w.heap.size w w1) := Lib.hid (((Below.refl _ _).alloc (Nat.le_refl _) _).trans (hb.mono (by simp)))
  clear hn hb
  go_wp2_with fail
  refine (Tag_err _ 2 _).mono ?_
  rintro e w3 ⟨v, rfl, he, hb⟩
  have HE := Lib.hid he
  have HB3 : Hid (Below w1.heap.size w1 w3) := Lib.hid (((Below.refl _ _).alloc (Nat.le_refl _) _).trans (hb.mono (by simp)))
  have q0 : w3.cell? ⟨w.heap.size, 0, none⟩ = some (.slice none 0 0) := (HB3.out.cell (by simp; omega)).trans r0
  have q1 : w3.cell? ⟨w.heap.size, 1, none⟩ = some (.slice none 0 0) := (HB3.out.cell (by simp; omega)).trans r1
  have q2 : w3.cell? ⟨w.heap.size, 2, none⟩ = some (.slice none 0 0) := (HB3.out.cell (by simp; omega)).trans r2
  have g0 : ∀ i, w3.frozen? ⟨w.heap.size, i, none⟩ = false := fun i => (HB3.out.frozen (by simp; omega)).trans (f0 i)
  have hsE : w.heap.size + 1 ≤ w1.heap.size := by omega
  clear he hb
  go_wp2_with fail
  refine bodyPost_ret (v := .tuple #[.agg #[.slice none 0 0, .slice none 0 0, .slice none 0 0], v]) (by simp [results, Tryd.results29, go_sem, q0, q1, q2]) rfl ⟨v, rfl, ?_, ?_⟩
  · exact ((((HE.out.mono (B' := w.heap.size + 1) (by first | exact hsE | (simp; omega))).setCell (by simp) _).setCell (by simp) _).setCell (by simp) _).mono (by omega)
  · exact ((((HB1w.out).trans (HB3.out.mono (by omega))).setCell (Nat.le_refl _) _).setCell (Nat.le_refl _) _).setCell (Nat.le_refl _) _
set_option maxHeartbeats 1000000 in
set_option maxRecDepth 100000 in
theorem read_bad_b (d : ByteArray) (ks : List Int) (vs : List ByteArray) (kd : List Int) (ok : Bool) (w : World) (hz : d.size ≤ 1000000) (hP : partsR d = ⟨ks, vs, kd, ok⟩) (ho : ok = true) (hn : nodeB ks vs kd = false) :
    Calls Tryd.prog 29 #[.string d] w (ReadBad w) := by
  have hl := parts_len d
  have hk7 := hl.k
  have hv7 := hl.v
  have hd8 := hl.d
  rw [hP] at hk7 hv7 hd8
  simp only at hk7 hv7 hd8
  have HPa := Lib.hid (parts_any d (w.alloc (.cells #[.slice none 0 0, .slice none 0 0, .slice none 0 0] 33)) hz)
  have HP := Lib.hid hP
  clear hl hz hP
  subst ho
  have HNb := Lib.hid hn
  clear hn
  go_enter Tryd.func29, Tryd.ntmps29
  go_wp2_with fail
  refine HPa.out.mono ?_
  rintro e w1 ⟨A0, c0, A1, c1, A2, c2, he, hn, hb⟩
  rw [HP.out] at he hn
  simp only at he hn
  obtain rfl := he
  have HFar := Lib.hid hn
  have HN := Lib.hid (hn w1 (fun _ _ _ => rfl))
  have HB1 := Lib.hid hb
  have hs1 : w.heap.size < w1.heap.size := by have := hb.size; simp at this; omega
  have r0 : w1.cell? ⟨w.heap.size, 0, none⟩ = some (.slice none 0 0) := (hb.cell (by simp)).trans (by simp)
  have r1 : w1.cell? ⟨w.heap.size, 1, none⟩ = some (.slice none 0 0) := (hb.cell (by simp)).trans (by simp)
  have r2 : w1.cell? ⟨w.heap.size, 2, none⟩ = some (.slice none 0 0) := (hb.cell (by simp)).trans (by simp)
  have f0 : ∀ i, w1.frozen? ⟨w.heap.size, i, none⟩ = false := fun i => (hb.frozen (by simp)).trans (by simp)
  have HB1w : Hid (Below w.heap.size w w1) := Lib.hid (((Below.refl _ _).alloc (Nat.le_refl _) _).trans (hb.mono (by simp)))
  clear hn hb
  have HBx : Hid (Below w1.heap.size w1 (w1.alloc (.cells #[.slice A0 ks.length c0, .slice A1 vs.length c1, .slice A2 kd.length c2] 33))) := Lib.hid ((Below.refl _ _).alloc (Nat.le_refl _) _)
  have HRi := Lib.hid (right_any A0 ks c0 A1 vs c1 A2 kd c2 (w1.alloc (.cells #[.slice A0 ks.length c0, .slice A1 vs.length c1, .slice A2 kd.length c2] 33)) (HN.out.below HBx.out).k (HN.out.below HBx.out).v (HN.out.below HBx.out).d (by omega) (by omega) (by omega))
  rw [HNb.out] at HRi
  go_wp2_with fail
  refine HRi.out.mono ?_
  rintro e w2 ⟨rfl, hb⟩
  have HB2 : Hid (Below w1.heap.size w1 w2) := Lib.hid (HBx.out.trans (hb.mono (by simp)))
  have hs2 : w1.heap.size < w2.heap.size := by have := hb.size; simp at this; omega
  have q0 : w2.cell? ⟨w.heap.size, 0, none⟩ = some (.slice none 0 0) := (HB2.out.cell (by simp; omega)).trans r0
  have q1 : w2.cell? ⟨w.heap.size, 1, none⟩ = some (.slice none 0 0) := (HB2.out.cell (by simp; omega)).trans r1
  have q2 : w2.cell? ⟨w.heap.size, 2, none⟩ = some (.slice none 0 0) := (HB2.out.cell (by simp; omega)).trans r2
  have g0 : ∀ i, w2.frozen? ⟨w.heap.size, i, none⟩ = false := fun i => (HB2.out.frozen (by simp; omega)).trans (f0 i)
  have t0 : w2.cell? ⟨w1.heap.size, 0, none⟩ = some (.slice A0 ks.length c0) := (hb.cell (by simp)).trans (by simp)
  have t1 : w2.cell? ⟨w1.heap.size, 1, none⟩ = some (.slice A1 vs.length c1) := (hb.cell (by simp)).trans (by simp)
  have t2 : w2.cell? ⟨w1.heap.size, 2, none⟩ = some (.slice A2 kd.length c2) := (hb.cell (by simp)).trans (by simp)
  clear hb
  clear r0 r1 r2 f0
  go_wp2_with fail
  refine (Tag_err _ 2 _).mono ?_
  rintro e w3 ⟨v, rfl, he, hb⟩
  have HE := Lib.hid he
  have HB3 : Hid (Below w2.heap.size w2 w3) := Lib.hid (hb)
  have p0 : w3.cell? ⟨w.heap.size, 0, none⟩ = some (.slice none 0 0) := (HB3.out.cell (by simp; omega)).trans q0
  have p1 : w3.cell? ⟨w.heap.size, 1, none⟩ = some (.slice none 0 0) := (HB3.out.cell (by simp; omega)).trans q1
  have p2 : w3.cell? ⟨w.heap.size, 2, none⟩ = some (.slice none 0 0) := (HB3.out.cell (by simp; omega)).trans q2
  have k0 : ∀ i, w3.frozen? ⟨w.heap.size, i, none⟩ = false := fun i => (HB3.out.frozen (by simp; omega)).trans (g0 i)
  have hsE : w.heap.size + 1 ≤ w2.heap.size := by omega
  clear he hb
  go_wp2_with fail
  refine bodyPost_ret (v := .tuple #[.agg #[.slice none 0 0, .slice none 0 0, .slice none 0 0], v]) (by simp [results, Tryd.results29, go_sem, p0, p1, p2]) rfl ⟨v, rfl, ?_, ?_⟩
  · exact ((((HE.out.mono (B' := w.heap.size + 1) (by first | exact hsE | (simp; omega))).setCell (by simp) _).setCell (by simp) _).setCell (by simp) _).mono (by omega)
  · exact ((((HB1w.out.trans (HB2.out.mono (by omega))).trans (HB3.out.mono (by omega))).setCell (Nat.le_refl _) _).setCell (Nat.le_refl _) _).setCell (Nat.le_refl _) _
set_option maxHeartbeats 1000000 in
set_option maxRecDepth 100000 in
theorem read_ok (d : ByteArray) (ks : List Int) (vs : List ByteArray) (kd : List Int) (ok : Bool) (w : World) (hz : d.size ≤ 1000000) (hP : partsR d = ⟨ks, vs, kd, ok⟩) (ho : ok = true) (hn : nodeB ks vs kd = true) :
    Calls Tryd.prog 29 #[.string d] w (ReadOk ks vs kd w) := by
  have hl := parts_len d
  have hk7 := hl.k
  have hv7 := hl.v
  have hd8 := hl.d
  rw [hP] at hk7 hv7 hd8
  simp only at hk7 hv7 hd8
  have HPa := Lib.hid (parts_any d (w.alloc (.cells #[.slice none 0 0, .slice none 0 0, .slice none 0 0] 33)) hz)
  have HP := Lib.hid hP
  clear hl hz hP
  subst ho
  have HNb := Lib.hid hn
  clear hn
  go_enter Tryd.func29, Tryd.ntmps29
  go_wp2_with fail
  refine HPa.out.mono ?_
  rintro e w1 ⟨A0, c0, A1, c1, A2, c2, he, hn, hb⟩
  rw [HP.out] at he hn
  simp only at he hn
  obtain rfl := he
  have HFar := Lib.hid hn
  have HN := Lib.hid (hn w1 (fun _ _ _ => rfl))
  have HB1 := Lib.hid hb
  have hs1 : w.heap.size < w1.heap.size := by have := hb.size; simp at this; omega
  have r0 : w1.cell? ⟨w.heap.size, 0, none⟩ = some (.slice none 0 0) := (hb.cell (by simp)).trans (by simp)
  have r1 : w1.cell? ⟨w.heap.size, 1, none⟩ = some (.slice none 0 0) := (hb.cell (by simp)).trans (by simp)
  have r2 : w1.cell? ⟨w.heap.size, 2, none⟩ = some (.slice none 0 0) := (hb.cell (by simp)).trans (by simp)
  have f0 : ∀ i, w1.frozen? ⟨w.heap.size, i, none⟩ = false := fun i => (hb.frozen (by simp)).trans (by simp)
  have HB1w : Hid (Below w.heap.size w w1) := Lib.hid (((Below.refl _ _).alloc (Nat.le_refl _) _).trans (hb.mono (by simp)))
  clear hn hb
  have HBx : Hid (Below w1.heap.size w1 (w1.alloc (.cells #[.slice A0 ks.length c0, .slice A1 vs.length c1, .slice A2 kd.length c2] 33))) := Lib.hid ((Below.refl _ _).alloc (Nat.le_refl _) _)
  have HRi := Lib.hid (right_any A0 ks c0 A1 vs c1 A2 kd c2 (w1.alloc (.cells #[.slice A0 ks.length c0, .slice A1 vs.length c1, .slice A2 kd.length c2] 33)) (HN.out.below HBx.out).k (HN.out.below HBx.out).v (HN.out.below HBx.out).d (by omega) (by omega) (by omega))
  rw [HNb.out] at HRi
  go_wp2_with fail
  refine HRi.out.mono ?_
  rintro e w2 ⟨rfl, hb⟩
  have HB2 : Hid (Below w1.heap.size w1 w2) := Lib.hid (HBx.out.trans (hb.mono (by simp)))
  have hs2 : w1.heap.size < w2.heap.size := by have := hb.size; simp at this; omega
  have q0 : w2.cell? ⟨w.heap.size, 0, none⟩ = some (.slice none 0 0) := (HB2.out.cell (by simp; omega)).trans r0
  have q1 : w2.cell? ⟨w.heap.size, 1, none⟩ = some (.slice none 0 0) := (HB2.out.cell (by simp; omega)).trans r1
  have q2 : w2.cell? ⟨w.heap.size, 2, none⟩ = some (.slice none 0 0) := (HB2.out.cell (by simp; omega)).trans r2
  have g0 : ∀ i, w2.frozen? ⟨w.heap.size, i, none⟩ = false := fun i => (HB2.out.frozen (by simp; omega)).trans (f0 i)
  have t0 : w2.cell? ⟨w1.heap.size, 0, none⟩ = some (.slice A0 ks.length c0) := (hb.cell (by simp)).trans (by simp)
  have t1 : w2.cell? ⟨w1.heap.size, 1, none⟩ = some (.slice A1 vs.length c1) := (hb.cell (by simp)).trans (by simp)
  have t2 : w2.cell? ⟨w1.heap.size, 2, none⟩ = some (.slice A2 kd.length c2) := (hb.cell (by simp)).trans (by simp)
  clear hb
  have hne : w.heap.size ≠ w1.heap.size := by omega
  clear r0 r1 r2 f0
  go_wp2_with fail
  refine bodyPost_ret (v := .tuple #[.agg #[.slice A0 ks.length c0, .slice A1 vs.length c1, .slice A2 kd.length c2], .nilIface]) (by simp [results, Tryd.results29, go_sem, q0, q1, q2]) rfl ⟨A0, c0, A1, c1, A2, c2, rfl, ?_, ?_⟩
  · refine HFar.out _ (fun k hk hlt => ?_)
    have hk1 : k ≠ w.heap.size := by simp at hk; omega
    exact (((Below.heap_setCell _ ⟨w.heap.size, 2, none⟩ _ k hk1).trans (Below.heap_setCell _ ⟨w.heap.size, 1, none⟩ _ k hk1)).trans (Below.heap_setCell _ ⟨w.heap.size, 0, none⟩ _ k hk1)).trans (HB2.out.block k hlt)
  · exact (((HB1w.out.trans (HB2.out.mono (by omega))).setCell (Nat.le_refl _) _).setCell (Nat.le_refl _) _).setCell (Nat.le_refl _) _
end Go.Proofs.YtbiijkpffllimaaDoor
