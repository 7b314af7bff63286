/- node.Read by its contracts. Nodes: what is read of bytes, told by places. -/
import Derived.Test.YtbiijkpffllimaaDoorNodeMZ
namespace Go.Proofs.YtbiijkpffllimaaDoor
open Go.RowKit Go.Extern.Stop Go.Stop Go.Extern Go.Proofs.YtbiijkpffllimaaDoorW.PrintWords Go.Proofs.YtbiijkpffllimaaDoorW.PrintLast Go.Proofs.YtbiijkpffllimaaDoorW.PrintMore Go.Proofs.YtbiijkpffllimaaDoor.PNodeUnlike
set_option linter.unusedVariables false
set_option linter.unusedSimpArgs false

structure PLen (d : ByteArray) : Prop where
  k : (partsR d).ks.length ≤ 7
  v : (partsR d).vs.length ≤ 7
  d : (partsR d).kd.length ≤ 8
theorem parts_len (d : ByteArray) : PLen d := by
  have hk := nb_bd 1 (d, true) (by omega)
  have hc := nb_bd 1 (nb 1 (d, true)).2 (by omega)
  have e1 : kindS d = nb 1 (d, true) := rfl
  have e2 : countS d = nb 1 (nb 1 (d, true)).2 := rfl
  rw [← e1] at hk
  rw [← e2] at hc
  have eP : partsR d = if 1 < (kindS d).1 ∨ 7 < (countS d).1 then ⟨[], [], [], false⟩ else ⟨(keysP d).1, (valsP d).1, (kidsP d).1, (kidsP d).2.2 && decide ((kidsP d).2.1.size = 0)⟩ := rfl
  by_cases h : 1 < (kindS d).1 ∨ 7 < (countS d).1
  · rw [if_pos h] at eP
    constructor <;> (rw [eP]; simp)
  · have l1 : (keysP d).1.length ≤ 7 := by unfold keysP; rw [runN_length]; omega
    rcases (show (kindS d).1 = 0 ∨ (kindS d).1 = 1 by omega) with e | e
    · have l2 : (valsP d).1.length ≤ 7 := by unfold valsP; rw [runV_length, e]; omega
      have l3 : (kidsP d).1.length ≤ 8 := by unfold kidsP; rw [runN_length, e]; omega
      rw [if_neg h] at eP
      constructor <;> (rw [eP]; assumption)
    · have l2 : (valsP d).1.length ≤ 7 := by unfold valsP; rw [runV_length, e]; omega
      have l3 : (kidsP d).1.length ≤ 8 := by unfold kidsP; rw [runN_length, e]; omega
      rw [if_neg h] at eP
      constructor <;> (rw [eP]; assumption)
def ReadOk (ks : List Int) (vs : List ByteArray) (kd : List Int) (w : World) (e : Ending) (w' : World) : Prop := ∃ A0 c0 A1 c1 A2 c2, e = .returned (.tuple #[.agg #[.slice A0 ks.length c0, .slice A1 vs.length c1, .slice A2 kd.length c2], .nilIface]) ∧ NodeIn w' A0 ks c0 A1 vs c1 A2 kd c2 ∧ Below w.heap.size w w'
def ReadBad (w : World) (e : Ending) (w' : World) : Prop := ∃ v, e = .returned (.tuple #[.agg #[.slice none 0 0, .slice none 0 0, .slice none 0 0], v]) ∧ ErrC w.heap.size w' v 2 ∧ Below w.heap.size w w'
set_option maxHeartbeats 1000000 in
set_option maxRecDepth 100000 in
theorem read_bad_a (d : ByteArray) (ks : List Int) (vs : List ByteArray) (kd : List Int) (ok : Bool) (w : World) (hz : d.size ≤ 1000000) (hP : partsR d = ⟨ks, vs, kd, ok⟩) (ho : ok = false) :
    Calls Tryd.prog 29 #[.string d] w (ReadBad w) := by
  have hl := parts_len d
  have hk7 := hl.k
  have hv7 := hl.v
  have hd8 := hl.d
  rw [hP] at hk7 hv7 hd8
  simp only at hk7 hv7 hd8
  have HPa := Lib.hid (parts_any d (w.alloc (.cells #[.slice none 0 0, .slice none 0 0, .slice none 0 0] 33)) hz)
  have HP := Lib.hid hP
  clear hl hz hP
  subst ho
  go_enter Tryd.func29, Tryd.ntmps29
  go_wp2_with fail
  refine HPa.out.mono ?_
  rintro e w1 ⟨A0, c0, A1, c1, A2, c2, he, hn, hb⟩
  rw [HP.out] at he hn
  simp only at he hn
  obtain rfl := he
  have HFar := Lib.hid hn
  have HN := Lib.hid (hn w1 (fun _ _ _ => rfl))
  have HB1 := Lib.hid hb
  have hs1 : w.heap.size < w1.heap.size := by have := hb.size; simp at this; omega
  have r0 : w1.cell? ⟨w.heap.size, 0, none⟩ = some (.slice none 0 0) := (hb.cell (by simp)).trans (by simp)
  have r1 : w1.cell? ⟨w.heap.size, 1, none⟩ = some (.slice none 0 0) := (hb.cell (by simp)).trans (by simp)
  have r2 : w1.cell? ⟨w.heap.size, 2, none⟩ = some (.slice none 0 0) := (hb.cell (by simp)).trans (by simp)
  have f0 : ∀ i, w1.frozen? ⟨w.heap.size, i, none⟩ = false := fun i => (hb.frozen (by simp)).trans (by simp)
  have HB1w : Hid (Below w.heap.size w w1) := Lib.hid (((Below.refl _ _).alloc (Nat.le_refl _) _).trans (hb.mono (by simp)))
  clear hn hb
  go_wp2_with fail
  refine (Tag_err _ 2 _).mono ?_
  rintro e w3 ⟨v, rfl, he, hb⟩
  have HE := Lib.hid he
  have HB3 : Hid (Below w1.heap.size w1 w3) := Lib.hid (((Below.refl _ _).alloc (Nat.le_refl _) _).trans (hb.mono (by simp)))
  have q0 : w3.cell? ⟨w.heap.size, 0, none⟩ = some (.slice none 0 0) := (HB3.out.cell (by simp; omega)).trans r0
  have q1 : w3.cell? ⟨w.heap.size, 1, none⟩ = some (.slice none 0 0) := (HB3.out.cell (by simp; omega)).trans r1
  have q2 : w3.cell? ⟨w.heap.size, 2, none⟩ = some (.slice none 0 0) := (HB3.out.cell (by simp; omega)).trans r2
  have g0 : ∀ i, w3.frozen? ⟨w.heap.size, i, none⟩ = false := fun i => (HB3.out.frozen (by simp; omega)).trans (f0 i)
  have hsE : w.heap.size + 1 ≤ w1.heap.size := by omega
  clear he hb
  go_wp2_with fail
  refine bodyPost_ret (v := .tuple #[.agg #[.slice none 0 0, .slice none 0 0, .slice none 0 0], v]) (by simp [results, Tryd.results29, go_sem, q0, q1, q2]) rfl ⟨v, rfl, ?_, ?_⟩
  · exact ((((HE.out.mono (B' := w.heap.size + 1) (by first | exact hsE | (simp; omega))).setCell (by simp) _).setCell (by simp) _).setCell (by simp) _).mono (by omega)
  · exact ((((HB1w.out).trans (HB3.out.mono (by omega))).setCell (Nat.le_refl _) _).setCell (Nat.le_refl _) _).setCell (Nat.le_refl _) _
set_option maxHeartbeats 1000000 in
set_option maxRecDepth 100000 in
theorem read_bad_b (d : ByteArray) (ks : List Int) (vs : List ByteArray) (kd : List Int) (ok : Bool) (w : World) (hz : d.size ≤ 1000000) (hP : partsR d = ⟨ks, vs, kd, ok⟩) (ho : ok = true) (hn : nodeB ks vs kd = false) :
    Calls Tryd.prog 29 #[.string d] w (ReadBad w) := by
  have hl := parts_len d
  have hk7 := hl.k
  have hv7 := hl.v
  have hd8 := hl.d
  rw [hP] at hk7 hv7 hd8
  simp only at hk7 hv7 hd8
  have HPa := Lib.hid (parts_any d (w.alloc (.cells #[.slice none 0 0, .slice none 0 0, .slice none 0 0] 33)) hz)
  have HP := Lib.hid hP
  clear hl hz hP
  subst ho
  have HNb := Lib.hid hn
  clear hn
  go_enter Tryd.func29, Tryd.ntmps29
  go_wp2_with fail
  refine HPa.out.mono ?_
  rintro e w1 ⟨A0, c0, A1, c1, A2, c2, he, hn, hb⟩
  rw [HP.out] at he hn
  simp only at he hn
  obtain rfl := he
  have HFar := Lib.hid hn
  have HN := Lib.hid (hn w1 (fun _ _ _ => rfl))
  have HB1 := Lib.hid hb
  have hs1 : w.heap.size < w1.heap.size := by have := hb.size; simp at this; omega
  have r0 : w1.cell? ⟨w.heap.size, 0, none⟩ = some (.slice none 0 0) := (hb.cell (by simp)).trans (by simp)
  have r1 : w1.cell? ⟨w.heap.size, 1, none⟩ = some (.slice none 0 0) := (hb.cell (by simp)).trans (by simp)
  have r2 : w1.cell? ⟨w.heap.size, 2, none⟩ = some (.slice none 0 0) := (hb.cell (by simp)).trans (by simp)
  have f0 : ∀ i, w1.frozen? ⟨w.heap.size, i, none⟩ = false := fun i => (hb.frozen (by simp)).trans (by simp)
  have HB1w : Hid (Below w.heap.size w w1) := Lib.hid (((Below.refl _ _).alloc (Nat.le_refl _) _).trans (hb.mono (by simp)))
  clear hn hb
  have HBx : Hid (Below w1.heap.size w1 (w1.alloc (.cells #[.slice A0 ks.length c0, .slice A1 vs.length c1, .slice A2 kd.length c2] 33))) := Lib.hid ((Below.refl _ _).alloc (Nat.le_refl _) _)
  have HRi := Lib.hid (right_any A0 ks c0 A1 vs c1 A2 kd c2 (w1.alloc (.cells #[.slice A0 ks.length c0, .slice A1 vs.length c1, .slice A2 kd.length c2] 33)) (HN.out.below HBx.out).k (HN.out.below HBx.out).v (HN.out.below HBx.out).d (by omega) (by omega) (by omega))
  rw [HNb.out] at HRi
  go_wp2_with fail
  refine HRi.out.mono ?_
  rintro e w2 ⟨rfl, hb⟩
  have HB2 : Hid (Below w1.heap.size w1 w2) := Lib.hid (HBx.out.trans (hb.mono (by simp)))
  have hs2 : w1.heap.size < w2.heap.size := by have := hb.size; simp at this; omega
  have q0 : w2.cell? ⟨w.heap.size, 0, none⟩ = some (.slice none 0 0) := (HB2.out.cell (by simp; omega)).trans r0
  have q1 : w2.cell? ⟨w.heap.size, 1, none⟩ = some (.slice none 0 0) := (HB2.out.cell (by simp; omega)).trans r1
  have q2 : w2.cell? ⟨w.heap.size, 2, none⟩ = some (.slice none 0 0) := (HB2.out.cell (by simp; omega)).trans r2
  have g0 : ∀ i, w2.frozen? ⟨w.heap.size, i, none⟩ = false := fun i => (HB2.out.frozen (by simp; omega)).trans (f0 i)
  have t0 : w2.cell? ⟨w1.heap.size, 0, none⟩ = some (.slice A0 ks.length c0) := (hb.cell (by simp)).trans (by simp)
  have t1 : w2.cell? ⟨w1.heap.size, 1, none⟩ = some (.slice A1 vs.length c1) := (hb.cell (by simp)).trans (by simp)
  have t2 : w2.cell? ⟨w1.heap.size, 2, none⟩ = some (.slice A2 kd.length c2) := (hb.cell (by simp)).trans (by simp)
  clear hb
  clear r0 r1 r2 f0
  go_wp2_with fail
  refine (Tag_err _ 2 _).mono ?_
  rintro e w3 ⟨v, rfl, he, hb⟩
  have HE := Lib.hid he
  have HB3 : Hid (Below w2.heap.size w2 w3) := Lib.hid (hb)
  have p0 : w3.cell? ⟨w.heap.size, 0, none⟩ = some (.slice none 0 0) := (HB3.out.cell (by simp; omega)).trans q0
  have p1 : w3.cell? ⟨w.heap.size, 1, none⟩ = some (.slice none 0 0) := (HB3.out.cell (by simp; omega)).trans q1
  have p2 : w3.cell? ⟨w.heap.size, 2, none⟩ = some (.slice none 0 0) := (HB3.out.cell (by simp; omega)).trans q2
  have k0 : ∀ i, w3.frozen? ⟨w.heap.size, i, none⟩ = false := fun i => (HB3.out.frozen (by simp; omega)).trans (g0 i)
  have hsE : w.heap.size + 1 ≤ w2.heap.size := by omega
  clear he hb
  go_wp2_with fail
  refine bodyPost_ret (v := .tuple #[.agg #[.slice none 0 0, .slice none 0 0, .slice none 0 0], v]) (by simp [results, Tryd.results29, go_sem, p0, p1, p2]) rfl ⟨v, rfl, ?_, ?_⟩
  · exact ((((HE.out.mono (B' := w.heap.size + 1) (by first | exact hsE | (simp; omega))).setCell (by simp) _).setCell (by simp) _).setCell (by simp) _).mono (by omega)
  · exact ((((HB1w.out.trans (HB2.out.mono (by omega))).trans (HB3.out.mono (by omega))).setCell (Nat.le_refl _) _).setCell (Nat.le_refl _) _).setCell (Nat.le_refl _) _
set_option maxHeartbeats 1000000 in
set_option maxRecDepth 100000 in
theorem read_ok (d : ByteArray) (ks : List Int) (vs : List ByteArray) (kd : List Int) (ok : Bool) (w : World) (hz : d.size ≤ 1000000) (hP : partsR d = ⟨ks, vs, kd, ok⟩) (ho : ok = true) (hn : nodeB ks vs kd = true) :
    Calls Tryd.prog 29 #[.string d] w (ReadOk ks vs kd w) := by
  have hl := parts_len d
  have hk7 := hl.k
  have hv7 := hl.v
  have hd8 := hl.d
  rw [hP] at hk7 hv7 hd8
  simp only at hk7 hv7 hd8
  have HPa := Lib.hid (parts_any d (w.alloc (.cells #[.slice none 0 0, .slice none 0 0, .slice none 0 0] 33)) hz)
  have HP := Lib.hid hP
  clear hl hz hP
  subst ho
  have HNb := Lib.hid hn
  clear hn
  go_enter Tryd.func29, Tryd.ntmps29
  go_wp2_with fail
  refine HPa.out.mono ?_
  rintro e w1 ⟨A0, c0, A1, c1, A2, c2, he, hn, hb⟩
  rw [HP.out] at he hn
  simp only at he hn
  obtain rfl := he
  have HFar := Lib.hid hn
  have HN := Lib.hid (hn w1 (fun _ _ _ => rfl))
  have HB1 := Lib.hid hb
  have hs1 : w.heap.size < w1.heap.size := by have := hb.size; simp at this; omega
  have r0 : w1.cell? ⟨w.heap.size, 0, none⟩ = some (.slice none 0 0) := (hb.cell (by simp)).trans (by simp)
  have r1 : w1.cell? ⟨w.heap.size, 1, none⟩ = some (.slice none 0 0) := (hb.cell (by simp)).trans (by simp)
  have r2 : w1.cell? ⟨w.heap.size, 2, none⟩ = some (.slice none 0 0) := (hb.cell (by simp)).trans (by simp)
  have f0 : ∀ i, w1.frozen? ⟨w.heap.size, i, none⟩ = false := fun i => (hb.frozen (by simp)).trans (by simp)
  have HB1w : Hid (Below w.heap.size w w1) := Lib.hid (((Below.refl _ _).alloc (Nat.le_refl _) _).trans (hb.mono (by simp)))
  clear hn hb
  have HBx : Hid (Below w1.heap.size w1 (w1.alloc (.cells #[.slice A0 ks.length c0, .slice A1 vs.length c1, .slice A2 kd.length c2] 33))) := Lib.hid ((Below.refl _ _).alloc (Nat.le_refl _) _)
  have HRi := Lib.hid (right_any A0 ks c0 A1 vs c1 A2 kd c2 (w1.alloc (.cells #[.slice A0 ks.length c0, .slice A1 vs.length c1, .slice A2 kd.length c2] 33)) (HN.out.below HBx.out).k (HN.out.below HBx.out).v (HN.out.below HBx.out).d (by omega) (by omega) (by omega))
  rw [HNb.out] at HRi
  go_wp2_with fail
  refine HRi.out.mono ?_
  rintro e w2 ⟨rfl, hb⟩
  have HB2 : Hid (Below w1.heap.size w1 w2) := Lib.hid (HBx.out.trans (hb.mono (by simp)))
  have hs2 : w1.heap.size < w2.heap.size := by have := hb.size; simp at this; omega
  have q0 : w2.cell? ⟨w.heap.size, 0, none⟩ = some (.slice none 0 0) := (HB2.out.cell (by simp; omega)).trans r0
  have q1 : w2.cell? ⟨w.heap.size, 1, none⟩ = some (.slice none 0 0) := (HB2.out.cell (by simp; omega)).trans r1
  have q2 : w2.cell? ⟨w.heap.size, 2, none⟩ = some (.slice none 0 0) := (HB2.out.cell (by simp; omega)).trans r2
  have g0 : ∀ i, w2.frozen? ⟨w.heap.size, i, none⟩ = false := fun i => (HB2.out.frozen (by simp; omega)).trans (f0 i)
  have t0 : w2.cell? ⟨w1.heap.size, 0, none⟩ = some (.slice A0 ks.length c0) := (hb.cell (by simp)).trans (by simp)
  have t1 : w2.cell? ⟨w1.heap.size, 1, none⟩ = some (.slice A1 vs.length c1) := (hb.cell (by simp)).trans (by simp)
  have t2 : w2.cell? ⟨w1.heap.size, 2, none⟩ = some (.slice A2 kd.length c2) := (hb.cell (by simp)).trans (by simp)
  clear hb
  have hne : w.heap.size ≠ w1.heap.size := by omega
  clear r0 r1 r2 f0
  go_wp2_with fail
  refine bodyPost_ret (v := .tuple #[.agg #[.slice A0 ks.length c0, .slice A1 vs.length c1, .slice A2 kd.length c2], .nilIface]) (by simp [results, Tryd.results29, go_sem, q0, q1, q2]) rfl ⟨A0, c0, A1, c1, A2, c2, rfl, ?_, ?_⟩
  · refine HFar.out _ (fun k hk hlt => ?_)
    have hk1 : k ≠ w.heap.size := by simp at hk; omega
    exact (((Below.heap_setCell _ ⟨w.heap.size, 2, none⟩ _ k hk1).trans (Below.heap_setCell _ ⟨w.heap.size, 1, none⟩ _ k hk1)).trans (Below.heap_setCell _ ⟨w.heap.size, 0, none⟩ _ k hk1)).trans (HB2.out.block k hlt)
  · exact (((HB1w.out.trans (HB2.out.mono (by omega))).setCell (Nat.le_refl _) _).setCell (Nat.le_refl _) _).setCell (Nat.le_refl _) _
end Go.Proofs.YtbiijkpffllimaaDoor
namespace Go.Proofs.YtbiijkpffllimaaDoor
open Go.RowKit Go.Proofs.YtbiijkpffllimaaDoorW.PrintWords Go.Proofs.YtbiijkpffllimaaDoorW.PrintLast Go.Proofs.YtbiijkpffllimaaDoorW.PrintMore Go.Proofs.YtbiijkpffllimaaDoor.PNodeUnlike
set_option linter.unusedVariables false
set_option linter.unusedSimpArgs false

theorem ext_ext (d : ByteArray) (p n : Nat) (h : p + n ≤ d.size) : (d.extract p d.size).extract 0 n = d.extract p (p + n) := by
  apply ByteArray.ext
  simp only [ByteArray.data_extract]
  rw [Array.extract_extract]
  congr 1
  have : d.data.size = d.size := rfl
  omega
theorem ext_rest (d : ByteArray) (p n : Nat) (h : p + n ≤ d.size) : (d.extract p d.size).extract n (d.extract p d.size).size = d.extract (p + n) d.size := by
  apply ByteArray.ext
  simp only [ByteArray.data_extract, ByteArray.size_extract]
  rw [Array.extract_extract]
  congr 1
  have : d.data.size = d.size := rfl
  omega
theorem ext_len (d : ByteArray) (p : Nat) (h : p ≤ d.size) : (d.extract p d.size).size = d.size - p := by rw [ByteArray.size_extract]; omega
/-- behind p bytes -/
def stAt (d : ByteArray) (p : Nat) : St := (d.extract p d.size, true)
theorem st_zero (d : ByteArray) : stAt d 0 = (d, true) := by
  unfold stAt
  have : d.extract 0 d.size = d := by apply ByteArray.ext; simp
  rw [this]
theorem tk_at (d : ByteArray) (p n : Nat) (h : p + n ≤ d.size) : tk n (stAt d p) = (d.extract p (p + n), stAt d (p + n)) := by
  unfold tk stAt
  rw [if_neg (by rw [ext_len d p (by omega)]; omega)]
  show ((d.extract p d.size).extract 0 n, ((d.extract p d.size).extract n (d.extract p d.size).size, true)) = _
  rw [ext_ext d p n h, ext_rest d p n h]
theorem tk_flag (n : Nat) (st : St) : (tk n st).2.2 = (st.2 && decide (n ≤ st.1.size)) ∧ (n ≤ st.1.size → (tk n st).2.1.size = st.1.size - n) := by
  unfold tk
  split
  · rename_i h
    refine ⟨?_, fun h' => absurd h' (by omega)⟩
    show false = _
    rw [decide_eq_false (by omega), Bool.and_false]
  · rename_i h
    refine ⟨?_, fun _ => ?_⟩
    · show st.2 = _
      rw [decide_eq_true (by omega), Bool.and_true]
    · show (st.1.extract n st.1.size).size = _
      rw [ByteArray.size_extract]; omega
theorem runN_off (w : Nat) (st : St) (h : st.2 = false) : ∀ k, (runN w st k).2.2 = false
  | 0 => h
  | k + 1 => by
    have := runN_off w st h k
    show (tk w (runN w st k).2).2.2 = false
    rw [(tk_flag w _).1, this, Bool.false_and]
theorem runV_off (w : Nat) (st : St) (h : st.2 = false) : ∀ k, (runV w st k).2.2 = false
  | 0 => h
  | k + 1 => by
    have := runV_off w st h k
    show (tk w (runV w st k).2).2.2 = false
    rw [(tk_flag w _).1, this, Bool.false_and]
/-- numbers, one behind the other, from place p on -/
def numsAt (d : ByteArray) (w p : Nat) : Nat → List Int
  | 0 => []
  | k + 1 => numsAt d w p k ++ [getK (d.extract (p + w * k) d.size) w]
def valsAt (d : ByteArray) (w p : Nat) : Nat → List ByteArray
  | 0 => []
  | k + 1 => valsAt d w p k ++ [d.extract (p + w * k) (p + w * k + w)]
theorem bt_ext (d : ByteArray) (p q i : Nat) (h : p + i < q) (hq : q ≤ d.size) : bt (d.extract p q) (i : Int) = bt d ((p + i : Nat) : Int) := by
  have h1 : i < (d.extract p q).size := by rw [ByteArray.size_extract]; omega
  have h2 : p + i < d.size := by omega
  unfold bt
  rw [dif_pos (show ((i : Nat) : Int).toNat < (d.extract p q).size by rw [Int.toNat_natCast]; exact h1), dif_pos (show (((p + i : Nat)) : Int).toNat < d.size by rw [Int.toNat_natCast]; exact h2)]
  simp only [Int.toNat_natCast, ByteArray.getElem_eq_getElem_data, ByteArray.data_extract, Array.getElem_extract]
theorem getK_ext (d : ByteArray) (p q : Nat) (hq : q ≤ d.size) : ∀ k, p + k ≤ q → getK (d.extract p q) k = getK (d.extract p d.size) k
  | 0, _ => rfl
  | k + 1, h => by
    rw [getK, getK, getK_ext d p q hq k (by omega), bt_ext d p q k (by omega) hq, bt_ext d p d.size k (by omega) (Nat.le_refl _)]
theorem nb_at (d : ByteArray) (p w : Nat) (h : p + w ≤ d.size) : nb w (stAt d p) = (getK (d.extract p d.size) w, stAt d (p + w)) := by
  unfold nb
  rw [tk_at d p w h]
  show (if (d.extract p (p + w)).size < w then (0 : Int) else getK (d.extract p (p + w)) w, stAt d (p + w)) = _
  rw [if_neg (by rw [ByteArray.size_extract]; omega), getK_ext d p (p + w) h w (Nat.le_refl _)]
theorem runN_at (d : ByteArray) (p w : Nat) : ∀ k, p + w * k ≤ d.size → runN w (stAt d p) k = (numsAt d w p k, stAt d (p + w * k))
  | 0, _ => by rw [runN, numsAt, Nat.mul_zero, Nat.add_zero]
  | k + 1, h => by
    rw [Nat.mul_succ] at h
    rw [runN, runN_at d p w k (by omega)]
    show ((numsAt d w p k) ++ [(nb w (stAt d (p + w * k))).1], (nb w (stAt d (p + w * k))).2) = _
    rw [nb_at d (p + w * k) w (by omega), numsAt, Nat.mul_succ, Nat.add_assoc]
theorem runV_at (d : ByteArray) (p w : Nat) : ∀ k, p + w * k ≤ d.size → runV w (stAt d p) k = (valsAt d w p k, stAt d (p + w * k))
  | 0, _ => by rw [runV, valsAt, Nat.mul_zero, Nat.add_zero]
  | k + 1, h => by
    rw [Nat.mul_succ] at h
    rw [runV, runV_at d p w k (by omega)]
    show ((valsAt d w p k) ++ [(tk w (stAt d (p + w * k))).1], (tk w (stAt d (p + w * k))).2) = _
    rw [tk_at d (p + w * k) w (by omega), valsAt, Nat.mul_succ, Nat.add_assoc]
/-- too few bytes: the flag falls -/
theorem runN_few (d : ByteArray) (p w : Nat) (hp : p ≤ d.size) : ∀ k, d.size < p + w * k → (runN w (stAt d p) k).2.2 = false
  | 0, h => by omega
  | k + 1, h => by
    rw [Nat.mul_succ] at h
    show (tk w (runN w (stAt d p) k).2).2.2 = false
    rw [(tk_flag w _).1]
    rcases Nat.lt_or_ge d.size (p + w * k) with h1 | h1
    · rw [runN_few d p w hp k h1, Bool.false_and]
    · rw [runN_at d p w k h1]
      show (true && decide (w ≤ (d.extract (p + w * k) d.size).size)) = false
      rw [ext_len d _ h1, decide_eq_false (by omega)]; rfl
theorem runV_few (d : ByteArray) (p w : Nat) (hp : p ≤ d.size) : ∀ k, d.size < p + w * k → (runV w (stAt d p) k).2.2 = false
  | 0, h => by omega
  | k + 1, h => by
    rw [Nat.mul_succ] at h
    show (tk w (runV w (stAt d p) k).2).2.2 = false
    rw [(tk_flag w _).1]
    rcases Nat.lt_or_ge d.size (p + w * k) with h1 | h1
    · rw [runV_few d p w hp k h1, Bool.false_and]
    · rw [runV_at d p w k h1]
      show (true && decide (w ≤ (d.extract (p + w * k) d.size).size)) = false
      rw [ext_len d _ h1, decide_eq_false (by omega)]; rfl
theorem getK_one (d : ByteArray) (p : Nat) (h : p < d.size) : getK (d.extract p d.size) 1 = bt d (p : Int) := by
  have := bt_ext d p d.size 0 (by omega) (Nat.le_refl _)
  simp only [getK]
  rw [show ((0 : Nat) : Int) = 0 from rfl] at this ⊢
  simpa using this
theorem parts_small (d : ByteArray) (h : d.size < 2) : (partsR d).ok = false := by
  have hc : (countS d).2.2 = false := by
    show (tk 1 (tk 1 (d, true)).2).2.2 = false
    rw [(tk_flag 1 _).1, (tk_flag 1 _).1]
    rcases (show d.size = 0 ∨ d.size = 1 by omega) with e | e
    · rw [decide_eq_false (show ¬ 1 ≤ (d, true).1.size by show ¬ 1 ≤ d.size; omega)]; rfl
    · rw [decide_eq_false (show ¬ 1 ≤ (tk 1 (d, true)).2.1.size by
        rw [(tk_flag 1 (d, true)).2 (by show 1 ≤ d.size; omega)]; show ¬ 1 ≤ d.size - 1; omega), Bool.and_false]
  unfold partsR
  split
  · rfl
  · show ((kidsP d).2.2 && _) = false
    have hv : (valsP d).2.2 = false := runV_off 12 _ (runN_off 4 _ hc _) _
    rw [show (kidsP d).2.2 = false from runN_off 1 _ hv _]; rfl
theorem kind_at (d : ByteArray) (h : 2 ≤ d.size) : kindS d = (bt d 0, stAt d 1) := by
  unfold kindS
  rw [← st_zero, nb_at d 0 1 (by omega), getK_one d 0 (by omega)]
  rfl
theorem count_at (d : ByteArray) (h : 2 ≤ d.size) : countS d = (bt d 1, stAt d 2) := by
  unfold countS
  rw [kind_at d h]
  show nb 1 (stAt d 1) = _
  rw [nb_at d 1 1 (by omega), getK_one d 1 (by omega)]
  rfl
/-- the parts by places, of so many keys -/
theorem parts_leaf (d : ByteArray) (h : 2 ≤ d.size) (c : Nat) (hc : bt d 1 = (c : Int)) (h7 : c ≤ 7) (hk : bt d 0 = 0) (hs : d.size = 2 + 16 * c) :
    partsR d = ⟨numsAt d 4 2 c, valsAt d 12 (2 + 4 * c) c, [], true⟩ := by
  have e1 : keysP d = (numsAt d 4 2 c, stAt d (2 + 4 * c)) := by
    unfold keysP; rw [count_at d h, hc, Int.toNat_natCast]; exact runN_at d 2 4 c (by omega)
  have e2 : valsP d = (valsAt d 12 (2 + 4 * c) c, stAt d (2 + 4 * c + 12 * c)) := by
    unfold valsP; rw [e1, count_at d h, kind_at d h, hc, hk]
    show runV 12 (stAt d (2 + 4 * c)) (((c : Int) * (1 - 0)).toNat) = _
    rw [show ((c : Int) * (1 - 0)).toNat = c by simp]; exact runV_at d _ 12 c (by omega)
  have e3 : kidsP d = ([], stAt d (2 + 4 * c + 12 * c)) := by
    unfold kidsP; rw [e2, count_at d h, kind_at d h, hc, hk]
    show runN 1 _ ((((c : Int) + 1) * 0).toNat) = _
    rw [show (((c : Int) + 1) * 0).toNat = 0 by simp]; rfl
  unfold partsR
  rw [kind_at d h, count_at d h, if_neg (by show ¬ (1 < bt d 0 ∨ 7 < bt d 1); omega), e3, e2, e1]
  have hx : decide ((stAt d (2 + 4 * c + 12 * c)).1.size = 0) = true := decide_eq_true (by have h1 := ext_len d (2 + 4 * c + 12 * c) (by omega); exact h1.trans (by omega))
  have hy : (stAt d (2 + 4 * c + 12 * c)).2 = true := rfl
  simp only [hx, hy, Bool.and_true]
theorem parts_inner (d : ByteArray) (h : 2 ≤ d.size) (c : Nat) (hc : bt d 1 = (c : Int)) (h7 : c ≤ 7) (hk : bt d 0 = 1) (hs : d.size = 2 + 4 * c + c + 1) :
    partsR d = ⟨numsAt d 4 2 c, [], numsAt d 1 (2 + 4 * c) (c + 1), true⟩ := by
  have e1 : keysP d = (numsAt d 4 2 c, stAt d (2 + 4 * c)) := by
    unfold keysP; rw [count_at d h, hc, Int.toNat_natCast]; exact runN_at d 2 4 c (by omega)
  have e2 : valsP d = ([], stAt d (2 + 4 * c)) := by
    unfold valsP; rw [e1, count_at d h, kind_at d h, hc, hk]
    show runV 12 (stAt d (2 + 4 * c)) (((c : Int) * (1 - 1)).toNat) = _
    rw [show ((c : Int) * (1 - 1)).toNat = 0 by simp]; rfl
  have e3 : kidsP d = (numsAt d 1 (2 + 4 * c) (c + 1), stAt d (2 + 4 * c + 1 * (c + 1))) := by
    unfold kidsP; rw [e2, count_at d h, kind_at d h, hc, hk]
    show runN 1 (stAt d (2 + 4 * c)) ((((c : Int) + 1) * 1).toNat) = _
    rw [show (((c : Int) + 1) * 1).toNat = c + 1 by omega]; exact runN_at d _ 1 (c + 1) (by omega)
  unfold partsR
  rw [kind_at d h, count_at d h, if_neg (by show ¬ (1 < bt d 0 ∨ 7 < bt d 1); omega), e3, e2, e1]
  have hx : decide ((stAt d (2 + 4 * c + 1 * (c + 1))).1.size = 0) = true := decide_eq_true (by have h1 := ext_len d (2 + 4 * c + 1 * (c + 1)) (by omega); exact h1.trans (by omega))
  have hy : (stAt d (2 + 4 * c + 1 * (c + 1))).2 = true := rfl
  simp only [hx, hy, Bool.and_true]
theorem ok_eq (d : ByteArray) (h : ¬ (1 < (kindS d).1 ∨ 7 < (countS d).1)) : (partsR d).ok = ((kidsP d).2.2 && decide ((kidsP d).2.1.size = 0)) := by
  unfold partsR
  rw [if_neg h]
theorem ok_bad (d : ByteArray) (h : 1 < (kindS d).1 ∨ 7 < (countS d).1) : (partsR d).ok = false := by
  unfold partsR
  rw [if_pos h]
theorem and_off {a b : Bool} (h : a = true → b = false) : (a && b) = false := by cases a <;> simp_all
/-- another size: no node -/
theorem parts_size0 (d : ByteArray) (h : 2 ≤ d.size) (c : Nat) (hc : bt d 1 = (c : Int)) (hk : bt d 0 = 0) (hs : d.size ≠ 2 + 16 * c) : (partsR d).ok = false := by
  by_cases hb : 1 < (kindS d).1 ∨ 7 < (countS d).1
  · exact ok_bad d hb
  rw [ok_eq d hb]
  have e3 : kidsP d = ([], (valsP d).2) := by
    unfold kidsP; rw [count_at d h, kind_at d h, hc, hk]
    show runN 1 _ ((((c : Int) + 1) * 0).toNat) = _
    rw [show (((c : Int) + 1) * 0).toNat = 0 by simp]; rfl
  have e1 : keysP d = runN 4 (stAt d 2) c := by unfold keysP; rw [count_at d h, hc, Int.toNat_natCast]
  have e2 : valsP d = runV 12 (keysP d).2 c := by
    unfold valsP; rw [count_at d h, kind_at d h, hc, hk]
    show runV 12 _ (((c : Int) * (1 - 0)).toNat) = _
    rw [show ((c : Int) * (1 - 0)).toNat = c by simp]
  have hv : (valsP d).2.2 = true → d.size - (2 + 4 * c + 12 * c) = (valsP d).2.1.size ∧ 2 + 4 * c + 12 * c ≤ d.size := by
    intro ht
    rcases Nat.lt_or_ge d.size (2 + 4 * c) with h1 | h1
    · rw [e2, runV_off 12 _ (by rw [e1]; exact runN_few d 2 4 (by omega) c h1) c] at ht; cases ht
    · rw [e1, runN_at d 2 4 c h1] at e2
      rcases Nat.lt_or_ge d.size (2 + 4 * c + 12 * c) with h2 | h2
      · rw [e2] at ht
        have := runV_few d (2 + 4 * c) 12 h1 c h2
        rw [this] at ht; cases ht
      · rw [runV_at d _ 12 c h2] at e2
        rw [e2]
        exact ⟨(ext_len d _ h2).symm, h2⟩
  rw [e3]
  refine and_off (a := (valsP d).2.2) (b := decide ((valsP d).2.1.size = 0)) fun ht => decide_eq_false ?_
  have := hv ht
  omega
theorem parts_size1 (d : ByteArray) (h : 2 ≤ d.size) (c : Nat) (hc : bt d 1 = (c : Int)) (hk : bt d 0 = 1) (hs : d.size ≠ 2 + 4 * c + c + 1) : (partsR d).ok = false := by
  by_cases hb : 1 < (kindS d).1 ∨ 7 < (countS d).1
  · exact ok_bad d hb
  rw [ok_eq d hb]
  have e1 : keysP d = runN 4 (stAt d 2) c := by unfold keysP; rw [count_at d h, hc, Int.toNat_natCast]
  have e2 : valsP d = ([], (keysP d).2) := by
    unfold valsP; rw [count_at d h, kind_at d h, hc, hk]
    show runV 12 _ (((c : Int) * (1 - 1)).toNat) = _
    rw [show ((c : Int) * (1 - 1)).toNat = 0 by simp]; rfl
  have e3 : kidsP d = runN 1 (keysP d).2 (c + 1) := by
    unfold kidsP; rw [e2, count_at d h, kind_at d h, hc, hk]
    show runN 1 (keysP d).2 ((((c : Int) + 1) * 1).toNat) = _
    rw [show (((c : Int) + 1) * 1).toNat = c + 1 by omega]
  have hv : (kidsP d).2.2 = true → d.size - (2 + 4 * c + 1 * (c + 1)) = (kidsP d).2.1.size ∧ 2 + 4 * c + 1 * (c + 1) ≤ d.size := by
    intro ht
    rcases Nat.lt_or_ge d.size (2 + 4 * c) with h1 | h1
    · rw [e3, runN_off 1 _ (by rw [e1]; exact runN_few d 2 4 (by omega) c h1) _] at ht; cases ht
    · rw [e1, runN_at d 2 4 c h1] at e3
      rcases Nat.lt_or_ge d.size (2 + 4 * c + 1 * (c + 1)) with h2 | h2
      · rw [e3] at ht
        have := runN_few d (2 + 4 * c) 1 h1 (c + 1) h2
        rw [this] at ht; cases ht
      · rw [runN_at d _ 1 (c + 1) h2] at e3
        rw [e3]
        exact ⟨(ext_len d _ h2).symm, h2⟩
  refine and_off fun ht => decide_eq_false ?_
  have := hv ht
  omega
theorem parts_big (d : ByteArray) (h : 2 ≤ d.size) (hb : 1 < bt d 0 ∨ 7 < bt d 1) : (partsR d).ok = false := by
  unfold partsR
  rw [kind_at d h, count_at d h, if_pos hb]
end Go.Proofs.YtbiijkpffllimaaDoor
