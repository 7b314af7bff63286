/- dynamolaw09.awake by its contract; NodeUnlike: the walk. -/
import Derived.Test.YtbiijkpffllimaaDoorNodeNPNodeUnlike
import Derived.Deep.RegionHeld3
namespace Go.Proofs.YtbiijkpffllimaaDoor
open Go.RowKit Go.Extern.Stop Go.Stop Go.Extern Go.Proofs.YtbiijkpffllimaaDoorW.PrintWords Go.Proofs.YtbiijkpffllimaaDoorW.PrintLast Go.Proofs.YtbiijkpffllimaaDoorW.PrintMore Go.Proofs.YtbiijkpffllimaaDoor.PNodeUnlike
set_option linter.unusedVariables false
set_option linter.unusedSimpArgs false

theorem lay_nil : layS [] [] [] = ⟨#[0, 0]⟩ := by kernel_rfl
theorem node_nil : nodeB [] [] [] = true := by kernel_rfl
theorem node_five : nodeB [5] [⟨#[49, 50, 51, 52, 53, 54, 55, 56, 57, 48, 49, 50]⟩] [] = true := by kernel_rfl
theorem lay_zero (W : World) : Calls Tryd.prog 16 #[.agg #[.slice none 0 0, .slice none 0 0, .slice none 0 0]] W fun e w' => e = .returned (.tuple #[.string ⟨#[0, 0]⟩, .nilIface]) ∧ Below W.heap.size W w' := by
  have h := lay_ok none [] 0 none [] 0 none [] 0 W (ints_nil _ _ _) (strs_nil _ _ _) (ints_nil _ _ _) (by simp) (by simp) (by simp) node_nil
  rw [lay_nil] at h
  exact h
theorem right_five (W : World) (b1 b2 : Nat) (h1 : W.cell? ⟨b1, 0, none⟩ = some (.int .i64 5)) (h2 : W.cell? ⟨b2, 0, none⟩ = some (.string ⟨#[49, 50, 51, 52, 53, 54, 55, 56, 57, 48, 49, 50]⟩)) :
    Calls Tryd.prog 20 #[.agg #[.slice (some ⟨b1, 0, none⟩) 1 1, .slice (some ⟨b2, 0, none⟩) 1 1, .slice none 0 0]] W fun e w' => e = .returned (.bool true) ∧ Below W.heap.size W w' := by
  have h := right_any (some ⟨b1, 0, none⟩) [5] 1 (some ⟨b2, 0, none⟩) [⟨#[49, 50, 51, 52, 53, 54, 55, 56, 57, 48, 49, 50]⟩] 1 none [] 0 W
    (ints_mk (by simp) (by simp) (fun j hj => by
      have e : j = 0 := by simpa using hj
      subst e
      exact h1))
    (strs_mk (by simp) (by simp) (fun j hj => by
      have e : j = 0 := by simpa using hj
      subst e
      exact h2)) (ints_nil _ _ _) (by simp) (by simp) (by simp)
  rw [node_five] at h
  exact h
set_option maxRecDepth 100000 in
theorem node_awake (w : World) : Calls Tryd.prog 13 #[] w fun e w' => e = .returned (.bool true) ∧ Below w.heap.size w w' := by
  go_enter Tryd.func13, Tryd.ntmps13
  go_wp2_with fail
  refine (lay_zero _).mono ?_
  rintro e w1 ⟨rfl, hb⟩
  have HB1 := Lib.hid hb
  clear hb
  go_wp2_with fail
  refine (Num_nil _).mono ?_
  rintro e _ ⟨rfl, rfl⟩
  go_wp2_with fail
  refine (right_five _ _ _ (by simp) (by simp)).mono ?_
  rintro e w2 ⟨rfl, hb⟩
  have HB2 := Lib.hid hb
  clear hb
  go_wp2_with fail
  go_ret
  exact ⟨rfl, HB1.out.trans ((((Below.refl _ _).alloc (Nat.le_refl _) _).alloc (by simp) _).trans (HB2.out.mono (by simp; omega)) |>.mono HB1.out.size)⟩
section
variable (A0 : Option Addr) (ks : List Int) (c0 : Nat) (A1 : Option Addr) (vs : List ByteArray) (c1 : Nat) (A2 : Option Addr) (kd : List Int) (c2 : Nat) (w : World)
theorem few_no (h : NodeIn w A0 ks c0 A1 vs c1 A2 kd c2) (hf : fewB ks vs kd = false) : Calls Tryd.prog 14 #[.agg #[.slice A0 ks.length c0, .slice A1 vs.length c1, .slice A2 kd.length c2]] w fun e w' => e = .returned (.int .i64 0) ∧ Below w.heap.size w w' := by
  have := few_any A0 ks c0 A1 vs c1 A2 kd c2 w h
  rw [hf] at this
  exact this
theorem few_yes (h : NodeIn w A0 ks c0 A1 vs c1 A2 kd c2) (hf : fewB ks vs kd = true) : Calls Tryd.prog 14 #[.agg #[.slice A0 ks.length c0, .slice A1 vs.length c1, .slice A2 kd.length c2]] w fun e w' => e = .returned (.int .i64 1) ∧ Below w.heap.size w w' := by
  have := few_any A0 ks c0 A1 vs c1 A2 kd c2 w h
  rw [hf] at this
  exact this
theorem rright_is (h : NodeIn w A0 ks c0 A1 vs c1 A2 kd c2) (hf : fewB ks vs kd = true) (b : Bool) (hb : nodeB ks vs kd = b) : Calls Tryd.prog 15 #[.agg #[.slice A0 ks.length c0, .slice A1 vs.length c1, .slice A2 kd.length c2]] w fun e w' => e = .returned (.bool b) ∧ Below w.heap.size w w' := by
  have f := fewB_iff.1 hf
  have := rright_any A0 ks c0 A1 vs c1 A2 kd c2 w h (by omega) (by omega) (by omega)
  rw [hb] at this
  exact this
theorem layok_in (h : NodeIn w A0 ks c0 A1 vs c1 A2 kd c2) (hf : fewB ks vs kd = true) (hb : nodeB ks vs kd = true) : Calls Tryd.prog 16 #[.agg #[.slice A0 ks.length c0, .slice A1 vs.length c1, .slice A2 kd.length c2]] w fun e w' => e = .returned (.tuple #[.string (layS ks vs kd), .nilIface]) ∧ Below w.heap.size w w' := by
  have f := fewB_iff.1 hf
  exact lay_ok A0 ks c0 A1 vs c1 A2 kd c2 w h.k h.v h.d (by omega) (by omega) (by omega) hb
theorem right_in (h : NodeIn w A0 ks c0 A1 vs c1 A2 kd c2) (hf : fewB ks vs kd = true) (b : Bool) (hb : nodeB ks vs kd = b) : Calls Tryd.prog 20 #[.agg #[.slice A0 ks.length c0, .slice A1 vs.length c1, .slice A2 kd.length c2]] w fun e w' => e = .returned (.bool b) ∧ Below w.heap.size w w' := by
  have f := fewB_iff.1 hf
  have := right_any A0 ks c0 A1 vs c1 A2 kd c2 w h.k h.v h.d (by omega) (by omega) (by omega)
  rw [hb] at this
  exact this
end
/-- the two variables' cells behind what leaves them -/
theorem box2 {w W' : World} {u0 u1 u2 v0 v1 v2 : Value} {t t' : TypeId} (hb : Below ((w.alloc (.cells #[u0, u1, u2] t)).alloc (.cells #[v0, v1, v2] t')).heap.size ((w.alloc (.cells #[u0, u1, u2] t)).alloc (.cells #[v0, v1, v2] t')) W') :
    (W'.cell? ⟨w.heap.size, 0, none⟩ = some u0 ∧ W'.cell? ⟨w.heap.size, 1, none⟩ = some u1 ∧ W'.cell? ⟨w.heap.size, 2, none⟩ = some u2) ∧ (W'.cell? ⟨w.heap.size + 1, 0, none⟩ = some v0 ∧ W'.cell? ⟨w.heap.size + 1, 1, none⟩ = some v1 ∧ W'.cell? ⟨w.heap.size + 1, 2, none⟩ = some v2) := by
  refine ⟨⟨(hb.cell (by simp; omega)).trans ?_, (hb.cell (by simp; omega)).trans ?_, (hb.cell (by simp; omega)).trans ?_⟩, (hb.cell (by simp)).trans ?_, (hb.cell (by simp)).trans ?_, (hb.cell (by simp)).trans ?_⟩ <;> simp
set_option maxHeartbeats 800000 in
set_option maxRecDepth 100000 in
theorem unlike_a (A0 : Option Addr) (ks : List Int) (c0 : Nat) (A1 : Option Addr) (vs : List ByteArray) (c1 : Nat) (A2 : Option Addr) (kd : List Int) (c2 : Nat) (B0 : Option Addr) (ks' : List Int) (d0 : Nat) (B1 : Option Addr) (vs' : List ByteArray) (d1 : Nat) (B2 : Option Addr) (kd' : List Int) (d2 : Nat) (w : World) (ha : NodeIn w A0 ks c0 A1 vs c1 A2 kd c2) (hb : NodeIn w B0 ks' d0 B1 vs' d1 B2 kd' d2) (tied : Tied w) (fa : fewB ks vs kd = false) :
    Calls Tryd.prog 3 #[.agg #[.slice A0 ks.length c0, .slice A1 vs.length c1, .slice A2 kd.length c2], .agg #[.slice B0 ks'.length d0, .slice B1 vs'.length d1, .slice B2 kd'.length d2]] w fun e w' => e = .returned (.bool true) ∧ Below w.heap.size w w' := by
  have HNa := Lib.hid fa
  clear fa
  have Ha := Lib.hid ha
  have Hb := Lib.hid hb
  have HB0 : Hid (Below w.heap.size w ((w.alloc (.cells #[.slice A0 ks.length c0, .slice A1 vs.length c1, .slice A2 kd.length c2] 25)).alloc (.cells #[.slice B0 ks'.length d0, .slice B1 vs'.length d1, .slice B2 kd'.length d2] 25))) := Lib.hid (((Below.refl _ _).alloc (Nat.le_refl _) _).alloc (by simp) _)
  clear ha hb tied
  go_enter Tryd.func3, Tryd.ntmps3
  go_wp2_with fail
  refine (node_awake _).mono ?_
  rintro e w1 ⟨rfl, hb⟩
  have HB1 := Lib.hid (hb)
  obtain ⟨⟨x0, x1, x2⟩, y0, y1, y2⟩ := box2 HB1.out
  clear hb
  go_wp2_with fail
  refine (few_no A0 ks c0 A1 vs c1 A2 kd c2 _ (Ha.out.below (HB0.out.trans (HB1.out.mono (by simp; omega)))) HNa.out).mono ?_
  rintro e w2 ⟨rfl, hb⟩
  have HB2 := Lib.hid (HB1.out.trans (hb.mono HB1.out.size))
  obtain ⟨⟨x0, x1, x2⟩, y0, y1, y2⟩ := box2 HB2.out
  clear hb
  go_wp2_with fail
  refine (node_awake _).mono ?_
  rintro e w3 ⟨rfl, hb⟩
  have HB3 := Lib.hid (HB2.out.trans (hb.mono HB2.out.size))
  obtain ⟨⟨x0, x1, x2⟩, y0, y1, y2⟩ := box2 HB3.out
  clear hb
  go_wp2_with fail
  go_ret
  exact ⟨rfl, (HB0.out.trans (HB3.out.mono (by simp; omega)))⟩
set_option maxHeartbeats 800000 in
set_option maxRecDepth 100000 in
theorem unlike_b (A0 : Option Addr) (ks : List Int) (c0 : Nat) (A1 : Option Addr) (vs : List ByteArray) (c1 : Nat) (A2 : Option Addr) (kd : List Int) (c2 : Nat) (B0 : Option Addr) (ks' : List Int) (d0 : Nat) (B1 : Option Addr) (vs' : List ByteArray) (d1 : Nat) (B2 : Option Addr) (kd' : List Int) (d2 : Nat) (w : World) (ha : NodeIn w A0 ks c0 A1 vs c1 A2 kd c2) (hb : NodeIn w B0 ks' d0 B1 vs' d1 B2 kd' d2) (tied : Tied w) (fa : fewB ks vs kd = true) (fb : fewB ks' vs' kd' = false) :
    Calls Tryd.prog 3 #[.agg #[.slice A0 ks.length c0, .slice A1 vs.length c1, .slice A2 kd.length c2], .agg #[.slice B0 ks'.length d0, .slice B1 vs'.length d1, .slice B2 kd'.length d2]] w fun e w' => e = .returned (.bool true) ∧ Below w.heap.size w w' := by
  have HFa := Lib.hid fa
  have HNb := Lib.hid fb
  clear fa fb
  have Ha := Lib.hid ha
  have Hb := Lib.hid hb
  have HB0 : Hid (Below w.heap.size w ((w.alloc (.cells #[.slice A0 ks.length c0, .slice A1 vs.length c1, .slice A2 kd.length c2] 25)).alloc (.cells #[.slice B0 ks'.length d0, .slice B1 vs'.length d1, .slice B2 kd'.length d2] 25))) := Lib.hid (((Below.refl _ _).alloc (Nat.le_refl _) _).alloc (by simp) _)
  clear ha hb tied
  go_enter Tryd.func3, Tryd.ntmps3
  go_wp2_with fail
  refine (node_awake _).mono ?_
  rintro e w1 ⟨rfl, hb⟩
  have HB1 := Lib.hid (hb)
  obtain ⟨⟨x0, x1, x2⟩, y0, y1, y2⟩ := box2 HB1.out
  clear hb
  go_wp2_with fail
  refine (few_yes A0 ks c0 A1 vs c1 A2 kd c2 _ (Ha.out.below (HB0.out.trans (HB1.out.mono (by simp; omega)))) HFa.out).mono ?_
  rintro e w2 ⟨rfl, hb⟩
  have HB2 := Lib.hid (HB1.out.trans (hb.mono HB1.out.size))
  obtain ⟨⟨x0, x1, x2⟩, y0, y1, y2⟩ := box2 HB2.out
  clear hb
  go_wp2_with fail
  refine (few_no B0 ks' d0 B1 vs' d1 B2 kd' d2 _ (Hb.out.below (HB0.out.trans (HB2.out.mono (by simp; omega)))) HNb.out).mono ?_
  rintro e w3 ⟨rfl, hb⟩
  have HB3 := Lib.hid (HB2.out.trans (hb.mono HB2.out.size))
  obtain ⟨⟨x0, x1, x2⟩, y0, y1, y2⟩ := box2 HB3.out
  clear hb
  go_wp2_with fail
  refine (node_awake _).mono ?_
  rintro e w4 ⟨rfl, hb⟩
  have HB4 := Lib.hid (HB3.out.trans (hb.mono HB3.out.size))
  obtain ⟨⟨x0, x1, x2⟩, y0, y1, y2⟩ := box2 HB4.out
  clear hb
  go_wp2_with fail
  go_ret
  exact ⟨rfl, (HB0.out.trans (HB4.out.mono (by simp; omega)))⟩
set_option maxHeartbeats 800000 in
set_option maxRecDepth 100000 in
theorem unlike_c (A0 : Option Addr) (ks : List Int) (c0 : Nat) (A1 : Option Addr) (vs : List ByteArray) (c1 : Nat) (A2 : Option Addr) (kd : List Int) (c2 : Nat) (B0 : Option Addr) (ks' : List Int) (d0 : Nat) (B1 : Option Addr) (vs' : List ByteArray) (d1 : Nat) (B2 : Option Addr) (kd' : List Int) (d2 : Nat) (w : World) (ha : NodeIn w A0 ks c0 A1 vs c1 A2 kd c2) (hb : NodeIn w B0 ks' d0 B1 vs' d1 B2 kd' d2) (tied : Tied w) (fa : fewB ks vs kd = true) (fb : fewB ks' vs' kd' = true) (ra : nodeB ks vs kd = false) :
    Calls Tryd.prog 3 #[.agg #[.slice A0 ks.length c0, .slice A1 vs.length c1, .slice A2 kd.length c2], .agg #[.slice B0 ks'.length d0, .slice B1 vs'.length d1, .slice B2 kd'.length d2]] w fun e w' => e = .returned (.bool true) ∧ Below w.heap.size w w' := by
  have HFa := Lib.hid fa
  have HFb := Lib.hid fb
  have HRa := Lib.hid ra
  clear fa fb ra
  have Ha := Lib.hid ha
  have Hb := Lib.hid hb
  have HB0 : Hid (Below w.heap.size w ((w.alloc (.cells #[.slice A0 ks.length c0, .slice A1 vs.length c1, .slice A2 kd.length c2] 25)).alloc (.cells #[.slice B0 ks'.length d0, .slice B1 vs'.length d1, .slice B2 kd'.length d2] 25))) := Lib.hid (((Below.refl _ _).alloc (Nat.le_refl _) _).alloc (by simp) _)
  clear ha hb tied
  go_enter Tryd.func3, Tryd.ntmps3
  go_wp2_with fail
  refine (node_awake _).mono ?_
  rintro e w1 ⟨rfl, hb⟩
  have HB1 := Lib.hid (hb)
  obtain ⟨⟨x0, x1, x2⟩, y0, y1, y2⟩ := box2 HB1.out
  clear hb
  go_wp2_with fail
  refine (few_yes A0 ks c0 A1 vs c1 A2 kd c2 _ (Ha.out.below (HB0.out.trans (HB1.out.mono (by simp; omega)))) HFa.out).mono ?_
  rintro e w2 ⟨rfl, hb⟩
  have HB2 := Lib.hid (HB1.out.trans (hb.mono HB1.out.size))
  obtain ⟨⟨x0, x1, x2⟩, y0, y1, y2⟩ := box2 HB2.out
  clear hb
  go_wp2_with fail
  refine (few_yes B0 ks' d0 B1 vs' d1 B2 kd' d2 _ (Hb.out.below (HB0.out.trans (HB2.out.mono (by simp; omega)))) HFb.out).mono ?_
  rintro e w3 ⟨rfl, hb⟩
  have HB3 := Lib.hid (HB2.out.trans (hb.mono HB2.out.size))
  obtain ⟨⟨x0, x1, x2⟩, y0, y1, y2⟩ := box2 HB3.out
  clear hb
  go_wp2_with fail
  refine (rright_is A0 ks c0 A1 vs c1 A2 kd c2 _ (Ha.out.below (HB0.out.trans (HB3.out.mono (by simp; omega)))) HFa.out false HRa.out).mono ?_
  rintro e w4 ⟨rfl, hb⟩
  have HB4 := Lib.hid (HB3.out.trans (hb.mono HB3.out.size))
  obtain ⟨⟨x0, x1, x2⟩, y0, y1, y2⟩ := box2 HB4.out
  clear hb
  go_wp2_with fail
  refine (node_awake _).mono ?_
  rintro e w5 ⟨rfl, hb⟩
  have HB5 := Lib.hid (HB4.out.trans (hb.mono HB4.out.size))
  obtain ⟨⟨x0, x1, x2⟩, y0, y1, y2⟩ := box2 HB5.out
  clear hb
  go_wp2_with fail
  go_ret
  exact ⟨rfl, (HB0.out.trans (HB5.out.mono (by simp; omega)))⟩
set_option maxHeartbeats 800000 in
set_option maxRecDepth 100000 in
theorem unlike_d (A0 : Option Addr) (ks : List Int) (c0 : Nat) (A1 : Option Addr) (vs : List ByteArray) (c1 : Nat) (A2 : Option Addr) (kd : List Int) (c2 : Nat) (B0 : Option Addr) (ks' : List Int) (d0 : Nat) (B1 : Option Addr) (vs' : List ByteArray) (d1 : Nat) (B2 : Option Addr) (kd' : List Int) (d2 : Nat) (w : World) (ha : NodeIn w A0 ks c0 A1 vs c1 A2 kd c2) (hb : NodeIn w B0 ks' d0 B1 vs' d1 B2 kd' d2) (tied : Tied w) (fa : fewB ks vs kd = true) (fb : fewB ks' vs' kd' = true) (ra : nodeB ks vs kd = true) (rb : nodeB ks' vs' kd' = false) :
    Calls Tryd.prog 3 #[.agg #[.slice A0 ks.length c0, .slice A1 vs.length c1, .slice A2 kd.length c2], .agg #[.slice B0 ks'.length d0, .slice B1 vs'.length d1, .slice B2 kd'.length d2]] w fun e w' => e = .returned (.bool true) ∧ Below w.heap.size w w' := by
  have HFa := Lib.hid fa
  have HFb := Lib.hid fb
  have HRa := Lib.hid ra
  have HRb := Lib.hid rb
  clear fa fb ra rb
  have Ha := Lib.hid ha
  have Hb := Lib.hid hb
  have HB0 : Hid (Below w.heap.size w ((w.alloc (.cells #[.slice A0 ks.length c0, .slice A1 vs.length c1, .slice A2 kd.length c2] 25)).alloc (.cells #[.slice B0 ks'.length d0, .slice B1 vs'.length d1, .slice B2 kd'.length d2] 25))) := Lib.hid (((Below.refl _ _).alloc (Nat.le_refl _) _).alloc (by simp) _)
  clear ha hb tied
  go_enter Tryd.func3, Tryd.ntmps3
  go_wp2_with fail
  refine (node_awake _).mono ?_
  rintro e w1 ⟨rfl, hb⟩
  have HB1 := Lib.hid (hb)
  obtain ⟨⟨x0, x1, x2⟩, y0, y1, y2⟩ := box2 HB1.out
  clear hb
  go_wp2_with fail
  refine (few_yes A0 ks c0 A1 vs c1 A2 kd c2 _ (Ha.out.below (HB0.out.trans (HB1.out.mono (by simp; omega)))) HFa.out).mono ?_
  rintro e w2 ⟨rfl, hb⟩
  have HB2 := Lib.hid (HB1.out.trans (hb.mono HB1.out.size))
  obtain ⟨⟨x0, x1, x2⟩, y0, y1, y2⟩ := box2 HB2.out
  clear hb
  go_wp2_with fail
  refine (few_yes B0 ks' d0 B1 vs' d1 B2 kd' d2 _ (Hb.out.below (HB0.out.trans (HB2.out.mono (by simp; omega)))) HFb.out).mono ?_
  rintro e w3 ⟨rfl, hb⟩
  have HB3 := Lib.hid (HB2.out.trans (hb.mono HB2.out.size))
  obtain ⟨⟨x0, x1, x2⟩, y0, y1, y2⟩ := box2 HB3.out
  clear hb
  go_wp2_with fail
  refine (rright_is A0 ks c0 A1 vs c1 A2 kd c2 _ (Ha.out.below (HB0.out.trans (HB3.out.mono (by simp; omega)))) HFa.out true HRa.out).mono ?_
  rintro e w4 ⟨rfl, hb⟩
  have HB4 := Lib.hid (HB3.out.trans (hb.mono HB3.out.size))
  obtain ⟨⟨x0, x1, x2⟩, y0, y1, y2⟩ := box2 HB4.out
  clear hb
  go_wp2_with fail
  refine (rright_is B0 ks' d0 B1 vs' d1 B2 kd' d2 _ (Hb.out.below (HB0.out.trans (HB4.out.mono (by simp; omega)))) HFb.out false HRb.out).mono ?_
  rintro e w5 ⟨rfl, hb⟩
  have HB5 := Lib.hid (HB4.out.trans (hb.mono HB4.out.size))
  obtain ⟨⟨x0, x1, x2⟩, y0, y1, y2⟩ := box2 HB5.out
  clear hb
  go_wp2_with fail
  refine (node_awake _).mono ?_
  rintro e w6 ⟨rfl, hb⟩
  have HB6 := Lib.hid (HB5.out.trans (hb.mono HB5.out.size))
  obtain ⟨⟨x0, x1, x2⟩, y0, y1, y2⟩ := box2 HB6.out
  clear hb
  go_wp2_with fail
  go_ret
  exact ⟨rfl, (HB0.out.trans (HB6.out.mono (by simp; omega)))⟩
set_option maxHeartbeats 2000000 in
set_option maxRecDepth 100000 in
theorem unlike_e (A0 : Option Addr) (ks : List Int) (c0 : Nat) (A1 : Option Addr) (vs : List ByteArray) (c1 : Nat) (A2 : Option Addr) (kd : List Int) (c2 : Nat) (B0 : Option Addr) (ks' : List Int) (d0 : Nat) (B1 : Option Addr) (vs' : List ByteArray) (d1 : Nat) (B2 : Option Addr) (kd' : List Int) (d2 : Nat) (w : World) (ha : NodeIn w A0 ks c0 A1 vs c1 A2 kd c2) (hb : NodeIn w B0 ks' d0 B1 vs' d1 B2 kd' d2) (tied : Tied w) (fa : fewB ks vs kd = true) (fb : fewB ks' vs' kd' = true) (ra : nodeB ks vs kd = true) (rb : nodeB ks' vs' kd' = true) :
    Calls Tryd.prog 3 #[.agg #[.slice A0 ks.length c0, .slice A1 vs.length c1, .slice A2 kd.length c2], .agg #[.slice B0 ks'.length d0, .slice B1 vs'.length d1, .slice B2 kd'.length d2]] w fun e w' => e = .returned (.bool true) ∧ Below w.heap.size w w' := by
  have HFa := Lib.hid fa
  have HFb := Lib.hid fb
  have HRa := Lib.hid ra
  have HRb := Lib.hid rb
  clear fa fb ra rb
  have HI := Lib.hid (lay_inj HRa.out HRb.out)
  have HS : Hid (sameB ks vs kd ks' vs' kd' = true → layS ks vs kd = layS ks' vs' kd') := Lib.hid (fun h => by
    obtain ⟨rfl, rfl, rfl⟩ := sameB_iff.1 h; rfl)
  have Ha := Lib.hid ha
  have Hb := Lib.hid hb
  have HB0 : Hid (Below w.heap.size w ((w.alloc (.cells #[.slice A0 ks.length c0, .slice A1 vs.length c1, .slice A2 kd.length c2] 25)).alloc (.cells #[.slice B0 ks'.length d0, .slice B1 vs'.length d1, .slice B2 kd'.length d2] 25))) := Lib.hid (((Below.refl _ _).alloc (Nat.le_refl _) _).alloc (by simp) _)
  clear ha hb tied
  go_enter Tryd.func3, Tryd.ntmps3
  go_wp2_with fail
  refine (node_awake _).mono ?_
  rintro e w1 ⟨rfl, hb⟩
  have HB1 := Lib.hid (hb)
  obtain ⟨⟨x0, x1, x2⟩, y0, y1, y2⟩ := box2 HB1.out
  clear hb
  go_wp2_with fail
  refine (few_yes A0 ks c0 A1 vs c1 A2 kd c2 _ (Ha.out.below (HB0.out.trans (HB1.out.mono (by simp; omega)))) HFa.out).mono ?_
  rintro e w2 ⟨rfl, hb⟩
  have HB2 := Lib.hid (HB1.out.trans (hb.mono HB1.out.size))
  obtain ⟨⟨x0, x1, x2⟩, y0, y1, y2⟩ := box2 HB2.out
  clear hb
  go_wp2_with fail
  refine (few_yes B0 ks' d0 B1 vs' d1 B2 kd' d2 _ (Hb.out.below (HB0.out.trans (HB2.out.mono (by simp; omega)))) HFb.out).mono ?_
  rintro e w3 ⟨rfl, hb⟩
  have HB3 := Lib.hid (HB2.out.trans (hb.mono HB2.out.size))
  obtain ⟨⟨x0, x1, x2⟩, y0, y1, y2⟩ := box2 HB3.out
  clear hb
  go_wp2_with fail
  refine (rright_is A0 ks c0 A1 vs c1 A2 kd c2 _ (Ha.out.below (HB0.out.trans (HB3.out.mono (by simp; omega)))) HFa.out true HRa.out).mono ?_
  rintro e w4 ⟨rfl, hb⟩
  have HB4 := Lib.hid (HB3.out.trans (hb.mono HB3.out.size))
  obtain ⟨⟨x0, x1, x2⟩, y0, y1, y2⟩ := box2 HB4.out
  clear hb
  go_wp2_with fail
  refine (rright_is B0 ks' d0 B1 vs' d1 B2 kd' d2 _ (Hb.out.below (HB0.out.trans (HB4.out.mono (by simp; omega)))) HFb.out true HRb.out).mono ?_
  rintro e w5 ⟨rfl, hb⟩
  have HB5 := Lib.hid (HB4.out.trans (hb.mono HB4.out.size))
  obtain ⟨⟨x0, x1, x2⟩, y0, y1, y2⟩ := box2 HB5.out
  clear hb
  go_wp2_with fail
  refine (of_call A0 ks c0 A1 vs c1 A2 kd c2 _).mono ?_
  rintro e w6 ⟨rfl, hb⟩
  have HB6 := Lib.hid (HB5.out.trans (hb.mono HB5.out.size))
  obtain ⟨⟨x0, x1, x2⟩, y0, y1, y2⟩ := box2 HB6.out
  clear hb
  go_wp2_with fail
  refine (layok_in A0 ks c0 A1 vs c1 A2 kd c2 _ (Ha.out.below (HB0.out.trans (HB6.out.mono (by simp; omega)))) HFa.out HRa.out).mono ?_
  rintro e w7 ⟨rfl, hb⟩
  have HB7 := Lib.hid (HB6.out.trans (hb.mono HB6.out.size))
  obtain ⟨⟨x0, x1, x2⟩, y0, y1, y2⟩ := box2 HB7.out
  clear hb
  go_wp2_with fail
  refine (of_call B0 ks' d0 B1 vs' d1 B2 kd' d2 _).mono ?_
  rintro e w8 ⟨rfl, hb⟩
  have HB8 := Lib.hid (HB7.out.trans (hb.mono HB7.out.size))
  obtain ⟨⟨x0, x1, x2⟩, y0, y1, y2⟩ := box2 HB8.out
  clear hb
  go_wp2_with fail
  refine (layok_in B0 ks' d0 B1 vs' d1 B2 kd' d2 _ (Hb.out.below (HB0.out.trans (HB8.out.mono (by simp; omega)))) HFb.out HRb.out).mono ?_
  rintro e w9 ⟨rfl, hb⟩
  have HB9 := Lib.hid (HB8.out.trans (hb.mono HB8.out.size))
  obtain ⟨⟨x0, x1, x2⟩, y0, y1, y2⟩ := box2 HB9.out
  clear hb
  have HSt := Lib.hid (show ∀ w', KF w9 w' → (w'.cell? ⟨w.heap.size, 0, none⟩ = some (.slice A0 ks.length c0) ∧ w'.cell? ⟨w.heap.size, 1, none⟩ = some (.slice A1 vs.length c1) ∧ w'.cell? ⟨w.heap.size, 2, none⟩ = some (.slice A2 kd.length c2)) ∧ (w'.cell? ⟨w.heap.size + 1, 0, none⟩ = some (.slice B0 ks'.length d0) ∧ w'.cell? ⟨w.heap.size + 1, 1, none⟩ = some (.slice B1 vs'.length d1) ∧ w'.cell? ⟨w.heap.size + 1, 2, none⟩ = some (.slice B2 kd'.length d2)) ∧ KF w9 w' from fun w' h => by
    have hh := box2 (HB9.out.trans (Below.mono h HB9.out.size))
    exact ⟨hh.1, hh.2, h⟩)
  have HSf := Lib.hid (show ∀ w', ((w'.cell? ⟨w.heap.size, 0, none⟩ = some (.slice A0 ks.length c0) ∧ w'.cell? ⟨w.heap.size, 1, none⟩ = some (.slice A1 vs.length c1) ∧ w'.cell? ⟨w.heap.size, 2, none⟩ = some (.slice A2 kd.length c2)) ∧ (w'.cell? ⟨w.heap.size + 1, 0, none⟩ = some (.slice B0 ks'.length d0) ∧ w'.cell? ⟨w.heap.size + 1, 1, none⟩ = some (.slice B1 vs'.length d1) ∧ w'.cell? ⟨w.heap.size + 1, 2, none⟩ = some (.slice B2 kd'.length d2)) ∧ KF w9 w') → KF w9 w' from fun w' h => h.2.2)
  have HNa : Hid (∀ w', KF w9 w' → NodeIn w' A0 ks c0 A1 vs c1 A2 kd c2) := Lib.hid (fun w' h => (Ha.out.below (HB0.out.trans (HB9.out.mono (by simp; omega)))).below h)
  have HNb : Hid (∀ w', KF w9 w' → NodeIn w' B0 ks' d0 B1 vs' d1 B2 kd' d2) := Lib.hid (fun w' h => (Hb.out.below (HB0.out.trans (HB9.out.mono (by simp; omega)))).below h)
  have HBw := Lib.hid (HB0.out.trans (HB9.out.mono (by simp; omega)))
  have f1 := (fewB_iff.1 HFa.out)
  have HL := Lib.hid (show ks.length ≤ 1000 ∧ vs.length ≤ 1000 ∧ kd.length ≤ 1000 by omega)
  clear f1
  obtain ⟨s, hs⟩ : ∃ q, q = layS ks vs kd := ⟨_, rfl⟩
  obtain ⟨t, ht⟩ : ∃ q, q = layS ks' vs' kd' := ⟨_, rfl⟩
  rw [← hs, ← ht] at HS HI ⊢
  clear hs ht
  cases hsm : sameB ks vs kd ks' vs' kd' with
  | true =>
    have HSm : Hid (∀ w', NodeIn w' A0 ks c0 A1 vs c1 A2 kd c2 → NodeIn w' B0 ks' d0 B1 vs' d1 B2 kd' d2 → Calls Tryd.prog 19 #[.agg #[.slice A0 ks.length c0, .slice A1 vs.length c1, .slice A2 kd.length c2], .agg #[.slice B0 ks'.length d0, .slice B1 vs'.length d1, .slice B2 kd'.length d2]] w' fun e w'' => e = .returned (.int .i64 1) ∧ Below w'.heap.size w' w'') := Lib.hid (fun w' h h' => by
      have := same_any A0 ks c0 A1 vs c1 A2 kd c2 w' B0 ks' d0 B1 vs' d1 B2 kd' d2 h h' HL.out.1 HL.out.2.1 HL.out.2.2
      rw [hsm] at this
      exact this)
    obtain rfl := HS.out hsm
    clear hsm
    go_wp2_with fail
    go_region_held3 (fun w' => (w'.cell? ⟨w.heap.size, 0, none⟩ = some (.slice A0 ks.length c0) ∧ w'.cell? ⟨w.heap.size, 1, none⟩ = some (.slice A1 vs.length c1) ∧ w'.cell? ⟨w.heap.size, 2, none⟩ = some (.slice A2 kd.length c2)) ∧ (w'.cell? ⟨w.heap.size + 1, 0, none⟩ = some (.slice B0 ks'.length d0) ∧ w'.cell? ⟨w.heap.size + 1, 1, none⟩ = some (.slice B1 vs'.length d1) ∧ w'.cell? ⟨w.heap.size + 1, 2, none⟩ = some (.slice B2 kd'.length d2)) ∧ KF w9 w') ((refine HSt.out _ ?_; first | assumption | exact Below.drew (Below.refl _ _))) (first | (go_at_call 18; (with_reducible refine (Num_nil _).mono ?_); rintro e wn ⟨rfl, rfl⟩) | (go_at_call 17; (with_reducible refine (of_call A0 ks c0 A1 vs c1 A2 kd c2 _).mono ?_); rintro e wn ⟨rfl, hb⟩; have hKK := KF.step (HSf.out _ (by assumption)) hb; clear hb) | (go_at_call 19; (with_reducible refine (HSm.out _ (HNa.out _ (HSf.out _ (by assumption))) (HNb.out _ (HSf.out _ (by assumption)))).mono ?_); rintro e wn ⟨rfl, hb⟩; have hKK := KF.step (HSf.out _ (by assumption)) hb; clear hb))
    go_wp2_with fail
    go_ret
    exact ⟨rfl, HBw.out.trans (Below.mono hKK HBw.out.size)⟩
  | false =>
    have HSm : Hid (∀ w', NodeIn w' A0 ks c0 A1 vs c1 A2 kd c2 → NodeIn w' B0 ks' d0 B1 vs' d1 B2 kd' d2 → Calls Tryd.prog 19 #[.agg #[.slice A0 ks.length c0, .slice A1 vs.length c1, .slice A2 kd.length c2], .agg #[.slice B0 ks'.length d0, .slice B1 vs'.length d1, .slice B2 kd'.length d2]] w' fun e w'' => e = .returned (.int .i64 0) ∧ Below w'.heap.size w' w'') := Lib.hid (fun w' h h' => by
      have := same_any A0 ks c0 A1 vs c1 A2 kd c2 w' B0 ks' d0 B1 vs' d1 B2 kd' d2 h h' HL.out.1 HL.out.2.1 HL.out.2.2
      rw [hsm] at this
      exact this)
    have hne : s ≠ t := fun e => by
      have := sameB_iff.2 (HI.out e)
      rw [hsm] at this; cases this
    have hne1 : ¬ s.toList = t.toList := fun e => hne (bytes_ext e)
    have hne2 : (s.toList == t.toList) = false := by rw [beq_eq_false_iff_ne]; exact hne1
    have hne3 : decide (s.toList = t.toList) = false := decide_eq_false hne1
    clear hsm
    go_wp2_with fail
    go_region_held3 (fun w' => (w'.cell? ⟨w.heap.size, 0, none⟩ = some (.slice A0 ks.length c0) ∧ w'.cell? ⟨w.heap.size, 1, none⟩ = some (.slice A1 vs.length c1) ∧ w'.cell? ⟨w.heap.size, 2, none⟩ = some (.slice A2 kd.length c2)) ∧ (w'.cell? ⟨w.heap.size + 1, 0, none⟩ = some (.slice B0 ks'.length d0) ∧ w'.cell? ⟨w.heap.size + 1, 1, none⟩ = some (.slice B1 vs'.length d1) ∧ w'.cell? ⟨w.heap.size + 1, 2, none⟩ = some (.slice B2 kd'.length d2)) ∧ KF w9 w') ((refine HSt.out _ ?_; first | assumption | exact Below.drew (Below.refl _ _))) (first | (go_at_call 18; (with_reducible refine (Num_nil _).mono ?_); rintro e wn ⟨rfl, rfl⟩) | (go_at_call 17; (with_reducible refine (of_call A0 ks c0 A1 vs c1 A2 kd c2 _).mono ?_); rintro e wn ⟨rfl, hb⟩; have hKK := KF.step (HSf.out _ (by assumption)) hb; clear hb) | (go_at_call 19; (with_reducible refine (HSm.out _ (HNa.out _ (HSf.out _ (by assumption))) (HNb.out _ (HSf.out _ (by assumption)))).mono ?_); rintro e wn ⟨rfl, hb⟩; have hKK := KF.step (HSf.out _ (by assumption)) hb; clear hb))
    go_wp2_with fail
    go_ret
    exact ⟨rfl, HBw.out.trans (Below.mono hKK HBw.out.size)⟩
theorem unlike_walk (A0 : Option Addr) (ks : List Int) (c0 : Nat) (A1 : Option Addr) (vs : List ByteArray) (c1 : Nat) (A2 : Option Addr) (kd : List Int) (c2 : Nat) (B0 : Option Addr) (ks' : List Int) (d0 : Nat) (B1 : Option Addr) (vs' : List ByteArray) (d1 : Nat) (B2 : Option Addr) (kd' : List Int) (d2 : Nat) (w : World) (ha : NodeIn w A0 ks c0 A1 vs c1 A2 kd c2) (hb : NodeIn w B0 ks' d0 B1 vs' d1 B2 kd' d2) (tied : Tied w) :
    Calls Tryd.prog 3 #[.agg #[.slice A0 ks.length c0, .slice A1 vs.length c1, .slice A2 kd.length c2], .agg #[.slice B0 ks'.length d0, .slice B1 vs'.length d1, .slice B2 kd'.length d2]] w fun e w' => e = .returned (.bool true) ∧ Below w.heap.size w w' := by
  cases fa : fewB ks vs kd with
  | false => exact unlike_a A0 ks c0 A1 vs c1 A2 kd c2 B0 ks' d0 B1 vs' d1 B2 kd' d2 w ha hb tied fa
  | true =>
    cases fb : fewB ks' vs' kd' with
    | false => exact unlike_b A0 ks c0 A1 vs c1 A2 kd c2 B0 ks' d0 B1 vs' d1 B2 kd' d2 w ha hb tied fa fb
    | true =>
      cases ra : nodeB ks vs kd with
      | false => exact unlike_c A0 ks c0 A1 vs c1 A2 kd c2 B0 ks' d0 B1 vs' d1 B2 kd' d2 w ha hb tied fa fb ra
      | true =>
        cases rb : nodeB ks' vs' kd' with
        | false => exact unlike_d A0 ks c0 A1 vs c1 A2 kd c2 B0 ks' d0 B1 vs' d1 B2 kd' d2 w ha hb tied fa fb ra rb
        | true => exact unlike_e A0 ks c0 A1 vs c1 A2 kd c2 B0 ks' d0 B1 vs' d1 B2 kd' d2 w ha hb tied fa fb ra rb
end Go.Proofs.YtbiijkpffllimaaDoor
