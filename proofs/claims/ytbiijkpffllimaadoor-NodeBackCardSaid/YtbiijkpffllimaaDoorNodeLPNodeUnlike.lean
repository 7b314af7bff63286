/- node.Lay by its contract. -/
import Derived.Test.YtbiijkpffllimaaDoorNodeRPNodeUnlike
import Derived.Test.YtbiijkpffllimaaDoorKPackAPNodeUnlike
import Derived.Deep.RegionHeld3
namespace Go.Proofs.YtbiijkpffllimaaDoor
open Go.RowKit Go.Extern.Stop Go.Stop Go.Extern Go.Proofs.YtbiijkpffllimaaDoorW.PrintWords Go.Proofs.YtbiijkpffllimaaDoorW.PrintLast Go.Proofs.YtbiijkpffllimaaDoorW.PrintMore Go.Proofs.YtbiijkpffllimaaDoor.PNodeUnlike
set_option linter.unusedVariables false
set_option linter.unusedSimpArgs false

def kindI (kd : List Int) : Int := if kd.length = 0 then 0 else 1
def headS (ks kd : List Int) : ByteArray := putB 1 (kindI kd) ++ putB 1 ks.length
def keysS (ks : List Int) (s0 : ByteArray) : Nat → ByteArray
  | 0 => s0
  | k + 1 => keysS ks s0 k ++ putB 4 (rd ks (k : Int))
def valsS (vs : List ByteArray) (s0 : ByteArray) : Nat → ByteArray
  | 0 => s0
  | k + 1 => valsS vs s0 k ++ rdOf ByteArray.empty vs (k : Int)
def kidsS (kd : List Int) (s0 : ByteArray) : Nat → ByteArray
  | 0 => s0
  | k + 1 => kidsS kd s0 k ++ putB 1 (rd kd (k : Int))
/-- a node's data -/
def layS (ks : List Int) (vs : List ByteArray) (kd : List Int) : ByteArray := kidsS kd (valsS vs (keysS ks (headS ks kd) ks.length) vs.length) kd.length
theorem keysS_le (ks : List Int) (s0 : ByteArray) : ∀ k, (keysS ks s0 k).size ≤ s0.size + 4 * k
  | 0 => Nat.le_refl _
  | k + 1 => by
    have := keysS_le ks s0 k
    have := putB_le 4 (rd ks (k : Int))
    rw [keysS, ByteArray.size_append]; omega
theorem kidsS_le (ks : List Int) (s0 : ByteArray) : ∀ k, (kidsS ks s0 k).size ≤ s0.size + 4 * k
  | 0 => Nat.le_refl _
  | k + 1 => by
    have := kidsS_le ks s0 k
    have := putB_le 1 (rd ks (k : Int))
    rw [kidsS, ByteArray.size_append]; omega
theorem valsS_le (vs : List ByteArray) (s0 : ByteArray) (h : valsB vs = true) : ∀ k, k ≤ vs.length → (valsS vs s0 k).size ≤ s0.size + 12 * k
  | 0, _ => Nat.le_refl _
  | k + 1, hk => by
    have := valsS_le vs s0 h k (by omega)
    have := of_decide_eq_true (allN_all.1 h k (by omega))
    rw [valsS, ByteArray.size_append]; omega
theorem headS_le (ks kd : List Int) : (headS ks kd).size ≤ 8 := by
  have := putB_le 1 (kindI kd)
  have := putB_le 1 (ks.length : Int)
  unfold headS
  rw [ByteArray.size_append]; omega
structure NodeF (ks : List Int) (vs : List ByteArray) (kd : List Int) : Prop where
  k7 : ks.length ≤ 7
  v7 : vs.length ≤ 7
  d8 : kd.length ≤ 8
  v : valsB vs = true
  d : kidsB kd = true
  r : allN (okK ks) 0 ks.length = true
theorem node_facts {ks : List Int} {vs : List ByteArray} {kd : List Int} (h : nodeB ks vs kd = true) : NodeF ks vs kd := by
  unfold nodeB risB at h
  simp only [Bool.and_eq_true, decide_eq_true_eq] at h
  obtain ⟨⟨hr, h7⟩, h⟩ := h
  by_cases hk : kd.length = 0
  · rw [if_pos hk] at h
    simp only [Bool.and_eq_true, decide_eq_true_eq] at h
    refine ⟨h7, by omega, by omega, h.1, ?_, hr⟩
    unfold kidsB; rw [hk]; rfl
  · rw [if_neg hk] at h
    simp only [Bool.and_eq_true, decide_eq_true_eq] at h
    refine ⟨h7, by omega, by omega, ?_, h.1, hr⟩
    unfold valsB; rw [h.2.1]; rfl
theorem add_run {a b : ByteArray} (h : a.size + b.size ≤ 9223372036854775807) (w : World) : (Op.stringOp .add a b).run Tryd.prog w = .ok (.string (a ++ b)) w := run_string_add_sum _ _ _ h
/-- the variable's cells behind what leaves it -/
theorem box_cells {W W' : World} {v0 v1 v2 : Value} {t : TypeId} (hb : Below (W.alloc (.cells #[v0, v1, v2] t)).heap.size (W.alloc (.cells #[v0, v1, v2] t)) W') : W'.cell? ⟨W.heap.size, 0, none⟩ = some v0 ∧ W'.cell? ⟨W.heap.size, 1, none⟩ = some v1 ∧ W'.cell? ⟨W.heap.size, 2, none⟩ = some v2 := by
  refine ⟨(hb.cell (by simp)).trans (by simp), (hb.cell (by simp)).trans (by simp), (hb.cell (by simp)).trans (by simp)⟩
set_option maxHeartbeats 800000 in
theorem lay_bad (A0 : Option Addr) (ks : List Int) (c0 : Nat) (A1 : Option Addr) (vs : List ByteArray) (c1 : Nat) (A2 : Option Addr) (kd : List Int) (c2 : Nat) (w : World) (h0 : Ints w A0 ks c0) (h1 : Strs w A1 vs c1) (h2 : Ints w A2 kd c2) (hl0 : ks.length ≤ 1000) (hl1 : vs.length ≤ 1000) (hl2 : kd.length ≤ 1000) (hn : nodeB ks vs kd = false) :
    Calls Tryd.prog 16 #[.agg #[.slice A0 ks.length c0, .slice A1 vs.length c1, .slice A2 kd.length c2]] w fun e w' => ∃ v, e = .returned (.tuple #[.string ⟨#[]⟩, v]) ∧ ErrC w.heap.size w' v 1 ∧ Below w.heap.size w w' := by
  have HB0 : Hid (Below w.heap.size w (w.alloc (.cells #[.slice A0 ks.length c0, .slice A1 vs.length c1, .slice A2 kd.length c2] 33))) := Lib.hid ((Below.refl _ _).alloc (Nat.le_refl _) _)
  have HC1 := Lib.hid (right_any A0 ks c0 A1 vs c1 A2 kd c2 _ (h0.below HB0.out) (h1.below HB0.out) (h2.below HB0.out) hl0 hl1 hl2)
  rw [hn] at HC1
  clear h0 h1 h2 hn
  go_enter Tryd.func16, Tryd.ntmps16
  go_wp2_with fail
  refine HC1.out.mono ?_
  rintro e w1 ⟨rfl, hb⟩
  have HB1 := Lib.hid (HB0.out.trans (hb.mono (by simp)))
  clear hb
  go_wp2_with fail
  refine (Tag_err _ 1 _).mono ?_
  rintro e w2 ⟨v, rfl, he, hb⟩
  have HE := Lib.hid he
  have HB2 := Lib.hid (bstep HB1.out hb)
  clear he hb
  go_wp2_with fail
  go_ret2
  exact ⟨v, rfl, HE.out.mono HB1.out.size, HB2.out⟩
set_option maxHeartbeats 2000000 in
theorem lay_ok (A0 : Option Addr) (ks : List Int) (c0 : Nat) (A1 : Option Addr) (vs : List ByteArray) (c1 : Nat) (A2 : Option Addr) (kd : List Int) (c2 : Nat) (w : World) (h0 : Ints w A0 ks c0) (h1 : Strs w A1 vs c1) (h2 : Ints w A2 kd c2) (hl0 : ks.length ≤ 1000) (hl1 : vs.length ≤ 1000) (hl2 : kd.length ≤ 1000) (hn : nodeB ks vs kd = true) :
    Calls Tryd.prog 16 #[.agg #[.slice A0 ks.length c0, .slice A1 vs.length c1, .slice A2 kd.length c2]] w fun e w' => e = .returned (.tuple #[.string (layS ks vs kd), .nilIface]) ∧ Below w.heap.size w w' := by
  have HF := Lib.hid (node_facts hn)
  have H0 := Lib.hid h0
  have H1 := Lib.hid h1
  have H2 := Lib.hid h2
  have HB0 : Hid (Below w.heap.size w (w.alloc (.cells #[.slice A0 ks.length c0, .slice A1 vs.length c1, .slice A2 kd.length c2] 33))) := Lib.hid ((Below.refl _ _).alloc (Nat.le_refl _) _)
  have HC1 := Lib.hid (right_any A0 ks c0 A1 vs c1 A2 kd c2 _ (h0.below HB0.out) (h1.below HB0.out) (h2.below HB0.out) hl0 hl1 hl2)
  rw [hn] at HC1
  clear h0 h1 h2 hn
  have HHd : Hid (headS ks kd = putB 1 (kindI kd) ++ putB 1 ks.length) := Lib.hid rfl
  have HKi : Hid (kindI kd = if kd.length = 0 then 0 else 1) := Lib.hid rfl
  have HLy : Hid (layS ks vs kd = kidsS kd (valsS vs (keysS ks (headS ks kd) ks.length) vs.length) kd.length) := Lib.hid rfl
  have hh8 := headS_le ks kd
  have hpa := putB_le 1 (kindI kd)
  have hpb := putB_le 1 (ks.length : Int)
  have HP1 : Hid (∀ w, Calls Tryd.prog 41 #[.int .i64 1, .int .i64 (kindI kd)] w fun e w' => e = .returned (.string (putB 1 (kindI kd))) ∧ Below w.heap.size w w') := Lib.hid (fun w => Put_any 1 _ w)
  have HP2 : Hid (∀ w, Calls Tryd.prog 41 #[.int .i64 1, .int .i64 (ks.length : Int)] w fun e w' => e = .returned (.string (putB 1 ks.length)) ∧ Below w.heap.size w w') := Lib.hid (fun w => Put_any 1 _ w)
  have hk7 := HF.out.k7
  have hv7 := HF.out.v7
  have hd8 := HF.out.d8
  go_enter Tryd.func16, Tryd.ntmps16
  go_wp2_with fail
  refine HC1.out.mono ?_
  rintro e w1 ⟨rfl, hb⟩
  have HB1 := Lib.hid hb
  have HW1 := Lib.hid (HB0.out.trans (hb.mono (by simp)))
  obtain ⟨x0, x1, x2⟩ := box_cells hb
  clear hb
  have HC2 := Lib.hid (leaf_any A0 ks c0 A1 vs c1 A2 kd c2 w1 (H0.out.below HW1.out) (H1.out.below HW1.out) (H2.out.below HW1.out))
  cases hkb : decide (kd.length = 0)
  · rw [hkb] at HC2
    have hki : kindI kd = 1 := by rw [HKi.out]; have := of_decide_eq_false hkb; first | exact if_pos this | exact if_neg this
    rw [hki] at HP1 HHd hpa
    clear hkb hki HKi
    obtain ⟨p1, hp1⟩ : ∃ q, q = putB 1 1 := ⟨_, rfl⟩
    obtain ⟨p2, hp2⟩ : ∃ q, q = putB 1 (ks.length : Int) := ⟨_, rfl⟩
    rw [← hp1, ← hp2] at HHd
    rw [← hp1] at HP1 hpa
    rw [← hp2] at HP2 hpb
    clear hp1 hp2
    obtain ⟨s0, hs0⟩ : ∃ q, q = headS ks kd := ⟨_, rfl⟩
    rw [← hs0] at HHd HLy hh8
    clear hs0
    have hadd := add_run (a := p1) (b := p2) (by omega)
    rw [← HHd.out] at hadd
    go_wp2_with fail
    refine HC2.out.mono ?_
    rintro e w2 ⟨rfl, hb⟩
    have HB2 := Lib.hid (HB1.out.trans (hb.mono HB1.out.size))
    obtain ⟨x0, x1, x2⟩ := box_cells HB2.out
    clear hb
    go_wp2_with fail
    have HX := Lib.hid (show ∀ w', KF w2 w' → w'.cell? ⟨w.heap.size, 0, none⟩ = some (.slice A0 ks.length c0) ∧ KF w2 w' from fun w' h => ⟨(box_cells (HB2.out.trans (Below.mono h HB2.out.size))).1, h⟩)
    have HY := Lib.hid (show ∀ w', (w'.cell? ⟨w.heap.size, 0, none⟩ = some (.slice A0 ks.length c0) ∧ KF w2 w') → KF w2 w' from fun w' h => h.2)
    go_region_held3 (fun w' => w'.cell? ⟨w.heap.size, 0, none⟩ = some (.slice A0 ks.length c0) ∧ KF w2 w') ((refine HX.out _ ?_; first | assumption | exact Below.drew (Below.refl _ _))) (first | (go_at_call 41; (with_reducible refine (HP1.out _).mono ?_); rintro e wn ⟨rfl, hb⟩; have hKK := KF.step (HY.out _ (by assumption)) hb; clear hb) | (go_at_call 41; (with_reducible refine (HP2.out _).mono ?_); rintro e wn ⟨rfl, hb⟩; have hKK := KF.step (HY.out _ (by assumption)) hb; clear hb))
    have HB3 := Lib.hid (HB2.out.trans (hKK.mono HB2.out.size))
    clear hKK
    obtain ⟨x0, x1, x2⟩ := box_cells HB3.out
    go_wp2_with fail
    go_loopw [5, 29] (fun s i wr => ∃ k : Nat, k ≤ ks.length ∧ i = .int .i64 k ∧ s = .string (keysS ks s0 k) ∧ Hid (Below (w.alloc (.cells #[.slice A0 ks.length c0, .slice A1 vs.length c1, .slice A2 kd.length c2] 33)).heap.size (w.alloc (.cells #[.slice A0 ks.length c0, .slice A1 vs.length c1, .slice A2 kd.length c2] 33)) wr)) (fun _ i _ => ks.length - (intOf i).toNat)
    case atStart => exact ⟨0, Nat.zero_le _, rfl, rfl, HB3⟩
    case round =>
      obtain ⟨k, hk, rfl, rfl, HBr⟩ := hrel
      by_cases hlt : k < ks.length
      · have hltz : (k : Int) < (ks.length : Int) := by omega
        obtain ⟨b, o, rfl, hc⟩ := (H0.out.below (HB0.out.trans (HBr.out.mono (by simp)))).at (by omega)
        have cc := hc k hlt
        have hs := keysS_le ks s0 k
        have hpz := putB_le 4 (rd ks (k : Int))
        have HSt : Hid (keysS ks s0 (k + 1) = keysS ks s0 k ++ putB 4 (rd ks (k : Int))) := Lib.hid rfl
        obtain ⟨x, hx⟩ : ∃ q, q = rd ks (k : Int) := ⟨_, rfl⟩
        rw [← hx] at cc HSt hpz
        obtain ⟨t, ht⟩ : ∃ q, q = keysS ks s0 k := ⟨_, rfl⟩
        rw [← ht] at HSt hs ⊢
        have HPx : Hid (∀ w, Calls Tryd.prog 41 #[.int .i64 4, .int .i64 x] w fun e w' => e = .returned (.string (putB 4 x)) ∧ Below w.heap.size w w') := Lib.hid (fun w => Put_any 4 _ w)
        obtain ⟨p, hp⟩ : ∃ q, q = putB 4 x := ⟨_, rfl⟩
        rw [← hp] at HPx hpz HSt
        clear hp
        have hadd := add_run (a := t) (b := p) (by omega)
        clear hx ht hc
        go_wp2_with fail
        refine (HPx.out _).mono ?_
        rintro e wn ⟨rfl, hb⟩
        have HBr2 := Lib.hid (HBr.out.trans (hb.mono HBr.out.size))
        clear hb
        go_wp2_with fail
        go_roundw
        case rel => exact ⟨k + 1, by omega, by go_num, by rw [HSt.out], HBr2⟩
        case measure => simp [intOf]; omega
      · have hltb : ¬ (k : Int) < (ks.length : Int) := by omega
        obtain rfl : k = ks.length := by omega
        have hz_s1 := keysS_le ks s0 ks.length
        obtain ⟨s1, hs1⟩ : ∃ q, q = keysS ks s0 ks.length := ⟨_, rfl⟩
        rw [← hs1] at HLy hz_s1 ⊢
        have HBo_s1 := HBr
        clear hs1 hltb hlt hk HBr x0 x1 x2
        obtain ⟨x0, x1, x2⟩ := box_cells HBo_s1.out
        go_wp2_with fail
        go_loopw [5, 41] (fun s i wr => ∃ k : Nat, k ≤ vs.length ∧ i = .int .i64 k ∧ s = .string (valsS vs s1 k) ∧ Hid (Below (w.alloc (.cells #[.slice A0 ks.length c0, .slice A1 vs.length c1, .slice A2 kd.length c2] 33)).heap.size (w.alloc (.cells #[.slice A0 ks.length c0, .slice A1 vs.length c1, .slice A2 kd.length c2] 33)) wr)) (fun _ i _ => vs.length - (intOf i).toNat)
        case atStart => exact ⟨0, Nat.zero_le _, rfl, rfl, HBo_s1⟩
        case round =>
          obtain ⟨k, hk, rfl, rfl, HBr⟩ := hrel
          by_cases hlt : k < vs.length
          · have hltz : (k : Int) < (vs.length : Int) := by omega
            obtain ⟨b, o, rfl, hc⟩ := (H1.out.below (HB0.out.trans (HBr.out.mono (by simp)))).at (by omega)
            have cc := hc k hlt
            have hs := valsS_le vs s1 HF.out.v k (by omega)
            have hvz := of_decide_eq_true (allN_all.1 HF.out.v k hlt)
            have HSt : Hid (valsS vs s1 (k + 1) = valsS vs s1 k ++ rdOf ByteArray.empty vs (k : Int)) := Lib.hid rfl
            obtain ⟨x, hx⟩ : ∃ q, q = rdOf ByteArray.empty vs (k : Int) := ⟨_, rfl⟩
            rw [← hx] at cc HSt hvz
            obtain ⟨t, ht⟩ : ∃ q, q = valsS vs s1 k := ⟨_, rfl⟩
            rw [← ht] at HSt hs ⊢
            have hadd := add_run (a := t) (b := x) (by omega)
            clear hx ht hc
            go_wp2_with fail
            have HBr2 := HBr
            go_roundw
            case rel => exact ⟨k + 1, by omega, by go_num, by rw [HSt.out], HBr2⟩
            case measure => simp [intOf]; omega
          · have hltb : ¬ (k : Int) < (vs.length : Int) := by omega
            obtain rfl : k = vs.length := by omega
            have hz_s2 := valsS_le vs s1 HF.out.v vs.length (Nat.le_refl _)
            obtain ⟨s2, hs2⟩ : ∃ q, q = valsS vs s1 vs.length := ⟨_, rfl⟩
            rw [← hs2] at HLy hz_s2 ⊢
            have HBo_s2 := HBr
            clear hs2 hltb hlt hk HBr x0 x1 x2
            obtain ⟨x0, x1, x2⟩ := box_cells HBo_s2.out
            go_wp2_with fail
            go_loopw [5, 52] (fun s i wr => ∃ k : Nat, k ≤ kd.length ∧ i = .int .i64 k ∧ s = .string (kidsS kd s2 k) ∧ Hid (Below (w.alloc (.cells #[.slice A0 ks.length c0, .slice A1 vs.length c1, .slice A2 kd.length c2] 33)).heap.size (w.alloc (.cells #[.slice A0 ks.length c0, .slice A1 vs.length c1, .slice A2 kd.length c2] 33)) wr)) (fun _ i _ => kd.length - (intOf i).toNat)
            case atStart => exact ⟨0, Nat.zero_le _, rfl, rfl, HBo_s2⟩
            case round =>
              obtain ⟨k, hk, rfl, rfl, HBr⟩ := hrel
              by_cases hlt : k < kd.length
              · have hltz : (k : Int) < (kd.length : Int) := by omega
                obtain ⟨b, o, rfl, hc⟩ := (H2.out.below (HB0.out.trans (HBr.out.mono (by simp)))).at (by omega)
                have cc := hc k hlt
                have hs := kidsS_le kd s2 k
                have hpz := putB_le 1 (rd kd (k : Int))
                have HSt : Hid (kidsS kd s2 (k + 1) = kidsS kd s2 k ++ putB 1 (rd kd (k : Int))) := Lib.hid rfl
                obtain ⟨x, hx⟩ : ∃ q, q = rd kd (k : Int) := ⟨_, rfl⟩
                rw [← hx] at cc HSt hpz
                obtain ⟨t, ht⟩ : ∃ q, q = kidsS kd s2 k := ⟨_, rfl⟩
                rw [← ht] at HSt hs ⊢
                have HPx : Hid (∀ w, Calls Tryd.prog 41 #[.int .i64 1, .int .i64 x] w fun e w' => e = .returned (.string (putB 1 x)) ∧ Below w.heap.size w w') := Lib.hid (fun w => Put_any 1 _ w)
                obtain ⟨p, hp⟩ : ∃ q, q = putB 1 x := ⟨_, rfl⟩
                rw [← hp] at HPx hpz HSt
                clear hp
                have hadd := add_run (a := t) (b := p) (by omega)
                clear hx ht hc
                go_wp2_with fail
                refine (HPx.out _).mono ?_
                rintro e wn ⟨rfl, hb⟩
                have HBr2 := Lib.hid (HBr.out.trans (hb.mono HBr.out.size))
                clear hb
                go_wp2_with fail
                go_roundw
                case rel => exact ⟨k + 1, by omega, by go_num, by rw [HSt.out], HBr2⟩
                case measure => simp [intOf]; omega
              · have hltb : ¬ (k : Int) < (kd.length : Int) := by omega
                obtain rfl : k = kd.length := by omega
                have hz_s3 := kidsS_le kd s2 kd.length
                obtain ⟨s3, hs3⟩ : ∃ q, q = kidsS kd s2 kd.length := ⟨_, rfl⟩
                rw [← hs3] at HLy hz_s3 ⊢
                have HBo_s3 := HBr
                clear hs3 hltb hlt hk HBr x0 x1 x2
                go_wp2_with fail
                go_ret2
                exact ⟨by rw [HLy.out]; rfl, HB0.out.trans (HBo_s3.out.mono (by simp))⟩
  · rw [hkb] at HC2
    have hki : kindI kd = 0 := by rw [HKi.out]; have := of_decide_eq_true hkb; first | exact if_pos this | exact if_neg this
    rw [hki] at HP1 HHd hpa
    clear hkb hki HKi
    obtain ⟨p1, hp1⟩ : ∃ q, q = putB 1 0 := ⟨_, rfl⟩
    obtain ⟨p2, hp2⟩ : ∃ q, q = putB 1 (ks.length : Int) := ⟨_, rfl⟩
    rw [← hp1, ← hp2] at HHd
    rw [← hp1] at HP1 hpa
    rw [← hp2] at HP2 hpb
    clear hp1 hp2
    obtain ⟨s0, hs0⟩ : ∃ q, q = headS ks kd := ⟨_, rfl⟩
    rw [← hs0] at HHd HLy hh8
    clear hs0
    have hadd := add_run (a := p1) (b := p2) (by omega)
    rw [← HHd.out] at hadd
    go_wp2_with fail
    refine HC2.out.mono ?_
    rintro e w2 ⟨rfl, hb⟩
    have HB2 := Lib.hid (HB1.out.trans (hb.mono HB1.out.size))
    obtain ⟨x0, x1, x2⟩ := box_cells HB2.out
    clear hb
    go_wp2_with fail
    have HX := Lib.hid (show ∀ w', KF w2 w' → w'.cell? ⟨w.heap.size, 0, none⟩ = some (.slice A0 ks.length c0) ∧ KF w2 w' from fun w' h => ⟨(box_cells (HB2.out.trans (Below.mono h HB2.out.size))).1, h⟩)
    have HY := Lib.hid (show ∀ w', (w'.cell? ⟨w.heap.size, 0, none⟩ = some (.slice A0 ks.length c0) ∧ KF w2 w') → KF w2 w' from fun w' h => h.2)
    go_region_held3 (fun w' => w'.cell? ⟨w.heap.size, 0, none⟩ = some (.slice A0 ks.length c0) ∧ KF w2 w') ((refine HX.out _ ?_; first | assumption | exact Below.drew (Below.refl _ _))) (first | (go_at_call 41; (with_reducible refine (HP1.out _).mono ?_); rintro e wn ⟨rfl, hb⟩; have hKK := KF.step (HY.out _ (by assumption)) hb; clear hb) | (go_at_call 41; (with_reducible refine (HP2.out _).mono ?_); rintro e wn ⟨rfl, hb⟩; have hKK := KF.step (HY.out _ (by assumption)) hb; clear hb))
    have HB3 := Lib.hid (HB2.out.trans (hKK.mono HB2.out.size))
    clear hKK
    obtain ⟨x0, x1, x2⟩ := box_cells HB3.out
    go_wp2_with fail
    go_loopw [5, 29] (fun s i wr => ∃ k : Nat, k ≤ ks.length ∧ i = .int .i64 k ∧ s = .string (keysS ks s0 k) ∧ Hid (Below (w.alloc (.cells #[.slice A0 ks.length c0, .slice A1 vs.length c1, .slice A2 kd.length c2] 33)).heap.size (w.alloc (.cells #[.slice A0 ks.length c0, .slice A1 vs.length c1, .slice A2 kd.length c2] 33)) wr)) (fun _ i _ => ks.length - (intOf i).toNat)
    case atStart => exact ⟨0, Nat.zero_le _, rfl, rfl, HB3⟩
    case round =>
      obtain ⟨k, hk, rfl, rfl, HBr⟩ := hrel
      by_cases hlt : k < ks.length
      · have hltz : (k : Int) < (ks.length : Int) := by omega
        obtain ⟨b, o, rfl, hc⟩ := (H0.out.below (HB0.out.trans (HBr.out.mono (by simp)))).at (by omega)
        have cc := hc k hlt
        have hs := keysS_le ks s0 k
        have hpz := putB_le 4 (rd ks (k : Int))
        have HSt : Hid (keysS ks s0 (k + 1) = keysS ks s0 k ++ putB 4 (rd ks (k : Int))) := Lib.hid rfl
        obtain ⟨x, hx⟩ : ∃ q, q = rd ks (k : Int) := ⟨_, rfl⟩
        rw [← hx] at cc HSt hpz
        obtain ⟨t, ht⟩ : ∃ q, q = keysS ks s0 k := ⟨_, rfl⟩
        rw [← ht] at HSt hs ⊢
        have HPx : Hid (∀ w, Calls Tryd.prog 41 #[.int .i64 4, .int .i64 x] w fun e w' => e = .returned (.string (putB 4 x)) ∧ Below w.heap.size w w') := Lib.hid (fun w => Put_any 4 _ w)
        obtain ⟨p, hp⟩ : ∃ q, q = putB 4 x := ⟨_, rfl⟩
        rw [← hp] at HPx hpz HSt
        clear hp
        have hadd := add_run (a := t) (b := p) (by omega)
        clear hx ht hc
        go_wp2_with fail
        refine (HPx.out _).mono ?_
        rintro e wn ⟨rfl, hb⟩
        have HBr2 := Lib.hid (HBr.out.trans (hb.mono HBr.out.size))
        clear hb
        go_wp2_with fail
        go_roundw
        case rel => exact ⟨k + 1, by omega, by go_num, by rw [HSt.out], HBr2⟩
        case measure => simp [intOf]; omega
      · have hltb : ¬ (k : Int) < (ks.length : Int) := by omega
        obtain rfl : k = ks.length := by omega
        have hz_s1 := keysS_le ks s0 ks.length
        obtain ⟨s1, hs1⟩ : ∃ q, q = keysS ks s0 ks.length := ⟨_, rfl⟩
        rw [← hs1] at HLy hz_s1 ⊢
        have HBo_s1 := HBr
        clear hs1 hltb hlt hk HBr x0 x1 x2
        obtain ⟨x0, x1, x2⟩ := box_cells HBo_s1.out
        go_wp2_with fail
        go_loopw [5, 41] (fun s i wr => ∃ k : Nat, k ≤ vs.length ∧ i = .int .i64 k ∧ s = .string (valsS vs s1 k) ∧ Hid (Below (w.alloc (.cells #[.slice A0 ks.length c0, .slice A1 vs.length c1, .slice A2 kd.length c2] 33)).heap.size (w.alloc (.cells #[.slice A0 ks.length c0, .slice A1 vs.length c1, .slice A2 kd.length c2] 33)) wr)) (fun _ i _ => vs.length - (intOf i).toNat)
        case atStart => exact ⟨0, Nat.zero_le _, rfl, rfl, HBo_s1⟩
        case round =>
          obtain ⟨k, hk, rfl, rfl, HBr⟩ := hrel
          by_cases hlt : k < vs.length
          · have hltz : (k : Int) < (vs.length : Int) := by omega
            obtain ⟨b, o, rfl, hc⟩ := (H1.out.below (HB0.out.trans (HBr.out.mono (by simp)))).at (by omega)
            have cc := hc k hlt
            have hs := valsS_le vs s1 HF.out.v k (by omega)
            have hvz := of_decide_eq_true (allN_all.1 HF.out.v k hlt)
            have HSt : Hid (valsS vs s1 (k + 1) = valsS vs s1 k ++ rdOf ByteArray.empty vs (k : Int)) := Lib.hid rfl
            obtain ⟨x, hx⟩ : ∃ q, q = rdOf ByteArray.empty vs (k : Int) := ⟨_, rfl⟩
            rw [← hx] at cc HSt hvz
            obtain ⟨t, ht⟩ : ∃ q, q = valsS vs s1 k := ⟨_, rfl⟩
            rw [← ht] at HSt hs ⊢
            have hadd := add_run (a := t) (b := x) (by omega)
            clear hx ht hc
            go_wp2_with fail
            have HBr2 := HBr
            go_roundw
            case rel => exact ⟨k + 1, by omega, by go_num, by rw [HSt.out], HBr2⟩
            case measure => simp [intOf]; omega
          · have hltb : ¬ (k : Int) < (vs.length : Int) := by omega
            obtain rfl : k = vs.length := by omega
            have hz_s2 := valsS_le vs s1 HF.out.v vs.length (Nat.le_refl _)
            obtain ⟨s2, hs2⟩ : ∃ q, q = valsS vs s1 vs.length := ⟨_, rfl⟩
            rw [← hs2] at HLy hz_s2 ⊢
            have HBo_s2 := HBr
            clear hs2 hltb hlt hk HBr x0 x1 x2
            obtain ⟨x0, x1, x2⟩ := box_cells HBo_s2.out
            go_wp2_with fail
            go_loopw [5, 52] (fun s i wr => ∃ k : Nat, k ≤ kd.length ∧ i = .int .i64 k ∧ s = .string (kidsS kd s2 k) ∧ Hid (Below (w.alloc (.cells #[.slice A0 ks.length c0, .slice A1 vs.length c1, .slice A2 kd.length c2] 33)).heap.size (w.alloc (.cells #[.slice A0 ks.length c0, .slice A1 vs.length c1, .slice A2 kd.length c2] 33)) wr)) (fun _ i _ => kd.length - (intOf i).toNat)
            case atStart => exact ⟨0, Nat.zero_le _, rfl, rfl, HBo_s2⟩
            case round =>
              obtain ⟨k, hk, rfl, rfl, HBr⟩ := hrel
              by_cases hlt : k < kd.length
              · have hltz : (k : Int) < (kd.length : Int) := by omega
                obtain ⟨b, o, rfl, hc⟩ := (H2.out.below (HB0.out.trans (HBr.out.mono (by simp)))).at (by omega)
                have cc := hc k hlt
                have hs := kidsS_le kd s2 k
                have hpz := putB_le 1 (rd kd (k : Int))
                have HSt : Hid (kidsS kd s2 (k + 1) = kidsS kd s2 k ++ putB 1 (rd kd (k : Int))) := Lib.hid rfl
                obtain ⟨x, hx⟩ : ∃ q, q = rd kd (k : Int) := ⟨_, rfl⟩
                rw [← hx] at cc HSt hpz
                obtain ⟨t, ht⟩ : ∃ q, q = kidsS kd s2 k := ⟨_, rfl⟩
                rw [← ht] at HSt hs ⊢
                have HPx : Hid (∀ w, Calls Tryd.prog 41 #[.int .i64 1, .int .i64 x] w fun e w' => e = .returned (.string (putB 1 x)) ∧ Below w.heap.size w w') := Lib.hid (fun w => Put_any 1 _ w)
                obtain ⟨p, hp⟩ : ∃ q, q = putB 1 x := ⟨_, rfl⟩
                rw [← hp] at HPx hpz HSt
                clear hp
                have hadd := add_run (a := t) (b := p) (by omega)
                clear hx ht hc
                go_wp2_with fail
                refine (HPx.out _).mono ?_
                rintro e wn ⟨rfl, hb⟩
                have HBr2 := Lib.hid (HBr.out.trans (hb.mono HBr.out.size))
                clear hb
                go_wp2_with fail
                go_roundw
                case rel => exact ⟨k + 1, by omega, by go_num, by rw [HSt.out], HBr2⟩
                case measure => simp [intOf]; omega
              · have hltb : ¬ (k : Int) < (kd.length : Int) := by omega
                obtain rfl : k = kd.length := by omega
                have hz_s3 := kidsS_le kd s2 kd.length
                obtain ⟨s3, hs3⟩ : ∃ q, q = kidsS kd s2 kd.length := ⟨_, rfl⟩
                rw [← hs3] at HLy hz_s3 ⊢
                have HBo_s3 := HBr
                clear hs3 hltb hlt hk HBr x0 x1 x2
                go_wp2_with fail
                go_ret2
                exact ⟨by rw [HLy.out]; rfl, HB0.out.trans (HBo_s3.out.mono (by simp))⟩
end Go.Proofs.YtbiijkpffllimaaDoor
