/- Nodes in memory; node.kids by its contract. -/
import Derived.Test.YtbiijkpffllimaaDoorNodeSPNodeUnlike
import Derived.Test.YtbiijkpffllimaaDoorErrC
import Derived.Maps.Own
import Derived.MapViews
import Derived.Maps.Views
import Derived.OwnWalk
import Derived.IntWalk
import Derived.Outline
namespace Go.Proofs.YtbiijkpffllimaaDoor
open Go.RowKit Go.Extern.Stop Go.Stop Go.Extern Go.Maps Go.Proofs.YtbiijkpffllimaaDoorW.PrintWords Go.Proofs.YtbiijkpffllimaaDoorW.PrintLast Go.Proofs.YtbiijkpffllimaaDoorW.PrintMore Go.Proofs.YtbiijkpffllimaaDoor.PNodeUnlike
set_option linter.unusedVariables false
set_option linter.unusedSimpArgs false

/-- a slice of ints that reads as l -/
def Ints (w : World) (A : Option Addr) (l : List Int) (c : Nat) : Prop := (Kd.int .i64).C w A l.length l ∧ l.length ≤ c
/-- a slice of strings that reads as l -/
def Strs (w : World) (A : Option Addr) (l : List ByteArray) (c : Nat) : Prop := Kd.string.C w A l.length l ∧ l.length ≤ c
theorem Ints.below {w w' : World} {A : Option Addr} {l : List Int} {c : Nat} (h : Ints w A l c) (hb : Below w.heap.size w w') : Ints w' A l c := ⟨Kd.C_below h.1 hb, h.2⟩
theorem Strs.below {w w' : World} {A : Option Addr} {l : List ByteArray} {c : Nat} (h : Strs w A l c) (hb : Below w.heap.size w w') : Strs w' A l c := ⟨Kd.C_below h.1 hb, h.2⟩
theorem Ints.at {w : World} {A : Option Addr} {l : List Int} {c : Nat} (h : Ints w A l c) (hl : 0 < l.length) : ∃ b o, A = some ⟨b, o, none⟩ ∧ ∀ j, j < l.length → w.cell? ⟨b, o + j, none⟩ = some (.int .i64 (rd l j)) := by
  obtain ⟨ad, rfl, h0⟩ := Kd.at_int h.1 0 (by omega) (by omega)
  obtain ⟨b, o, spot⟩ := ad
  have hspot : spot = none := by simpa [Addr.add] using World.cell?_spot h0
  subst hspot
  refine ⟨b, o, rfl, fun j hj => ?_⟩
  obtain ⟨ad, e, hj⟩ := Kd.at_int h.1 (j : Int) (by omega) (by omega)
  obtain rfl := Option.some.inj e
  rw [Go.WideShapes.add_plain, Int.toNat_natCast] at hj
  exact hj
theorem Strs.at {w : World} {A : Option Addr} {l : List ByteArray} {c : Nat} (h : Strs w A l c) (hl : 0 < l.length) : ∃ b o, A = some ⟨b, o, none⟩ ∧ ∀ j, j < l.length → w.cell? ⟨b, o + j, none⟩ = some (.string (rdOf ByteArray.empty l j)) := by
  obtain ⟨ad, rfl, h0⟩ := Kd.at_string h.1 0 (by omega) (by omega)
  obtain ⟨b, o, spot⟩ := ad
  have hspot : spot = none := by simpa [Addr.add] using World.cell?_spot h0
  subst hspot
  refine ⟨b, o, rfl, fun j hj => ?_⟩
  obtain ⟨ad, e, hj⟩ := Kd.at_string h.1 (j : Int) (by omega) (by omega)
  obtain rfl := Option.some.inj e
  rw [Go.WideShapes.add_plain, Int.toNat_natCast] at hj
  exact hj
/-! ### node.kids -/
theorem lookup_bool {H : Type} {P : Program} {w : World} {k e t : TypeId} {b n : Nat} {D : DataW H} (h : w.ownsMap P k (plainElem P e) b n D) (K : Keyed P k) (ht : P.underlying t = some (.map k e)) (he : P.underlying e = some .bool) (hz : (zeroValue e).run P w = .ok (.bool false) w)
    {key : Value} {kl : Lit} (hkey : keyOf P k key = some kl) : ∃ c, (Instr.lookup t (.map (some b)) key false).run P w = .ok (.bool c) w ∧ D.atKey kl (.lit (.bool false)) = .lit (.bool c) := by
  obtain ⟨v, ps, hrun, hv⟩ := h.lookup K ht hz (plainElem_bool he false) hkey
  unfold plainElem at hv
  rw [he] at hv
  cases v <;> simp at hv
  exact ⟨_, hrun, hv.1.symm⟩
theorem key_int : Keyed Tryd.prog 3 := int_keyed Tryd.underlying3
theorem zero_bool (w : World) : (zeroValue 4).run Tryd.prog w = .ok (.bool false) w := by kernel_rfl
/-- the map of what was met in the first k -/
def Met (kd : List Int) (k : Nat) (D : DataW Unit) : Prop := Maps.IsMap D ∧ ∀ x : Int, D.atKey (.int .i64 x) (.lit (.bool false)) = .lit (.bool (decide (x ∈ kd.take k)))
theorem met_zero (kd : List Int) : Met kd 0 (.map []) := ⟨⟨_, rfl⟩, fun x => by simp; rfl⟩
theorem met_step {kd : List Int} {k : Nat} {D : DataW Unit} (h : Met kd k D) (hk : k < kd.length) : Met kd (k + 1) (D.put (.int .i64 (rd kd (k : Int))) (.lit (.bool true))) := by
  refine ⟨?_, fun x => ?_⟩
  · obtain ⟨es, rfl⟩ := h.1
    rw [DataW.put_eq]; exact ⟨_, rfl⟩
  rw [List.take_succ_eq_append_getElem hk, ← rd_at kd k hk]
  by_cases e : x = rd kd (k : Int)
  · subst e
    rw [atKey_put_same h.1 (by trivial)]
    simp
  · rw [atKey_put_other (by intro h; injection h with _ h; exact e h), h.2]
    simp [e]
theorem fresh_iff {kd : List Int} {i : Nat} (hi : i < kd.length) : allN (freshK kd i) 0 i = !decide (rd kd (i : Int) ∈ kd.take i) := by
  rw [Bool.eq_iff_iff, allN_all, Bool.not_eq_true', decide_eq_false_iff_not]
  constructor
  · intro h hm
    obtain ⟨j, hj, e⟩ := List.mem_iff_getElem.1 hm
    rw [List.length_take] at hj
    have := of_decide_eq_true (h j (by omega))
    rw [rd_at kd j (by omega)] at this
    rw [List.getElem_take] at e
    exact this e
  · intro h j hj
    refine decide_eq_true fun e => h ?_
    rw [← e, rd_at kd j (by omega)]
    exact List.mem_iff_getElem.2 ⟨j, by rw [List.length_take]; omega, List.getElem_take⟩
theorem kids_step {kd : List Int} {k : Nat} (hk : k < kd.length) (h : allN (kidK kd) 0 k = true) : kidsB kd = (kidK kd k && allN (kidK kd) (k + 1) (kd.length - (k + 1))) := by
  unfold kidsB
  rw [Bool.eq_iff_iff, Bool.and_eq_true, allN_iff, allN_iff]
  rw [allN_iff] at h
  constructor
  · intro hh; exact ⟨hh k (by omega) (by omega), fun j h1 h2 => hh j (by omega) (by omega)⟩
  · intro ⟨h1, h2⟩ j h3 h4
    rcases Nat.lt_trichotomy j k with hj | rfl | hj
    · exact h j (by omega) (by omega)
    · exact h1
    · exact h2 j (by omega) (by omega)
theorem kids_bad {kd : List Int} {k : Nat} (hk : k < kd.length) (h : kidK kd k = false) : kidsB kd = false := by
  cases e : kidsB kd with
  | false => rfl
  | true =>
    have := allN_all.1 e k hk
    rw [h] at this; cases this
theorem allN_snoc {p : Nat → Bool} {k : Nat} (h : allN p 0 k = true) (hk : p k = true) : allN p 0 (k + 1) = true := by
  rw [allN_all] at h ⊢
  intro j hj
  rcases Nat.lt_or_ge j k with h1 | h1
  · exact h j h1
  · obtain rfl : j = k := by omega
    exact hk
theorem kids_none (A : Option Addr) (c : Nat) (w : World) : Calls Tryd.prog 47 #[.slice A 0 c] w fun e w' => e = .returned (.bool true) ∧ Below w.heap.size w w' := by
  have hmm := @run_makeMap Tryd.prog
  go_enter Tryd.func47, Tryd.ntmps47
  go_wp2
  refine wp_loop_rounds 1 ?_
  rw [rounds_succ]
  go_wp2
  go_ret
  exact ⟨rfl, (Below.refl _ _).alloc (Nat.le_refl _) _⟩
set_option maxHeartbeats 1000000 in
theorem kids_some (b o : Nat) (kd : List Int) (c : Nat) (w : World) (hl : kd.length ≤ 1000) (hc : ∀ j, j < kd.length → w.cell? ⟨b, o + j, none⟩ = some (.int .i64 (rd kd j))) :
    Calls Tryd.prog 47 #[.slice (some ⟨b, o, none⟩) kd.length c] w fun e w' => e = .returned (.bool (kidsB kd)) ∧ Below w.heap.size w w' := by
  have hmm := @run_makeMap Tryd.prog
  have HC := Lib.hid hc
  clear hc
  go_enter Tryd.func47, Tryd.ntmps47
  go_wp2
  go_loopw [9] (fun i wr => ∃ k : Nat, k ≤ kd.length ∧ i = .int .i64 k ∧ Hid (allN (kidK kd) 0 k = true) ∧ (∃ D, Hid (wr.ownsMap Tryd.prog 3 (plainElem Tryd.prog 4) w.heap.size k D) ∧ Hid (Met kd k D)) ∧ Hid (Below w.heap.size w wr)) (fun i _ => kd.length - (intOf i).toNat)
  case atStart => exact ⟨0, Nat.zero_le _, rfl, Lib.hid rfl, ⟨_, Lib.hid (World.ownsMap_made _ _ _ _), Lib.hid (met_zero kd)⟩, Lib.hid ((Below.refl _ _).alloc (Nat.le_refl _) _)⟩
  case round =>
    obtain ⟨k, hk, rfl, HA, ⟨D, HO, HM⟩, HB⟩ := hrel
    by_cases hlt : k < kd.length
    · have hltz : (k : Int) < (kd.length : Int) := by omega
      have x1 : wr.cell? ⟨b, o + k, none⟩ = some (.int .i64 (rd kd k)) := (HB.out.cell (cell_lt (HC.out k hlt))).trans (HC.out k hlt)
      have HF := Lib.hid (fresh_iff hlt)
      have HME := Lib.hid (HM.out.2 (rd kd k))
      have HST := Lib.hid (met_step HM.out hlt)
      have HKK : Hid (kidK kd k = (decide (2 ≤ rd kd (k : Int) ∧ rd kd (k : Int) ≤ 239) && allN (freshK kd k) 0 k)) := Lib.hid rfl
      have HBad := Lib.hid (kids_bad (kd := kd) hlt)
      have HSn := Lib.hid (allN_snoc HA.out)
      obtain ⟨x, hx⟩ : ∃ q, q = rd kd (k : Int) := ⟨_, rfl⟩
      rw [← hx] at x1 HME HST HKK HF
      clear hx
      by_cases h2 : x < 2
      · have hb2 : decide (x < 2) = true := by simpa using h2
        have hv := Lib.hid (HBad.out (by rw [HKK.out, decide_eq_false (by omega), Bool.false_and]))
        go_wp2
        go_ret
        rw [hv.out]
        exact ⟨rfl, HB.out⟩
      · have hb2 : decide (x < 2) = false := by simpa using h2
        by_cases h3 : x < 240
        · have hb3 : decide (240 ≤ x) = false := by simp; omega
          have hwf : (Lit.int .i64 x).wf = true := by simp [Lit.wf, IntKind.min, IntKind.max, IntKind.signed, IntKind.bits]; omega
          have hkey : keyOf Tryd.prog 3 (.int .i64 x) = some (.int .i64 x) := keyOf_int_mk Tryd.underlying3 hwf
          obtain ⟨v, hrun, hat⟩ := lookup_bool HO.out key_int Tryd.underlying117 Tryd.underlying4 (zero_bool _) hkey
          rw [HME.out] at hat
          have hv : v = decide (x ∈ kd.take k) := by simp only [DataW.lit.injEq, Lit.bool.injEq] at hat; exact hat.symm
          cases v with
          | true =>
            have hv2 := Lib.hid (HBad.out (by rw [HKK.out, HF.out, ← hv]; simp))
            clear hat hv hkey hwf
            go_wp2
            go_ret
            rw [hv2.out]
            exact ⟨rfl, HB.out⟩
          | false =>
            have hv2 := Lib.hid (HSn.out (by rw [HKK.out, HF.out, ← hv, decide_eq_true (by omega)]; rfl))
            have HKey := Lib.hid hkey
            clear hat hv hkey hwf
            go_wp2_with (at_mapUpdate; refine wpList_mapUpdate_own _ rfl _ _ _ 117 rfl 3 4 key_int Tryd.underlying117 _ w.heap.size k _ rfl HO.out (by unfold maxLen; omega) _ _ _ rfl rfl HKey.out _ [] (plainElem_bool Tryd.underlying4 true) ?_; intro w1 hown1 hgrow1; have HO1 := Lib.hid hown1; have HB1 := Lib.hid (HB.out.grown hgrow1 HB.out.size (fun j hj => by cases hj; exact Nat.le_refl _)); clear hown1 hgrow1)
            go_roundw
            case rel => exact ⟨k + 1, by omega, by go_num, hv2, ⟨_, HO1, HST⟩, HB1⟩
            case measure => simp [intOf]; omega
        · have hb3 : decide (240 ≤ x) = true := by simp; omega
          have hv := Lib.hid (HBad.out (by rw [HKK.out, decide_eq_false (by omega), Bool.false_and]))
          go_wp2
          go_ret
          rw [hv.out]
          exact ⟨rfl, HB.out⟩
    · have hltb : ¬ (k : Int) < (kd.length : Int) := by omega
      have hkl : k = kd.length := by omega
      have HA' : Hid (kidsB kd = true) := Lib.hid (by unfold kidsB; rw [← hkl]; exact HA.out)
      clear hkl
      go_wp2
      go_ret
      rw [HA'.out]
      exact ⟨rfl, HB.out⟩
theorem kids_any (A : Option Addr) (kd : List Int) (c : Nat) (w : World) (h : Ints w A kd c) (hl : kd.length ≤ 1000) :
    Calls Tryd.prog 47 #[.slice A kd.length c] w fun e w' => e = .returned (.bool (kidsB kd)) ∧ Below w.heap.size w w' := by
  by_cases h0 : kd.length = 0
  · obtain rfl := List.eq_nil_of_length_eq_zero h0
    exact kids_none A c w
  · obtain ⟨b, o, rfl, hc⟩ := h.at (by omega)
    exact kids_some b o kd c w hl hc
end Go.Proofs.YtbiijkpffllimaaDoor
