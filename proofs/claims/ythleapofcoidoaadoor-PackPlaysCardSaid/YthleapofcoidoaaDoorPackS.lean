/- PackPlays: the walk. -/
import Derived.Test.YthleapofcoidoaaDoorPackR
import Derived.Test.YthleapofcoidoaaDoorPackC
import Derived.Deep.RegionHeld3
import Derived.Deep.DeepCutAuto
import Derived.Deep.QuietTactic
import Derived.BigQuiet
namespace Go.Proofs.YthleapofcoidoaaDoor
open Go.RowKit Go.Extern.Stop Go.Stop Go.Extern Go.Proofs.YthleapofcoidoaaDoorW.PrintWords Go.Proofs.YthleapofcoidoaaDoorW.PrintLast Go.Proofs.YthleapofcoidoaaDoorW.PrintMore Go.Proofs.YthleapofcoidoaaDoor.PPackPlays
set_option linter.unusedVariables false
set_option linter.unusedSimpArgs false

theorem rFits_any (w n : Int) (b : Bool) (hb : fitsB w n = b) (hn : n ≤ 9223372036854775807) (W : World) : Calls Tryd.prog 31 #[.int .i64 w, .int .i64 n] W fun e w' => e = .returned (.bool b) ∧ Below W.heap.size W w' :=
  (dynamoref03_Fits.calls 7 w n _ W (rfits_f w n hn)).mono fun _ _ ⟨he, hd⟩ => ⟨by rw [he, hb], hd.below⟩
theorem rPut_any (w n : Int) (hb : fitsB w n = true) (hn : n ≤ 9223372036854775807) (W : World) : Calls Tryd.prog 32 #[.int .i64 w, .int .i64 n] W fun e w' => e = .returned (.string (putB w n)) ∧ Below W.heap.size W w' :=
  dynamoref03_Put.calls 7 w n _ W (rput_f w n hn hb)
theorem rSize_any (A : Option Addr) (ws : List Int) (c : Nat) (W : World) (h : Ints W A ws c) :
    Calls Tryd.prog 33 #[.slice A ws.length c] W fun e w' => e = .returned (.int .i64 (sizeR ws)) ∧ Below W.heap.size W w' :=
  (dynamoref03_Size.calls _ A c ws _ W h.1 h.2 (rsize_f ws)).mono fun _ _ ⟨he, hd⟩ => ⟨he, hd.below⟩
theorem rGet_any (s : ByteArray) (w : Int) (h : mayB w = true) (hs : w ≤ s.size) (W : World) :
    Calls Tryd.prog 34 #[.string s, .int .i64 w] W fun e w' => e = .returned (.int .i64 (getK s w.toNat)) ∧ Below W.heap.size W w' :=
  (dynamoref03_Get.calls 5 s w _ W (by
    have hm := mayB_iff.1 h
    have := get_f s w.toNat 0 w (by omega) hm.2 hs 5 (by omega)
    exact this)).mono fun _ _ ⟨he, hd⟩ => ⟨he, hd.below⟩
/-- what Get answers, whatever it is given -/
def getV (s : ByteArray) (w : Int) : Int := if mayB w = true then if w ≤ s.size then getK s w.toNat else 0 else 0
def getC (s : ByteArray) (w : Int) : Int := if mayB w = true then if w ≤ s.size then 0 else 2 else 1
theorem Get_any (s : ByteArray) (w : Int) (W : World) (hz : s.size ≤ 9223372036854775807) :
    Calls Tryd.prog 14 #[.string s, .int .i64 w] W fun e w' => ∃ v, e = .returned (.tuple #[.int .i64 (getV s w), v]) ∧ ErrC W.heap.size w' v (getC s w) ∧ Below W.heap.size W w' := by
  cases hm : mayB w with
  | false =>
    have e1 : getV s w = 0 := by unfold getV; rw [if_neg (by simp [hm])]
    have e2 : getC s w = 1 := by unfold getC; rw [if_neg (by simp [hm])]
    rw [e1, e2]; exact Get_arg s w W hm
  | true =>
    by_cases hs : w ≤ s.size
    · have e1 : getV s w = getK s w.toNat := by unfold getV; rw [if_pos hm, if_pos hs]
      have e2 : getC s w = 0 := by unfold getC; rw [if_pos hm, if_pos hs]
      rw [e1, e2]
      exact (Get_ok s w W hm hs hz).mono fun _ _ ⟨he, hb⟩ => ⟨_, he, ErrC.nil _ _, hb⟩
    · have e1 : getV s w = 0 := by unfold getV; rw [if_pos hm, if_neg hs]
      have e2 : getC s w = 2 := by unfold getC; rw [if_pos hm, if_neg hs]
      rw [e1, e2]; exact Get_form s w W hm (by omega)

theorem below_drewN (w : World) (n : Nat) : Below w.heap.size w (w.drewN n) := Drawn0.below ⟨⟨n, rfl⟩⟩
/-- what the loop lays, and why it stops -/
structure LaidK (l m : List Int) (k : Nat) (code : Int) (s : ByteArray) : Prop where
  le : k ≤ l.length
  ok : code = 0 → fitTo l m k ∧ s = ⟨(fieldsTo l m k).toArray⟩ ∧ l.length = m.length ∧ 0 ≤ sizeR l
  no : code ≠ 0 → code = fieldsC l m
  small : s.size ≤ 4 * k
theorem LaidK.start (l m : List Int) : LaidK l m 0 (if sizeR l < 0 ∨ l.length ≠ m.length then 1 else 0) ⟨#[]⟩ where
  le := Nat.zero_le _
  ok := fun h => by
    by_cases q : sizeR l < 0 ∨ l.length ≠ m.length
    · rw [if_pos q] at h; cases h
    · exact ⟨fun j hj => absurd hj (by omega), rfl, by omega, by omega⟩
  no := fun h => by
    by_cases q : sizeR l < 0 ∨ l.length ≠ m.length
    · rw [if_pos q]; unfold fieldsC; rw [if_pos q]
    · rw [if_neg q] at h; exact absurd rfl h
  small := by show 0 ≤ _; omega
theorem LaidK.bad {l m : List Int} {k : Nat} {s : ByteArray} (h : LaidK l m k 0 s) (hk : k < l.length) (hf : fitsB (rd l k) (rd m k) = false) : LaidK l m (k + 1) 8 s where
  le := hk
  ok := fun h => by cases h
  no := fun _ => by
    obtain ⟨_, _, h1, h2⟩ := h.ok rfl
    unfold fieldsC
    rw [if_neg (by omega), if_neg (fun q => by have := q k (by omega); rw [hf] at this; cases this)]
  small := by have := h.small; omega
theorem LaidK.good {l m : List Int} {k : Nat} {s : ByteArray} (h : LaidK l m k 0 s) (hk : k < l.length) (hf : fitsB (rd l k) (rd m k) = true) : LaidK l m (k + 1) 0 (s ++ putB (rd l k) (rd m k)) where
  le := hk
  ok := fun _ => by
    obtain ⟨h0, e, h1, h2⟩ := h.ok rfl
    refine ⟨fun j hj => ?_, ?_, h1, h2⟩
    · rcases Nat.lt_or_ge j k with q | q
      · exact h0 j q
      · obtain rfl : j = k := by omega
        exact hf
    · rw [e, fieldsTo]
      apply ByteArray.ext
      simp
  no := fun q => absurd rfl q
  small := by have := h.small; have := putB_le (rd l k) (rd m k); rw [ByteArray.size_append]; omega
theorem LaidK.done {l m : List Int} {k : Nat} {s : ByteArray} (h : LaidK l m k 0 s) (hk : ¬ k < l.length) : fieldsC l m = 0 ∧ fieldsB l m = s := by
  obtain ⟨h0, e, h1, h2⟩ := h.ok rfl
  have hkl : k = m.length := by have := h.le; omega
  have hc : fieldsC l m = 0 := by
    unfold fieldsC
    rw [if_neg (by omega), if_pos (by rw [← hkl]; exact h0)]
  exact ⟨hc, by unfold fieldsB; rw [if_pos hc, e, hkl]⟩
theorem LaidK.off {l m : List Int} {k : Nat} {c : Int} {s : ByteArray} (h : LaidK l m k c s) (hc : c ≠ 0) : c = fieldsC l m ∧ fieldsB l m = ⟨#[]⟩ := by
  have e := h.no hc
  exact ⟨e, by unfold fieldsB; rw [if_neg (by rw [← e]; exact hc)]⟩
theorem LaidK.fin {l m : List Int} {k : Nat} {c : Int} {s : ByteArray} (h : LaidK l m k c s) (hg : ¬ (k < l.length ∧ c = 0)) : c = fieldsC l m ∧ (if c = 0 then s else ⟨#[]⟩) = fieldsB l m := by
  by_cases hc : c = 0
  · subst hc
    obtain ⟨a, b⟩ := h.done (fun q => hg ⟨q, rfl⟩)
    exact ⟨a.symm, by rw [if_pos rfl, b]⟩
  · obtain ⟨a, b⟩ := h.off hc
    exact ⟨a, by rw [if_neg hc, b]⟩
theorem rFits_quiet (w n : Int) (b : Bool) (hb : fitsB w n = b) (hn : n ≤ 9223372036854775807) (W : World) (q : Nat) : Calls Tryd.prog 31 #[.int .i64 w, .int .i64 n] (W.drewN q) fun e w' => e = .returned (.bool b) ∧ ∃ m, w' = W.drewN m :=
  Calls.quiet_of ((dynamoref03_Fits.calls 7 w n _ _ (rfits_f w n hn)).mono fun _ _ ⟨he, hd⟩ => ⟨by rw [he, hb], hd.out⟩)
set_option maxRecDepth 100000 in
set_option maxHeartbeats 8000000 in
theorem plays_go (w n : Int) (s : ByteArray) (A B : Option Addr) (l m : List Int) (c d : Nat) (hn : n ≤ 9223372036854775807) (hz : s.size ≤ 400) (hl : l.length ≤ 60) (hm : m.length ≤ 60) (W : World) (tied : Tied W)
    (h1 : Ints W A l c) (h2 : Ints W B m d) (hw : ∀ j, j < m.length → rd m j ≤ 9223372036854775807) :
    Calls Tryd.prog 11 #[.int .i64 w, .int .i64 n, .string s, .slice A l.length c, .slice B m.length d] W fun e w' => e = .returned (.bool true) ∧ Below W.heap.size W w' := by
  have T := Lib.hid tied
  have H1 := Lib.hid h1
  have H2 := Lib.hid h2
  have HW := Lib.hid hw
  clear tied h1 h2 hw
  obtain ⟨c0, hc0⟩ : ∃ c0 : Int, c0 = (if sizeR l < 0 ∨ l.length ≠ m.length then 1 else 0) := ⟨_, rfl⟩
  have HC0 := Lib.hid hc0
  clear hc0
  have hd1 : decide ((400 : Int) < (s.size : Int)) = false := by simp; omega
  have hd2 : decide ((60 : Int) < (l.length : Int)) = false := by simp; omega
  have hd3 : decide ((60 : Int) < (m.length : Int)) = false := by simp; omega
  go_enter Tryd.func11, Tryd.ntmps11
  go_wp2_with fail
  refine (pack_awake _).mono ?_
  rintro e w1 ⟨rfl, hb⟩
  have HB1 := Lib.hid hb
  clear hb
  go_wp2_with fail
  refine (rFits_any w n _ rfl hn _).mono ?_
  rintro e w2 ⟨rfl, hb⟩
  have HB2 := Lib.hid (bstep HB1.out hb)
  clear hb
  go_upto_if 42 with fail
  go_cut [11] (fun s11 wx => s11 = .string (putB w n) ∧ Below W.heap.size W wx)
  case first =>
    as_aux_lemma =>
      cases hf : fitsB w n with
      | true =>
        have hrp := Lib.hid (rPut_any w n hf hn)
        clear hf
        go_wp2_with fail
        refine (hrp.out _).mono ?_
        rintro e w3 ⟨rfl, hb⟩
        have HB3 := Lib.hid (bstep HB2.out hb)
        clear hb
        go_wp2_with fail
        go_meet
        exact ⟨rfl, HB3.out⟩
      | false =>
        have hpe : Hid (putB w n = ⟨#[]⟩) := by show _ = _; unfold putB; rw [if_neg (by simp [hf])]
        clear hf
        go_wp2_with fail
        go_meet
        exact ⟨congrArg Value.string hpe.out.symm, HB2.out⟩
  case rest =>
    obtain ⟨w3, rfl⟩ : ∃ x : World, x = wc := ⟨_, rfl⟩
    obtain ⟨rfl, hb⟩ := hcut
    have HB3 := Lib.hid hb
    clear hb
    go_wp2_with fail
    refine (Get_any s w _ (by omega)).mono ?_
    rintro e w4 ⟨v4, rfl, he, hb⟩
    obtain ⟨gv, hgv⟩ : ∃ gv, gv = getV s w := ⟨_, rfl⟩
    rw [← hgv]
    have HGV := Lib.hid hgv
    clear hgv
    have HB4 := Lib.hid (bstep HB3.out hb)
    have HE4 := Lib.hid he
    clear he hb
    go_wp2_with fail
    refine (Put_any w n _).mono ?_
    rintro e w5 ⟨rfl, hb⟩
    have HB5 := Lib.hid (bstep HB4.out hb)
    have HE5 := Lib.hid (HE4.out.under hb)
    clear hb
    go_wp2_with fail
    refine (Size_any _ l c _ (H1.out.below HB5.out)).mono ?_
    rintro e w6 ⟨rfl, hb⟩
    have HB6 := Lib.hid (bstep HB5.out hb)
    have HE6 := Lib.hid (HE5.out.under hb)
    clear hb
    go_wp2_with fail
    refine (rSize_any _ l c _ (H1.out.below HB6.out)).mono ?_
    rintro e w7 ⟨rfl, hb⟩
    have HB7 := Lib.hid (bstep HB6.out hb)
    have HE7 := Lib.hid (HE6.out.under hb)
    clear hb
    go_upto_region 9 with fail
    go_cut [69] (fun s69 wx => s69 = .bool (!(mayB w)) ∧ w7 = wx)
    case first =>
      as_aux_lemma =>
        by_cases q1 : w < 1
        · have q2 : decide (w < 1) = true := by simpa using q1
          have q3 : Hid ((!(mayB w)) = true) := by show _ = _; simp [mayB]; omega
          clear q1
          go_wp2_with fail
          go_meet
          exact ⟨congrArg Value.bool q3.out.symm, rfl⟩
        · have q2 : decide (w < 1) = false := by simpa using q1
          have q3 : Hid ((!(mayB w)) = decide (4 < w)) := by show _ = _; rw [Bool.eq_iff_iff]; simp [mayB]; omega
          clear q1
          go_wp2_with fail
          go_meet
          exact ⟨congrArg Value.bool q3.out.symm, rfl⟩
    obtain ⟨rfl, rfl⟩ := hcut
    go_upto_if 69 with fail
    go_cut [10] (fun s10 wx => s10 = .bool false ∧ Below W.heap.size W wx)
    case first =>
      as_aux_lemma =>
        cases hm0 : mayB w with
        | false =>
          obtain rfl : gv = 0 := by rw [HGV.out]; unfold getV; rw [if_neg (by simp [hm0])]
          have HX : Hid (ErrC w3.heap.size w7 v4 1) := by
            have h := HE7.out
            rw [show getC s w = 1 by unfold getC; rw [if_neg (by simp [hm0])]] at h; exact h
          clear hm0
          go_wp2_with fail
          refine (Num_c (B := w3.heap.size) _ v4 1 HX.out (T.out.under T.out.lt HB7.out)).mono ?_
          rintro e w8 ⟨rfl, hb⟩
          have HB8 := Lib.hid (bstep HB7.out hb)
          clear hb
          go_wp2_with fail
          go_meet
          exact ⟨rfl, HB8.out⟩
        | true =>
          have HM := Lib.hid hm0
          by_cases hs : w ≤ s.size
          · have hlt : decide ((s.size : Int) < w) = false := by simp; omega
            obtain rfl : gv = getK s w.toNat := by rw [HGV.out]; unfold getV; rw [if_pos hm0, if_pos hs]
            have HX : Hid (ErrC w3.heap.size w7 v4 0) := by
              have h := HE7.out
              rw [show getC s w = 0 by unfold getC; rw [if_pos hm0, if_pos hs]] at h; exact h
            clear hm0
            go_wp2_with fail
            refine (Num_c (B := w3.heap.size) _ v4 0 HX.out (T.out.under T.out.lt HB7.out)).mono ?_
            rintro e w8 ⟨rfl, hb⟩
            have HB8 := Lib.hid (bstep HB7.out hb)
            clear hb
            go_wp2_with fail
            refine (rGet_any s w HM.out hs _).mono ?_
            rintro e w9 ⟨rfl, hb⟩
            have HB9 := Lib.hid (bstep HB8.out hb)
            clear hb
            go_wp2_with fail
            go_meet
            exact ⟨rfl, HB9.out⟩
          · have hlt : decide ((s.size : Int) < w) = true := by simp; omega
            obtain rfl : gv = 0 := by rw [HGV.out]; unfold getV; rw [if_pos hm0, if_neg hs]
            have HX : Hid (ErrC w3.heap.size w7 v4 2) := by
              have h := HE7.out
              rw [show getC s w = 2 by unfold getC; rw [if_pos hm0, if_neg hs]] at h; exact h
            clear hm0
            go_wp2_with fail
            refine (Num_c (B := w3.heap.size) _ v4 2 HX.out (T.out.under T.out.lt HB7.out)).mono ?_
            rintro e w8 ⟨rfl, hb⟩
            have HB8 := Lib.hid (bstep HB7.out hb)
            clear hb
            go_wp2_with fail
            go_meet
            exact ⟨rfl, HB8.out⟩
    case rest =>
      obtain ⟨w8, rfl⟩ : ∃ x : World, x = wc := ⟨_, rfl⟩
      obtain ⟨rfl, hb⟩ := hcut
      have HB8 := Lib.hid hb
      clear hb HE7 HE6 HE5 HE4
      go_wp2_with fail
      refine (Fields_any _ _ l m c d _ (H1.out.below HB8.out) (H2.out.below HB8.out)).mono ?_
      rintro e w9 ⟨v9, rfl, he, hb⟩
      have HB9 := Lib.hid (bstep HB8.out hb)
      have HE9 := Lib.hid he
      clear he hb
      go_upto_region 20 with fail
      go_cut [113] (fun s113 wx => s113 = .bool (decide (sizeR l < 0 ∨ l.length ≠ m.length)) ∧ Below w9.heap.size w9 wx)
      case first =>
        as_aux_lemma =>
          go_wp2_with fail
          refine (rSize_any _ l c _ (H1.out.below HB9.out)).mono ?_
          rintro e w10 ⟨rfl, hb⟩
          have HB10 := Lib.hid hb
          clear hb
          by_cases q1 : sizeR l < 0
          · have q2 : decide (sizeR l < 0) = true := by simpa using q1
            have q3 : Hid (decide (sizeR l < 0 ∨ l.length ≠ m.length) = true) := by show _ = _; simp [q1]
            clear q1
            go_wp2_with fail
            go_meet
            exact ⟨congrArg Value.bool q3.out.symm, HB10.out⟩
          · have q2 : decide (sizeR l < 0) = false := by simpa using q1
            have q3 : Hid (decide (sizeR l < 0 ∨ l.length ≠ m.length) = ((m.length : Int) != (l.length : Int))) := by show _ = _; rw [Bool.eq_iff_iff]; simp [q1]; omega
            clear q1
            go_wp2_with fail
            go_meet
            exact ⟨congrArg Value.bool q3.out.symm, HB10.out⟩
      obtain ⟨w10, rfl⟩ : ∃ x : World, x = wc := ⟨_, rfl⟩
      obtain ⟨rfl, hb⟩ := hcut
      have HB10 := Lib.hid (bstep HB9.out hb)
      have HE10 := Lib.hid (HE9.out.under hb)
      clear hb
      go_upto_if 113 with fail
      go_cut [16] (fun s16 wx => s16 = .int .i64 c0 ∧ w10 = wx)
      case first =>
        as_aux_lemma =>
          by_cases q1 : sizeR l < 0 ∨ l.length ≠ m.length
          · have q2 : decide (sizeR l < 0 ∨ l.length ≠ m.length) = true := by simpa using q1
            have q3 : Hid (c0 = 1) := by show _ = _; rw [HC0.out, if_pos q1]
            clear q1
            rw [q2]
            go_wp2_with fail
            go_meet
            exact ⟨congrArg (Value.int .i64) q3.out.symm, rfl⟩
          · have q2 : decide (sizeR l < 0 ∨ l.length ≠ m.length) = false := by simpa using q1
            have q3 : Hid (c0 = 0) := by show _ = _; rw [HC0.out, if_neg q1]
            clear q1
            rw [q2]
            go_wp2_with fail
            go_meet
            exact ⟨congrArg (Value.int .i64) q3.out.symm, rfl⟩
      obtain ⟨rfl, rfl⟩ := hcut
      go_wp2_with fail
      have HST : Hid (LaidK l m 0 c0 ⟨#[]⟩) := by show LaidK _ _ _ _ _; rw [HC0.out]; exact LaidK.start l m
      go_loopw [16, 17, 18] (fun s16 s17 i wl => ∃ (k : Nat) (code : Int) (st : ByteArray), i = .int .i64 k ∧ s16 = .int .i64 code ∧ s17 = .string st ∧ Hid (LaidK l m k code st) ∧ Below w10.heap.size w10 wl) (fun _ _ i _ => l.length - (intOf i).toNat)
      case atStart => exact ⟨0, c0, ⟨#[]⟩, rfl, rfl, rfl, HST.out, Below.refl _ _⟩
      case round =>
        obtain ⟨k, code, st, rfl, rfl, rfl, HL, hb⟩ := hrel
        have HBr := Lib.hid hb
        clear hb
        have hle := HL.out.le
        by_cases hgo : k < l.length ∧ code = 0
        · obtain ⟨hlt, h0⟩ := hgo
          have hltb : decide (k < l.length) = true := by simpa using hlt
          · subst h0
            have hsm := HL.out.small
            have hlen := (HL.out.ok rfl).2.2.1
            have hltm : k < m.length := by omega
            clear hlen
            obtain ⟨b1, o1, rfl, hc1⟩ := H1.out.at (by omega)
            obtain ⟨b2, o2, rfl, hc2⟩ := H2.out.at (by omega)
            have C1 := Lib.hid hc1
            have C2 := Lib.hid hc2
            clear hc1 hc2
            have hi1 : (k : Int) < (l.length : Int) := by omega
            have hi2 : (k : Int) < (m.length : Int) := by omega
            have HBW := Lib.hid (bstep HB10.out HBr.out)
            have x1 : wr.cell? ⟨b1, o1 + k, none⟩ = some (.int .i64 (rd l k)) := (HBW.out.cell (cell_lt (C1.out k hlt))).trans (C1.out k hlt)
            have x2 : wr.cell? ⟨b2, o2 + k, none⟩ = some (.int .i64 (rd m k)) := (HBW.out.cell (cell_lt (C2.out k hltm))).trans (C2.out k hltm)
            have hwk := Lib.hid (HW.out k hltm)
            have hz9 : st.size + (putB (rd l k) (rd m k)).size ≤ 9223372036854775807 := by have := putB_le (rd l k) (rd m k); omega
            cases hf : fitsB (rd l k) (rd m k) with
            | false =>
              as_aux_lemma =>
                have hfq := Lib.hid (rFits_quiet _ _ _ hf hwk.out)
                have HN := Lib.hid (HL.out.bad hlt hf)
                clear hf
                go_wp2_with fail
                go_quiet ((go_at_call 31; exact hfq.out _ _))
                go_wp2_with fail
                go_roundw
                case rel => exact ⟨k + 1, 8, st, by go_num, rfl, rfl, HN.out, bstep HBr.out (below_drewN _ _)⟩
                case measure => simp [intOf]; omega
            | true =>
              as_aux_lemma =>
                have hfq := Lib.hid (rFits_quiet _ _ _ hf hwk.out)
                obtain ⟨p, hp⟩ : ∃ p, p = putB (rd l k) (rd m k) := ⟨_, rfl⟩
                have hpp0 := rPut_any _ _ hf hwk.out
                rw [← hp] at hpp0 hz9
                have hpp := Lib.hid hpp0
                have HP := Lib.hid hp
                clear hp hpp0
                have hz8 : ¬ (9223372036854775807 < st.size + p.size) := by omega
                have hz7 : ¬ (st.size + p.size > 9223372036854775807) := by omega
                have HN := Lib.hid (HL.out.good hlt hf)
                clear hf
                go_wp2_with fail
                go_quiet ((go_at_call 31; exact hfq.out _ _))
                go_wp2_with fail
                obtain ⟨wx, hwx⟩ : ∃ wx, wx = wr.drewN nq := ⟨_, rfl⟩
                have hKx : Hid (KF wr wx) := by rw [hwx]; exact below_drewN _ _
                rw [← hwx]
                clear hwx
                have HSr := Lib.hid (show ∀ w', KF wx w' → w'.cell? ⟨b1, o1 + k, none⟩ = some (.int .i64 (rd l k)) ∧ w'.cell? ⟨b2, o2 + k, none⟩ = some (.int .i64 (rd m k)) ∧ KF wx w' from fun w' h => ⟨h.cell (hKx.out.cell x1), h.cell (hKx.out.cell x2), h⟩)
                have HPr := Lib.hid (show ∀ w', (w'.cell? ⟨b1, o1 + k, none⟩ = some (.int .i64 (rd l k)) ∧ w'.cell? ⟨b2, o2 + k, none⟩ = some (.int .i64 (rd m k)) ∧ KF wx w') → KF wx w' from fun w' h => h.2.2)
                clear x1 x2
                go_region_held3 (fun w' => w'.cell? ⟨b1, o1 + k, none⟩ = some (.int .i64 (rd l k)) ∧ w'.cell? ⟨b2, o2 + k, none⟩ = some (.int .i64 (rd m k)) ∧ KF wx w') ((refine HSr.out _ ?_; first | assumption | exact Below.drew (Below.refl _ _))) (first | (go_at_call 32; (with_reducible refine (hpp.out _).mono ?_); rintro e wn ⟨rfl, hb⟩; have hKn := KF.step (HPr.out _ (by assumption)) hb; clear hb))
                have HKn := Lib.hid (bstep (bstep HBr.out hKx.out) hKn)
                clear hKn
                go_wp2_with fail
                go_roundw
                case rel => exact ⟨k + 1, 0, st ++ p, by go_num, rfl, rfl, by rw [HP.out]; exact HN.out, HKn.out⟩
                case measure => simp [intOf]; omega
        · have HEND := Lib.hid (HL.out.fin hgo)
          rcases (show (code = 0 ∧ ¬ k < l.length) ∨ (code ≠ 0 ∧ k < l.length) ∨ (code ≠ 0 ∧ ¬ k < l.length) by omega) with ⟨h0, hlt⟩ | ⟨h0, hlt⟩ | ⟨h0, hlt⟩
          all_goals clear hgo
          · as_aux_lemma =>
              have hltb : decide (k < l.length) = false := by simpa using hlt
              have h0b : (code == 0) = true := by simpa using h0
              have h0c : (code != 0) = false := by simpa using h0
              have hfs : Hid (st = fieldsB l m) := by have h := HEND.out.2; rw [if_pos h0] at h; exact h
              have hfc : (fieldsC l m == code) = true := by rw [← HEND.out.1]; simp
              clear h0 hlt
              go_upto_if 146 with fail
              go_cut [17] (fun s17 wx => s17 = .string (fieldsB l m) ∧ Below wr.heap.size wr wx)
              case first =>
                go_wp2_with fail
                go_meet
                exact ⟨congrArg Value.string hfs.out, Below.refl _ _⟩
              obtain ⟨w11, rfl⟩ : ∃ x : World, x = wc := ⟨_, rfl⟩
              obtain ⟨rfl, hb⟩ := hcut
              have HB11 := Lib.hid (bstep (bstep HB10.out HBr.out) hb)
              have HE11 := Lib.hid ((HE10.out.under HBr.out).under hb)
              clear hb
              go_wp2_with fail
              refine (Parse_any _ l c s _ (H1.out.below HB11.out) (by omega)).mono ?_
              rintro e w12 ⟨vs, v12, rfl, hown, he, hb⟩
              obtain ⟨ad, cp, rfl⟩ := own_slice hown
              have HB12 := Lib.hid (bstep HB11.out hb)
              have HE12 := Lib.hid (HE11.out.under hb)
              have HP12 := Lib.hid he
              clear hown he hb
              obtain ⟨ln, hln⟩ : ∃ ln, ln = (parseL l s).length := ⟨_, rfl⟩
              rw [← hln]
              have HLN := Lib.hid hln
              clear hln
              go_wp2_with fail
              refine (rSize_any _ l c _ (H1.out.below HB12.out)).mono ?_
              rintro e w13 ⟨rfl, hb⟩
              have HB13 := Lib.hid (bstep HB12.out hb)
              have HE13 := Lib.hid (HE12.out.under hb)
              have HP13 := Lib.hid (HP12.out.under hb)
              clear hb
              by_cases q1 : sizeR l < 0
              · have q2 : decide (sizeR l < 0) = true := by simpa using q1
                have q3 : Hid (parseC l s = 1) := by show _ = _; unfold parseC; rw [if_pos q1]
                obtain rfl : ln = 0 := by rw [HLN.out]; unfold parseL; rw [if_neg (by rw [q3.out]; decide)]; rfl
                clear q1
                go_wp2_with fail
                refine (Num_c _ v9 (fieldsC l m) HE13.out (T.out.under T.out.lt HB13.out)).mono ?_
                rintro e w14 ⟨rfl, hb⟩
                have HB14 := Lib.hid (bstep HB13.out hb)
                have HP14 := Lib.hid (HP13.out.under hb)
                clear hb
                go_wp2_with fail
                refine (Num_c _ v12 1 (by have h := HP14.out; rw [q3.out] at h; exact h) (T.out.under T.out.lt HB14.out)).mono ?_
                rintro e w15 ⟨rfl, hb⟩
                have HB15 := Lib.hid (bstep HB14.out hb)
                clear hb
                go_wp2_with fail
                go_ret
                exact ⟨rfl, HB15.out⟩
              · have q2 : decide (sizeR l < 0) = false := by simpa using q1
                go_wp2_with fail
                refine (rSize_any _ l c _ (H1.out.below HB13.out)).mono ?_
                rintro e w14 ⟨rfl, hb⟩
                have HB14 := Lib.hid (bstep HB13.out hb)
                have HE14 := Lib.hid (HE13.out.under hb)
                have HP14 := Lib.hid (HP13.out.under hb)
                clear hb
                by_cases q4 : sizeR l = s.size
                · have q5 : (sizeR l != (s.size : Int)) = false := by simpa using q4
                  have q3 : Hid (parseC l s = 0) := by show _ = _; unfold parseC; rw [if_neg (by omega), if_neg (fun h => h q4)]
                  obtain rfl : ln = l.length := by rw [HLN.out]; unfold parseL; rw [if_pos q3.out, parseTo_length]
                  clear q1 q4
                  go_wp2_with fail
                  refine (Num_c _ v9 (fieldsC l m) HE14.out (T.out.under T.out.lt HB14.out)).mono ?_
                  rintro e w15 ⟨rfl, hb⟩
                  have HB15 := Lib.hid (bstep HB14.out hb)
                  have HP15 := Lib.hid (HP14.out.under hb)
                  clear hb
                  go_wp2_with fail
                  refine (Num_c _ v12 0 (by have h := HP15.out; rw [q3.out] at h; exact h) (T.out.under T.out.lt HB15.out)).mono ?_
                  rintro e w16 ⟨rfl, hb⟩
                  have HB16 := Lib.hid (bstep HB15.out hb)
                  clear hb
                  go_wp2_with fail
                  go_ret
                  exact ⟨rfl, HB16.out⟩
                · have q5 : (sizeR l != (s.size : Int)) = true := by simpa using q4
                  have q3 : Hid (parseC l s = 2) := by show _ = _; unfold parseC; rw [if_neg (by omega), if_pos q4]
                  obtain rfl : ln = 0 := by rw [HLN.out]; unfold parseL; rw [if_neg (by rw [q3.out]; decide)]; rfl
                  clear q1 q4
                  go_wp2_with fail
                  refine (Num_c _ v9 (fieldsC l m) HE14.out (T.out.under T.out.lt HB14.out)).mono ?_
                  rintro e w15 ⟨rfl, hb⟩
                  have HB15 := Lib.hid (bstep HB14.out hb)
                  have HP15 := Lib.hid (HP14.out.under hb)
                  clear hb
                  go_wp2_with fail
                  refine (Num_c _ v12 2 (by have h := HP15.out; rw [q3.out] at h; exact h) (T.out.under T.out.lt HB15.out)).mono ?_
                  rintro e w16 ⟨rfl, hb⟩
                  have HB16 := Lib.hid (bstep HB15.out hb)
                  clear hb
                  go_wp2_with fail
                  go_ret
                  exact ⟨rfl, HB16.out⟩
          · as_aux_lemma =>
              have hltb : decide (k < l.length) = true := by simpa using hlt
              have h0b : (code == 0) = false := by simpa using h0
              have h0c : (code != 0) = true := by simpa using h0
              have hfs : Hid ((⟨#[]⟩ : ByteArray) = fieldsB l m) := by have h := HEND.out.2; rw [if_neg h0] at h; exact h
              have hfc : (fieldsC l m == code) = true := by rw [← HEND.out.1]; simp
              clear h0 hlt
              go_upto_if 146 with fail
              go_cut [17] (fun s17 wx => s17 = .string (fieldsB l m) ∧ Below wr.heap.size wr wx)
              case first =>
                go_wp2_with fail
                go_meet
                exact ⟨congrArg Value.string hfs.out, Below.refl _ _⟩
              obtain ⟨w11, rfl⟩ : ∃ x : World, x = wc := ⟨_, rfl⟩
              obtain ⟨rfl, hb⟩ := hcut
              have HB11 := Lib.hid (bstep (bstep HB10.out HBr.out) hb)
              have HE11 := Lib.hid ((HE10.out.under HBr.out).under hb)
              clear hb
              go_wp2_with fail
              refine (Parse_any _ l c s _ (H1.out.below HB11.out) (by omega)).mono ?_
              rintro e w12 ⟨vs, v12, rfl, hown, he, hb⟩
              obtain ⟨ad, cp, rfl⟩ := own_slice hown
              have HB12 := Lib.hid (bstep HB11.out hb)
              have HE12 := Lib.hid (HE11.out.under hb)
              have HP12 := Lib.hid he
              clear hown he hb
              obtain ⟨ln, hln⟩ : ∃ ln, ln = (parseL l s).length := ⟨_, rfl⟩
              rw [← hln]
              have HLN := Lib.hid hln
              clear hln
              go_wp2_with fail
              refine (rSize_any _ l c _ (H1.out.below HB12.out)).mono ?_
              rintro e w13 ⟨rfl, hb⟩
              have HB13 := Lib.hid (bstep HB12.out hb)
              have HE13 := Lib.hid (HE12.out.under hb)
              have HP13 := Lib.hid (HP12.out.under hb)
              clear hb
              by_cases q1 : sizeR l < 0
              · have q2 : decide (sizeR l < 0) = true := by simpa using q1
                have q3 : Hid (parseC l s = 1) := by show _ = _; unfold parseC; rw [if_pos q1]
                obtain rfl : ln = 0 := by rw [HLN.out]; unfold parseL; rw [if_neg (by rw [q3.out]; decide)]; rfl
                clear q1
                go_wp2_with fail
                refine (Num_c _ v9 (fieldsC l m) HE13.out (T.out.under T.out.lt HB13.out)).mono ?_
                rintro e w14 ⟨rfl, hb⟩
                have HB14 := Lib.hid (bstep HB13.out hb)
                have HP14 := Lib.hid (HP13.out.under hb)
                clear hb
                go_wp2_with fail
                refine (Num_c _ v12 1 (by have h := HP14.out; rw [q3.out] at h; exact h) (T.out.under T.out.lt HB14.out)).mono ?_
                rintro e w15 ⟨rfl, hb⟩
                have HB15 := Lib.hid (bstep HB14.out hb)
                clear hb
                go_wp2_with fail
                go_ret
                exact ⟨rfl, HB15.out⟩
              · have q2 : decide (sizeR l < 0) = false := by simpa using q1
                go_wp2_with fail
                refine (rSize_any _ l c _ (H1.out.below HB13.out)).mono ?_
                rintro e w14 ⟨rfl, hb⟩
                have HB14 := Lib.hid (bstep HB13.out hb)
                have HE14 := Lib.hid (HE13.out.under hb)
                have HP14 := Lib.hid (HP13.out.under hb)
                clear hb
                by_cases q4 : sizeR l = s.size
                · have q5 : (sizeR l != (s.size : Int)) = false := by simpa using q4
                  have q3 : Hid (parseC l s = 0) := by show _ = _; unfold parseC; rw [if_neg (by omega), if_neg (fun h => h q4)]
                  obtain rfl : ln = l.length := by rw [HLN.out]; unfold parseL; rw [if_pos q3.out, parseTo_length]
                  clear q1 q4
                  go_wp2_with fail
                  refine (Num_c _ v9 (fieldsC l m) HE14.out (T.out.under T.out.lt HB14.out)).mono ?_
                  rintro e w15 ⟨rfl, hb⟩
                  have HB15 := Lib.hid (bstep HB14.out hb)
                  have HP15 := Lib.hid (HP14.out.under hb)
                  clear hb
                  go_wp2_with fail
                  refine (Num_c _ v12 0 (by have h := HP15.out; rw [q3.out] at h; exact h) (T.out.under T.out.lt HB15.out)).mono ?_
                  rintro e w16 ⟨rfl, hb⟩
                  have HB16 := Lib.hid (bstep HB15.out hb)
                  clear hb
                  go_wp2_with fail
                  go_ret
                  exact ⟨rfl, HB16.out⟩
                · have q5 : (sizeR l != (s.size : Int)) = true := by simpa using q4
                  have q3 : Hid (parseC l s = 2) := by show _ = _; unfold parseC; rw [if_neg (by omega), if_pos q4]
                  obtain rfl : ln = 0 := by rw [HLN.out]; unfold parseL; rw [if_neg (by rw [q3.out]; decide)]; rfl
                  clear q1 q4
                  go_wp2_with fail
                  refine (Num_c _ v9 (fieldsC l m) HE14.out (T.out.under T.out.lt HB14.out)).mono ?_
                  rintro e w15 ⟨rfl, hb⟩
                  have HB15 := Lib.hid (bstep HB14.out hb)
                  have HP15 := Lib.hid (HP14.out.under hb)
                  clear hb
                  go_wp2_with fail
                  refine (Num_c _ v12 2 (by have h := HP15.out; rw [q3.out] at h; exact h) (T.out.under T.out.lt HB15.out)).mono ?_
                  rintro e w16 ⟨rfl, hb⟩
                  have HB16 := Lib.hid (bstep HB15.out hb)
                  clear hb
                  go_wp2_with fail
                  go_ret
                  exact ⟨rfl, HB16.out⟩
          · as_aux_lemma =>
              have hltb : decide (k < l.length) = false := by simpa using hlt
              have h0b : (code == 0) = false := by simpa using h0
              have h0c : (code != 0) = true := by simpa using h0
              have hfs : Hid ((⟨#[]⟩ : ByteArray) = fieldsB l m) := by have h := HEND.out.2; rw [if_neg h0] at h; exact h
              have hfc : (fieldsC l m == code) = true := by rw [← HEND.out.1]; simp
              clear h0 hlt
              go_upto_if 146 with fail
              go_cut [17] (fun s17 wx => s17 = .string (fieldsB l m) ∧ Below wr.heap.size wr wx)
              case first =>
                go_wp2_with fail
                go_meet
                exact ⟨congrArg Value.string hfs.out, Below.refl _ _⟩
              obtain ⟨w11, rfl⟩ : ∃ x : World, x = wc := ⟨_, rfl⟩
              obtain ⟨rfl, hb⟩ := hcut
              have HB11 := Lib.hid (bstep (bstep HB10.out HBr.out) hb)
              have HE11 := Lib.hid ((HE10.out.under HBr.out).under hb)
              clear hb
              go_wp2_with fail
              refine (Parse_any _ l c s _ (H1.out.below HB11.out) (by omega)).mono ?_
              rintro e w12 ⟨vs, v12, rfl, hown, he, hb⟩
              obtain ⟨ad, cp, rfl⟩ := own_slice hown
              have HB12 := Lib.hid (bstep HB11.out hb)
              have HE12 := Lib.hid (HE11.out.under hb)
              have HP12 := Lib.hid he
              clear hown he hb
              obtain ⟨ln, hln⟩ : ∃ ln, ln = (parseL l s).length := ⟨_, rfl⟩
              rw [← hln]
              have HLN := Lib.hid hln
              clear hln
              go_wp2_with fail
              refine (rSize_any _ l c _ (H1.out.below HB12.out)).mono ?_
              rintro e w13 ⟨rfl, hb⟩
              have HB13 := Lib.hid (bstep HB12.out hb)
              have HE13 := Lib.hid (HE12.out.under hb)
              have HP13 := Lib.hid (HP12.out.under hb)
              clear hb
              by_cases q1 : sizeR l < 0
              · have q2 : decide (sizeR l < 0) = true := by simpa using q1
                have q3 : Hid (parseC l s = 1) := by show _ = _; unfold parseC; rw [if_pos q1]
                obtain rfl : ln = 0 := by rw [HLN.out]; unfold parseL; rw [if_neg (by rw [q3.out]; decide)]; rfl
                clear q1
                go_wp2_with fail
                refine (Num_c _ v9 (fieldsC l m) HE13.out (T.out.under T.out.lt HB13.out)).mono ?_
                rintro e w14 ⟨rfl, hb⟩
                have HB14 := Lib.hid (bstep HB13.out hb)
                have HP14 := Lib.hid (HP13.out.under hb)
                clear hb
                go_wp2_with fail
                refine (Num_c _ v12 1 (by have h := HP14.out; rw [q3.out] at h; exact h) (T.out.under T.out.lt HB14.out)).mono ?_
                rintro e w15 ⟨rfl, hb⟩
                have HB15 := Lib.hid (bstep HB14.out hb)
                clear hb
                go_wp2_with fail
                go_ret
                exact ⟨rfl, HB15.out⟩
              · have q2 : decide (sizeR l < 0) = false := by simpa using q1
                go_wp2_with fail
                refine (rSize_any _ l c _ (H1.out.below HB13.out)).mono ?_
                rintro e w14 ⟨rfl, hb⟩
                have HB14 := Lib.hid (bstep HB13.out hb)
                have HE14 := Lib.hid (HE13.out.under hb)
                have HP14 := Lib.hid (HP13.out.under hb)
                clear hb
                by_cases q4 : sizeR l = s.size
                · have q5 : (sizeR l != (s.size : Int)) = false := by simpa using q4
                  have q3 : Hid (parseC l s = 0) := by show _ = _; unfold parseC; rw [if_neg (by omega), if_neg (fun h => h q4)]
                  obtain rfl : ln = l.length := by rw [HLN.out]; unfold parseL; rw [if_pos q3.out, parseTo_length]
                  clear q1 q4
                  go_wp2_with fail
                  refine (Num_c _ v9 (fieldsC l m) HE14.out (T.out.under T.out.lt HB14.out)).mono ?_
                  rintro e w15 ⟨rfl, hb⟩
                  have HB15 := Lib.hid (bstep HB14.out hb)
                  have HP15 := Lib.hid (HP14.out.under hb)
                  clear hb
                  go_wp2_with fail
                  refine (Num_c _ v12 0 (by have h := HP15.out; rw [q3.out] at h; exact h) (T.out.under T.out.lt HB15.out)).mono ?_
                  rintro e w16 ⟨rfl, hb⟩
                  have HB16 := Lib.hid (bstep HB15.out hb)
                  clear hb
                  go_wp2_with fail
                  go_ret
                  exact ⟨rfl, HB16.out⟩
                · have q5 : (sizeR l != (s.size : Int)) = true := by simpa using q4
                  have q3 : Hid (parseC l s = 2) := by show _ = _; unfold parseC; rw [if_neg (by omega), if_pos q4]
                  obtain rfl : ln = 0 := by rw [HLN.out]; unfold parseL; rw [if_neg (by rw [q3.out]; decide)]; rfl
                  clear q1 q4
                  go_wp2_with fail
                  refine (Num_c _ v9 (fieldsC l m) HE14.out (T.out.under T.out.lt HB14.out)).mono ?_
                  rintro e w15 ⟨rfl, hb⟩
                  have HB15 := Lib.hid (bstep HB14.out hb)
                  have HP15 := Lib.hid (HP14.out.under hb)
                  clear hb
                  go_wp2_with fail
                  refine (Num_c _ v12 2 (by have h := HP15.out; rw [q3.out] at h; exact h) (T.out.under T.out.lt HB15.out)).mono ?_
                  rintro e w16 ⟨rfl, hb⟩
                  have HB16 := Lib.hid (bstep HB15.out hb)
                  clear hb
                  go_wp2_with fail
                  go_ret
                  exact ⟨rfl, HB16.out⟩
end Go.Proofs.YthleapofcoidoaaDoor
