/- The reference's frames: Read, by contract. -/
import Derived.Test.YtmnkgcgmbdkjaaaDoorRefAPSuperPlays
import Derived.Deep.RegionHeld3
import Derived.Outline
namespace Go.Proofs.YtmnkgcgmbdkjaaaDoor
open Go.RowKit Go.Extern.Stop Go.Stop Go.Extern Go.Proofs.YtmnkgcgmbdkjaaaDoorW.PrintWords Go.Proofs.YtmnkgcgmbdkjaaaDoorW.PrintLast Go.Proofs.YtmnkgcgmbdkjaaaDoorW.PrintMore Go.Proofs.YtmnkgcgmbdkjaaaDoor.PSuperPlays
set_option linter.unusedVariables false
set_option linter.unusedSimpArgs false
theorem strP_drop (p : Pg) (n : Nat) (h : n ≤ p.length) : (strP p).extract n (strP p).size = strP (p.drop n) := by
  apply ByteArray.ext
  rw [ByteArray.data_extract]
  apply Array.toList_inj.1
  rw [strP_size]
  simp [strP]
  exact List.take_of_length_le (by rw [List.length_drop]; exact Nat.le_refl _)
theorem strP_part (p : Pg) (a n : Nat) (h : a + n ≤ p.length) : (strP p).extract a (a + n) = strP ((p.drop a).take n) := by
  apply ByteArray.ext
  rw [ByteArray.data_extract]
  apply Array.toList_inj.1
  simp [strP]
theorem b8_toNat (x : UInt8) : b8 ((x.toNat : Nat) : Int) = x := by
  have h := x.toNat_lt
  unfold b8
  rw [show (((x.toNat : Nat) : Int) % 256).toNat = x.toNat by omega]
  simp
theorem getK_take (p : Pg) (hp : 4 ≤ p.length) : getK (strP p) 4 = getK (strP (p.take 4)) 4 := by
  have a : ∀ u, getK u 4 = 256 * (256 * (256 * (256 * 0 + bt u ((0 : Nat) : Int)) + bt u ((1 : Nat) : Int)) + bt u ((2 : Nat) : Int)) + bt u ((3 : Nat) : Int) := fun u => rfl
  have b : ∀ i, i < 4 → bt (strP p) ((i : Nat) : Int) = bt (strP (p.take 4)) ((i : Nat) : Int) := fun i hi => by
    have e : p[i]? = some (p[i]'(by omega)) := List.getElem?_eq_getElem (by omega)
    rw [bt_list p i _ e, bt_list (p.take 4) i _ (by rw [List.getElem?_take_of_lt hi]; exact e)]
  rw [a, a, b 0 (by omega), b 1 (by omega), b 2 (by omega), b 3 (by omega)]
theorem four_same {l q : Pg} (hl : l.length = 4) (hq : q.length = 4) (h : getK (strP l) 4 = getK (strP q) 4) : l = q := by
  have k := getK_four h
  apply List.ext_getElem (by omega)
  intro i h1 h2
  have := k i (by omega)
  rw [bt_list l i _ (List.getElem?_eq_getElem h1), bt_list q i _ (List.getElem?_eq_getElem h2)] at this
  exact UInt8.toNat_inj.1 (by omega)
section
variable {p : Pg} (hp : p.length = 128) (hs : getK (strP (p.take 4)) 4 = ((sumL (p.drop 4) : Nat) : Int)) {x4 x5 : UInt8} (h4 : p[4]? = some x4) (h5 : p[5]? = some x5)
include h4 in
theorem kind_at : kindP p = x4.toNat := by unfold kindP; rw [List.getD_eq_getElem?_getD, h4]; rfl
include h5 in
theorem size_at : sizeP p = min x5.toNat 120 := by unfold sizeP; rw [List.getD_eq_getElem?_getD, h5]; rfl
include hp in
theorem data_size : (dataP p).size = sizeP p := by
  have : sizeP p ≤ 120 := by unfold sizeP; omega
  unfold dataP; rw [strP_size, List.length_take, List.length_drop, hp]; omega
theorem payl_at (j : Nat) : (framP (kindP p) (dataP p))[4 + j]? = (payl (kindP p) (dataP p))[j]? := framP_at _ _ j
include hs in
theorem rd_right : rdC p = if kindP p = 0 ∨ framP (kindP p) (dataP p) ≠ p then 2 else 0 := by
  unfold rdC; rw [if_neg (fun e => e hs)]
include hs h4 in
theorem rd_two1 (h : x4 = 0) : rdC p = 2 := by
  rw [rd_right hs, if_pos (.inl (by rw [kind_at h4, h]; rfl))]
include hs hp h5 in
theorem rd_two2 (h : 120 < x5.toNat) : rdC p = 2 := by
  rw [rd_right hs]
  refine if_pos (.inr fun e => ?_)
  have a := payl_at (p := p) 1
  rw [e] at a
  rw [show 4 + 1 = 5 from rfl, h5] at a
  have b : (payl (kindP p) (dataP p))[1]? = some (b8 ((dataP p).size : Int)) := rfl
  rw [b, data_size hp, size_at h5] at a
  have c := congrArg (fun z => z.map UInt8.toNat) a
  simp only [Option.map_some, Option.some.injEq] at c
  have d : ((b8 ((min x5.toNat 120 : Nat) : Int)).toNat : Int) = ((min x5.toNat 120 : Nat) : Int) := b8_nat (by omega) (by omega)
  omega
theorem payl_zero (k : Int) (d : ByteArray) (j : Nat) (h : 2 + d.size ≤ j) (h2 : j < 124) : (payl k d)[j]? = some 0 := by
  obtain ⟨i, rfl⟩ : ∃ i, j = i + 2 := ⟨j - 2, by omega⟩
  have hl : d.data.toList.length = d.size := by simp
  show (d.data.toList ++ List.replicate (122 - d.size) 0)[i]? = _
  rw [List.getElem?_append_right (by omega), List.getElem?_replicate, if_pos (by omega)]
include hs hp h5 in
theorem rd_two3 (hn : x5.toNat ≤ 120) (j : Nat) (h1 : 6 + x5.toNat ≤ j) (h2 : j < 128) (y : UInt8) (hj : p[j]? = some y) (hy : y ≠ 0) : rdC p = 2 := by
  rw [rd_right hs]
  refine if_pos (.inr fun e => ?_)
  have a := payl_at (p := p) (j - 4)
  rw [e, show 4 + (j - 4) = j by omega, hj, payl_zero _ _ _ (by rw [data_size hp, size_at h5]; omega) (by omega)] at a
  exact hy (Option.some.inj a)
include hs hp h4 h5 in
theorem rd_fine (h0 : x4 ≠ 0) (hn : x5.toNat ≤ 120) (hz : ∀ j, 6 + x5.toNat ≤ j → j < 128 → p[j]? = some 0) : rdC p = 0 := by
  have h0' : x4.toNat ≠ 0 := fun e => h0 (UInt8.toNat_inj.1 e)
  have esz : sizeP p = x5.toNat := by rw [size_at h5]; omega
  have key : payl (kindP p) (dataP p) = p.drop 4 := by
    have e1 : p.drop 4 = x4 :: x5 :: p.drop 6 := by
      have a4 : p[4]'(by omega) = x4 := by have := List.getElem?_eq_getElem (l := p) (i := 4) (by omega); rw [h4] at this; exact (Option.some.inj this).symm
      have a5 : p[5]'(by omega) = x5 := by have := List.getElem?_eq_getElem (l := p) (i := 5) (by omega); rw [h5] at this; exact (Option.some.inj this).symm
      rw [List.drop_eq_getElem_cons (i := 4) (by omega), List.drop_eq_getElem_cons (i := 5) (by omega), a4, a5]
    rw [e1]
    unfold payl
    rw [data_size hp, esz, kind_at h4, b8_toNat, b8_toNat]
    congr 2
    have e2 : (dataP p).data.toList = (p.drop 6).take x5.toNat := by unfold dataP strP; rw [esz]
    rw [e2]
    have e3 : List.replicate (122 - x5.toNat) 0 = (p.drop 6).drop x5.toNat := by
      apply List.ext_getElem?; intro j
      rw [List.drop_drop, List.getElem?_drop, List.getElem?_replicate]
      by_cases h : j < 122 - x5.toNat
      · rw [if_pos h, hz _ (by omega) (by omega)]
      · rw [if_neg h, List.getElem?_eq_none (by omega)]
    rw [e3, List.take_append_drop]
  rw [rd_right hs, if_neg]
  rintro (h | h)
  · rw [kind_at h4] at h; exact h0' h
  · refine h ?_
    unfold framP
    rw [key]
    have e4 : (putB 4 ((sumL (p.drop 4) : Nat) : Int)).data.toList = p.take 4 := by
      refine four_same (sum_four _) (by rw [List.length_take]; omega) ?_
      rw [strP_data, getK_sum, hs]
    rw [e4, List.take_append_drop]
end
set_option maxHeartbeats 4000000 in
set_option maxRecDepth 100000 in
theorem rread5 (p : Pg) (hp : p.length = 128) (w : World) : Calls Tryd.prog 38 #[.agg (pv p).toArray] w fun e w' => e = .returned (.tuple #[.int .i64 (rdK p), .string (rdD p), .int .i64 (rdC p)]) ∧ Below w.heap.size w w' := by
  have HP0 := Lib.hid (PgAt.new w 35 p hp)
  have HB0 : Hid (Below w.heap.size w (w.alloc (.cells (pv p).toArray 35))) := Lib.hid ((Below.refl _ _).alloc (Nat.le_refl _) _)
  have cv0 := conv_part HP0.out 0 128 128 (by omega)
  rw [List.drop_zero, List.take_of_length_le (by omega)] at cv0
  go_enter Tryd.func38, Tryd.ntmps38
  go_wp2_with fail
  obtain ⟨W, hW⟩ : ∃ q, q = w.alloc (.cells (pv p).toArray 35) := ⟨_, rfl⟩
  rw [← hW] at HP0 HB0 ⊢
  clear hW cv0
  obtain ⟨s, hs⟩ : ∃ q, q = strP p := ⟨_, rfl⟩
  have hz : s.size = 128 := by rw [hs, strP_size, hp]
  have hx : s.extract 4 s.size = strP (p.drop 4) := by rw [hs]; exact strP_drop p 4 (by omega)
  rw [hz] at hx
  rw [← hs]
  have HSP := Lib.hid hs
  have HG := Lib.hid (fun w => rget_any s w (by omega))
  have HU := Lib.hid (fun w => refsum_any (strP (p.drop 4)) (by rw [strP_size, List.length_drop]; omega) w)
  clear hs
  rw [byl_strP] at HU
  have hg : getK s 4 = getK (strP (p.take 4)) 4 := by rw [HSP.out]; exact getK_take p (by omega)
  have hslt := sumL_lt (p.drop 4)
  obtain ⟨sm, hsm⟩ : ∃ q, q = sumL (p.drop 4) := ⟨_, rfl⟩
  obtain ⟨G, hG⟩ : ∃ q, q = getK s 4 := ⟨_, rfl⟩
  rw [← hsm] at HU hslt
  rw [← hG] at HG hg
  have ew : IntKind.i64.wrap (sm : Int) = (sm : Int) := by simp [IntKind.wrap, IntKind.bits, IntKind.signed]; omega
  have HGG := Lib.hid hg
  have HSM := Lib.hid hsm
  clear hg hG hsm
  go_region_held3 (fun w' => KF W w') (first | assumption | exact KF.refl _ | exact KF.drew (KF.refl _)) (first | (go_at_call 79; (with_reducible refine (HG.out _).mono ?_); rintro e wn ⟨rfl, hb⟩; have hK := KF.step (by assumption) hb; clear hb) | (go_at_call 37; (with_reducible refine (HU.out _).mono ?_); rintro e wn ⟨rfl, hb⟩; have hK := KF.step (by assumption) hb; clear hb))
  have HB1 : Hid (Below w.heap.size w wn) := Lib.hid (HB0.out.trans (Below.mono hK HB0.out.size))
  have HP1 : Hid (PgAt wn w.heap.size p) := Lib.hid (HP0.out.under hK HP0.out.lt)
  clear hK HP0 HB0 HG HU
  by_cases hne : G = (sm : Int)
  · have hneb : (G != (sm : Int)) = false := by simpa using hne
    have HS : Hid (getK (strP (p.take 4)) 4 = ((sumL (p.drop 4) : Nat) : Int)) := Lib.hid (by rw [← HGG.out, ← HSM.out]; exact hne)
    clear hne
    obtain ⟨x4, hx4⟩ : ∃ x, p[4]? = some x := ⟨_, List.getElem?_eq_getElem (by omega)⟩
    obtain ⟨x5, hx5⟩ : ∃ x, p[5]? = some x := ⟨_, List.getElem?_eq_getElem (by omega)⟩
    have c4 := HP1.out.byte 4 x4 hx4
    have c5 := HP1.out.byte 5 x5 hx5
    have H4 := Lib.hid hx4
    have H5 := Lib.hid hx5
    have HPL := Lib.hid hp
    have ew5 := (byte_wraps x5).2
    have ew4 := (byte_wraps x4).2
    have hx5lt := x5.toNat_lt
    clear hx4 hx5 hp
    by_cases h0 : x4 = 0
    · have h0b : ((x4.toNat : Int) == 0) = true := by rw [h0]; rfl
      have hrd := rd_two1 HS.out H4.out h0
      obtain ⟨hk, hdd⟩ := fr_bad hrd (by decide)
      have HRD := Lib.hid (And.intro hrd (And.intro hk hdd))
      clear h0 hrd hk hdd
      go_wp2_with fail
      go_ret3
      exact ⟨by rw [HRD.out.1, HRD.out.2.1, HRD.out.2.2]; rfl, HB1.out⟩
    · have h0b : ((x4.toNat : Int) == 0) = false := by have : x4.toNat ≠ 0 := fun e => h0 (UInt8.toNat_inj.1 e); simp; omega
      by_cases hn : 120 < x5.toNat
      · have hnb : decide (120 < (x5.toNat : Int)) = true := by simp; omega
        have hrd := rd_two2 HPL.out HS.out H5.out hn
        obtain ⟨hk, hdd⟩ := fr_bad hrd (by decide)
        have HRD := Lib.hid (And.intro hrd (And.intro hk hdd))
        clear h0 hrd hk hdd hn
        go_wp2_with fail
        go_ret3
        exact ⟨by rw [HRD.out.1, HRD.out.2.1, HRD.out.2.2]; rfl, HB1.out⟩
      · have hnb : decide (120 < (x5.toNat : Int)) = false := by simp; omega
        obtain ⟨n, hnn⟩ : ∃ n, n = x5.toNat := ⟨_, rfl⟩
        have HN := Lib.hid hnn
        have hn120 : n ≤ 120 := by omega
        have H0 := Lib.hid h0
        rw [← hnn] at c5 ew5 hnb
        clear hnn hn h0 hx5lt
        have e6 : wrap64 (6 + (n : Int)) = ((6 + n : Nat) : Int) := by unfold wrap64; omega
        have e6b : IntKind.i64.wrap (6 + (n : Int)) = ((6 + n : Nat) : Int) := by simp [IntKind.wrap, IntKind.bits, IntKind.signed]; omega
        go_wp2_with fail
        go_loopg [7] (128 - (6 + n)) (fun gg s7 wr => ∃ i : Nat, 6 + n ≤ i ∧ i ≤ 128 ∧ 128 - i ≤ gg ∧ s7 = .int .i64 i ∧ Hid (Below wn.heap.size wn wr ∧ ∀ j, 6 + n ≤ j → j < i → p[j]? = some 0))
        case atStart => exact ⟨6 + n, by omega, by omega, by omega, by simp, Lib.hid ⟨Below.refl _ _, fun j h1 h2 => by omega⟩⟩
        case round =>
          obtain ⟨i, hi0, hi, hg, rfl, HI⟩ := hrel
          by_cases hlt : i < 128
          · have hlz : (i : Int) < 128 := by omega
            obtain ⟨y, hy⟩ : ∃ y, p[i]? = some y := ⟨_, List.getElem?_eq_getElem (by rw [HPL.out]; omega)⟩
            have cy := (HP1.out.under HI.out.1 HP1.out.lt).byte i y hy
            have HY := Lib.hid hy
            clear hy
            by_cases hy0 : y = 0
            · have hyb : ((y.toNat : Int) != 0) = false := by rw [hy0]; rfl
              have HZ := Lib.hid hy0
              clear hy0
              go_wp2_with fail
              go_roundg (128 - (i + 1))
              case measure => omega
              case rel => exact ⟨i + 1, by omega, by omega, by omega, by go_num, Lib.hid ⟨HI.out.1, fun j h1 h2 => by rcases Nat.lt_or_ge j i with h | h; exact HI.out.2 j h1 h; rw [show j = i by omega, HY.out, HZ.out]⟩⟩
            · have hyb : ((y.toNat : Int) != 0) = true := by have : y.toNat ≠ 0 := fun e => hy0 (UInt8.toNat_inj.1 e); simp; omega
              have hrd := rd_two3 HPL.out HS.out H5.out (by rw [← HN.out]; exact hn120) i (by rw [← HN.out]; exact hi0) hlt y HY.out hy0
              obtain ⟨hk, hdd⟩ := fr_bad hrd (by decide)
              have HRD := Lib.hid (And.intro hrd (And.intro hk hdd))
              clear hy0 hrd hk hdd
              go_wp2_with fail
              go_ret3
              exact ⟨by rw [HRD.out.1, HRD.out.2.1, HRD.out.2.2]; rfl, HB1.out.trans (HI.out.1.mono HB1.out.size)⟩
          · have hlz : ¬ (i : Int) < 128 := by omega
            have hrd := rd_fine HPL.out HS.out H4.out H5.out H0.out (by rw [← HN.out]; exact hn120) (fun j h1 h2 => HI.out.2 j (by rw [HN.out]; exact h1) (by omega))
            have hk : rdK p = (x4.toNat : Int) := by unfold rdK; rw [if_pos hrd, kind_at H4.out]
            have hdd : rdD p = s.extract 6 (6 + n) := by unfold rdD; rw [if_pos hrd]; unfold dataP; rw [HSP.out, size_at H5.out, ← HN.out, show min n 120 = n by omega]; exact (strP_part p 6 n (by rw [HPL.out]; omega)).symm
            have HRD := Lib.hid (And.intro hrd (And.intro hk hdd))
            have c4b := (HP1.out.under HI.out.1 HP1.out.lt).byte 4 x4 H4.out
            clear hrd hk hdd c4 c5
            have q1 : (6 + (n : Int)).toNat = 6 + n := by omega
            have q2 : ¬ (6 + (n : Int) < 6) := by omega
            have q3 : 6 + n ≤ 128 := by omega
            have q4 : ¬ (128 < 6 + (n : Int)) := by omega
            have q5 : ¬ (6 + (n : Int) < 0) := by omega
            have q6 : (6 : Int) ≤ 6 + (n : Int) := by omega
            have q7 : 6 + (n : Int) ≤ 128 := by omega
            go_upto_region 12 with fail
            refine wp_region_still_lit (by kernel_rfl) (by kernel_rfl) ?_
            rw [show ({ wr with drawn := wr.drawn + 1 } : World) = wr.drew from rfl]
            obtain ⟨Wd, hWd⟩ : ∃ Wd, Wd = wr.drew := ⟨_, rfl⟩
            have HBd : Hid (Below wr.heap.size wr Wd) := Lib.hid (by rw [hWd]; exact Below.drew (Below.refl _ _))
            rw [← hWd]
            clear hWd c4b
            have c4c := (HP1.out.under (HI.out.1.trans (HBd.out.mono HI.out.1.size)) HP1.out.lt).byte 4 x4 H4.out
            still_step
            still_step
            still_step
            still_step
            still_step
            still_step
            still_step
            still_step
            still_step
            still_step
            refine wpStill_nil ?_
            go_wp2_with fail
            go_ret3
            exact ⟨by rw [HRD.out.1, HRD.out.2.1, HRD.out.2.2]; rfl, HB1.out.trans ((HI.out.1.trans (HBd.out.mono HI.out.1.size)).mono HB1.out.size)⟩
  · have hneb : (G != (sm : Int)) = true := by simpa using hne
    have hrd : rdC p = 3 := by unfold rdC; rw [if_pos (by rw [← HGG.out, ← HSM.out]; exact hne)]
    obtain ⟨hk, hdd⟩ := fr_bad hrd (by decide)
    have HRD := Lib.hid (And.intro hrd (And.intro hk hdd))
    clear hne hrd hk hdd
    go_wp2_with fail
    go_ret3
    exact ⟨by rw [HRD.out.1, HRD.out.2.1, HRD.out.2.2]; rfl, HB1.out⟩
end Go.Proofs.YtmnkgcgmbdkjaaaDoor
