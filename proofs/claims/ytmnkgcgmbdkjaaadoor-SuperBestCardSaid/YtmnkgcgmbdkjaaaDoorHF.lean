/- The reference's numbers in bytes, by contract; the reference's frames: Lay. The reference's frames: Read, by contract. Sets of numbers in 30 bytes: plain. Sets of sectors: bits.Has by contracts. Sets of sectors: dynamoref06.Has, by contracts. -/
import Derived.Test.YtmnkgcgmbdkjaaaDoorHE
import Derived.Laws.BytesArg
import Derived.Deep.LoopGhost
import Derived.Deep.RegionHeld3
import Derived.Outline
import Derived.Laws.BitsAllLaws
import Derived.Test.YtmnkgcgmbdkjaaaDoorHB
import Derived.Lib.MinMax
set_option linter.unusedVariables false
set_option linter.unusedSimpArgs false
namespace Go.Proofs.YtmnkgcgmbdkjaaaDoor
open Go.RowKit Go.Extern.Stop Go.Stop Go.Extern Go.Proofs.YtmnkgcgmbdkjaaaDoorW.PrintWords Go.Proofs.YtmnkgcgmbdkjaaaDoorW.PrintLast Go.Proofs.YtmnkgcgmbdkjaaaDoorW.PrintMore Go.Proofs.YtmnkgcgmbdkjaaaDoor.PSuperPlays
set_option linter.unusedVariables false
set_option linter.unusedSimpArgs false
theorem rput_any (n : Int) (W : World) (hn : n ≤ 9223372036854775807) (hf : fitsB 4 n = true) : Calls Tryd.prog 36 #[.int .i64 4, .int .i64 n] W fun e w' => e = .returned (.string (putB 4 n)) ∧ Below W.heap.size W w' :=
  (dynamoref03_Put.calls 7 4 n _ W (rput_f 4 n hn hf))
theorem rget_any (s : ByteArray) (W : World) (hs : 4 ≤ s.size) : Calls Tryd.prog 79 #[.string s, .int .i64 4] W fun e w' => e = .returned (.int .i64 (getK s 4)) ∧ Below W.heap.size W w' :=
  (dynamoref03_Get.calls 5 s 4 _ W (get_f s 4 0 4 (by rfl) (by omega) (by omega) 5 (by omega))).mono fun _ _ ⟨he, hd⟩ => ⟨he, hd.below⟩
/-- two bytes, a text, and zeros behind -/
def padS (k : Int) (d : ByteArray) (j : Nat) : ByteArray := ⟨([b8 k, b8 (d.size : Int)] ++ (d.data.toList ++ List.replicate j 0)).toArray⟩
theorem padS_size (k : Int) (d : ByteArray) (j : Nat) : (padS k d j).size = 2 + d.size + j := by
  show (([b8 k, b8 (d.size : Int)] ++ (d.data.toList ++ List.replicate j 0)).toArray).size = _
  simp; omega
theorem padS_step (k : Int) (d : ByteArray) (j : Nat) : padS k d j ++ (⟨#[0]⟩ : ByteArray) = padS k d (j + 1) := by
  apply ByteArray.ext
  simp [padS, List.replicate_succ']
theorem padS_zero (k : Int) (d : ByteArray) (hk : 0 ≤ k) (hk2 : k ≤ 255) (hd : d.size ≤ 120) : strOfNums [k, (d.size : Int)] ++ d = padS k d 0 := by
  apply ByteArray.ext
  have e1 : k % 256 = k := by omega
  have e2 : (d.size : Int) % 256 = d.size := by omega
  simp [padS, strOfNums, b8, e1, e2]
theorem padS_full (k : Int) (d : ByteArray) (hd : d.size ≤ 120) : padS k d (122 - d.size) = strP (payl k d) := rfl
theorem byl_strP (l : Pg) : Crc.sumN (byl (strP l)) = sumL l := by unfold strP; rw [byl_list]; rfl
/-- a page as far as it is laid -/
def upTo (s : Pg) (i : Nat) : Pg := s.take i ++ List.replicate (128 - i) 0
theorem upTo_length (s : Pg) (hs : s.length = 128) (i : Nat) (h : i ≤ 128) : (upTo s i).length = 128 := by simp [upTo]; omega
theorem upTo_step (s : Pg) (hs : s.length = 128) (i : Nat) (h : i < 128) (x : UInt8) (hx : s[i]? = some x) : spl (upTo s i) i [x] = upTo s (i + 1) := by
  have hl := upTo_length s hs i (by omega)
  have htl : (s.take i).length = i := by rw [List.length_take]; omega
  have htl2 : (s.take (i + 1)).length = i + 1 := by rw [List.length_take]; omega
  apply List.ext_getElem?; intro j
  rw [spl_get _ _ _ (by simp; omega)]
  unfold upTo
  by_cases h1 : j < i
  · rw [if_pos h1, List.getElem?_append_left (by omega), List.getElem?_append_left (by omega), List.getElem?_take_of_lt h1, List.getElem?_take_of_lt (by omega)]
  · rw [if_neg h1]
    by_cases h2 : j = i
    · subst h2; rw [if_pos (by simp), List.getElem?_append_left (by omega), List.getElem?_take_of_lt (by omega), hx]; simp
    · rw [if_neg (by simp; omega), List.getElem?_append_right (by omega), List.getElem?_append_right (by omega), htl, htl2, List.getElem?_replicate, List.getElem?_replicate]
      by_cases h3 : j < 128
      · rw [if_pos (by omega), if_pos (by omega)]
      · rw [if_neg (by omega), if_neg (by omega)]
theorem upTo_all (s : Pg) (hs : s.length = 128) : upTo s 128 = s := by
  unfold upTo; rw [List.take_of_length_le (by omega), Nat.sub_self]; simp
theorem upTo_none (s : Pg) : upTo s 0 = zp := rfl
theorem cat_strP (k : Int) (d : ByteArray) : putB 4 ((sumL (payl k d) : Nat) : Int) ++ strP (payl k d) = strP (framP k d) := by
  apply ByteArray.ext
  simp [strP, framP]
theorem byte_of (l : Pg) (i : Nat) (x : UInt8) (h : l[i]? = some x) : ∃ hi : i < (strP l).size, (strP l)[i] = x := by
  have hi := (List.getElem?_eq_some_iff.1 h).1
  refine ⟨by rw [strP_size]; exact hi, ?_⟩
  show l.toArray[i] = x
  simpa using (List.getElem?_eq_some_iff.1 h).2
set_option maxHeartbeats 4000000 in
set_option maxRecDepth 100000 in
theorem rlay5 (k : Int) (d : ByteArray) (h : frC k d = 0) (w : World) : Calls Tryd.prog 35 #[.int .i64 k, .string d] w fun e w' => e = .returned (.agg (pv (framP k d)).toArray) ∧ Below w.heap.size w w' := by
  obtain ⟨⟨h0, h1⟩, hd⟩ := frC_zero.1 h
  have hk8 : IntKind.u8.wrap k = k := by simp [IntKind.wrap, IntKind.bits, IntKind.signed]; omega
  have hs8 : IntKind.u8.wrap (d.size : Int) = (d.size : Int) := by simp [IntKind.wrap, IntKind.bits, IntKind.signed]; omega
  have hwk : k % 256 = k := by omega
  have hws : (d.size : Int) % 256 = (d.size : Int) := by omega
  have HB0 : Hid (Below w.heap.size w (w.alloc (.cells (pv zp).toArray 35))) := Lib.hid ((Below.refl _ _).alloc (Nat.le_refl _) _)
  have HR0 := Lib.hid (there_new w (pv zp).toArray 35 128 (by simp [pv_length, zp_length]))
  obtain ⟨w1, hw1⟩ : ∃ q, q = w.alloc (.cells (pv zp).toArray 35) := ⟨_, rfl⟩
  rw [← hw1] at HB0 HR0
  have hcv := run_convert_bytes_arg (P := Tryd.prog) (w := w1.alloc (.cells #[.int .u8 k, .int .u8 (d.size : Int)] 5)) 56 5 Tryd.underlying56 Tryd.underlying5 w1.heap.size 0 2 2 [k, (d.size : Int)] rfl (fun i hi => by rw [Nat.zero_add, cell_of_row _ _ i _ _ (0, 0) (heap_alloc_last w1 _)]; rcases (show i = 0 ∨ i = 1 by omega) with rfl | rfl <;> rfl) 9 Tryd.underlying9
  go_enter Tryd.func35, Tryd.ntmps35
  go_upto_region 1 with (first | ((with_reducible refine at_al 35 ?_); refine al_pr rfl rfl ?_))
  obtain ⟨s0, hs0⟩ : ∃ q, q = strOfNums [k, (d.size : Int)] := ⟨_, rfl⟩
  rw [← hs0] at hcv
  have hz0 : s0.size = 2 := by rw [hs0, strOf_size]; rfl
  have hp0 := padS_zero k d (by omega) h1 hd
  rw [← hs0] at hp0
  have HP0 := Lib.hid hp0
  clear hs0 hp0
  rw [← hw1]
  clear hw1
  go_wp2_with fail
  rw [HP0.out]
  have HB2 := Lib.hid (HB0.out.trans (((Below.refl w1.heap.size w1).alloc (Nat.le_refl _) (.cells #[.int .u8 k, .int .u8 (d.size : Int)] 5)).mono HB0.out.size))
  have HR2 := Lib.hid (World.there_alloc HR0.out (.cells #[.int .u8 k, .int .u8 (d.size : Int)] 5))
  obtain ⟨w2, hw2⟩ : ∃ q, q = w1.alloc (.cells #[.int .u8 k, .int .u8 (d.size : Int)] 5) := ⟨_, rfl⟩
  rw [← hw2] at HB2 HR2 ⊢
  clear hw2 hcv HB0 HR0 HP0 hz0 hk8 hs8 hwk hws
  go_loopg [5] 122 (fun gg s5 wr => ∃ j : Nat, j ≤ 122 - d.size ∧ 122 - d.size - j ≤ gg ∧ s5 = .string (padS k d j) ∧ Hid (Below w2.heap.size w2 wr))
  case atStart => exact ⟨0, by omega, by omega, rfl, Lib.hid (Below.refl _ _)⟩
  case round =>
    obtain ⟨j, hj, hg, rfl, HI⟩ := hrel
    obtain ⟨S, hS⟩ : ∃ q, q = padS k d j := ⟨_, rfl⟩
    have hz : S.size = 2 + d.size + j := by rw [hS]; exact padS_size k d j
    rw [← hS]
    have HSt := Lib.hid (padS_step k d j)
    rw [← hS] at HSt
    obtain ⟨N, hN⟩ : ∃ q, q = 2 + d.size + j := ⟨_, rfl⟩
    rw [← hN] at hz
    by_cases hlt : N < 124
    · have hlz : (N : Int) < 124 := by omega
      have HJ : Hid (j < 122 - d.size) := Lib.hid (by omega)
      clear hS hN
      go_wp2_with fail
      rw [HSt.out]
      go_roundg (122 - d.size - (j + 1))
      case measure => have := HJ.out; omega
      case rel => exact ⟨j + 1, by have := HJ.out; omega, by omega, rfl, HI⟩
    · have hlz : ¬ (N : Int) < 124 := by omega
      obtain rfl : j = 122 - d.size := by omega
      rw [padS_full k d hd] at hS
      have HSS := Lib.hid hS
      have hNle : N ≤ 124 := by omega
      clear hN hS HSt
      go_wp2_with fail
      have HBr : Hid (Below w.heap.size w wr) := Lib.hid (HB2.out.trans (HI.out.mono HB2.out.size))
      have HRr : Hid (wr.there w.heap.size 0 128) := Lib.hid ((Touch.of_below (S := No) HI.out).there HR2.out (fun q => q))
      clear HI HB2 HR2
      refine (refsum_any S (by rw [hz]; omega) wr).mono ?_
      rintro e w3 ⟨rfl, hb⟩
      have hSL : S.size = 124 := by rw [HSS.out, strP_size, payl_length k d (by omega)]
      rw [show Crc.sumN (byl S) = sumL (payl k d) by rw [HSS.out]; exact byl_strP _]
      have hsl := sumL_lt (payl k d)
      have HF4 := Lib.hid (sum_fits (payl k d))
      have hz4 := sum_size (payl k d)
      have HC4 := Lib.hid (cat_strP k d)
      rw [← HSS.out] at HC4
      obtain ⟨sm, hsm⟩ : ∃ q, q = sumL (payl k d) := ⟨_, rfl⟩
      rw [← hsm] at hsl HF4 hz4 HC4 ⊢
      have ew : IntKind.i64.wrap (sm : Int) = (sm : Int) := by simp [IntKind.wrap, IntKind.bits, IntKind.signed]; omega
      have HB3 := Lib.hid (HBr.out.trans (hb.mono HBr.out.size))
      have HR3 := Lib.hid ((Touch.of_below (S := No) hb).there HRr.out (fun q => q))
      clear hb HBr HRr hsm
      go_wp2_with fail
      refine (rput_any (sm : Int) w3 (by omega) HF4.out).mono ?_
      rintro e w4 ⟨rfl, hb⟩
      have HB4 := Lib.hid (HB3.out.trans (hb.mono HB3.out.size))
      have HR4 := Lib.hid ((Touch.of_below (S := No) hb).there HR3.out (fun q => q))
      clear hb HB3 HR3
      obtain ⟨s4, hs4⟩ : ∃ q, q = putB 4 (sm : Int) := ⟨_, rfl⟩
      rw [← hs4] at hz4 HC4 ⊢
      clear hs4
      go_upto_region 5 with fail
      rw [HC4.out]
      have hfl := framP_length k d (by omega)
      obtain ⟨L, hL⟩ : ∃ q, q = framP k d := ⟨_, rfl⟩
      rw [← hL] at hfl ⊢
      have HL := Lib.hid hL
      have HFL := Lib.hid hfl
      have hLS : (strP L).size = 128 := by rw [strP_size, hfl]
      clear hL hfl HC4 HSS hSL
      go_upto_region 6 with (first | ((with_reducible refine at_al 35 ?_); refine al_pr rfl rfl ?_))
      have HB5 : Hid (Below w4.heap.size w4 (w4.alloc (.cells (pv zp).toArray 35))) := Lib.hid ((Below.refl _ _).alloc (Nat.le_refl _) _)
      have HP5 : Hid (PgAt (w4.alloc (.cells (pv zp).toArray 35)) w4.heap.size (upTo L 0)) := Lib.hid (by rw [upTo_none]; exact PgAt.new _ _ _ zp_length)
      obtain ⟨w5, hw5⟩ : ∃ q, q = w4.alloc (.cells (pv zp).toArray 35) := ⟨_, rfl⟩
      rw [← hw5] at HB5 HP5 ⊢
      clear hw5
      obtain ⟨P, hP⟩ : ∃ q, q = w4.heap.size := ⟨_, rfl⟩
      rw [← hP] at HP5 ⊢
      have HPE := Lib.hid hP
      clear hP
      obtain ⟨SL, hSL⟩ : ∃ q, q = strP L := ⟨_, rfl⟩
      rw [← hSL] at hLS ⊢
      have HSL := Lib.hid hSL
      clear hSL
      go_wp2_with fail
      go_loopg [7] 128 (fun gg s7 wr => ∃ i : Nat, i ≤ 128 ∧ 128 - i ≤ gg ∧ s7 = .int .i64 i ∧ Hid (Below w4.heap.size w4 wr ∧ PgAt wr P (upTo L i)))
      case atStart => exact ⟨0, by omega, by omega, rfl, Lib.hid ⟨HB5.out, HP5.out⟩⟩
      case round =>
        obtain ⟨i, hi, hg, rfl, HI⟩ := hrel
        by_cases hlt : i < 128
        · have hlz : (i : Int) < 128 := by omega
          obtain ⟨x, hx⟩ : ∃ x, L[i]? = some x := ⟨_, List.getElem?_eq_getElem (by rw [HFL.out]; omega)⟩
          obtain ⟨y, hy⟩ : ∃ y, (upTo L i)[i]? = some y := ⟨_, List.getElem?_eq_getElem (by rw [upTo_length L HFL.out i (by omega)]; omega)⟩
          have cx := HI.out.2.byte i y hy
          have fx := HI.out.2.free i hlt
          have hb0 := byte_of L i x hx
          rw [← HSL.out] at hb0
          obtain ⟨hxs, hxe⟩ := hb0
          have HX := Lib.hid hx
          clear hx hy
          go_wp2_with fail
          have hp := HI.out.2.put i x hlt
          rw [upTo_step L HFL.out i hlt x HX.out] at hp
          have hb := HI.out.1.setCell (p := ⟨P, i, none⟩) (by rw [HPE.out]; exact Nat.le_refl _) (.int .u8 (x.toNat : Int))
          have HN := Lib.hid (And.intro hb hp)
          clear hp hb hxe
          go_roundg (128 - (i + 1))
          case measure => omega
          case rel => exact ⟨i + 1, by omega, by omega, by go_num, HN⟩
        · have hlz : ¬ (i : Int) < 128 := by omega
          obtain rfl : i = 128 := by omega
          have HP6 : Hid (PgAt wr P L) := Lib.hid (by have := HI.out.2; rwa [upTo_all L HFL.out] at this)
          have HR6 : Hid (wr.there w.heap.size 0 128) := Lib.hid ((Touch.of_below (S := No) HI.out.1).there HR4.out (fun q => q))
          have HB6 : Hid (Below w.heap.size w wr) := Lib.hid (HB4.out.trans (HI.out.1.mono HB4.out.size))
          go_wp2_with (first | ((with_reducible refine at_ld 35 (.tmp 6) ?_); refine ld_pr rfl _ rfl P (0) rfl L ?_ ?_ ?_; exact HFL.out; exact HP6.out.r) | ((with_reducible refine at_st 35 (.tmp 4) (.tmp 37) ?_); refine st_pr rfl _ _ rfl w.heap.size 0 rfl L ?_ rfl ?_ ?_; exact HFL.out; exact HR6.out))
          have hld := run_loadVar_mid (P := Tryd.prog) (wr.setCells w.heap.size 0 (pv L)) w.heap.size 0 35 (pv L) _ (World.rangeAt_setCells_same wr _ _ _ (by rw [pv_length, HFL.out]; exact HR6.out)) Tryd.underlying35 rfl (szof_pr HFL.out)
          exact bodyPost_ret (v := .agg (pv L).toArray) (results_one Tryd.results35 _ _ _ _ rfl hld) rfl ⟨by rw [HL.out], HB6.out.trans (setCells_below _ _ _ _ _ (Nat.le_refl _))⟩
end Go.Proofs.YtmnkgcgmbdkjaaaDoor
namespace Go.Proofs.YtmnkgcgmbdkjaaaDoor
open Go.RowKit Go.Extern.Stop Go.Stop Go.Extern Go.Proofs.YtmnkgcgmbdkjaaaDoorW.PrintWords Go.Proofs.YtmnkgcgmbdkjaaaDoorW.PrintLast Go.Proofs.YtmnkgcgmbdkjaaaDoorW.PrintMore Go.Proofs.YtmnkgcgmbdkjaaaDoor.PSuperPlays
set_option linter.unusedVariables false
set_option linter.unusedSimpArgs false
theorem strP_drop (p : Pg) (n : Nat) (h : n ≤ p.length) : (strP p).extract n (strP p).size = strP (p.drop n) := by
  apply ByteArray.ext
  rw [ByteArray.data_extract]
  apply Array.toList_inj.1
  rw [strP_size]
  simp [strP]
  exact List.take_of_length_le (by rw [List.length_drop]; exact Nat.le_refl _)
theorem strP_part (p : Pg) (a n : Nat) (h : a + n ≤ p.length) : (strP p).extract a (a + n) = strP ((p.drop a).take n) := by
  apply ByteArray.ext
  rw [ByteArray.data_extract]
  apply Array.toList_inj.1
  simp [strP]
theorem b8_toNat (x : UInt8) : b8 ((x.toNat : Nat) : Int) = x := by
  have h := x.toNat_lt
  unfold b8
  rw [show (((x.toNat : Nat) : Int) % 256).toNat = x.toNat by omega]
  simp
theorem getK_take (p : Pg) (hp : 4 ≤ p.length) : getK (strP p) 4 = getK (strP (p.take 4)) 4 := by
  have a : ∀ u, getK u 4 = 256 * (256 * (256 * (256 * 0 + bt u ((0 : Nat) : Int)) + bt u ((1 : Nat) : Int)) + bt u ((2 : Nat) : Int)) + bt u ((3 : Nat) : Int) := fun u => rfl
  have b : ∀ i, i < 4 → bt (strP p) ((i : Nat) : Int) = bt (strP (p.take 4)) ((i : Nat) : Int) := fun i hi => by
    have e : p[i]? = some (p[i]'(by omega)) := List.getElem?_eq_getElem (by omega)
    rw [bt_list p i _ e, bt_list (p.take 4) i _ (by rw [List.getElem?_take_of_lt hi]; exact e)]
  rw [a, a, b 0 (by omega), b 1 (by omega), b 2 (by omega), b 3 (by omega)]
theorem four_same {l q : Pg} (hl : l.length = 4) (hq : q.length = 4) (h : getK (strP l) 4 = getK (strP q) 4) : l = q := by
  have k := getK_four h
  apply List.ext_getElem (by omega)
  intro i h1 h2
  have := k i (by omega)
  rw [bt_list l i _ (List.getElem?_eq_getElem h1), bt_list q i _ (List.getElem?_eq_getElem h2)] at this
  exact UInt8.toNat_inj.1 (by omega)
section
variable {p : Pg} (hp : p.length = 128) (hs : getK (strP (p.take 4)) 4 = ((sumL (p.drop 4) : Nat) : Int)) {x4 x5 : UInt8} (h4 : p[4]? = some x4) (h5 : p[5]? = some x5)
include h4 in
theorem kind_at : kindP p = x4.toNat := by unfold kindP; rw [List.getD_eq_getElem?_getD, h4]; rfl
include h5 in
theorem size_at : sizeP p = min x5.toNat 120 := by unfold sizeP; rw [List.getD_eq_getElem?_getD, h5]; rfl
include hp in
theorem data_size : (dataP p).size = sizeP p := by
  have : sizeP p ≤ 120 := by unfold sizeP; omega
  unfold dataP; rw [strP_size, List.length_take, List.length_drop, hp]; omega
theorem payl_at (j : Nat) : (framP (kindP p) (dataP p))[4 + j]? = (payl (kindP p) (dataP p))[j]? := framP_at _ _ j
include hs in
theorem rd_right : rdC p = if kindP p = 0 ∨ framP (kindP p) (dataP p) ≠ p then 2 else 0 := by
  unfold rdC; rw [if_neg (fun e => e hs)]
include hs h4 in
theorem rd_two1 (h : x4 = 0) : rdC p = 2 := by
  rw [rd_right hs, if_pos (.inl (by rw [kind_at h4, h]; rfl))]
include hs hp h5 in
theorem rd_two2 (h : 120 < x5.toNat) : rdC p = 2 := by
  rw [rd_right hs]
  refine if_pos (.inr fun e => ?_)
  have a := payl_at (p := p) 1
  rw [e] at a
  rw [show 4 + 1 = 5 from rfl, h5] at a
  have b : (payl (kindP p) (dataP p))[1]? = some (b8 ((dataP p).size : Int)) := rfl
  rw [b, data_size hp, size_at h5] at a
  have c := congrArg (fun z => z.map UInt8.toNat) a
  simp only [Option.map_some, Option.some.injEq] at c
  have d : ((b8 ((min x5.toNat 120 : Nat) : Int)).toNat : Int) = ((min x5.toNat 120 : Nat) : Int) := b8_nat (by omega) (by omega)
  omega
theorem payl_zero (k : Int) (d : ByteArray) (j : Nat) (h : 2 + d.size ≤ j) (h2 : j < 124) : (payl k d)[j]? = some 0 := by
  obtain ⟨i, rfl⟩ : ∃ i, j = i + 2 := ⟨j - 2, by omega⟩
  have hl : d.data.toList.length = d.size := by simp
  show (d.data.toList ++ List.replicate (122 - d.size) 0)[i]? = _
  rw [List.getElem?_append_right (by omega), List.getElem?_replicate, if_pos (by omega)]
include hs hp h5 in
theorem rd_two3 (hn : x5.toNat ≤ 120) (j : Nat) (h1 : 6 + x5.toNat ≤ j) (h2 : j < 128) (y : UInt8) (hj : p[j]? = some y) (hy : y ≠ 0) : rdC p = 2 := by
  rw [rd_right hs]
  refine if_pos (.inr fun e => ?_)
  have a := payl_at (p := p) (j - 4)
  rw [e, show 4 + (j - 4) = j by omega, hj, payl_zero _ _ _ (by rw [data_size hp, size_at h5]; omega) (by omega)] at a
  exact hy (Option.some.inj a)
include hs hp h4 h5 in
theorem rd_fine (h0 : x4 ≠ 0) (hn : x5.toNat ≤ 120) (hz : ∀ j, 6 + x5.toNat ≤ j → j < 128 → p[j]? = some 0) : rdC p = 0 := by
  have h0' : x4.toNat ≠ 0 := fun e => h0 (UInt8.toNat_inj.1 e)
  have esz : sizeP p = x5.toNat := by rw [size_at h5]; omega
  have key : payl (kindP p) (dataP p) = p.drop 4 := by
    have e1 : p.drop 4 = x4 :: x5 :: p.drop 6 := by
      have a4 : p[4]'(by omega) = x4 := by have := List.getElem?_eq_getElem (l := p) (i := 4) (by omega); rw [h4] at this; exact (Option.some.inj this).symm
      have a5 : p[5]'(by omega) = x5 := by have := List.getElem?_eq_getElem (l := p) (i := 5) (by omega); rw [h5] at this; exact (Option.some.inj this).symm
      rw [List.drop_eq_getElem_cons (i := 4) (by omega), List.drop_eq_getElem_cons (i := 5) (by omega), a4, a5]
    rw [e1]
    unfold payl
    rw [data_size hp, esz, kind_at h4, b8_toNat, b8_toNat]
    congr 2
    have e2 : (dataP p).data.toList = (p.drop 6).take x5.toNat := by unfold dataP strP; rw [esz]
    rw [e2]
    have e3 : List.replicate (122 - x5.toNat) 0 = (p.drop 6).drop x5.toNat := by
      apply List.ext_getElem?; intro j
      rw [List.drop_drop, List.getElem?_drop, List.getElem?_replicate]
      by_cases h : j < 122 - x5.toNat
      · rw [if_pos h, hz _ (by omega) (by omega)]
      · rw [if_neg h, List.getElem?_eq_none (by omega)]
    rw [e3, List.take_append_drop]
  rw [rd_right hs, if_neg]
  rintro (h | h)
  · rw [kind_at h4] at h; exact h0' h
  · refine h ?_
    unfold framP
    rw [key]
    have e4 : (putB 4 ((sumL (p.drop 4) : Nat) : Int)).data.toList = p.take 4 := by
      refine four_same (sum_four _) (by rw [List.length_take]; omega) ?_
      rw [strP_data, getK_sum, hs]
    rw [e4, List.take_append_drop]
end
set_option maxHeartbeats 4000000 in
set_option maxRecDepth 100000 in
theorem rread5 (p : Pg) (hp : p.length = 128) (w : World) : Calls Tryd.prog 38 #[.agg (pv p).toArray] w fun e w' => e = .returned (.tuple #[.int .i64 (rdK p), .string (rdD p), .int .i64 (rdC p)]) ∧ Below w.heap.size w w' := by
  have HP0 := Lib.hid (PgAt.new w 35 p hp)
  have HB0 : Hid (Below w.heap.size w (w.alloc (.cells (pv p).toArray 35))) := Lib.hid ((Below.refl _ _).alloc (Nat.le_refl _) _)
  have cv0 := conv_part HP0.out 0 128 128 (by omega)
  rw [List.drop_zero, List.take_of_length_le (by omega)] at cv0
  go_enter Tryd.func38, Tryd.ntmps38
  go_wp2_with fail
  obtain ⟨W, hW⟩ : ∃ q, q = w.alloc (.cells (pv p).toArray 35) := ⟨_, rfl⟩
  rw [← hW] at HP0 HB0 ⊢
  clear hW cv0
  obtain ⟨s, hs⟩ : ∃ q, q = strP p := ⟨_, rfl⟩
  have hz : s.size = 128 := by rw [hs, strP_size, hp]
  have hx : s.extract 4 s.size = strP (p.drop 4) := by rw [hs]; exact strP_drop p 4 (by omega)
  rw [hz] at hx
  rw [← hs]
  have HSP := Lib.hid hs
  have HG := Lib.hid (fun w => rget_any s w (by omega))
  have HU := Lib.hid (fun w => refsum_any (strP (p.drop 4)) (by rw [strP_size, List.length_drop]; omega) w)
  clear hs
  rw [byl_strP] at HU
  have hg : getK s 4 = getK (strP (p.take 4)) 4 := by rw [HSP.out]; exact getK_take p (by omega)
  have hslt := sumL_lt (p.drop 4)
  obtain ⟨sm, hsm⟩ : ∃ q, q = sumL (p.drop 4) := ⟨_, rfl⟩
  obtain ⟨G, hG⟩ : ∃ q, q = getK s 4 := ⟨_, rfl⟩
  rw [← hsm] at HU hslt
  rw [← hG] at HG hg
  have ew : IntKind.i64.wrap (sm : Int) = (sm : Int) := by simp [IntKind.wrap, IntKind.bits, IntKind.signed]; omega
  have HGG := Lib.hid hg
  have HSM := Lib.hid hsm
  clear hg hG hsm
  go_region_held3 (fun w' => KF W w') (first | assumption | exact KF.refl _ | exact KF.drew (KF.refl _)) (first | (go_at_call 79; (with_reducible refine (HG.out _).mono ?_); rintro e wn ⟨rfl, hb⟩; have hK := KF.step (by assumption) hb; clear hb) | (go_at_call 37; (with_reducible refine (HU.out _).mono ?_); rintro e wn ⟨rfl, hb⟩; have hK := KF.step (by assumption) hb; clear hb))
  have HB1 : Hid (Below w.heap.size w wn) := Lib.hid (HB0.out.trans (Below.mono hK HB0.out.size))
  have HP1 : Hid (PgAt wn w.heap.size p) := Lib.hid (HP0.out.under hK HP0.out.lt)
  clear hK HP0 HB0 HG HU
  by_cases hne : G = (sm : Int)
  · have hneb : (G != (sm : Int)) = false := by simpa using hne
    have HS : Hid (getK (strP (p.take 4)) 4 = ((sumL (p.drop 4) : Nat) : Int)) := Lib.hid (by rw [← HGG.out, ← HSM.out]; exact hne)
    clear hne
    obtain ⟨x4, hx4⟩ : ∃ x, p[4]? = some x := ⟨_, List.getElem?_eq_getElem (by omega)⟩
    obtain ⟨x5, hx5⟩ : ∃ x, p[5]? = some x := ⟨_, List.getElem?_eq_getElem (by omega)⟩
    have c4 := HP1.out.byte 4 x4 hx4
    have c5 := HP1.out.byte 5 x5 hx5
    have H4 := Lib.hid hx4
    have H5 := Lib.hid hx5
    have HPL := Lib.hid hp
    have ew5 := (byte_wraps x5).2
    have ew4 := (byte_wraps x4).2
    have hx5lt := x5.toNat_lt
    clear hx4 hx5 hp
    by_cases h0 : x4 = 0
    · have h0b : ((x4.toNat : Int) == 0) = true := by rw [h0]; rfl
      have hrd := rd_two1 HS.out H4.out h0
      obtain ⟨hk, hdd⟩ := fr_bad hrd (by decide)
      have HRD := Lib.hid (And.intro hrd (And.intro hk hdd))
      clear h0 hrd hk hdd
      go_wp2_with fail
      go_ret3
      exact ⟨by rw [HRD.out.1, HRD.out.2.1, HRD.out.2.2]; rfl, HB1.out⟩
    · have h0b : ((x4.toNat : Int) == 0) = false := by have : x4.toNat ≠ 0 := fun e => h0 (UInt8.toNat_inj.1 e); simp; omega
      by_cases hn : 120 < x5.toNat
      · have hnb : decide (120 < (x5.toNat : Int)) = true := by simp; omega
        have hrd := rd_two2 HPL.out HS.out H5.out hn
        obtain ⟨hk, hdd⟩ := fr_bad hrd (by decide)
        have HRD := Lib.hid (And.intro hrd (And.intro hk hdd))
        clear h0 hrd hk hdd hn
        go_wp2_with fail
        go_ret3
        exact ⟨by rw [HRD.out.1, HRD.out.2.1, HRD.out.2.2]; rfl, HB1.out⟩
      · have hnb : decide (120 < (x5.toNat : Int)) = false := by simp; omega
        obtain ⟨n, hnn⟩ : ∃ n, n = x5.toNat := ⟨_, rfl⟩
        have HN := Lib.hid hnn
        have hn120 : n ≤ 120 := by omega
        have H0 := Lib.hid h0
        rw [← hnn] at c5 ew5 hnb
        clear hnn hn h0 hx5lt
        have e6 : wrap64 (6 + (n : Int)) = ((6 + n : Nat) : Int) := by unfold wrap64; omega
        have e6b : IntKind.i64.wrap (6 + (n : Int)) = ((6 + n : Nat) : Int) := by simp [IntKind.wrap, IntKind.bits, IntKind.signed]; omega
        go_wp2_with fail
        go_loopg [7] (128 - (6 + n)) (fun gg s7 wr => ∃ i : Nat, 6 + n ≤ i ∧ i ≤ 128 ∧ 128 - i ≤ gg ∧ s7 = .int .i64 i ∧ Hid (Below wn.heap.size wn wr ∧ ∀ j, 6 + n ≤ j → j < i → p[j]? = some 0))
        case atStart => exact ⟨6 + n, by omega, by omega, by omega, by simp, Lib.hid ⟨Below.refl _ _, fun j h1 h2 => by omega⟩⟩
        case round =>
          obtain ⟨i, hi0, hi, hg, rfl, HI⟩ := hrel
          by_cases hlt : i < 128
          · have hlz : (i : Int) < 128 := by omega
            obtain ⟨y, hy⟩ : ∃ y, p[i]? = some y := ⟨_, List.getElem?_eq_getElem (by rw [HPL.out]; omega)⟩
            have cy := (HP1.out.under HI.out.1 HP1.out.lt).byte i y hy
            have HY := Lib.hid hy
            clear hy
            by_cases hy0 : y = 0
            · have hyb : ((y.toNat : Int) != 0) = false := by rw [hy0]; rfl
              have HZ := Lib.hid hy0
              clear hy0
              go_wp2_with fail
              go_roundg (128 - (i + 1))
              case measure => omega
              case rel => exact ⟨i + 1, by omega, by omega, by omega, by go_num, Lib.hid ⟨HI.out.1, fun j h1 h2 => by rcases Nat.lt_or_ge j i with h | h; exact HI.out.2 j h1 h; rw [show j = i by omega, HY.out, HZ.out]⟩⟩
            · have hyb : ((y.toNat : Int) != 0) = true := by have : y.toNat ≠ 0 := fun e => hy0 (UInt8.toNat_inj.1 e); simp; omega
              have hrd := rd_two3 HPL.out HS.out H5.out (by rw [← HN.out]; exact hn120) i (by rw [← HN.out]; exact hi0) hlt y HY.out hy0
              obtain ⟨hk, hdd⟩ := fr_bad hrd (by decide)
              have HRD := Lib.hid (And.intro hrd (And.intro hk hdd))
              clear hy0 hrd hk hdd
              go_wp2_with fail
              go_ret3
              exact ⟨by rw [HRD.out.1, HRD.out.2.1, HRD.out.2.2]; rfl, HB1.out.trans (HI.out.1.mono HB1.out.size)⟩
          · have hlz : ¬ (i : Int) < 128 := by omega
            have hrd := rd_fine HPL.out HS.out H4.out H5.out H0.out (by rw [← HN.out]; exact hn120) (fun j h1 h2 => HI.out.2 j (by rw [HN.out]; exact h1) (by omega))
            have hk : rdK p = (x4.toNat : Int) := by unfold rdK; rw [if_pos hrd, kind_at H4.out]
            have hdd : rdD p = s.extract 6 (6 + n) := by unfold rdD; rw [if_pos hrd]; unfold dataP; rw [HSP.out, size_at H5.out, ← HN.out, show min n 120 = n by omega]; exact (strP_part p 6 n (by rw [HPL.out]; omega)).symm
            have HRD := Lib.hid (And.intro hrd (And.intro hk hdd))
            have c4b := (HP1.out.under HI.out.1 HP1.out.lt).byte 4 x4 H4.out
            clear hrd hk hdd c4 c5
            have q1 : (6 + (n : Int)).toNat = 6 + n := by omega
            have q2 : ¬ (6 + (n : Int) < 6) := by omega
            have q3 : 6 + n ≤ 128 := by omega
            have q4 : ¬ (128 < 6 + (n : Int)) := by omega
            have q5 : ¬ (6 + (n : Int) < 0) := by omega
            have q6 : (6 : Int) ≤ 6 + (n : Int) := by omega
            have q7 : 6 + (n : Int) ≤ 128 := by omega
            go_upto_region 12 with fail
            refine wp_region_still_lit (by kernel_rfl) (by kernel_rfl) ?_
            rw [show ({ wr with drawn := wr.drawn + 1 } : World) = wr.drew from rfl]
            obtain ⟨Wd, hWd⟩ : ∃ Wd, Wd = wr.drew := ⟨_, rfl⟩
            have HBd : Hid (Below wr.heap.size wr Wd) := Lib.hid (by rw [hWd]; exact Below.drew (Below.refl _ _))
            rw [← hWd]
            clear hWd c4b
            have c4c := (HP1.out.under (HI.out.1.trans (HBd.out.mono HI.out.1.size)) HP1.out.lt).byte 4 x4 H4.out
            still_step
            still_step
            still_step
            still_step
            still_step
            still_step
            still_step
            still_step
            still_step
            still_step
            refine wpStill_nil ?_
            go_wp2_with fail
            go_ret3
            exact ⟨by rw [HRD.out.1, HRD.out.2.1, HRD.out.2.2]; rfl, HB1.out.trans ((HI.out.1.trans (HBd.out.mono HI.out.1.size)).mono HB1.out.size)⟩
  · have hneb : (G != (sm : Int)) = true := by simpa using hne
    have hrd : rdC p = 3 := by unfold rdC; rw [if_pos (by rw [← HGG.out, ← HSM.out]; exact hne)]
    obtain ⟨hk, hdd⟩ := fr_bad hrd (by decide)
    have HRD := Lib.hid (And.intro hrd (And.intro hk hdd))
    clear hne hrd hk hdd
    go_wp2_with fail
    go_ret3
    exact ⟨by rw [HRD.out.1, HRD.out.2.1, HRD.out.2.2]; rfl, HB1.out⟩
end Go.Proofs.YtmnkgcgmbdkjaaaDoor
namespace Go.Proofs.YtmnkgcgmbdkjaaaDoor
open Go.RowKit Go.Proofs.YtmnkgcgmbdkjaaaDoorW.PrintWords Go.Proofs.YtmnkgcgmbdkjaaaDoorW.PrintLast Go.Proofs.YtmnkgcgmbdkjaaaDoorW.PrintMore Go.Proofs.YtmnkgcgmbdkjaaaDoor.PSuperPlays
set_option linter.unusedVariables false
set_option linter.unusedSimpArgs false

def mayN (n : Int) : Bool := decide (0 ≤ n ∧ n < 240)
/-- is a number in a set? -/
def hasB (l : Pg) (n : Int) : Bool := mayN n && (l.getD (n.toNat / 8) 0).toNat.testBit (n.toNat % 8)
/-- a number's bit -/
def bit8 (n : Nat) : UInt8 := UInt8.ofNat (2 ^ (n % 8))
def withB (l : Pg) (n : Int) : Pg := if mayN n = true then l.set (n.toNat / 8) (l.getD (n.toNat / 8) 0 ||| bit8 n.toNat) else l
def woB (l : Pg) (n : Int) : Pg := if mayN n = true then l.set (n.toNat / 8) (l.getD (n.toNat / 8) 0 &&& (255 - bit8 n.toNat)) else l
def bothB (l t : Pg) : Pg := List.zipWith (· ||| ·) l t
theorem may_n (n : Int) : bits_may.f n = some (mayN n) := by
  unfold bits_may.f mayN
  by_cases h : n ≥ 0
  · rw [if_pos h]; simp [show (0 ≤ n) from h]
  · rw [if_neg h]; simp; omega
theorem bit8_nat (n : Nat) : (bit8 n).toNat = 2 ^ (n % 8) := by
  unfold bit8
  have h : n % 8 < 8 := by omega
  have : 2 ^ (n % 8) ≤ 2 ^ 7 := Nat.pow_le_pow_right (by omega) (by omega)
  rw [UInt8.toNat_ofNat', Nat.mod_eq_of_lt (by omega)]
theorem bit_f (n : Nat) : bits_bit.f (n : Int) = some (((bit8 n).toNat : Nat) : Int) := by
  have e : Int.tmod (n : Int) 8 = ((n % 8 : Nat) : Int) := by rw [Int.tmod_eq_emod_of_nonneg (by omega)]; omega
  rw [bit8_nat]
  unfold bits_bit.f
  rw [e, if_pos (by omega)]
  have h : n % 8 < 8 := by omega
  generalize n % 8 = k at h
  have h2 : k = 0 ∨ k = 1 ∨ k = 2 ∨ k = 3 ∨ k = 4 ∨ k = 5 ∨ k = 6 ∨ k = 7 := by omega
  rcases h2 with rfl | rfl | rfl | rfl | rfl | rfl | rfl | rfl <;> rfl
theorem and_pow (x k : Nat) : x &&& 2 ^ k = if x.testBit k = true then 2 ^ k else 0 := by
  apply Nat.eq_of_testBit_eq
  intro i
  rw [Nat.testBit_and, Nat.testBit_two_pow]
  by_cases h : k = i
  · subst h; cases hb : x.testBit k <;> simp [Nat.testBit_two_pow]
  · cases hb : x.testBit k <;> simp [h, Nat.testBit_two_pow]
/-- what bits.Has asks -/
theorem and_has (x : UInt8) (n : Nat) : (Go.bits .and .u8 (x.toNat : Int) (((bit8 n).toNat : Nat) : Int) != 0) = x.toNat.testBit (n % 8) := by
  rw [u8_and_nat _ _ x.toNat_lt (bit8 n).toNat_lt, bit8_nat, and_pow]
  have h0 : 0 < 2 ^ (n % 8) := Nat.two_pow_pos _
  by_cases c : x.toNat.testBit (n % 8) = true
  · rw [if_pos c, c]; have : ((2 ^ (n % 8) : Nat) : Int) ≠ 0 := by omega
    simpa using this
  · rw [if_neg c]; simp at c; rw [c]; rfl
theorem or_bit (x y : UInt8) : Go.bits .or .u8 (x.toNat : Int) (y.toNat : Int) = ((x ||| y).toNat : Int) := by
  rw [u8_or_nat _ _ x.toNat_lt y.toNat_lt, UInt8.toNat_or]
theorem andNot_bit (x : UInt8) (n : Nat) : Go.bits .andNot .u8 (x.toNat : Int) (((bit8 n).toNat : Nat) : Int) = ((x &&& (255 - bit8 n)).toNat : Int) := by
  have hy := (bit8 n).toNat_lt
  rw [u8_andNot_nat _ _ x.toNat_lt hy, UInt8.toNat_and, UInt8.toNat_sub_of_le _ _ (by rw [UInt8.le_iff_toNat_le]; show (bit8 n).toNat ≤ 255; omega)]
  rfl
theorem or_test (x : UInt8) (n k : Nat) (hk : k < 8) : (x ||| bit8 n).toNat.testBit k = (x.toNat.testBit k || decide (n % 8 = k)) := by
  rw [UInt8.toNat_or, Nat.testBit_or, bit8_nat, Nat.testBit_two_pow]
theorem andNot_test (x : UInt8) (n k : Nat) (hk : k < 8) : (x &&& (255 - bit8 n)).toNat.testBit k = (x.toNat.testBit k && !decide (n % 8 = k)) := by
  have hy := (bit8 n).toNat_lt
  rw [UInt8.toNat_and, Nat.testBit_and, UInt8.toNat_sub_of_le _ _ (by rw [UInt8.le_iff_toNat_le]; show (bit8 n).toNat ≤ 255; omega)]
  congr 1
  show (255 - (bit8 n).toNat).testBit k = _
  rw [bit8_nat]
  have hall : ∀ m, m < 8 → ∀ k, k < 8 → (255 - 2 ^ m).testBit k = !decide (m = k) := by decide
  exact hall _ (Nat.mod_lt _ (by omega)) _ hk
theorem withB_length (l : Pg) (n : Int) : (withB l n).length = l.length := by unfold withB; split <;> simp
theorem woB_length (l : Pg) (n : Int) : (woB l n).length = l.length := by unfold woB; split <;> simp
theorem bothB_length {l t : Pg} (hl : l.length = 30) (ht : t.length = 30) : (bothB l t).length = 30 := by unfold bothB; rw [List.length_zipWith]; omega
theorem getD_set (l : Pg) (i j : Nat) (x : UInt8) (hi : i < l.length) : (l.set i x).getD j 0 = if i = j then x else l.getD j 0 := by
  rw [List.getD_eq_getElem?_getD, List.getD_eq_getElem?_getD]
  by_cases h : i = j
  · subst h; rw [if_pos rfl, List.getElem?_set_self hi]; rfl
  · rw [if_neg h, List.getElem?_set_ne h]
theorem mayN_iff {n : Int} : mayN n = true ↔ 0 ≤ n ∧ n < 240 := by unfold mayN; exact decide_eq_true_iff
theorem has_with (l : Pg) (hl : l.length = 30) (n m : Int) : hasB (withB l n) m = (hasB l m || (mayN n && decide (m = n))) := by
  unfold withB
  by_cases hn : mayN n = true
  · rw [if_pos hn, hn, Bool.true_and]
    unfold hasB
    by_cases hm : mayN m = true
    · rw [hm, Bool.true_and, Bool.true_and]
      rw [mayN_iff] at hn hm
      rw [getD_set _ _ _ _ (by omega)]
      by_cases h : n.toNat / 8 = m.toNat / 8
      · rw [if_pos h, or_test _ _ _ (by omega), h]
        congr 1
        rw [decide_eq_decide]; omega
      · rw [if_neg h, decide_eq_false (by omega), Bool.or_false]
    · simp only [Bool.not_eq_true] at hm
      rw [hm, Bool.false_and, Bool.false_and, Bool.false_or]
      symm; rw [decide_eq_false_iff_not]
      rintro rfl; rw [hn] at hm; cases hm
  · rw [if_neg hn]; simp at hn; rw [hn]; simp
theorem has_wo (l : Pg) (hl : l.length = 30) (n m : Int) : hasB (woB l n) m = (hasB l m && !decide (m = n)) := by
  unfold woB
  by_cases hn : mayN n = true
  · rw [if_pos hn]
    unfold hasB
    by_cases hm : mayN m = true
    · rw [hm, Bool.true_and, Bool.true_and]
      rw [mayN_iff] at hn hm
      rw [getD_set _ _ _ _ (by omega)]
      by_cases h : n.toNat / 8 = m.toNat / 8
      · rw [if_pos h, andNot_test _ _ _ (by omega), h]
        congr 2
        rw [decide_eq_decide]; omega
      · rw [if_neg h, decide_eq_false (show ¬ m = n by omega), Bool.not_false, Bool.and_true]
    · simp only [Bool.not_eq_true] at hm
      rw [hm]; simp
  · rw [if_neg hn]
    by_cases e : m = n
    · subst e; unfold hasB; simp at hn; rw [hn]; simp
    · rw [decide_eq_false e]; simp
theorem has_both (l t : Pg) (hl : l.length = 30) (ht : t.length = 30) (m : Int) : hasB (bothB l t) m = (hasB l m || hasB t m) := by
  unfold hasB
  by_cases hm : mayN m = true
  · rw [hm, Bool.true_and, Bool.true_and, Bool.true_and]
    rw [mayN_iff] at hm
    have hi : m.toNat / 8 < 30 := by omega
    have e : (bothB l t).getD (m.toNat / 8) 0 = l.getD (m.toNat / 8) 0 ||| t.getD (m.toNat / 8) 0 := by
      unfold bothB
      rw [List.getD_eq_getElem?_getD, List.getD_eq_getElem?_getD, List.getD_eq_getElem?_getD, List.getElem?_eq_getElem (by rw [List.length_zipWith]; omega), List.getElem?_eq_getElem (by omega), List.getElem?_eq_getElem (by omega), List.getElem_zipWith]
      rfl
    rw [e, UInt8.toNat_or, Nat.testBit_or]
  · simp only [Bool.not_eq_true] at hm
    rw [hm]; rfl
theorem has_zero (m : Int) : hasB (List.replicate 30 0) m = false := by
  unfold hasB
  rw [List.getD_eq_getElem?_getD, List.getElem?_replicate]
  split <;> simp
theorem hasB_may {l : Pg} {m : Int} (h : hasB l m = true) : 0 ≤ m ∧ m < 240 := by
  unfold hasB at h
  rw [Bool.and_eq_true] at h
  exact mayN_iff.1 h.1
/-- sets with the same numbers are the same -/
theorem set_ext {l t : Pg} (hl : l.length = 30) (ht : t.length = 30) (h : ∀ m : Int, hasB l m = hasB t m) : l = t := by
  apply List.ext_getElem (by omega)
  intro i h1 h2
  apply UInt8.toNat_inj.1
  apply Nat.eq_of_testBit_eq
  intro k
  by_cases hk : k < 8
  · have := h ((8 * i + k : Nat) : Int)
    unfold hasB at this
    have hm : mayN ((8 * i + k : Nat) : Int) = true := mayN_iff.2 (by omega)
    rw [hm, Bool.true_and, Bool.true_and, Int.toNat_natCast, show (8 * i + k) / 8 = i by omega, show (8 * i + k) % 8 = k by omega, List.getD_eq_getElem?_getD, List.getD_eq_getElem?_getD, List.getElem?_eq_getElem h1, List.getElem?_eq_getElem h2] at this
    exact this
  · have hb : ∀ x : UInt8, x.toNat.testBit k = false := fun x => Nat.testBit_lt_two_pow (Nat.lt_of_lt_of_le x.toNat_lt (by
      have : 2 ^ 8 ≤ 2 ^ k := Nat.pow_le_pow_right (by omega) (by omega)
      simpa using this))
    rw [hb, hb]
/-- the least number from n on, of so many, that isn't in a set; none -/
def firstB (l : Pg) (n : Nat) : Nat → Option Nat
  | 0 => none
  | d + 1 => if hasB l (n : Int) = true then firstB l (n + 1) d else some n
end Go.Proofs.YtmnkgcgmbdkjaaaDoor
namespace Go.Proofs.YtmnkgcgmbdkjaaaDoor
open Go.RowKit Go.Extern.Stop Go.Stop Go.Extern Go.Proofs.YtmnkgcgmbdkjaaaDoorW.PrintWords Go.Proofs.YtmnkgcgmbdkjaaaDoorW.PrintLast Go.Proofs.YtmnkgcgmbdkjaaaDoorW.PrintMore Go.Proofs.YtmnkgcgmbdkjaaaDoor.PSuperPlays
set_option linter.unusedVariables false
set_option linter.unusedSimpArgs false
theorem may_call (n : Int) (W : World) : Calls Tryd.prog 89 #[.int .i64 n] W fun e w' => e = .returned (.bool (mayN n)) ∧ Below W.heap.size W w' :=
  (bits_may.calls n _ W (may_n n)).mono fun _ _ ⟨he, hd⟩ => ⟨he, hd.below⟩
theorem bit_call (n : Nat) (W : World) : Calls Tryd.prog 90 #[.int .i64 (n : Int)] W fun e w' => e = .returned (.int .u8 (((bit8 n).toNat : Nat) : Int)) ∧ Below W.heap.size W w' :=
  (bits_bit.calls _ _ W (bit_f n)).mono fun _ _ ⟨he, hd⟩ => ⟨he, hd.below⟩
theorem quo8 (m : Nat) (h : m < 240) : (m : Int).tdiv 8 = ((m / 8 : Nat) : Int) := by rw [Int.tdiv_eq_ediv_of_nonneg (by omega)]; omega
theorem byte_at (l : Pg) (hl : l.length = 30) (m : Nat) (h : m < 240) : l[m / 8]? = some (l.getD (m / 8) 0) := by
  rw [List.getD_eq_getElem?_getD, List.getElem?_eq_getElem (by omega)]; rfl
theorem SetAt.touch {S : Bs} {w w' : World} {b : Nat} {p : Pg} (h : SetAt w b p) (t : Touch S w w') (hs : ¬ S b) : SetAt w' b p := ⟨t.range h.r hs, t.there h.t hs, h.l⟩
set_option maxHeartbeats 2000000 in
set_option maxRecDepth 100000 in
theorem has_no (l : Pg) (hl : l.length = 30) (n : Int) (hm : mayN n = false) (w : World) : Calls Tryd.prog 70 #[.agg (pv l).toArray, .int .i64 n] w fun e w' => e = .returned (.bool (hasB l n)) ∧ Below w.heap.size w w' := by
  have HL := Lib.hid hl
  have HMY := Lib.hid (fun W => may_call n W)
  rw [hm] at HMY
  have HRES : Hid (hasB l n = false) := Lib.hid (by unfold hasB; rw [hm]; rfl)
  clear hl hm
  have HM0 := Lib.hid (Mv.refl No w)
  have WI0 := Lib.hid (Wi.no w)
  go_enter Tryd.func70, Tryd.ntmps70
  go_upto_region 1 with fail
  have hsat : SetAt (w.alloc (.cells (pv l).toArray 70)) w.heap.size l := SetAt.new _ _ _ HL.out
  obtain ⟨w1, hw1⟩ : ∃ q, q = w.alloc (.cells (pv l).toArray 70) := ⟨_, rfl⟩
  rw [← hw1] at hsat ⊢
  have hbm : Below w.heap.size w w1 := by rw [hw1]; exact (Below.refl _ _).alloc (Nat.le_refl _) _
  have hm : Mv No No w w1 := Mv.of_below hbm
  clear hw1 hbm
  have HM_1 := Lib.hid (HM0.out.trans hm)
  clear HM0
  have WI_1 := Lib.hid (WI0.out.mono hm.size)
  clear WI0
  clear hm
  clear hsat
  have HSx : Hid (∀ wz, KF w1 wz → (fun wz => KF w1 wz) wz) := Lib.hid (fun wz h => h)
  refine wp_region_held_drew (S := fun wz => KF w1 wz) (by kernel_rfl) ?_ (fun hHeld => ?_)
  · exact HSx.out _ (KF.drew (KF.refl _))
  have hKF0 : KF w1 w1.drew := KF.drew (KF.refl _)
  refine wpAnyH_take (i := 0) (oi := { dst := Option.some 5, op := Go.Op.move (Go.Operand.tmp 1), type := 3, pos := "bits.go:23", after := #[], guard := Option.none }) (v := ?_) rfl (by kernel_rfl) (by kernel_rfl) (by kernel_rfl) (fun _ _ _ h => h) (Or.inl ⟨by rfl, ?_⟩) (by assumption) ?_
  rotate_left
  · intro w hSw; (try dsimp only at hSw); go_simp; (try with_reducible rfl)
  simp only [Act.put, List.setIfInBounds_toArray, List.set_cons_zero, List.set_cons_succ]
  refine wpAnyH_ready (rs := [1]) (by kernel_rfl) (by simp) ?_
  refine AllReadyH.cons (o := { dst := Option.some 6, op := Go.Op.call { callee := Go.Callee.value (Go.Operand.func 89), args := #[Go.Operand.tmp 5], argTypes := #[3] }, type := 4, pos := "bits.go:23", after := #[{ on := 0, ground := Go.Ground.data }], guard := Option.none }) rfl (fun K hK => ?_) AllReadyH.nil
  go_simp
  refine (HMY.out _).mono ?_
  rintro e w2 ⟨rfl, hb⟩
  have hKF1 : KF w1 w2 := KF.step hKF0 hb
  clear hb
  dsimp only
  refine hK.out _ _ (HSx.out _ hKF1) (fun hHeld1 => ?_)
  clear hK K
  try simp only [Act.put, List.setIfInBounds_toArray, List.set_cons_zero, List.set_cons_succ]
  refine wpAnyH_take (i := 2) (oi := { dst := Option.some 7, op := Go.Op.move (Go.Operand.tmp 6), type := 4, pos := "bits.go:23", after := #[{ on := 1, ground := Go.Ground.data }, { on := 1, ground := Go.Ground.chain }], guard := Option.none }) (v := ?_) rfl (by kernel_rfl) (by kernel_rfl) (by kernel_rfl) (fun _ _ _ h => h) (Or.inl ⟨by rfl, ?_⟩) (by assumption) ?_
  rotate_left
  · intro w hSw; (try dsimp only at hSw); go_simp; (try with_reducible rfl)
  simp only [Act.put, List.setIfInBounds_toArray, List.set_cons_zero, List.set_cons_succ]
  refine wpAnyH_take (i := 3) (oi := { dst := Option.some 8, op := Go.Op.move (Go.Operand.tmp 1), type := 3, pos := "bits.go:23", after := #[{ on := 2, ground := Go.Ground.guard }], guard := Option.some (2, Bool.true) }) (v := undef) rfl (by kernel_rfl) (by kernel_rfl) (by kernel_rfl) (fun _ _ _ h => h) (Or.inr ⟨by rfl, rfl⟩) (by assumption) ?_
  simp only [Act.put, List.setIfInBounds_toArray, List.set_cons_zero, List.set_cons_succ]
  refine wpAnyH_take (i := 4) (oi := { dst := Option.some 9, op := Go.Op.binOp Go.BinOp.quo 3 (Go.Operand.tmp 8) (Go.Operand.const (Go.Value.int Go.IntKind.i64 8)) 3, type := 3, pos := "bits.go:23", after := #[{ on := 3, ground := Go.Ground.data }, { on := 2, ground := Go.Ground.guard }], guard := Option.some (2, Bool.true) }) (v := undef) rfl (by kernel_rfl) (by kernel_rfl) (by kernel_rfl) (fun _ _ _ h => h) (Or.inr ⟨by rfl, rfl⟩) (by assumption) ?_
  simp only [Act.put, List.setIfInBounds_toArray, List.set_cons_zero, List.set_cons_succ]
  refine wpAnyH_take (i := 5) (oi := { dst := Option.some 10, op := Go.Op.indexAddr 70 (Go.Operand.tmp 2) (Go.Operand.tmp 9), type := 0, pos := "bits.go:23", after := #[{ on := 4, ground := Go.Ground.data }, { on := 2, ground := Go.Ground.guard }], guard := Option.some (2, Bool.true) }) (v := undef) rfl (by kernel_rfl) (by kernel_rfl) (by kernel_rfl) (fun _ _ _ h => h) (Or.inr ⟨by rfl, rfl⟩) (by assumption) ?_
  simp only [Act.put, List.setIfInBounds_toArray, List.set_cons_zero, List.set_cons_succ]
  refine wpAnyH_take (i := 6) (oi := { dst := Option.some 11, op := Go.Op.load 5 (Go.Operand.tmp 10), type := 5, pos := "bits.go:23", after := #[{ on := 5, ground := Go.Ground.data }, { on := 2, ground := Go.Ground.guard }], guard := Option.some (2, Bool.true) }) (v := undef) rfl (by kernel_rfl) (by kernel_rfl) (by kernel_rfl) (fun _ _ _ h => h) (Or.inr ⟨by rfl, rfl⟩) (by assumption) ?_
  simp only [Act.put, List.setIfInBounds_toArray, List.set_cons_zero, List.set_cons_succ]
  refine wpAnyH_take (i := 7) (oi := { dst := Option.some 12, op := Go.Op.move (Go.Operand.tmp 1), type := 3, pos := "bits.go:23", after := #[{ on := 2, ground := Go.Ground.guard }], guard := Option.some (2, Bool.true) }) (v := undef) rfl (by kernel_rfl) (by kernel_rfl) (by kernel_rfl) (fun _ _ _ h => h) (Or.inr ⟨by rfl, rfl⟩) (by assumption) ?_
  simp only [Act.put, List.setIfInBounds_toArray, List.set_cons_zero, List.set_cons_succ]
  refine wpAnyH_take (i := 8) (oi := { dst := Option.some 13, op := Go.Op.call { callee := Go.Callee.value (Go.Operand.func 90), args := #[Go.Operand.tmp 12], argTypes := #[3] }, type := 5, pos := "bits.go:23", after := #[{ on := 7, ground := Go.Ground.data }, { on := 2, ground := Go.Ground.chain }, { on := 2, ground := Go.Ground.guard }], guard := Option.some (2, Bool.true) }) (v := undef) rfl (by kernel_rfl) (by kernel_rfl) (by kernel_rfl) (fun _ _ _ h => h) (Or.inr ⟨by rfl, rfl⟩) (by assumption) ?_
  simp only [Act.put, List.setIfInBounds_toArray, List.set_cons_zero, List.set_cons_succ]
  refine wpAnyH_take (i := 9) (oi := { dst := Option.some 14, op := Go.Op.binOp Go.BinOp.and 5 (Go.Operand.tmp 11) (Go.Operand.tmp 13) 5, type := 5, pos := "bits.go:23", after := #[{ on := 6, ground := Go.Ground.data }, { on := 8, ground := Go.Ground.data }, { on := 2, ground := Go.Ground.guard }], guard := Option.some (2, Bool.true) }) (v := undef) rfl (by kernel_rfl) (by kernel_rfl) (by kernel_rfl) (fun _ _ _ h => h) (Or.inr ⟨by rfl, rfl⟩) (by assumption) ?_
  simp only [Act.put, List.setIfInBounds_toArray, List.set_cons_zero, List.set_cons_succ]
  refine wpAnyH_take (i := 10) (oi := { dst := Option.some 15, op := Go.Op.binOp Go.BinOp.neq 5 (Go.Operand.tmp 14) (Go.Operand.const (Go.Value.int Go.IntKind.u8 0)) 5, type := 4, pos := "bits.go:23", after := #[{ on := 9, ground := Go.Ground.data }, { on := 2, ground := Go.Ground.guard }], guard := Option.some (2, Bool.true) }) (v := undef) rfl (by kernel_rfl) (by kernel_rfl) (by kernel_rfl) (fun _ _ _ h => h) (Or.inr ⟨by rfl, rfl⟩) (by assumption) ?_
  simp only [Act.put, List.setIfInBounds_toArray, List.set_cons_zero, List.set_cons_succ]
  refine wpAnyH_take (i := 11) (oi := { dst := Option.some 16, op := Go.Op.pick (Go.Operand.tmp 7) (Go.Operand.tmp 15) (Go.Operand.const (Go.Value.bool Bool.false)), type := 4, pos := "bits.go:23", after := #[{ on := 2, ground := Go.Ground.data }, { on := 10, ground := Go.Ground.data }], guard := Option.none }) (v := ?_) rfl (by kernel_rfl) (by kernel_rfl) (by kernel_rfl) (fun _ _ _ h => h) (Or.inl ⟨by rfl, ?_⟩) (by assumption) ?_
  rotate_left
  · intro w hSw; (try dsimp only at hSw); go_simp; (try with_reducible rfl)
  simp only [Act.put, List.setIfInBounds_toArray, List.set_cons_zero, List.set_cons_succ]
  refine wpAnyH_take (i := 12) (oi := { dst := Option.some 4, op := Go.Op.assign (Go.Operand.tmp 16), type := 4, pos := "bits.go:23", after := #[{ on := 11, ground := Go.Ground.data }, { on := 8, ground := Go.Ground.chain }, { on := 0, ground := Go.Ground.phase }, { on := 1, ground := Go.Ground.phase }, { on := 2, ground := Go.Ground.phase }, { on := 3, ground := Go.Ground.phase }, { on := 4, ground := Go.Ground.phase }, { on := 5, ground := Go.Ground.phase }, { on := 6, ground := Go.Ground.phase }, { on := 7, ground := Go.Ground.phase }, { on := 8, ground := Go.Ground.phase }, { on := 9, ground := Go.Ground.phase }, { on := 10, ground := Go.Ground.phase }, { on := 11, ground := Go.Ground.phase }], guard := Option.none }) (v := ?_) rfl (by kernel_rfl) (by kernel_rfl) (by kernel_rfl) (fun _ _ _ h => h) (Or.inl ⟨by rfl, ?_⟩) (by assumption) ?_
  rotate_left
  · intro w hSw; (try dsimp only at hSw); go_simp; (try with_reducible rfl)
  simp only [Act.put, List.setIfInBounds_toArray, List.set_cons_zero, List.set_cons_succ]
  refine wpAnyH_done (by kernel_rfl) ?_ _
  have hbm : Below w1.heap.size w1 w2 := hKF1
  have hm : Mv No No w1 w2 := Mv.of_below hbm
  have HM_2 := Lib.hid (HM_1.out.trans hm)
  clear HM_1
  have WI_2 := Lib.hid (WI_1.out.mono hm.size)
  clear WI_1
  clear hm
  clear hbm HSx hKF0 hKF1
  go_wp2_with fail
  go_ret
  exact ⟨by rw [HRES.out]; rfl, HM_2.out.below⟩
set_option maxHeartbeats 2000000 in
set_option maxRecDepth 100000 in
theorem has_yes (l : Pg) (hl : l.length = 30) (n : Int) (hm : mayN n = true) (w : World) : Calls Tryd.prog 70 #[.agg (pv l).toArray, .int .i64 n] w fun e w' => e = .returned (.bool (hasB l n)) ∧ Below w.heap.size w w' := by
  have HL := Lib.hid hl
  obtain ⟨m, rfl⟩ : ∃ m : Nat, n = (m : Int) := ⟨n.toNat, by have := mayN_iff.1 hm; omega⟩
  have hlt : m < 240 := by have := mayN_iff.1 hm; omega
  have hi : m / 8 < 30 := by omega
  have hq := quo8 m hlt
  have hx := byte_at l hl m hlt
  obtain ⟨x, hxe⟩ : ∃ x, x = l.getD (m / 8) 0 := ⟨_, rfl⟩
  rw [← hxe] at hx
  have hres : (Go.bits .and .u8 (x.toNat : Int) (((bit8 m).toNat : Nat) : Int) != 0) = hasB l (m : Int) := by rw [and_has, hxe]; unfold hasB; rw [hm]; rfl
  have hdiv : (m : Int) / 8 = ((m / 8 : Nat) : Int) := by omega
  have HMY := Lib.hid (fun W => may_call (m : Int) W)
  rw [hm] at HMY
  obtain ⟨rs, hrs⟩ : ∃ r, r = hasB l (m : Int) := ⟨_, rfl⟩
  rw [← hrs] at hres
  have HRES := Lib.hid hrs
  obtain ⟨i, hie⟩ : ∃ i, i = m / 8 := ⟨_, rfl⟩
  rw [← hie] at hi hq hx hdiv
  have hwi : IntKind.i64.wrap (i : Int) = (i : Int) := IntWalk.i64_in _ (by omega)
  have hi2 : (i : Int) < 30 := by omega
  have hi3 : (0 : Int) ≤ (i : Int) := by omega
  have hi4 : (i : Int).toNat = i := by omega
  clear hrs hxe hie
  clear hl hm
  have HM0 := Lib.hid (Mv.refl No w)
  have WI0 := Lib.hid (Wi.no w)
  go_enter Tryd.func70, Tryd.ntmps70
  go_upto_region 1 with fail
  have hsat : SetAt (w.alloc (.cells (pv l).toArray 70)) w.heap.size l := SetAt.new _ _ _ HL.out
  obtain ⟨w1, hw1⟩ : ∃ q, q = w.alloc (.cells (pv l).toArray 70) := ⟨_, rfl⟩
  rw [← hw1] at hsat ⊢
  have hbm : Below w.heap.size w w1 := by rw [hw1]; exact (Below.refl _ _).alloc (Nat.le_refl _) _
  have hm : Mv No No w w1 := Mv.of_below hbm
  clear hw1 hbm
  have HM_1 := Lib.hid (HM0.out.trans hm)
  clear HM0
  have WI_1 := Lib.hid (WI0.out.mono hm.size)
  clear WI0
  clear hm
  have hcl := hsat.byte i x hx
  clear hx hsat
  have HSx : Hid (∀ wz, KF w1 wz → (fun wz => wz.cell? ⟨w.heap.size, i, none⟩ = some (.int .u8 (x.toNat : Int)) ∧ KF w1 wz) wz) := Lib.hid (fun wz h => ⟨h.cell (hcl), h⟩)
  refine wp_region_held_drew (S := fun wz => wz.cell? ⟨w.heap.size, i, none⟩ = some (.int .u8 (x.toNat : Int)) ∧ KF w1 wz) (by kernel_rfl) ?_ (fun hHeld => ?_)
  · exact HSx.out _ (KF.drew (KF.refl _))
  have hKF0 : KF w1 w1.drew := KF.drew (KF.refl _)
  refine wpAnyH_take (i := 0) (oi := { dst := Option.some 5, op := Go.Op.move (Go.Operand.tmp 1), type := 3, pos := "bits.go:23", after := #[], guard := Option.none }) (v := ?_) rfl (by kernel_rfl) (by kernel_rfl) (by kernel_rfl) (fun _ _ _ h => h) (Or.inl ⟨by rfl, ?_⟩) (by assumption) ?_
  rotate_left
  · intro w hSw; (try dsimp only at hSw); obtain ⟨hc0, _⟩ := hSw; go_simp; (try with_reducible rfl)
  simp only [Act.put, List.setIfInBounds_toArray, List.set_cons_zero, List.set_cons_succ]
  refine wpAnyH_ready (rs := [1]) (by kernel_rfl) (by simp) ?_
  refine AllReadyH.cons (o := { dst := Option.some 6, op := Go.Op.call { callee := Go.Callee.value (Go.Operand.func 89), args := #[Go.Operand.tmp 5], argTypes := #[3] }, type := 4, pos := "bits.go:23", after := #[{ on := 0, ground := Go.Ground.data }], guard := Option.none }) rfl (fun K hK => ?_) AllReadyH.nil
  go_simp
  refine (HMY.out _).mono ?_
  rintro e w2 ⟨rfl, hb⟩
  have hKF1 : KF w1 w2 := KF.step hKF0 hb
  clear hb
  dsimp only
  refine hK.out _ _ (HSx.out _ hKF1) (fun hHeld1 => ?_)
  clear hK K
  try simp only [Act.put, List.setIfInBounds_toArray, List.set_cons_zero, List.set_cons_succ]
  refine wpAnyH_take (i := 2) (oi := { dst := Option.some 7, op := Go.Op.move (Go.Operand.tmp 6), type := 4, pos := "bits.go:23", after := #[{ on := 1, ground := Go.Ground.data }, { on := 1, ground := Go.Ground.chain }], guard := Option.none }) (v := ?_) rfl (by kernel_rfl) (by kernel_rfl) (by kernel_rfl) (fun _ _ _ h => h) (Or.inl ⟨by rfl, ?_⟩) (by assumption) ?_
  rotate_left
  · intro w hSw; (try dsimp only at hSw); obtain ⟨hc0, _⟩ := hSw; go_simp; (try with_reducible rfl)
  simp only [Act.put, List.setIfInBounds_toArray, List.set_cons_zero, List.set_cons_succ]
  refine wpAnyH_take (i := 3) (oi := { dst := Option.some 8, op := Go.Op.move (Go.Operand.tmp 1), type := 3, pos := "bits.go:23", after := #[{ on := 2, ground := Go.Ground.guard }], guard := Option.some (2, Bool.true) }) (v := ?_) rfl (by kernel_rfl) (by kernel_rfl) (by kernel_rfl) (fun _ _ _ h => h) (Or.inl ⟨by rfl, ?_⟩) (by assumption) ?_
  rotate_left
  · intro w hSw; (try dsimp only at hSw); obtain ⟨hc0, _⟩ := hSw; go_simp; (try with_reducible rfl)
  simp only [Act.put, List.setIfInBounds_toArray, List.set_cons_zero, List.set_cons_succ]
  refine wpAnyH_take (i := 4) (oi := { dst := Option.some 9, op := Go.Op.binOp Go.BinOp.quo 3 (Go.Operand.tmp 8) (Go.Operand.const (Go.Value.int Go.IntKind.i64 8)) 3, type := 3, pos := "bits.go:23", after := #[{ on := 3, ground := Go.Ground.data }, { on := 2, ground := Go.Ground.guard }], guard := Option.some (2, Bool.true) }) (v := ?_) rfl (by kernel_rfl) (by kernel_rfl) (by kernel_rfl) (fun _ _ _ h => h) (Or.inl ⟨by rfl, ?_⟩) (by assumption) ?_
  rotate_left
  · intro w hSw; (try dsimp only at hSw); obtain ⟨hc0, _⟩ := hSw; go_simp; (try with_reducible rfl)
  simp only [Act.put, List.setIfInBounds_toArray, List.set_cons_zero, List.set_cons_succ]
  refine wpAnyH_take (i := 5) (oi := { dst := Option.some 10, op := Go.Op.indexAddr 70 (Go.Operand.tmp 2) (Go.Operand.tmp 9), type := 0, pos := "bits.go:23", after := #[{ on := 4, ground := Go.Ground.data }, { on := 2, ground := Go.Ground.guard }], guard := Option.some (2, Bool.true) }) (v := ?_) rfl (by kernel_rfl) (by kernel_rfl) (by kernel_rfl) (fun _ _ _ h => h) (Or.inl ⟨by rfl, ?_⟩) (by assumption) ?_
  rotate_left
  · intro w hSw; (try dsimp only at hSw); obtain ⟨hc0, _⟩ := hSw; go_simp; (try with_reducible rfl)
  simp only [Act.put, List.setIfInBounds_toArray, List.set_cons_zero, List.set_cons_succ]
  refine wpAnyH_take (i := 6) (oi := { dst := Option.some 11, op := Go.Op.load 5 (Go.Operand.tmp 10), type := 5, pos := "bits.go:23", after := #[{ on := 5, ground := Go.Ground.data }, { on := 2, ground := Go.Ground.guard }], guard := Option.some (2, Bool.true) }) (v := ?_) rfl (by kernel_rfl) (by kernel_rfl) (by kernel_rfl) (fun _ _ _ h => h) (Or.inl ⟨by rfl, ?_⟩) (by assumption) ?_
  rotate_left
  · intro w hSw; (try dsimp only at hSw); obtain ⟨hc0, _⟩ := hSw; go_simp; (try with_reducible rfl)
  simp only [Act.put, List.setIfInBounds_toArray, List.set_cons_zero, List.set_cons_succ]
  refine wpAnyH_take (i := 7) (oi := { dst := Option.some 12, op := Go.Op.move (Go.Operand.tmp 1), type := 3, pos := "bits.go:23", after := #[{ on := 2, ground := Go.Ground.guard }], guard := Option.some (2, Bool.true) }) (v := ?_) rfl (by kernel_rfl) (by kernel_rfl) (by kernel_rfl) (fun _ _ _ h => h) (Or.inl ⟨by rfl, ?_⟩) (by assumption) ?_
  rotate_left
  · intro w hSw; (try dsimp only at hSw); obtain ⟨hc0, _⟩ := hSw; go_simp; (try with_reducible rfl)
  simp only [Act.put, List.setIfInBounds_toArray, List.set_cons_zero, List.set_cons_succ]
  refine wpAnyH_ready (rs := [8]) (by kernel_rfl) (by simp) ?_
  refine AllReadyH.cons (o := { dst := Option.some 13, op := Go.Op.call { callee := Go.Callee.value (Go.Operand.func 90), args := #[Go.Operand.tmp 12], argTypes := #[3] }, type := 5, pos := "bits.go:23", after := #[{ on := 7, ground := Go.Ground.data }, { on := 2, ground := Go.Ground.chain }, { on := 2, ground := Go.Ground.guard }], guard := Option.some (2, Bool.true) }) rfl (fun K hK => ?_) AllReadyH.nil
  go_simp
  refine (bit_call m _).mono ?_
  rintro e w3 ⟨rfl, hb⟩
  have hKF2 : KF w1 w3 := KF.step hKF1 hb
  clear hb
  dsimp only
  refine hK.out _ _ (HSx.out _ hKF2) (fun hHeld2 => ?_)
  clear hK K
  try simp only [Act.put, List.setIfInBounds_toArray, List.set_cons_zero, List.set_cons_succ]
  refine wpAnyH_take (i := 9) (oi := { dst := Option.some 14, op := Go.Op.binOp Go.BinOp.and 5 (Go.Operand.tmp 11) (Go.Operand.tmp 13) 5, type := 5, pos := "bits.go:23", after := #[{ on := 6, ground := Go.Ground.data }, { on := 8, ground := Go.Ground.data }, { on := 2, ground := Go.Ground.guard }], guard := Option.some (2, Bool.true) }) (v := ?_) rfl (by kernel_rfl) (by kernel_rfl) (by kernel_rfl) (fun _ _ _ h => h) (Or.inl ⟨by rfl, ?_⟩) (by assumption) ?_
  rotate_left
  · intro w hSw; (try dsimp only at hSw); obtain ⟨hc0, _⟩ := hSw; go_simp; (try with_reducible rfl)
  simp only [Act.put, List.setIfInBounds_toArray, List.set_cons_zero, List.set_cons_succ]
  refine wpAnyH_take (i := 10) (oi := { dst := Option.some 15, op := Go.Op.binOp Go.BinOp.neq 5 (Go.Operand.tmp 14) (Go.Operand.const (Go.Value.int Go.IntKind.u8 0)) 5, type := 4, pos := "bits.go:23", after := #[{ on := 9, ground := Go.Ground.data }, { on := 2, ground := Go.Ground.guard }], guard := Option.some (2, Bool.true) }) (v := ?_) rfl (by kernel_rfl) (by kernel_rfl) (by kernel_rfl) (fun _ _ _ h => h) (Or.inl ⟨by rfl, ?_⟩) (by assumption) ?_
  rotate_left
  · intro w hSw; (try dsimp only at hSw); obtain ⟨hc0, _⟩ := hSw; go_simp; (try with_reducible rfl)
  simp only [Act.put, List.setIfInBounds_toArray, List.set_cons_zero, List.set_cons_succ]
  refine wpAnyH_take (i := 11) (oi := { dst := Option.some 16, op := Go.Op.pick (Go.Operand.tmp 7) (Go.Operand.tmp 15) (Go.Operand.const (Go.Value.bool Bool.false)), type := 4, pos := "bits.go:23", after := #[{ on := 2, ground := Go.Ground.data }, { on := 10, ground := Go.Ground.data }], guard := Option.none }) (v := ?_) rfl (by kernel_rfl) (by kernel_rfl) (by kernel_rfl) (fun _ _ _ h => h) (Or.inl ⟨by rfl, ?_⟩) (by assumption) ?_
  rotate_left
  · intro w hSw; (try dsimp only at hSw); obtain ⟨hc0, _⟩ := hSw; go_simp; (try with_reducible rfl)
  simp only [Act.put, List.setIfInBounds_toArray, List.set_cons_zero, List.set_cons_succ]
  refine wpAnyH_take (i := 12) (oi := { dst := Option.some 4, op := Go.Op.assign (Go.Operand.tmp 16), type := 4, pos := "bits.go:23", after := #[{ on := 11, ground := Go.Ground.data }, { on := 8, ground := Go.Ground.chain }, { on := 0, ground := Go.Ground.phase }, { on := 1, ground := Go.Ground.phase }, { on := 2, ground := Go.Ground.phase }, { on := 3, ground := Go.Ground.phase }, { on := 4, ground := Go.Ground.phase }, { on := 5, ground := Go.Ground.phase }, { on := 6, ground := Go.Ground.phase }, { on := 7, ground := Go.Ground.phase }, { on := 8, ground := Go.Ground.phase }, { on := 9, ground := Go.Ground.phase }, { on := 10, ground := Go.Ground.phase }, { on := 11, ground := Go.Ground.phase }], guard := Option.none }) (v := ?_) rfl (by kernel_rfl) (by kernel_rfl) (by kernel_rfl) (fun _ _ _ h => h) (Or.inl ⟨by rfl, ?_⟩) (by assumption) ?_
  rotate_left
  · intro w hSw; (try dsimp only at hSw); obtain ⟨hc0, _⟩ := hSw; go_simp; (try with_reducible rfl)
  simp only [Act.put, List.setIfInBounds_toArray, List.set_cons_zero, List.set_cons_succ]
  refine wpAnyH_done (by kernel_rfl) ?_ _
  have hbm : Below w1.heap.size w1 w3 := hKF2
  have hm : Mv No No w1 w3 := Mv.of_below hbm
  have HM_2 := Lib.hid (HM_1.out.trans hm)
  clear HM_1
  have WI_2 := Lib.hid (WI_1.out.mono hm.size)
  clear WI_1
  clear hm
  clear hbm HSx hKF0 hKF1 hKF2
  go_wp2_with fail
  go_ret
  exact ⟨by rw [← HRES.out]; rfl, HM_2.out.below⟩
theorem has_any (l : Pg) (hl : l.length = 30) (n : Int) (w : World) : Calls Tryd.prog 70 #[.agg (pv l).toArray, .int .i64 n] w fun e w' => e = .returned (.bool (hasB l n)) ∧ Below w.heap.size w w' := by
  cases hm : mayN n
  · exact has_no l hl n hm w
  · exact has_yes l hl n hm w
end Go.Proofs.YtmnkgcgmbdkjaaaDoor
namespace Go.Proofs.YtmnkgcgmbdkjaaaDoor
open Go.RowKit Go.Extern.Stop Go.Stop Go.Extern Go.Proofs.YtmnkgcgmbdkjaaaDoorW.PrintWords Go.Proofs.YtmnkgcgmbdkjaaaDoorW.PrintLast Go.Proofs.YtmnkgcgmbdkjaaaDoorW.PrintMore Go.Proofs.YtmnkgcgmbdkjaaaDoor.PSuperPlays
set_option linter.unusedVariables false
set_option linter.unusedSimpArgs false
theorem half_test (x : UInt8) (k : Nat) (hk : k < 8) : (((x.toNat / 2 ^ k : Nat) : Int) % 2 == 1) = x.toNat.testBit k := by
  rw [Nat.testBit_eq_decide_div_mod_eq]
  by_cases h : x.toNat / 2 ^ k % 2 = 1
  · rw [decide_eq_true h]; have : ((x.toNat / 2 ^ k : Nat) : Int) % 2 = 1 := by omega
    rw [this]; rfl
  · rw [decide_eq_false h]; have : ((x.toNat / 2 ^ k : Nat) : Int) % 2 = 0 := by omega
    rw [this]; rfl
set_option maxHeartbeats 2000000 in
set_option maxRecDepth 100000 in
theorem rhas_low (l : Pg) (hl : l.length = 30) (n : Int) (h : n < 0) (w : World) : Calls Tryd.prog 81 #[.agg (pv l).toArray, .int .i64 n] w fun e w' => e = .returned (.bool (hasB l n)) ∧ Below w.heap.size w w' := by
  have HL0 := Lib.hid hl
  have hd : decide (n < 0) = true := by simpa using h
  have HRES : Hid (hasB l n = false) := Lib.hid (by unfold hasB; rw [show mayN n = false by unfold mayN; rw [decide_eq_false_iff_not]; omega]; rfl)
  clear h hl
  have hb0 : Below w.heap.size w (w.alloc (.cells (pv l).toArray 66)) := (Below.refl _ _).alloc (Nat.le_refl _) _
  have HB0 := Lib.hid hb0
  clear hb0
  go_enter Tryd.func81, Tryd.ntmps81
  go_wp2_with fail
  go_ret
  exact ⟨by rw [HRES.out]; rfl, HB0.out⟩
set_option maxHeartbeats 2000000 in
set_option maxRecDepth 100000 in
theorem rhas_high (l : Pg) (hl : l.length = 30) (n : Int) (h : 239 < n) (w : World) : Calls Tryd.prog 81 #[.agg (pv l).toArray, .int .i64 n] w fun e w' => e = .returned (.bool (hasB l n)) ∧ Below w.heap.size w w' := by
  have HL0 := Lib.hid hl
  have hd : decide (n < 0) = false := by simp; omega
  have hd2 : decide (239 < n) = true := by simp; omega
  have HRES : Hid (hasB l n = false) := Lib.hid (by unfold hasB; rw [show mayN n = false by unfold mayN; rw [decide_eq_false_iff_not]; omega]; rfl)
  clear h hl
  have hb0 : Below w.heap.size w (w.alloc (.cells (pv l).toArray 66)) := (Below.refl _ _).alloc (Nat.le_refl _) _
  have HB0 := Lib.hid hb0
  clear hb0
  go_enter Tryd.func81, Tryd.ntmps81
  go_wp2_with fail
  go_ret
  exact ⟨by rw [HRES.out]; rfl, HB0.out⟩
set_option maxHeartbeats 2000000 in
set_option maxRecDepth 100000 in
theorem rhas_yes (l : Pg) (hl : l.length = 30) (n : Int) (h : 0 ≤ n) (h2 : n < 240) (w : World) : Calls Tryd.prog 81 #[.agg (pv l).toArray, .int .i64 n] w fun e w' => e = .returned (.bool (hasB l n)) ∧ Below w.heap.size w w' := by
  have HL0 := Lib.hid hl
  obtain ⟨m, rfl⟩ : ∃ m : Nat, n = (m : Int) := ⟨n.toNat, by omega⟩
  have hlt : m < 240 := by omega
  have hd : decide ((m : Int) < 0) = false := decide_eq_false (by omega)
  have hd2 : decide (239 < (m : Int)) = false := decide_eq_false (by omega)
  have hi : m / 8 < 30 := by omega
  have hq := quo8 m hlt
  have hx := byte_at l hl m hlt
  obtain ⟨x, hxe⟩ : ∃ x, x = l.getD (m / 8) 0 := ⟨_, rfl⟩
  rw [← hxe] at hx
  have hres : hasB l (m : Int) = x.toNat.testBit (m % 8) := by unfold hasB; rw [mayN_iff.2 (by omega), hxe]; rfl
  have hdiv : (m : Int) / 8 = ((m / 8 : Nat) : Int) := by omega
  have hr8 : (m : Int).tmod 8 = ((m % 8 : Nat) : Int) := by rw [Int.tmod_eq_emod_of_nonneg (by omega)]; omega
  have hr8b : (m : Int) % 8 = ((m % 8 : Nat) : Int) := by omega
  obtain ⟨i, hie⟩ : ∃ i, i = m / 8 := ⟨_, rfl⟩
  rw [← hie] at hi hq hx hdiv
  obtain ⟨r, hre⟩ : ∃ r, r = m % 8 := ⟨_, rfl⟩
  have hr : r < 8 := by omega
  rw [← hre] at hr8 hr8b hres
  have hwi : IntKind.i64.wrap (i : Int) = (i : Int) := IntWalk.i64_in _ (by omega)
  have hi2 : (i : Int) < 30 := by omega
  have hi3 : (0 : Int) ≤ (i : Int) := by omega
  have hi4 : (i : Int).toNat = i := by omega
  have hs0 := SetAt.new w 66 l hl
  have hb0 : Below w.heap.size w (w.alloc (.cells (pv l).toArray 66)) := (Below.refl _ _).alloc (Nat.le_refl _) _
  have HRES := Lib.hid hres
  clear hl h h2 hxe hie hre hres
  go_enter Tryd.func81, Tryd.ntmps81
  go_upto_region 1 with fail
  obtain ⟨w1, hw1⟩ : ∃ q, q = w.alloc (.cells (pv l).toArray 66) := ⟨_, rfl⟩
  rw [← hw1] at hs0 hb0 ⊢
  clear hw1
  have HB0 := Lib.hid hb0
  have c1 := hs0.byte i x hx
  clear hs0 hb0 hx
  go_wp2_with fail
  clear c1
  go_loopg [5, 6] r (fun gg s5 s6 wr => ∃ k : Nat, k ≤ r ∧ r - k ≤ gg ∧ s6 = .int .i64 k ∧ s5 = .int .u8 ((x.toNat / 2 ^ k : Nat) : Int) ∧ Hid (Below w1.heap.size w1 wr))
  case atStart => exact ⟨0, by omega, by omega, rfl, by simp, Lib.hid (Below.refl _ _)⟩
  case round =>
    obtain ⟨k, hk, hg, rfl, rfl, HI⟩ := hrel
    have hxl := x.toNat_lt
    have hyl : x.toNat / 2 ^ k < 256 := Nat.lt_of_le_of_lt (Nat.div_le_self _ _) hxl
    have HN : Hid (x.toNat / 2 ^ k / 2 = x.toNat / 2 ^ (k + 1)) := Lib.hid (by rw [Nat.div_div_eq_div_mul, Nat.pow_succ])
    have HT : Hid (((x.toNat / 2 ^ k : Nat) : Int) = ((x.toNat / 2 ^ k : Nat) : Int)) := Lib.hid rfl
    by_cases hlt : k < r
    · have hlz : (k : Int) < (r : Int) := by omega
      obtain ⟨y, hy⟩ : ∃ y, y = x.toNat / 2 ^ k := ⟨_, rfl⟩
      rw [← hy] at hyl HN ⊢
      clear hy HT
      have hq2 : (y : Int).tdiv 2 = ((y / 2 : Nat) : Int) := by rw [Int.tdiv_eq_ediv_of_nonneg (by omega)]; omega
      have hq3 : (y : Int) / 2 = ((y / 2 : Nat) : Int) := by omega
      have hw8 : IntKind.u8.wrap ((y / 2 : Nat) : Int) = ((y / 2 : Nat) : Int) := by simp [IntKind.wrap, IntKind.bits, IntKind.signed]; omega
      have hm8 : ((y / 2 : Nat) : Int) % 256 = ((y / 2 : Nat) : Int) := by omega
      obtain ⟨z, hz⟩ : ∃ z, z = y / 2 := ⟨_, rfl⟩
      rw [← hz] at HN hq2 hq3 hw8 hm8
      clear hz
      go_wp2_with fail
      go_roundg (r - (k + 1))
      case measure => omega
      case rel => exact ⟨k + 1, by omega, by omega, by go_num, by rw [← HN.out], HI⟩
    · have hlz : ¬ (k : Int) < (r : Int) := by omega
      obtain rfl : k = r := by omega
      have ht := half_test x k hr
      obtain ⟨y, hy⟩ : ∃ y, y = x.toNat / 2 ^ k := ⟨_, rfl⟩
      rw [← hy] at ht hyl ⊢
      clear hy HT HN
      have hq2 : (y : Int).tmod 2 = (y : Int) % 2 := by rw [Int.tmod_eq_emod_of_nonneg (by omega)]
      have hm8 : (y : Int) % 2 % 256 = (y : Int) % 2 := by omega
      go_wp2_with fail
      go_ret
      exact ⟨by rw [HRES.out]; first | rfl | (rw [← ht]; rfl), HB0.out.trans (HI.out.mono HB0.out.size)⟩
theorem rhas_any (l : Pg) (hl : l.length = 30) (n : Int) (w : World) : Calls Tryd.prog 81 #[.agg (pv l).toArray, .int .i64 n] w fun e w' => e = .returned (.bool (hasB l n)) ∧ Below w.heap.size w w' := by
  by_cases h : n < 0
  · exact rhas_low l hl n h w
  by_cases h2 : 239 < n
  · exact rhas_high l hl n h2 w
  · exact rhas_yes l hl n (by omega) (by omega) w
end Go.Proofs.YtmnkgcgmbdkjaaaDoor
