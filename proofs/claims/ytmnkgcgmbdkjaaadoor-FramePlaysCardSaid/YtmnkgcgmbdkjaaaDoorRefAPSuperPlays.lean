/- The reference's numbers in bytes, by contract; the reference's frames: Lay. -/
import Derived.Test.YtmnkgcgmbdkjaaaDoorHE
import Derived.Laws.BytesArg
import Derived.Deep.LoopGhost
namespace Go.Proofs.YtmnkgcgmbdkjaaaDoor
open Go.RowKit Go.Extern.Stop Go.Stop Go.Extern Go.Proofs.YtmnkgcgmbdkjaaaDoorW.PrintWords Go.Proofs.YtmnkgcgmbdkjaaaDoorW.PrintLast Go.Proofs.YtmnkgcgmbdkjaaaDoorW.PrintMore Go.Proofs.YtmnkgcgmbdkjaaaDoor.PSuperPlays
set_option linter.unusedVariables false
set_option linter.unusedSimpArgs false
theorem rput_any (n : Int) (W : World) (hn : n ≤ 9223372036854775807) (hf : fitsB 4 n = true) : Calls Tryd.prog 36 #[.int .i64 4, .int .i64 n] W fun e w' => e = .returned (.string (putB 4 n)) ∧ Below W.heap.size W w' :=
  (dynamoref03_Put.calls 7 4 n _ W (rput_f 4 n hn hf))
theorem rget_any (s : ByteArray) (W : World) (hs : 4 ≤ s.size) : Calls Tryd.prog 79 #[.string s, .int .i64 4] W fun e w' => e = .returned (.int .i64 (getK s 4)) ∧ Below W.heap.size W w' :=
  (dynamoref03_Get.calls 5 s 4 _ W (get_f s 4 0 4 (by rfl) (by omega) (by omega) 5 (by omega))).mono fun _ _ ⟨he, hd⟩ => ⟨he, hd.below⟩
/-- two bytes, a text, and zeros behind -/
def padS (k : Int) (d : ByteArray) (j : Nat) : ByteArray := ⟨([b8 k, b8 (d.size : Int)] ++ (d.data.toList ++ List.replicate j 0)).toArray⟩
theorem padS_size (k : Int) (d : ByteArray) (j : Nat) : (padS k d j).size = 2 + d.size + j := by
  show (([b8 k, b8 (d.size : Int)] ++ (d.data.toList ++ List.replicate j 0)).toArray).size = _
  simp; omega
theorem padS_step (k : Int) (d : ByteArray) (j : Nat) : padS k d j ++ (⟨#[0]⟩ : ByteArray) = padS k d (j + 1) := by
  apply ByteArray.ext
  simp [padS, List.replicate_succ']
theorem padS_zero (k : Int) (d : ByteArray) (hk : 0 ≤ k) (hk2 : k ≤ 255) (hd : d.size ≤ 120) : strOfNums [k, (d.size : Int)] ++ d = padS k d 0 := by
  apply ByteArray.ext
  have e1 : k % 256 = k := by omega
  have e2 : (d.size : Int) % 256 = d.size := by omega
  simp [padS, strOfNums, b8, e1, e2]
theorem padS_full (k : Int) (d : ByteArray) (hd : d.size ≤ 120) : padS k d (122 - d.size) = strP (payl k d) := rfl
theorem byl_strP (l : Pg) : Crc.sumN (byl (strP l)) = sumL l := by unfold strP; rw [byl_list]; rfl
/-- a page as far as it is laid -/
def upTo (s : Pg) (i : Nat) : Pg := s.take i ++ List.replicate (128 - i) 0
theorem upTo_length (s : Pg) (hs : s.length = 128) (i : Nat) (h : i ≤ 128) : (upTo s i).length = 128 := by simp [upTo]; omega
theorem upTo_step (s : Pg) (hs : s.length = 128) (i : Nat) (h : i < 128) (x : UInt8) (hx : s[i]? = some x) : spl (upTo s i) i [x] = upTo s (i + 1) := by
  have hl := upTo_length s hs i (by omega)
  have htl : (s.take i).length = i := by rw [List.length_take]; omega
  have htl2 : (s.take (i + 1)).length = i + 1 := by rw [List.length_take]; omega
  apply List.ext_getElem?; intro j
  rw [spl_get _ _ _ (by simp; omega)]
  unfold upTo
  by_cases h1 : j < i
  · rw [if_pos h1, List.getElem?_append_left (by omega), List.getElem?_append_left (by omega), List.getElem?_take_of_lt h1, List.getElem?_take_of_lt (by omega)]
  · rw [if_neg h1]
    by_cases h2 : j = i
    · subst h2; rw [if_pos (by simp), List.getElem?_append_left (by omega), List.getElem?_take_of_lt (by omega), hx]; simp
    · rw [if_neg (by simp; omega), List.getElem?_append_right (by omega), List.getElem?_append_right (by omega), htl, htl2, List.getElem?_replicate, List.getElem?_replicate]
      by_cases h3 : j < 128
      · rw [if_pos (by omega), if_pos (by omega)]
      · rw [if_neg (by omega), if_neg (by omega)]
theorem upTo_all (s : Pg) (hs : s.length = 128) : upTo s 128 = s := by
  unfold upTo; rw [List.take_of_length_le (by omega), Nat.sub_self]; simp
theorem upTo_none (s : Pg) : upTo s 0 = zp := rfl
theorem cat_strP (k : Int) (d : ByteArray) : putB 4 ((sumL (payl k d) : Nat) : Int) ++ strP (payl k d) = strP (framP k d) := by
  apply ByteArray.ext
  simp [strP, framP]
theorem byte_of (l : Pg) (i : Nat) (x : UInt8) (h : l[i]? = some x) : ∃ hi : i < (strP l).size, (strP l)[i] = x := by
  have hi := (List.getElem?_eq_some_iff.1 h).1
  refine ⟨by rw [strP_size]; exact hi, ?_⟩
  show l.toArray[i] = x
  simpa using (List.getElem?_eq_some_iff.1 h).2
set_option maxHeartbeats 4000000 in
set_option maxRecDepth 100000 in
theorem rlay5 (k : Int) (d : ByteArray) (h : frC k d = 0) (w : World) : Calls Tryd.prog 35 #[.int .i64 k, .string d] w fun e w' => e = .returned (.agg (pv (framP k d)).toArray) ∧ Below w.heap.size w w' := by
  obtain ⟨⟨h0, h1⟩, hd⟩ := frC_zero.1 h
  have hk8 : IntKind.u8.wrap k = k := by simp [IntKind.wrap, IntKind.bits, IntKind.signed]; omega
  have hs8 : IntKind.u8.wrap (d.size : Int) = (d.size : Int) := by simp [IntKind.wrap, IntKind.bits, IntKind.signed]; omega
  have hwk : k % 256 = k := by omega
  have hws : (d.size : Int) % 256 = (d.size : Int) := by omega
  have HB0 : Hid (Below w.heap.size w (w.alloc (.cells (pv zp).toArray 35))) := Lib.hid ((Below.refl _ _).alloc (Nat.le_refl _) _)
  have HR0 := Lib.hid (there_new w (pv zp).toArray 35 128 (by simp [pv_length, zp_length]))
  obtain ⟨w1, hw1⟩ : ∃ q, q = w.alloc (.cells (pv zp).toArray 35) := ⟨_, rfl⟩
  rw [← hw1] at HB0 HR0
  have hcv := run_convert_bytes_arg (P := Tryd.prog) (w := w1.alloc (.cells #[.int .u8 k, .int .u8 (d.size : Int)] 5)) 56 5 Tryd.underlying56 Tryd.underlying5 w1.heap.size 0 2 2 [k, (d.size : Int)] rfl (fun i hi => by rw [Nat.zero_add, cell_of_row _ _ i _ _ (0, 0) (heap_alloc_last w1 _)]; rcases (show i = 0 ∨ i = 1 by omega) with rfl | rfl <;> rfl) 9 Tryd.underlying9
  go_enter Tryd.func35, Tryd.ntmps35
  go_upto_region 1 with (first | ((with_reducible refine at_al 35 ?_); refine al_pr rfl rfl ?_))
  obtain ⟨s0, hs0⟩ : ∃ q, q = strOfNums [k, (d.size : Int)] := ⟨_, rfl⟩
  rw [← hs0] at hcv
  have hz0 : s0.size = 2 := by rw [hs0, strOf_size]; rfl
  have hp0 := padS_zero k d (by omega) h1 hd
  rw [← hs0] at hp0
  have HP0 := Lib.hid hp0
  clear hs0 hp0
  rw [← hw1]
  clear hw1
  go_wp2_with fail
  rw [HP0.out]
  have HB2 := Lib.hid (HB0.out.trans (((Below.refl w1.heap.size w1).alloc (Nat.le_refl _) (.cells #[.int .u8 k, .int .u8 (d.size : Int)] 5)).mono HB0.out.size))
  have HR2 := Lib.hid (World.there_alloc HR0.out (.cells #[.int .u8 k, .int .u8 (d.size : Int)] 5))
  obtain ⟨w2, hw2⟩ : ∃ q, q = w1.alloc (.cells #[.int .u8 k, .int .u8 (d.size : Int)] 5) := ⟨_, rfl⟩
  rw [← hw2] at HB2 HR2 ⊢
  clear hw2 hcv HB0 HR0 HP0 hz0 hk8 hs8 hwk hws
  go_loopg [5] 122 (fun gg s5 wr => ∃ j : Nat, j ≤ 122 - d.size ∧ 122 - d.size - j ≤ gg ∧ s5 = .string (padS k d j) ∧ Hid (Below w2.heap.size w2 wr))
  case atStart => exact ⟨0, by omega, by omega, rfl, Lib.hid (Below.refl _ _)⟩
  case round =>
    obtain ⟨j, hj, hg, rfl, HI⟩ := hrel
    obtain ⟨S, hS⟩ : ∃ q, q = padS k d j := ⟨_, rfl⟩
    have hz : S.size = 2 + d.size + j := by rw [hS]; exact padS_size k d j
    rw [← hS]
    have HSt := Lib.hid (padS_step k d j)
    rw [← hS] at HSt
    obtain ⟨N, hN⟩ : ∃ q, q = 2 + d.size + j := ⟨_, rfl⟩
    rw [← hN] at hz
    by_cases hlt : N < 124
    · have hlz : (N : Int) < 124 := by omega
      have HJ : Hid (j < 122 - d.size) := Lib.hid (by omega)
      clear hS hN
      go_wp2_with fail
      rw [HSt.out]
      go_roundg (122 - d.size - (j + 1))
      case measure => have := HJ.out; omega
      case rel => exact ⟨j + 1, by have := HJ.out; omega, by omega, rfl, HI⟩
    · have hlz : ¬ (N : Int) < 124 := by omega
      obtain rfl : j = 122 - d.size := by omega
      rw [padS_full k d hd] at hS
      have HSS := Lib.hid hS
      have hNle : N ≤ 124 := by omega
      clear hN hS HSt
      go_wp2_with fail
      have HBr : Hid (Below w.heap.size w wr) := Lib.hid (HB2.out.trans (HI.out.mono HB2.out.size))
      have HRr : Hid (wr.there w.heap.size 0 128) := Lib.hid ((Touch.of_below (S := No) HI.out).there HR2.out (fun q => q))
      clear HI HB2 HR2
      refine (refsum_any S (by rw [hz]; omega) wr).mono ?_
      rintro e w3 ⟨rfl, hb⟩
      have hSL : S.size = 124 := by rw [HSS.out, strP_size, payl_length k d (by omega)]
      rw [show Crc.sumN (byl S) = sumL (payl k d) by rw [HSS.out]; exact byl_strP _]
      have hsl := sumL_lt (payl k d)
      have HF4 := Lib.hid (sum_fits (payl k d))
      have hz4 := sum_size (payl k d)
      have HC4 := Lib.hid (cat_strP k d)
      rw [← HSS.out] at HC4
      obtain ⟨sm, hsm⟩ : ∃ q, q = sumL (payl k d) := ⟨_, rfl⟩
      rw [← hsm] at hsl HF4 hz4 HC4 ⊢
      have ew : IntKind.i64.wrap (sm : Int) = (sm : Int) := by simp [IntKind.wrap, IntKind.bits, IntKind.signed]; omega
      have HB3 := Lib.hid (HBr.out.trans (hb.mono HBr.out.size))
      have HR3 := Lib.hid ((Touch.of_below (S := No) hb).there HRr.out (fun q => q))
      clear hb HBr HRr hsm
      go_wp2_with fail
      refine (rput_any (sm : Int) w3 (by omega) HF4.out).mono ?_
      rintro e w4 ⟨rfl, hb⟩
      have HB4 := Lib.hid (HB3.out.trans (hb.mono HB3.out.size))
      have HR4 := Lib.hid ((Touch.of_below (S := No) hb).there HR3.out (fun q => q))
      clear hb HB3 HR3
      obtain ⟨s4, hs4⟩ : ∃ q, q = putB 4 (sm : Int) := ⟨_, rfl⟩
      rw [← hs4] at hz4 HC4 ⊢
      clear hs4
      go_upto_region 5 with fail
      rw [HC4.out]
      have hfl := framP_length k d (by omega)
      obtain ⟨L, hL⟩ : ∃ q, q = framP k d := ⟨_, rfl⟩
      rw [← hL] at hfl ⊢
      have HL := Lib.hid hL
      have HFL := Lib.hid hfl
      have hLS : (strP L).size = 128 := by rw [strP_size, hfl]
      clear hL hfl HC4 HSS hSL
      go_upto_region 6 with (first | ((with_reducible refine at_al 35 ?_); refine al_pr rfl rfl ?_))
      have HB5 : Hid (Below w4.heap.size w4 (w4.alloc (.cells (pv zp).toArray 35))) := Lib.hid ((Below.refl _ _).alloc (Nat.le_refl _) _)
      have HP5 : Hid (PgAt (w4.alloc (.cells (pv zp).toArray 35)) w4.heap.size (upTo L 0)) := Lib.hid (by rw [upTo_none]; exact PgAt.new _ _ _ zp_length)
      obtain ⟨w5, hw5⟩ : ∃ q, q = w4.alloc (.cells (pv zp).toArray 35) := ⟨_, rfl⟩
      rw [← hw5] at HB5 HP5 ⊢
      clear hw5
      obtain ⟨P, hP⟩ : ∃ q, q = w4.heap.size := ⟨_, rfl⟩
      rw [← hP] at HP5 ⊢
      have HPE := Lib.hid hP
      clear hP
      obtain ⟨SL, hSL⟩ : ∃ q, q = strP L := ⟨_, rfl⟩
      rw [← hSL] at hLS ⊢
      have HSL := Lib.hid hSL
      clear hSL
      go_wp2_with fail
      go_loopg [7] 128 (fun gg s7 wr => ∃ i : Nat, i ≤ 128 ∧ 128 - i ≤ gg ∧ s7 = .int .i64 i ∧ Hid (Below w4.heap.size w4 wr ∧ PgAt wr P (upTo L i)))
      case atStart => exact ⟨0, by omega, by omega, rfl, Lib.hid ⟨HB5.out, HP5.out⟩⟩
      case round =>
        obtain ⟨i, hi, hg, rfl, HI⟩ := hrel
        by_cases hlt : i < 128
        · have hlz : (i : Int) < 128 := by omega
          obtain ⟨x, hx⟩ : ∃ x, L[i]? = some x := ⟨_, List.getElem?_eq_getElem (by rw [HFL.out]; omega)⟩
          obtain ⟨y, hy⟩ : ∃ y, (upTo L i)[i]? = some y := ⟨_, List.getElem?_eq_getElem (by rw [upTo_length L HFL.out i (by omega)]; omega)⟩
          have cx := HI.out.2.byte i y hy
          have fx := HI.out.2.free i hlt
          have hb0 := byte_of L i x hx
          rw [← HSL.out] at hb0
          obtain ⟨hxs, hxe⟩ := hb0
          have HX := Lib.hid hx
          clear hx hy
          go_wp2_with fail
          have hp := HI.out.2.put i x hlt
          rw [upTo_step L HFL.out i hlt x HX.out] at hp
          have hb := HI.out.1.setCell (p := ⟨P, i, none⟩) (by rw [HPE.out]; exact Nat.le_refl _) (.int .u8 (x.toNat : Int))
          have HN := Lib.hid (And.intro hb hp)
          clear hp hb hxe
          go_roundg (128 - (i + 1))
          case measure => omega
          case rel => exact ⟨i + 1, by omega, by omega, by go_num, HN⟩
        · have hlz : ¬ (i : Int) < 128 := by omega
          obtain rfl : i = 128 := by omega
          have HP6 : Hid (PgAt wr P L) := Lib.hid (by have := HI.out.2; rwa [upTo_all L HFL.out] at this)
          have HR6 : Hid (wr.there w.heap.size 0 128) := Lib.hid ((Touch.of_below (S := No) HI.out.1).there HR4.out (fun q => q))
          have HB6 : Hid (Below w.heap.size w wr) := Lib.hid (HB4.out.trans (HI.out.1.mono HB4.out.size))
          go_wp2_with (first | ((with_reducible refine at_ld 35 (.tmp 6) ?_); refine ld_pr rfl _ rfl P (0) rfl L ?_ ?_ ?_; exact HFL.out; exact HP6.out.r) | ((with_reducible refine at_st 35 (.tmp 4) (.tmp 37) ?_); refine st_pr rfl _ _ rfl w.heap.size 0 rfl L ?_ rfl ?_ ?_; exact HFL.out; exact HR6.out))
          have hld := run_loadVar_mid (P := Tryd.prog) (wr.setCells w.heap.size 0 (pv L)) w.heap.size 0 35 (pv L) _ (World.rangeAt_setCells_same wr _ _ _ (by rw [pv_length, HFL.out]; exact HR6.out)) Tryd.underlying35 rfl (szof_pr HFL.out)
          exact bodyPost_ret (v := .agg (pv L).toArray) (results_one Tryd.results35 _ _ _ _ rfl hld) rfl ⟨by rw [HL.out], HB6.out.trans (setCells_below _ _ _ _ _ (Nat.le_refl _))⟩
end Go.Proofs.YtmnkgcgmbdkjaaaDoor
