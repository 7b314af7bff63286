/- Numbers in bytes: the plain laws of layer 3's functions (the printed ones told in closed words). pack.Get, by its contracts. frame.laid by its contract. frame.right and frame.Lay by their contracts. frame.Read by its contract. Frames: what is laid is read; another byte isn't. Plain. frame.Load and frame.Store by their contracts. frame.Load and frame.Store at a disk. What is one's own in memory, and what stays; the disk told by the set of its blocks. The arms of the walks over frames; what frame.Lay and frame.Read answer, in one word each. -/
import Derived.Test.YtmnkgcgmbdkjaaaDoorPSuperPlaysx
import Derived.Test.YtmnkgcgmbdkjaaaDoorHA
import Derived.IntWalk
import Derived.Test.YtmnkgcgmbdkjaaaDoorHB
import Derived.Deep.RegionHeld3
import Derived.StillTailTactics
import Derived.Lib.MinMax
import Derived.Test.YtmnkgcgmbdkjaaaDoorHC
import Derived.BigQuiet
set_option linter.unusedVariables false
set_option linter.unusedSimpArgs false
namespace Go.Proofs.YtmnkgcgmbdkjaaaDoor
open Go.RowKit Go.Proofs.YtmnkgcgmbdkjaaaDoorW.PrintWords Go.Proofs.YtmnkgcgmbdkjaaaDoorW.PrintLast Go.Proofs.YtmnkgcgmbdkjaaaDoorW.PrintMore Go.Proofs.YtmnkgcgmbdkjaaaDoor.PSuperPlays
set_option linter.unusedVariables false
set_option linter.unusedSimpArgs false

/-- is there such a width? -/
def mayB (w : Int) : Bool := decide (1 ≤ w ∧ w ≤ 4)
/-- does a number fit a width? -/
def fitsB (w n : Int) : Bool := decide (1 ≤ w ∧ w ≤ 4 ∧ 0 ≤ n ∧ n < 256 ^ w.toNat)
/-- a number's digits of 256, the greatest first -/
def putL (w n : Int) : List Int :=
  if w = 1 then [n % 256] else if w = 2 then [n / 256 % 256, n % 256] else if w = 3 then [n / 65536 % 256, n / 256 % 256, n % 256] else if w = 4 then [n / 16777216 % 256, n / 65536 % 256, n / 256 % 256, n % 256] else []
/-- a number's bytes; none where it doesn't fit -/
def putB (w n : Int) : ByteArray := if fitsB w n then strOfNums (putL w n) else ⟨#[]⟩
/-- the number of the first k bytes -/
def getK (s : ByteArray) : Nat → Int
  | 0 => 0
  | k + 1 => 256 * getK s k + bt s k

theorem may_f (w : Int) : pack_may.f w = some (mayB w) := by
  unfold pack_may.f mayB
  by_cases h : w ≥ 1
  · rw [if_pos h]; simp [show (1 ≤ w) from h]
  · rw [if_neg h]; simp; omega
theorem four {w : Int} (h1 : 1 ≤ w) (h2 : w ≤ 4) : w = 1 ∨ w = 2 ∨ w = 3 ∨ w = 4 := by omega
theorem pos_div {n m : Int} (h : 0 < m) : n / m = 0 ↔ 0 ≤ n ∧ n < m := by
  constructor
  · intro e
    have h1 := Int.mul_ediv_add_emod n m
    have h2 := Int.emod_nonneg n (show m ≠ 0 by omega)
    have h3 := Int.emod_lt_of_pos n h
    rw [e] at h1; omega
  · intro ⟨a, b⟩; exact Int.ediv_eq_zero_of_lt a b
theorem fits_f (w n : Int) : pack_fits.f w n = some (fitsB w n) := by
  unfold pack_fits.f
  rw [may_f]
  simp only [Option.bind_some]
  by_cases hm : 1 ≤ w ∧ w ≤ 4
  · obtain ⟨h1, h2⟩ := hm
    rw [if_pos (by simp [mayB]; omega)]
    by_cases hn : n ≥ 0
    · rw [if_pos hn]
      have hw : wrap64 (8 * w) = 8 * w := by unfold wrap64; omega
      rw [hw, if_pos (by omega)]
      congr 1
      have hb : (shr .i64 n (8 * w) == 0) = decide (n < 256 ^ w.toNat) := by
        unfold shr
        rcases four h1 h2 with rfl | rfl | rfl | rfl <;>
          (rw [Bool.eq_iff_iff]; simp [IntKind.bits]; omega)
      rw [hb]
      simp [fitsB, h1, h2, show (0 ≤ n) from hn]
    · rw [if_neg hn]
      congr 1
      simp [fitsB]; intro _ _ h; omega
  · rw [if_neg (by simp [mayB]; omega)]
    congr 1
    simp [fitsB]; omega
theorem put_f (w n : Int) : pack_Put.f 5 w n = some (putB w n) := by
  unfold pack_Put.f putB
  rw [fits_f]
  simp only [Option.bind_some]
  by_cases h : fitsB w n = true
  · rw [if_pos h, if_pos h]
    have h' := h
    simp only [fitsB, decide_eq_true_eq] at h'
    obtain ⟨h1, h2, h3, h4⟩ := h'
    rcases four h1 h2 with rfl | rfl | rfl | rfl <;> simp [pack_Put.l0, wrap64, shr, putL, IntKind.bits]
  · rw [if_neg h, if_neg h]
theorem strOf_size (l : List Int) : (strOfNums l).size = l.length := by
  simp [strOfNums, ByteArray.size]
theorem putB_size {w n : Int} (h : fitsB w n = true) : ((putB w n).size : Int) = w := by
  unfold putB
  rw [if_pos h, strOf_size]
  simp only [fitsB, decide_eq_true_eq] at h
  obtain ⟨h1, h2, h3, h4⟩ := h
  rcases four h1 h2 with rfl | rfl | rfl | rfl <;> simp [putL]
theorem putB_le (w n : Int) : (putB w n).size ≤ 4 := by
  by_cases h : fitsB w n = true
  · have := putB_size h
    simp only [fitsB, decide_eq_true_eq] at h
    omega
  · unfold putB; rw [if_neg h]; show 0 ≤ 4; omega
theorem getK_range (s : ByteArray) : ∀ k, 0 ≤ getK s k ∧ getK s k < 256 ^ k
  | 0 => by simp [getK]
  | k + 1 => by
    have h := getK_range s k
    have hb := bt_range s k
    simp only [getK, Int.pow_succ]
    omega
theorem bt_strOf (l : List Int) (more : ByteArray) (i : Nat) (hi : i < l.length) (h0 : ∀ x ∈ l, 0 ≤ x ∧ x ≤ 255) : bt (strOfNums l ++ more) i = l[i] := by
  have hs : i < (strOfNums l).size := by rw [strOf_size]; exact hi
  have hr := h0 l[i] (List.getElem_mem hi)
  have h2 : i < (strOfNums l ++ more).size := by rw [ByteArray.size_append]; omega
  unfold bt
  rw [dif_pos (by simpa using h2)]
  have e : (strOfNums l ++ more)[((i : Nat) : Int).toNat]'(by simpa using h2) = (strOfNums l)[i] := by
    simp [ByteArray.getElem_append_left hs]
  rw [e]
  simp [strOfNums, ByteArray.getElem_eq_getElem_data]
  omega
theorem putL_range (w n : Int) : ∀ x ∈ putL w n, 0 ≤ x ∧ x ≤ 255 := by
  intro x hx
  unfold putL at hx
  split at hx
  · simp at hx; omega
  split at hx
  · simp at hx; omega
  split at hx
  · simp at hx; omega
  split at hx
  · simp at hx; omega
  · simp at hx
/-- what is laid is got, whatever stands behind -/
theorem getK_put {w n : Int} (h : fitsB w n = true) (more : ByteArray) : getK (putB w n ++ more) w.toNat = n := by
  unfold putB
  rw [if_pos h]
  simp only [fitsB, decide_eq_true_eq] at h
  obtain ⟨h1, h2, h3, h4⟩ := h
  have hb := bt_strOf (putL w n) more
  have hr := putL_range w n
  rcases four h1 h2 with rfl | rfl | rfl | rfl
  · have b0 := hb 0 (by simp [putL]) hr
    simp [putL] at b0 h4
    simp [getK, putL, b0]; omega
  · have b0 := hb 0 (by simp [putL]) hr
    have b1 := hb 1 (by simp [putL]) hr
    simp [putL] at b0 b1 h4
    simp [getK, putL, b0, b1]; omega
  · have b0 := hb 0 (by simp [putL]) hr
    have b1 := hb 1 (by simp [putL]) hr
    have b2 := hb 2 (by simp [putL]) hr
    simp [putL] at b0 b1 b2 h4
    simp [getK, putL, b0, b1, b2]; omega
  · have b0 := hb 0 (by simp [putL]) hr
    have b1 := hb 1 (by simp [putL]) hr
    have b2 := hb 2 (by simp [putL]) hr
    have b3 := hb 3 (by simp [putL]) hr
    simp [putL] at b0 b1 b2 b3 h4
    simp [getK, putL, b0, b1, b2, b3]; omega
theorem wraps_i64 (n : Int) (h₀ : 0 ≤ n) (h₁ : n < 2 ^ 62) : IntKind.i64.wrap n = n := by rw [IntKind.wrap_i64]; omega
theorem or_step {n c : Int} (h0 : 0 ≤ n) (h1 : n < 16777216) (c0 : 0 ≤ c) (c1 : c ≤ 255) : bits .or .i64 (wrap64 (n * 256)) (wrap64 c) = 256 * n + c := by
  have e1 : wrap64 (n * 256) = n * 256 := by unfold wrap64; omega
  have e2 : wrap64 c = c := by clear e1; unfold wrap64; omega
  rw [e1, e2, bits_join .i64 62 (by decide) wraps_i64 8 (n * 256) c (by clear e1 e2; omega) (by clear e1 e2; omega) (by clear e1 e2; omega) c0 (by clear e1 e2; omega) (by clear e1 e2; omega)]
  clear e1 e2; omega
theorem getK_lt {s : ByteArray} {k : Nat} (h : k ≤ 3) : 0 ≤ getK s k ∧ getK s k < 16777216 := by
  have hr := getK_range s k
  rcases (show k = 0 ∨ k = 1 ∨ k = 2 ∨ k = 3 by omega) with rfl | rfl | rfl | rfl <;> simp at hr ⊢ <;> omega
theorem or_get (s : ByteArray) (k : Nat) (h : k ≤ 3) (hk : k < s.size) : bits .or .i64 (wrap64 (getK s k * 256)) (wrap64 ((s[k]'hk).toNat : Int)) = getK s (k + 1) := by
  have hb : ((s[k]'hk).toNat : Int) = bt s k := by simp [bt, hk]
  have hr := getK_lt (s := s) h
  have h2 := bt_range s k
  rw [hb, or_step hr.1 hr.2 h2.1 h2.2]
  rfl
end Go.Proofs.YtmnkgcgmbdkjaaaDoor
namespace Go.Proofs.YtmnkgcgmbdkjaaaDoor
open Go.RowKit Go.Extern.Stop Go.Stop Go.Extern Go.Proofs.YtmnkgcgmbdkjaaaDoorW.PrintWords Go.Proofs.YtmnkgcgmbdkjaaaDoorW.PrintLast Go.Proofs.YtmnkgcgmbdkjaaaDoorW.PrintMore Go.Proofs.YtmnkgcgmbdkjaaaDoor.PSuperPlays
set_option linter.unusedVariables false
set_option linter.unusedSimpArgs false

set_option maxHeartbeats 400000 in
theorem Get_ok (s : ByteArray) (w : Int) (W : World) (hm : mayB w = true) (hs : w ≤ s.size) (hz : s.size ≤ 9223372036854775807) :
    Calls Tryd.prog 77 #[.string s, .int .i64 w] W fun e w' => e = .returned (.tuple #[.int .i64 (getK s w.toNat), .nilIface]) ∧ Below W.heap.size W w' := by
  have hm' := hm
  simp only [mayB, decide_eq_true_eq] at hm'
  obtain ⟨h1, h4⟩ := hm'
  have hmay := pack_may.calls w true W (by rw [may_f, hm])
  have HM := Lib.hid hmay
  clear hmay hm
  have hd : decide ((s.size : Int) < w) = false := by simp; omega
  go_enter Tryd.func77, Tryd.ntmps77
  go_wp2_with fail
  refine HM.out.mono ?_
  rintro e w1 ⟨rfl, hb⟩
  have HB := Lib.hid hb.below
  clear hb
  go_wp2_with fail
  go_loop [6, 7, 22] (fun n _ i => ∃ k : Nat, (k : Int) ≤ w ∧ i = .int .i64 k ∧ n = .int .i64 (getK s k)) (fun _ _ i => w.toNat - (intOf i).toNat)
  case atStart => exact ⟨0, by omega, rfl, rfl⟩
  case round =>
    obtain ⟨k, hk, rfl, rfl⟩ := hrel
    have hg := getK_range s k
    by_cases hlt : (k : Int) < w
    · have hks : k < s.size := by omega
      have hor := Lib.hid (or_get s k (by omega) hks)
      go_wp2_with fail
      go_round
      case rel => exact ⟨k + 1, by omega, by go_num, by rw [hor.out]⟩
      case measure => simp [intOf]; omega
    · have hkw : k = w.toNat := by omega
      have HK := Lib.hid hkw
      clear hkw
      go_wp2_with fail
      go_ret2
      have e := HK.out
      subst e
      exact ⟨rfl, HB.out⟩
theorem Get_arg (s : ByteArray) (w : Int) (W : World) (hm : mayB w = false) :
    Calls Tryd.prog 77 #[.string s, .int .i64 w] W fun e w' => ∃ v, e = .returned (.tuple #[.int .i64 0, v]) ∧ ErrC W.heap.size w' v 1 ∧ Below W.heap.size W w' := by
  have hmay := pack_may.calls w false W (by rw [may_f, hm])
  have HM := Lib.hid hmay
  clear hmay hm
  go_enter Tryd.func77, Tryd.ntmps77
  go_wp2_with fail
  refine HM.out.mono ?_
  rintro e w1 ⟨rfl, hb⟩
  have HB := Lib.hid hb.below
  clear hb
  go_wp2_with fail
  refine (Tag_err _ 1 _).mono ?_
  rintro e w2 ⟨v, rfl, he, hb⟩
  have HE := Lib.hid he
  have HB2 := Lib.hid hb
  clear he hb
  go_wp2_with fail
  go_ret2
  exact ⟨_, rfl, HE.out.mono HB.out.size, bstep HB.out HB2.out⟩
theorem Get_form (s : ByteArray) (w : Int) (W : World) (hm : mayB w = true) (hs : (s.size : Int) < w) :
    Calls Tryd.prog 77 #[.string s, .int .i64 w] W fun e w' => ∃ v, e = .returned (.tuple #[.int .i64 0, v]) ∧ ErrC W.heap.size w' v 2 ∧ Below W.heap.size W w' := by
  have hmay := pack_may.calls w true W (by rw [may_f, hm])
  have HM := Lib.hid hmay
  clear hmay hm
  have hd : decide ((s.size : Int) < w) = true := by simp; omega
  go_enter Tryd.func77, Tryd.ntmps77
  go_wp2_with fail
  refine HM.out.mono ?_
  rintro e w1 ⟨rfl, hb⟩
  have HB := Lib.hid hb.below
  clear hb
  go_wp2_with fail
  refine (Tag_err _ 2 _).mono ?_
  rintro e w2 ⟨v, rfl, he, hb⟩
  have HE := Lib.hid he
  have HB2 := Lib.hid hb
  clear he hb
  go_wp2_with fail
  go_ret2
  exact ⟨_, rfl, HE.out.mono HB.out.size, bstep HB.out HB2.out⟩
theorem Put_any (w n : Int) (W : World) : Calls Tryd.prog 80 #[.int .i64 w, .int .i64 n] W fun e w' => e = .returned (.string (putB w n)) ∧ Below W.heap.size W w' :=
  pack_Put.calls 5 w n _ W (put_f w n)
end Go.Proofs.YtmnkgcgmbdkjaaaDoor
namespace Go.Proofs.YtmnkgcgmbdkjaaaDoor
open Go.RowKit Go.Extern.Stop Go.Stop Go.Extern Go.Proofs.YtmnkgcgmbdkjaaaDoorW.PrintWords Go.Proofs.YtmnkgcgmbdkjaaaDoorW.PrintLast Go.Proofs.YtmnkgcgmbdkjaaaDoorW.PrintMore Go.Proofs.YtmnkgcgmbdkjaaaDoor.PSuperPlays
set_option linter.unusedVariables false
set_option linter.unusedSimpArgs false

def framP (kind : Int) (d : ByteArray) : Pg := (putB 4 (sumL (payl kind d) : Nat)).data.toList ++ payl kind d
theorem sum_fits (l : Pg) : fitsB 4 ((sumL l : Nat) : Int) = true := by
  have := sumL_lt l
  simp only [fitsB, decide_eq_true_eq]
  have e : (256 : Int) ^ (4 : Int).toNat = 4294967296 := by decide
  rw [e]; omega
theorem list_size (s : ByteArray) : s.data.toList.length = s.size := by simp
theorem sum_size (l : Pg) : (putB 4 ((sumL l : Nat) : Int)).size = 4 := by
  have := putB_size (sum_fits l)
  generalize putB 4 ((sumL l : Nat) : Int) = s at this ⊢
  omega
theorem sum_four (l : Pg) : (putB 4 ((sumL l : Nat) : Int)).data.toList.length = 4 := by
  rw [list_size, sum_size]
theorem framP_length (kind : Int) (d : ByteArray) (h : d.size ≤ 122) : (framP kind d).length = 128 := by
  unfold framP; rw [List.length_append, sum_four, payl_length kind d h]
def q2 (a b : UInt8) : Pg := spl (spl zp 4 [a]) 5 [b]
theorem zp_six : zp = [0, 0, 0, 0, 0, 0] ++ List.replicate 122 0 := rfl
theorem q2_eq (a b : UInt8) : q2 a b = [0, 0, 0, 0, a, b] ++ List.replicate 122 0 := by
  unfold q2; rw [zp_six]; rfl
theorem q3_eq (a b : UInt8) (d : Pg) (h : d.length ≤ 122) : spl (q2 a b) 6 d = [0, 0, 0, 0, a, b] ++ (d ++ List.replicate (122 - d.length) 0) := by
  rw [q2_eq]
  unfold spl
  rw [show List.take 6 ([0, 0, 0, 0, a, b] ++ List.replicate 122 0) = [0, 0, 0, 0, a, b] from rfl, List.append_assoc, Nat.add_comm 6, show List.drop (d.length + 6) ([0, 0, 0, 0, a, b] ++ List.replicate 122 (0 : UInt8)) = List.drop d.length (List.replicate 122 0) from rfl, List.drop_replicate]
theorem q3_drop (kind : Int) (d : ByteArray) (h : d.size ≤ 122) : (spl (q2 (b8 kind) (b8 d.size)) 6 d.data.toList) = [0, 0, 0, 0] ++ payl kind d := by
  have e : d.data.toList.length = d.size := by simp
  rw [q3_eq _ _ _ (by omega), e]
  rfl
theorem q4_eq (l : Pg) (s : Pg) (hs : s.length = 4) : spl ([0, 0, 0, 0] ++ l) 0 s = s ++ l := by
  unfold spl
  rw [List.take_zero, List.nil_append, Nat.zero_add, hs]; rfl
set_option maxHeartbeats 2000000 in
set_option maxRecDepth 100000 in
theorem laid_any (kind : Int) (d : ByteArray) (w : World) (hk0 : 0 ≤ kind) (hk1 : kind ≤ 255) (hd : d.size ≤ 122) : Calls Tryd.prog 76 #[.int .i64 kind, .string d] w fun e w' => e = .returned (.agg (pv (framP kind d)).toArray) ∧ Below w.heap.size w w' := by
  have e1 : kind % 256 = ((b8 kind).toNat : Int) := by rw [b8_nat hk0 hk1]; omega
  have e2 : (d.size : Int) % 256 = ((b8 d.size).toNat : Int) := by rw [b8_nat (by omega) (by omega)]; omega
  have HD := Lib.hid hd
  go_enter Tryd.func76, Tryd.ntmps76
  go_upto_region 2 with ((with_reducible refine at_al 36 ?_); refine al_pg rfl rfl ?_)
  have hr0 : PgAt ((w.alloc (.cells (pv zp).toArray 36)).alloc (.cells (pv zp).toArray 36)) w.heap.size zp := (PgAt.new w _ zp zp_length).under ((Below.refl (w.alloc (.cells (pv zp).toArray 36)).heap.size _).alloc (Nat.le_refl _) _) (by simp)
  have hp0 : PgAt ((w.alloc (.cells (pv zp).toArray 36)).alloc (.cells (pv zp).toArray 36)) (w.heap.size + 1) zp := by
    have h := PgAt.new (w.alloc (.cells (pv zp).toArray 36)) 36 zp zp_length
    have e : (w.alloc (.cells (pv zp).toArray 36)).heap.size = w.heap.size + 1 := by simp
    rw [e] at h
    exact h
  have hb0 : Below w.heap.size w ((w.alloc (.cells (pv zp).toArray 36)).alloc (.cells (pv zp).toArray 36)) := ((Below.refl _ _).alloc (Nat.le_refl _) _).alloc (by simp) _
  obtain ⟨W1, hW1⟩ : ∃ W1, W1 = (w.alloc (.cells (pv zp).toArray 36)).alloc (.cells (pv zp).toArray 36) := ⟨_, rfl⟩
  rw [← hW1] at hr0 hp0 hb0 ⊢
  clear hW1
  have c4 := hp0.byte 4 0 rfl
  have c5 := hp0.byte 5 0 rfl
  have f4 := hp0.free 4 (by omega)
  have f5 := hp0.free 5 (by omega)
  have HR := Lib.hid hr0
  have HP := Lib.hid hp0
  have HB := Lib.hid hb0
  clear hr0 hp0 hb0 hk0 hk1 hd
  go_upto_region 3 with fail
  have hp3 := (HP.out.put 4 (b8 kind) (by omega)).put 5 (b8 d.size) (by omega)
  have hr3 : ((W1.setCell ⟨w.heap.size + 1, 4, none⟩ (.int .u8 ((b8 kind).toNat : Int))).setCell ⟨w.heap.size + 1, 5, none⟩ (.int .u8 ((b8 d.size).toNat : Int))).there w.heap.size 0 128 := World.there_setCells (World.there_setCells HR.out.t (w.heap.size + 1) 4 [_]) (w.heap.size + 1) 5 [_]
  have hb3 : Below w.heap.size w ((W1.setCell ⟨w.heap.size + 1, 4, none⟩ (.int .u8 ((b8 kind).toNat : Int))).setCell ⟨w.heap.size + 1, 5, none⟩ (.int .u8 ((b8 d.size).toNat : Int))) := (HB.out.setCell (by simp) _).setCell (by simp) _
  obtain ⟨W3, hW3⟩ : ∃ W3, W3 = (W1.setCell ⟨w.heap.size + 1, 4, none⟩ (.int .u8 ((b8 kind).toNat : Int))).setCell ⟨w.heap.size + 1, 5, none⟩ (.int .u8 ((b8 d.size).toNat : Int)) := ⟨_, rfl⟩
  rw [← hW3] at hp3 hr3 hb3 ⊢
  clear hW3 c4 c5 f4 f5
  have hdl : d.data.toList.length = d.size := list_size d
  have hcp := run_copy_string (P := Tryd.prog) W3 56 9 3 5 (w.heap.size + 1) 6 122 122 d Tryd.underlying56 sizeOf_u8 HD.out (fun j hj => hp3.some _ (by have := HD.out; omega)) (fun j hj => hp3.free _ (by have := HD.out; omega))
  have hp4 := hp3.copy 6 d.data.toList (by have := HD.out; omega)
  have hr4 := World.there_setCells hr3 (w.heap.size + 1) 6 (pv d.data.toList)
  have hb4 := hb3.trans (setCells_below (pv d.data.toList) W3 (w.heap.size + 1) 6 w.heap.size (by omega))
  rw [show spl (spl zp 4 [b8 kind]) 5 [b8 d.size] = q2 (b8 kind) (b8 d.size) from rfl, q3_drop kind d HD.out] at hp4
  have HP4 := Lib.hid hp4
  have HR4 := Lib.hid hr4
  have HB4 := Lib.hid hb4
  clear hp4 hr4 hb4 hp3 hr3 hb3
  go_upto_region 4 with fail
  obtain ⟨W4, hW4⟩ : ∃ W4, W4 = W3.setCells (w.heap.size + 1) 6 (List.map (fun x : UInt8 => Value.int IntKind.u8 (x.toNat : Int)) d.data.toList) := ⟨_, rfl⟩
  have HP5 := Lib.hid (show PgAt W4 (w.heap.size + 1) ([0, 0, 0, 0] ++ payl kind d) by rw [hW4]; exact HP4.out)
  have HR5 := Lib.hid (show W4.there w.heap.size 0 128 by rw [hW4]; exact HR4.out)
  have HB5 := Lib.hid (show Below w.heap.size w W4 by rw [hW4]; exact HB4.out)
  rw [← hW4]
  clear hW4 hcp HP4 HR4 HB4 HP HR HB
  have hpl := payl_length kind d HD.out
  have HL5 := Lib.hid HP5.out.lt
  have hS0 : W4.drew.rangeAt (w.heap.size + 1) 4 (pv (payl kind d)) := (World.rangeAt_drew _ _ _ _).2 (fun j v hv => by
    have := HP5.out.r (4 + j) v (by rw [pv_get] at hv ⊢; rw [List.getElem?_append_right (by simp)]; simpa using hv)
    rwa [Nat.zero_add] at this)
  have HPut := Lib.hid (fun W => Put_any 4 ((sumL (payl kind d) : Nat) : Int) W)
  have HSum := Lib.hid (fun W => sum_any ⟨(payl kind d).toArray⟩ (by show (payl kind d).toArray.size ≤ _; simp [hpl]) W)
  have hsb : Crc.sumN (byl ⟨(payl kind d).toArray⟩) = sumL (payl kind d) := by rw [byl_list]; rfl
  rw [hsb] at HSum
  have hs4 := sumL_lt (payl kind d)
  have ew : IntKind.i64.wrap ((sumL (payl kind d) : Nat) : Int) = ((sumL (payl kind d) : Nat) : Int) := by simp [IntKind.wrap, IntKind.bits, IntKind.signed]; omega
  refine wp_region_held_drew (S := fun w' => w'.rangeAt (w.heap.size + 1) 4 (pv (payl kind d))) (by kernel_rfl) ?_ (fun hHeld => ?_)
  · exact hS0
  refine wpAnyH_take (i := 0) (oi := { dst := Option.some 16, op := Go.Op.slice 36 (Go.Operand.tmp 5) Option.none Option.none Option.none, type := 56, pos := "frame.go:26", after := #[], guard := Option.none }) (v := ?_) rfl (by kernel_rfl) (by kernel_rfl) (by kernel_rfl) (fun _ _ _ h => h) (Or.inl ⟨by rfl, ?_⟩) (by assumption) ?_
  rotate_left
  · intro w hSw; (try dsimp only at hSw); go_simp; (try with_reducible rfl)
  simp only [Act.put, List.setIfInBounds_toArray, List.set_cons_zero, List.set_cons_succ]
  refine wpAnyH_take (i := 1) (oi := { dst := Option.some 17, op := Go.Op.slice 36 (Go.Operand.tmp 5) (Option.some (Go.Operand.const (Go.Value.int Go.IntKind.i64 4))) Option.none Option.none, type := 56, pos := "frame.go:26", after := #[], guard := Option.none }) (v := ?_) rfl (by kernel_rfl) (by kernel_rfl) (by kernel_rfl) (fun _ _ _ h => h) (Or.inl ⟨by rfl, ?_⟩) (by assumption) ?_
  rotate_left
  · intro w hSw; (try dsimp only at hSw); go_simp; (try with_reducible rfl)
  simp only [Act.put, List.setIfInBounds_toArray, List.set_cons_zero, List.set_cons_succ]
  refine wpAnyH_take (i := 2) (oi := { dst := Option.some 18, op := Go.Op.convert 56 9 (Go.Operand.tmp 17), type := 9, pos := "frame.go:26", after := #[{ on := 1, ground := Go.Ground.data }], guard := Option.none }) (v := ?_) rfl (by kernel_rfl) (by kernel_rfl) (by kernel_rfl) (fun _ _ _ h => h) (Or.inl ⟨by rfl, ?_⟩) (by assumption) ?_
  rotate_left
  · intro w hSw; (try dsimp only at hSw); have hcv := read_part 124 124 hpl hSw; go_simp; (try with_reducible rfl)
  simp only [Act.put, List.setIfInBounds_toArray, List.set_cons_zero, List.set_cons_succ]
  refine wpAnyH_ready (rs := [3]) (by kernel_rfl) (by simp) ?_
  refine AllReadyH.cons (o := { dst := Option.some 19, op := Go.Op.call { callee := Go.Callee.value (Go.Operand.func 78), args := #[Go.Operand.tmp 18], argTypes := #[9] }, type := 37, pos := "frame.go:26", after := #[{ on := 2, ground := Go.Ground.data }], guard := Option.none }) rfl (fun K hK => ?_) AllReadyH.nil
  go_simp
  refine (HSum.out _).mono ?_
  rintro e W6 ⟨rfl, hb⟩
  have hK6 : W6.rangeAt (w.heap.size + 1) 4 (pv (payl kind d)) := fun j v hv => (hb.cell (p := ⟨w.heap.size + 1, 4 + j, none⟩) HL5.out).trans (hS0 j v hv)
  have HP6 := Lib.hid (HP5.out.under ((Below.drew (Below.refl _ _)).trans hb) HL5.out)
  have HR6 : Hid (W6.there w.heap.size 0 128) := Lib.hid (fun j hj => ⟨by rw [((Below.drew (Below.refl W4.heap.size W4)).trans hb).cell (p := ⟨w.heap.size, 0 + j, none⟩) (by have := HL5.out; simp; omega)]; exact (HR5.out j hj).1, by rw [((Below.drew (Below.refl W4.heap.size W4)).trans hb).frozen (p := ⟨w.heap.size, 0 + j, none⟩) (by have := HL5.out; simp; omega)]; exact (HR5.out j hj).2⟩)
  have HB6 := Lib.hid (HB5.out.trans (((Below.drew (Below.refl _ _)).trans hb).mono HB5.out.size))
  have HL6 := Lib.hid HP6.out.lt
  clear hb
  go_wp2_with fail
  refine hK.out _ _ hK6 (fun hHeld2 => ?_)
  clear hK K
  try simp only [Act.put, List.setIfInBounds_toArray, List.set_cons_zero, List.set_cons_succ]
  refine wpAnyH_take (i := 4) (oi := { dst := Option.some 20, op := Go.Op.convert 37 3 (Go.Operand.tmp 19), type := 3, pos := "frame.go:26", after := #[{ on := 3, ground := Go.Ground.data }], guard := Option.none }) (v := ?_) rfl (by kernel_rfl) (by kernel_rfl) (by kernel_rfl) (fun _ _ _ h => h) (Or.inl ⟨by rfl, ?_⟩) (by assumption) ?_
  rotate_left
  · intro w hSw; (try dsimp only at hSw); go_simp; (try with_reducible rfl)
  simp only [Act.put, List.setIfInBounds_toArray, List.set_cons_zero, List.set_cons_succ]
  refine wpAnyH_ready (rs := [5]) (by kernel_rfl) (by simp) ?_
  refine AllReadyH.cons (o := { dst := Option.some 21, op := Go.Op.call { callee := Go.Callee.value (Go.Operand.func 80), args := #[Go.Operand.const (Go.Value.int Go.IntKind.i64 4), Go.Operand.tmp 20], argTypes := #[3, 3] }, type := 9, pos := "frame.go:26", after := #[{ on := 4, ground := Go.Ground.data }, { on := 3, ground := Go.Ground.chain }], guard := Option.none }) rfl (fun K hK => ?_) AllReadyH.nil
  go_simp
  refine (HPut.out _).mono ?_
  rintro e W7 ⟨rfl, hb⟩
  have hK7 : W7.rangeAt (w.heap.size + 1) 4 (pv (payl kind d)) := fun j v hv => (hb.cell (p := ⟨w.heap.size + 1, 4 + j, none⟩) HL6.out).trans (hK6 j v hv)
  have HP7 := Lib.hid (HP6.out.under hb HL6.out)
  have HR7 : Hid (W7.there w.heap.size 0 128) := Lib.hid (fun j hj => ⟨by rw [hb.cell (p := ⟨w.heap.size, 0 + j, none⟩) (by have := HL6.out; simp; omega)]; exact (HR6.out j hj).1, by rw [hb.frozen (p := ⟨w.heap.size, 0 + j, none⟩) (by have := HL6.out; simp; omega)]; exact (HR6.out j hj).2⟩)
  have HB7 := Lib.hid (HB6.out.trans (hb.mono HB6.out.size))
  clear hb
  go_wp2_with fail
  refine hK.out _ _ hK7 (fun hHeld3 => ?_)
  clear hK K
  try simp only [Act.put, List.setIfInBounds_toArray, List.set_cons_zero, List.set_cons_succ]
  refine wpAnyH_ready (rs := [6]) (by kernel_rfl) (by simp) ?_
  refine AllReadyH.cons (o := { dst := Option.some 22, op := Go.Op.call { callee := Go.Callee.builtin Go.Builtin.copy, args := #[Go.Operand.tmp 16, Go.Operand.tmp 21], argTypes := #[56, 9] }, type := 3, pos := "frame.go:26", after := #[{ on := 0, ground := Go.Ground.data }, { on := 5, ground := Go.Ground.data }, { on := 5, ground := Go.Ground.chain }], guard := Option.none }) rfl (fun K hK => ?_) AllReadyH.nil
  have hz4 := sum_four (payl kind d)
  have hsz := sum_size (payl kind d)
  have hcp := run_copy_string (P := Tryd.prog) W7 56 9 3 5 (w.heap.size + 1) 0 128 128 (putB 4 ((sumL (payl kind d) : Nat) : Int)) Tryd.underlying56 sizeOf_u8 (by omega) (fun j hj => by rw [Nat.zero_add]; exact HP7.out.some _ (by omega)) (fun j hj => by rw [Nat.zero_add]; exact HP7.out.free _ (by omega))
  have hp8 := HP7.out.copy 0 (putB 4 ((sumL (payl kind d) : Nat) : Int)).data.toList (by omega)
  rw [q4_eq _ _ hz4] at hp8
  have hr8 := World.there_setCells HR7.out (w.heap.size + 1) 0 (pv (putB 4 ((sumL (payl kind d) : Nat) : Int)).data.toList)
  have hb8 := HB7.out.trans (setCells_below (pv (putB 4 ((sumL (payl kind d) : Nat) : Int)).data.toList) W7 (w.heap.size + 1) 0 w.heap.size (by omega))
  have hK8 : (W7.setCells (w.heap.size + 1) 0 (pv (putB 4 ((sumL (payl kind d) : Nat) : Int)).data.toList)).rangeAt (w.heap.size + 1) 4 (pv (payl kind d)) := World.rangeAt_setCells_apart hK7 _ _ _ (.inr (.inr (by rw [pv_length, hz4]; omega)))
  go_simp
  refine hK.out _ _ hK8 (fun hHeld4 => ?_)
  clear hK K
  try simp only [Act.put, List.setIfInBounds_toArray, List.set_cons_zero, List.set_cons_succ]
  refine wpAnyH_done (by kernel_rfl) ?_ _
  obtain ⟨W8, hW8⟩ : ∃ W8, W8 = W7.setCells (w.heap.size + 1) 0 (List.map (fun x : UInt8 => Value.int IntKind.u8 (x.toNat : Int)) (putB 4 ((sumL (payl kind d) : Nat) : Int)).data.toList) := ⟨_, rfl⟩
  have HP9 := Lib.hid (show PgAt W8 (w.heap.size + 1) (framP kind d) by rw [hW8]; exact hp8)
  have HR9 := Lib.hid (show W8.there w.heap.size 0 128 by rw [hW8]; exact hr8)
  have HB9 := Lib.hid (show Below w.heap.size w W8 by rw [hW8]; exact hb8)
  rw [← hW8]
  clear hW8 hp8 hr8 hb8 hK8 hcp
  have hfl := framP_length kind d HD.out
  go_wp2_with (first | ((with_reducible refine at_ld 36 (.tmp 5) ?_); refine ld_pg rfl _ rfl (w.heap.size + 1) 0 rfl (framP kind d) hfl HP9.out.r ?_) | ((with_reducible refine at_st 36 (.tmp 4) (.tmp 23) ?_); refine st_pg rfl _ _ rfl w.heap.size 0 rfl (framP kind d) hfl rfl HR9.out ?_))
  have hld := run_loadVar_mid (P := Tryd.prog) (W8.setCells w.heap.size 0 (pv (framP kind d))) w.heap.size 0 36 (pv (framP kind d)) _ (World.rangeAt_setCells_same W8 _ _ _ (by rw [pv_length, hfl]; exact HR9.out)) Tryd.underlying36 rfl (size_of hfl)
  exact bodyPost_ret (v := .agg (pv (framP kind d)).toArray) (results_one Tryd.results76 _ _ _ _ rfl hld) rfl ⟨rfl, HB9.out.trans (setCells_below _ _ _ _ _ (Nat.le_refl _))⟩
end Go.Proofs.YtmnkgcgmbdkjaaaDoor
namespace Go.Proofs.YtmnkgcgmbdkjaaaDoor
open Go.RowKit Go.Extern.Stop Go.Stop Go.Extern Go.Proofs.YtmnkgcgmbdkjaaaDoorW.PrintWords Go.Proofs.YtmnkgcgmbdkjaaaDoorW.PrintLast Go.Proofs.YtmnkgcgmbdkjaaaDoorW.PrintMore Go.Proofs.YtmnkgcgmbdkjaaaDoor.PSuperPlays
set_option linter.unusedVariables false
set_option linter.unusedSimpArgs false

/-- why a frame can't be laid; 0 -/
def frC (kind : Int) (d : ByteArray) : Int := if kind < 1 ∨ 255 < kind then 1 else if 120 < d.size then 8 else 0
theorem frC_zero {kind : Int} {d : ByteArray} : frC kind d = 0 ↔ (1 ≤ kind ∧ kind ≤ 255) ∧ d.size ≤ 120 := by
  unfold frC
  by_cases h : kind < 1 ∨ 255 < kind
  · rw [if_pos h]; constructor
    · intro h2; cases h2
    · rintro ⟨h2, _⟩; omega
  · rw [if_neg h]
    by_cases h2 : 120 < d.size
    · rw [if_pos h2]; constructor
      · intro h3; cases h3
      · rintro ⟨_, h3⟩; omega
    · rw [if_neg h2]; exact ⟨fun _ => ⟨by omega, by omega⟩, fun _ => rfl⟩
theorem res_two {P : Program} {fn : Func} {p q : Tmp} {ty : TypeId} (h : fn.results = #[.cell p ty, .tmp q]) (tmps : Array Value) (w : World) (x : Addr) (cs : Array Value) (v : Value)
    (hp : tmps.getD p undef = .pointer (some x)) (hq : tmps.getD q undef = v) (hl : (loadVar ty x).run P w = .ok (.agg cs) w) : (results fn tmps).run P w = .ok (.tuple #[.agg cs, v]) w := by
  have hp' : tmps[p]?.getD undef = .pointer (some x) := by simpa using hp
  have hq' : tmps[q]?.getD undef = v := by simpa using hq
  simp [results, h, hp', hq', asAddr, hl]
theorem build_zp (w : World) : (Instr.build 36 #[]).run Tryd.prog w = .ok (.agg (pv zp).toArray) w := by kernel_rfl
set_option maxRecDepth 100000 in
theorem right_ok (kind : Int) (d : ByteArray) (w : World) (h0 : 1 ≤ kind) (h1 : kind ≤ 255) (hd : d.size ≤ 120) : Calls Tryd.prog 75 #[.int .i64 kind, .string d] w fun e w' => e = .returned .nilIface ∧ Below w.heap.size w w' := by
  have d1 : decide (kind < 1) = false := decide_eq_false (by omega)
  have d2 : decide (255 < kind) = false := decide_eq_false (by omega)
  have d3 : decide (120 < (d.size : Int)) = false := decide_eq_false (by omega)
  have n1 : ¬ kind < 1 := by omega
  have n2 : ¬ 255 < kind := by omega
  have n3 : ¬ 120 < d.size := by omega
  go_enter Tryd.func75, Tryd.ntmps75
  go_wp2_with fail
  go_ret
  exact ⟨rfl, Below.refl _ _⟩
set_option maxRecDepth 100000 in
theorem right_no (kind : Int) (d : ByteArray) (w : World) (h : frC kind d ≠ 0) : Calls Tryd.prog 75 #[.int .i64 kind, .string d] w fun e w' => ∃ v, e = .returned v ∧ ErrC w.heap.size w' v (frC kind d) ∧ Below w.heap.size w w' := by
  by_cases h1 : kind < 1
  · have hc : frC kind d = 1 := by unfold frC; rw [if_pos (.inl h1)]
    have d1 : decide (kind < 1) = true := decide_eq_true h1
    rw [hc]
    clear h hc
    go_enter Tryd.func75, Tryd.ntmps75
    go_wp2_with fail
    refine (Tag_err _ 1 _).mono ?_
    rintro e w1 ⟨v, rfl, he, hb⟩
    have HE := Lib.hid he
    have HB := Lib.hid hb
    clear he hb
    go_wp2_with fail
    go_ret
    exact ⟨v, rfl, HE.out, HB.out⟩
  · have d1 : decide (kind < 1) = false := decide_eq_false h1
    by_cases h2 : 255 < kind
    · have hc : frC kind d = 1 := by unfold frC; rw [if_pos (.inr h2)]
      have d2 : decide (255 < kind) = true := decide_eq_true h2
      rw [hc]
      clear h hc
      go_enter Tryd.func75, Tryd.ntmps75
      go_wp2_with fail
      refine (Tag_err _ 1 _).mono ?_
      rintro e w1 ⟨v, rfl, he, hb⟩
      have HE := Lib.hid he
      have HB := Lib.hid hb
      clear he hb
      go_wp2_with fail
      go_ret
      exact ⟨v, rfl, HE.out, HB.out⟩
    · have d2 : decide (255 < kind) = false := decide_eq_false h2
      have h3 : 120 < d.size := by
        rcases Nat.lt_or_ge 120 d.size with h3 | h3
        · exact h3
        · exact absurd (frC_zero.2 ⟨⟨by omega, by omega⟩, h3⟩) h
      have hc : frC kind d = 8 := by unfold frC; rw [if_neg (by omega), if_pos h3]
      have d3 : decide (120 < (d.size : Int)) = true := decide_eq_true (by omega)
      rw [hc]
      clear h hc
      go_enter Tryd.func75, Tryd.ntmps75
      go_wp2_with fail
      refine (Tag_err _ 8 _).mono ?_
      rintro e w1 ⟨v, rfl, he, hb⟩
      have HE := Lib.hid he
      have HB := Lib.hid hb
      clear he hb
      go_wp2_with fail
      go_ret
      exact ⟨v, rfl, HE.out, HB.out⟩
set_option maxRecDepth 100000 in
theorem lay_ok (kind : Int) (d : ByteArray) (w : World) (h : frC kind d = 0) : Calls Tryd.prog 33 #[.int .i64 kind, .string d] w fun e w' => e = .returned (.tuple #[.agg (pv (framP kind d)).toArray, .nilIface]) ∧ Below w.heap.size w w' := by
  obtain ⟨⟨h0, h1⟩, hd⟩ := frC_zero.1 h
  have HR := Lib.hid (fun w => right_ok kind d w h0 h1 hd)
  have HL := Lib.hid (fun w => laid_any kind d w (by omega) h1 (by omega))
  have hfl := framP_length kind d (by omega)
  clear h h0 h1 hd
  go_enter Tryd.func33, Tryd.ntmps33
  go_wp2_with ((with_reducible refine at_al 36 ?_); refine al_pg rfl rfl ?_)
  refine (HR.out _).mono ?_
  rintro e w1 ⟨rfl, hb⟩
  have HP1 := Lib.hid ((PgAt.new w 36 zp zp_length).under hb (by simp))
  have HB1 := Lib.hid (((Below.refl w.heap.size w).alloc (Nat.le_refl _) (.cells (pv zp).toArray 36)).trans (hb.mono (by simp)))
  clear hb
  go_wp2_with fail
  refine (HL.out _).mono ?_
  rintro e w2 ⟨rfl, hb⟩
  have HP2 := Lib.hid (HP1.out.under hb HP1.out.lt)
  have HB2 := Lib.hid (HB1.out.trans (hb.mono HB1.out.size))
  clear hb
  go_wp2_with ((with_reducible refine at_st 36 (.tmp 4) (.tmp 16) ?_); refine st_pg rfl _ _ rfl w.heap.size 0 rfl (framP kind d) hfl rfl HP2.out.t ?_)
  have hld := run_loadVar_mid (P := Tryd.prog) (w2.setCells w.heap.size 0 (pv (framP kind d))) w.heap.size 0 36 (pv (framP kind d)) _ (World.rangeAt_setCells_same w2 _ _ _ (by rw [pv_length, hfl]; exact HP2.out.t)) Tryd.underlying36 rfl (size_of hfl)
  exact bodyPost_ret (v := .tuple #[.agg (pv (framP kind d)).toArray, .nilIface]) (res_two Tryd.results33 _ _ _ _ _ rfl rfl hld) rfl ⟨rfl, HB2.out.trans (setCells_below _ _ _ _ _ (Nat.le_refl _))⟩
set_option maxRecDepth 100000 in
theorem lay_no (kind : Int) (d : ByteArray) (w : World) (h : frC kind d ≠ 0) : Calls Tryd.prog 33 #[.int .i64 kind, .string d] w fun e w' => ∃ v, e = .returned (.tuple #[.agg (pv zp).toArray, v]) ∧ ErrC w.heap.size w' v (frC kind d) ∧ Below w.heap.size w w' := by
  have HR := Lib.hid (fun w => right_no kind d w h)
  have HC := Lib.hid h
  have hbz := build_zp
  clear h
  go_enter Tryd.func33, Tryd.ntmps33
  go_wp2_with ((with_reducible refine at_al 36 ?_); refine al_pg rfl rfl ?_)
  refine (HR.out _).mono ?_
  rintro e w1 ⟨v, rfl, he, hb⟩
  have HE := Lib.hid he
  obtain ⟨ty, xx, rfl⟩ := he.iface HC.out
  have HP1 := Lib.hid ((PgAt.new w 36 zp zp_length).under hb (by simp))
  have HB1 := Lib.hid (((Below.refl w.heap.size w).alloc (Nat.le_refl _) (.cells (pv zp).toArray 36)).trans (hb.mono (by simp)))
  clear hb he
  go_wp2_with ((with_reducible refine at_st 36 (.tmp 4) (.tmp 12) ?_); refine st_pg rfl _ _ rfl w.heap.size 0 rfl zp zp_length rfl HP1.out.t ?_)
  have hld := run_loadVar_mid (P := Tryd.prog) (w1.setCells w.heap.size 0 (pv zp)) w.heap.size 0 36 (pv zp) _ (World.rangeAt_setCells_same w1 _ _ _ (by rw [pv_length, zp_length]; exact HP1.out.t)) Tryd.underlying36 rfl (size_of zp_length)
  refine bodyPost_ret (v := .tuple #[.agg (pv zp).toArray, .iface ty xx]) (res_two Tryd.results33 _ _ _ _ _ rfl rfl hld) rfl ⟨_, rfl, ?_, HB1.out.trans (setCells_below _ _ _ _ _ (Nat.le_refl _))⟩
  have key : ∀ (vs : List Value) (W : World) (o : Nat), ErrC (w.alloc (.cells (pv zp).toArray 36)).heap.size W (.iface ty xx) (frC kind d) → ErrC (w.alloc (.cells (pv zp).toArray 36)).heap.size (W.setCells w.heap.size o vs) (.iface ty xx) (frC kind d) := by
    intro vs
    induction vs with
    | nil => intro W o h; exact h
    | cons u r ih => intro W o h; exact ih _ _ (h.setCell (a := ⟨w.heap.size, o, none⟩) (by simp) u)
  exact (key _ _ _ HE.out).mono (by simp)
end Go.Proofs.YtmnkgcgmbdkjaaaDoor
namespace Go.Proofs.YtmnkgcgmbdkjaaaDoor
open Go.RowKit Go.Extern.Stop Go.Stop Go.Extern Go.Proofs.YtmnkgcgmbdkjaaaDoorW.PrintWords Go.Proofs.YtmnkgcgmbdkjaaaDoorW.PrintLast Go.Proofs.YtmnkgcgmbdkjaaaDoorW.PrintMore Go.Proofs.YtmnkgcgmbdkjaaaDoor.PSuperPlays
set_option linter.unusedVariables false
set_option linter.unusedSimpArgs false

def strP (l : Pg) : ByteArray := ⟨l.toArray⟩
theorem strP_size (l : Pg) : (strP l).size = l.length := by show l.toArray.size = _; simp
/-- the parts of a page -/
def kindP (p : Pg) : Nat := (p.getD 4 0).toNat
def sizeP (p : Pg) : Nat := min (p.getD 5 0).toNat 120
def dataP (p : Pg) : ByteArray := strP ((p.drop 6).take (sizeP p))
def sumP (p : Pg) : Prop := getK (strP (p.take 4)) 4 = ((sumL (p.drop 4) : Nat) : Int)
/-- why a page can't be read; 0 -/
def rdC (p : Pg) : Int := if getK (strP (p.take 4)) 4 ≠ ((sumL (p.drop 4) : Nat) : Int) then 3 else if kindP p = 0 ∨ framP (kindP p) (dataP p) ≠ p then 2 else 0
theorem part_range {W : World} {b : Nat} {p : Pg} (h : PgAt W b p) (o n : Nat) (hn : o + n ≤ 128) : W.rangeAt b o (pv ((p.drop o).take n)) := fun j v hv => by
  have hj : j < ((p.drop o).take n).length := by
    have := (List.getElem?_eq_some_iff.1 hv).1
    rwa [pv_length] at this
  have h1 : j < n := by rw [List.length_take] at hj; omega
  have := h.r (o + j) v (by rw [pv_get] at hv ⊢; rw [List.getElem?_take_of_lt h1, List.getElem?_drop] at hv; exact hv)
  rwa [Nat.zero_add] at this
theorem conv_part {W : World} {b : Nat} {p : Pg} (h : PgAt W b p) (o n c : Nat) (hn : o + n ≤ 128) : (convert 56 9 (.slice (some ⟨b, o, none⟩) n c)).run Tryd.prog W = .ok (.string (strP ((p.drop o).take n))) W :=
  read_part n c (by rw [List.length_take, List.length_drop, h.l]; omega) (part_range h o n hn)
theorem byte_wraps (x : UInt8) : wrap64 (x.toNat : Int) = (x.toNat : Int) ∧ IntKind.i64.wrap (x.toNat : Int) = (x.toNat : Int) := by
  have h : x.toNat < 256 := x.toNat_lt
  exact ⟨by unfold wrap64; omega, IntWalk.i64_in _ (by omega)⟩
theorem six_wraps (n : Nat) (h : n ≤ 120) : wrap64 (6 + (n : Int)) = 6 + (n : Int) ∧ IntKind.i64.wrap (6 + (n : Int)) = 6 + (n : Int) ∧ (6 + (n : Int)).toNat = 6 + n ∧ (6 + n) - 6 = n ∧ ¬ (6 + (n : Int) < 6) ∧ 6 + n ≤ 128 :=
  ⟨by unfold wrap64; omega, IntWalk.i64_in _ (by omega), by omega, by omega, by omega, by omega⟩
theorem page_facts (p : Pg) (x4 x5 : UInt8) (hx4 : p[4]? = some x4) (hx5 : p[5]? = some x5) :
    wrap64 (x4.toNat : Int) = ((kindP p : Nat) : Int) ∧ IntKind.i64.wrap (x4.toNat : Int) = ((kindP p : Nat) : Int) ∧ wrap64 (x5.toNat : Int) = (x5.toNat : Int) ∧ min (x5.toNat : Int) 120 = ((sizeP p : Nat) : Int) ∧ sizeP p ≤ 120 ∧
    wrap64 (6 + ((sizeP p : Nat) : Int)) = 6 + ((sizeP p : Nat) : Int) ∧ IntKind.i64.wrap (6 + ((sizeP p : Nat) : Int)) = 6 + ((sizeP p : Nat) : Int) ∧ (6 + ((sizeP p : Nat) : Int)).toNat = 6 + sizeP p ∧ (6 + sizeP p) - 6 = sizeP p ∧ ¬ (6 + ((sizeP p : Nat) : Int) < 6) ∧ 6 + sizeP p ≤ 128 := by
  have e4 : kindP p = x4.toNat := by unfold kindP; rw [List.getD_eq_getElem?_getD, hx4]; rfl
  have e5 : sizeP p = min x5.toNat 120 := by unfold sizeP; rw [List.getD_eq_getElem?_getD, hx5]; rfl
  have hn : sizeP p ≤ 120 := by rw [e5]; omega
  obtain ⟨s1, s2, s3, s4, s5, s6⟩ := six_wraps (sizeP p) hn
  refine ⟨by rw [e4]; exact (byte_wraps x4).1, by rw [e4]; exact (byte_wraps x4).2, (byte_wraps x5).1, ?_, hn, s1, s2, s3, s4, s5, s6⟩
  rw [e5]; omega
theorem yif_ne {ops : Array Oper} {S : World → Prop} {op : Oper} {a : Act} (hw : Region.wanted op (yielded ops a.tmps) = true) (x y : Operand) (ho : op.op = .binOp .neq 36 x y 36) (p q : Pg) (hx : a.eval x = .agg (pv p).toArray) (hy : a.eval y = .agg (pv q).toArray) (hp : p.length = 128) (hq : q.length = 128) : YieldsIf Tryd.prog ops S op (.bool (!(p == q))) a :=
  .inl ⟨hw, fun w _ => by
    unfold execOp
    have he := neq_pg w p q hp hq
    have hgq := run_eqGuard_agg (P := Tryd.prog) w .neq 36 x y (pv p).toArray (pv q).toArray (by kernel_rfl)
    simp only [ho, hx, hy, Sem.run_bind, Sem.run_pure, Result.andThen_ok, he, hgq]⟩
theorem slice_part (b n : Nat) (hn : 6 + n ≤ 128) (W : World) : (Instr.sliceAt 36 (.pointer (some ⟨b, 0, none⟩)) (some (.int .i64 6)) (some (.int .i64 (6 + (n : Int)))) none).run Tryd.prog W = .ok (.slice (some ⟨b, 6, none⟩) n 122) W := by
  have ha : Tryd.prog.arrayLen 36 = 128 := by kernel_rfl
  have he : Tryd.prog.elem 36 = 5 := by kernel_rfl
  have h := run_sliceAt_array_lh (P := Tryd.prog) (t := 36) (w := W) (a := ⟨b, 0, none⟩) (by kernel_rfl) .i64 .i64 6 (6 + (n : Int)) (by omega) (by omega) (by rw [ha]; omega)
  rw [he, ha, sizeOf_u8 W] at h
  rw [h]
  have e6 : (6 : Int).toNat = 6 := rfl
  have e7 : (6 + (n : Int)).toNat - 6 = n := by omega
  show Result.ok (slicedAt ⟨b, 0, none⟩ (6 : Int).toNat (6 + (n : Int)).toNat 128 1) W = _
  unfold slicedAt
  rw [e6, e7, if_neg (by omega)]
  rfl
set_option maxHeartbeats 8000000 in
set_option maxRecDepth 100000 in
theorem read_sum (p : Pg) (hp : p.length = 128) (w : World) (hs : getK (strP (p.take 4)) 4 ≠ ((sumL (p.drop 4) : Nat) : Int)) :
    Calls Tryd.prog 34 #[.agg (pv p).toArray] w fun e w' => ∃ v, e = .returned (.tuple #[.int .i64 0, .string ⟨#[]⟩, v]) ∧ ErrC w.heap.size w' v 3 ∧ Below w.heap.size w w' := by
  have hz4 : (strP (p.take 4)).size = 4 := by rw [strP_size, List.length_take, hp]; rfl
  have hd4 : (p.drop 4).take 124 = p.drop 4 := List.take_of_length_le (by rw [List.length_drop, hp]; omega)
  have HG := Lib.hid (fun W => Get_ok (strP (p.take 4)) 4 W (by decide) (by omega) (by omega))
  have HSum := Lib.hid (fun W => sum_any (strP (p.drop 4)) (by rw [strP_size, List.length_drop, hp]; omega) W)
  have hsb : Crc.sumN (byl (strP (p.drop 4))) = sumL (p.drop 4) := by unfold strP; rw [byl_list]; rfl
  rw [hsb] at HSum
  have hs4 := sumL_lt (p.drop 4)
  have ew : IntKind.i64.wrap ((sumL (p.drop 4) : Nat) : Int) = ((sumL (p.drop 4) : Nat) : Int) := by simp [IntKind.wrap, IntKind.bits, IntKind.signed]; omega
  have HP0 := Lib.hid (PgAt.new w 36 p hp)
  have HB0 := Lib.hid ((Below.refl w.heap.size w).alloc (Nat.le_refl _) (.cells (pv p).toArray 36))
  have cv0 := conv_part HP0.out 0 4 128 (by omega)
  rw [List.drop_zero] at cv0
  go_enter Tryd.func34, Tryd.ntmps34
  go_wp2_with fail
  refine (HG.out _).mono ?_
  rintro e w1 ⟨rfl, hb⟩
  have HP1 := Lib.hid (HP0.out.under hb (by simp))
  have HB1 := Lib.hid (HB0.out.trans (hb.mono (by simp)))
  clear hb cv0
  have cv1 := conv_part HP1.out 4 124 124 (by omega)
  rw [hd4] at cv1
  go_wp2_with fail
  refine (HSum.out _).mono ?_
  rintro e w2 ⟨rfl, hb⟩
  have HP2 := Lib.hid (HP1.out.under hb HP1.out.lt)
  have HB2 := Lib.hid (HB1.out.trans (hb.mono HB1.out.size))
  clear hb cv1
  have hne : (getK (strP (p.take 4)) 4 != ((sumL (p.drop 4) : Nat) : Int)) = true := by simpa using hs
  clear hs
  go_wp2_with fail
  refine (Tag_err _ 3 _).mono ?_
  rintro e w3 ⟨v, rfl, he, hb⟩
  have HE := Lib.hid he
  have HB3 := Lib.hid (HB2.out.trans (hb.mono HB2.out.size))
  clear he hb
  go_wp2_with fail
  refine bodyPost_ret (v := .tuple #[.int .i64 0, .string ⟨#[]⟩, v]) (by simp [results, Tryd.results34]) rfl ⟨v, rfl, HE.out.mono HB2.out.size, HB3.out⟩
set_option maxHeartbeats 8000000 in
set_option maxRecDepth 100000 in
theorem read_kind (p : Pg) (hp : p.length = 128) (w : World) (hs : getK (strP (p.take 4)) 4 = ((sumL (p.drop 4) : Nat) : Int)) (hk : kindP p = 0) :
    Calls Tryd.prog 34 #[.agg (pv p).toArray] w fun e w' => ∃ v, e = .returned (.tuple #[.int .i64 0, .string ⟨#[]⟩, v]) ∧ ErrC w.heap.size w' v 2 ∧ Below w.heap.size w w' := by
  have HRN := Lib.hid (fun W => right_no 0 (dataP p) W (by unfold frC; rw [if_pos (by omega)]; decide))
  rw [show frC 0 (dataP p) = 1 by unfold frC; rw [if_pos (by omega)]] at HRN
  have hz4 : (strP (p.take 4)).size = 4 := by rw [strP_size, List.length_take, hp]; rfl
  have hd4 : (p.drop 4).take 124 = p.drop 4 := List.take_of_length_le (by rw [List.length_drop, hp]; omega)
  have HG := Lib.hid (fun W => Get_ok (strP (p.take 4)) 4 W (by decide) (by omega) (by omega))
  have HSum := Lib.hid (fun W => sum_any (strP (p.drop 4)) (by rw [strP_size, List.length_drop, hp]; omega) W)
  have hsb : Crc.sumN (byl (strP (p.drop 4))) = sumL (p.drop 4) := by unfold strP; rw [byl_list]; rfl
  rw [hsb] at HSum
  have hs4 := sumL_lt (p.drop 4)
  have ew : IntKind.i64.wrap ((sumL (p.drop 4) : Nat) : Int) = ((sumL (p.drop 4) : Nat) : Int) := by simp [IntKind.wrap, IntKind.bits, IntKind.signed]; omega
  have HP0 := Lib.hid (PgAt.new w 36 p hp)
  have HB0 := Lib.hid ((Below.refl w.heap.size w).alloc (Nat.le_refl _) (.cells (pv p).toArray 36))
  have cv0 := conv_part HP0.out 0 4 128 (by omega)
  rw [List.drop_zero] at cv0
  go_enter Tryd.func34, Tryd.ntmps34
  go_wp2_with fail
  refine (HG.out _).mono ?_
  rintro e w1 ⟨rfl, hb⟩
  have HP1 := Lib.hid (HP0.out.under hb (by simp))
  have HB1 := Lib.hid (HB0.out.trans (hb.mono (by simp)))
  clear hb cv0
  have cv1 := conv_part HP1.out 4 124 124 (by omega)
  rw [hd4] at cv1
  go_wp2_with fail
  refine (HSum.out _).mono ?_
  rintro e w2 ⟨rfl, hb⟩
  have HP2 := Lib.hid (HP1.out.under hb HP1.out.lt)
  have HB2 := Lib.hid (HB1.out.trans (hb.mono HB1.out.size))
  clear hb cv1
  have hne : (getK (strP (p.take 4)) 4 != ((sumL (p.drop 4) : Nat) : Int)) = false := by rw [hs]; simp
  rw [hs] at *
  clear hs
  obtain ⟨x4, hx4⟩ : ∃ x, p[4]? = some x := ⟨_, List.getElem?_eq_getElem (by omega)⟩
  obtain ⟨x5, hx5⟩ : ∃ x, p[5]? = some x := ⟨_, List.getElem?_eq_getElem (by omega)⟩
  have c4 := HP2.out.byte 4 x4 hx4
  have c5 := HP2.out.byte 5 x5 hx5
  obtain ⟨ek, ek2, e5, en, hn, ea, ea2, eb, ec, hl1, hl2⟩ := page_facts p x4 x5 hx4 hx5
  go_wp2_with fail
  refine wp_region_still_lit (by kernel_rfl) (by kernel_rfl) ?_
  rw [show ({ w2 with drawn := w2.drawn + 1 } : World) = w2.drew from rfl]
  obtain ⟨Wd, hWd⟩ : ∃ Wd, Wd = w2.drew := ⟨_, rfl⟩
  have hbd : Below w2.heap.size w2 Wd := by rw [hWd]; exact Below.drew (Below.refl _ _)
  rw [← hWd]
  clear hWd c4 c5
  have HP3 := Lib.hid (HP2.out.under hbd HP2.out.lt)
  have HB3 := Lib.hid (HB2.out.trans (hbd.mono HB2.out.size))
  have c4 := HP3.out.byte 4 x4 hx4
  have cv2 := conv_part HP3.out 6 (sizeP p) 122 (by omega)
  rw [show strP ((p.drop 6).take (sizeP p)) = dataP p from rfl] at cv2
  clear hbd HP2 HB2
  still_step
  still_step
  still_step
  still_step
  still_step
  have hsl := slice_part w.heap.size (sizeP p) (by omega) Wd
  still_step
  still_step
  still_step
  still_step
  refine wpStill_nil ?_
  go_wp2_with fail
  have HR3 := Lib.hid HP3.out.r
  have hS0 : Wd.drew.rangeAt w.heap.size 0 (pv p) := (World.rangeAt_drew _ _ _ _).2 HR3.out
  refine wp_region_held_drew (S := fun w' => w'.rangeAt w.heap.size 0 (pv p)) (by kernel_rfl) ?_ (fun hHeld => ?_)
  · exact hS0
  refine wpAnyH_take (i := 0) (oi := { dst := Option.some 35, op := Go.Op.move (Go.Operand.tmp 8), type := 3, pos := "frame.go:57", after := #[], guard := Option.none }) (v := ?_) rfl (by kernel_rfl) (by kernel_rfl) (by kernel_rfl) (fun _ _ _ h => h) (Or.inl ⟨by rfl, ?_⟩) (by assumption) ?_
  rotate_left
  · intro w hSw; (try dsimp only at hSw); go_simp; (try with_reducible rfl)
  simp only [Act.put, List.setIfInBounds_toArray, List.set_cons_zero, List.set_cons_succ]
  refine wpAnyH_take (i := 1) (oi := { dst := Option.some 36, op := Go.Op.move (Go.Operand.tmp 9), type := 9, pos := "frame.go:57", after := #[], guard := Option.none }) (v := ?_) rfl (by kernel_rfl) (by kernel_rfl) (by kernel_rfl) (fun _ _ _ h => h) (Or.inl ⟨by rfl, ?_⟩) (by assumption) ?_
  rotate_left
  · intro w hSw; (try dsimp only at hSw); go_simp; (try with_reducible rfl)
  simp only [Act.put, List.setIfInBounds_toArray, List.set_cons_zero, List.set_cons_succ]
  refine wpAnyH_ready (rs := [2]) (by kernel_rfl) (by simp) ?_
  refine AllReadyH.cons (o := { dst := Option.some 37, op := Go.Op.call { callee := Go.Callee.value (Go.Operand.func 75), args := #[Go.Operand.tmp 35, Go.Operand.tmp 36], argTypes := #[3, 9] }, type := 26, pos := "frame.go:57", after := #[{ on := 0, ground := Go.Ground.data }, { on := 1, ground := Go.Ground.data }], guard := Option.none }) rfl (fun K hK => ?_) AllReadyH.nil
  go_simp
  refine (HRN.out _).mono ?_
  rintro e W6 ⟨v, rfl, he, hb⟩
  obtain ⟨ty, xx, rfl⟩ := he.iface (by decide)
  have hK6 : W6.rangeAt w.heap.size 0 (pv p) := fun j v hv => (hb.cell (p := ⟨w.heap.size, 0 + j, none⟩) HP3.out.lt).trans (hS0 j v hv)
  have HB6 := Lib.hid (HB3.out.trans (((Below.drew (Below.refl _ _)).trans hb).mono HB3.out.size))
  clear hb he
  dsimp only
  refine hK.out _ _ hK6 (fun hHeld2 => ?_)
  clear hK K
  try simp only [Act.put, List.setIfInBounds_toArray, List.set_cons_zero, List.set_cons_succ]
  refine wpAnyH_take (i := 3) (oi := { dst := Option.some 38, op := Go.Op.binOp Go.BinOp.neq 26 (Go.Operand.tmp 37) (Go.Operand.const Go.Value.nilIface) 26, type := 4, pos := "frame.go:57", after := #[{ on := 2, ground := Go.Ground.data }], guard := Option.none }) (v := ?_) rfl (by kernel_rfl) (by kernel_rfl) (by kernel_rfl) (fun _ _ _ h => h) (Or.inl ⟨by rfl, ?_⟩) (by assumption) ?_
  rotate_left
  · intro w hSw; (try dsimp only at hSw); go_simp; (try with_reducible rfl)
  simp only [Act.put, List.setIfInBounds_toArray, List.set_cons_zero, List.set_cons_succ]
  refine wpAnyH_take (i := 4) (oi := { dst := Option.some 39, op := Go.Op.move (Go.Operand.tmp 38), type := 4, pos := "frame.go:57", after := #[{ on := 3, ground := Go.Ground.data }, { on := 2, ground := Go.Ground.chain }], guard := Option.none }) (v := ?_) rfl (by kernel_rfl) (by kernel_rfl) (by kernel_rfl) (fun _ _ _ h => h) (Or.inl ⟨by rfl, ?_⟩) (by assumption) ?_
  rotate_left
  · intro w hSw; (try dsimp only at hSw); go_simp; (try with_reducible rfl)
  simp only [Act.put, List.setIfInBounds_toArray, List.set_cons_zero, List.set_cons_succ]
  refine wpAnyH_take (i := 5) (oi := { dst := Option.some 40, op := Go.Op.move (Go.Operand.tmp 8), type := 3, pos := "frame.go:57", after := #[{ on := 4, ground := Go.Ground.guard }], guard := Option.some (4, Bool.false) }) (v := undef) rfl (by kernel_rfl) (by kernel_rfl) (by kernel_rfl) (fun _ _ _ h => h) (Or.inr ⟨by rfl, rfl⟩) (by assumption) ?_
  simp only [Act.put, List.setIfInBounds_toArray, List.set_cons_zero, List.set_cons_succ]
  refine wpAnyH_take (i := 6) (oi := { dst := Option.some 41, op := Go.Op.move (Go.Operand.tmp 9), type := 9, pos := "frame.go:57", after := #[{ on := 4, ground := Go.Ground.guard }], guard := Option.some (4, Bool.false) }) (v := undef) rfl (by kernel_rfl) (by kernel_rfl) (by kernel_rfl) (fun _ _ _ h => h) (Or.inr ⟨by rfl, rfl⟩) (by assumption) ?_
  simp only [Act.put, List.setIfInBounds_toArray, List.set_cons_zero, List.set_cons_succ]
  refine wpAnyH_take (i := 7) (oi := { dst := Option.some 42, op := Go.Op.call { callee := Go.Callee.value (Go.Operand.func 76), args := #[Go.Operand.tmp 40, Go.Operand.tmp 41], argTypes := #[3, 9] }, type := 36, pos := "frame.go:57", after := #[{ on := 5, ground := Go.Ground.data }, { on := 6, ground := Go.Ground.data }, { on := 4, ground := Go.Ground.chain }, { on := 4, ground := Go.Ground.guard }], guard := Option.some (4, Bool.false) }) (v := undef) rfl (by kernel_rfl) (by kernel_rfl) (by kernel_rfl) (fun _ _ _ h => h) (Or.inr ⟨by rfl, rfl⟩) (by assumption) ?_
  simp only [Act.put, List.setIfInBounds_toArray, List.set_cons_zero, List.set_cons_succ]
  refine wpAnyH_take (i := 8) (oi := { dst := Option.some 43, op := Go.Op.load 36 (Go.Operand.tmp 1), type := 36, pos := "frame.go:57", after := #[{ on := 4, ground := Go.Ground.guard }], guard := Option.some (4, Bool.false) }) (v := undef) rfl (by kernel_rfl) (by kernel_rfl) (by kernel_rfl) (fun _ _ _ h => h) (Or.inr ⟨by rfl, rfl⟩) (by assumption) ?_
  simp only [Act.put, List.setIfInBounds_toArray, List.set_cons_zero, List.set_cons_succ]
  refine wpAnyH_take (i := 9) (oi := { dst := Option.some 44, op := Go.Op.binOp Go.BinOp.neq 36 (Go.Operand.tmp 42) (Go.Operand.tmp 43) 36, type := 4, pos := "frame.go:57", after := #[{ on := 7, ground := Go.Ground.data }, { on := 8, ground := Go.Ground.data }, { on := 4, ground := Go.Ground.guard }], guard := Option.some (4, Bool.false) }) (v := undef) rfl (by kernel_rfl) (by kernel_rfl) (by kernel_rfl) (fun _ _ _ h => h) (Or.inr ⟨by rfl, rfl⟩) (by assumption) ?_
  simp only [Act.put, List.setIfInBounds_toArray, List.set_cons_zero, List.set_cons_succ]
  refine wpAnyH_take (i := 10) (oi := { dst := Option.some 45, op := Go.Op.pick (Go.Operand.tmp 39) (Go.Operand.const (Go.Value.bool Bool.true)) (Go.Operand.tmp 44), type := 4, pos := "frame.go:57", after := #[{ on := 4, ground := Go.Ground.data }, { on := 9, ground := Go.Ground.data }], guard := Option.none }) (v := ?_) rfl (by kernel_rfl) (by kernel_rfl) (by kernel_rfl) (fun _ _ _ h => h) (Or.inl ⟨by rfl, ?_⟩) (by assumption) ?_
  rotate_left
  · intro w hSw; (try dsimp only at hSw); go_simp; (try with_reducible rfl)
  simp only [Act.put, List.setIfInBounds_toArray, List.set_cons_zero, List.set_cons_succ]
  refine wpAnyH_done (by kernel_rfl) ?_ _
  go_wp2_with fail
  refine (Tag_err _ 2 _).mono ?_
  rintro e w8 ⟨v, rfl, he, hb⟩
  have HE := Lib.hid he
  have HB8 := Lib.hid (HB6.out.trans (hb.mono HB6.out.size))
  clear he hb
  go_wp2_with fail
  exact bodyPost_ret (v := .tuple #[.int .i64 0, .string ⟨#[]⟩, v]) (by simp [results, Tryd.results34]) rfl ⟨v, rfl, HE.out.mono HB6.out.size, HB8.out⟩
set_option maxHeartbeats 8000000 in
set_option maxRecDepth 100000 in
theorem read_other (p : Pg) (hp : p.length = 128) (w : World) (hs : getK (strP (p.take 4)) 4 = ((sumL (p.drop 4) : Nat) : Int)) (hk : kindP p ≠ 0) (hbe : (framP (kindP p : Nat) (dataP p) == p) = false) :
    Calls Tryd.prog 34 #[.agg (pv p).toArray] w fun e w' => ∃ v, e = .returned (.tuple #[.int .i64 0, .string ⟨#[]⟩, v]) ∧ ErrC w.heap.size w' v 2 ∧ Below w.heap.size w w' := by
  have hk0 : kindP p ≠ 0 := hk
  have hk1 : kindP p ≤ 255 := by unfold kindP; have := (p.getD 4 0).toNat_lt; omega
  have hds : (dataP p).size ≤ 120 := by unfold dataP; rw [strP_size, List.length_take]; unfold sizeP; omega
  have HRK := Lib.hid (fun W => right_ok ((kindP p : Nat) : Int) (dataP p) W (by omega) (by omega) hds)
  have HLD := Lib.hid (fun W => laid_any ((kindP p : Nat) : Int) (dataP p) W (by omega) (by omega) (by omega))
  have hfl := framP_length ((kindP p : Nat) : Int) (dataP p) (by omega)
  clear hk0 hk1 hds hk
  have hz4 : (strP (p.take 4)).size = 4 := by rw [strP_size, List.length_take, hp]; rfl
  have hd4 : (p.drop 4).take 124 = p.drop 4 := List.take_of_length_le (by rw [List.length_drop, hp]; omega)
  have HG := Lib.hid (fun W => Get_ok (strP (p.take 4)) 4 W (by decide) (by omega) (by omega))
  have HSum := Lib.hid (fun W => sum_any (strP (p.drop 4)) (by rw [strP_size, List.length_drop, hp]; omega) W)
  have hsb : Crc.sumN (byl (strP (p.drop 4))) = sumL (p.drop 4) := by unfold strP; rw [byl_list]; rfl
  rw [hsb] at HSum
  have hs4 := sumL_lt (p.drop 4)
  have ew : IntKind.i64.wrap ((sumL (p.drop 4) : Nat) : Int) = ((sumL (p.drop 4) : Nat) : Int) := by simp [IntKind.wrap, IntKind.bits, IntKind.signed]; omega
  have HP0 := Lib.hid (PgAt.new w 36 p hp)
  have HB0 := Lib.hid ((Below.refl w.heap.size w).alloc (Nat.le_refl _) (.cells (pv p).toArray 36))
  have cv0 := conv_part HP0.out 0 4 128 (by omega)
  rw [List.drop_zero] at cv0
  go_enter Tryd.func34, Tryd.ntmps34
  go_wp2_with fail
  refine (HG.out _).mono ?_
  rintro e w1 ⟨rfl, hb⟩
  have HP1 := Lib.hid (HP0.out.under hb (by simp))
  have HB1 := Lib.hid (HB0.out.trans (hb.mono (by simp)))
  clear hb cv0
  have cv1 := conv_part HP1.out 4 124 124 (by omega)
  rw [hd4] at cv1
  go_wp2_with fail
  refine (HSum.out _).mono ?_
  rintro e w2 ⟨rfl, hb⟩
  have HP2 := Lib.hid (HP1.out.under hb HP1.out.lt)
  have HB2 := Lib.hid (HB1.out.trans (hb.mono HB1.out.size))
  clear hb cv1
  have hne : (getK (strP (p.take 4)) 4 != ((sumL (p.drop 4) : Nat) : Int)) = false := by rw [hs]; simp
  rw [hs] at *
  clear hs
  obtain ⟨x4, hx4⟩ : ∃ x, p[4]? = some x := ⟨_, List.getElem?_eq_getElem (by omega)⟩
  obtain ⟨x5, hx5⟩ : ∃ x, p[5]? = some x := ⟨_, List.getElem?_eq_getElem (by omega)⟩
  have c4 := HP2.out.byte 4 x4 hx4
  have c5 := HP2.out.byte 5 x5 hx5
  obtain ⟨ek, ek2, e5, en, hn, ea, ea2, eb, ec, hl1, hl2⟩ := page_facts p x4 x5 hx4 hx5
  go_wp2_with fail
  refine wp_region_still_lit (by kernel_rfl) (by kernel_rfl) ?_
  rw [show ({ w2 with drawn := w2.drawn + 1 } : World) = w2.drew from rfl]
  obtain ⟨Wd, hWd⟩ : ∃ Wd, Wd = w2.drew := ⟨_, rfl⟩
  have hbd : Below w2.heap.size w2 Wd := by rw [hWd]; exact Below.drew (Below.refl _ _)
  rw [← hWd]
  clear hWd c4 c5
  have HP3 := Lib.hid (HP2.out.under hbd HP2.out.lt)
  have HB3 := Lib.hid (HB2.out.trans (hbd.mono HB2.out.size))
  have c4 := HP3.out.byte 4 x4 hx4
  have cv2 := conv_part HP3.out 6 (sizeP p) 122 (by omega)
  rw [show strP ((p.drop 6).take (sizeP p)) = dataP p from rfl] at cv2
  clear hbd HP2 HB2
  still_step
  still_step
  still_step
  still_step
  still_step
  have hsl := slice_part w.heap.size (sizeP p) (by omega) Wd
  still_step
  still_step
  still_step
  still_step
  refine wpStill_nil ?_
  go_wp2_with fail
  have HR3 := Lib.hid HP3.out.r
  have hS0 : Wd.drew.rangeAt w.heap.size 0 (pv p) := (World.rangeAt_drew _ _ _ _).2 HR3.out
  refine wp_region_held_drew (S := fun w' => w'.rangeAt w.heap.size 0 (pv p)) (by kernel_rfl) ?_ (fun hHeld => ?_)
  · exact hS0
  refine wpAnyH_take (i := 0) (oi := { dst := Option.some 35, op := Go.Op.move (Go.Operand.tmp 8), type := 3, pos := "frame.go:57", after := #[], guard := Option.none }) (v := ?_) rfl (by kernel_rfl) (by kernel_rfl) (by kernel_rfl) (fun _ _ _ h => h) (Or.inl ⟨by rfl, ?_⟩) (by assumption) ?_
  rotate_left
  · intro w hSw; (try dsimp only at hSw); go_simp; (try with_reducible rfl)
  simp only [Act.put, List.setIfInBounds_toArray, List.set_cons_zero, List.set_cons_succ]
  refine wpAnyH_take (i := 1) (oi := { dst := Option.some 36, op := Go.Op.move (Go.Operand.tmp 9), type := 9, pos := "frame.go:57", after := #[], guard := Option.none }) (v := ?_) rfl (by kernel_rfl) (by kernel_rfl) (by kernel_rfl) (fun _ _ _ h => h) (Or.inl ⟨by rfl, ?_⟩) (by assumption) ?_
  rotate_left
  · intro w hSw; (try dsimp only at hSw); go_simp; (try with_reducible rfl)
  simp only [Act.put, List.setIfInBounds_toArray, List.set_cons_zero, List.set_cons_succ]
  refine wpAnyH_ready (rs := [2]) (by kernel_rfl) (by simp) ?_
  refine AllReadyH.cons (o := { dst := Option.some 37, op := Go.Op.call { callee := Go.Callee.value (Go.Operand.func 75), args := #[Go.Operand.tmp 35, Go.Operand.tmp 36], argTypes := #[3, 9] }, type := 26, pos := "frame.go:57", after := #[{ on := 0, ground := Go.Ground.data }, { on := 1, ground := Go.Ground.data }], guard := Option.none }) rfl (fun K hK => ?_) AllReadyH.nil
  go_simp
  refine (HRK.out _).mono ?_
  rintro e W6 ⟨rfl, hb⟩
  have hK6 : W6.rangeAt w.heap.size 0 (pv p) := fun j v hv => (hb.cell (p := ⟨w.heap.size, 0 + j, none⟩) HP3.out.lt).trans (hS0 j v hv)
  have HB6 := Lib.hid (HB3.out.trans (((Below.drew (Below.refl _ _)).trans hb).mono HB3.out.size))
  have HL6 : Hid (w.heap.size < W6.heap.size) := Lib.hid (Nat.lt_of_lt_of_le HP3.out.lt ((Below.drew (Below.refl Wd.heap.size Wd)).trans hb).size)
  clear hb
  dsimp only
  refine hK.out _ _ hK6 (fun hHeld2 => ?_)
  clear hK K
  try simp only [Act.put, List.setIfInBounds_toArray, List.set_cons_zero, List.set_cons_succ]
  refine wpAnyH_take (i := 3) (oi := { dst := Option.some 38, op := Go.Op.binOp Go.BinOp.neq 26 (Go.Operand.tmp 37) (Go.Operand.const Go.Value.nilIface) 26, type := 4, pos := "frame.go:57", after := #[{ on := 2, ground := Go.Ground.data }], guard := Option.none }) (v := ?_) rfl (by kernel_rfl) (by kernel_rfl) (by kernel_rfl) (fun _ _ _ h => h) (Or.inl ⟨by rfl, ?_⟩) (by assumption) ?_
  rotate_left
  · intro w hSw; (try dsimp only at hSw); go_simp; (try with_reducible rfl)
  simp only [Act.put, List.setIfInBounds_toArray, List.set_cons_zero, List.set_cons_succ]
  refine wpAnyH_take (i := 4) (oi := { dst := Option.some 39, op := Go.Op.move (Go.Operand.tmp 38), type := 4, pos := "frame.go:57", after := #[{ on := 3, ground := Go.Ground.data }, { on := 2, ground := Go.Ground.chain }], guard := Option.none }) (v := ?_) rfl (by kernel_rfl) (by kernel_rfl) (by kernel_rfl) (fun _ _ _ h => h) (Or.inl ⟨by rfl, ?_⟩) (by assumption) ?_
  rotate_left
  · intro w hSw; (try dsimp only at hSw); go_simp; (try with_reducible rfl)
  simp only [Act.put, List.setIfInBounds_toArray, List.set_cons_zero, List.set_cons_succ]
  refine wpAnyH_take (i := 5) (oi := { dst := Option.some 40, op := Go.Op.move (Go.Operand.tmp 8), type := 3, pos := "frame.go:57", after := #[{ on := 4, ground := Go.Ground.guard }], guard := Option.some (4, Bool.false) }) (v := ?_) rfl (by kernel_rfl) (by kernel_rfl) (by kernel_rfl) (fun _ _ _ h => h) (Or.inl ⟨by rfl, ?_⟩) (by assumption) ?_
  rotate_left
  · intro w hSw; (try dsimp only at hSw); go_simp; (try with_reducible rfl)
  simp only [Act.put, List.setIfInBounds_toArray, List.set_cons_zero, List.set_cons_succ]
  refine wpAnyH_take (i := 6) (oi := { dst := Option.some 41, op := Go.Op.move (Go.Operand.tmp 9), type := 9, pos := "frame.go:57", after := #[{ on := 4, ground := Go.Ground.guard }], guard := Option.some (4, Bool.false) }) (v := ?_) rfl (by kernel_rfl) (by kernel_rfl) (by kernel_rfl) (fun _ _ _ h => h) (Or.inl ⟨by rfl, ?_⟩) (by assumption) ?_
  rotate_left
  · intro w hSw; (try dsimp only at hSw); go_simp; (try with_reducible rfl)
  simp only [Act.put, List.setIfInBounds_toArray, List.set_cons_zero, List.set_cons_succ]
  refine wpAnyH_take (i := 8) (oi := { dst := Option.some 43, op := Go.Op.load 36 (Go.Operand.tmp 1), type := 36, pos := "frame.go:57", after := #[{ on := 4, ground := Go.Ground.guard }], guard := Option.some (4, Bool.false) }) rfl (by kernel_rfl) (by kernel_rfl) (by kernel_rfl) (fun _ _ _ h => h) (yieldsIf_load_mid (by rfl) 36 _ rfl w.heap.size 0 rfl (pv p) _ (fun _ h => h) Tryd.underlying36 rfl (size_of hp)) (by assumption) ?_
  simp only [Act.put, List.setIfInBounds_toArray, List.set_cons_zero, List.set_cons_succ]
  refine wpAnyH_ready (rs := [7]) (by kernel_rfl) (by simp) ?_
  refine AllReadyH.cons (o := { dst := Option.some 42, op := Go.Op.call { callee := Go.Callee.value (Go.Operand.func 76), args := #[Go.Operand.tmp 40, Go.Operand.tmp 41], argTypes := #[3, 9] }, type := 36, pos := "frame.go:57", after := #[{ on := 5, ground := Go.Ground.data }, { on := 6, ground := Go.Ground.data }, { on := 4, ground := Go.Ground.chain }, { on := 4, ground := Go.Ground.guard }], guard := Option.some (4, Bool.false) }) rfl (fun K hK => ?_) AllReadyH.nil
  go_simp
  refine (HLD.out _).mono ?_
  rintro e W7 ⟨rfl, hb⟩
  have hK7 : W7.rangeAt w.heap.size 0 (pv p) := fun j v hv => (hb.cell (p := ⟨w.heap.size, 0 + j, none⟩) HL6.out).trans (hK6 j v hv)
  have HB7 := Lib.hid (HB6.out.trans (hb.mono HB6.out.size))
  clear hb
  dsimp only
  refine hK.out _ _ hK7 (fun hHeld3 => ?_)
  clear hK K
  try simp only [Act.put, List.setIfInBounds_toArray, List.set_cons_zero, List.set_cons_succ]
  refine wpAnyH_take (i := 9) (oi := { dst := Option.some 44, op := Go.Op.binOp Go.BinOp.neq 36 (Go.Operand.tmp 42) (Go.Operand.tmp 43) 36, type := 4, pos := "frame.go:57", after := #[{ on := 7, ground := Go.Ground.data }, { on := 8, ground := Go.Ground.data }, { on := 4, ground := Go.Ground.guard }], guard := Option.some (4, Bool.false) }) rfl (by kernel_rfl) (by kernel_rfl) (by kernel_rfl) (fun _ _ _ h => h) (yif_ne (by rfl) _ _ rfl (framP (kindP p : Nat) (dataP p)) p rfl rfl hfl hp) (by assumption) ?_
  simp only [Act.put, List.setIfInBounds_toArray, List.set_cons_zero, List.set_cons_succ]
  try rw [hbe]
  try simp only [Bool.not_true, Bool.not_false]
  refine wpAnyH_take (i := 10) (oi := { dst := Option.some 45, op := Go.Op.pick (Go.Operand.tmp 39) (Go.Operand.const (Go.Value.bool Bool.true)) (Go.Operand.tmp 44), type := 4, pos := "frame.go:57", after := #[{ on := 4, ground := Go.Ground.data }, { on := 9, ground := Go.Ground.data }], guard := Option.none }) (v := ?_) rfl (by kernel_rfl) (by kernel_rfl) (by kernel_rfl) (fun _ _ _ h => h) (Or.inl ⟨by rfl, ?_⟩) (by assumption) ?_
  rotate_left
  · intro w hSw; (try dsimp only at hSw); go_simp; (try with_reducible rfl)
  simp only [Act.put, List.setIfInBounds_toArray, List.set_cons_zero, List.set_cons_succ]
  refine wpAnyH_done (by kernel_rfl) ?_ _
  go_wp2_with fail
  refine (Tag_err _ 2 _).mono ?_
  rintro e w8 ⟨v, rfl, he, hb⟩
  have HE := Lib.hid he
  have HB8 := Lib.hid (HB7.out.trans (hb.mono HB7.out.size))
  clear he hb
  go_wp2_with fail
  exact bodyPost_ret (v := .tuple #[.int .i64 0, .string ⟨#[]⟩, v]) (by simp [results, Tryd.results34]) rfl ⟨v, rfl, HE.out.mono HB7.out.size, HB8.out⟩
set_option maxHeartbeats 8000000 in
set_option maxRecDepth 100000 in
theorem read_fine (p : Pg) (hp : p.length = 128) (w : World) (hs : getK (strP (p.take 4)) 4 = ((sumL (p.drop 4) : Nat) : Int)) (hk : kindP p ≠ 0) (hbe : (framP (kindP p : Nat) (dataP p) == p) = true) :
    Calls Tryd.prog 34 #[.agg (pv p).toArray] w fun e w' => e = .returned (.tuple #[.int .i64 (kindP p : Nat), .string (dataP p), .nilIface]) ∧ Below w.heap.size w w' := by
  have hk0 : kindP p ≠ 0 := hk
  have hk1 : kindP p ≤ 255 := by unfold kindP; have := (p.getD 4 0).toNat_lt; omega
  have hds : (dataP p).size ≤ 120 := by unfold dataP; rw [strP_size, List.length_take]; unfold sizeP; omega
  have HRK := Lib.hid (fun W => right_ok ((kindP p : Nat) : Int) (dataP p) W (by omega) (by omega) hds)
  have HLD := Lib.hid (fun W => laid_any ((kindP p : Nat) : Int) (dataP p) W (by omega) (by omega) (by omega))
  have hfl := framP_length ((kindP p : Nat) : Int) (dataP p) (by omega)
  clear hk0 hk1 hds hk
  have hz4 : (strP (p.take 4)).size = 4 := by rw [strP_size, List.length_take, hp]; rfl
  have hd4 : (p.drop 4).take 124 = p.drop 4 := List.take_of_length_le (by rw [List.length_drop, hp]; omega)
  have HG := Lib.hid (fun W => Get_ok (strP (p.take 4)) 4 W (by decide) (by omega) (by omega))
  have HSum := Lib.hid (fun W => sum_any (strP (p.drop 4)) (by rw [strP_size, List.length_drop, hp]; omega) W)
  have hsb : Crc.sumN (byl (strP (p.drop 4))) = sumL (p.drop 4) := by unfold strP; rw [byl_list]; rfl
  rw [hsb] at HSum
  have hs4 := sumL_lt (p.drop 4)
  have ew : IntKind.i64.wrap ((sumL (p.drop 4) : Nat) : Int) = ((sumL (p.drop 4) : Nat) : Int) := by simp [IntKind.wrap, IntKind.bits, IntKind.signed]; omega
  have HP0 := Lib.hid (PgAt.new w 36 p hp)
  have HB0 := Lib.hid ((Below.refl w.heap.size w).alloc (Nat.le_refl _) (.cells (pv p).toArray 36))
  have cv0 := conv_part HP0.out 0 4 128 (by omega)
  rw [List.drop_zero] at cv0
  go_enter Tryd.func34, Tryd.ntmps34
  go_wp2_with fail
  refine (HG.out _).mono ?_
  rintro e w1 ⟨rfl, hb⟩
  have HP1 := Lib.hid (HP0.out.under hb (by simp))
  have HB1 := Lib.hid (HB0.out.trans (hb.mono (by simp)))
  clear hb cv0
  have cv1 := conv_part HP1.out 4 124 124 (by omega)
  rw [hd4] at cv1
  go_wp2_with fail
  refine (HSum.out _).mono ?_
  rintro e w2 ⟨rfl, hb⟩
  have HP2 := Lib.hid (HP1.out.under hb HP1.out.lt)
  have HB2 := Lib.hid (HB1.out.trans (hb.mono HB1.out.size))
  clear hb cv1
  have hne : (getK (strP (p.take 4)) 4 != ((sumL (p.drop 4) : Nat) : Int)) = false := by rw [hs]; simp
  rw [hs] at *
  clear hs
  obtain ⟨x4, hx4⟩ : ∃ x, p[4]? = some x := ⟨_, List.getElem?_eq_getElem (by omega)⟩
  obtain ⟨x5, hx5⟩ : ∃ x, p[5]? = some x := ⟨_, List.getElem?_eq_getElem (by omega)⟩
  have c4 := HP2.out.byte 4 x4 hx4
  have c5 := HP2.out.byte 5 x5 hx5
  obtain ⟨ek, ek2, e5, en, hn, ea, ea2, eb, ec, hl1, hl2⟩ := page_facts p x4 x5 hx4 hx5
  go_wp2_with fail
  refine wp_region_still_lit (by kernel_rfl) (by kernel_rfl) ?_
  rw [show ({ w2 with drawn := w2.drawn + 1 } : World) = w2.drew from rfl]
  obtain ⟨Wd, hWd⟩ : ∃ Wd, Wd = w2.drew := ⟨_, rfl⟩
  have hbd : Below w2.heap.size w2 Wd := by rw [hWd]; exact Below.drew (Below.refl _ _)
  rw [← hWd]
  clear hWd c4 c5
  have HP3 := Lib.hid (HP2.out.under hbd HP2.out.lt)
  have HB3 := Lib.hid (HB2.out.trans (hbd.mono HB2.out.size))
  have c4 := HP3.out.byte 4 x4 hx4
  have cv2 := conv_part HP3.out 6 (sizeP p) 122 (by omega)
  rw [show strP ((p.drop 6).take (sizeP p)) = dataP p from rfl] at cv2
  clear hbd HP2 HB2
  still_step
  still_step
  still_step
  still_step
  still_step
  have hsl := slice_part w.heap.size (sizeP p) (by omega) Wd
  still_step
  still_step
  still_step
  still_step
  refine wpStill_nil ?_
  go_wp2_with fail
  have HR3 := Lib.hid HP3.out.r
  have hS0 : Wd.drew.rangeAt w.heap.size 0 (pv p) := (World.rangeAt_drew _ _ _ _).2 HR3.out
  refine wp_region_held_drew (S := fun w' => w'.rangeAt w.heap.size 0 (pv p)) (by kernel_rfl) ?_ (fun hHeld => ?_)
  · exact hS0
  refine wpAnyH_take (i := 0) (oi := { dst := Option.some 35, op := Go.Op.move (Go.Operand.tmp 8), type := 3, pos := "frame.go:57", after := #[], guard := Option.none }) (v := ?_) rfl (by kernel_rfl) (by kernel_rfl) (by kernel_rfl) (fun _ _ _ h => h) (Or.inl ⟨by rfl, ?_⟩) (by assumption) ?_
  rotate_left
  · intro w hSw; (try dsimp only at hSw); go_simp; (try with_reducible rfl)
  simp only [Act.put, List.setIfInBounds_toArray, List.set_cons_zero, List.set_cons_succ]
  refine wpAnyH_take (i := 1) (oi := { dst := Option.some 36, op := Go.Op.move (Go.Operand.tmp 9), type := 9, pos := "frame.go:57", after := #[], guard := Option.none }) (v := ?_) rfl (by kernel_rfl) (by kernel_rfl) (by kernel_rfl) (fun _ _ _ h => h) (Or.inl ⟨by rfl, ?_⟩) (by assumption) ?_
  rotate_left
  · intro w hSw; (try dsimp only at hSw); go_simp; (try with_reducible rfl)
  simp only [Act.put, List.setIfInBounds_toArray, List.set_cons_zero, List.set_cons_succ]
  refine wpAnyH_ready (rs := [2]) (by kernel_rfl) (by simp) ?_
  refine AllReadyH.cons (o := { dst := Option.some 37, op := Go.Op.call { callee := Go.Callee.value (Go.Operand.func 75), args := #[Go.Operand.tmp 35, Go.Operand.tmp 36], argTypes := #[3, 9] }, type := 26, pos := "frame.go:57", after := #[{ on := 0, ground := Go.Ground.data }, { on := 1, ground := Go.Ground.data }], guard := Option.none }) rfl (fun K hK => ?_) AllReadyH.nil
  go_simp
  refine (HRK.out _).mono ?_
  rintro e W6 ⟨rfl, hb⟩
  have hK6 : W6.rangeAt w.heap.size 0 (pv p) := fun j v hv => (hb.cell (p := ⟨w.heap.size, 0 + j, none⟩) HP3.out.lt).trans (hS0 j v hv)
  have HB6 := Lib.hid (HB3.out.trans (((Below.drew (Below.refl _ _)).trans hb).mono HB3.out.size))
  have HL6 : Hid (w.heap.size < W6.heap.size) := Lib.hid (Nat.lt_of_lt_of_le HP3.out.lt ((Below.drew (Below.refl Wd.heap.size Wd)).trans hb).size)
  clear hb
  dsimp only
  refine hK.out _ _ hK6 (fun hHeld2 => ?_)
  clear hK K
  try simp only [Act.put, List.setIfInBounds_toArray, List.set_cons_zero, List.set_cons_succ]
  refine wpAnyH_take (i := 3) (oi := { dst := Option.some 38, op := Go.Op.binOp Go.BinOp.neq 26 (Go.Operand.tmp 37) (Go.Operand.const Go.Value.nilIface) 26, type := 4, pos := "frame.go:57", after := #[{ on := 2, ground := Go.Ground.data }], guard := Option.none }) (v := ?_) rfl (by kernel_rfl) (by kernel_rfl) (by kernel_rfl) (fun _ _ _ h => h) (Or.inl ⟨by rfl, ?_⟩) (by assumption) ?_
  rotate_left
  · intro w hSw; (try dsimp only at hSw); go_simp; (try with_reducible rfl)
  simp only [Act.put, List.setIfInBounds_toArray, List.set_cons_zero, List.set_cons_succ]
  refine wpAnyH_take (i := 4) (oi := { dst := Option.some 39, op := Go.Op.move (Go.Operand.tmp 38), type := 4, pos := "frame.go:57", after := #[{ on := 3, ground := Go.Ground.data }, { on := 2, ground := Go.Ground.chain }], guard := Option.none }) (v := ?_) rfl (by kernel_rfl) (by kernel_rfl) (by kernel_rfl) (fun _ _ _ h => h) (Or.inl ⟨by rfl, ?_⟩) (by assumption) ?_
  rotate_left
  · intro w hSw; (try dsimp only at hSw); go_simp; (try with_reducible rfl)
  simp only [Act.put, List.setIfInBounds_toArray, List.set_cons_zero, List.set_cons_succ]
  refine wpAnyH_take (i := 5) (oi := { dst := Option.some 40, op := Go.Op.move (Go.Operand.tmp 8), type := 3, pos := "frame.go:57", after := #[{ on := 4, ground := Go.Ground.guard }], guard := Option.some (4, Bool.false) }) (v := ?_) rfl (by kernel_rfl) (by kernel_rfl) (by kernel_rfl) (fun _ _ _ h => h) (Or.inl ⟨by rfl, ?_⟩) (by assumption) ?_
  rotate_left
  · intro w hSw; (try dsimp only at hSw); go_simp; (try with_reducible rfl)
  simp only [Act.put, List.setIfInBounds_toArray, List.set_cons_zero, List.set_cons_succ]
  refine wpAnyH_take (i := 6) (oi := { dst := Option.some 41, op := Go.Op.move (Go.Operand.tmp 9), type := 9, pos := "frame.go:57", after := #[{ on := 4, ground := Go.Ground.guard }], guard := Option.some (4, Bool.false) }) (v := ?_) rfl (by kernel_rfl) (by kernel_rfl) (by kernel_rfl) (fun _ _ _ h => h) (Or.inl ⟨by rfl, ?_⟩) (by assumption) ?_
  rotate_left
  · intro w hSw; (try dsimp only at hSw); go_simp; (try with_reducible rfl)
  simp only [Act.put, List.setIfInBounds_toArray, List.set_cons_zero, List.set_cons_succ]
  refine wpAnyH_take (i := 8) (oi := { dst := Option.some 43, op := Go.Op.load 36 (Go.Operand.tmp 1), type := 36, pos := "frame.go:57", after := #[{ on := 4, ground := Go.Ground.guard }], guard := Option.some (4, Bool.false) }) rfl (by kernel_rfl) (by kernel_rfl) (by kernel_rfl) (fun _ _ _ h => h) (yieldsIf_load_mid (by rfl) 36 _ rfl w.heap.size 0 rfl (pv p) _ (fun _ h => h) Tryd.underlying36 rfl (size_of hp)) (by assumption) ?_
  simp only [Act.put, List.setIfInBounds_toArray, List.set_cons_zero, List.set_cons_succ]
  refine wpAnyH_ready (rs := [7]) (by kernel_rfl) (by simp) ?_
  refine AllReadyH.cons (o := { dst := Option.some 42, op := Go.Op.call { callee := Go.Callee.value (Go.Operand.func 76), args := #[Go.Operand.tmp 40, Go.Operand.tmp 41], argTypes := #[3, 9] }, type := 36, pos := "frame.go:57", after := #[{ on := 5, ground := Go.Ground.data }, { on := 6, ground := Go.Ground.data }, { on := 4, ground := Go.Ground.chain }, { on := 4, ground := Go.Ground.guard }], guard := Option.some (4, Bool.false) }) rfl (fun K hK => ?_) AllReadyH.nil
  go_simp
  refine (HLD.out _).mono ?_
  rintro e W7 ⟨rfl, hb⟩
  have hK7 : W7.rangeAt w.heap.size 0 (pv p) := fun j v hv => (hb.cell (p := ⟨w.heap.size, 0 + j, none⟩) HL6.out).trans (hK6 j v hv)
  have HB7 := Lib.hid (HB6.out.trans (hb.mono HB6.out.size))
  clear hb
  dsimp only
  refine hK.out _ _ hK7 (fun hHeld3 => ?_)
  clear hK K
  try simp only [Act.put, List.setIfInBounds_toArray, List.set_cons_zero, List.set_cons_succ]
  refine wpAnyH_take (i := 9) (oi := { dst := Option.some 44, op := Go.Op.binOp Go.BinOp.neq 36 (Go.Operand.tmp 42) (Go.Operand.tmp 43) 36, type := 4, pos := "frame.go:57", after := #[{ on := 7, ground := Go.Ground.data }, { on := 8, ground := Go.Ground.data }, { on := 4, ground := Go.Ground.guard }], guard := Option.some (4, Bool.false) }) rfl (by kernel_rfl) (by kernel_rfl) (by kernel_rfl) (fun _ _ _ h => h) (yif_ne (by rfl) _ _ rfl (framP (kindP p : Nat) (dataP p)) p rfl rfl hfl hp) (by assumption) ?_
  simp only [Act.put, List.setIfInBounds_toArray, List.set_cons_zero, List.set_cons_succ]
  try rw [hbe]
  try simp only [Bool.not_true, Bool.not_false]
  refine wpAnyH_take (i := 10) (oi := { dst := Option.some 45, op := Go.Op.pick (Go.Operand.tmp 39) (Go.Operand.const (Go.Value.bool Bool.true)) (Go.Operand.tmp 44), type := 4, pos := "frame.go:57", after := #[{ on := 4, ground := Go.Ground.data }, { on := 9, ground := Go.Ground.data }], guard := Option.none }) (v := ?_) rfl (by kernel_rfl) (by kernel_rfl) (by kernel_rfl) (fun _ _ _ h => h) (Or.inl ⟨by rfl, ?_⟩) (by assumption) ?_
  rotate_left
  · intro w hSw; (try dsimp only at hSw); go_simp; (try with_reducible rfl)
  simp only [Act.put, List.setIfInBounds_toArray, List.set_cons_zero, List.set_cons_succ]
  refine wpAnyH_done (by kernel_rfl) ?_ _
  go_wp2_with fail
  exact bodyPost_ret (v := .tuple #[.int .i64 (kindP p : Nat), .string (dataP p), .nilIface]) (by simp [results, Tryd.results34]) rfl ⟨rfl, HB7.out⟩
/-- frame.Read -/
theorem read_fr_ok (p : Pg) (hp : p.length = 128) (h : rdC p = 0) (w : World) : Calls Tryd.prog 34 #[.agg (pv p).toArray] w fun e w' => e = .returned (.tuple #[.int .i64 (kindP p : Nat), .string (dataP p), .nilIface]) ∧ Below w.heap.size w w' := by
  unfold rdC at h
  by_cases hs : getK (strP (p.take 4)) 4 = ((sumL (p.drop 4) : Nat) : Int)
  · rw [if_neg (fun e => e hs)] at h
    by_cases hk : kindP p = 0 ∨ framP (kindP p) (dataP p) ≠ p
    · rw [if_pos hk] at h; cases h
    · refine read_fine p hp w hs (fun e => hk (.inl e)) ?_
      have e : framP (kindP p) (dataP p) = p := Decidable.byContradiction fun e => hk (.inr e)
      rw [e]; exact beq_self_eq_true _
  · rw [if_pos hs] at h; cases h
theorem read_fr_no (p : Pg) (hp : p.length = 128) (h : rdC p ≠ 0) (w : World) : Calls Tryd.prog 34 #[.agg (pv p).toArray] w fun e w' => ∃ v, e = .returned (.tuple #[.int .i64 0, .string ⟨#[]⟩, v]) ∧ ErrC w.heap.size w' v (rdC p) ∧ Below w.heap.size w w' := by
  unfold rdC at h ⊢
  by_cases hs : getK (strP (p.take 4)) 4 = ((sumL (p.drop 4) : Nat) : Int)
  · rw [if_neg (fun e => e hs)] at h ⊢
    by_cases hk : kindP p = 0 ∨ framP (kindP p) (dataP p) ≠ p
    · rw [if_pos hk]
      by_cases h0 : kindP p = 0
      · exact read_kind p hp w hs h0
      · exact read_other p hp w hs h0 (by rw [beq_eq_false_iff_ne]; exact hk.resolve_left h0)
    · rw [if_neg hk] at h; exact absurd rfl h
  · rw [if_pos hs]
    exact read_sum p hp w hs
end Go.Proofs.YtmnkgcgmbdkjaaaDoor
namespace Go.Proofs.YtmnkgcgmbdkjaaaDoor
open Go.RowKit Go.Extern.Stop Go.Stop Go.Extern Go.Proofs.YtmnkgcgmbdkjaaaDoorW.PrintWords Go.Proofs.YtmnkgcgmbdkjaaaDoorW.PrintLast Go.Proofs.YtmnkgcgmbdkjaaaDoorW.PrintMore Go.Proofs.YtmnkgcgmbdkjaaaDoor.PSuperPlays
set_option linter.unusedVariables false
set_option linter.unusedSimpArgs false

theorem strP_data (s : ByteArray) : strP s.data.toList = s := by
  apply ByteArray.ext; simp [strP]
theorem cat_empty (s : ByteArray) : s ++ (⟨#[]⟩ : ByteArray) = s := by
  apply ByteArray.ext; simp
theorem getK_sum (l : Pg) : getK (putB 4 ((sumL l : Nat) : Int)) 4 = ((sumL l : Nat) : Int) := by
  have h := getK_put (sum_fits l) (⟨#[]⟩ : ByteArray)
  rw [cat_empty] at h
  exact h
theorem framP_take (k : Int) (d : ByteArray) : (framP k d).take 4 = (putB 4 ((sumL (payl k d) : Nat) : Int)).data.toList := by
  unfold framP; exact List.take_left' (sum_four _)
theorem framP_drop (k : Int) (d : ByteArray) : (framP k d).drop 4 = payl k d := by
  unfold framP; exact List.drop_left' (sum_four _)
theorem framP_at (k : Int) (d : ByteArray) (i : Nat) : (framP k d)[4 + i]? = (payl k d)[i]? := by
  rw [← List.getElem?_drop, framP_drop]
theorem framP_kind (k : Int) (d : ByteArray) (h0 : 0 ≤ k) (h1 : k ≤ 255) : ((kindP (framP k d) : Nat) : Int) = k := by
  unfold kindP
  rw [List.getD_eq_getElem?_getD, show (4 : Nat) = 4 + 0 from rfl, framP_at]
  exact b8_nat h0 h1
theorem framP_size (k : Int) (d : ByteArray) (h : d.size ≤ 120) : sizeP (framP k d) = d.size := by
  unfold sizeP
  rw [List.getD_eq_getElem?_getD, show (5 : Nat) = 4 + 1 from rfl, framP_at]
  have e : ((b8 (d.size : Int)).toNat : Int) = d.size := b8_nat (by omega) (by omega)
  show min (b8 (d.size : Int)).toNat 120 = d.size
  omega
theorem framP_data (k : Int) (d : ByteArray) (h : d.size ≤ 120) : dataP (framP k d) = d := by
  unfold dataP
  rw [framP_size k d h, show (6 : Nat) = 4 + 2 from rfl, ← List.drop_drop, framP_drop]
  show strP ((d.data.toList ++ List.replicate (122 - d.size) 0).take d.size) = d
  rw [List.take_left' (list_size d), strP_data]
/-- what is laid is read -/
theorem rd_lay (k : Int) (d : ByteArray) (h : frC k d = 0) : rdC (framP k d) = 0 := by
  obtain ⟨⟨h0, h1⟩, hd⟩ := frC_zero.1 h
  have hk := framP_kind k d (by omega) h1
  unfold rdC
  rw [framP_take, framP_drop, strP_data, getK_sum, if_neg (fun e => e rfl), hk, framP_data k d hd, if_neg]
  rintro (e | e)
  · omega
  · exact e rfl
theorem framP_inj (k j : Int) (d s : ByteArray) (hk : frC k d = 0) (hj : frC j s = 0) : framP k d = framP j s ↔ k = j ∧ d = s := by
  constructor
  · intro e
    obtain ⟨⟨h0, h1⟩, hd⟩ := frC_zero.1 hk
    obtain ⟨⟨g0, g1⟩, hs⟩ := frC_zero.1 hj
    exact ⟨by rw [← framP_kind k d (by omega) h1, e, framP_kind j s (by omega) g1], by rw [← framP_data k d hd, e, framP_data j s hs]⟩
  · rintro ⟨rfl, rfl⟩; rfl
/-- the zero page isn't read -/
theorem rd_zero : rdC zp = 3 := by
  have h : getK (strP (zp.take 4)) 4 ≠ ((sumL (zp.drop 4) : Nat) : Int) := by
    have e1 : getK (strP (zp.take 4)) 4 = 0 := by decide
    rw [e1]
    have e2 : sumL (zp.drop 4) = 0 → False := by decide +kernel
    intro e
    exact e2 (by omega)
  unfold rdC
  rw [if_pos h]
theorem bt_list (l : Pg) (i : Nat) (x : UInt8) (h : l[i]? = some x) : bt (strP l) (i : Int) = (x.toNat : Int) := by
  have hi : i < l.length := (List.getElem?_eq_some_iff.1 h).1
  have hx : l[i] = x := (List.getElem?_eq_some_iff.1 h).2
  rw [byl_at (strP l) i (by rw [strP_size]; exact hi)]
  have e : byl (strP l) = l.map UInt8.toNat := byl_list l
  simp [e, hx]
theorem getK_four {s t : ByteArray} (h : getK s 4 = getK t 4) : ∀ i : Nat, i < 4 → bt s (i : Int) = bt t (i : Int) := by
  have r := fun (u : ByteArray) (i : Int) => bt_range u i
  have a : ∀ u, getK u 4 = 256 * (256 * (256 * (256 * 0 + bt u ((0 : Nat) : Int)) + bt u ((1 : Nat) : Int)) + bt u ((2 : Nat) : Int)) + bt u ((3 : Nat) : Int) := fun u => rfl
  rw [a, a] at h
  have s0 := r s ((0 : Nat) : Int); have s1 := r s ((1 : Nat) : Int); have s2 := r s ((2 : Nat) : Int); have s3 := r s ((3 : Nat) : Int)
  have t0 := r t ((0 : Nat) : Int); have t1 := r t ((1 : Nat) : Int); have t2 := r t ((2 : Nat) : Int); have t3 := r t ((3 : Nat) : Int)
  intro i hi
  have hi2 : i = 0 ∨ i = 1 ∨ i = 2 ∨ i = 3 := by omega
  rcases hi2 with rfl | rfl | rfl | rfl <;> omega
/-- with one of its bytes another one, a page whose sum is right isn't read -/
theorem rd_spoilt (p : Pg) (hp : p.length = 128) (hs : getK (strP (p.take 4)) 4 = ((sumL (p.drop 4) : Nat) : Int)) (i : Nat) (hi : i < 128) (x y : UInt8) (hx : p[i]? = some x) (hxy : x ≠ y) : rdC (spl p i [y]) = 3 := by
  have hlen : (spl p i [y]).length = 128 := by rw [spl_length _ _ _ (by simp; omega)]; exact hp
  have hget : ∀ j, (spl p i [y])[j]? = if j = i then some y else p[j]? := fun j => by
    rw [spl_get _ _ _ (by simp; omega)]
    by_cases h1 : j < i
    · rw [if_pos h1, if_neg (by omega)]
    · rw [if_neg h1]
      by_cases h2 : j = i
      · subst h2; rw [if_pos (by simp), if_pos rfl]; simp
      · rw [if_neg (by simp; omega), if_neg h2]
  have hxy2 : x.toNat ≠ y.toNat := fun e => hxy (UInt8.toNat_inj.1 e)
  have key : getK (strP ((spl p i [y]).take 4)) 4 ≠ ((sumL ((spl p i [y]).drop 4) : Nat) : Int) := by
    by_cases h4 : i < 4
    · have e1 : (spl p i [y]).drop 4 = p.drop 4 := by
        apply List.ext_getElem?; intro j
        rw [List.getElem?_drop, List.getElem?_drop, hget, if_neg (by omega)]
      rw [e1, ← hs]
      intro e
      have q := getK_four e
      have a1 : (p.take 4)[i]? = some x := by rw [List.getElem?_take_of_lt h4]; exact hx
      have a2 : ((spl p i [y]).take 4)[i]? = some y := by rw [List.getElem?_take_of_lt h4, hget, if_pos rfl]
      have := q i h4
      rw [bt_list _ _ _ a1, bt_list _ _ _ a2] at this
      omega
    · have e1 : (spl p i [y]).take 4 = p.take 4 := by
        apply List.ext_getElem?; intro j
        by_cases hj : j < 4
        · rw [List.getElem?_take_of_lt hj, List.getElem?_take_of_lt hj, hget, if_neg (by omega)]
        · rw [List.getElem?_eq_none (by rw [List.length_take]; omega), List.getElem?_eq_none (by rw [List.length_take]; omega)]
      rw [e1, hs]
      intro e
      have hil : i < p.length := by omega
      have hpx : p = p.take i ++ x :: p.drop (i + 1) := by
        have hd : p.drop i = p[i] :: p.drop (i + 1) := List.drop_eq_getElem_cons hil
        have hxe : p[i] = x := by rw [List.getElem?_eq_getElem hil] at hx; exact Option.some.inj hx
        conv => lhs; rw [← List.take_append_drop i p, hd, hxe]
      have hq : spl p i [y] = p.take i ++ y :: p.drop (i + 1) := by simp [spl]
      have htl : 4 ≤ (p.take i).length := by rw [List.length_take]; omega
      have d1 : p.drop 4 = (p.take i).drop 4 ++ x :: p.drop (i + 1) := by
        conv => lhs; rw [hpx]
        rw [List.drop_append_of_le_length htl]
      have d2 : (spl p i [y]).drop 4 = (p.take i).drop 4 ++ y :: p.drop (i + 1) := by rw [hq, List.drop_append_of_le_length htl]
      rw [d1, d2] at e
      have e2 : sumL ((p.take i).drop 4 ++ x :: p.drop (i + 1)) = sumL ((p.take i).drop 4 ++ y :: p.drop (i + 1)) := by omega
      unfold sumL at e2
      rw [List.map_append, List.map_append, List.map_cons, List.map_cons] at e2
      have lt : ∀ (l : Pg), ∀ b ∈ l.map UInt8.toNat, b < 256 := fun l b hb => by
        obtain ⟨z, _, rfl⟩ := List.mem_map.1 hb
        exact z.toNat_lt
      exact hxy2 (Crc.sum_byte _ _ _ _ (lt _) (lt _) x.toNat_lt y.toNat_lt e2)
  unfold rdC
  rw [if_pos key]
end Go.Proofs.YtmnkgcgmbdkjaaaDoor
namespace Go.Proofs.YtmnkgcgmbdkjaaaDoor
open Go.RowKit Go.Extern.Stop Go.Stop Go.Extern Go.Proofs.YtmnkgcgmbdkjaaaDoorW.PrintWords Go.Proofs.YtmnkgcgmbdkjaaaDoorW.PrintLast Go.Proofs.YtmnkgcgmbdkjaaaDoorW.PrintMore Go.Proofs.YtmnkgcgmbdkjaaaDoor.PSuperPlays
set_option linter.unusedVariables false
set_option linter.unusedSimpArgs false

/-- why a frame can't be loaded out of a page; 0 -/
def ldC (p : Pg) (kind : Int) : Int := if rdC p ≠ 0 then rdC p else if ((kindP p : Nat) : Int) ≠ kind then 2 else 0
set_option maxRecDepth 100000 in
/-- the disk's own error -/
theorem load_err (dv : Value) (i kind : Int) (c : Int) (hc : c ≠ 0) (w : World) (hr : Hid (Calls Tryd.prog 29 #[dv, .int .i64 i] w fun e w' => ∃ v, e = .returned (.tuple #[.agg (pv zp).toArray, v]) ∧ ErrC w.heap.size w' v c ∧ Below w.heap.size w w')) :
    Calls Tryd.prog 40 #[dv, .int .i64 i, .int .i64 kind] w fun e w' => ∃ v, e = .returned (.tuple #[.string ⟨#[]⟩, v]) ∧ ErrC w.heap.size w' v c ∧ Below w.heap.size w w' := by
  have HC := Lib.hid hc
  clear hc
  go_enter Tryd.func40, Tryd.ntmps40
  go_wp2_with fail
  refine hr.out.mono ?_
  rintro e w1 ⟨v, rfl, he, hb⟩
  obtain ⟨ty, xx, rfl⟩ := he.iface HC.out
  have HE := Lib.hid he
  have HB := Lib.hid hb
  clear he hb
  go_wp2_with (first | ((with_reducible refine at_al 36 ?_); refine al_pg rfl rfl ?_) | ((with_reducible refine at_st 36 (.tmp 8) (.tmp 16) ?_); refine st_new rfl _ _ rfl w1 _ _ rfl rfl zp zp_length rfl (by simp [pv_length, zp_length]) ?_))
  go_ret2
  exact ⟨_, rfl, HE.out.alloc _, HB.out.alloc HB.out.size _⟩
set_option maxRecDepth 100000 in
/-- a page that isn't a frame -/
theorem load_bad (dv : Value) (i kind : Int) (p : Pg) (hp : p.length = 128) (h : rdC p ≠ 0) (w : World) (hr : Hid (Calls Tryd.prog 29 #[dv, .int .i64 i] w fun e w' => e = .returned (.tuple #[.agg (pv p).toArray, .nilIface]) ∧ Below w.heap.size w w')) :
    Calls Tryd.prog 40 #[dv, .int .i64 i, .int .i64 kind] w fun e w' => ∃ v, e = .returned (.tuple #[.string ⟨#[]⟩, v]) ∧ ErrC w.heap.size w' v (rdC p) ∧ Below w.heap.size w w' := by
  have HR := Lib.hid (fun w => read_fr_no p hp h w)
  have HC := Lib.hid h
  clear h
  go_enter Tryd.func40, Tryd.ntmps40
  go_wp2_with fail
  refine hr.out.mono ?_
  rintro e w1 ⟨rfl, hb⟩
  have HB := Lib.hid hb
  clear hb
  go_wp2_with (first | ((with_reducible refine at_al 36 ?_); refine al_pg rfl rfl ?_) | ((with_reducible refine at_st 36 (.tmp 8) (.tmp 16) ?_); refine st_new rfl _ _ rfl w1 _ _ rfl rfl p hp rfl (by simp [pv_length, zp_length]) ?_) | ((with_reducible refine at_ld 36 (.tmp 8) ?_); refine ld_pg rfl _ rfl w1.heap.size 0 rfl p hp (range_new w1 p _) ?_))
  refine (HR.out _).mono ?_
  rintro e w2 ⟨v, rfl, he, hb⟩
  obtain ⟨ty, xx, rfl⟩ := he.iface HC.out
  have HE := Lib.hid he
  have HB2 := Lib.hid (HB.out.trans ((Below.alloc (Below.refl _ _) (Nat.le_refl _) _).trans (hb.mono (by simp)) |>.mono HB.out.size))
  have HL : Hid (w.heap.size ≤ (w1.alloc (.cells (pv p).toArray 36)).heap.size) := Lib.hid (Nat.le_trans HB.out.size (by simp))
  clear he hb
  go_wp2_with fail
  go_ret2
  exact ⟨_, rfl, HE.out.mono HL.out, HB2.out⟩
set_option maxRecDepth 100000 in
/-- a frame of its kind -/
theorem load_fine (dv : Value) (i : Int) (p : Pg) (hp : p.length = 128) (h : rdC p = 0) (w : World) (hr : Hid (Calls Tryd.prog 29 #[dv, .int .i64 i] w fun e w' => e = .returned (.tuple #[.agg (pv p).toArray, .nilIface]) ∧ Below w.heap.size w w')) :
    Calls Tryd.prog 40 #[dv, .int .i64 i, .int .i64 (kindP p : Nat)] w fun e w' => e = .returned (.tuple #[.string (dataP p), .nilIface]) ∧ Below w.heap.size w w' := by
  have HR := Lib.hid (fun w => read_fr_ok p hp h w)
  clear h
  go_enter Tryd.func40, Tryd.ntmps40
  go_wp2_with fail
  refine hr.out.mono ?_
  rintro e w1 ⟨rfl, hb⟩
  have HB := Lib.hid hb
  clear hb
  go_wp2_with (first | ((with_reducible refine at_al 36 ?_); refine al_pg rfl rfl ?_) | ((with_reducible refine at_st 36 (.tmp 8) (.tmp 16) ?_); refine st_new rfl _ _ rfl w1 _ _ rfl rfl p hp rfl (by simp [pv_length, zp_length]) ?_) | ((with_reducible refine at_ld 36 (.tmp 8) ?_); refine ld_pg rfl _ rfl w1.heap.size 0 rfl p hp (range_new w1 p _) ?_))
  refine (HR.out _).mono ?_
  rintro e w2 ⟨rfl, hb⟩
  have HB2 := Lib.hid (HB.out.trans ((Below.alloc (Below.refl _ _) (Nat.le_refl _) _).trans (hb.mono (by simp)) |>.mono HB.out.size))
  clear hb
  go_wp2_with fail
  go_ret2
  exact ⟨rfl, HB2.out⟩
set_option maxRecDepth 100000 in
/-- a frame of another kind -/
theorem load_kind (dv : Value) (i kind : Int) (p : Pg) (hp : p.length = 128) (h : rdC p = 0) (hk : ((kindP p : Nat) : Int) ≠ kind) (w : World) (hr : Hid (Calls Tryd.prog 29 #[dv, .int .i64 i] w fun e w' => e = .returned (.tuple #[.agg (pv p).toArray, .nilIface]) ∧ Below w.heap.size w w')) :
    Calls Tryd.prog 40 #[dv, .int .i64 i, .int .i64 kind] w fun e w' => ∃ v, e = .returned (.tuple #[.string ⟨#[]⟩, v]) ∧ ErrC w.heap.size w' v 2 ∧ Below w.heap.size w w' := by
  have HR := Lib.hid (fun w => read_fr_ok p hp h w)
  have hne : (((kindP p : Nat) : Int) != kind) = true := by simpa using hk
  clear h hk
  go_enter Tryd.func40, Tryd.ntmps40
  go_wp2_with fail
  refine hr.out.mono ?_
  rintro e w1 ⟨rfl, hb⟩
  have HB := Lib.hid hb
  clear hb
  go_wp2_with (first | ((with_reducible refine at_al 36 ?_); refine al_pg rfl rfl ?_) | ((with_reducible refine at_st 36 (.tmp 8) (.tmp 16) ?_); refine st_new rfl _ _ rfl w1 _ _ rfl rfl p hp rfl (by simp [pv_length, zp_length]) ?_) | ((with_reducible refine at_ld 36 (.tmp 8) ?_); refine ld_pg rfl _ rfl w1.heap.size 0 rfl p hp (range_new w1 p _) ?_))
  refine (HR.out _).mono ?_
  rintro e w2 ⟨rfl, hb⟩
  have HB2 := Lib.hid (HB.out.trans ((Below.alloc (Below.refl _ _) (Nat.le_refl _) _).trans (hb.mono (by simp)) |>.mono HB.out.size))
  clear hb
  go_wp2_with fail
  refine (Tag_err _ 2 _).mono ?_
  rintro e w3 ⟨v, rfl, he, hb⟩
  obtain ⟨ty, xx, rfl⟩ := he.iface (by decide)
  have HE := Lib.hid he
  have HB3 := Lib.hid (HB2.out.trans (hb.mono HB2.out.size))
  clear he hb
  go_wp2_with fail
  go_ret2
  exact ⟨_, rfl, HE.out.mono HB2.out.size, HB3.out⟩
set_option maxRecDepth 100000 in
/-- a frame that can't be laid isn't stored -/
theorem store_bad (dv : Value) (i kind : Int) (d : ByteArray) (h : frC kind d ≠ 0) (w : World) :
    Calls Tryd.prog 39 #[dv, .int .i64 i, .int .i64 kind, .string d] w fun e w' => ∃ v, e = .returned v ∧ ErrC w.heap.size w' v (frC kind d) ∧ Below w.heap.size w w' := by
  have HL := Lib.hid (fun w => lay_no kind d w h)
  have HC := Lib.hid h
  clear h
  go_enter Tryd.func39, Tryd.ntmps39
  go_wp2_with fail
  refine (HL.out _).mono ?_
  rintro e w1 ⟨v, rfl, he, hb⟩
  obtain ⟨ty, xx, rfl⟩ := he.iface HC.out
  have HE := Lib.hid he
  have HB := Lib.hid hb
  clear he hb
  go_wp2_with (first | ((with_reducible refine at_al 36 ?_); refine al_pg rfl rfl ?_) | ((with_reducible refine at_st 36 (.tmp 9) (.tmp 15) ?_); refine st_new rfl _ _ rfl w1 _ _ rfl rfl zp zp_length rfl (by simp [pv_length, zp_length]) ?_))
  go_ret
  exact ⟨_, rfl, HE.out.alloc _, HB.out.alloc HB.out.size _⟩
set_option maxRecDepth 100000 in
/-- a frame that can be laid: what disk.Write says -/
theorem store_fine (dv : Value) (i kind : Int) (d : ByteArray) (h : frC kind d = 0) (w : World) (Q : Value → World → Prop)
    (hw : Hid (∀ W1, Below w.heap.size w W1 → Calls Tryd.prog 28 #[dv, .int .i64 i, .agg (pv (framP kind d)).toArray] W1 fun e w' => ∃ v, e = .returned v ∧ Q v w')) :
    Calls Tryd.prog 39 #[dv, .int .i64 i, .int .i64 kind, .string d] w fun e w' => ∃ v, e = .returned v ∧ Q v w' := by
  have hfl := framP_length kind d (by have := (frC_zero.1 h).2; omega)
  have HL := Lib.hid (fun w => lay_ok kind d w h)
  clear h
  go_enter Tryd.func39, Tryd.ntmps39
  go_wp2_with fail
  refine (HL.out _).mono ?_
  rintro e w1 ⟨rfl, hb⟩
  have HB := Lib.hid hb
  clear hb
  go_wp2_with (first | ((with_reducible refine at_al 36 ?_); refine al_pg rfl rfl ?_) | ((with_reducible refine at_st 36 (.tmp 9) (.tmp 15) ?_); refine st_new rfl _ _ rfl w1 _ _ rfl rfl (framP kind d) hfl rfl (by simp [pv_length, zp_length]) ?_) | ((with_reducible refine at_ld 36 (.tmp 9) ?_); refine ld_pg rfl _ rfl w1.heap.size 0 rfl (framP kind d) hfl (range_new w1 (framP kind d) _) ?_))
  refine (hw.out _ (HB.out.alloc HB.out.size _)).mono ?_
  rintro e w2 ⟨v, rfl, hq⟩
  have HQ := Lib.hid hq
  clear hq
  go_wp2_with fail
  go_ret
  exact ⟨_, rfl, HQ.out⟩
end Go.Proofs.YtmnkgcgmbdkjaaaDoor
namespace Go.Proofs.YtmnkgcgmbdkjaaaDoor
open Go.RowKit Go.Extern.Stop Go.Stop Go.Extern Go.Proofs.YtmnkgcgmbdkjaaaDoorW.PrintWords Go.Proofs.YtmnkgcgmbdkjaaaDoorW.PrintLast Go.Proofs.YtmnkgcgmbdkjaaaDoorW.PrintMore Go.Proofs.YtmnkgcgmbdkjaaaDoor.PSuperPlays
set_option linter.unusedVariables false
set_option linter.unusedSimpArgs false

/-- why a sector's frame can't be loaded; 0 -/
def ldD (firm : List Pg) (loose : Ls) (down : Bool) (i kind : Int) : Int := if mayC down firm.length i ≠ 0 then mayC down firm.length i else ldC (readP firm loose i) kind
def ldS (firm : List Pg) (loose : Ls) (down : Bool) (i kind : Int) : ByteArray := if ldD firm loose down i kind = 0 then dataP (readP firm loose i) else ⟨#[]⟩
theorem load_any {w : World} {base D F : Nat} {v : Value} {firm : List Pg} {loose : Ls} {down : Bool} (i kind : Int) (h : DiskIn w base D F v firm loose down) (hls : loose.length ≤ 1000000) (hp : (readP firm loose i).length = 128) :
    Calls Tryd.prog 40 #[.pointer (some ⟨D, 0, none⟩), .int .i64 i, .int .i64 kind] w fun e w' => ∃ ev, e = .returned (.tuple #[.string (ldS firm loose down i kind), ev]) ∧ ErrC w.heap.size w' ev (ldD firm loose down i kind) ∧ Below w.heap.size w w' := by
  have hr := read_any i h hls
  by_cases hm : mayC down firm.length i = 0
  · have hr2 : Hid (Calls Tryd.prog 29 #[.pointer (some ⟨D, 0, none⟩), .int .i64 i] w fun e w' => e = .returned (.tuple #[.agg (pv (readP firm loose i)).toArray, .nilIface]) ∧ Below w.heap.size w w') := Lib.hid (hr.mono (by
      rintro e w' ⟨ev, rfl, he, hb⟩
      rw [hm] at he ⊢
      rw [he.zero, if_pos rfl]
      exact ⟨rfl, hb⟩))
    have e0 : ldD firm loose down i kind = ldC (readP firm loose i) kind := by unfold ldD; rw [if_neg (fun x => x hm)]
    unfold ldS
    rw [e0]
    by_cases hc : rdC (readP firm loose i) = 0
    · by_cases hk : ((kindP (readP firm loose i) : Nat) : Int) = kind
      · have el : ldC (readP firm loose i) kind = 0 := by unfold ldC; rw [if_neg (fun x => x hc), if_neg (fun x => x hk)]
        rw [el, if_pos rfl, ← hk]
        refine (load_fine _ i _ hp hc w hr2).mono ?_
        rintro e w' ⟨rfl, hb⟩
        exact ⟨_, rfl, ErrC.nil _ _, hb⟩
      · have el : ldC (readP firm loose i) kind = 2 := by unfold ldC; rw [if_neg (fun x => x hc), if_pos hk]
        rw [el, if_neg (by decide)]
        exact load_kind _ i kind _ hp hc hk w hr2
    · have el : ldC (readP firm loose i) kind = rdC (readP firm loose i) := by unfold ldC; rw [if_pos hc]
      rw [el, if_neg hc]
      exact load_bad _ i kind _ hp hc w hr2
  · have e0 : ldD firm loose down i kind = mayC down firm.length i := by unfold ldD; rw [if_pos hm]
    unfold ldS
    rw [e0, if_neg hm]
    exact load_err _ i kind _ hm w (Lib.hid (hr.mono (by
      rintro e w' ⟨ev, rfl, he, hb⟩
      rw [if_neg hm]
      exact ⟨ev, rfl, he, hb⟩)))
theorem load_none (i kind : Int) (w : World) : Calls Tryd.prog 40 #[.pointer none, .int .i64 i, .int .i64 kind] w fun e w' => ∃ v, e = .returned (.tuple #[.string ⟨#[]⟩, v]) ∧ ErrC w.heap.size w' v 1 ∧ Below w.heap.size w w' :=
  load_err _ i kind 1 (by decide) w (Lib.hid (read_nil i w))
/-- a frame that can be laid, stored -/
theorem store_any {w : World} {base D F : Nat} {v : Value} {firm : List Pg} {loose : Ls} {down : Bool} (i kind : Int) (d : ByteArray) (hc : frC kind d = 0) (h : DiskIn w base D F v firm loose down) (hls : loose.length ≤ 1000000) :
    Calls Tryd.prog 39 #[.pointer (some ⟨D, 0, none⟩), .int .i64 i, .int .i64 kind, .string d] w fun e w' => ∃ ev, e = .returned ev ∧ (ErrC w.heap.size w' ev (mayC down firm.length i) ∧
      ((mayC down firm.length i ≠ 0 ∧ DiskIn w' base D F v firm loose down ∧ Below w.heap.size w w') ∨
       (mayC down firm.length i = 0 ∧ ∃ v', DiskIn w' base D F v' firm (loose ++ [(i, framP kind d)]) down ∧ (v'.ownBlock = v.ownBlock ∨ ∃ k, v'.ownBlock = some k ∧ w.heap.size ≤ k) ∧ Touch (Its D F v) w w'))) := by
  refine store_fine _ i kind d hc w (fun ev w' => ErrC w.heap.size w' ev (mayC down firm.length i) ∧ ((mayC down firm.length i ≠ 0 ∧ DiskIn w' base D F v firm loose down ∧ Below w.heap.size w w') ∨ (mayC down firm.length i = 0 ∧ ∃ v', DiskIn w' base D F v' firm (loose ++ [(i, framP kind d)]) down ∧ (v'.ownBlock = v.ownBlock ∨ ∃ k, v'.ownBlock = some k ∧ w.heap.size ≤ k) ∧ Touch (Its D F v) w w'))) (Lib.hid fun W1 hb => ?_)
  refine (write_any i (framP kind d) (h.under hb) hls (framP_length kind d (by have := (frC_zero.1 hc).2; omega))).mono ?_
  rintro e w' ⟨ev, rfl, he, hor⟩
  refine ⟨ev, rfl, he.mono hb.size, ?_⟩
  rcases hor with ⟨hm, hd, hb2⟩ | ⟨hm, v', hd, hv, ht⟩
  · exact .inl ⟨hm, hd, hb.trans (hb2.mono hb.size)⟩
  · refine .inr ⟨hm, v', hd, ?_, (Touch.of_below hb).trans ht⟩
    rcases hv with hv | ⟨k, hv, hk⟩
    · exact .inl hv
    · exact .inr ⟨k, hv, Nat.le_trans hb.size hk⟩
end Go.Proofs.YtmnkgcgmbdkjaaaDoor
namespace Go.Proofs.YtmnkgcgmbdkjaaaDoor
open Go.RowKit Go.Extern.Stop Go.Stop Go.Extern Go.Proofs.YtmnkgcgmbdkjaaaDoorW.PrintWords Go.Proofs.YtmnkgcgmbdkjaaaDoorW.PrintLast Go.Proofs.YtmnkgcgmbdkjaaaDoorW.PrintMore Go.Proofs.YtmnkgcgmbdkjaaaDoor.PSuperPlays
set_option linter.unusedVariables false
set_option linter.unusedSimpArgs false

abbrev Bs := Nat → Prop
/-- of nothing -/
def No : Bs := fun _ => False
/-- w' is w but for S, and what is new; of that S' is one's own then -/
structure Mv (S S' : Bs) (w w' : World) : Prop where
  t : Touch S w w'
  s : ∀ k, S' k → S k ∨ w.heap.size ≤ k
theorem Mv.refl (S : Bs) (w : World) : Mv S S w w := ⟨Touch.refl _ _, fun k h => .inl h⟩
theorem Mv.of_below {S : Bs} {w w' : World} (h : Below w.heap.size w w') : Mv S S w w' := ⟨Touch.of_below h, fun k h => .inl h⟩
theorem Mv.size {S S' : Bs} {w w' : World} (h : Mv S S' w w') : w.heap.size ≤ w'.heap.size := h.t.size
theorem Mv.touch {S S' : Bs} {w w1 w2 : World} (h : Mv S S' w w1) (k : Touch S' w1 w2) : Touch S w w2 :=
  ⟨k.os.trans h.t.os, k.tape.trans h.t.tape, k.output.trans h.t.output, Nat.le_trans h.t.size k.size, fun i hi hs => (k.block i (Nat.lt_of_lt_of_le hi h.t.size) (fun q => by
    rcases h.s i q with q | q
    · exact hs q
    · omega)).trans (h.t.block i hi hs)⟩
theorem Mv.trans {S S' S'' : Bs} {w w1 w2 : World} (h : Mv S S' w w1) (k : Mv S' S'' w1 w2) : Mv S S'' w w2 :=
  ⟨h.touch k.t, fun i hi => by
    rcases k.s i hi with q | q
    · exact h.s i q
    · exact .inr (Nat.le_trans h.t.size q)⟩
/-- a part of it, beside what is left alone -/
theorem Mv.wide {S S' : Bs} {w w' : World} (h : Mv S S' w w') (X : Bs) : Mv (fun k => S k ∨ X k) (fun k => S' k ∨ X k) w w' :=
  ⟨h.t.mono (fun k q => .inl q), fun k q => by
    rcases q with q | q
    · rcases h.s k q with q | q
      · exact .inl (.inl q)
      · exact .inr q
    · exact .inl (.inr q)⟩
theorem Mv.iff {S S' T T' : Bs} {w w' : World} (h : Mv S S' w w') (hs : ∀ k, S k → T k) (ht : ∀ k, T' k → S' k) : Mv T T' w w' :=
  ⟨h.t.mono hs, fun k q => by
    rcases h.s k (ht k q) with q | q
    · exact .inl (hs k q)
    · exact .inr q⟩
/-- what is new becomes one's own -/
theorem Mv.new {S : Bs} {w w' : World} (h : Below w.heap.size w w') (hs : ∀ k, S k → w.heap.size ≤ k) : Mv No S w w' := ⟨Touch.of_below h, fun k q => .inr (hs k q)⟩
theorem Mv.below {S' : Bs} {w w' : World} (h : Mv No S' w w') : Below w.heap.size w w' := h.t.below (Nat.le_refl _) (fun k q => q.elim)
/-- what is true as long as nobody else writes -/
def Stays (S : Bs) (w : World) (P : World → Prop) : Prop := ∀ w', Touch S w w' → P w'
theorem Stays.now {S : Bs} {w : World} {P : World → Prop} (h : Stays S w P) : P w := h w (Touch.refl _ _)
theorem Stays.step {S S' : Bs} {w w' : World} {P : World → Prop} (h : Stays S w P) (m : Mv S S' w w') : Stays S' w' P := fun w2 t => h w2 (m.touch t)
theorem Stays.imp {S : Bs} {w : World} {P Q : World → Prop} (h : Stays S w P) (f : ∀ w, P w → Q w) : Stays S w Q := fun w' t => f w' (h w' t)
/-- what nobody else writes, whatever is one's own -/
theorem Stays.less {S T : Bs} {w : World} {P : World → Prop} (h : Stays S w P) (hs : ∀ k, T k → S k) : Stays T w P := fun w' t => h w' (t.mono hs)
theorem Stays.tied {w : World} (h : Tied w) : Stays No w Tied := fun w' t => h.under h.lt (t.below (Nat.le_refl _) (fun k q => q.elim))
def Wi (S : Bs) (w : World) : Prop := ∀ k, S k → k < w.heap.size
theorem Wi.no (w : World) : Wi No w := fun k q => q.elim
theorem Wi.mono {S : Bs} {w w' : World} (h : Wi S w) (hs : w.heap.size ≤ w'.heap.size) : Wi S w' := fun k q => Nat.lt_of_lt_of_le (h k q) hs
/-- an error that a call has made -/
theorem Stays.err {S : Bs} {w w' : World} {v : Value} {n : Int} (he : ErrC w.heap.size w' v n) (hw : Wi S w) : Stays S w' (fun W => ErrC 0 W v n) := fun w2 t =>
  (err_touch he t (fun k hk q => by have := hw k q; omega)).mono (Nat.zero_le _)
/-- a block's cells -/
theorem Stays.range {S : Bs} {w : World} {b o : Nat} {cs : List Value} (h : w.rangeAt b o cs) (hs : ¬ S b) : Stays S w (fun W => W.rangeAt b o cs) := fun w2 t => t.range h hs
theorem Stays.there {S : Bs} {w : World} {b o n : Nat} (h : w.there b o n) (hs : ¬ S b) : Stays S w (fun W => W.there b o n) := fun w2 t => t.there h hs
/-- a page in a variable -/
theorem PgAt.touch {S : Bs} {w w' : World} {b : Nat} {p : Pg} (h : PgAt w b p) (t : Touch S w w') (hs : ¬ S b) : PgAt w' b p := ⟨t.range h.r hs, t.there h.t hs, h.l⟩
theorem Stays.pg {S : Bs} {w : World} {b : Nat} {p : Pg} (h : PgAt w b p) (hs : ¬ S b) : Stays S w (fun W => PgAt W b p) := fun w2 t => h.touch t hs
/-- a page variable that was made last -/
theorem Stays.box {S : Bs} {w w' : World} {p : Pg} {t : TypeId} (hp : p.length = 128) (hw : Wi S w) (h : w' = w.alloc (.cells (pv p).toArray t)) : Stays S w' (fun W => PgAt W w.heap.size p) := by
  subst h
  exact Stays.pg (PgAt.new w t p hp) (fun q => by have := hw _ q; omega)
theorem Mv.alloc (S : Bs) (w : World) (o : Obj) : Mv S S w (w.alloc o) := Mv.of_below ((Below.refl _ _).alloc (Nat.le_refl _) o)
/-- a variable of one's own that will be written -/
theorem Mv.own {S : Bs} {w w' : World} {o : Obj} (h : w' = w.alloc o) : Mv S (fun k => S k ∨ k = w.heap.size) w w' := by
  subst h
  exact ⟨Touch.of_below ((Below.refl _ _).alloc (Nat.le_refl _) o), fun k q => by
    rcases q with q | q
    · exact .inl q
    · exact .inr (by omega)⟩
theorem Mv.set {S : Bs} (w : World) (b i : Nat) (u : Value) (h : S b) : Mv S S w (w.setCell ⟨b, i, none⟩ u) := ⟨touch_set w b i u h, fun k q => .inl q⟩
theorem Mv.cells {S : Bs} (w : World) (b i : Nat) (vs : List Value) (h : S b) : Mv S S w (w.setCells b i vs) := ⟨Touch.setCells (Touch.refl S w) b (.inl h) vs i w (Touch.refl S w), fun k q => .inl q⟩
theorem Wi.own {S : Bs} {w w' : World} {o : Obj} (h : Wi S w) (e : w' = w.alloc o) : Wi (fun k => S k ∨ k = w.heap.size) w' := by
  subst e
  rintro k (q | q)
  · have := h k q; simp; omega
  · simp; omega
/-! ### the disk -/
/-- a disk at D, in the blocks S -/
def Dsk (w : World) (S : Bs) (D : Nat) (firm : List Pg) (loose : Ls) (down : Bool) : Prop := ∃ base F v, DiskIn w base D F v firm loose down ∧ ∀ k, S k ↔ Its D F v k
theorem Dsk.wi {w : World} {S : Bs} {D : Nat} {firm : List Pg} {loose : Ls} {down : Bool} (h : Dsk w S D firm loose down) : Wi S w := by
  obtain ⟨base, F, v, h, hs⟩ := h
  intro k q
  rcases (hs k).1 q with rfl | rfl | q
  · exact h.lD
  · exact h.lF
  · exact (h.hl.lt k q).2
theorem Dsk.keep {w w' : World} {S T : Bs} {D : Nat} {firm : List Pg} {loose : Ls} {down : Bool} (h : Dsk w S D firm loose down) (t : Touch T w w') (hn : ∀ k, S k → ¬ T k) : Dsk w' S D firm loose down := by
  obtain ⟨base, F, v, h, hs⟩ := h
  exact ⟨base, F, v, h.keep t (fun k q => hn k ((hs k).2 q)), hs⟩
theorem Dsk.under {w w' : World} {S : Bs} {D : Nat} {firm : List Pg} {loose : Ls} {down : Bool} (h : Dsk w S D firm loose down) (hb : Below w.heap.size w w') : Dsk w' S D firm loose down :=
  h.keep (T := No) (Touch.of_below hb) (fun k _ q => q)
theorem Dsk.pg {w : World} {S : Bs} {D : Nat} {firm : List Pg} {loose : Ls} {down : Bool} (h : Dsk w S D firm loose down) : (∀ p ∈ firm, p.length = 128) ∧ (∀ x ∈ loose, x.2.length = 128 ∧ 0 ≤ x.1 ∧ x.1 < firm.length) ∧ 0 < firm.length ∧ firm.length ≤ 240 := by
  obtain ⟨base, F, v, h, hs⟩ := h
  exact ⟨h.pg, h.pl, h.n0, h.n1⟩
theorem Dsk.read_len {w : World} {S : Bs} {D : Nat} {firm : List Pg} {loose : Ls} {down : Bool} (h : Dsk w S D firm loose down) (i : Int) : (readP firm loose i).length = 128 := readP_len h.pg.1 (fun x hx => (h.pg.2.1 x hx).1)
theorem readP_snoc (firm : List Pg) (L : Ls) (x : Int × Pg) (i : Int) : readP firm (L ++ [x]) i = if x.1 = i then x.2 else readP firm L i := by
  unfold readP; rw [List.foldl_append]; rfl
theorem bitB_all (k : Nat) : bitB 4294967295 k = true := by
  have h : ∀ m, m < 32 → (bits BinOp.and IntKind.u32 (4294967295 / 2 ^ m) 1 == 1) = true := by decide +kernel
  exact h _ (Nat.mod_lt _ (by omega))
theorem crash_all (firm : List Pg) (L : Ls) (cut : Nat) : ∀ k, k ≤ L.length → crashTo 4294967295 firm L cut k = (flushTo firm L k, cut)
  | 0, _ => rfl
  | k + 1, h => by rw [crashTo_step _ _ _ _ _ h, if_pos (bitB_all k), crash_all firm L cut k (by omega), flushTo_step _ _ _ h]
theorem crashP_all (torn : Int) (firm : List Pg) (L : Ls) : crashP 4294967295 torn firm L = flushP firm L := by
  unfold crashP; rw [crash_all _ _ _ _ (Nat.le_refl _)]; unfold flushTo flushP; rw [List.take_length]
theorem flush_read : ∀ (L : Ls) (firm : List Pg) (i : Nat), i < firm.length → (∀ x ∈ L, 0 ≤ x.1 ∧ x.1 < firm.length) → (flushP firm L).getD i zp = readP firm L (i : Int)
  | [], firm, i, _, _ => rfl
  | x :: L, firm, i, hi, hx => by
    have hl : (flushStep firm x).length = firm.length := by unfold flushStep; rw [List.length_set]
    have ih := flush_read L (flushStep firm x) i (by rw [hl]; exact hi) (fun y hy => by rw [hl]; exact hx y (List.mem_cons_of_mem _ hy))
    show (flushP (flushStep firm x) L).getD i zp = L.foldl (readStep i) (readStep i (firm.getD i zp) x)
    rw [ih]
    show L.foldl (readStep i) ((flushStep firm x).getD i zp) = _
    congr 1
    obtain ⟨h0, h1⟩ := hx x List.mem_cons_self
    unfold flushStep readStep
    by_cases h : x.1 = (i : Int)
    · rw [if_pos h, h, Int.toNat_natCast, List.getD_eq_getElem?_getD, List.getElem?_set_self hi]; rfl
    · rw [if_neg h, List.getD_eq_getElem?_getD, List.getElem?_set_ne (by omega), List.getD_eq_getElem?_getD]
theorem new_m (n : Nat) (w : World) (h0 : 1 ≤ n) (h1 : n ≤ 240) : Calls Tryd.prog 20 #[.int .i64 n] w fun e w' => ∃ D S, e = .returned (.tuple #[.pointer (some ⟨D, 0, none⟩), .nilIface]) ∧ Dsk w' S D (List.replicate n zp) [] false ∧ Below w.heap.size w w' ∧ Mv No S w w' := by
  refine (new_ok n w h0 h1).mono ?_
  rintro e w' ⟨D, F, rfl, hd, hb⟩
  refine ⟨D, Its D F (.slice none 0 0), rfl, ⟨_, F, _, hd, fun k => Iff.rfl⟩, hb, Mv.new hb ?_⟩
  rintro k (rfl | rfl | q)
  · exact hd.bD
  · exact hd.bF
  · exact (hd.hl.lt k q).1
theorem size_m {w : World} {S : Bs} {D : Nat} {firm : List Pg} {loose : Ls} {down : Bool} (h : Dsk w S D firm loose down) : Calls Tryd.prog 22 #[.pointer (some ⟨D, 0, none⟩)] w fun e w' => e = .returned (.int .i64 firm.length) ∧ w = w' := by
  obtain ⟨base, F, v, h, hs⟩ := h
  exact (size_any h).mono fun e w' ⟨h1, h2⟩ => ⟨h1, h2.symm⟩
theorem soft_m {w : World} {S : Bs} {D : Nat} {firm : List Pg} {loose : Ls} {down : Bool} (h : Dsk w S D firm loose down) : Calls Tryd.prog 31 #[.pointer (some ⟨D, 0, none⟩)] w fun e w' => e = .returned (.int .i64 loose.length) ∧ w = w' := by
  obtain ⟨base, F, v, h, hs⟩ := h
  exact (soft_any h).mono fun e w' ⟨h1, h2⟩ => ⟨h1, h2.symm⟩
theorem read_m {w : World} {S : Bs} {D : Nat} {firm : List Pg} {loose : Ls} {down : Bool} (i : Int) (h : Dsk w S D firm loose down) (hls : loose.length ≤ 1000000) : Calls Tryd.prog 29 #[.pointer (some ⟨D, 0, none⟩), .int .i64 i] w (ReadPost firm loose down i w) := by
  obtain ⟨base, F, v, h, hs⟩ := h
  exact read_any i h hls
theorem read_ok {w : World} {S : Bs} {D : Nat} {firm : List Pg} {loose : Ls} {down : Bool} (i : Int) (h : Dsk w S D firm loose down) (hls : loose.length ≤ 1000000) (hm : mayC down firm.length i = 0) : Calls Tryd.prog 29 #[.pointer (some ⟨D, 0, none⟩), .int .i64 i] w fun e w' => e = .returned (.tuple #[.agg (pv (readP firm loose i)).toArray, .nilIface]) ∧ Below w.heap.size w w' :=
  (read_m i h hls).mono (by
    rintro e w' ⟨v, rfl, he, hb⟩
    rw [hm] at he
    rw [if_pos hm, he.zero]
    exact ⟨rfl, hb⟩)
theorem Its.step {D F : Nat} {v v' : Value} {S : Bs} {n : Nat} (hs : ∀ k, S k ↔ Its D F v k) (hv : v'.ownBlock = none ∨ v'.ownBlock = v.ownBlock ∨ ∃ k, v'.ownBlock = some k ∧ n ≤ k) : ∀ k, Its D F v' k → S k ∨ n ≤ k := by
  rintro k (q | q | q)
  · exact .inl ((hs k).2 (.inl q))
  · exact .inl ((hs k).2 (.inr (.inl q)))
  · rcases hv with hv | hv | ⟨j, hv, hj⟩
    · rw [hv] at q; exact absurd q (by simp)
    · exact .inl ((hs k).2 (.inr (.inr (hv ▸ q))))
    · rw [hv] at q; obtain rfl := Option.some.inj q; exact .inr hj
theorem write_m {w : World} {S : Bs} {D : Nat} {firm : List Pg} {loose : Ls} {down : Bool} (i : Int) (p : Pg) (h : Dsk w S D firm loose down) (hls : loose.length ≤ 1000000) (hp : p.length = 128) :
    Calls Tryd.prog 28 #[.pointer (some ⟨D, 0, none⟩), .int .i64 i, .agg (pv p).toArray] w fun e w' => ∃ v S', e = .returned v ∧ ErrC w.heap.size w' v (mayC down firm.length i) ∧ Dsk w' S' D firm (if mayC down firm.length i = 0 then loose ++ [(i, p)] else loose) down ∧ Mv S S' w w' := by
  obtain ⟨base, F, v, h, hs⟩ := h
  refine (write_any i p h hls hp).mono ?_
  rintro e w' ⟨ev, rfl, he, hor⟩
  rcases hor with ⟨hm, hd, hb⟩ | ⟨hm, v', hd, hv, ht⟩
  · rw [if_neg hm]
    exact ⟨ev, S, rfl, he, ⟨base, F, v, hd, hs⟩, Mv.of_below hb⟩
  · rw [if_pos hm]
    exact ⟨ev, Its D F v', rfl, he, ⟨base, F, v', hd, fun k => Iff.rfl⟩, ht.mono (fun k q => (hs k).2 q), Its.step hs (.inr hv)⟩
theorem write_ok {w : World} {S : Bs} {D : Nat} {firm : List Pg} {loose : Ls} {down : Bool} (i : Int) (p : Pg) (h : Dsk w S D firm loose down) (hls : loose.length ≤ 1000000) (hp : p.length = 128) (hm : mayC down firm.length i = 0) :
    Calls Tryd.prog 28 #[.pointer (some ⟨D, 0, none⟩), .int .i64 i, .agg (pv p).toArray] w fun e w' => ∃ S', e = .returned .nilIface ∧ Dsk w' S' D firm (loose ++ [(i, p)]) down ∧ Mv S S' w w' :=
  (write_m i p h hls hp).mono (by
    rintro e w' ⟨v, S', rfl, he, hd, hm2⟩
    rw [hm] at he
    rw [if_pos hm] at hd
    rw [he.zero]
    exact ⟨S', rfl, hd, hm2⟩)
theorem flush_down {w : World} {S : Bs} {D : Nat} {firm : List Pg} {loose : Ls} (h : Dsk w S D firm loose true) (hls : loose.length ≤ 1000000) :
    Calls Tryd.prog 23 #[.pointer (some ⟨D, 0, none⟩)] w fun e w' => ∃ v, e = .returned v ∧ ErrC w.heap.size w' v 7 ∧ Below w.heap.size w w' := by
  obtain ⟨base, F, v, h, hs⟩ := h
  refine (flush_any h hls).mono ?_
  rintro e w' ⟨ev, rfl, he, hor⟩
  rcases hor with ⟨hm, hd, hb⟩ | ⟨hm, _⟩
  · exact ⟨ev, rfl, he, hb⟩
  · exact absurd hm (by simp)
theorem flush_ok {w : World} {S : Bs} {D : Nat} {firm : List Pg} {loose : Ls} (h : Dsk w S D firm loose false) (hls : loose.length ≤ 1000000) :
    Calls Tryd.prog 23 #[.pointer (some ⟨D, 0, none⟩)] w fun e w' => ∃ S', e = .returned .nilIface ∧ Dsk w' S' D (flushP firm loose) [] false ∧ Mv S S' w w' := by
  have hn := h.pg.2.2.1
  obtain ⟨base, F, v, h, hs⟩ := h
  refine (flush_any h hls).mono ?_
  rintro e w' ⟨ev, rfl, he, hor⟩
  rcases hor with ⟨hm, hd, hb⟩ | ⟨hm, hd, ht⟩
  · exact absurd hm (by simp)
  · have e0 : mayC false firm.length 0 = 0 := by unfold mayC; rw [if_neg (by decide), if_pos (by omega)]
    rw [e0] at he
    rw [he.zero]
    exact ⟨_, rfl, ⟨base, F, _, hd, fun k => Iff.rfl⟩, ht.mono (fun k q => (hs k).2 q), Its.step hs (.inl rfl)⟩
theorem crash_m {w : World} {S : Bs} {D : Nat} {firm : List Pg} {loose : Ls} {down : Bool} (mask torn : Int) (h : Dsk w S D firm loose down) (hls : loose.length ≤ 1000000) (hm0 : 0 ≤ mask) (hm1 : mask < 4294967296) (ht1 : torn < 9223372036854775808) :
    Calls Tryd.prog 25 #[.pointer (some ⟨D, 0, none⟩), .int .u32 mask, .int .i64 torn] w fun e w' => ∃ S', e = .returned (.tuple #[]) ∧ Dsk w' S' D (crashP mask torn firm loose) [] true ∧ Mv S S' w w' := by
  obtain ⟨base, F, v, h, hs⟩ := h
  refine (crash_any mask torn h hls hm0 hm1 ht1).mono ?_
  rintro e w' ⟨rfl, hd, ht⟩
  exact ⟨_, rfl, ⟨base, F, _, hd, fun k => Iff.rfl⟩, ht.mono (fun k q => (hs k).2 q), Its.step hs (.inl rfl)⟩
theorem up_m {w : World} {S : Bs} {D : Nat} {firm : List Pg} {loose : Ls} {down : Bool} (h : Dsk w S D firm loose down) : Calls Tryd.prog 27 #[.pointer (some ⟨D, 0, none⟩)] w fun e w' => e = .returned (.tuple #[]) ∧ Dsk w' S D firm loose false ∧ Mv S S w w' := by
  obtain ⟨base, F, v, h, hs⟩ := h
  refine (up_any h).mono ?_
  rintro e w' ⟨rfl, hd, ht⟩
  exact ⟨rfl, ⟨base, F, v, hd, hs⟩, ht.mono (fun k q => (hs k).2 q), fun k q => .inl q⟩
theorem load_m {w : World} {S : Bs} {D : Nat} {firm : List Pg} {loose : Ls} {down : Bool} (i kind : Int) (h : Dsk w S D firm loose down) (hls : loose.length ≤ 1000000) :
    Calls Tryd.prog 40 #[.pointer (some ⟨D, 0, none⟩), .int .i64 i, .int .i64 kind] w fun e w' => ∃ ev, e = .returned (.tuple #[.string (ldS firm loose down i kind), ev]) ∧ ErrC w.heap.size w' ev (ldD firm loose down i kind) ∧ Below w.heap.size w w' := by
  have hl := h.read_len i
  obtain ⟨base, F, v, h, hs⟩ := h
  exact load_any i kind h hls hl
theorem store_m {w : World} {S : Bs} {D : Nat} {firm : List Pg} {loose : Ls} {down : Bool} (i kind : Int) (d : ByteArray) (hc : frC kind d = 0) (h : Dsk w S D firm loose down) (hls : loose.length ≤ 1000000) :
    Calls Tryd.prog 39 #[.pointer (some ⟨D, 0, none⟩), .int .i64 i, .int .i64 kind, .string d] w fun e w' => ∃ ev S', e = .returned ev ∧ ErrC w.heap.size w' ev (mayC down firm.length i) ∧ Dsk w' S' D firm (if mayC down firm.length i = 0 then loose ++ [(i, framP kind d)] else loose) down ∧ Mv S S' w w' := by
  obtain ⟨base, F, v, h, hs⟩ := h
  refine (store_any i kind d hc h hls).mono ?_
  rintro e w' ⟨ev, rfl, he, hor⟩
  rcases hor with ⟨hm, hd, hb⟩ | ⟨hm, v', hd, hv, ht⟩
  · rw [if_neg hm]
    exact ⟨ev, S, rfl, he, ⟨base, F, v, hd, hs⟩, Mv.of_below hb⟩
  · rw [if_pos hm]
    exact ⟨ev, Its D F v', rfl, he, ⟨base, F, v', hd, fun k => Iff.rfl⟩, ht.mono (fun k q => (hs k).2 q), Its.step hs (.inr hv)⟩
theorem store_ok {w : World} {S : Bs} {D : Nat} {firm : List Pg} {loose : Ls} {down : Bool} (i kind : Int) (d : ByteArray) (hc : frC kind d = 0) (h : Dsk w S D firm loose down) (hls : loose.length ≤ 1000000) (hm : mayC down firm.length i = 0) :
    Calls Tryd.prog 39 #[.pointer (some ⟨D, 0, none⟩), .int .i64 i, .int .i64 kind, .string d] w fun e w' => ∃ S', e = .returned .nilIface ∧ Dsk w' S' D firm (loose ++ [(i, framP kind d)]) down ∧ Mv S S' w w' :=
  (store_m i kind d hc h hls).mono (by
    rintro e w' ⟨v, S', rfl, he, hd, hm2⟩
    rw [hm] at he
    rw [if_pos hm] at hd
    rw [he.zero]
    exact ⟨S', rfl, hd, hm2⟩)
theorem store_no {w : World} {S : Bs} {D : Nat} {firm : List Pg} {loose : Ls} {down : Bool} (i kind : Int) (d : ByteArray) (hc : frC kind d = 0) (h : Dsk w S D firm loose down) (hls : loose.length ≤ 1000000) (hm : mayC down firm.length i ≠ 0) :
    Calls Tryd.prog 39 #[.pointer (some ⟨D, 0, none⟩), .int .i64 i, .int .i64 kind, .string d] w fun e w' => ∃ ev, e = .returned ev ∧ ErrC w.heap.size w' ev (mayC down firm.length i) ∧ Below w.heap.size w w' := by
  obtain ⟨base, F, v, h, hs⟩ := h
  refine (store_any i kind d hc h hls).mono ?_
  rintro e w' ⟨ev, rfl, he, hor⟩
  rcases hor with ⟨_, hd, hb⟩ | ⟨hm2, _⟩
  · exact ⟨ev, rfl, he, hb⟩
  · exact absurd hm2 hm
end Go.Proofs.YtmnkgcgmbdkjaaaDoor
namespace Go.Proofs.YtmnkgcgmbdkjaaaDoor
open Go.RowKit Go.Extern.Stop Go.Stop Go.Extern Go.Proofs.YtmnkgcgmbdkjaaaDoorW.PrintWords Go.Proofs.YtmnkgcgmbdkjaaaDoorW.PrintLast Go.Proofs.YtmnkgcgmbdkjaaaDoorW.PrintMore Go.Proofs.YtmnkgcgmbdkjaaaDoor.PSuperPlays
set_option linter.unusedVariables false
set_option linter.unusedSimpArgs false

theorem beq_pg (p : Pg) : (p == p) = true := by simp
theorem wpList_want {P : Program} {ops : Array Oper} {rest : List Oper} {op : Oper} {a : Act} {w : World} {Q : Exit → Act → World → Prop} (hw : Region.wanted op (yielded ops a.tmps) = true)
    (h : ∀ K : Act → World → Prop, (∀ a w, wpList P ops Q rest a w → K a w) → op.wp P a w K Q) : wpList P ops Q (op :: rest) a w := wpList_step fun K hK => by rw [if_pos hw]; exact h K hK
section
variable {ops : Array Oper} {rest : List Oper} {op : Oper} {a : Act} {w : World} {Q : Exit → Act → World → Prop}
/-- a page out of wherever it lies, behind a test -/
theorem ldw_pg (hw : Region.wanted op (yielded ops a.tmps) = true) (x : Operand) (ho : op.op = .load 36 x) (b o : Nat) (hx : a.eval x = .pointer (some ⟨b, o, none⟩)) (p : Pg) (hp : p.length = 128) (hc : w.rangeAt b o (pv p))
    (h : wpList Tryd.prog ops Q rest (a.put op.dst (.agg (pv p).toArray)) w) : wpList Tryd.prog ops Q (op :: rest) a w :=
  wpList_want hw fun _ hK => wp_load_mid 36 x ho b o hx (pv p) _ hc Tryd.underlying36 rfl (size_of hp) (hK _ _ h)
theorem at_bin {P : Program} (o : BinOp) (ty : TypeId) (x y : Operand) {ty' : TypeId} {d : Option Tmp} {t : TypeId} {s : String} {f : Array Edge} {g : Option (Nat × Bool)} (h : wpList P ops Q (⟨d, .binOp o ty x y ty', t, s, f, g⟩ :: rest) a w) : wpList P ops Q (⟨d, .binOp o ty x y ty', t, s, f, g⟩ :: rest) a w := h
set_option maxRecDepth 100000 in
/-- two pages side by side, behind a test -/
theorem eqw_pg (hw : Region.wanted op (yielded ops a.tmps) = true) (x y : Operand) (ho : op.op = .binOp .eql 36 x y 36) (p q : Pg) (hx : a.eval x = .agg (pv p).toArray) (hy : a.eval y = .agg (pv q).toArray) (hp : p.length = 128) (hq : q.length = 128)
    (h : wpList Tryd.prog ops Q rest (a.put op.dst (.bool (p == q))) w) : wpList Tryd.prog ops Q (op :: rest) a w := by
  refine wpList_want hw fun K hK => ?_
  unfold Oper.wp execOp
  have he := eql_pg w p q hp hq
  have hgq := run_eqGuard_agg (P := Tryd.prog) w .eql 36 x y (pv p).toArray (pv q).toArray (by kernel_rfl)
  simp only [ho, hx, hy, Sem.run_bind, Sem.run_pure, Result.andThen_ok, he, hgq]
  exact hK _ _ h
end
theorem cell_pg {w : World} {b : Nat} {p : Pg} (h : w.rangeAt b 0 (pv p)) (j : Nat) (hj : j < p.length) : w.cell? ⟨b, j, none⟩ = some (.int .u8 ((p.getD j 0).toNat : Int)) := by
  have := h j (.int .u8 ((p.getD j 0).toNat : Int)) (by rw [pv, List.getElem?_map, List.getElem?_eq_getElem hj, List.getD_eq_getElem?_getD, List.getElem?_eq_getElem hj]; rfl)
  rwa [Nat.zero_add] at this
theorem mix_lt {k j : Nat} {p q : Pg} (hp : p.length = 128) (hj : j < k) (hk : k ≤ 128) : (mix k p q).getD j 0 = p.getD j 0 := by
  unfold mix
  rw [List.getD_eq_getElem?_getD, List.getElem?_append_left (by rw [List.length_take, hp]; omega), List.getElem?_take, if_pos hj, List.getD_eq_getElem?_getD]
theorem mix_ge {k j : Nat} {p q : Pg} (hp : p.length = 128) (hj : k ≤ j) (hk : k ≤ 128) : (mix k p q).getD j 0 = q.getD j 0 := by
  unfold mix
  have hl : (p.take k).length = k := by rw [List.length_take, hp]; omega
  rw [List.getD_eq_getElem?_getD, List.getElem?_append_right (by rw [hl]; exact hj), hl, List.getElem?_drop, show k + (j - k) = j by omega, List.getD_eq_getElem?_getD]
theorem bytes_ext {a b : ByteArray} (h : a.toList = b.toList) : a = b := by
  rw [ByteArray.toList_eq, ByteArray.toList_eq] at h
  exact ByteArray.ext (Array.toList_inj.1 h)
theorem str_eq {a b : ByteArray} (h : a = b) : (a.toList == b.toList) = true := by rw [h]; exact beq_self_eq_true _
theorem str_ne {a b : ByteArray} (h : a ≠ b) : (a.toList == b.toList) = false := by rw [beq_eq_false_iff_ne]; exact fun e => h (bytes_ext e)
/-- the page that frame.Lay answers -/
def layP (k : Int) (d : ByteArray) : Pg := if frC k d = 0 then framP k d else zp
theorem layP_length (k : Int) (d : ByteArray) : (layP k d).length = 128 := by
  unfold layP
  split
  · rename_i h; exact framP_length k d (by have := (frC_zero.1 h).2; omega)
  · exact zp_length
theorem lay_m (k : Int) (d : ByteArray) (w : World) : Calls Tryd.prog 33 #[.int .i64 k, .string d] w fun e w' => ∃ v, e = .returned (.tuple #[.agg (pv (layP k d)).toArray, v]) ∧ ErrC w.heap.size w' v (frC k d) ∧ Below w.heap.size w w' := by
  unfold layP
  by_cases h : frC k d = 0
  · rw [if_pos h, h]
    refine (lay_ok k d w h).mono ?_
    rintro e w' ⟨rfl, hb⟩
    exact ⟨_, rfl, ErrC.nil _ _, hb⟩
  · rw [if_neg h]
    exact lay_no k d w h
/-- what frame.Read answers -/
def rdK (p : Pg) : Int := if rdC p = 0 then ((kindP p : Nat) : Int) else 0
def rdD (p : Pg) : ByteArray := if rdC p = 0 then dataP p else ⟨#[]⟩
theorem read_fr (p : Pg) (hp : p.length = 128) (w : World) : Calls Tryd.prog 34 #[.agg (pv p).toArray] w fun e w' => ∃ v, e = .returned (.tuple #[.int .i64 (rdK p), .string (rdD p), v]) ∧ ErrC w.heap.size w' v (rdC p) ∧ Below w.heap.size w w' := by
  unfold rdK rdD
  by_cases h : rdC p = 0
  · rw [if_pos h, if_pos h, h]
    refine (read_fr_ok p hp h w).mono ?_
    rintro e w' ⟨rfl, hb⟩
    exact ⟨_, rfl, ErrC.nil _ _, hb⟩
  · rw [if_neg h, if_neg h]
    exact read_fr_no p hp h w
end Go.Proofs.YtmnkgcgmbdkjaaaDoor
