/- super.at, Best, Switch by contracts. super.Best, Switch by contracts. super.Best with the power gone, Switch; dynamolaw07.awake. Two superblocks side by side. dynamolaw07: awake, SuperUnlike: the walks. -/
import Derived.Test.YtmnkgcgmbdkjaaaDoorHG
import Derived.Laws.StructEq
set_option linter.unusedVariables false
set_option linter.unusedSimpArgs false
namespace Go.Proofs.YtmnkgcgmbdkjaaaDoor
open Go.RowKit Go.Extern.Stop Go.Stop Go.Extern Go.Proofs.YtmnkgcgmbdkjaaaDoorW.PrintWords Go.Proofs.YtmnkgcgmbdkjaaaDoorW.PrintLast Go.Proofs.YtmnkgcgmbdkjaaaDoorW.PrintMore Go.Proofs.YtmnkgcgmbdkjaaaDoor.PSuperPlays
set_option linter.unusedVariables false
set_option linter.unusedSimpArgs false
/-- tag.Same of an error with a code -/
theorem Same_c {B : Nat} (w : World) (E : Value) (n m : Int) (h : ErrC B w E n) : Calls Tryd.prog 83 #[E, .int .i64 m] w fun e w' => e = .returned (.bool (decide (n ≠ 0 ∧ n = m))) ∧ w = w' := by
  rcases h with ⟨rfl, rfl⟩ | ⟨hn, l, hch⟩
  · rw [decide_eq_false (fun k => k.1 rfl)]; exact Same_nil m w
  · have e : sameB (some n) m = decide (n ≠ 0 ∧ n = m) := by
      unfold sameB
      by_cases k : n = m
      · subst k; simp [hn]
      · simp [k]
    rw [← e]; exact Same_chain m E l _ hch
/-- the superblock in a sector -/
def atP (firm : List Pg) (loose : Ls) (i : Int) : Sup := if ldD firm loose false i 1 = 0 then readU (ldS firm loose false i 1) else sup0
theorem atP_fits (firm : List Pg) (loose : Ls) (i : Int) : (atP firm loose i).Fits := by
  unfold atP; split
  · exact readU_fits _
  · exact sup0_fits
theorem ldC_cases2 (p : Pg) (k : Int) : ldC p k = 0 ∨ ldC p k = 2 ∨ ldC p k = 3 := by
  unfold ldC
  split
  · rename_i h
    unfold rdC at h ⊢
    split
    · exact .inr (.inr rfl)
    · rename_i g; rw [if_neg g] at h
      split
      · exact .inr (.inl rfl)
      · rename_i q; rw [if_neg q] at h; exact absurd rfl h
  · split
    · exact .inr (.inl rfl)
    · exact .inl rfl
theorem ldD_seven (firm : List Pg) (loose : Ls) (i k : Int) : ldD firm loose false i k ≠ 7 := by
  unfold ldD
  split
  · unfold mayC; rw [if_neg (by decide)]; split <;> decide
  · rcases ldC_cases2 (readP firm loose i) k with h | h | h <;> rw [h] <;> decide
set_option maxHeartbeats 2000000 in
set_option maxRecDepth 100000 in
theorem at_ok {w : World} {S : Bs} {D : Nat} {firm : List Pg} {loose : Ls} (i : Int) (hd : Dsk w S D firm loose false) (hls : loose.length ≤ 1000000) (hc : ldD firm loose false i 1 = 0) : Calls Tryd.prog 82 #[.pointer (some ⟨D, 0, none⟩), .int .i64 i] w fun e w' => e = .returned (.tuple #[.agg (sv (atP firm loose i)).toArray, .nilIface]) ∧ Below w.heap.size w w' := by
  have HL := Lib.hid (fun W (h : Below w.heap.size w W) => load_m i 1 (hd.under h) hls)
  have h7 := ldD_seven firm loose i 1
  have hres : atP firm loose i = readU (ldS firm loose false i 1) := by unfold atP; rw [if_pos hc]
  obtain ⟨c, hce⟩ : ∃ q, q = ldD firm loose false i 1 := ⟨_, rfl⟩
  obtain ⟨t, hte⟩ : ∃ q, q = ldS firm loose false i 1 := ⟨_, rfl⟩
  rw [← hce, ← hte] at HL
  rw [← hce] at h7 hc
  rw [← hte] at hres
  subst hc
  have hbz := build_sp0
  have HRES := Lib.hid hres
  clear hd hls hce hte h7 hres
  have hb1 : Below w.heap.size w (w.alloc (.cells (sv sup0).toArray 72)) := (Below.refl _ _).alloc (Nat.le_refl _) _
  have hr1 : (w.alloc (.cells (sv sup0).toArray 72)).there w.heap.size 0 32 := there_new _ _ _ 32 (by rw [ssz]; exact Nat.le_refl _)
  have hz1 : w.heap.size < (w.alloc (.cells (sv sup0).toArray 72)).heap.size := by simp
  go_enter Tryd.func82, Tryd.ntmps82
  go_upto_region 1 with (first | ((with_reducible refine at_al 72 ?_); refine al_sp rfl rfl ?_))
  obtain ⟨w1, hw1⟩ : ∃ q, q = w.alloc (.cells (sv sup0).toArray 72) := ⟨_, rfl⟩
  rw [← hw1] at hb1 hr1 hz1 ⊢
  clear hw1
  have HB1 := Lib.hid hb1
  have HR1 := Lib.hid hr1
  have HZ1 := Lib.hid hz1
  clear hb1 hr1 hz1
  go_wp2_with fail
  refine (HL.out _ HB1.out).mono ?_
  rintro e w2 ⟨v, rfl, he, hb⟩
  have HB2 := Lib.hid (HB1.out.trans (hb.mono HB1.out.size))
  have HR2 := Lib.hid (there_under HR1.out hb HZ1.out)
  have HZ2 : Hid (w.heap.size < w2.heap.size) := Lib.hid (Nat.lt_of_lt_of_le HZ1.out hb.size)
  clear hb
  obtain rfl := ErrC.zero he
  clear he
  go_wp2_with fail
  refine (Same_nil 7 _).mono ?_
  rintro e _ ⟨rfl, rfl⟩
  go_wp2_with fail
  refine (sread_any t _).mono ?_
  rintro e w3 ⟨v2, rfl, he, hb⟩
  have HB3 := Lib.hid (HB2.out.trans (hb.mono HB2.out.size))
  have HR3 := Lib.hid (there_under HR2.out hb HZ2.out)
  have HZ3 : Hid (w.heap.size < w3.heap.size) := Lib.hid (Nat.lt_of_lt_of_le HZ2.out hb.size)
  clear hb he
  have hul := (readU_fits t).l
  obtain ⟨s, hs⟩ : ∃ q, q = readU t := ⟨_, rfl⟩
  rw [← hs] at hul HRES ⊢
  have HSL := Lib.hid hul
  clear hs hul
  go_upto_region 7 with (first | ((with_reducible refine at_al 72 ?_); refine al_sp rfl rfl ?_) | ((with_reducible refine at_st 72 (.tmp 8) (.tmp 28) ?_); refine stn_sp rfl _ _ rfl _ _ _ rfl rfl s ?_ rfl ?_ ?_; exact HSL.out; exact ssz))
  have hs4 := SupAt.new w3 72 s HSL.out
  have hb4 : Below w3.heap.size w3 (w3.alloc (.cells (sv s).toArray 72)) := (Below.refl _ _).alloc (Nat.le_refl _) _
  obtain ⟨w4, hw4⟩ : ∃ q, q = w3.alloc (.cells (sv s).toArray 72) := ⟨_, rfl⟩
  rw [← hw4] at hs4 hb4 ⊢
  clear hw4
  have HS4 := Lib.hid hs4
  have HB4 := Lib.hid (HB3.out.trans (hb4.mono HB3.out.size))
  have HR4 := Lib.hid (there_under HR3.out hb4 HZ3.out)
  clear hs4 hb4
  go_wp2_with (first | ((with_reducible refine at_ld 72 (.tmp 8) ?_); refine ld_sp rfl _ rfl w3.heap.size (0) rfl s ?_ ?_ ?_; exact HSL.out; exact HS4.out.r) | ((with_reducible refine at_st 72 (.tmp 4) (.tmp 30) ?_); refine st_sp rfl _ _ rfl w.heap.size 0 rfl s ?_ rfl ?_ ?_; exact HSL.out; exact HR4.out))
  have hld := run_loadVar_mid (P := Tryd.prog) (w4.setCells w.heap.size 0 (sv s)) w.heap.size 0 72 (sv s) _ (World.rangeAt_setCells_same w4 _ _ _ (by rw [sv_length HSL.out]; exact HR4.out)) Tryd.underlying72 rfl (szof_sp HSL.out)
  exact bodyPost_ret (v := .tuple #[.agg (sv s).toArray, .nilIface]) (results_pg Tryd.results82 _ _ _ _ _ rfl rfl hld) rfl ⟨by rw [HRES.out], HB4.out.trans (setCells_below _ _ _ _ _ (Nat.le_refl _))⟩
set_option maxHeartbeats 2000000 in
set_option maxRecDepth 100000 in
theorem at_no {w : World} {S : Bs} {D : Nat} {firm : List Pg} {loose : Ls} (i : Int) (hd : Dsk w S D firm loose false) (hls : loose.length ≤ 1000000) (hc : ldD firm loose false i 1 ≠ 0) : Calls Tryd.prog 82 #[.pointer (some ⟨D, 0, none⟩), .int .i64 i] w fun e w' => e = .returned (.tuple #[.agg (sv (atP firm loose i)).toArray, .nilIface]) ∧ Below w.heap.size w w' := by
  have HL := Lib.hid (fun W (h : Below w.heap.size w W) => load_m i 1 (hd.under h) hls)
  have h7 := ldD_seven firm loose i 1
  have hres : atP firm loose i = sup0 := by unfold atP; rw [if_neg hc]
  obtain ⟨c, hce⟩ : ∃ q, q = ldD firm loose false i 1 := ⟨_, rfl⟩
  obtain ⟨t, hte⟩ : ∃ q, q = ldS firm loose false i 1 := ⟨_, rfl⟩
  rw [← hce, ← hte] at HL
  rw [← hce] at h7 hc
  have hsm : decide (c ≠ 0 ∧ c = 7) = false := decide_eq_false (fun k => h7 k.2)
  have HC := Lib.hid hc
  have HSM := Lib.hid hsm
  have hbz := build_sp0
  have HRES := Lib.hid hres
  clear hd hls hce hte h7 hres hc hsm
  have hb1 : Below w.heap.size w (w.alloc (.cells (sv sup0).toArray 72)) := (Below.refl _ _).alloc (Nat.le_refl _) _
  have hr1 : (w.alloc (.cells (sv sup0).toArray 72)).there w.heap.size 0 32 := there_new _ _ _ 32 (by rw [ssz]; exact Nat.le_refl _)
  have hz1 : w.heap.size < (w.alloc (.cells (sv sup0).toArray 72)).heap.size := by simp
  go_enter Tryd.func82, Tryd.ntmps82
  go_upto_region 1 with (first | ((with_reducible refine at_al 72 ?_); refine al_sp rfl rfl ?_))
  obtain ⟨w1, hw1⟩ : ∃ q, q = w.alloc (.cells (sv sup0).toArray 72) := ⟨_, rfl⟩
  rw [← hw1] at hb1 hr1 hz1 ⊢
  clear hw1
  have HB1 := Lib.hid hb1
  have HR1 := Lib.hid hr1
  have HZ1 := Lib.hid hz1
  clear hb1 hr1 hz1
  go_wp2_with fail
  refine (HL.out _ HB1.out).mono ?_
  rintro e w2 ⟨v, rfl, he, hb⟩
  have HB2 := Lib.hid (HB1.out.trans (hb.mono HB1.out.size))
  have HR2 := Lib.hid (there_under HR1.out hb HZ1.out)
  have HZ2 : Hid (w.heap.size < w2.heap.size) := Lib.hid (Nat.lt_of_lt_of_le HZ1.out hb.size)
  clear hb
  have HE := Lib.hid he
  obtain ⟨ty, xx, rfl⟩ := he.iface HC.out
  clear he
  go_wp2_with fail
  refine (Same_c _ _ c 7 HE.out).mono ?_
  rintro e _ ⟨rfl, rfl⟩
  rw [HSM.out]
  go_wp2_with (first | ((with_reducible refine at_st 72 (.tmp 4) (.tmp 24) ?_); refine st_sp rfl _ _ rfl w.heap.size 0 rfl sup0 ?_ rfl ?_ ?_; exact sup0_l; exact HR2.out))
  have hld := run_loadVar_mid (P := Tryd.prog) (w2.setCells w.heap.size 0 (sv sup0)) w.heap.size 0 72 (sv sup0) _ (World.rangeAt_setCells_same w2 _ _ _ (by rw [sv_length sup0_l]; exact HR2.out)) Tryd.underlying72 rfl (szof_sp sup0_l)
  exact bodyPost_ret (v := .tuple #[.agg (sv sup0).toArray, .nilIface]) (results_pg Tryd.results82 _ _ _ _ _ rfl rfl hld) rfl ⟨by rw [HRES.out], HB2.out.trans (setCells_below _ _ _ _ _ (Nat.le_refl _))⟩
theorem at_any {w : World} {S : Bs} {D : Nat} {firm : List Pg} {loose : Ls} (i : Int) (hd : Dsk w S D firm loose false) (hls : loose.length ≤ 1000000) : Calls Tryd.prog 82 #[.pointer (some ⟨D, 0, none⟩), .int .i64 i] w fun e w' => e = .returned (.tuple #[.agg (sv (atP firm loose i)).toArray, .nilIface]) ∧ Below w.heap.size w w' := by
  by_cases hc : ldD firm loose false i 1 = 0
  · exact at_ok i hd hls hc
  · exact at_no i hd hls hc
end Go.Proofs.YtmnkgcgmbdkjaaaDoor
namespace Go.Proofs.YtmnkgcgmbdkjaaaDoor
open Go.RowKit Go.Extern.Stop Go.Stop Go.Extern Go.Proofs.YtmnkgcgmbdkjaaaDoorW.PrintWords Go.Proofs.YtmnkgcgmbdkjaaaDoorW.PrintLast Go.Proofs.YtmnkgcgmbdkjaaaDoorW.PrintMore Go.Proofs.YtmnkgcgmbdkjaaaDoor.PSuperPlays
set_option linter.unusedVariables false
set_option linter.unusedSimpArgs false
/-- the one of two that counts, so far -/
def beT (firm : List Pg) (loose : Ls) : Nat → Sup
  | 0 => sup0
  | i + 1 => if (beT firm loose i).g < (atP firm loose (i : Int)).g then atP firm loose (i : Int) else beT firm loose i
theorem beT_fits (firm : List Pg) (loose : Ls) : ∀ i, (beT firm loose i).Fits
  | 0 => sup0_fits
  | i + 1 => by
    show (if _ then _ else _ : Sup).Fits
    split
    · exact atP_fits firm loose i
    · exact beT_fits firm loose i
/-- the superblock that counts; none is the empty one -/
def bestP (firm : List Pg) (loose : Ls) : Sup := if firm.length < 3 ∨ (beT firm loose 2).g = 0 then sup0 else beT firm loose 2
def bestC (firm : List Pg) (loose : Ls) : Int := if firm.length < 3 then 1 else if (beT firm loose 2).g = 0 then 4 else 0
theorem bestP_fits (firm : List Pg) (loose : Ls) : (bestP firm loose).Fits := by
  unfold bestP; split
  · exact sup0_fits
  · exact beT_fits firm loose 2
set_option maxHeartbeats 2000000 in
set_option maxRecDepth 100000 in
theorem at_down {w : World} {S : Bs} {D : Nat} {firm : List Pg} {loose : Ls} (i : Int) (hd : Dsk w S D firm loose true) (hls : loose.length ≤ 1000000) : Calls Tryd.prog 82 #[.pointer (some ⟨D, 0, none⟩), .int .i64 i] w fun e w' => ∃ v, e = .returned (.tuple #[.agg (sv sup0).toArray, v]) ∧ ErrC w.heap.size w' v 7 ∧ Below w.heap.size w w' := by
  have HL := Lib.hid (fun W (h : Below w.heap.size w W) => load_m i 1 (hd.under h) hls)
  have h7 : ldD firm loose true i 1 = 7 := rfl
  obtain ⟨t, hte⟩ : ∃ q, q = ldS firm loose true i 1 := ⟨_, rfl⟩
  rw [h7, ← hte] at HL
  have hbz := build_sp0
  clear hd hls hte h7
  have hb1 : Below w.heap.size w (w.alloc (.cells (sv sup0).toArray 72)) := (Below.refl _ _).alloc (Nat.le_refl _) _
  have hr1 : (w.alloc (.cells (sv sup0).toArray 72)).there w.heap.size 0 32 := there_new _ _ _ 32 (by rw [ssz]; exact Nat.le_refl _)
  have hz1 : w.heap.size < (w.alloc (.cells (sv sup0).toArray 72)).heap.size := by simp
  go_enter Tryd.func82, Tryd.ntmps82
  go_upto_region 1 with (first | ((with_reducible refine at_al 72 ?_); refine al_sp rfl rfl ?_))
  obtain ⟨w1, hw1⟩ : ∃ q, q = w.alloc (.cells (sv sup0).toArray 72) := ⟨_, rfl⟩
  rw [← hw1] at hb1 hr1 hz1 ⊢
  clear hw1
  have HB1 := Lib.hid hb1
  have HR1 := Lib.hid hr1
  have HZ1 := Lib.hid hz1
  clear hb1 hr1 hz1
  go_wp2_with fail
  refine (HL.out _ HB1.out).mono ?_
  rintro e w2 ⟨v, rfl, he, hb⟩
  have HB2 := Lib.hid (HB1.out.trans (hb.mono HB1.out.size))
  have HR2 := Lib.hid (there_under HR1.out hb HZ1.out)
  clear hb
  have HE := Lib.hid he
  obtain ⟨ty, xx, rfl⟩ := he.iface (by decide)
  clear he
  go_wp2_with fail
  refine (Same_c _ _ 7 7 HE.out).mono ?_
  rintro e _ ⟨rfl, rfl⟩
  rw [show decide ((7 : Int) ≠ 0 ∧ (7 : Int) = 7) = true from rfl]
  go_wp2_with (first | ((with_reducible refine at_st 72 (.tmp 4) (.tmp 19) ?_); refine st_sp rfl _ _ rfl w.heap.size 0 rfl sup0 ?_ rfl ?_ ?_; exact sup0_l; exact HR2.out))
  have hld := run_loadVar_mid (P := Tryd.prog) (w2.setCells w.heap.size 0 (sv sup0)) w.heap.size 0 72 (sv sup0) _ (World.rangeAt_setCells_same w2 _ _ _ (by rw [sv_length sup0_l]; exact HR2.out)) Tryd.underlying72 rfl (szof_sp sup0_l)
  refine bodyPost_ret (v := .tuple #[.agg (sv sup0).toArray, .iface ty xx]) (results_pg Tryd.results82 _ _ _ _ _ rfl rfl hld) rfl ⟨_, rfl, ?_, HB2.out.trans (setCells_below _ _ _ _ _ (Nat.le_refl _))⟩
  exact (err_touch (HE.out.mono (Nat.le_refl _)) (Touch.setCells (S := fun k => k = w.heap.size) (Touch.refl _ w2) w.heap.size (.inl rfl) (sv sup0) 0 w2 (Touch.refl _ _)) (fun k hk hs => by have := HZ1.out; omega)).mono (Nat.le_of_lt HZ1.out)
set_option maxHeartbeats 2000000 in
set_option maxRecDepth 100000 in
theorem best_small {w : World} {S : Bs} {D : Nat} {firm : List Pg} {loose : Ls} {down : Bool} (hd : Dsk w S D firm loose down) (hls : loose.length ≤ 1000000) (h : firm.length < 3) : Calls Tryd.prog 51 #[.pointer (some ⟨D, 0, none⟩)] w fun e w' => ∃ v, e = .returned (.tuple #[.agg (sv sup0).toArray, v]) ∧ ErrC w.heap.size w' v 1 ∧ Below w.heap.size w w' := by
  have HD := Lib.hid hd
  have hlt : (firm.length : Int) < 3 := by omega
  clear hd hls h
  have hbz := build_sp0
  have hb1 : Below w.heap.size w (w.alloc (.cells (sv sup0).toArray 72)) := (Below.refl _ _).alloc (Nat.le_refl _) _
  have hr1 : (w.alloc (.cells (sv sup0).toArray 72)).there w.heap.size 0 32 := there_new _ _ _ 32 (by rw [ssz]; exact Nat.le_refl _)
  have hz1 : w.heap.size < (w.alloc (.cells (sv sup0).toArray 72)).heap.size := by simp
  go_enter Tryd.func51, Tryd.ntmps51
  go_upto_region 1 with (first | ((with_reducible refine at_al 72 ?_); refine al_sp rfl rfl ?_))
  obtain ⟨w1, hw1⟩ : ∃ q, q = w.alloc (.cells (sv sup0).toArray 72) := ⟨_, rfl⟩
  rw [← hw1] at hb1 hr1 hz1 ⊢
  clear hw1
  have HB1 := Lib.hid hb1
  have HR1 := Lib.hid hr1
  have HZ1 := Lib.hid hz1
  have HD1 := Lib.hid (HD.out.under hb1)
  clear hb1 hr1 hz1
  go_wp2_with fail
  refine (size_m HD1.out).mono ?_
  rintro e _ ⟨rfl, rfl⟩
  go_wp2_with fail
  refine (Tag_err _ 1 _).mono ?_
  rintro e w2 ⟨v, rfl, he, hb⟩
  have HB2 := Lib.hid (HB1.out.trans (hb.mono HB1.out.size))
  have HR2 := Lib.hid (there_under HR1.out hb HZ1.out)
  clear hb
  obtain ⟨ty, xx, rfl⟩ := he.iface (by decide)
  have HE := Lib.hid he
  clear he
  go_wp2_with (first | ((with_reducible refine at_st 72 (.tmp 2) (.tmp 11) ?_); refine st_sp rfl _ _ rfl w.heap.size 0 rfl sup0 ?_ rfl ?_ ?_; exact sup0_l; exact HR2.out))
  have hld := run_loadVar_mid (P := Tryd.prog) (w2.setCells w.heap.size 0 (sv sup0)) w.heap.size 0 72 (sv sup0) _ (World.rangeAt_setCells_same w2 _ _ _ (by rw [sv_length sup0_l]; exact HR2.out)) Tryd.underlying72 rfl (szof_sp sup0_l)
  refine bodyPost_ret (v := .tuple #[.agg (sv sup0).toArray, .iface ty xx]) (results_pg Tryd.results51 _ _ _ _ _ rfl rfl hld) rfl ⟨_, rfl, ?_, HB2.out.trans (setCells_below _ _ _ _ _ (Nat.le_refl _))⟩
  exact (err_touch (HE.out.mono (Nat.le_refl _)) (Touch.setCells (S := fun k => k = w.heap.size) (Touch.refl _ w2) w.heap.size (.inl rfl) (sv sup0) 0 w2 (Touch.refl _ _)) (fun k hk hs => by have := HZ1.out; omega)).mono (Nat.le_of_lt HZ1.out)
set_option maxHeartbeats 4000000 in
set_option maxRecDepth 100000 in
theorem best_big {w : World} {S : Bs} {D : Nat} {firm : List Pg} {loose : Ls} (hd : Dsk w S D firm loose false) (hls : loose.length ≤ 1000000) (h : ¬ firm.length < 3) : Calls Tryd.prog 51 #[.pointer (some ⟨D, 0, none⟩)] w fun e w' => ∃ v, e = .returned (.tuple #[.agg (sv (bestP firm loose)).toArray, v]) ∧ ErrC w.heap.size w' v (bestC firm loose) ∧ Below w.heap.size w w' := by
  have HD := Lib.hid hd
  have hlt : ¬ (firm.length : Int) < 3 := by omega
  have HLS := Lib.hid hls
  have hres : bestP firm loose = if (beT firm loose 2).g = 0 then sup0 else beT firm loose 2 := by unfold bestP; simp only [show ¬ firm.length < 3 by omega, false_or]
  have hresc : bestC firm loose = if (beT firm loose 2).g = 0 then 4 else 0 := by unfold bestC; rw [if_neg (by omega)]
  have HRS := Lib.hid (And.intro hres hresc)
  clear hres hresc
  clear hd hls h
  have hbz := build_sp0
  have hb1 : Below w.heap.size w (w.alloc (.cells (sv sup0).toArray 72)) := (Below.refl _ _).alloc (Nat.le_refl _) _
  have hr1 : (w.alloc (.cells (sv sup0).toArray 72)).there w.heap.size 0 32 := there_new _ _ _ 32 (by rw [ssz]; exact Nat.le_refl _)
  have hz1 : w.heap.size < (w.alloc (.cells (sv sup0).toArray 72)).heap.size := by simp
  go_enter Tryd.func51, Tryd.ntmps51
  go_upto_region 1 with (first | ((with_reducible refine at_al 72 ?_); refine al_sp rfl rfl ?_))
  obtain ⟨w1, hw1⟩ : ∃ q, q = w.alloc (.cells (sv sup0).toArray 72) := ⟨_, rfl⟩
  rw [← hw1] at hb1 hr1 hz1 ⊢
  clear hw1
  have HB1 := Lib.hid hb1
  have HR1 := Lib.hid hr1
  have HZ1 := Lib.hid hz1
  have HD1 := Lib.hid (HD.out.under hb1)
  clear hb1 hr1 hz1
  go_wp2_with fail
  refine (size_m HD1.out).mono ?_
  rintro e _ ⟨rfl, rfl⟩
  have hs2 := SupAt.new w1 72 sup0 sup0_l
  have hb2 : Below w1.heap.size w1 (w1.alloc (.cells (sv sup0).toArray 72)) := (Below.refl _ _).alloc (Nat.le_refl _) _
  go_upto_region 4 with (first | ((with_reducible refine at_al 72 ?_); refine al_sp rfl rfl ?_))
  obtain ⟨w2, hw2⟩ : ∃ q, q = w1.alloc (.cells (sv sup0).toArray 72) := ⟨_, rfl⟩
  rw [← hw2] at hs2 hb2 ⊢
  clear hw2
  have HS2 := Lib.hid hs2
  have HD2 := Lib.hid (HD1.out.under hb2)
  have HB2 := Lib.hid (HB1.out.trans (hb2.mono HB1.out.size))
  have HR2 := Lib.hid (there_under HR1.out hb2 HZ1.out)
  obtain ⟨B, hBe⟩ : ∃ q, q = w1.heap.size := ⟨_, rfl⟩
  rw [← hBe] at hs2 HS2 ⊢
  have HBE := Lib.hid (show w.heap.size < B by rw [hBe]; exact HZ1.out)
  clear hs2 hb2 hBe
  go_wp2_with fail
  go_loopg [14] 2 (fun gg s14 wr => ∃ i : Nat, i ≤ 2 ∧ 2 - i ≤ gg ∧ s14 = .int .i64 i ∧ Hid (SupAt wr B (beT firm loose i) ∧ Below w.heap.size w wr ∧ wr.there w.heap.size 0 32))
  case atStart => exact ⟨0, by omega, by omega, rfl, Lib.hid ⟨HS2.out, HB2.out, HR2.out⟩⟩
  case round =>
    obtain ⟨i, hi, hg, rfl, HI⟩ := hrel
    have HBF := Lib.hid (beT_fits firm loose i)
    by_cases hi2 : i < 2
    · have hlz : (i : Int) < 2 := by omega
      go_wp2_with fail
      refine (at_any (i : Int) (HD.out.under HI.out.2.1) HLS.out).mono ?_
      rintro e w3 ⟨rfl, hb⟩
      have HS3 := Lib.hid (HI.out.1.under hb HI.out.1.lt)
      have HB3 := Lib.hid (HI.out.2.1.trans (hb.mono HI.out.2.1.size))
      have hzr : w.heap.size < wr.heap.size := Nat.lt_trans HBE.out HI.out.1.lt
      have HR3 := Lib.hid (there_under HI.out.2.2 hb hzr)
      have HZ3 := Lib.hid (Nat.lt_of_lt_of_le hzr hb.size)
      clear hb hzr
      have hstep : beT firm loose (i + 1) = if (beT firm loose i).g < (atP firm loose (i : Int)).g then atP firm loose (i : Int) else beT firm loose i := rfl
      have HAF := Lib.hid (atP_fits firm loose (i : Int))
      obtain ⟨t, ht⟩ : ∃ q, q = atP firm loose (i : Int) := ⟨_, rfl⟩
      obtain ⟨b, hb⟩ : ∃ q, q = beT firm loose i := ⟨_, rfl⟩
      rw [← ht] at hstep HAF ⊢
      rw [← hb] at hstep HS3 HBF
      have HST := Lib.hid hstep
      have HTL := Lib.hid HAF.out.l
      have HBL := Lib.hid HBF.out.l
      clear hstep ht hb
      go_upto_region 8 with (first | ((with_reducible refine at_al 72 ?_); refine al_sp rfl rfl ?_) | ((with_reducible refine at_st 72 (.tmp 6) (.tmp 21) ?_); refine stn_sp rfl _ _ rfl _ _ _ rfl rfl t ?_ rfl ?_ ?_; exact HTL.out; exact ssz))
      have hs4 := SupAt.new w3 72 t HTL.out
      have hb4 : Below w3.heap.size w3 (w3.alloc (.cells (sv t).toArray 72)) := (Below.refl _ _).alloc (Nat.le_refl _) _
      obtain ⟨w4, hw4⟩ : ∃ q, q = w3.alloc (.cells (sv t).toArray 72) := ⟨_, rfl⟩
      rw [← hw4] at hs4 hb4 ⊢
      clear hw4
      have HS4 := Lib.hid hs4
      have HBB4 := Lib.hid (HS3.out.under hb4 HS3.out.lt)
      have HB4 := Lib.hid (HB3.out.trans (hb4.mono HB3.out.size))
      have HR4 := Lib.hid (there_under HR3.out hb4 HZ3.out)
      clear hs4 hb4
      have cg := HS4.out.gen
      have cb := HBB4.out.gen
      by_cases hgt : b.g < t.g
      · have HSTT : Hid (beT firm loose (i + 1) = t) := Lib.hid (by rw [HST.out, if_pos hgt])
        go_wp2_with (first | ((with_reducible refine at_ld 72 (.tmp 6) ?_); refine ld_sp rfl _ rfl w3.heap.size (0) rfl t ?_ ?_ ?_; exact HTL.out; exact HS4.out.r) | ((with_reducible refine at_st 72 (.tmp 4) (.tmp 32) ?_); refine st_sp rfl _ _ rfl B 0 rfl t ?_ rfl ?_ ?_; exact HTL.out; exact HBB4.out.t))
        have hn := HBB4.out.set HTL.out
        have htt : Touch (fun k => k = B) w4 (w4.setCells B 0 (sv t)) := Touch.setCells (S := fun k => k = B) (Touch.refl _ w4) B (.inl rfl) (sv t) 0 w4 (Touch.refl _ _)
        have HN := Lib.hid (And.intro hn (And.intro (HB4.out.trans (htt.below HB4.out.size (fun k e => by have := HBE.out; omega))) (htt.there HR4.out (fun e => by have := HBE.out; omega))))
        clear hn htt cg cb hgt
        go_roundg (2 - (i + 1))
        case measure => omega
        case rel => exact ⟨i + 1, by omega, by omega, by go_num, by rw [HSTT.out]; exact HN⟩
      · have HSTT : Hid (beT firm loose (i + 1) = b) := Lib.hid (by rw [HST.out, if_neg hgt])
        go_wp2_with fail
        clear cg cb hgt
        go_roundg (2 - (i + 1))
        case measure => omega
        case rel => exact ⟨i + 1, by omega, by omega, by go_num, Lib.hid ⟨by rw [HSTT.out]; exact HBB4.out, HB4.out, HR4.out⟩⟩
    · have hlz : ¬ (i : Int) < 2 := by omega
      obtain rfl : i = 2 := by omega
      obtain ⟨b, hb⟩ : ∃ q, q = beT firm loose 2 := ⟨_, rfl⟩
      rw [← hb] at HI HBF HRS
      have HBL := Lib.hid HBF.out.l
      clear hb
      have cg := HI.out.1.gen
      by_cases hz : b.g = 0
      · have hzb : (b.g == 0) = true := by simpa using hz
        have HR0 := Lib.hid (show bestP firm loose = sup0 ∧ bestC firm loose = 4 from ⟨by rw [HRS.out.1, if_pos hz], by rw [HRS.out.2, if_pos hz]⟩)
        clear hz
        go_wp2_with fail
        refine (Tag_err _ 4 _).mono ?_
        rintro e w5 ⟨v, rfl, he, hb⟩
        have HB5 := Lib.hid (HI.out.2.1.trans (hb.mono HI.out.2.1.size))
        have hzr : w.heap.size < wr.heap.size := Nat.lt_trans HBE.out HI.out.1.lt
        have HR5 := Lib.hid (there_under HI.out.2.2 hb hzr)
        have HZR := Lib.hid hzr
        clear hb hzr cg
        obtain ⟨ty, xx, rfl⟩ := he.iface (by decide)
        have HE := Lib.hid he
        clear he
        go_wp2_with (first | ((with_reducible refine at_st 72 (.tmp 2) (.tmp 37) ?_); refine st_sp rfl _ _ rfl w.heap.size 0 rfl sup0 ?_ rfl ?_ ?_; exact sup0_l; exact HR5.out))
        have hld := run_loadVar_mid (P := Tryd.prog) (w5.setCells w.heap.size 0 (sv sup0)) w.heap.size 0 72 (sv sup0) _ (World.rangeAt_setCells_same w5 _ _ _ (by rw [sv_length sup0_l]; exact HR5.out)) Tryd.underlying72 rfl (szof_sp sup0_l)
        refine bodyPost_ret (v := .tuple #[.agg (sv sup0).toArray, .iface ty xx]) (results_pg Tryd.results51 _ _ _ _ _ rfl rfl hld) rfl ⟨_, by rw [HR0.out.1], ?_, HB5.out.trans (setCells_below _ _ _ _ _ (Nat.le_refl _))⟩
        rw [HR0.out.2]
        exact (err_touch (HE.out.mono (Nat.le_refl _)) (Touch.setCells (S := fun k => k = w.heap.size) (Touch.refl _ w5) w.heap.size (.inl rfl) (sv sup0) 0 w5 (Touch.refl _ _)) (fun k hk hs => by have := HZR.out; omega)).mono (Nat.le_of_lt HZR.out)
      · have hzb : (b.g == 0) = false := by simpa using hz
        have HR0 := Lib.hid (show bestP firm loose = b ∧ bestC firm loose = 0 from ⟨by rw [HRS.out.1, if_neg hz], by rw [HRS.out.2, if_neg hz]⟩)
        clear hz
        go_wp2_with (first | ((with_reducible refine at_ld 72 (.tmp 4) ?_); refine ld_sp rfl _ rfl B (0) rfl b ?_ ?_ ?_; exact HBL.out; exact HI.out.1.r) | ((with_reducible refine at_st 72 (.tmp 2) (.tmp 40) ?_); refine st_sp rfl _ _ rfl w.heap.size 0 rfl b ?_ rfl ?_ ?_; exact HBL.out; exact HI.out.2.2))
        have hld := run_loadVar_mid (P := Tryd.prog) (wr.setCells w.heap.size 0 (sv b)) w.heap.size 0 72 (sv b) _ (World.rangeAt_setCells_same wr _ _ _ (by rw [sv_length HBL.out]; exact HI.out.2.2)) Tryd.underlying72 rfl (szof_sp HBL.out)
        refine bodyPost_ret (v := .tuple #[.agg (sv b).toArray, .nilIface]) (results_pg Tryd.results51 _ _ _ _ _ rfl rfl hld) rfl ⟨_, by rw [HR0.out.1], by rw [HR0.out.2]; exact ErrC.nil _ _, HI.out.2.1.trans (setCells_below _ _ _ _ _ (Nat.le_refl _))⟩
theorem best_m {w : World} {S : Bs} {D : Nat} {firm : List Pg} {loose : Ls} (hd : Dsk w S D firm loose false) (hls : loose.length ≤ 1000000) : Calls Tryd.prog 51 #[.pointer (some ⟨D, 0, none⟩)] w fun e w' => ∃ v, e = .returned (.tuple #[.agg (sv (bestP firm loose)).toArray, v]) ∧ ErrC w.heap.size w' v (bestC firm loose) ∧ Below w.heap.size w w' := by
  by_cases h : firm.length < 3
  · have e1 : bestP firm loose = sup0 := by unfold bestP; rw [if_pos (.inl h)]
    have e2 : bestC firm loose = 1 := by unfold bestC; rw [if_pos h]
    rw [e1, e2]
    exact best_small hd hls h
  · exact best_big hd hls h
end Go.Proofs.YtmnkgcgmbdkjaaaDoor
namespace Go.Proofs.YtmnkgcgmbdkjaaaDoor
open Go.RowKit Go.Extern.Stop Go.Stop Go.Extern Go.Proofs.YtmnkgcgmbdkjaaaDoorW.PrintWords Go.Proofs.YtmnkgcgmbdkjaaaDoorW.PrintLast Go.Proofs.YtmnkgcgmbdkjaaaDoorW.PrintMore Go.Proofs.YtmnkgcgmbdkjaaaDoor.PSuperPlays
set_option linter.unusedVariables false
set_option linter.unusedSimpArgs false
set_option maxHeartbeats 4000000 in
set_option maxRecDepth 100000 in
theorem best_down {w : World} {S : Bs} {D : Nat} {firm : List Pg} {loose : Ls} (hd : Dsk w S D firm loose true) (hls : loose.length ≤ 1000000) (h : ¬ firm.length < 3) : Calls Tryd.prog 51 #[.pointer (some ⟨D, 0, none⟩)] w fun e w' => ∃ v, e = .returned (.tuple #[.agg (sv sup0).toArray, v]) ∧ ErrC w.heap.size w' v 7 ∧ Below w.heap.size w w' := by
  have HD := Lib.hid hd
  have hlt : ¬ (firm.length : Int) < 3 := by omega
  have HLS := Lib.hid hls
  clear hd hls h
  have hbz := build_sp0
  have hb1 : Below w.heap.size w (w.alloc (.cells (sv sup0).toArray 72)) := (Below.refl _ _).alloc (Nat.le_refl _) _
  have hr1 : (w.alloc (.cells (sv sup0).toArray 72)).there w.heap.size 0 32 := there_new _ _ _ 32 (by rw [ssz]; exact Nat.le_refl _)
  have hz1 : w.heap.size < (w.alloc (.cells (sv sup0).toArray 72)).heap.size := by simp
  go_enter Tryd.func51, Tryd.ntmps51
  go_upto_region 1 with (first | ((with_reducible refine at_al 72 ?_); refine al_sp rfl rfl ?_))
  obtain ⟨w1, hw1⟩ : ∃ q, q = w.alloc (.cells (sv sup0).toArray 72) := ⟨_, rfl⟩
  rw [← hw1] at hb1 hr1 hz1 ⊢
  clear hw1
  have HB1 := Lib.hid hb1
  have HR1 := Lib.hid hr1
  have HZ1 := Lib.hid hz1
  have HD1 := Lib.hid (HD.out.under hb1)
  clear hb1 hr1 hz1
  go_wp2_with fail
  refine (size_m HD1.out).mono ?_
  rintro e _ ⟨rfl, rfl⟩
  have hs2 := SupAt.new w1 72 sup0 sup0_l
  have hb2 : Below w1.heap.size w1 (w1.alloc (.cells (sv sup0).toArray 72)) := (Below.refl _ _).alloc (Nat.le_refl _) _
  go_upto_region 4 with (first | ((with_reducible refine at_al 72 ?_); refine al_sp rfl rfl ?_))
  obtain ⟨w2, hw2⟩ : ∃ q, q = w1.alloc (.cells (sv sup0).toArray 72) := ⟨_, rfl⟩
  rw [← hw2] at hs2 hb2 ⊢
  clear hw2
  have HS2 := Lib.hid hs2
  have HD2 := Lib.hid (HD1.out.under hb2)
  have HB2 := Lib.hid (HB1.out.trans (hb2.mono HB1.out.size))
  have HR2 := Lib.hid (there_under HR1.out hb2 HZ1.out)
  obtain ⟨B, hBe⟩ : ∃ q, q = w1.heap.size := ⟨_, rfl⟩
  rw [← hBe] at hs2 HS2 ⊢
  have HBE := Lib.hid (show w.heap.size < B by rw [hBe]; exact HZ1.out)
  clear hs2 hb2 hBe
  go_wp2_with fail
  go_loopg [14] 2 (fun gg s14 wr => s14 = .int .i64 0 ∧ Hid (wr = w2))
  case atStart => exact ⟨rfl, Lib.hid rfl⟩
  case round =>
    obtain ⟨rfl, HI⟩ := hrel
    obtain rfl := HI.out
    go_wp2_with fail
    refine (at_down 0 HD2.out HLS.out).mono ?_
    rintro e w3 ⟨v, rfl, he, hb⟩
    have HB3 := Lib.hid (HB2.out.trans (hb.mono HB2.out.size))
    have hz2 : w.heap.size < wr.heap.size := Nat.lt_trans HBE.out HS2.out.lt
    have HR3 := Lib.hid (there_under HR2.out hb hz2)
    have hbz3 := hb.size
    clear hb
    have hz3 : w.heap.size < w3.heap.size := Nat.lt_of_lt_of_le hz2 hbz3
    obtain ⟨ty, xx, rfl⟩ := he.iface (by decide)
    have hb4 : Below w3.heap.size w3 (w3.alloc (.cells (sv sup0).toArray 72)) := (Below.refl _ _).alloc (Nat.le_refl _) _
    have he4 := he.under hb4
    clear he hbz3
    go_upto_region 8 with (first | ((with_reducible refine at_al 72 ?_); refine al_sp rfl rfl ?_) | ((with_reducible refine at_st 72 (.tmp 6) (.tmp 21) ?_); refine stn_sp rfl _ _ rfl _ _ _ rfl rfl sup0 ?_ rfl ?_ ?_; exact sup0_l; exact ssz))
    obtain ⟨w4, hw4⟩ : ∃ q, q = w3.alloc (.cells (sv sup0).toArray 72) := ⟨_, rfl⟩
    rw [← hw4] at hb4 he4 ⊢
    clear hw4
    have HE := Lib.hid he4
    have HB4 := Lib.hid (HB3.out.trans (hb4.mono HB3.out.size))
    have HR4 := Lib.hid (there_under HR3.out hb4 hz3)
    have HZ2 := Lib.hid hz2
    clear he4 hb4 hz2 hz3
    go_wp2_with (first | ((with_reducible refine at_st 72 (.tmp 2) (.tmp 25) ?_); refine st_sp rfl _ _ rfl w.heap.size 0 rfl sup0 ?_ rfl ?_ ?_; exact sup0_l; exact HR4.out))
    have hld := run_loadVar_mid (P := Tryd.prog) (w4.setCells w.heap.size 0 (sv sup0)) w.heap.size 0 72 (sv sup0) _ (World.rangeAt_setCells_same w4 _ _ _ (by rw [sv_length sup0_l]; exact HR4.out)) Tryd.underlying72 rfl (szof_sp sup0_l)
    refine bodyPost_ret (v := .tuple #[.agg (sv sup0).toArray, .iface ty xx]) (results_pg Tryd.results51 _ _ _ _ _ rfl rfl hld) rfl ⟨_, rfl, ?_, HB4.out.trans (setCells_below _ _ _ _ _ (Nat.le_refl _))⟩
    exact (err_touch (HE.out.mono (Nat.le_refl _)) (Touch.setCells (S := fun k => k = w.heap.size) (Touch.refl _ w4) w.heap.size (.inl rfl) (sv sup0) 0 w4 (Touch.refl _ _)) (fun k hk hs => by have := HZ2.out; omega)).mono (Nat.le_of_lt HZ2.out)
set_option maxHeartbeats 2000000 in
set_option maxRecDepth 100000 in
theorem switch_bad (s : Sup) (hf : s.Fits) (hr : rightB s = false) (dv : Value) (w : World) : Calls Tryd.prog 50 #[dv, .agg (sv s).toArray] w fun e w' => ∃ v, e = .returned v ∧ ErrC w.heap.size w' v 1 ∧ Below w.heap.size w w' := by
  have HSL := Lib.hid hf.l
  have HLY := Lib.hid (fun w => slay_any s hf w)
  have e1 : slayC s = 1 := by unfold slayC; rw [hr]; rfl
  rw [e1] at HLY
  clear hf hr e1
  have hb1 : Below w.heap.size w (w.alloc (.cells (sv s).toArray 72)) := (Below.refl _ _).alloc (Nat.le_refl _) _
  have hs1 := SupAt.new w 72 s HSL.out
  go_enter Tryd.func50, Tryd.ntmps50
  go_upto_region 1 with fail
  obtain ⟨w1, hw1⟩ : ∃ q, q = w.alloc (.cells (sv s).toArray 72) := ⟨_, rfl⟩
  rw [← hw1] at hb1 hs1 ⊢
  clear hw1
  have HS1 := Lib.hid hs1
  have HB1 := Lib.hid hb1
  clear hs1 hb1
  go_wp2_with (first | ((with_reducible refine at_ld 72 (.tmp 3) ?_); refine ld_sp rfl _ rfl w.heap.size (0) rfl s ?_ ?_ ?_; exact HSL.out; exact HS1.out.r))
  refine (HLY.out _).mono ?_
  rintro e w2 ⟨v, rfl, he, hb⟩
  obtain ⟨ty, xx, rfl⟩ := he.iface (by decide)
  have HE := Lib.hid he
  have HB2 := Lib.hid (HB1.out.trans (hb.mono HB1.out.size))
  clear he hb
  go_wp2_with fail
  go_ret
  exact ⟨_, rfl, HE.out.mono HB1.out.size, HB2.out⟩
/-- what is firm behind a switch -/
def swF (firm : List Pg) (loose : Ls) (s : Sup) : List Pg := flushP (flushP firm loose) [(s.g % 2, framP 1 (layU s))]
theorem swF_length (firm : List Pg) (loose : Ls) (s : Sup) : (swF firm loose s).length = firm.length := by unfold swF; rw [flushP_length, flushP_length]
set_option maxHeartbeats 4000000 in
set_option maxRecDepth 100000 in
theorem switch_ok {w : World} {S : Bs} {D : Nat} {firm : List Pg} {loose : Ls} (s : Sup) (hf : s.Fits) (hr : rightB s = true) (hd : Dsk w S D firm loose false) (hls : loose.length ≤ 1000000) (h2 : 2 ≤ firm.length) :
    Calls Tryd.prog 50 #[.pointer (some ⟨D, 0, none⟩), .agg (sv s).toArray] w fun e w' => ∃ S', e = .returned .nilIface ∧ Dsk w' S' D (swF firm loose s) [] false ∧ Mv S S' w w' := by
  have HSL := Lib.hid hf.l
  have HLY := Lib.hid (fun w => slay_ok s hf hr w)
  have HFR := Lib.hid (show frC 1 (layU s) = 0 from frC_zero.2 ⟨⟨by omega, by omega⟩, by rw [layU_size hf hr]; omega⟩)
  have hg0 := hf.g0
  have hg1 := hf.g1
  have HMY := Lib.hid (show mayC false (flushP firm loose).length (s.g % 2) = 0 by unfold mayC; rw [if_neg (by decide), flushP_length, if_pos (by omega)])
  have htm : s.g.tmod 2 = s.g % 2 := Int.tmod_eq_emod_of_nonneg hg0
  have hw1 : IntKind.i64.wrap (s.g % 2) = s.g % 2 := IntWalk.i64_in _ (by omega)
  have HDD := Lib.hid hd
  have HLS := Lib.hid hls
  have WI0 := Lib.hid hd.wi
  have HM0 := Lib.hid (Mv.refl S w)
  clear hd hls hf hr h2
  have hb1 : Below w.heap.size w (w.alloc (.cells (sv s).toArray 72)) := (Below.refl _ _).alloc (Nat.le_refl _) _
  have hsx := Stays.boxS (s := s) (t := 72) HSL.out WI0.out (rfl : w.alloc (.cells (sv s).toArray 72) = w.alloc (.cells (sv s).toArray 72))
  go_enter Tryd.func50, Tryd.ntmps50
  go_upto_region 1 with fail
  obtain ⟨w1, hw1⟩ : ∃ q, q = w.alloc (.cells (sv s).toArray 72) := ⟨_, rfl⟩
  rw [← hw1] at hb1 hsx ⊢
  clear hw1
  have hbm := hb1
  have hm : Mv S S w w1 := Mv.of_below hb1
  clear hb1
  have HM_1 := Lib.hid (HM0.out.trans hm)
  clear HM0
  have WI_1 := Lib.hid (WI0.out.mono hm.size)
  clear WI0
  have HD_1 := Lib.hid (HDD.out.under hbm)
  clear HDD
  clear hm
  clear hbm
  have X_2 := Lib.hid (hsx)
  clear hsx
  go_wp2_with (first | ((with_reducible refine at_ld 72 (.tmp 3) ?_); refine ld_sp rfl _ rfl w.heap.size (0) rfl s ?_ ?_ ?_; exact HSL.out; exact (X_2.out.now).r))
  refine (HLY.out _).mono ?_
  rintro e w2 ⟨rfl, hb⟩
  have hbm : Below w1.heap.size w1 w2 := hb
  clear hb
  have hm : Mv S S w1 w2 := Mv.of_below hbm
  have X_3 := Lib.hid (X_2.out.step hm)
  clear X_2
  have HM_3 := Lib.hid (HM_1.out.trans hm)
  clear HM_1
  have WI_3 := Lib.hid (WI_1.out.mono hm.size)
  clear WI_1
  have HD_3 := Lib.hid (HD_1.out.under hbm)
  clear HD_1
  clear hm
  clear hbm
  go_wp2_with fail
  refine (flush_ok HD_3.out HLS.out).mono ?_
  rintro e w3 ⟨S2, rfl, hd, hm⟩
  have X_4 := Lib.hid (X_3.out.step hm)
  clear X_3
  have HM_4 := Lib.hid (HM_3.out.trans hm)
  clear HM_3
  have WI_4 := Lib.hid (hd.wi)
  clear WI_3
  have HD_4 := Lib.hid (hd)
  clear HD_3
  clear hm
  clear hd
  have cg := (X_4.out.now).gen
  go_wp2_with fail
  refine (store_ok (s.g % 2) 1 (layU s) HFR.out HD_4.out (by simp) HMY.out).mono ?_
  rintro e w4 ⟨S3, rfl, hd, hm⟩
  clear cg
  have X_5 := Lib.hid (X_4.out.step hm)
  clear X_4
  have HM_5 := Lib.hid (HM_4.out.trans hm)
  clear HM_4
  have WI_5 := Lib.hid (hd.wi)
  clear WI_4
  have HD_5 := Lib.hid (hd)
  clear HD_4
  clear hm
  clear hd
  go_wp2_with fail
  refine (flush_ok HD_5.out (by simp)).mono ?_
  rintro e w5 ⟨S4, rfl, hd, hm⟩
  have X_6 := Lib.hid (X_5.out.step hm)
  clear X_5
  have HM_6 := Lib.hid (HM_5.out.trans hm)
  clear HM_5
  have WI_6 := Lib.hid (hd.wi)
  clear WI_5
  have HD_6 := Lib.hid (hd)
  clear HD_5
  clear hm
  clear hd
  go_wp2_with fail
  go_ret
  exact ⟨_, rfl, HD_6.out, HM_6.out⟩
end Go.Proofs.YtmnkgcgmbdkjaaaDoor
namespace Go.Proofs.YtmnkgcgmbdkjaaaDoor
open Go.RowKit Go.Extern.Stop Go.Stop Go.Extern Go.Proofs.YtmnkgcgmbdkjaaaDoorW.PrintWords Go.Proofs.YtmnkgcgmbdkjaaaDoorW.PrintLast Go.Proofs.YtmnkgcgmbdkjaaaDoorW.PrintMore Go.Proofs.YtmnkgcgmbdkjaaaDoor.PSuperPlays
set_option linter.unusedVariables false
set_option linter.unusedSimpArgs false

def supE (a b : Sup) : Bool := (a.g == b.g) && ((a.r == b.r) && (a.u == b.u))
theorem supE_iff {a b : Sup} : supE a b = true ↔ a = b := by
  unfold supE
  rw [Bool.and_eq_true, Bool.and_eq_true, beq_iff_eq, beq_iff_eq, beq_iff_eq]
  constructor
  · rintro ⟨h1, h2, h3⟩
    cases a; cases b; simp at h1 h2 h3; subst h1; subst h2; subst h3; rfl
  · rintro rfl; exact ⟨rfl, rfl, rfl⟩
theorem supE_self (a : Sup) : supE a a = true := supE_iff.2 rfl
theorem supE_ne {a b : Sup} (h : a ≠ b) : supE a b = false := by
  cases e : supE a b
  · rfl
  · exact absurd (supE_iff.1 e) h
theorem flds_rp : ∃ f0 f1 f2 : Field, (Tryd.prog.fieldsOf 68).toList = [f0, f1, f2] ∧ (f0.name ≠ "_" ∧ f0.type = 37 ∧ f0.offset = 0) ∧ (f1.name ≠ "_" ∧ f1.type = 3 ∧ f1.offset = 1) ∧ (f2.name ≠ "_" ∧ f2.type = 66 ∧ f2.offset = 2) :=
  by
  have h : ((Tryd.prog.fieldsOf 68).toList.map fun f => (f.name == "_", f.type, f.offset)) = [(false, 37, 0), (false, 3, 1), (false, 66, 2)] := by kernel_rfl
  generalize (Tryd.prog.fieldsOf 68).toList = l at h
  have hl : l.length = 3 := by have := congrArg List.length h; simpa using this
  match l, hl, h with
  | [f0, f1, f2], _, h =>
    simp only [List.map_cons, List.map_nil, List.cons.injEq, Prod.mk.injEq, beq_eq_false_iff_ne, and_true] at h
    exact ⟨f0, f1, f2, rfl, h.1, h.2.1, h.2.2⟩
theorem part_g (s : Sup) (w : World) : (part 37 (sv s).toArray 0).run Tryd.prog w = .ok (.int .u32 s.g) w := by
  have hag : ∀ w, (isAgg 37).run Tryd.prog w = .ok false w := fun w => by kernel_rfl
  simp [Go.part, hag, sv]
theorem part_r (s : Sup) (w : World) : (part 3 (sv s).toArray 1).run Tryd.prog w = .ok (.int .i64 s.r) w := by
  have hag : ∀ w, (isAgg 3).run Tryd.prog w = .ok false w := fun w => by kernel_rfl
  simp [Go.part, hag, sv]
theorem part_u (s : Sup) (hs : s.u.length = 30) (w : World) : (part 66 (sv s).toArray 2).run Tryd.prog w = .ok (.agg (pv s.u).toArray) w := by
  have hag : ∀ w, (isAgg 66).run Tryd.prog w = .ok true w := fun w => by kernel_rfl
  have hsz : ∀ w, (sizeOf 66).run Tryd.prog w = .ok 30 w := fun w => by kernel_rfl
  have e : (sv s).toArray.extract 2 (2 + 30) = (pv s.u).toArray := by
    apply Array.toList_inj.1
    have hl : (pv s.u).length = 30 := by rw [pv_length, hs]
    rw [Array.toList_extract]
    show ((sv s).take (2 + 30)).drop 2 = _
    rw [List.take_of_length_le (by rw [sv_length hs]; omega)]
    rfl
  simp only [Go.part, Sem.run_bind, hag, hsz, Result.andThen_ok, if_true, Sem.run_pure, e]
theorem eql_rp (a b : Sup) (ha : a.u.length = 30) (hb : b.u.length = 30) (w : World) : (binOp .eql 68 (.agg (sv a).toArray) (.agg (sv b).toArray)).run Tryd.prog w = .ok (.bool (supE a b)) w := by
  obtain ⟨f0, f1, f2, hf, ⟨n0, t0, o0⟩, ⟨n1, t1, o1⟩, ⟨n2, t2, o2⟩⟩ := flds_rp
  have h1 := run_equalIn_struct (P := Tryd.prog) w 9999 68 (sv a).toArray (sv b).toArray (by kernel_rfl) (by kernel_rfl)
  have hg : (Op.equalIn 9999 37 (.int .u32 a.g) (.int .u32 b.g)).run Tryd.prog w = .ok (a.g == b.g) w := run_equalIn_int (P := Tryd.prog) w 9998 37 .u32 .u32 a.g b.g (by kernel_rfl)
  have hr : (Op.equalIn 9999 3 (.int .i64 a.r) (.int .i64 b.r)).run Tryd.prog w = .ok (a.r == b.r) w := run_equalIn_int (P := Tryd.prog) w 9998 3 .i64 .i64 a.r b.r (by kernel_rfl)
  have hu : (Op.equalIn 9999 66 (.agg (pv a.u).toArray) (.agg (pv b.u).toArray)).run Tryd.prog w = .ok (a.u == b.u) w := run_equalIn_bytes w 9997 66 5 30 Tryd.underlying66 Tryd.underlying5 sizeOf_u8 a.u b.u ha hb
  rw [run_eql_struct, h1, hf]
  unfold supE
  simp only [Op.eqFields, n0, n1, n2, t0, t1, t2, o0, o1, o2, ne_eq, not_false_eq_true, if_true, Sem.run_bind, part_g, part_r, part_u a ha, part_u b hb, Result.andThen_ok, hg, hr, hu]
  cases a.g == b.g
  · simp
  · cases hrr : a.r == b.r
    · rw [hrr] at hr; simp [hr, part_r]
    · rw [hrr] at hr; cases huu : a.u == b.u <;> rw [huu] at hu <;> simp [hr, hu, part_u a ha, part_u b hb, part_r]
section
variable {ops : Array Oper} {rest : List Oper} {op : Oper} {a : Act} {w : World} {Q : Exit → Act → World → Prop}
theorem eqw_rp (hw : Region.wanted op (yielded ops a.tmps) = true) (x y : Operand) (ho : op.op = .binOp .eql 68 x y 68) (p q : Sup) (hx : a.eval x = .agg (sv p).toArray) (hy : a.eval y = .agg (sv q).toArray) (hp : p.u.length = 30) (hq : q.u.length = 30)
    (h : wpList Tryd.prog ops Q rest (a.put op.dst (.bool (supE p q))) w) : wpList Tryd.prog ops Q (op :: rest) a w := by
  refine wpList_want hw fun K hK => ?_
  unfold Oper.wp execOp
  have he := eql_rp p q hp hq w
  have hgq := run_eqGuard_agg (P := Tryd.prog) w .eql 68 x y (sv p).toArray (sv q).toArray (by kernel_rfl)
  simp only [ho, hx, hy, Sem.run_bind, Sem.run_pure, Result.andThen_ok, he, hgq]
  exact hK _ _ h
theorem yif_eq_rp {S : World → Prop} (hw : Region.wanted op (yielded ops a.tmps) = true) (x y : Operand) (ho : op.op = .binOp .eql 68 x y 68) (p q : Sup) (hx : a.eval x = .agg (sv p).toArray) (hy : a.eval y = .agg (sv q).toArray) (hp : p.u.length = 30) (hq : q.u.length = 30) : YieldsIf Tryd.prog ops S op (.bool (supE p q)) a :=
  .inl ⟨hw, fun w _ => by
    unfold execOp
    have he := eql_rp p q hp hq w
    have hgq := run_eqGuard_agg (P := Tryd.prog) w .eql 68 x y (sv p).toArray (sv q).toArray (by kernel_rfl)
    simp only [ho, hx, hy, Sem.run_bind, Sem.run_pure, Result.andThen_ok, he, hgq]⟩
end
/-! ### what counts, plain -/
theorem atP_zero (firm : List Pg) (loose : Ls) (i : Int) (h : readP firm loose i = zp) : atP firm loose i = sup0 := by
  unfold atP
  rw [if_neg]
  unfold ldD
  split
  · rename_i g; exact g
  · rw [h]; unfold ldC; rw [if_pos (by rw [rd_zero]; decide), rd_zero]; decide
theorem atP_frame (firm : List Pg) (loose : Ls) (i : Int) (s : Sup) (hf : s.Fits) (hr : rightB s = true) (hi : 0 ≤ i ∧ i < firm.length) (h : readP firm loose i = framP 1 (layU s)) : atP firm loose i = s := by
  have hfr : frC 1 (layU s) = 0 := frC_zero.2 ⟨⟨by omega, by omega⟩, by rw [layU_size hf hr]; omega⟩
  have hm : mayC false firm.length i = 0 := by unfold mayC; rw [if_neg (by decide), if_pos hi]
  have e : ldD firm loose false i 1 = 0 := by
    unfold ldD; rw [if_neg (fun q => q hm), h]; unfold ldC
    rw [if_neg (by rw [rd_lay 1 _ hfr]; decide), if_neg (by rw [framP_kind 1 _ (by omega) (by omega)]; decide)]
  have e2 : ldS firm loose false i 1 = layU s := by
    unfold ldS; rw [if_pos e, h, framP_data 1 _ (by rw [layU_size hf hr]; omega)]
  unfold atP; rw [if_pos e, e2, readU_lay hf hr]
/-- a switch is read -/
theorem swF_read (firm : List Pg) (loose : Ls) (s : Sup) (i : Nat) (hi : i < firm.length) (hl : ∀ x ∈ loose, 0 ≤ x.1 ∧ x.1 < firm.length) (hg : 0 ≤ s.g) (h2 : 2 ≤ firm.length) : readP (swF firm loose s) [] (i : Int) = if s.g % 2 = (i : Int) then framP 1 (layU s) else readP firm loose (i : Int) := by
  show (swF firm loose s).getD (i : Int).toNat zp = _
  rw [Int.toNat_natCast]
  unfold swF
  rw [flush_read _ _ i (by rw [flushP_length]; exact hi) (fun x hx => by
    obtain rfl := List.mem_singleton.1 hx
    rw [flushP_length]; show 0 ≤ s.g % 2 ∧ s.g % 2 < firm.length; omega)]
  rw [show ([(s.g % 2, framP 1 (layU s))] : Ls) = [] ++ [(s.g % 2, framP 1 (layU s))] from rfl, readP_snoc]
  by_cases h : s.g % 2 = (i : Int)
  · rw [if_pos h, if_pos h]
  · rw [if_neg h, if_neg h]
    show (flushP firm loose).getD (i : Int).toNat zp = _
    rw [Int.toNat_natCast, flush_read _ _ i hi hl]
theorem beT_two (firm : List Pg) (loose : Ls) : beT firm loose 2 = if (if 0 < (atP firm loose 0).g then atP firm loose 0 else sup0).g < (atP firm loose 1).g then atP firm loose 1 else if 0 < (atP firm loose 0).g then atP firm loose 0 else sup0 := rfl
end Go.Proofs.YtmnkgcgmbdkjaaaDoor
namespace Go.Proofs.YtmnkgcgmbdkjaaaDoor
open Go.RowKit Go.Extern.Stop Go.Stop Go.Extern Go.Proofs.YtmnkgcgmbdkjaaaDoorW.PrintWords Go.Proofs.YtmnkgcgmbdkjaaaDoorW.PrintLast Go.Proofs.YtmnkgcgmbdkjaaaDoorW.PrintMore Go.Proofs.YtmnkgcgmbdkjaaaDoor.PSuperPlays
set_option linter.unusedVariables false
set_option linter.unusedSimpArgs false
def s5 : Sup := ⟨5, 0, List.replicate 30 0⟩
theorem s5_fits : s5.Fits := ⟨List.length_replicate, by decide, by decide⟩
theorem s5_right : rightB s5 = true := by decide
theorem build_s5 (w : World) : (Instr.build 72 #[(0, .int .u32 5)]).run Tryd.prog w = .ok (.agg (sv s5).toArray) w := by kernel_rfl
theorem read_rep (n : Nat) (i : Int) : readP (List.replicate n zp) [] i = zp := by
  show (List.replicate n zp).getD i.toNat zp = zp
  rw [List.getD_eq_getElem?_getD, List.getElem?_replicate]
  split <;> rfl
theorem best_new (n : Nat) (h : 3 ≤ n) : bestP (List.replicate n zp) [] = sup0 ∧ bestC (List.replicate n zp) [] = 4 := by
  have e0 := atP_zero (List.replicate n zp) [] 0 (read_rep n 0)
  have e1 := atP_zero (List.replicate n zp) [] 1 (read_rep n 1)
  have e2 : beT (List.replicate n zp) [] 2 = sup0 := by rw [beT_two, e0, e1]; rfl
  unfold bestP bestC
  rw [e2, List.length_replicate]
  exact ⟨by rw [if_pos (.inr rfl)], by rw [if_neg (by omega), if_pos (show sup0.g = 0 from rfl)]⟩
/-- behind a switch of a greater generation that one counts -/
theorem best_switch (firm : List Pg) (loose : Ls) (s : Sup) (hf : s.Fits) (hr : rightB s = true) (h3 : 3 ≤ firm.length) (hl : ∀ x ∈ loose, 0 ≤ x.1 ∧ x.1 < firm.length) (hg : ∀ i : Int, (i = 0 ∨ i = 1) → i ≠ s.g % 2 → (atP firm loose i).g < s.g) : bestP (swF firm loose s) [] = s ∧ bestC (swF firm loose s) [] = 0 := by
  have hgp := right_gen hr
  have hn := swF_length firm loose s
  have hr0 := swF_read firm loose s 0 (by omega) hl hf.g0 (by omega)
  have hr1 := swF_read firm loose s 1 (by omega) hl hf.g0 (by omega)
  have key : ∀ i : Nat, i < firm.length → s.g % 2 ≠ (i : Int) → atP (swF firm loose s) [] (i : Int) = atP firm loose (i : Int) := fun i hi hne => by
    have h := swF_read firm loose s i hi hl hf.g0 (by omega)
    rw [if_neg hne] at h
    have hm : mayC false (swF firm loose s).length (i : Int) = mayC false firm.length (i : Int) := by rw [hn]
    unfold atP ldS ldD
    rw [h, hm]
  have e2 : beT (swF firm loose s) [] 2 = s := by
    rw [beT_two]
    by_cases hp : s.g % 2 = 0
    · have a0 := atP_frame (swF firm loose s) [] 0 s hf hr (by omega) (by rw [if_pos (show s.g % 2 = ((0 : Nat) : Int) from hp)] at hr0; exact hr0)
      have a1 := key 1 (by omega) (by omega)
      have h1 := hg 1 (.inr rfl) (by omega)
      rw [a0, if_pos hgp]
      have a1' : atP (swF firm loose s) [] 1 = atP firm loose 1 := a1
      rw [a1', if_neg (by omega)]
    · have hp1 : s.g % 2 = 1 := by omega
      have a1 := atP_frame (swF firm loose s) [] 1 s hf hr (by omega) (by rw [if_pos (show s.g % 2 = ((1 : Nat) : Int) from hp1)] at hr1; exact hr1)
      have a0 := key 0 (by omega) (by omega)
      have a0' : atP (swF firm loose s) [] 0 = atP firm loose 0 := a0
      have h0 := hg 0 (.inl rfl) (by omega)
      rw [a1, a0']
      have hx : (if 0 < (atP firm loose 0).g then atP firm loose 0 else sup0).g < s.g := by
        split
        · exact h0
        · exact hgp
      rw [if_pos hx]
  unfold bestP bestC
  rw [e2, hn]
  exact ⟨by rw [if_neg (by omega)], by rw [if_neg (by omega), if_neg (by omega)]⟩
theorem aw_best : bestP (swF (List.replicate 4 zp) [] s5) [] = s5 ∧ bestC (swF (List.replicate 4 zp) [] s5) [] = 0 :=
  best_switch _ _ s5 s5_fits s5_right (by simp) (fun x hx => by cases hx) (fun i _ _ => by rw [atP_zero _ _ i (read_rep 4 i)]; decide)
set_option maxHeartbeats 4000000 in
set_option maxRecDepth 100000 in
theorem awake7 (w : World) (tied : Tied w) : Calls Tryd.prog 41 #[] w fun e w' => e = .returned (.bool true) ∧ Below w.heap.size w w' := by
  have hb5 := build_s5
  have HM0 := Lib.hid (Mv.refl No w)
  have T0 := Lib.hid (Stays.tied tied)
  have WI0 := Lib.hid (Wi.no w)
  clear tied
  go_enter Tryd.func41, Tryd.ntmps41
  go_wp2_with fail
  refine (new_m 4 _ (by decide) (by decide)).mono ?_
  rintro e w1 ⟨D, S1, rfl, hd, hb, hm⟩
  clear hb
  have T_1 := Lib.hid (T0.out.step hm)
  clear T0
  have HM_1 := Lib.hid (HM0.out.trans hm)
  clear HM0
  have WI_1 := Lib.hid (hd.wi)
  clear WI0
  have HD_1 := Lib.hid (hd)
  clear hm
  clear hd
  go_wp2_with fail
  have HBC := Lib.hid (best_m HD_1.out (by simp))
  rw [(best_new 4 (by decide)).1, (best_new 4 (by decide)).2] at HBC
  refine (HBC.out).mono ?_
  rintro e w2 ⟨v1, rfl, he, hb⟩
  have hbm : Below w1.heap.size w1 w2 := hb
  clear hb
  have hm : Mv S1 S1 w1 w2 := Mv.of_below hbm
  have hst := Stays.err he WI_1.out
  clear he
  have T_2 := Lib.hid (T_1.out.step hm)
  clear T_1
  have HM_2 := Lib.hid (HM_1.out.trans hm)
  clear HM_1
  have WI_2 := Lib.hid (WI_1.out.mono hm.size)
  clear WI_1
  have HD_2 := Lib.hid (HD_1.out.under hbm)
  clear HD_1
  clear hm
  clear hbm
  have E1_3 := Lib.hid (hst)
  clear hst
  clear HBC
  go_wp2_with (first | ((with_reducible refine at_al 72 ?_); refine al_sp rfl rfl ?_) | ((with_reducible refine at_st 72 (.tmp 3) (.tmp 15) ?_); refine stn_sp rfl _ _ rfl _ _ _ rfl rfl sup0 ?_ rfl ?_ ?_; exact sup0_l; exact ssz))
  obtain ⟨w3, hw3⟩ : ∃ q, q = w2.alloc (.cells (sv (sup0)).toArray 72) := ⟨_, rfl⟩
  try rw [← hw3]
  have hbm : Below w2.heap.size w2 w3 := by rw [hw3]; exact (Below.refl _ _).alloc (Nat.le_refl _) _
  have hm : Mv S1 S1 w2 w3 := Mv.of_below hbm
  have hbx : Stays S1 w3 (fun W => SupAt W w2.heap.size (sup0)) := Stays.boxS sup0_l WI_2.out hw3
  have hsz3 : w3.heap.size = w2.heap.size + 1 := by rw [hw3]; simp
  obtain ⟨BX, hBX⟩ : ∃ q, q = w2.heap.size := ⟨_, rfl⟩
  try rw [← hBX]
  rw [← hBX] at hbx hsz3
  have T_4 := Lib.hid (T_2.out.step hm)
  clear T_2
  have E1_4 := Lib.hid (E1_3.out.step hm)
  clear E1_3
  have HM_4 := Lib.hid (HM_2.out.trans hm)
  clear HM_2
  have WI_4 := Lib.hid (WI_2.out.mono hm.size)
  clear WI_2
  have HD_4 := Lib.hid (HD_2.out.under hbm)
  clear HD_2
  clear hm
  clear hbm hw3 hBX
  have X_5 := Lib.hid (hbx)
  clear hbx
  clear hsz3
  clear X_5
  refine (switch_ok s5 s5_fits s5_right HD_4.out (by simp) (by simp)).mono ?_
  rintro e w4 ⟨S2, rfl, hd, hm⟩
  have T_6 := Lib.hid (T_4.out.step hm)
  clear T_4
  have E1_6 := Lib.hid (E1_4.out.step hm)
  clear E1_4
  have HM_6 := Lib.hid (HM_4.out.trans hm)
  clear HM_4
  have WI_6 := Lib.hid (hd.wi)
  clear WI_4
  have HD_6 := Lib.hid (hd)
  clear HD_4
  clear hm
  clear hd
  go_wp2_with fail
  have HBC := Lib.hid (best_m HD_6.out (by simp))
  rw [aw_best.1, aw_best.2] at HBC
  refine (HBC.out).mono ?_
  rintro e w5 ⟨v2, rfl, he, hb⟩
  have hbm : Below w4.heap.size w4 w5 := hb
  clear hb
  have hm : Mv S2 S2 w4 w5 := Mv.of_below hbm
  have T_7 := Lib.hid (T_6.out.step hm)
  clear T_6
  have E1_7 := Lib.hid (E1_6.out.step hm)
  clear E1_6
  have HM_7 := Lib.hid (HM_6.out.trans hm)
  clear HM_6
  have WI_7 := Lib.hid (WI_6.out.mono hm.size)
  clear WI_6
  have HD_7 := Lib.hid (HD_6.out.under hbm)
  clear HD_6
  clear hm
  clear hbm
  obtain rfl := ErrC.zero he
  clear he HBC
  go_wp2_with (first | ((with_reducible refine at_al 72 ?_); refine al_sp rfl rfl ?_) | ((with_reducible refine at_st 72 (.tmp 6) (.tmp 23) ?_); refine stn_sp rfl _ _ rfl _ _ _ rfl rfl s5 ?_ rfl ?_ ?_; exact s5_fits.l; exact ssz))
  obtain ⟨w6, hw6⟩ : ∃ q, q = w5.alloc (.cells (sv (s5)).toArray 72) := ⟨_, rfl⟩
  try rw [← hw6]
  have hbm : Below w5.heap.size w5 w6 := by rw [hw6]; exact (Below.refl _ _).alloc (Nat.le_refl _) _
  have hm : Mv S2 S2 w5 w6 := Mv.of_below hbm
  have hbx : Stays S2 w6 (fun W => SupAt W w5.heap.size (s5)) := Stays.boxS s5_fits.l WI_7.out hw6
  have hsz6 : w6.heap.size = w5.heap.size + 1 := by rw [hw6]; simp
  obtain ⟨BY, hBY⟩ : ∃ q, q = w5.heap.size := ⟨_, rfl⟩
  try rw [← hBY]
  rw [← hBY] at hbx hsz6
  have T_8 := Lib.hid (T_7.out.step hm)
  clear T_7
  have E1_8 := Lib.hid (E1_7.out.step hm)
  clear E1_7
  have HM_8 := Lib.hid (HM_7.out.trans hm)
  clear HM_7
  have WI_8 := Lib.hid (WI_7.out.mono hm.size)
  clear WI_7
  have HD_8 := Lib.hid (HD_7.out.under hbm)
  clear HD_7
  clear hm
  clear hbm hw6 hBY
  have Y_9 := Lib.hid (hbx)
  clear hbx
  clear hsz6
  refine (Num_nil w6).mono ?_
  rintro e _ ⟨rfl, rfl⟩
  go_wp2_with fail
  refine (Num_c _ v1 4 E1_8.out.now T_8.out.now).mono ?_
  rintro e w7 ⟨rfl, hb⟩
  have hbm : Below w6.heap.size w6 w7 := hb
  clear hb
  have hm : Mv S2 S2 w6 w7 := Mv.of_below hbm
  have T_10 := Lib.hid (T_8.out.step hm)
  clear T_8
  have E1_10 := Lib.hid (E1_8.out.step hm)
  clear E1_8
  have Y_10 := Lib.hid (Y_9.out.step hm)
  clear Y_9
  have HM_10 := Lib.hid (HM_8.out.trans hm)
  clear HM_8
  have WI_10 := Lib.hid (WI_8.out.mono hm.size)
  clear WI_8
  have HD_10 := Lib.hid (HD_8.out.under hbm)
  clear HD_8
  clear hm
  clear hbm
  go_wp2_with fail
  refine (Num_nil w7).mono ?_
  rintro e _ ⟨rfl, rfl⟩
  go_wp2_with fail
  refine (Num_nil w7).mono ?_
  rintro e _ ⟨rfl, rfl⟩
  have cg := (Y_10.out.now).gen
  rw [show s5.g = 5 from rfl] at cg
  go_wp2_with fail
  go_ret
  exact ⟨rfl, HM_10.out.below⟩
set_option maxHeartbeats 4000000 in
set_option maxRecDepth 100000 in
theorem sunlike_a (a b : Sup) (ha : a.Fits) (hb : b.Fits) (h1 : rightB a = false)  (w : World) (tied : Tied w) : Calls Tryd.prog 12 #[.agg (sv a).toArray, .agg (sv b).toArray] w fun e w' => e = .returned (.bool true) ∧ Below w.heap.size w w' := by
  have HAL := Lib.hid ha.l
  have HBL := Lib.hid hb.l
  have HRA := Lib.hid (fun w => rright_any a ha.l ha.g0 w)
  have HRB := Lib.hid (fun w => rright_any b hb.l hb.g0 w)
  rw [h1] at HRA
  clear ha hb h1
  have HM0 := Lib.hid (Mv.refl No w)
  have T0 := Lib.hid (Stays.tied tied)
  have WI0 := Lib.hid (Wi.no w)
  clear tied
  go_enter Tryd.func12, Tryd.ntmps12
  go_upto_region 1 with fail
  obtain ⟨w1, hw1⟩ : ∃ q, q = w.alloc (.cells (sv (a)).toArray 68) := ⟨_, rfl⟩
  try rw [← hw1]
  have hbm : Below w.heap.size w w1 := by rw [hw1]; exact (Below.refl _ _).alloc (Nat.le_refl _) _
  have hm : Mv No No w w1 := Mv.of_below hbm
  have hbx : Stays No w1 (fun W => SupAt W w.heap.size (a)) := Stays.boxS HAL.out WI0.out hw1
  have hsz1 : w1.heap.size = w.heap.size + 1 := by rw [hw1]; simp
  obtain ⟨BA, hBA⟩ : ∃ q, q = w.heap.size := ⟨_, rfl⟩
  try rw [← hBA]
  rw [← hBA] at hbx hsz1
  have T_1 := Lib.hid (T0.out.step hm)
  clear T0
  have HM_1 := Lib.hid (HM0.out.trans hm)
  clear HM0
  have WI_1 := Lib.hid (WI0.out.mono hm.size)
  clear WI0
  clear hm
  clear hbm hw1 hBA
  have A_2 := Lib.hid (hbx)
  clear hbx
  obtain ⟨w2, hw2⟩ : ∃ q, q = w1.alloc (.cells (sv (b)).toArray 68) := ⟨_, rfl⟩
  try rw [← hw2]
  have hbm : Below w1.heap.size w1 w2 := by rw [hw2]; exact (Below.refl _ _).alloc (Nat.le_refl _) _
  have hm : Mv No No w1 w2 := Mv.of_below hbm
  have hbx : Stays No w2 (fun W => SupAt W w1.heap.size (b)) := Stays.boxS HBL.out WI_1.out hw2
  have hsz2 : w2.heap.size = w1.heap.size + 1 := by rw [hw2]; simp
  try rw [← hsz1]
  clear hsz1
  obtain ⟨BB, hBB⟩ : ∃ q, q = w1.heap.size := ⟨_, rfl⟩
  try rw [← hBB]
  rw [← hBB] at hbx hsz2
  have T_3 := Lib.hid (T_1.out.step hm)
  clear T_1
  have A_3 := Lib.hid (A_2.out.step hm)
  clear A_2
  have HM_3 := Lib.hid (HM_1.out.trans hm)
  clear HM_1
  have WI_3 := Lib.hid (WI_1.out.mono hm.size)
  clear WI_1
  clear hm
  clear hbm hw2 hBB
  have B_4 := Lib.hid (hbx)
  clear hbx
  clear hsz2
  go_wp2_with fail
  refine (awake7 _ T_3.out.now).mono ?_
  rintro e w3 ⟨rfl, hb⟩
  have hbm : Below w2.heap.size w2 w3 := hb
  clear hb
  have hm : Mv No No w2 w3 := Mv.of_below hbm
  have T_5 := Lib.hid (T_3.out.step hm)
  clear T_3
  have A_5 := Lib.hid (A_3.out.step hm)
  clear A_3
  have B_5 := Lib.hid (B_4.out.step hm)
  clear B_4
  have HM_5 := Lib.hid (HM_3.out.trans hm)
  clear HM_3
  have WI_5 := Lib.hid (WI_3.out.mono hm.size)
  clear WI_3
  clear hm
  clear hbm
  go_wp2_with (first | ((with_reducible refine at_ld 68 (.tmp 2) ?_); refine ldw_rp (by first | rfl | go_simp) (.tmp 2) rfl BA (0) rfl a ?_ ?_ ?_; exact HAL.out; exact (A_5.out.now).r))
  refine (HRA.out _).mono ?_
  rintro e w4 ⟨rfl, hb⟩
  have hbm : Below w3.heap.size w3 w4 := hb
  clear hb
  have hm : Mv No No w3 w4 := Mv.of_below hbm
  have T_6 := Lib.hid (T_5.out.step hm)
  clear T_5
  have A_6 := Lib.hid (A_5.out.step hm)
  clear A_5
  have B_6 := Lib.hid (B_5.out.step hm)
  clear B_5
  have HM_6 := Lib.hid (HM_5.out.trans hm)
  clear HM_5
  have WI_6 := Lib.hid (WI_5.out.mono hm.size)
  clear WI_5
  clear hm
  clear hbm
  go_wp2_with fail
  refine (awake7 _ T_6.out.now).mono ?_
  rintro e w5 ⟨rfl, hb⟩
  have hbm : Below w4.heap.size w4 w5 := hb
  clear hb
  have hm : Mv No No w4 w5 := Mv.of_below hbm
  have T_7 := Lib.hid (T_6.out.step hm)
  clear T_6
  have A_7 := Lib.hid (A_6.out.step hm)
  clear A_6
  have B_7 := Lib.hid (B_6.out.step hm)
  clear B_6
  have HM_7 := Lib.hid (HM_6.out.trans hm)
  clear HM_6
  have WI_7 := Lib.hid (WI_6.out.mono hm.size)
  clear WI_6
  clear hm
  clear hbm
  go_wp2_with fail
  go_ret
  exact ⟨rfl, HM_7.out.below⟩
set_option maxHeartbeats 4000000 in
set_option maxRecDepth 100000 in
theorem sunlike_b (a b : Sup) (ha : a.Fits) (hb : b.Fits) (h1 : rightB a = true) (h2 : rightB b = false)  (w : World) (tied : Tied w) : Calls Tryd.prog 12 #[.agg (sv a).toArray, .agg (sv b).toArray] w fun e w' => e = .returned (.bool true) ∧ Below w.heap.size w w' := by
  have HAL := Lib.hid ha.l
  have HBL := Lib.hid hb.l
  have HRA := Lib.hid (fun w => rright_any a ha.l ha.g0 w)
  have HRB := Lib.hid (fun w => rright_any b hb.l hb.g0 w)
  rw [h1] at HRA
  rw [h2] at HRB
  clear ha hb h1 h2
  have HM0 := Lib.hid (Mv.refl No w)
  have T0 := Lib.hid (Stays.tied tied)
  have WI0 := Lib.hid (Wi.no w)
  clear tied
  go_enter Tryd.func12, Tryd.ntmps12
  go_upto_region 1 with fail
  obtain ⟨w1, hw1⟩ : ∃ q, q = w.alloc (.cells (sv (a)).toArray 68) := ⟨_, rfl⟩
  try rw [← hw1]
  have hbm : Below w.heap.size w w1 := by rw [hw1]; exact (Below.refl _ _).alloc (Nat.le_refl _) _
  have hm : Mv No No w w1 := Mv.of_below hbm
  have hbx : Stays No w1 (fun W => SupAt W w.heap.size (a)) := Stays.boxS HAL.out WI0.out hw1
  have hsz1 : w1.heap.size = w.heap.size + 1 := by rw [hw1]; simp
  obtain ⟨BA, hBA⟩ : ∃ q, q = w.heap.size := ⟨_, rfl⟩
  try rw [← hBA]
  rw [← hBA] at hbx hsz1
  have T_1 := Lib.hid (T0.out.step hm)
  clear T0
  have HM_1 := Lib.hid (HM0.out.trans hm)
  clear HM0
  have WI_1 := Lib.hid (WI0.out.mono hm.size)
  clear WI0
  clear hm
  clear hbm hw1 hBA
  have A_2 := Lib.hid (hbx)
  clear hbx
  obtain ⟨w2, hw2⟩ : ∃ q, q = w1.alloc (.cells (sv (b)).toArray 68) := ⟨_, rfl⟩
  try rw [← hw2]
  have hbm : Below w1.heap.size w1 w2 := by rw [hw2]; exact (Below.refl _ _).alloc (Nat.le_refl _) _
  have hm : Mv No No w1 w2 := Mv.of_below hbm
  have hbx : Stays No w2 (fun W => SupAt W w1.heap.size (b)) := Stays.boxS HBL.out WI_1.out hw2
  have hsz2 : w2.heap.size = w1.heap.size + 1 := by rw [hw2]; simp
  try rw [← hsz1]
  clear hsz1
  obtain ⟨BB, hBB⟩ : ∃ q, q = w1.heap.size := ⟨_, rfl⟩
  try rw [← hBB]
  rw [← hBB] at hbx hsz2
  have T_3 := Lib.hid (T_1.out.step hm)
  clear T_1
  have A_3 := Lib.hid (A_2.out.step hm)
  clear A_2
  have HM_3 := Lib.hid (HM_1.out.trans hm)
  clear HM_1
  have WI_3 := Lib.hid (WI_1.out.mono hm.size)
  clear WI_1
  clear hm
  clear hbm hw2 hBB
  have B_4 := Lib.hid (hbx)
  clear hbx
  clear hsz2
  go_wp2_with fail
  refine (awake7 _ T_3.out.now).mono ?_
  rintro e w3 ⟨rfl, hb⟩
  have hbm : Below w2.heap.size w2 w3 := hb
  clear hb
  have hm : Mv No No w2 w3 := Mv.of_below hbm
  have T_5 := Lib.hid (T_3.out.step hm)
  clear T_3
  have A_5 := Lib.hid (A_3.out.step hm)
  clear A_3
  have B_5 := Lib.hid (B_4.out.step hm)
  clear B_4
  have HM_5 := Lib.hid (HM_3.out.trans hm)
  clear HM_3
  have WI_5 := Lib.hid (WI_3.out.mono hm.size)
  clear WI_3
  clear hm
  clear hbm
  go_wp2_with (first | ((with_reducible refine at_ld 68 (.tmp 2) ?_); refine ldw_rp (by first | rfl | go_simp) (.tmp 2) rfl BA (0) rfl a ?_ ?_ ?_; exact HAL.out; exact (A_5.out.now).r))
  refine (HRA.out _).mono ?_
  rintro e w4 ⟨rfl, hb⟩
  have hbm : Below w3.heap.size w3 w4 := hb
  clear hb
  have hm : Mv No No w3 w4 := Mv.of_below hbm
  have T_6 := Lib.hid (T_5.out.step hm)
  clear T_5
  have A_6 := Lib.hid (A_5.out.step hm)
  clear A_5
  have B_6 := Lib.hid (B_5.out.step hm)
  clear B_5
  have HM_6 := Lib.hid (HM_5.out.trans hm)
  clear HM_5
  have WI_6 := Lib.hid (WI_5.out.mono hm.size)
  clear WI_5
  clear hm
  clear hbm
  go_wp2_with (first | ((with_reducible refine at_ld 68 (.tmp 3) ?_); refine ldw_rp (by first | rfl | go_simp) (.tmp 3) rfl BB (0) rfl b ?_ ?_ ?_; exact HBL.out; exact (B_6.out.now).r))
  refine (HRB.out _).mono ?_
  rintro e w5 ⟨rfl, hb⟩
  have hbm : Below w4.heap.size w4 w5 := hb
  clear hb
  have hm : Mv No No w4 w5 := Mv.of_below hbm
  have T_7 := Lib.hid (T_6.out.step hm)
  clear T_6
  have A_7 := Lib.hid (A_6.out.step hm)
  clear A_6
  have B_7 := Lib.hid (B_6.out.step hm)
  clear B_6
  have HM_7 := Lib.hid (HM_6.out.trans hm)
  clear HM_6
  have WI_7 := Lib.hid (WI_6.out.mono hm.size)
  clear WI_6
  clear hm
  clear hbm
  go_wp2_with fail
  refine (awake7 _ T_7.out.now).mono ?_
  rintro e w6 ⟨rfl, hb⟩
  have hbm : Below w5.heap.size w5 w6 := hb
  clear hb
  have hm : Mv No No w5 w6 := Mv.of_below hbm
  have T_8 := Lib.hid (T_7.out.step hm)
  clear T_7
  have A_8 := Lib.hid (A_7.out.step hm)
  clear A_7
  have B_8 := Lib.hid (B_7.out.step hm)
  clear B_7
  have HM_8 := Lib.hid (HM_7.out.trans hm)
  clear HM_7
  have WI_8 := Lib.hid (WI_7.out.mono hm.size)
  clear WI_7
  clear hm
  clear hbm
  go_wp2_with fail
  go_ret
  exact ⟨rfl, HM_8.out.below⟩
set_option maxHeartbeats 4000000 in
set_option maxRecDepth 100000 in
theorem sunlike_ok (a b : Sup) (ha : a.Fits) (hb : b.Fits) (h1 : rightB a = true) (h2 : rightB b = true)  (w : World) (tied : Tied w) : Calls Tryd.prog 12 #[.agg (sv a).toArray, .agg (sv b).toArray] w fun e w' => e = .returned (.bool true) ∧ Below w.heap.size w w' := by
  have HAL := Lib.hid ha.l
  have HBL := Lib.hid hb.l
  have HRA := Lib.hid (fun w => rright_any a ha.l ha.g0 w)
  have HRB := Lib.hid (fun w => rright_any b hb.l hb.g0 w)
  rw [h1] at HRA
  rw [h2] at HRB
  have HLA := Lib.hid (fun w => slay_ok a ha h1 w)
  have HLB := Lib.hid (fun w => slay_ok b hb h2 w)
  have hz := layU_size ha h1
  have hij := layU_inj ha h1 hb h2
  obtain ⟨s, hs⟩ : ∃ q, q = layU a := ⟨_, rfl⟩
  obtain ⟨t, ht⟩ : ∃ q, q = layU b := ⟨_, rfl⟩
  rw [← hs] at HLA hz hij
  rw [← ht] at HLB hij
  clear hs ht
  have HIJ := Lib.hid hij
  clear hij
  clear ha hb h1 h2
  have HM0 := Lib.hid (Mv.refl No w)
  have T0 := Lib.hid (Stays.tied tied)
  have WI0 := Lib.hid (Wi.no w)
  clear tied
  go_enter Tryd.func12, Tryd.ntmps12
  go_upto_region 1 with fail
  obtain ⟨w1, hw1⟩ : ∃ q, q = w.alloc (.cells (sv (a)).toArray 68) := ⟨_, rfl⟩
  try rw [← hw1]
  have hbm : Below w.heap.size w w1 := by rw [hw1]; exact (Below.refl _ _).alloc (Nat.le_refl _) _
  have hm : Mv No No w w1 := Mv.of_below hbm
  have hbx : Stays No w1 (fun W => SupAt W w.heap.size (a)) := Stays.boxS HAL.out WI0.out hw1
  have hsz1 : w1.heap.size = w.heap.size + 1 := by rw [hw1]; simp
  obtain ⟨BA, hBA⟩ : ∃ q, q = w.heap.size := ⟨_, rfl⟩
  try rw [← hBA]
  rw [← hBA] at hbx hsz1
  have T_1 := Lib.hid (T0.out.step hm)
  clear T0
  have HM_1 := Lib.hid (HM0.out.trans hm)
  clear HM0
  have WI_1 := Lib.hid (WI0.out.mono hm.size)
  clear WI0
  clear hm
  clear hbm hw1 hBA
  have A_2 := Lib.hid (hbx)
  clear hbx
  obtain ⟨w2, hw2⟩ : ∃ q, q = w1.alloc (.cells (sv (b)).toArray 68) := ⟨_, rfl⟩
  try rw [← hw2]
  have hbm : Below w1.heap.size w1 w2 := by rw [hw2]; exact (Below.refl _ _).alloc (Nat.le_refl _) _
  have hm : Mv No No w1 w2 := Mv.of_below hbm
  have hbx : Stays No w2 (fun W => SupAt W w1.heap.size (b)) := Stays.boxS HBL.out WI_1.out hw2
  have hsz2 : w2.heap.size = w1.heap.size + 1 := by rw [hw2]; simp
  try rw [← hsz1]
  clear hsz1
  obtain ⟨BB, hBB⟩ : ∃ q, q = w1.heap.size := ⟨_, rfl⟩
  try rw [← hBB]
  rw [← hBB] at hbx hsz2
  have T_3 := Lib.hid (T_1.out.step hm)
  clear T_1
  have A_3 := Lib.hid (A_2.out.step hm)
  clear A_2
  have HM_3 := Lib.hid (HM_1.out.trans hm)
  clear HM_1
  have WI_3 := Lib.hid (WI_1.out.mono hm.size)
  clear WI_1
  clear hm
  clear hbm hw2 hBB
  have B_4 := Lib.hid (hbx)
  clear hbx
  clear hsz2
  go_wp2_with fail
  refine (awake7 _ T_3.out.now).mono ?_
  rintro e w3 ⟨rfl, hb⟩
  have hbm : Below w2.heap.size w2 w3 := hb
  clear hb
  have hm : Mv No No w2 w3 := Mv.of_below hbm
  have T_5 := Lib.hid (T_3.out.step hm)
  clear T_3
  have A_5 := Lib.hid (A_3.out.step hm)
  clear A_3
  have B_5 := Lib.hid (B_4.out.step hm)
  clear B_4
  have HM_5 := Lib.hid (HM_3.out.trans hm)
  clear HM_3
  have WI_5 := Lib.hid (WI_3.out.mono hm.size)
  clear WI_3
  clear hm
  clear hbm
  go_wp2_with (first | ((with_reducible refine at_ld 68 (.tmp 2) ?_); refine ldw_rp (by first | rfl | go_simp) (.tmp 2) rfl BA (0) rfl a ?_ ?_ ?_; exact HAL.out; exact (A_5.out.now).r))
  refine (HRA.out _).mono ?_
  rintro e w4 ⟨rfl, hb⟩
  have hbm : Below w3.heap.size w3 w4 := hb
  clear hb
  have hm : Mv No No w3 w4 := Mv.of_below hbm
  have T_6 := Lib.hid (T_5.out.step hm)
  clear T_5
  have A_6 := Lib.hid (A_5.out.step hm)
  clear A_5
  have B_6 := Lib.hid (B_5.out.step hm)
  clear B_5
  have HM_6 := Lib.hid (HM_5.out.trans hm)
  clear HM_5
  have WI_6 := Lib.hid (WI_5.out.mono hm.size)
  clear WI_5
  clear hm
  clear hbm
  go_wp2_with (first | ((with_reducible refine at_ld 68 (.tmp 3) ?_); refine ldw_rp (by first | rfl | go_simp) (.tmp 3) rfl BB (0) rfl b ?_ ?_ ?_; exact HBL.out; exact (B_6.out.now).r))
  refine (HRB.out _).mono ?_
  rintro e w5 ⟨rfl, hb⟩
  have hbm : Below w4.heap.size w4 w5 := hb
  clear hb
  have hm : Mv No No w4 w5 := Mv.of_below hbm
  have T_7 := Lib.hid (T_6.out.step hm)
  clear T_6
  have A_7 := Lib.hid (A_6.out.step hm)
  clear A_6
  have B_7 := Lib.hid (B_6.out.step hm)
  clear B_6
  have HM_7 := Lib.hid (HM_6.out.trans hm)
  clear HM_6
  have WI_7 := Lib.hid (WI_6.out.mono hm.size)
  clear WI_6
  clear hm
  clear hbm
  go_wp2_with (first | ((with_reducible refine at_ld 68 (.tmp 2) ?_); refine ld_rp rfl _ rfl BA (0) rfl a ?_ ?_ ?_; exact HAL.out; exact (A_7.out.now).r))
  refine (of_any a HAL.out _).mono ?_
  rintro e w6 ⟨rfl, hb⟩
  have hbm : Below w5.heap.size w5 w6 := hb
  clear hb
  have hm : Mv No No w5 w6 := Mv.of_below hbm
  have T_8 := Lib.hid (T_7.out.step hm)
  clear T_7
  have A_8 := Lib.hid (A_7.out.step hm)
  clear A_7
  have B_8 := Lib.hid (B_7.out.step hm)
  clear B_7
  have HM_8 := Lib.hid (HM_7.out.trans hm)
  clear HM_7
  have WI_8 := Lib.hid (WI_7.out.mono hm.size)
  clear WI_7
  clear hm
  clear hbm
  go_wp2_with fail
  refine (HLA.out _).mono ?_
  rintro e w7 ⟨rfl, hb⟩
  have hbm : Below w6.heap.size w6 w7 := hb
  clear hb
  have hm : Mv No No w6 w7 := Mv.of_below hbm
  have T_9 := Lib.hid (T_8.out.step hm)
  clear T_8
  have A_9 := Lib.hid (A_8.out.step hm)
  clear A_8
  have B_9 := Lib.hid (B_8.out.step hm)
  clear B_8
  have HM_9 := Lib.hid (HM_8.out.trans hm)
  clear HM_8
  have WI_9 := Lib.hid (WI_8.out.mono hm.size)
  clear WI_8
  clear hm
  clear hbm
  go_wp2_with (first | ((with_reducible refine at_ld 68 (.tmp 3) ?_); refine ld_rp rfl _ rfl BB (0) rfl b ?_ ?_ ?_; exact HBL.out; exact (B_9.out.now).r))
  refine (of_any b HBL.out _).mono ?_
  rintro e w8 ⟨rfl, hb⟩
  have hbm : Below w7.heap.size w7 w8 := hb
  clear hb
  have hm : Mv No No w7 w8 := Mv.of_below hbm
  have T_10 := Lib.hid (T_9.out.step hm)
  clear T_9
  have A_10 := Lib.hid (A_9.out.step hm)
  clear A_9
  have B_10 := Lib.hid (B_9.out.step hm)
  clear B_9
  have HM_10 := Lib.hid (HM_9.out.trans hm)
  clear HM_9
  have WI_10 := Lib.hid (WI_9.out.mono hm.size)
  clear WI_9
  clear hm
  clear hbm
  go_wp2_with fail
  refine (HLB.out _).mono ?_
  rintro e w9 ⟨rfl, hb⟩
  have hbm : Below w8.heap.size w8 w9 := hb
  clear hb
  have hm : Mv No No w8 w9 := Mv.of_below hbm
  have T_11 := Lib.hid (T_10.out.step hm)
  clear T_10
  have A_11 := Lib.hid (A_10.out.step hm)
  clear A_10
  have B_11 := Lib.hid (B_10.out.step hm)
  clear B_10
  have HM_11 := Lib.hid (HM_10.out.trans hm)
  clear HM_10
  have WI_11 := Lib.hid (WI_10.out.mono hm.size)
  clear WI_10
  clear hm
  clear hbm
  go_wp2_with fail
  refine (Num_nil w9).mono ?_
  rintro e _ ⟨rfl, rfl⟩
  go_wp2_with fail
  refine (Num_nil w9).mono ?_
  rintro e _ ⟨rfl, rfl⟩
  by_cases he : s = t
  · have hst := str_eq he
    have hse : supE a b = true := supE_iff.2 (HIJ.out.1 he)
    clear he
    go_wp2_with (first | ((with_reducible refine at_ld 68 (.tmp 2) ?_); refine ldw_rp (by first | rfl | go_simp) (.tmp 2) rfl BA (0) rfl a ?_ ?_ ?_; exact HAL.out; exact (A_11.out.now).r) | ((with_reducible refine at_ld 68 (.tmp 3) ?_); refine ldw_rp (by first | rfl | go_simp) (.tmp 3) rfl BB (0) rfl b ?_ ?_ ?_; exact HBL.out; exact (B_11.out.now).r) | ((with_reducible refine at_bin .eql 68 (.tmp 46) (.tmp 47) ?_); refine eqw_rp (by first | rfl | go_simp) (.tmp 46) (.tmp 47) rfl a b ?_ ?_ ?_ ?_ ?_; rfl; rfl; exact HAL.out; exact HBL.out))
    go_ret
    exact ⟨rfl, HM_11.out.below⟩
  · have hst := str_ne he
    have hse : supE a b = false := supE_ne (fun k => he (HIJ.out.2 k))
    clear he
    go_wp2_with (first | ((with_reducible refine at_ld 68 (.tmp 2) ?_); refine ldw_rp (by first | rfl | go_simp) (.tmp 2) rfl BA (0) rfl a ?_ ?_ ?_; exact HAL.out; exact (A_11.out.now).r) | ((with_reducible refine at_ld 68 (.tmp 3) ?_); refine ldw_rp (by first | rfl | go_simp) (.tmp 3) rfl BB (0) rfl b ?_ ?_ ?_; exact HBL.out; exact (B_11.out.now).r) | ((with_reducible refine at_bin .eql 68 (.tmp 46) (.tmp 47) ?_); refine eqw_rp (by first | rfl | go_simp) (.tmp 46) (.tmp 47) rfl a b ?_ ?_ ?_ ?_ ?_; rfl; rfl; exact HAL.out; exact HBL.out))
    go_ret
    exact ⟨rfl, HM_11.out.below⟩
theorem sunlike_any (a b : Sup) (ha : a.Fits) (hb : b.Fits) (w : World) (tied : Tied w) : Calls Tryd.prog 12 #[.agg (sv a).toArray, .agg (sv b).toArray] w fun e w' => e = .returned (.bool true) ∧ Below w.heap.size w w' := by
  cases h1 : rightB a
  · exact sunlike_a a b ha hb h1 w tied
  cases h2 : rightB b
  · exact sunlike_b a b ha hb h1 h2 w tied
  · exact sunlike_ok a b ha hb h1 h2 w tied
theorem sunlike_walk (a b : Sup) (w : World) (qa : a.u.length = 30 ∧ 0 ≤ a.g ∧ a.g ≤ 4294967295) (qb : b.u.length = 30 ∧ 0 ≤ b.g ∧ b.g ≤ 4294967295) (tied : Tied w) : Calls Tryd.prog 12 #[.agg (sv a).toArray, .agg (sv b).toArray] w fun e w' => e = .returned (.bool true) ∧ Below w.heap.size w w' :=
  sunlike_any a b ⟨qa.1, qa.2.1, qa.2.2⟩ ⟨qb.1, qb.2.1, qb.2.2⟩ w tied
end Go.Proofs.YtmnkgcgmbdkjaaaDoor
