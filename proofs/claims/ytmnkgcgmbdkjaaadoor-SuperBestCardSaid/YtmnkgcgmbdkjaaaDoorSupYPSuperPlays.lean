/- dynamoref07.Best by contract. -/
import Derived.Test.YtmnkgcgmbdkjaaaDoorHH
namespace Go.Proofs.YtmnkgcgmbdkjaaaDoor
open Go.RowKit Go.Extern.Stop Go.Stop Go.Extern Go.Proofs.YtmnkgcgmbdkjaaaDoorW.PrintWords Go.Proofs.YtmnkgcgmbdkjaaaDoorW.PrintLast Go.Proofs.YtmnkgcgmbdkjaaaDoorW.PrintMore Go.Proofs.YtmnkgcgmbdkjaaaDoor.PSuperPlays
set_option linter.unusedVariables false
set_option linter.unusedSimpArgs false
theorem hdS {S S' : Bs} {w w' : World} {P : World → Prop} (h : Hid (Stays S w P)) (m : Mv S S' w w') : Hid (Stays S' w' P) := Lib.hid (h.out.step m)
theorem hdT {S S' S'' : Bs} {w w1 w2 : World} (h : Hid (Mv S S' w w1)) (k : Mv S' S'' w1 w2) : Hid (Mv S S'' w w2) := Lib.hid (h.out.trans k)
theorem hdW {S T T' : Bs} {w w' : World} (h : Hid (Wi S w)) (m : Mv T T' w w') : Hid (Wi S w') := Lib.hid (h.out.mono m.size)
/-- does a sector have a superblock? -/
def exU (p : Pg) : Bool := okU (rdD p) && (rdC p == 0) && (rdK p == 1)
def rbS (a b : Pg) : Sup := if exU a = true ∧ (exU b = false ∨ (readU (rdD b)).g ≤ (readU (rdD a)).g) then readU (rdD a) else if exU b = true then readU (rdD b) else sup0
def rbB (a b : Pg) : Bool := exU a || exU b
theorem ok_code (p : Pg) (h : okU (rdD p) = true) : rdC p = 0 := by
  cases e : decide (rdC p = 0)
  · have e' : rdC p ≠ 0 := of_decide_eq_false e
    have h2 : rdD p = ⟨#[]⟩ := by unfold rdD; rw [if_neg e']
    rw [h2] at h
    exact absurd h (by decide)
  · exact of_decide_eq_true e
theorem ex_rdD (firm : List Pg) (loose : Ls) (i : Int) (p : Pg) (hi : 0 ≤ i ∧ i < firm.length) (h : readP firm loose i = p) : atP firm loose i = if exU p = true then readU (rdD p) else sup0 := by
  have hm : mayC false firm.length i = 0 := by unfold mayC; rw [if_neg (by decide), if_pos hi]
  have e1 : ldD firm loose false i 1 = ldC p 1 := by unfold ldD; rw [if_neg (fun q => q hm), h]
  unfold atP ldS
  rw [e1, h]
  by_cases hc : rdC p = 0
  · have hd : rdD p = dataP p := by unfold rdD; rw [if_pos hc]
    have hk : rdK p = ((kindP p : Nat) : Int) := by unfold rdK; rw [if_pos hc]
    by_cases hk1 : ((kindP p : Nat) : Int) = 1
    · have e2 : ldC p 1 = 0 := by unfold ldC; rw [if_neg (fun q => q hc), if_neg (fun q => q hk1)]
      have e3 : exU p = okU (dataP p) := by unfold exU; rw [hd, hk, hc, hk1]; simp
      rw [e2, if_pos rfl, if_pos rfl, e3, hd]
      cases ho : okU (dataP p)
      · rw [if_neg (by decide)]; exact readU_bad ho
      · rw [if_pos rfl]
    · have e2 : ldC p 1 = 2 := by unfold ldC; rw [if_neg (fun q => q hc), if_pos hk1]
      have e3 : exU p = false := by unfold exU; rw [hk]; simp [hk1]
      rw [e2, if_neg (by decide), e3, if_neg (by decide)]
  · have e2 : ldC p 1 = rdC p := by unfold ldC; rw [if_pos hc]
    have e3 : exU p = false := by unfold exU; simp [hc]
    rw [e2, if_neg hc, e3, if_neg (by decide)]
theorem rb_best (firm : List Pg) (loose : Ls) (a b : Pg) (h3 : ¬ firm.length < 3) (ha : readP firm loose 0 = a) (hb : readP firm loose 1 = b) : bestP firm loose = rbS a b ∧ (bestC firm loose = if rbB a b = true then 0 else 4) := by
  have e0 := ex_rdD firm loose 0 a (by omega) ha
  have e1 := ex_rdD firm loose 1 b (by omega) hb
  have pos : ∀ p, exU p = true → 0 < (readU (rdD p)).g := fun p h => by
    unfold exU at h
    simp only [Bool.and_eq_true] at h
    exact right_gen (readU_right h.1.1)
  have z : sup0.g = 0 := rfl
  unfold bestP bestC
  rw [beT_two, e0, e1]
  unfold rbS rbB
  cases ea : exU a <;> cases eb : exU b
  · simp [h3, z]
  · have pb := pos b eb
    have nb : ¬ (readU (rdD b)).g = 0 := by omega
    simp [h3, z, pb, nb]
  · have pa := pos a ea
    have na : ¬ (readU (rdD a)).g = 0 := by omega
    have na2 : ¬ (readU (rdD a)).g < 0 := by omega
    simp [h3, z, pa, na, na2]
  · have pa := pos a ea
    have pb := pos b eb
    have na : ¬ (readU (rdD a)).g = 0 := by omega
    have nb : ¬ (readU (rdD b)).g = 0 := by omega
    by_cases hg : (readU (rdD a)).g < (readU (rdD b)).g
    · have hg2 : ¬ (readU (rdD b)).g ≤ (readU (rdD a)).g := by omega
      simp [h3, z, pa, pb, na, nb, hg, hg2]
    · have hg2 : (readU (rdD b)).g ≤ (readU (rdD a)).g := by omega
      simp [h3, z, pa, pb, na, nb, hg, hg2]
set_option maxHeartbeats 4000000 in
set_option maxRecDepth 100000 in
theorem rbest_nn (a b : Pg) (ha : a.length = 128) (hb : b.length = 128) (oa : okU (rdD a) = false) (ob : okU (rdD b) = false) (w : World) : Calls Tryd.prog 52 #[.agg (pv a).toArray, .agg (pv b).toArray] w fun e w' => e = .returned (.tuple #[.agg (sv (rbS a b)).toArray, .bool (rbB a b)]) ∧ Below w.heap.size w w' := by
  have xa : exU a = false := by unfold exU; rw [oa]; rfl
  have xb : exU b = false := by unfold exU; rw [ob]; rfl
  have hres : rbS a b = sup0 ∧ rbB a b = false := by unfold rbS rbB; rw [xa, xb]; simp
  have HAL := Lib.hid ha
  have HBL := Lib.hid hb
  have HRA := Lib.hid (fun w => rread5 a ha w)
  have HRB := Lib.hid (fun w => rread5 b hb w)
  have HSa := Lib.hid (fun w => rread_sup (rdD a) w)
  rw [oa] at HSa
  have hla := (readU_fits (rdD a)).l
  obtain ⟨da, hda⟩ : ∃ q, q = rdD a := ⟨_, rfl⟩
  obtain ⟨qa, hqa⟩ : ∃ q, q = rdK a := ⟨_, rfl⟩
  obtain ⟨ea, hea⟩ : ∃ q, q = rdC a := ⟨_, rfl⟩
  have HSb := Lib.hid (fun w => rread_sup (rdD b) w)
  rw [ob] at HSb
  have hlb := (readU_fits (rdD b)).l
  obtain ⟨db, hdb⟩ : ∃ q, q = rdD b := ⟨_, rfl⟩
  obtain ⟨qb, hqb⟩ : ∃ q, q = rdK b := ⟨_, rfl⟩
  obtain ⟨eb, heb⟩ : ∃ q, q = rdC b := ⟨_, rfl⟩
  rw [← hda, ← hqa, ← hea] at HRA
  rw [← hdb, ← hqb, ← heb] at HRB
  rw [← hda] at HSa hla
  rw [← hdb] at HSb hlb
  have hres1 := hres.1
  have hres2 := hres.2
  obtain ⟨xa2, hxa⟩ : ∃ q, q = readU da := ⟨_, rfl⟩
  obtain ⟨xb2, hxb⟩ : ∃ q, q = readU db := ⟨_, rfl⟩
  rw [← hxa] at HSa hla
  rw [← hxb] at HSb hlb
  have HLA := Lib.hid hla
  have HLB := Lib.hid hlb
  have HRES := Lib.hid (And.intro hres1 hres2)
  clear ha hb hla hlb hres hres1 hres2 hda hdb hqa hqb hea heb hxa hxb xa xb oa ob
  have hbz := build_rp0
  have HM0 := Lib.hid (Mv.refl No w)
  have WI0 := Lib.hid (Wi.no w)
  go_enter Tryd.func52, Tryd.ntmps52
  go_upto_region 1 with (first | ((with_reducible refine at_al 68 ?_); refine al_rp rfl rfl ?_))
  obtain ⟨w1, hw1⟩ : ∃ q, q = w.alloc (.cells (pv (a)).toArray 35) := ⟨_, rfl⟩
  try rw [← hw1]
  have hbm : Below w.heap.size w w1 := by rw [hw1]; exact (Below.refl _ _).alloc (Nat.le_refl _) _
  have hm : Mv No No w w1 := Mv.of_below hbm
  have hbx : Stays No w1 (fun W => PgAt W w.heap.size (a)) := Stays.box HAL.out WI0.out hw1
  have hsz1 : w1.heap.size = w.heap.size + 1 := by rw [hw1]; simp
  obtain ⟨BP, hBP⟩ : ∃ q, q = w.heap.size := ⟨_, rfl⟩
  try rw [← hBP]
  rw [← hBP] at hbx hsz1
  have HM_1 := hdT HM0 hm
  have WI_1 := hdW WI0 hm
  clear HM0 WI0 hm hbm hw1 hBP
  have P_2 := Lib.hid (hbx)
  clear hbx
  obtain ⟨w2, hw2⟩ : ∃ q, q = w1.alloc (.cells (pv (b)).toArray 35) := ⟨_, rfl⟩
  try rw [← hw2]
  have hbm : Below w1.heap.size w1 w2 := by rw [hw2]; exact (Below.refl _ _).alloc (Nat.le_refl _) _
  have hm : Mv No No w1 w2 := Mv.of_below hbm
  have hbx : Stays No w2 (fun W => PgAt W w1.heap.size (b)) := Stays.box HBL.out WI_1.out hw2
  have hsz2 : w2.heap.size = w1.heap.size + 1 := by rw [hw2]; simp
  try rw [← hsz1]
  clear hsz1
  obtain ⟨BQ, hBQ⟩ : ∃ q, q = w1.heap.size := ⟨_, rfl⟩
  try rw [← hBQ]
  rw [← hBQ] at hbx hsz2
  have P_3 := hdS P_2 hm
  have HM_3 := hdT HM_1 hm
  have WI_3 := hdW WI_1 hm
  clear P_2 HM_1 WI_1 hm hbm hw2 hBQ
  have Q_4 := Lib.hid (hbx)
  clear hbx
  obtain ⟨w3, hw3⟩ : ∃ q, q = w2.alloc (.cells (sv (sup0)).toArray 68) := ⟨_, rfl⟩
  try rw [← hw3]
  have hbm : Below w2.heap.size w2 w3 := by rw [hw3]; exact (Below.refl _ _).alloc (Nat.le_refl _) _
  have hm : Mv No No w2 w3 := Mv.of_below hbm
  have hbx : Stays No w3 (fun W => SupAt W w2.heap.size (sup0)) := Stays.boxS sup0_l WI_3.out hw3
  have hsz3 : w3.heap.size = w2.heap.size + 1 := by rw [hw3]; simp
  try rw [← hsz2]
  clear hsz2
  obtain ⟨BR, hBR⟩ : ∃ q, q = w2.heap.size := ⟨_, rfl⟩
  have HBR : Hid (w.heap.size ≤ BR) := Lib.hid (by rw [hBR]; exact HM_3.out.size)
  try rw [← hBR]
  rw [← hBR] at hbx hsz3
  have P_5 := hdS P_3 hm
  have Q_5 := hdS Q_4 hm
  have HM_5 := hdT HM_3 hm
  have WI_5 := hdW WI_3 hm
  clear P_3 Q_4 HM_3 WI_3 hm hbm hw3 hBR
  have R_6 := Lib.hid (hbx)
  clear hbx hsz3
  go_wp2_with (first | ((with_reducible refine at_ld 35 (.tmp 2) ?_); refine ld_pr rfl _ rfl BP (0) rfl a ?_ ?_ ?_; exact HAL.out; exact (P_5.out.now).r))
  refine (HRA.out _).mono ?_
  rintro e w4 ⟨rfl, hb⟩
  have hbm : Below w3.heap.size w3 w4 := hb
  clear hb
  have hm : Mv No No w3 w4 := Mv.of_below hbm
  have P_7 := hdS P_5 hm
  have Q_7 := hdS Q_5 hm
  have R_7 := hdS R_6 hm
  have HM_7 := hdT HM_5 hm
  have WI_7 := hdW WI_5 hm
  clear P_5 Q_5 R_6 HM_5 WI_5 hm hbm
  go_wp2_with (first | ((with_reducible refine at_ld 35 (.tmp 3) ?_); refine ld_pr rfl _ rfl BQ (0) rfl b ?_ ?_ ?_; exact HBL.out; exact (Q_7.out.now).r))
  refine (HRB.out _).mono ?_
  rintro e w5 ⟨rfl, hb⟩
  have hbm : Below w4.heap.size w4 w5 := hb
  clear hb
  have hm : Mv No No w4 w5 := Mv.of_below hbm
  have P_8 := hdS P_7 hm
  have Q_8 := hdS Q_7 hm
  have R_8 := hdS R_7 hm
  have HM_8 := hdT HM_7 hm
  have WI_8 := hdW WI_7 hm
  clear P_7 Q_7 R_7 HM_7 WI_7 hm hbm
  go_wp2_with fail
  refine (HSa.out _).mono ?_
  rintro e w6 ⟨rfl, hb⟩
  have hbm : Below w5.heap.size w5 w6 := hb
  clear hb
  have hm : Mv No No w5 w6 := Mv.of_below hbm
  have P_9 := hdS P_8 hm
  have Q_9 := hdS Q_8 hm
  have R_9 := hdS R_8 hm
  have HM_9 := hdT HM_8 hm
  have WI_9 := hdW WI_8 hm
  clear P_8 Q_8 R_8 HM_8 WI_8 hm hbm
  go_wp2_with (first | ((with_reducible refine at_al 68 ?_); refine al_rp rfl rfl ?_) | ((with_reducible refine at_st 68 (.tmp 12) (.tmp 31) ?_); refine stn_rp rfl _ _ rfl _ _ _ rfl rfl xa2 ?_ rfl ?_ ?_; exact HLA.out; exact ssz))
  obtain ⟨w7, hw7⟩ : ∃ q, q = w6.alloc (.cells (sv (xa2)).toArray 68) := ⟨_, rfl⟩
  try rw [← hw7]
  have hbm : Below w6.heap.size w6 w7 := by rw [hw7]; exact (Below.refl _ _).alloc (Nat.le_refl _) _
  have hm : Mv No No w6 w7 := Mv.of_below hbm
  have hbx : Stays No w7 (fun W => SupAt W w6.heap.size (xa2)) := Stays.boxS HLA.out WI_9.out hw7
  have hsz7 : w7.heap.size = w6.heap.size + 1 := by rw [hw7]; simp
  obtain ⟨BX, hBX⟩ : ∃ q, q = w6.heap.size := ⟨_, rfl⟩
  try rw [← hBX]
  rw [← hBX] at hbx hsz7
  have P_10 := hdS P_9 hm
  have Q_10 := hdS Q_9 hm
  have R_10 := hdS R_9 hm
  have HM_10 := hdT HM_9 hm
  have WI_10 := hdW WI_9 hm
  clear P_9 Q_9 R_9 HM_9 WI_9 hm hbm hw7 hBX
  have X_11 := Lib.hid (hbx)
  clear hbx hsz7
  refine (HSb.out _).mono ?_
  rintro e w8 ⟨rfl, hb⟩
  have hbm : Below w7.heap.size w7 w8 := hb
  clear hb
  have hm : Mv No No w7 w8 := Mv.of_below hbm
  have P_12 := hdS P_10 hm
  have Q_12 := hdS Q_10 hm
  have R_12 := hdS R_10 hm
  have X_12 := hdS X_11 hm
  have HM_12 := hdT HM_10 hm
  have WI_12 := hdW WI_10 hm
  clear P_10 Q_10 R_10 X_11 HM_10 WI_10 hm hbm
  go_upto_region 5 with (first | ((with_reducible refine at_al 68 ?_); refine al_rp rfl rfl ?_) | ((with_reducible refine at_st 68 (.tmp 14) (.tmp 36) ?_); refine stn_rp rfl _ _ rfl _ _ _ rfl rfl xb2 ?_ rfl ?_ ?_; exact HLB.out; exact ssz))
  obtain ⟨w9, hw9⟩ : ∃ q, q = w8.alloc (.cells (sv (xb2)).toArray 68) := ⟨_, rfl⟩
  try rw [← hw9]
  have hbm : Below w8.heap.size w8 w9 := by rw [hw9]; exact (Below.refl _ _).alloc (Nat.le_refl _) _
  have hm : Mv No No w8 w9 := Mv.of_below hbm
  have hbx : Stays No w9 (fun W => SupAt W w8.heap.size (xb2)) := Stays.boxS HLB.out WI_12.out hw9
  have hsz9 : w9.heap.size = w8.heap.size + 1 := by rw [hw9]; simp
  obtain ⟨BY, hBY⟩ : ∃ q, q = w8.heap.size := ⟨_, rfl⟩
  try rw [← hBY]
  rw [← hBY] at hbx hsz9
  have P_13 := hdS P_12 hm
  have Q_13 := hdS Q_12 hm
  have R_13 := hdS R_12 hm
  have X_13 := hdS X_12 hm
  have HM_13 := hdT HM_12 hm
  have WI_13 := hdW WI_12 hm
  clear P_12 Q_12 R_12 X_12 HM_12 WI_12 hm hbm hw9 hBY
  have Y_14 := Lib.hid (hbx)
  clear hbx hsz9
  have htR := (R_13.out.now).t
  have HTR := Lib.hid htR
  clear htR
  go_wp2_with (first | ((with_reducible refine at_st 68 (.tmp 4) (.tmp 71) ?_); refine st_rp rfl _ _ rfl BR 0 rfl sup0 ?_ rfl ?_ ?_; exact sup0_l; exact HTR.out))
  have hld := run_loadVar_mid (P := Tryd.prog) (w9.setCells BR 0 (sv sup0)) BR 0 68 (sv sup0) _ (World.rangeAt_setCells_same w9 _ _ _ (by rw [sv_length sup0_l]; exact HTR.out)) Tryd.underlying68 rfl (szof_rp sup0_l)
  exact bodyPost_ret (v := .tuple #[.agg (sv sup0).toArray, .bool false]) (results_pg Tryd.results52 _ _ _ _ _ rfl rfl hld) rfl ⟨by rw [HRES.out.1, HRES.out.2], HM_13.out.below.trans (setCells_below _ _ _ _ _ HBR.out)⟩
set_option maxHeartbeats 4000000 in
set_option maxRecDepth 100000 in
theorem rbest_nk (a b : Pg) (ha : a.length = 128) (hb : b.length = 128) (oa : okU (rdD a) = false) (ob : okU (rdD b) = true) (kb : (rdK b == 1) = false) (w : World) : Calls Tryd.prog 52 #[.agg (pv a).toArray, .agg (pv b).toArray] w fun e w' => e = .returned (.tuple #[.agg (sv (rbS a b)).toArray, .bool (rbB a b)]) ∧ Below w.heap.size w w' := by
  have xa : exU a = false := by unfold exU; rw [oa]; rfl
  have cb := ok_code b ob
  have xb : exU b = false := by unfold exU; rw [ob, cb, kb]; rfl
  have hres : rbS a b = sup0 ∧ rbB a b = false := by unfold rbS rbB; rw [xa, xb]; simp
  have HAL := Lib.hid ha
  have HBL := Lib.hid hb
  have HRA := Lib.hid (fun w => rread5 a ha w)
  have HRB := Lib.hid (fun w => rread5 b hb w)
  have HSa := Lib.hid (fun w => rread_sup (rdD a) w)
  rw [oa] at HSa
  have hla := (readU_fits (rdD a)).l
  obtain ⟨da, hda⟩ : ∃ q, q = rdD a := ⟨_, rfl⟩
  obtain ⟨qa, hqa⟩ : ∃ q, q = rdK a := ⟨_, rfl⟩
  obtain ⟨ea, hea⟩ : ∃ q, q = rdC a := ⟨_, rfl⟩
  have HSb := Lib.hid (fun w => rread_sup (rdD b) w)
  rw [ob] at HSb
  have hlb := (readU_fits (rdD b)).l
  obtain ⟨db, hdb⟩ : ∃ q, q = rdD b := ⟨_, rfl⟩
  obtain ⟨qb, hqb⟩ : ∃ q, q = rdK b := ⟨_, rfl⟩
  obtain ⟨eb, heb⟩ : ∃ q, q = rdC b := ⟨_, rfl⟩
  rw [← hda, ← hqa, ← hea] at HRA
  rw [← hdb, ← hqb, ← heb] at HRB
  rw [← hda] at HSa hla
  rw [← hdb] at HSb hlb
  rw [← hqb] at kb
  have kb2 : (eb == 0) = true := by rw [heb, cb]; rfl
  have hres1 := hres.1
  have hres2 := hres.2
  obtain ⟨xa2, hxa⟩ : ∃ q, q = readU da := ⟨_, rfl⟩
  obtain ⟨xb2, hxb⟩ : ∃ q, q = readU db := ⟨_, rfl⟩
  rw [← hxa] at HSa hla
  rw [← hxb] at HSb hlb
  have HLA := Lib.hid hla
  have HLB := Lib.hid hlb
  have HRES := Lib.hid (And.intro hres1 hres2)
  clear ha hb hla hlb hres hres1 hres2 hda hdb hqa hqb hea heb hxa hxb xa xb oa ob cb
  have hbz := build_rp0
  have HM0 := Lib.hid (Mv.refl No w)
  have WI0 := Lib.hid (Wi.no w)
  go_enter Tryd.func52, Tryd.ntmps52
  go_upto_region 1 with (first | ((with_reducible refine at_al 68 ?_); refine al_rp rfl rfl ?_))
  obtain ⟨w1, hw1⟩ : ∃ q, q = w.alloc (.cells (pv (a)).toArray 35) := ⟨_, rfl⟩
  try rw [← hw1]
  have hbm : Below w.heap.size w w1 := by rw [hw1]; exact (Below.refl _ _).alloc (Nat.le_refl _) _
  have hm : Mv No No w w1 := Mv.of_below hbm
  have hbx : Stays No w1 (fun W => PgAt W w.heap.size (a)) := Stays.box HAL.out WI0.out hw1
  have hsz1 : w1.heap.size = w.heap.size + 1 := by rw [hw1]; simp
  obtain ⟨BP, hBP⟩ : ∃ q, q = w.heap.size := ⟨_, rfl⟩
  try rw [← hBP]
  rw [← hBP] at hbx hsz1
  have HM_1 := hdT HM0 hm
  have WI_1 := hdW WI0 hm
  clear HM0 WI0 hm hbm hw1 hBP
  have P_2 := Lib.hid (hbx)
  clear hbx
  obtain ⟨w2, hw2⟩ : ∃ q, q = w1.alloc (.cells (pv (b)).toArray 35) := ⟨_, rfl⟩
  try rw [← hw2]
  have hbm : Below w1.heap.size w1 w2 := by rw [hw2]; exact (Below.refl _ _).alloc (Nat.le_refl _) _
  have hm : Mv No No w1 w2 := Mv.of_below hbm
  have hbx : Stays No w2 (fun W => PgAt W w1.heap.size (b)) := Stays.box HBL.out WI_1.out hw2
  have hsz2 : w2.heap.size = w1.heap.size + 1 := by rw [hw2]; simp
  try rw [← hsz1]
  clear hsz1
  obtain ⟨BQ, hBQ⟩ : ∃ q, q = w1.heap.size := ⟨_, rfl⟩
  try rw [← hBQ]
  rw [← hBQ] at hbx hsz2
  have P_3 := hdS P_2 hm
  have HM_3 := hdT HM_1 hm
  have WI_3 := hdW WI_1 hm
  clear P_2 HM_1 WI_1 hm hbm hw2 hBQ
  have Q_4 := Lib.hid (hbx)
  clear hbx
  obtain ⟨w3, hw3⟩ : ∃ q, q = w2.alloc (.cells (sv (sup0)).toArray 68) := ⟨_, rfl⟩
  try rw [← hw3]
  have hbm : Below w2.heap.size w2 w3 := by rw [hw3]; exact (Below.refl _ _).alloc (Nat.le_refl _) _
  have hm : Mv No No w2 w3 := Mv.of_below hbm
  have hbx : Stays No w3 (fun W => SupAt W w2.heap.size (sup0)) := Stays.boxS sup0_l WI_3.out hw3
  have hsz3 : w3.heap.size = w2.heap.size + 1 := by rw [hw3]; simp
  try rw [← hsz2]
  clear hsz2
  obtain ⟨BR, hBR⟩ : ∃ q, q = w2.heap.size := ⟨_, rfl⟩
  have HBR : Hid (w.heap.size ≤ BR) := Lib.hid (by rw [hBR]; exact HM_3.out.size)
  try rw [← hBR]
  rw [← hBR] at hbx hsz3
  have P_5 := hdS P_3 hm
  have Q_5 := hdS Q_4 hm
  have HM_5 := hdT HM_3 hm
  have WI_5 := hdW WI_3 hm
  clear P_3 Q_4 HM_3 WI_3 hm hbm hw3 hBR
  have R_6 := Lib.hid (hbx)
  clear hbx hsz3
  go_wp2_with (first | ((with_reducible refine at_ld 35 (.tmp 2) ?_); refine ld_pr rfl _ rfl BP (0) rfl a ?_ ?_ ?_; exact HAL.out; exact (P_5.out.now).r))
  refine (HRA.out _).mono ?_
  rintro e w4 ⟨rfl, hb⟩
  have hbm : Below w3.heap.size w3 w4 := hb
  clear hb
  have hm : Mv No No w3 w4 := Mv.of_below hbm
  have P_7 := hdS P_5 hm
  have Q_7 := hdS Q_5 hm
  have R_7 := hdS R_6 hm
  have HM_7 := hdT HM_5 hm
  have WI_7 := hdW WI_5 hm
  clear P_5 Q_5 R_6 HM_5 WI_5 hm hbm
  go_wp2_with (first | ((with_reducible refine at_ld 35 (.tmp 3) ?_); refine ld_pr rfl _ rfl BQ (0) rfl b ?_ ?_ ?_; exact HBL.out; exact (Q_7.out.now).r))
  refine (HRB.out _).mono ?_
  rintro e w5 ⟨rfl, hb⟩
  have hbm : Below w4.heap.size w4 w5 := hb
  clear hb
  have hm : Mv No No w4 w5 := Mv.of_below hbm
  have P_8 := hdS P_7 hm
  have Q_8 := hdS Q_7 hm
  have R_8 := hdS R_7 hm
  have HM_8 := hdT HM_7 hm
  have WI_8 := hdW WI_7 hm
  clear P_7 Q_7 R_7 HM_7 WI_7 hm hbm
  go_wp2_with fail
  refine (HSa.out _).mono ?_
  rintro e w6 ⟨rfl, hb⟩
  have hbm : Below w5.heap.size w5 w6 := hb
  clear hb
  have hm : Mv No No w5 w6 := Mv.of_below hbm
  have P_9 := hdS P_8 hm
  have Q_9 := hdS Q_8 hm
  have R_9 := hdS R_8 hm
  have HM_9 := hdT HM_8 hm
  have WI_9 := hdW WI_8 hm
  clear P_8 Q_8 R_8 HM_8 WI_8 hm hbm
  go_wp2_with (first | ((with_reducible refine at_al 68 ?_); refine al_rp rfl rfl ?_) | ((with_reducible refine at_st 68 (.tmp 12) (.tmp 31) ?_); refine stn_rp rfl _ _ rfl _ _ _ rfl rfl xa2 ?_ rfl ?_ ?_; exact HLA.out; exact ssz))
  obtain ⟨w7, hw7⟩ : ∃ q, q = w6.alloc (.cells (sv (xa2)).toArray 68) := ⟨_, rfl⟩
  try rw [← hw7]
  have hbm : Below w6.heap.size w6 w7 := by rw [hw7]; exact (Below.refl _ _).alloc (Nat.le_refl _) _
  have hm : Mv No No w6 w7 := Mv.of_below hbm
  have hbx : Stays No w7 (fun W => SupAt W w6.heap.size (xa2)) := Stays.boxS HLA.out WI_9.out hw7
  have hsz7 : w7.heap.size = w6.heap.size + 1 := by rw [hw7]; simp
  obtain ⟨BX, hBX⟩ : ∃ q, q = w6.heap.size := ⟨_, rfl⟩
  try rw [← hBX]
  rw [← hBX] at hbx hsz7
  have P_10 := hdS P_9 hm
  have Q_10 := hdS Q_9 hm
  have R_10 := hdS R_9 hm
  have HM_10 := hdT HM_9 hm
  have WI_10 := hdW WI_9 hm
  clear P_9 Q_9 R_9 HM_9 WI_9 hm hbm hw7 hBX
  have X_11 := Lib.hid (hbx)
  clear hbx hsz7
  refine (HSb.out _).mono ?_
  rintro e w8 ⟨rfl, hb⟩
  have hbm : Below w7.heap.size w7 w8 := hb
  clear hb
  have hm : Mv No No w7 w8 := Mv.of_below hbm
  have P_12 := hdS P_10 hm
  have Q_12 := hdS Q_10 hm
  have R_12 := hdS R_10 hm
  have X_12 := hdS X_11 hm
  have HM_12 := hdT HM_10 hm
  have WI_12 := hdW WI_10 hm
  clear P_10 Q_10 R_10 X_11 HM_10 WI_10 hm hbm
  go_upto_region 5 with (first | ((with_reducible refine at_al 68 ?_); refine al_rp rfl rfl ?_) | ((with_reducible refine at_st 68 (.tmp 14) (.tmp 36) ?_); refine stn_rp rfl _ _ rfl _ _ _ rfl rfl xb2 ?_ rfl ?_ ?_; exact HLB.out; exact ssz))
  obtain ⟨w9, hw9⟩ : ∃ q, q = w8.alloc (.cells (sv (xb2)).toArray 68) := ⟨_, rfl⟩
  try rw [← hw9]
  have hbm : Below w8.heap.size w8 w9 := by rw [hw9]; exact (Below.refl _ _).alloc (Nat.le_refl _) _
  have hm : Mv No No w8 w9 := Mv.of_below hbm
  have hbx : Stays No w9 (fun W => SupAt W w8.heap.size (xb2)) := Stays.boxS HLB.out WI_12.out hw9
  have hsz9 : w9.heap.size = w8.heap.size + 1 := by rw [hw9]; simp
  obtain ⟨BY, hBY⟩ : ∃ q, q = w8.heap.size := ⟨_, rfl⟩
  try rw [← hBY]
  rw [← hBY] at hbx hsz9
  have P_13 := hdS P_12 hm
  have Q_13 := hdS Q_12 hm
  have R_13 := hdS R_12 hm
  have X_13 := hdS X_12 hm
  have HM_13 := hdT HM_12 hm
  have WI_13 := hdW WI_12 hm
  clear P_12 Q_12 R_12 X_12 HM_12 WI_12 hm hbm hw9 hBY
  have Y_14 := Lib.hid (hbx)
  clear hbx hsz9
  have htR := (R_13.out.now).t
  have HTR := Lib.hid htR
  clear htR
  go_wp2_with (first | ((with_reducible refine at_st 68 (.tmp 4) (.tmp 71) ?_); refine st_rp rfl _ _ rfl BR 0 rfl sup0 ?_ rfl ?_ ?_; exact sup0_l; exact HTR.out))
  have hld := run_loadVar_mid (P := Tryd.prog) (w9.setCells BR 0 (sv sup0)) BR 0 68 (sv sup0) _ (World.rangeAt_setCells_same w9 _ _ _ (by rw [sv_length sup0_l]; exact HTR.out)) Tryd.underlying68 rfl (szof_rp sup0_l)
  exact bodyPost_ret (v := .tuple #[.agg (sv sup0).toArray, .bool false]) (results_pg Tryd.results52 _ _ _ _ _ rfl rfl hld) rfl ⟨by rw [HRES.out.1, HRES.out.2], HM_13.out.below.trans (setCells_below _ _ _ _ _ HBR.out)⟩
set_option maxHeartbeats 4000000 in
set_option maxRecDepth 100000 in
theorem rbest_ny (a b : Pg) (ha : a.length = 128) (hb : b.length = 128) (oa : okU (rdD a) = false) (ob : okU (rdD b) = true) (kb : (rdK b == 1) = true) (w : World) : Calls Tryd.prog 52 #[.agg (pv a).toArray, .agg (pv b).toArray] w fun e w' => e = .returned (.tuple #[.agg (sv (rbS a b)).toArray, .bool (rbB a b)]) ∧ Below w.heap.size w w' := by
  have xa : exU a = false := by unfold exU; rw [oa]; rfl
  have cb := ok_code b ob
  have xb : exU b = true := by unfold exU; rw [ob, cb, kb]; rfl
  have hres : rbS a b = readU (rdD b) ∧ rbB a b = true := by unfold rbS rbB; rw [xa, xb]; simp
  have HAL := Lib.hid ha
  have HBL := Lib.hid hb
  have HRA := Lib.hid (fun w => rread5 a ha w)
  have HRB := Lib.hid (fun w => rread5 b hb w)
  have HSa := Lib.hid (fun w => rread_sup (rdD a) w)
  rw [oa] at HSa
  have hla := (readU_fits (rdD a)).l
  obtain ⟨da, hda⟩ : ∃ q, q = rdD a := ⟨_, rfl⟩
  obtain ⟨qa, hqa⟩ : ∃ q, q = rdK a := ⟨_, rfl⟩
  obtain ⟨ea, hea⟩ : ∃ q, q = rdC a := ⟨_, rfl⟩
  have HSb := Lib.hid (fun w => rread_sup (rdD b) w)
  rw [ob] at HSb
  have hlb := (readU_fits (rdD b)).l
  obtain ⟨db, hdb⟩ : ∃ q, q = rdD b := ⟨_, rfl⟩
  obtain ⟨qb, hqb⟩ : ∃ q, q = rdK b := ⟨_, rfl⟩
  obtain ⟨eb, heb⟩ : ∃ q, q = rdC b := ⟨_, rfl⟩
  rw [← hda, ← hqa, ← hea] at HRA
  rw [← hdb, ← hqb, ← heb] at HRB
  rw [← hda] at HSa hla
  rw [← hdb] at HSb hlb
  rw [← hqb] at kb
  have kb2 : (eb == 0) = true := by rw [heb, cb]; rfl
  have hres1 := hres.1
  have hres2 := hres.2
  rw [← hdb] at hres1
  obtain ⟨xa2, hxa⟩ : ∃ q, q = readU da := ⟨_, rfl⟩
  obtain ⟨xb2, hxb⟩ : ∃ q, q = readU db := ⟨_, rfl⟩
  rw [← hxa] at HSa hla
  rw [← hxb] at HSb hlb
  rw [← hxb] at hres1
  have HLA := Lib.hid hla
  have HLB := Lib.hid hlb
  have HRES := Lib.hid (And.intro hres1 hres2)
  clear ha hb hla hlb hres hres1 hres2 hda hdb hqa hqb hea heb hxa hxb xa xb oa ob cb
  have hbz := build_rp0
  have HM0 := Lib.hid (Mv.refl No w)
  have WI0 := Lib.hid (Wi.no w)
  go_enter Tryd.func52, Tryd.ntmps52
  go_upto_region 1 with (first | ((with_reducible refine at_al 68 ?_); refine al_rp rfl rfl ?_))
  obtain ⟨w1, hw1⟩ : ∃ q, q = w.alloc (.cells (pv (a)).toArray 35) := ⟨_, rfl⟩
  try rw [← hw1]
  have hbm : Below w.heap.size w w1 := by rw [hw1]; exact (Below.refl _ _).alloc (Nat.le_refl _) _
  have hm : Mv No No w w1 := Mv.of_below hbm
  have hbx : Stays No w1 (fun W => PgAt W w.heap.size (a)) := Stays.box HAL.out WI0.out hw1
  have hsz1 : w1.heap.size = w.heap.size + 1 := by rw [hw1]; simp
  obtain ⟨BP, hBP⟩ : ∃ q, q = w.heap.size := ⟨_, rfl⟩
  try rw [← hBP]
  rw [← hBP] at hbx hsz1
  have HM_1 := hdT HM0 hm
  have WI_1 := hdW WI0 hm
  clear HM0 WI0 hm hbm hw1 hBP
  have P_2 := Lib.hid (hbx)
  clear hbx
  obtain ⟨w2, hw2⟩ : ∃ q, q = w1.alloc (.cells (pv (b)).toArray 35) := ⟨_, rfl⟩
  try rw [← hw2]
  have hbm : Below w1.heap.size w1 w2 := by rw [hw2]; exact (Below.refl _ _).alloc (Nat.le_refl _) _
  have hm : Mv No No w1 w2 := Mv.of_below hbm
  have hbx : Stays No w2 (fun W => PgAt W w1.heap.size (b)) := Stays.box HBL.out WI_1.out hw2
  have hsz2 : w2.heap.size = w1.heap.size + 1 := by rw [hw2]; simp
  try rw [← hsz1]
  clear hsz1
  obtain ⟨BQ, hBQ⟩ : ∃ q, q = w1.heap.size := ⟨_, rfl⟩
  try rw [← hBQ]
  rw [← hBQ] at hbx hsz2
  have P_3 := hdS P_2 hm
  have HM_3 := hdT HM_1 hm
  have WI_3 := hdW WI_1 hm
  clear P_2 HM_1 WI_1 hm hbm hw2 hBQ
  have Q_4 := Lib.hid (hbx)
  clear hbx
  obtain ⟨w3, hw3⟩ : ∃ q, q = w2.alloc (.cells (sv (sup0)).toArray 68) := ⟨_, rfl⟩
  try rw [← hw3]
  have hbm : Below w2.heap.size w2 w3 := by rw [hw3]; exact (Below.refl _ _).alloc (Nat.le_refl _) _
  have hm : Mv No No w2 w3 := Mv.of_below hbm
  have hbx : Stays No w3 (fun W => SupAt W w2.heap.size (sup0)) := Stays.boxS sup0_l WI_3.out hw3
  have hsz3 : w3.heap.size = w2.heap.size + 1 := by rw [hw3]; simp
  try rw [← hsz2]
  clear hsz2
  obtain ⟨BR, hBR⟩ : ∃ q, q = w2.heap.size := ⟨_, rfl⟩
  have HBR : Hid (w.heap.size ≤ BR) := Lib.hid (by rw [hBR]; exact HM_3.out.size)
  try rw [← hBR]
  rw [← hBR] at hbx hsz3
  have P_5 := hdS P_3 hm
  have Q_5 := hdS Q_4 hm
  have HM_5 := hdT HM_3 hm
  have WI_5 := hdW WI_3 hm
  clear P_3 Q_4 HM_3 WI_3 hm hbm hw3 hBR
  have R_6 := Lib.hid (hbx)
  clear hbx hsz3
  go_wp2_with (first | ((with_reducible refine at_ld 35 (.tmp 2) ?_); refine ld_pr rfl _ rfl BP (0) rfl a ?_ ?_ ?_; exact HAL.out; exact (P_5.out.now).r))
  refine (HRA.out _).mono ?_
  rintro e w4 ⟨rfl, hb⟩
  have hbm : Below w3.heap.size w3 w4 := hb
  clear hb
  have hm : Mv No No w3 w4 := Mv.of_below hbm
  have P_7 := hdS P_5 hm
  have Q_7 := hdS Q_5 hm
  have R_7 := hdS R_6 hm
  have HM_7 := hdT HM_5 hm
  have WI_7 := hdW WI_5 hm
  clear P_5 Q_5 R_6 HM_5 WI_5 hm hbm
  go_wp2_with (first | ((with_reducible refine at_ld 35 (.tmp 3) ?_); refine ld_pr rfl _ rfl BQ (0) rfl b ?_ ?_ ?_; exact HBL.out; exact (Q_7.out.now).r))
  refine (HRB.out _).mono ?_
  rintro e w5 ⟨rfl, hb⟩
  have hbm : Below w4.heap.size w4 w5 := hb
  clear hb
  have hm : Mv No No w4 w5 := Mv.of_below hbm
  have P_8 := hdS P_7 hm
  have Q_8 := hdS Q_7 hm
  have R_8 := hdS R_7 hm
  have HM_8 := hdT HM_7 hm
  have WI_8 := hdW WI_7 hm
  clear P_7 Q_7 R_7 HM_7 WI_7 hm hbm
  go_wp2_with fail
  refine (HSa.out _).mono ?_
  rintro e w6 ⟨rfl, hb⟩
  have hbm : Below w5.heap.size w5 w6 := hb
  clear hb
  have hm : Mv No No w5 w6 := Mv.of_below hbm
  have P_9 := hdS P_8 hm
  have Q_9 := hdS Q_8 hm
  have R_9 := hdS R_8 hm
  have HM_9 := hdT HM_8 hm
  have WI_9 := hdW WI_8 hm
  clear P_8 Q_8 R_8 HM_8 WI_8 hm hbm
  go_wp2_with (first | ((with_reducible refine at_al 68 ?_); refine al_rp rfl rfl ?_) | ((with_reducible refine at_st 68 (.tmp 12) (.tmp 31) ?_); refine stn_rp rfl _ _ rfl _ _ _ rfl rfl xa2 ?_ rfl ?_ ?_; exact HLA.out; exact ssz))
  obtain ⟨w7, hw7⟩ : ∃ q, q = w6.alloc (.cells (sv (xa2)).toArray 68) := ⟨_, rfl⟩
  try rw [← hw7]
  have hbm : Below w6.heap.size w6 w7 := by rw [hw7]; exact (Below.refl _ _).alloc (Nat.le_refl _) _
  have hm : Mv No No w6 w7 := Mv.of_below hbm
  have hbx : Stays No w7 (fun W => SupAt W w6.heap.size (xa2)) := Stays.boxS HLA.out WI_9.out hw7
  have hsz7 : w7.heap.size = w6.heap.size + 1 := by rw [hw7]; simp
  obtain ⟨BX, hBX⟩ : ∃ q, q = w6.heap.size := ⟨_, rfl⟩
  try rw [← hBX]
  rw [← hBX] at hbx hsz7
  have P_10 := hdS P_9 hm
  have Q_10 := hdS Q_9 hm
  have R_10 := hdS R_9 hm
  have HM_10 := hdT HM_9 hm
  have WI_10 := hdW WI_9 hm
  clear P_9 Q_9 R_9 HM_9 WI_9 hm hbm hw7 hBX
  have X_11 := Lib.hid (hbx)
  clear hbx hsz7
  refine (HSb.out _).mono ?_
  rintro e w8 ⟨rfl, hb⟩
  have hbm : Below w7.heap.size w7 w8 := hb
  clear hb
  have hm : Mv No No w7 w8 := Mv.of_below hbm
  have P_12 := hdS P_10 hm
  have Q_12 := hdS Q_10 hm
  have R_12 := hdS R_10 hm
  have X_12 := hdS X_11 hm
  have HM_12 := hdT HM_10 hm
  have WI_12 := hdW WI_10 hm
  clear P_10 Q_10 R_10 X_11 HM_10 WI_10 hm hbm
  go_upto_region 5 with (first | ((with_reducible refine at_al 68 ?_); refine al_rp rfl rfl ?_) | ((with_reducible refine at_st 68 (.tmp 14) (.tmp 36) ?_); refine stn_rp rfl _ _ rfl _ _ _ rfl rfl xb2 ?_ rfl ?_ ?_; exact HLB.out; exact ssz))
  obtain ⟨w9, hw9⟩ : ∃ q, q = w8.alloc (.cells (sv (xb2)).toArray 68) := ⟨_, rfl⟩
  try rw [← hw9]
  have hbm : Below w8.heap.size w8 w9 := by rw [hw9]; exact (Below.refl _ _).alloc (Nat.le_refl _) _
  have hm : Mv No No w8 w9 := Mv.of_below hbm
  have hbx : Stays No w9 (fun W => SupAt W w8.heap.size (xb2)) := Stays.boxS HLB.out WI_12.out hw9
  have hsz9 : w9.heap.size = w8.heap.size + 1 := by rw [hw9]; simp
  obtain ⟨BY, hBY⟩ : ∃ q, q = w8.heap.size := ⟨_, rfl⟩
  try rw [← hBY]
  rw [← hBY] at hbx hsz9
  have P_13 := hdS P_12 hm
  have Q_13 := hdS Q_12 hm
  have R_13 := hdS R_12 hm
  have X_13 := hdS X_12 hm
  have HM_13 := hdT HM_12 hm
  have WI_13 := hdW WI_12 hm
  clear P_12 Q_12 R_12 X_12 HM_12 WI_12 hm hbm hw9 hBY
  have Y_14 := Lib.hid (hbx)
  clear hbx hsz9
  have htR := (R_13.out.now).t
  have HTR := Lib.hid htR
  clear htR
  go_wp2_with (first | ((with_reducible refine at_ld 68 (.tmp 14) ?_); refine ld_rp rfl _ rfl BY (0) rfl xb2 ?_ ?_ ?_; exact HLB.out; exact (Y_14.out.now).r) | ((with_reducible refine at_st 68 (.tmp 4) (.tmp 70) ?_); refine st_rp rfl _ _ rfl BR 0 rfl xb2 ?_ rfl ?_ ?_; exact HLB.out; exact HTR.out))
  have hld := run_loadVar_mid (P := Tryd.prog) (w9.setCells BR 0 (sv xb2)) BR 0 68 (sv xb2) _ (World.rangeAt_setCells_same w9 _ _ _ (by rw [sv_length HLB.out]; exact HTR.out)) Tryd.underlying68 rfl (szof_rp HLB.out)
  exact bodyPost_ret (v := .tuple #[.agg (sv xb2).toArray, .bool true]) (results_pg Tryd.results52 _ _ _ _ _ rfl rfl hld) rfl ⟨by rw [HRES.out.1, HRES.out.2], HM_13.out.below.trans (setCells_below _ _ _ _ _ HBR.out)⟩
set_option maxHeartbeats 4000000 in
set_option maxRecDepth 100000 in
theorem rbest_kn (a b : Pg) (ha : a.length = 128) (hb : b.length = 128) (oa : okU (rdD a) = true) (ka : (rdK a == 1) = false) (ob : okU (rdD b) = false) (w : World) : Calls Tryd.prog 52 #[.agg (pv a).toArray, .agg (pv b).toArray] w fun e w' => e = .returned (.tuple #[.agg (sv (rbS a b)).toArray, .bool (rbB a b)]) ∧ Below w.heap.size w w' := by
  have ca := ok_code a oa
  have xa : exU a = false := by unfold exU; rw [oa, ca, ka]; rfl
  have xb : exU b = false := by unfold exU; rw [ob]; rfl
  have hres : rbS a b = sup0 ∧ rbB a b = false := by unfold rbS rbB; rw [xa, xb]; simp
  have HAL := Lib.hid ha
  have HBL := Lib.hid hb
  have HRA := Lib.hid (fun w => rread5 a ha w)
  have HRB := Lib.hid (fun w => rread5 b hb w)
  have HSa := Lib.hid (fun w => rread_sup (rdD a) w)
  rw [oa] at HSa
  have hla := (readU_fits (rdD a)).l
  obtain ⟨da, hda⟩ : ∃ q, q = rdD a := ⟨_, rfl⟩
  obtain ⟨qa, hqa⟩ : ∃ q, q = rdK a := ⟨_, rfl⟩
  obtain ⟨ea, hea⟩ : ∃ q, q = rdC a := ⟨_, rfl⟩
  have HSb := Lib.hid (fun w => rread_sup (rdD b) w)
  rw [ob] at HSb
  have hlb := (readU_fits (rdD b)).l
  obtain ⟨db, hdb⟩ : ∃ q, q = rdD b := ⟨_, rfl⟩
  obtain ⟨qb, hqb⟩ : ∃ q, q = rdK b := ⟨_, rfl⟩
  obtain ⟨eb, heb⟩ : ∃ q, q = rdC b := ⟨_, rfl⟩
  rw [← hda, ← hqa, ← hea] at HRA
  rw [← hdb, ← hqb, ← heb] at HRB
  rw [← hda] at HSa hla
  rw [← hdb] at HSb hlb
  rw [← hqa] at ka
  have ka2 : (ea == 0) = true := by rw [hea, ca]; rfl
  have hres1 := hres.1
  have hres2 := hres.2
  obtain ⟨xa2, hxa⟩ : ∃ q, q = readU da := ⟨_, rfl⟩
  obtain ⟨xb2, hxb⟩ : ∃ q, q = readU db := ⟨_, rfl⟩
  rw [← hxa] at HSa hla
  rw [← hxb] at HSb hlb
  have HLA := Lib.hid hla
  have HLB := Lib.hid hlb
  have HRES := Lib.hid (And.intro hres1 hres2)
  clear ha hb hla hlb hres hres1 hres2 hda hdb hqa hqb hea heb hxa hxb xa xb oa ob ca
  have hbz := build_rp0
  have HM0 := Lib.hid (Mv.refl No w)
  have WI0 := Lib.hid (Wi.no w)
  go_enter Tryd.func52, Tryd.ntmps52
  go_upto_region 1 with (first | ((with_reducible refine at_al 68 ?_); refine al_rp rfl rfl ?_))
  obtain ⟨w1, hw1⟩ : ∃ q, q = w.alloc (.cells (pv (a)).toArray 35) := ⟨_, rfl⟩
  try rw [← hw1]
  have hbm : Below w.heap.size w w1 := by rw [hw1]; exact (Below.refl _ _).alloc (Nat.le_refl _) _
  have hm : Mv No No w w1 := Mv.of_below hbm
  have hbx : Stays No w1 (fun W => PgAt W w.heap.size (a)) := Stays.box HAL.out WI0.out hw1
  have hsz1 : w1.heap.size = w.heap.size + 1 := by rw [hw1]; simp
  obtain ⟨BP, hBP⟩ : ∃ q, q = w.heap.size := ⟨_, rfl⟩
  try rw [← hBP]
  rw [← hBP] at hbx hsz1
  have HM_1 := hdT HM0 hm
  have WI_1 := hdW WI0 hm
  clear HM0 WI0 hm hbm hw1 hBP
  have P_2 := Lib.hid (hbx)
  clear hbx
  obtain ⟨w2, hw2⟩ : ∃ q, q = w1.alloc (.cells (pv (b)).toArray 35) := ⟨_, rfl⟩
  try rw [← hw2]
  have hbm : Below w1.heap.size w1 w2 := by rw [hw2]; exact (Below.refl _ _).alloc (Nat.le_refl _) _
  have hm : Mv No No w1 w2 := Mv.of_below hbm
  have hbx : Stays No w2 (fun W => PgAt W w1.heap.size (b)) := Stays.box HBL.out WI_1.out hw2
  have hsz2 : w2.heap.size = w1.heap.size + 1 := by rw [hw2]; simp
  try rw [← hsz1]
  clear hsz1
  obtain ⟨BQ, hBQ⟩ : ∃ q, q = w1.heap.size := ⟨_, rfl⟩
  try rw [← hBQ]
  rw [← hBQ] at hbx hsz2
  have P_3 := hdS P_2 hm
  have HM_3 := hdT HM_1 hm
  have WI_3 := hdW WI_1 hm
  clear P_2 HM_1 WI_1 hm hbm hw2 hBQ
  have Q_4 := Lib.hid (hbx)
  clear hbx
  obtain ⟨w3, hw3⟩ : ∃ q, q = w2.alloc (.cells (sv (sup0)).toArray 68) := ⟨_, rfl⟩
  try rw [← hw3]
  have hbm : Below w2.heap.size w2 w3 := by rw [hw3]; exact (Below.refl _ _).alloc (Nat.le_refl _) _
  have hm : Mv No No w2 w3 := Mv.of_below hbm
  have hbx : Stays No w3 (fun W => SupAt W w2.heap.size (sup0)) := Stays.boxS sup0_l WI_3.out hw3
  have hsz3 : w3.heap.size = w2.heap.size + 1 := by rw [hw3]; simp
  try rw [← hsz2]
  clear hsz2
  obtain ⟨BR, hBR⟩ : ∃ q, q = w2.heap.size := ⟨_, rfl⟩
  have HBR : Hid (w.heap.size ≤ BR) := Lib.hid (by rw [hBR]; exact HM_3.out.size)
  try rw [← hBR]
  rw [← hBR] at hbx hsz3
  have P_5 := hdS P_3 hm
  have Q_5 := hdS Q_4 hm
  have HM_5 := hdT HM_3 hm
  have WI_5 := hdW WI_3 hm
  clear P_3 Q_4 HM_3 WI_3 hm hbm hw3 hBR
  have R_6 := Lib.hid (hbx)
  clear hbx hsz3
  go_wp2_with (first | ((with_reducible refine at_ld 35 (.tmp 2) ?_); refine ld_pr rfl _ rfl BP (0) rfl a ?_ ?_ ?_; exact HAL.out; exact (P_5.out.now).r))
  refine (HRA.out _).mono ?_
  rintro e w4 ⟨rfl, hb⟩
  have hbm : Below w3.heap.size w3 w4 := hb
  clear hb
  have hm : Mv No No w3 w4 := Mv.of_below hbm
  have P_7 := hdS P_5 hm
  have Q_7 := hdS Q_5 hm
  have R_7 := hdS R_6 hm
  have HM_7 := hdT HM_5 hm
  have WI_7 := hdW WI_5 hm
  clear P_5 Q_5 R_6 HM_5 WI_5 hm hbm
  go_wp2_with (first | ((with_reducible refine at_ld 35 (.tmp 3) ?_); refine ld_pr rfl _ rfl BQ (0) rfl b ?_ ?_ ?_; exact HBL.out; exact (Q_7.out.now).r))
  refine (HRB.out _).mono ?_
  rintro e w5 ⟨rfl, hb⟩
  have hbm : Below w4.heap.size w4 w5 := hb
  clear hb
  have hm : Mv No No w4 w5 := Mv.of_below hbm
  have P_8 := hdS P_7 hm
  have Q_8 := hdS Q_7 hm
  have R_8 := hdS R_7 hm
  have HM_8 := hdT HM_7 hm
  have WI_8 := hdW WI_7 hm
  clear P_7 Q_7 R_7 HM_7 WI_7 hm hbm
  go_wp2_with fail
  refine (HSa.out _).mono ?_
  rintro e w6 ⟨rfl, hb⟩
  have hbm : Below w5.heap.size w5 w6 := hb
  clear hb
  have hm : Mv No No w5 w6 := Mv.of_below hbm
  have P_9 := hdS P_8 hm
  have Q_9 := hdS Q_8 hm
  have R_9 := hdS R_8 hm
  have HM_9 := hdT HM_8 hm
  have WI_9 := hdW WI_8 hm
  clear P_8 Q_8 R_8 HM_8 WI_8 hm hbm
  go_wp2_with (first | ((with_reducible refine at_al 68 ?_); refine al_rp rfl rfl ?_) | ((with_reducible refine at_st 68 (.tmp 12) (.tmp 31) ?_); refine stn_rp rfl _ _ rfl _ _ _ rfl rfl xa2 ?_ rfl ?_ ?_; exact HLA.out; exact ssz))
  obtain ⟨w7, hw7⟩ : ∃ q, q = w6.alloc (.cells (sv (xa2)).toArray 68) := ⟨_, rfl⟩
  try rw [← hw7]
  have hbm : Below w6.heap.size w6 w7 := by rw [hw7]; exact (Below.refl _ _).alloc (Nat.le_refl _) _
  have hm : Mv No No w6 w7 := Mv.of_below hbm
  have hbx : Stays No w7 (fun W => SupAt W w6.heap.size (xa2)) := Stays.boxS HLA.out WI_9.out hw7
  have hsz7 : w7.heap.size = w6.heap.size + 1 := by rw [hw7]; simp
  obtain ⟨BX, hBX⟩ : ∃ q, q = w6.heap.size := ⟨_, rfl⟩
  try rw [← hBX]
  rw [← hBX] at hbx hsz7
  have P_10 := hdS P_9 hm
  have Q_10 := hdS Q_9 hm
  have R_10 := hdS R_9 hm
  have HM_10 := hdT HM_9 hm
  have WI_10 := hdW WI_9 hm
  clear P_9 Q_9 R_9 HM_9 WI_9 hm hbm hw7 hBX
  have X_11 := Lib.hid (hbx)
  clear hbx hsz7
  refine (HSb.out _).mono ?_
  rintro e w8 ⟨rfl, hb⟩
  have hbm : Below w7.heap.size w7 w8 := hb
  clear hb
  have hm : Mv No No w7 w8 := Mv.of_below hbm
  have P_12 := hdS P_10 hm
  have Q_12 := hdS Q_10 hm
  have R_12 := hdS R_10 hm
  have X_12 := hdS X_11 hm
  have HM_12 := hdT HM_10 hm
  have WI_12 := hdW WI_10 hm
  clear P_10 Q_10 R_10 X_11 HM_10 WI_10 hm hbm
  go_upto_region 5 with (first | ((with_reducible refine at_al 68 ?_); refine al_rp rfl rfl ?_) | ((with_reducible refine at_st 68 (.tmp 14) (.tmp 36) ?_); refine stn_rp rfl _ _ rfl _ _ _ rfl rfl xb2 ?_ rfl ?_ ?_; exact HLB.out; exact ssz))
  obtain ⟨w9, hw9⟩ : ∃ q, q = w8.alloc (.cells (sv (xb2)).toArray 68) := ⟨_, rfl⟩
  try rw [← hw9]
  have hbm : Below w8.heap.size w8 w9 := by rw [hw9]; exact (Below.refl _ _).alloc (Nat.le_refl _) _
  have hm : Mv No No w8 w9 := Mv.of_below hbm
  have hbx : Stays No w9 (fun W => SupAt W w8.heap.size (xb2)) := Stays.boxS HLB.out WI_12.out hw9
  have hsz9 : w9.heap.size = w8.heap.size + 1 := by rw [hw9]; simp
  obtain ⟨BY, hBY⟩ : ∃ q, q = w8.heap.size := ⟨_, rfl⟩
  try rw [← hBY]
  rw [← hBY] at hbx hsz9
  have P_13 := hdS P_12 hm
  have Q_13 := hdS Q_12 hm
  have R_13 := hdS R_12 hm
  have X_13 := hdS X_12 hm
  have HM_13 := hdT HM_12 hm
  have WI_13 := hdW WI_12 hm
  clear P_12 Q_12 R_12 X_12 HM_12 WI_12 hm hbm hw9 hBY
  have Y_14 := Lib.hid (hbx)
  clear hbx hsz9
  have htR := (R_13.out.now).t
  have HTR := Lib.hid htR
  clear htR
  go_wp2_with (first | ((with_reducible refine at_st 68 (.tmp 4) (.tmp 71) ?_); refine st_rp rfl _ _ rfl BR 0 rfl sup0 ?_ rfl ?_ ?_; exact sup0_l; exact HTR.out))
  have hld := run_loadVar_mid (P := Tryd.prog) (w9.setCells BR 0 (sv sup0)) BR 0 68 (sv sup0) _ (World.rangeAt_setCells_same w9 _ _ _ (by rw [sv_length sup0_l]; exact HTR.out)) Tryd.underlying68 rfl (szof_rp sup0_l)
  exact bodyPost_ret (v := .tuple #[.agg (sv sup0).toArray, .bool false]) (results_pg Tryd.results52 _ _ _ _ _ rfl rfl hld) rfl ⟨by rw [HRES.out.1, HRES.out.2], HM_13.out.below.trans (setCells_below _ _ _ _ _ HBR.out)⟩
set_option maxHeartbeats 4000000 in
set_option maxRecDepth 100000 in
theorem rbest_kk (a b : Pg) (ha : a.length = 128) (hb : b.length = 128) (oa : okU (rdD a) = true) (ka : (rdK a == 1) = false) (ob : okU (rdD b) = true) (kb : (rdK b == 1) = false) (w : World) : Calls Tryd.prog 52 #[.agg (pv a).toArray, .agg (pv b).toArray] w fun e w' => e = .returned (.tuple #[.agg (sv (rbS a b)).toArray, .bool (rbB a b)]) ∧ Below w.heap.size w w' := by
  have ca := ok_code a oa
  have xa : exU a = false := by unfold exU; rw [oa, ca, ka]; rfl
  have cb := ok_code b ob
  have xb : exU b = false := by unfold exU; rw [ob, cb, kb]; rfl
  have hres : rbS a b = sup0 ∧ rbB a b = false := by unfold rbS rbB; rw [xa, xb]; simp
  have HAL := Lib.hid ha
  have HBL := Lib.hid hb
  have HRA := Lib.hid (fun w => rread5 a ha w)
  have HRB := Lib.hid (fun w => rread5 b hb w)
  have HSa := Lib.hid (fun w => rread_sup (rdD a) w)
  rw [oa] at HSa
  have hla := (readU_fits (rdD a)).l
  obtain ⟨da, hda⟩ : ∃ q, q = rdD a := ⟨_, rfl⟩
  obtain ⟨qa, hqa⟩ : ∃ q, q = rdK a := ⟨_, rfl⟩
  obtain ⟨ea, hea⟩ : ∃ q, q = rdC a := ⟨_, rfl⟩
  have HSb := Lib.hid (fun w => rread_sup (rdD b) w)
  rw [ob] at HSb
  have hlb := (readU_fits (rdD b)).l
  obtain ⟨db, hdb⟩ : ∃ q, q = rdD b := ⟨_, rfl⟩
  obtain ⟨qb, hqb⟩ : ∃ q, q = rdK b := ⟨_, rfl⟩
  obtain ⟨eb, heb⟩ : ∃ q, q = rdC b := ⟨_, rfl⟩
  rw [← hda, ← hqa, ← hea] at HRA
  rw [← hdb, ← hqb, ← heb] at HRB
  rw [← hda] at HSa hla
  rw [← hdb] at HSb hlb
  rw [← hqa] at ka
  have ka2 : (ea == 0) = true := by rw [hea, ca]; rfl
  rw [← hqb] at kb
  have kb2 : (eb == 0) = true := by rw [heb, cb]; rfl
  have hres1 := hres.1
  have hres2 := hres.2
  obtain ⟨xa2, hxa⟩ : ∃ q, q = readU da := ⟨_, rfl⟩
  obtain ⟨xb2, hxb⟩ : ∃ q, q = readU db := ⟨_, rfl⟩
  rw [← hxa] at HSa hla
  rw [← hxb] at HSb hlb
  have HLA := Lib.hid hla
  have HLB := Lib.hid hlb
  have HRES := Lib.hid (And.intro hres1 hres2)
  clear ha hb hla hlb hres hres1 hres2 hda hdb hqa hqb hea heb hxa hxb xa xb oa ob ca cb
  have hbz := build_rp0
  have HM0 := Lib.hid (Mv.refl No w)
  have WI0 := Lib.hid (Wi.no w)
  go_enter Tryd.func52, Tryd.ntmps52
  go_upto_region 1 with (first | ((with_reducible refine at_al 68 ?_); refine al_rp rfl rfl ?_))
  obtain ⟨w1, hw1⟩ : ∃ q, q = w.alloc (.cells (pv (a)).toArray 35) := ⟨_, rfl⟩
  try rw [← hw1]
  have hbm : Below w.heap.size w w1 := by rw [hw1]; exact (Below.refl _ _).alloc (Nat.le_refl _) _
  have hm : Mv No No w w1 := Mv.of_below hbm
  have hbx : Stays No w1 (fun W => PgAt W w.heap.size (a)) := Stays.box HAL.out WI0.out hw1
  have hsz1 : w1.heap.size = w.heap.size + 1 := by rw [hw1]; simp
  obtain ⟨BP, hBP⟩ : ∃ q, q = w.heap.size := ⟨_, rfl⟩
  try rw [← hBP]
  rw [← hBP] at hbx hsz1
  have HM_1 := hdT HM0 hm
  have WI_1 := hdW WI0 hm
  clear HM0 WI0 hm hbm hw1 hBP
  have P_2 := Lib.hid (hbx)
  clear hbx
  obtain ⟨w2, hw2⟩ : ∃ q, q = w1.alloc (.cells (pv (b)).toArray 35) := ⟨_, rfl⟩
  try rw [← hw2]
  have hbm : Below w1.heap.size w1 w2 := by rw [hw2]; exact (Below.refl _ _).alloc (Nat.le_refl _) _
  have hm : Mv No No w1 w2 := Mv.of_below hbm
  have hbx : Stays No w2 (fun W => PgAt W w1.heap.size (b)) := Stays.box HBL.out WI_1.out hw2
  have hsz2 : w2.heap.size = w1.heap.size + 1 := by rw [hw2]; simp
  try rw [← hsz1]
  clear hsz1
  obtain ⟨BQ, hBQ⟩ : ∃ q, q = w1.heap.size := ⟨_, rfl⟩
  try rw [← hBQ]
  rw [← hBQ] at hbx hsz2
  have P_3 := hdS P_2 hm
  have HM_3 := hdT HM_1 hm
  have WI_3 := hdW WI_1 hm
  clear P_2 HM_1 WI_1 hm hbm hw2 hBQ
  have Q_4 := Lib.hid (hbx)
  clear hbx
  obtain ⟨w3, hw3⟩ : ∃ q, q = w2.alloc (.cells (sv (sup0)).toArray 68) := ⟨_, rfl⟩
  try rw [← hw3]
  have hbm : Below w2.heap.size w2 w3 := by rw [hw3]; exact (Below.refl _ _).alloc (Nat.le_refl _) _
  have hm : Mv No No w2 w3 := Mv.of_below hbm
  have hbx : Stays No w3 (fun W => SupAt W w2.heap.size (sup0)) := Stays.boxS sup0_l WI_3.out hw3
  have hsz3 : w3.heap.size = w2.heap.size + 1 := by rw [hw3]; simp
  try rw [← hsz2]
  clear hsz2
  obtain ⟨BR, hBR⟩ : ∃ q, q = w2.heap.size := ⟨_, rfl⟩
  have HBR : Hid (w.heap.size ≤ BR) := Lib.hid (by rw [hBR]; exact HM_3.out.size)
  try rw [← hBR]
  rw [← hBR] at hbx hsz3
  have P_5 := hdS P_3 hm
  have Q_5 := hdS Q_4 hm
  have HM_5 := hdT HM_3 hm
  have WI_5 := hdW WI_3 hm
  clear P_3 Q_4 HM_3 WI_3 hm hbm hw3 hBR
  have R_6 := Lib.hid (hbx)
  clear hbx hsz3
  go_wp2_with (first | ((with_reducible refine at_ld 35 (.tmp 2) ?_); refine ld_pr rfl _ rfl BP (0) rfl a ?_ ?_ ?_; exact HAL.out; exact (P_5.out.now).r))
  refine (HRA.out _).mono ?_
  rintro e w4 ⟨rfl, hb⟩
  have hbm : Below w3.heap.size w3 w4 := hb
  clear hb
  have hm : Mv No No w3 w4 := Mv.of_below hbm
  have P_7 := hdS P_5 hm
  have Q_7 := hdS Q_5 hm
  have R_7 := hdS R_6 hm
  have HM_7 := hdT HM_5 hm
  have WI_7 := hdW WI_5 hm
  clear P_5 Q_5 R_6 HM_5 WI_5 hm hbm
  go_wp2_with (first | ((with_reducible refine at_ld 35 (.tmp 3) ?_); refine ld_pr rfl _ rfl BQ (0) rfl b ?_ ?_ ?_; exact HBL.out; exact (Q_7.out.now).r))
  refine (HRB.out _).mono ?_
  rintro e w5 ⟨rfl, hb⟩
  have hbm : Below w4.heap.size w4 w5 := hb
  clear hb
  have hm : Mv No No w4 w5 := Mv.of_below hbm
  have P_8 := hdS P_7 hm
  have Q_8 := hdS Q_7 hm
  have R_8 := hdS R_7 hm
  have HM_8 := hdT HM_7 hm
  have WI_8 := hdW WI_7 hm
  clear P_7 Q_7 R_7 HM_7 WI_7 hm hbm
  go_wp2_with fail
  refine (HSa.out _).mono ?_
  rintro e w6 ⟨rfl, hb⟩
  have hbm : Below w5.heap.size w5 w6 := hb
  clear hb
  have hm : Mv No No w5 w6 := Mv.of_below hbm
  have P_9 := hdS P_8 hm
  have Q_9 := hdS Q_8 hm
  have R_9 := hdS R_8 hm
  have HM_9 := hdT HM_8 hm
  have WI_9 := hdW WI_8 hm
  clear P_8 Q_8 R_8 HM_8 WI_8 hm hbm
  go_wp2_with (first | ((with_reducible refine at_al 68 ?_); refine al_rp rfl rfl ?_) | ((with_reducible refine at_st 68 (.tmp 12) (.tmp 31) ?_); refine stn_rp rfl _ _ rfl _ _ _ rfl rfl xa2 ?_ rfl ?_ ?_; exact HLA.out; exact ssz))
  obtain ⟨w7, hw7⟩ : ∃ q, q = w6.alloc (.cells (sv (xa2)).toArray 68) := ⟨_, rfl⟩
  try rw [← hw7]
  have hbm : Below w6.heap.size w6 w7 := by rw [hw7]; exact (Below.refl _ _).alloc (Nat.le_refl _) _
  have hm : Mv No No w6 w7 := Mv.of_below hbm
  have hbx : Stays No w7 (fun W => SupAt W w6.heap.size (xa2)) := Stays.boxS HLA.out WI_9.out hw7
  have hsz7 : w7.heap.size = w6.heap.size + 1 := by rw [hw7]; simp
  obtain ⟨BX, hBX⟩ : ∃ q, q = w6.heap.size := ⟨_, rfl⟩
  try rw [← hBX]
  rw [← hBX] at hbx hsz7
  have P_10 := hdS P_9 hm
  have Q_10 := hdS Q_9 hm
  have R_10 := hdS R_9 hm
  have HM_10 := hdT HM_9 hm
  have WI_10 := hdW WI_9 hm
  clear P_9 Q_9 R_9 HM_9 WI_9 hm hbm hw7 hBX
  have X_11 := Lib.hid (hbx)
  clear hbx hsz7
  refine (HSb.out _).mono ?_
  rintro e w8 ⟨rfl, hb⟩
  have hbm : Below w7.heap.size w7 w8 := hb
  clear hb
  have hm : Mv No No w7 w8 := Mv.of_below hbm
  have P_12 := hdS P_10 hm
  have Q_12 := hdS Q_10 hm
  have R_12 := hdS R_10 hm
  have X_12 := hdS X_11 hm
  have HM_12 := hdT HM_10 hm
  have WI_12 := hdW WI_10 hm
  clear P_10 Q_10 R_10 X_11 HM_10 WI_10 hm hbm
  go_upto_region 5 with (first | ((with_reducible refine at_al 68 ?_); refine al_rp rfl rfl ?_) | ((with_reducible refine at_st 68 (.tmp 14) (.tmp 36) ?_); refine stn_rp rfl _ _ rfl _ _ _ rfl rfl xb2 ?_ rfl ?_ ?_; exact HLB.out; exact ssz))
  obtain ⟨w9, hw9⟩ : ∃ q, q = w8.alloc (.cells (sv (xb2)).toArray 68) := ⟨_, rfl⟩
  try rw [← hw9]
  have hbm : Below w8.heap.size w8 w9 := by rw [hw9]; exact (Below.refl _ _).alloc (Nat.le_refl _) _
  have hm : Mv No No w8 w9 := Mv.of_below hbm
  have hbx : Stays No w9 (fun W => SupAt W w8.heap.size (xb2)) := Stays.boxS HLB.out WI_12.out hw9
  have hsz9 : w9.heap.size = w8.heap.size + 1 := by rw [hw9]; simp
  obtain ⟨BY, hBY⟩ : ∃ q, q = w8.heap.size := ⟨_, rfl⟩
  try rw [← hBY]
  rw [← hBY] at hbx hsz9
  have P_13 := hdS P_12 hm
  have Q_13 := hdS Q_12 hm
  have R_13 := hdS R_12 hm
  have X_13 := hdS X_12 hm
  have HM_13 := hdT HM_12 hm
  have WI_13 := hdW WI_12 hm
  clear P_12 Q_12 R_12 X_12 HM_12 WI_12 hm hbm hw9 hBY
  have Y_14 := Lib.hid (hbx)
  clear hbx hsz9
  have htR := (R_13.out.now).t
  have HTR := Lib.hid htR
  clear htR
  go_wp2_with (first | ((with_reducible refine at_st 68 (.tmp 4) (.tmp 71) ?_); refine st_rp rfl _ _ rfl BR 0 rfl sup0 ?_ rfl ?_ ?_; exact sup0_l; exact HTR.out))
  have hld := run_loadVar_mid (P := Tryd.prog) (w9.setCells BR 0 (sv sup0)) BR 0 68 (sv sup0) _ (World.rangeAt_setCells_same w9 _ _ _ (by rw [sv_length sup0_l]; exact HTR.out)) Tryd.underlying68 rfl (szof_rp sup0_l)
  exact bodyPost_ret (v := .tuple #[.agg (sv sup0).toArray, .bool false]) (results_pg Tryd.results52 _ _ _ _ _ rfl rfl hld) rfl ⟨by rw [HRES.out.1, HRES.out.2], HM_13.out.below.trans (setCells_below _ _ _ _ _ HBR.out)⟩
set_option maxHeartbeats 4000000 in
set_option maxRecDepth 100000 in
theorem rbest_ky (a b : Pg) (ha : a.length = 128) (hb : b.length = 128) (oa : okU (rdD a) = true) (ka : (rdK a == 1) = false) (ob : okU (rdD b) = true) (kb : (rdK b == 1) = true) (w : World) : Calls Tryd.prog 52 #[.agg (pv a).toArray, .agg (pv b).toArray] w fun e w' => e = .returned (.tuple #[.agg (sv (rbS a b)).toArray, .bool (rbB a b)]) ∧ Below w.heap.size w w' := by
  have ca := ok_code a oa
  have xa : exU a = false := by unfold exU; rw [oa, ca, ka]; rfl
  have cb := ok_code b ob
  have xb : exU b = true := by unfold exU; rw [ob, cb, kb]; rfl
  have hres : rbS a b = readU (rdD b) ∧ rbB a b = true := by unfold rbS rbB; rw [xa, xb]; simp
  have HAL := Lib.hid ha
  have HBL := Lib.hid hb
  have HRA := Lib.hid (fun w => rread5 a ha w)
  have HRB := Lib.hid (fun w => rread5 b hb w)
  have HSa := Lib.hid (fun w => rread_sup (rdD a) w)
  rw [oa] at HSa
  have hla := (readU_fits (rdD a)).l
  obtain ⟨da, hda⟩ : ∃ q, q = rdD a := ⟨_, rfl⟩
  obtain ⟨qa, hqa⟩ : ∃ q, q = rdK a := ⟨_, rfl⟩
  obtain ⟨ea, hea⟩ : ∃ q, q = rdC a := ⟨_, rfl⟩
  have HSb := Lib.hid (fun w => rread_sup (rdD b) w)
  rw [ob] at HSb
  have hlb := (readU_fits (rdD b)).l
  obtain ⟨db, hdb⟩ : ∃ q, q = rdD b := ⟨_, rfl⟩
  obtain ⟨qb, hqb⟩ : ∃ q, q = rdK b := ⟨_, rfl⟩
  obtain ⟨eb, heb⟩ : ∃ q, q = rdC b := ⟨_, rfl⟩
  rw [← hda, ← hqa, ← hea] at HRA
  rw [← hdb, ← hqb, ← heb] at HRB
  rw [← hda] at HSa hla
  rw [← hdb] at HSb hlb
  rw [← hqa] at ka
  have ka2 : (ea == 0) = true := by rw [hea, ca]; rfl
  rw [← hqb] at kb
  have kb2 : (eb == 0) = true := by rw [heb, cb]; rfl
  have hres1 := hres.1
  have hres2 := hres.2
  rw [← hdb] at hres1
  obtain ⟨xa2, hxa⟩ : ∃ q, q = readU da := ⟨_, rfl⟩
  obtain ⟨xb2, hxb⟩ : ∃ q, q = readU db := ⟨_, rfl⟩
  rw [← hxa] at HSa hla
  rw [← hxb] at HSb hlb
  rw [← hxb] at hres1
  have HLA := Lib.hid hla
  have HLB := Lib.hid hlb
  have HRES := Lib.hid (And.intro hres1 hres2)
  clear ha hb hla hlb hres hres1 hres2 hda hdb hqa hqb hea heb hxa hxb xa xb oa ob ca cb
  have hbz := build_rp0
  have HM0 := Lib.hid (Mv.refl No w)
  have WI0 := Lib.hid (Wi.no w)
  go_enter Tryd.func52, Tryd.ntmps52
  go_upto_region 1 with (first | ((with_reducible refine at_al 68 ?_); refine al_rp rfl rfl ?_))
  obtain ⟨w1, hw1⟩ : ∃ q, q = w.alloc (.cells (pv (a)).toArray 35) := ⟨_, rfl⟩
  try rw [← hw1]
  have hbm : Below w.heap.size w w1 := by rw [hw1]; exact (Below.refl _ _).alloc (Nat.le_refl _) _
  have hm : Mv No No w w1 := Mv.of_below hbm
  have hbx : Stays No w1 (fun W => PgAt W w.heap.size (a)) := Stays.box HAL.out WI0.out hw1
  have hsz1 : w1.heap.size = w.heap.size + 1 := by rw [hw1]; simp
  obtain ⟨BP, hBP⟩ : ∃ q, q = w.heap.size := ⟨_, rfl⟩
  try rw [← hBP]
  rw [← hBP] at hbx hsz1
  have HM_1 := hdT HM0 hm
  have WI_1 := hdW WI0 hm
  clear HM0 WI0 hm hbm hw1 hBP
  have P_2 := Lib.hid (hbx)
  clear hbx
  obtain ⟨w2, hw2⟩ : ∃ q, q = w1.alloc (.cells (pv (b)).toArray 35) := ⟨_, rfl⟩
  try rw [← hw2]
  have hbm : Below w1.heap.size w1 w2 := by rw [hw2]; exact (Below.refl _ _).alloc (Nat.le_refl _) _
  have hm : Mv No No w1 w2 := Mv.of_below hbm
  have hbx : Stays No w2 (fun W => PgAt W w1.heap.size (b)) := Stays.box HBL.out WI_1.out hw2
  have hsz2 : w2.heap.size = w1.heap.size + 1 := by rw [hw2]; simp
  try rw [← hsz1]
  clear hsz1
  obtain ⟨BQ, hBQ⟩ : ∃ q, q = w1.heap.size := ⟨_, rfl⟩
  try rw [← hBQ]
  rw [← hBQ] at hbx hsz2
  have P_3 := hdS P_2 hm
  have HM_3 := hdT HM_1 hm
  have WI_3 := hdW WI_1 hm
  clear P_2 HM_1 WI_1 hm hbm hw2 hBQ
  have Q_4 := Lib.hid (hbx)
  clear hbx
  obtain ⟨w3, hw3⟩ : ∃ q, q = w2.alloc (.cells (sv (sup0)).toArray 68) := ⟨_, rfl⟩
  try rw [← hw3]
  have hbm : Below w2.heap.size w2 w3 := by rw [hw3]; exact (Below.refl _ _).alloc (Nat.le_refl _) _
  have hm : Mv No No w2 w3 := Mv.of_below hbm
  have hbx : Stays No w3 (fun W => SupAt W w2.heap.size (sup0)) := Stays.boxS sup0_l WI_3.out hw3
  have hsz3 : w3.heap.size = w2.heap.size + 1 := by rw [hw3]; simp
  try rw [← hsz2]
  clear hsz2
  obtain ⟨BR, hBR⟩ : ∃ q, q = w2.heap.size := ⟨_, rfl⟩
  have HBR : Hid (w.heap.size ≤ BR) := Lib.hid (by rw [hBR]; exact HM_3.out.size)
  try rw [← hBR]
  rw [← hBR] at hbx hsz3
  have P_5 := hdS P_3 hm
  have Q_5 := hdS Q_4 hm
  have HM_5 := hdT HM_3 hm
  have WI_5 := hdW WI_3 hm
  clear P_3 Q_4 HM_3 WI_3 hm hbm hw3 hBR
  have R_6 := Lib.hid (hbx)
  clear hbx hsz3
  go_wp2_with (first | ((with_reducible refine at_ld 35 (.tmp 2) ?_); refine ld_pr rfl _ rfl BP (0) rfl a ?_ ?_ ?_; exact HAL.out; exact (P_5.out.now).r))
  refine (HRA.out _).mono ?_
  rintro e w4 ⟨rfl, hb⟩
  have hbm : Below w3.heap.size w3 w4 := hb
  clear hb
  have hm : Mv No No w3 w4 := Mv.of_below hbm
  have P_7 := hdS P_5 hm
  have Q_7 := hdS Q_5 hm
  have R_7 := hdS R_6 hm
  have HM_7 := hdT HM_5 hm
  have WI_7 := hdW WI_5 hm
  clear P_5 Q_5 R_6 HM_5 WI_5 hm hbm
  go_wp2_with (first | ((with_reducible refine at_ld 35 (.tmp 3) ?_); refine ld_pr rfl _ rfl BQ (0) rfl b ?_ ?_ ?_; exact HBL.out; exact (Q_7.out.now).r))
  refine (HRB.out _).mono ?_
  rintro e w5 ⟨rfl, hb⟩
  have hbm : Below w4.heap.size w4 w5 := hb
  clear hb
  have hm : Mv No No w4 w5 := Mv.of_below hbm
  have P_8 := hdS P_7 hm
  have Q_8 := hdS Q_7 hm
  have R_8 := hdS R_7 hm
  have HM_8 := hdT HM_7 hm
  have WI_8 := hdW WI_7 hm
  clear P_7 Q_7 R_7 HM_7 WI_7 hm hbm
  go_wp2_with fail
  refine (HSa.out _).mono ?_
  rintro e w6 ⟨rfl, hb⟩
  have hbm : Below w5.heap.size w5 w6 := hb
  clear hb
  have hm : Mv No No w5 w6 := Mv.of_below hbm
  have P_9 := hdS P_8 hm
  have Q_9 := hdS Q_8 hm
  have R_9 := hdS R_8 hm
  have HM_9 := hdT HM_8 hm
  have WI_9 := hdW WI_8 hm
  clear P_8 Q_8 R_8 HM_8 WI_8 hm hbm
  go_wp2_with (first | ((with_reducible refine at_al 68 ?_); refine al_rp rfl rfl ?_) | ((with_reducible refine at_st 68 (.tmp 12) (.tmp 31) ?_); refine stn_rp rfl _ _ rfl _ _ _ rfl rfl xa2 ?_ rfl ?_ ?_; exact HLA.out; exact ssz))
  obtain ⟨w7, hw7⟩ : ∃ q, q = w6.alloc (.cells (sv (xa2)).toArray 68) := ⟨_, rfl⟩
  try rw [← hw7]
  have hbm : Below w6.heap.size w6 w7 := by rw [hw7]; exact (Below.refl _ _).alloc (Nat.le_refl _) _
  have hm : Mv No No w6 w7 := Mv.of_below hbm
  have hbx : Stays No w7 (fun W => SupAt W w6.heap.size (xa2)) := Stays.boxS HLA.out WI_9.out hw7
  have hsz7 : w7.heap.size = w6.heap.size + 1 := by rw [hw7]; simp
  obtain ⟨BX, hBX⟩ : ∃ q, q = w6.heap.size := ⟨_, rfl⟩
  try rw [← hBX]
  rw [← hBX] at hbx hsz7
  have P_10 := hdS P_9 hm
  have Q_10 := hdS Q_9 hm
  have R_10 := hdS R_9 hm
  have HM_10 := hdT HM_9 hm
  have WI_10 := hdW WI_9 hm
  clear P_9 Q_9 R_9 HM_9 WI_9 hm hbm hw7 hBX
  have X_11 := Lib.hid (hbx)
  clear hbx hsz7
  refine (HSb.out _).mono ?_
  rintro e w8 ⟨rfl, hb⟩
  have hbm : Below w7.heap.size w7 w8 := hb
  clear hb
  have hm : Mv No No w7 w8 := Mv.of_below hbm
  have P_12 := hdS P_10 hm
  have Q_12 := hdS Q_10 hm
  have R_12 := hdS R_10 hm
  have X_12 := hdS X_11 hm
  have HM_12 := hdT HM_10 hm
  have WI_12 := hdW WI_10 hm
  clear P_10 Q_10 R_10 X_11 HM_10 WI_10 hm hbm
  go_upto_region 5 with (first | ((with_reducible refine at_al 68 ?_); refine al_rp rfl rfl ?_) | ((with_reducible refine at_st 68 (.tmp 14) (.tmp 36) ?_); refine stn_rp rfl _ _ rfl _ _ _ rfl rfl xb2 ?_ rfl ?_ ?_; exact HLB.out; exact ssz))
  obtain ⟨w9, hw9⟩ : ∃ q, q = w8.alloc (.cells (sv (xb2)).toArray 68) := ⟨_, rfl⟩
  try rw [← hw9]
  have hbm : Below w8.heap.size w8 w9 := by rw [hw9]; exact (Below.refl _ _).alloc (Nat.le_refl _) _
  have hm : Mv No No w8 w9 := Mv.of_below hbm
  have hbx : Stays No w9 (fun W => SupAt W w8.heap.size (xb2)) := Stays.boxS HLB.out WI_12.out hw9
  have hsz9 : w9.heap.size = w8.heap.size + 1 := by rw [hw9]; simp
  obtain ⟨BY, hBY⟩ : ∃ q, q = w8.heap.size := ⟨_, rfl⟩
  try rw [← hBY]
  rw [← hBY] at hbx hsz9
  have P_13 := hdS P_12 hm
  have Q_13 := hdS Q_12 hm
  have R_13 := hdS R_12 hm
  have X_13 := hdS X_12 hm
  have HM_13 := hdT HM_12 hm
  have WI_13 := hdW WI_12 hm
  clear P_12 Q_12 R_12 X_12 HM_12 WI_12 hm hbm hw9 hBY
  have Y_14 := Lib.hid (hbx)
  clear hbx hsz9
  have htR := (R_13.out.now).t
  have HTR := Lib.hid htR
  clear htR
  go_wp2_with (first | ((with_reducible refine at_ld 68 (.tmp 14) ?_); refine ld_rp rfl _ rfl BY (0) rfl xb2 ?_ ?_ ?_; exact HLB.out; exact (Y_14.out.now).r) | ((with_reducible refine at_st 68 (.tmp 4) (.tmp 70) ?_); refine st_rp rfl _ _ rfl BR 0 rfl xb2 ?_ rfl ?_ ?_; exact HLB.out; exact HTR.out))
  have hld := run_loadVar_mid (P := Tryd.prog) (w9.setCells BR 0 (sv xb2)) BR 0 68 (sv xb2) _ (World.rangeAt_setCells_same w9 _ _ _ (by rw [sv_length HLB.out]; exact HTR.out)) Tryd.underlying68 rfl (szof_rp HLB.out)
  exact bodyPost_ret (v := .tuple #[.agg (sv xb2).toArray, .bool true]) (results_pg Tryd.results52 _ _ _ _ _ rfl rfl hld) rfl ⟨by rw [HRES.out.1, HRES.out.2], HM_13.out.below.trans (setCells_below _ _ _ _ _ HBR.out)⟩
set_option maxHeartbeats 4000000 in
set_option maxRecDepth 100000 in
theorem rbest_yn (a b : Pg) (ha : a.length = 128) (hb : b.length = 128) (oa : okU (rdD a) = true) (ka : (rdK a == 1) = true) (ob : okU (rdD b) = false) (w : World) : Calls Tryd.prog 52 #[.agg (pv a).toArray, .agg (pv b).toArray] w fun e w' => e = .returned (.tuple #[.agg (sv (rbS a b)).toArray, .bool (rbB a b)]) ∧ Below w.heap.size w w' := by
  have ca := ok_code a oa
  have xa : exU a = true := by unfold exU; rw [oa, ca, ka]; rfl
  have xb : exU b = false := by unfold exU; rw [ob]; rfl
  have hres : rbS a b = readU (rdD a) ∧ rbB a b = true := by unfold rbS rbB; rw [xa, xb]; simp
  have HAL := Lib.hid ha
  have HBL := Lib.hid hb
  have HRA := Lib.hid (fun w => rread5 a ha w)
  have HRB := Lib.hid (fun w => rread5 b hb w)
  have HSa := Lib.hid (fun w => rread_sup (rdD a) w)
  rw [oa] at HSa
  have hla := (readU_fits (rdD a)).l
  obtain ⟨da, hda⟩ : ∃ q, q = rdD a := ⟨_, rfl⟩
  obtain ⟨qa, hqa⟩ : ∃ q, q = rdK a := ⟨_, rfl⟩
  obtain ⟨ea, hea⟩ : ∃ q, q = rdC a := ⟨_, rfl⟩
  have HSb := Lib.hid (fun w => rread_sup (rdD b) w)
  rw [ob] at HSb
  have hlb := (readU_fits (rdD b)).l
  obtain ⟨db, hdb⟩ : ∃ q, q = rdD b := ⟨_, rfl⟩
  obtain ⟨qb, hqb⟩ : ∃ q, q = rdK b := ⟨_, rfl⟩
  obtain ⟨eb, heb⟩ : ∃ q, q = rdC b := ⟨_, rfl⟩
  rw [← hda, ← hqa, ← hea] at HRA
  rw [← hdb, ← hqb, ← heb] at HRB
  rw [← hda] at HSa hla
  rw [← hdb] at HSb hlb
  rw [← hqa] at ka
  have ka2 : (ea == 0) = true := by rw [hea, ca]; rfl
  have hres1 := hres.1
  have hres2 := hres.2
  rw [← hda] at hres1
  obtain ⟨xa2, hxa⟩ : ∃ q, q = readU da := ⟨_, rfl⟩
  obtain ⟨xb2, hxb⟩ : ∃ q, q = readU db := ⟨_, rfl⟩
  rw [← hxa] at HSa hla
  rw [← hxb] at HSb hlb
  rw [← hxa] at hres1
  have HLA := Lib.hid hla
  have HLB := Lib.hid hlb
  have HRES := Lib.hid (And.intro hres1 hres2)
  clear ha hb hla hlb hres hres1 hres2 hda hdb hqa hqb hea heb hxa hxb xa xb oa ob ca
  have hbz := build_rp0
  have HM0 := Lib.hid (Mv.refl No w)
  have WI0 := Lib.hid (Wi.no w)
  go_enter Tryd.func52, Tryd.ntmps52
  go_upto_region 1 with (first | ((with_reducible refine at_al 68 ?_); refine al_rp rfl rfl ?_))
  obtain ⟨w1, hw1⟩ : ∃ q, q = w.alloc (.cells (pv (a)).toArray 35) := ⟨_, rfl⟩
  try rw [← hw1]
  have hbm : Below w.heap.size w w1 := by rw [hw1]; exact (Below.refl _ _).alloc (Nat.le_refl _) _
  have hm : Mv No No w w1 := Mv.of_below hbm
  have hbx : Stays No w1 (fun W => PgAt W w.heap.size (a)) := Stays.box HAL.out WI0.out hw1
  have hsz1 : w1.heap.size = w.heap.size + 1 := by rw [hw1]; simp
  obtain ⟨BP, hBP⟩ : ∃ q, q = w.heap.size := ⟨_, rfl⟩
  try rw [← hBP]
  rw [← hBP] at hbx hsz1
  have HM_1 := hdT HM0 hm
  have WI_1 := hdW WI0 hm
  clear HM0 WI0 hm hbm hw1 hBP
  have P_2 := Lib.hid (hbx)
  clear hbx
  obtain ⟨w2, hw2⟩ : ∃ q, q = w1.alloc (.cells (pv (b)).toArray 35) := ⟨_, rfl⟩
  try rw [← hw2]
  have hbm : Below w1.heap.size w1 w2 := by rw [hw2]; exact (Below.refl _ _).alloc (Nat.le_refl _) _
  have hm : Mv No No w1 w2 := Mv.of_below hbm
  have hbx : Stays No w2 (fun W => PgAt W w1.heap.size (b)) := Stays.box HBL.out WI_1.out hw2
  have hsz2 : w2.heap.size = w1.heap.size + 1 := by rw [hw2]; simp
  try rw [← hsz1]
  clear hsz1
  obtain ⟨BQ, hBQ⟩ : ∃ q, q = w1.heap.size := ⟨_, rfl⟩
  try rw [← hBQ]
  rw [← hBQ] at hbx hsz2
  have P_3 := hdS P_2 hm
  have HM_3 := hdT HM_1 hm
  have WI_3 := hdW WI_1 hm
  clear P_2 HM_1 WI_1 hm hbm hw2 hBQ
  have Q_4 := Lib.hid (hbx)
  clear hbx
  obtain ⟨w3, hw3⟩ : ∃ q, q = w2.alloc (.cells (sv (sup0)).toArray 68) := ⟨_, rfl⟩
  try rw [← hw3]
  have hbm : Below w2.heap.size w2 w3 := by rw [hw3]; exact (Below.refl _ _).alloc (Nat.le_refl _) _
  have hm : Mv No No w2 w3 := Mv.of_below hbm
  have hbx : Stays No w3 (fun W => SupAt W w2.heap.size (sup0)) := Stays.boxS sup0_l WI_3.out hw3
  have hsz3 : w3.heap.size = w2.heap.size + 1 := by rw [hw3]; simp
  try rw [← hsz2]
  clear hsz2
  obtain ⟨BR, hBR⟩ : ∃ q, q = w2.heap.size := ⟨_, rfl⟩
  have HBR : Hid (w.heap.size ≤ BR) := Lib.hid (by rw [hBR]; exact HM_3.out.size)
  try rw [← hBR]
  rw [← hBR] at hbx hsz3
  have P_5 := hdS P_3 hm
  have Q_5 := hdS Q_4 hm
  have HM_5 := hdT HM_3 hm
  have WI_5 := hdW WI_3 hm
  clear P_3 Q_4 HM_3 WI_3 hm hbm hw3 hBR
  have R_6 := Lib.hid (hbx)
  clear hbx hsz3
  go_wp2_with (first | ((with_reducible refine at_ld 35 (.tmp 2) ?_); refine ld_pr rfl _ rfl BP (0) rfl a ?_ ?_ ?_; exact HAL.out; exact (P_5.out.now).r))
  refine (HRA.out _).mono ?_
  rintro e w4 ⟨rfl, hb⟩
  have hbm : Below w3.heap.size w3 w4 := hb
  clear hb
  have hm : Mv No No w3 w4 := Mv.of_below hbm
  have P_7 := hdS P_5 hm
  have Q_7 := hdS Q_5 hm
  have R_7 := hdS R_6 hm
  have HM_7 := hdT HM_5 hm
  have WI_7 := hdW WI_5 hm
  clear P_5 Q_5 R_6 HM_5 WI_5 hm hbm
  go_wp2_with (first | ((with_reducible refine at_ld 35 (.tmp 3) ?_); refine ld_pr rfl _ rfl BQ (0) rfl b ?_ ?_ ?_; exact HBL.out; exact (Q_7.out.now).r))
  refine (HRB.out _).mono ?_
  rintro e w5 ⟨rfl, hb⟩
  have hbm : Below w4.heap.size w4 w5 := hb
  clear hb
  have hm : Mv No No w4 w5 := Mv.of_below hbm
  have P_8 := hdS P_7 hm
  have Q_8 := hdS Q_7 hm
  have R_8 := hdS R_7 hm
  have HM_8 := hdT HM_7 hm
  have WI_8 := hdW WI_7 hm
  clear P_7 Q_7 R_7 HM_7 WI_7 hm hbm
  go_wp2_with fail
  refine (HSa.out _).mono ?_
  rintro e w6 ⟨rfl, hb⟩
  have hbm : Below w5.heap.size w5 w6 := hb
  clear hb
  have hm : Mv No No w5 w6 := Mv.of_below hbm
  have P_9 := hdS P_8 hm
  have Q_9 := hdS Q_8 hm
  have R_9 := hdS R_8 hm
  have HM_9 := hdT HM_8 hm
  have WI_9 := hdW WI_8 hm
  clear P_8 Q_8 R_8 HM_8 WI_8 hm hbm
  go_wp2_with (first | ((with_reducible refine at_al 68 ?_); refine al_rp rfl rfl ?_) | ((with_reducible refine at_st 68 (.tmp 12) (.tmp 31) ?_); refine stn_rp rfl _ _ rfl _ _ _ rfl rfl xa2 ?_ rfl ?_ ?_; exact HLA.out; exact ssz))
  obtain ⟨w7, hw7⟩ : ∃ q, q = w6.alloc (.cells (sv (xa2)).toArray 68) := ⟨_, rfl⟩
  try rw [← hw7]
  have hbm : Below w6.heap.size w6 w7 := by rw [hw7]; exact (Below.refl _ _).alloc (Nat.le_refl _) _
  have hm : Mv No No w6 w7 := Mv.of_below hbm
  have hbx : Stays No w7 (fun W => SupAt W w6.heap.size (xa2)) := Stays.boxS HLA.out WI_9.out hw7
  have hsz7 : w7.heap.size = w6.heap.size + 1 := by rw [hw7]; simp
  obtain ⟨BX, hBX⟩ : ∃ q, q = w6.heap.size := ⟨_, rfl⟩
  try rw [← hBX]
  rw [← hBX] at hbx hsz7
  have P_10 := hdS P_9 hm
  have Q_10 := hdS Q_9 hm
  have R_10 := hdS R_9 hm
  have HM_10 := hdT HM_9 hm
  have WI_10 := hdW WI_9 hm
  clear P_9 Q_9 R_9 HM_9 WI_9 hm hbm hw7 hBX
  have X_11 := Lib.hid (hbx)
  clear hbx hsz7
  refine (HSb.out _).mono ?_
  rintro e w8 ⟨rfl, hb⟩
  have hbm : Below w7.heap.size w7 w8 := hb
  clear hb
  have hm : Mv No No w7 w8 := Mv.of_below hbm
  have P_12 := hdS P_10 hm
  have Q_12 := hdS Q_10 hm
  have R_12 := hdS R_10 hm
  have X_12 := hdS X_11 hm
  have HM_12 := hdT HM_10 hm
  have WI_12 := hdW WI_10 hm
  clear P_10 Q_10 R_10 X_11 HM_10 WI_10 hm hbm
  go_upto_region 5 with (first | ((with_reducible refine at_al 68 ?_); refine al_rp rfl rfl ?_) | ((with_reducible refine at_st 68 (.tmp 14) (.tmp 36) ?_); refine stn_rp rfl _ _ rfl _ _ _ rfl rfl xb2 ?_ rfl ?_ ?_; exact HLB.out; exact ssz))
  obtain ⟨w9, hw9⟩ : ∃ q, q = w8.alloc (.cells (sv (xb2)).toArray 68) := ⟨_, rfl⟩
  try rw [← hw9]
  have hbm : Below w8.heap.size w8 w9 := by rw [hw9]; exact (Below.refl _ _).alloc (Nat.le_refl _) _
  have hm : Mv No No w8 w9 := Mv.of_below hbm
  have hbx : Stays No w9 (fun W => SupAt W w8.heap.size (xb2)) := Stays.boxS HLB.out WI_12.out hw9
  have hsz9 : w9.heap.size = w8.heap.size + 1 := by rw [hw9]; simp
  obtain ⟨BY, hBY⟩ : ∃ q, q = w8.heap.size := ⟨_, rfl⟩
  try rw [← hBY]
  rw [← hBY] at hbx hsz9
  have P_13 := hdS P_12 hm
  have Q_13 := hdS Q_12 hm
  have R_13 := hdS R_12 hm
  have X_13 := hdS X_12 hm
  have HM_13 := hdT HM_12 hm
  have WI_13 := hdW WI_12 hm
  clear P_12 Q_12 R_12 X_12 HM_12 WI_12 hm hbm hw9 hBY
  have Y_14 := Lib.hid (hbx)
  clear hbx hsz9
  have htR := (R_13.out.now).t
  have HTR := Lib.hid htR
  clear htR
  go_wp2_with (first | ((with_reducible refine at_ld 68 (.tmp 12) ?_); refine ld_rp rfl _ rfl BX (0) rfl xa2 ?_ ?_ ?_; exact HLA.out; exact (X_13.out.now).r) | ((with_reducible refine at_st 68 (.tmp 4) (.tmp 68) ?_); refine st_rp rfl _ _ rfl BR 0 rfl xa2 ?_ rfl ?_ ?_; exact HLA.out; exact HTR.out))
  have hld := run_loadVar_mid (P := Tryd.prog) (w9.setCells BR 0 (sv xa2)) BR 0 68 (sv xa2) _ (World.rangeAt_setCells_same w9 _ _ _ (by rw [sv_length HLA.out]; exact HTR.out)) Tryd.underlying68 rfl (szof_rp HLA.out)
  exact bodyPost_ret (v := .tuple #[.agg (sv xa2).toArray, .bool true]) (results_pg Tryd.results52 _ _ _ _ _ rfl rfl hld) rfl ⟨by rw [HRES.out.1, HRES.out.2], HM_13.out.below.trans (setCells_below _ _ _ _ _ HBR.out)⟩
set_option maxHeartbeats 4000000 in
set_option maxRecDepth 100000 in
theorem rbest_yk (a b : Pg) (ha : a.length = 128) (hb : b.length = 128) (oa : okU (rdD a) = true) (ka : (rdK a == 1) = true) (ob : okU (rdD b) = true) (kb : (rdK b == 1) = false) (w : World) : Calls Tryd.prog 52 #[.agg (pv a).toArray, .agg (pv b).toArray] w fun e w' => e = .returned (.tuple #[.agg (sv (rbS a b)).toArray, .bool (rbB a b)]) ∧ Below w.heap.size w w' := by
  have ca := ok_code a oa
  have xa : exU a = true := by unfold exU; rw [oa, ca, ka]; rfl
  have cb := ok_code b ob
  have xb : exU b = false := by unfold exU; rw [ob, cb, kb]; rfl
  have hres : rbS a b = readU (rdD a) ∧ rbB a b = true := by unfold rbS rbB; rw [xa, xb]; simp
  have HAL := Lib.hid ha
  have HBL := Lib.hid hb
  have HRA := Lib.hid (fun w => rread5 a ha w)
  have HRB := Lib.hid (fun w => rread5 b hb w)
  have HSa := Lib.hid (fun w => rread_sup (rdD a) w)
  rw [oa] at HSa
  have hla := (readU_fits (rdD a)).l
  obtain ⟨da, hda⟩ : ∃ q, q = rdD a := ⟨_, rfl⟩
  obtain ⟨qa, hqa⟩ : ∃ q, q = rdK a := ⟨_, rfl⟩
  obtain ⟨ea, hea⟩ : ∃ q, q = rdC a := ⟨_, rfl⟩
  have HSb := Lib.hid (fun w => rread_sup (rdD b) w)
  rw [ob] at HSb
  have hlb := (readU_fits (rdD b)).l
  obtain ⟨db, hdb⟩ : ∃ q, q = rdD b := ⟨_, rfl⟩
  obtain ⟨qb, hqb⟩ : ∃ q, q = rdK b := ⟨_, rfl⟩
  obtain ⟨eb, heb⟩ : ∃ q, q = rdC b := ⟨_, rfl⟩
  rw [← hda, ← hqa, ← hea] at HRA
  rw [← hdb, ← hqb, ← heb] at HRB
  rw [← hda] at HSa hla
  rw [← hdb] at HSb hlb
  rw [← hqa] at ka
  have ka2 : (ea == 0) = true := by rw [hea, ca]; rfl
  rw [← hqb] at kb
  have kb2 : (eb == 0) = true := by rw [heb, cb]; rfl
  have hres1 := hres.1
  have hres2 := hres.2
  rw [← hda] at hres1
  obtain ⟨xa2, hxa⟩ : ∃ q, q = readU da := ⟨_, rfl⟩
  obtain ⟨xb2, hxb⟩ : ∃ q, q = readU db := ⟨_, rfl⟩
  rw [← hxa] at HSa hla
  rw [← hxb] at HSb hlb
  rw [← hxa] at hres1
  have HLA := Lib.hid hla
  have HLB := Lib.hid hlb
  have HRES := Lib.hid (And.intro hres1 hres2)
  clear ha hb hla hlb hres hres1 hres2 hda hdb hqa hqb hea heb hxa hxb xa xb oa ob ca cb
  have hbz := build_rp0
  have HM0 := Lib.hid (Mv.refl No w)
  have WI0 := Lib.hid (Wi.no w)
  go_enter Tryd.func52, Tryd.ntmps52
  go_upto_region 1 with (first | ((with_reducible refine at_al 68 ?_); refine al_rp rfl rfl ?_))
  obtain ⟨w1, hw1⟩ : ∃ q, q = w.alloc (.cells (pv (a)).toArray 35) := ⟨_, rfl⟩
  try rw [← hw1]
  have hbm : Below w.heap.size w w1 := by rw [hw1]; exact (Below.refl _ _).alloc (Nat.le_refl _) _
  have hm : Mv No No w w1 := Mv.of_below hbm
  have hbx : Stays No w1 (fun W => PgAt W w.heap.size (a)) := Stays.box HAL.out WI0.out hw1
  have hsz1 : w1.heap.size = w.heap.size + 1 := by rw [hw1]; simp
  obtain ⟨BP, hBP⟩ : ∃ q, q = w.heap.size := ⟨_, rfl⟩
  try rw [← hBP]
  rw [← hBP] at hbx hsz1
  have HM_1 := hdT HM0 hm
  have WI_1 := hdW WI0 hm
  clear HM0 WI0 hm hbm hw1 hBP
  have P_2 := Lib.hid (hbx)
  clear hbx
  obtain ⟨w2, hw2⟩ : ∃ q, q = w1.alloc (.cells (pv (b)).toArray 35) := ⟨_, rfl⟩
  try rw [← hw2]
  have hbm : Below w1.heap.size w1 w2 := by rw [hw2]; exact (Below.refl _ _).alloc (Nat.le_refl _) _
  have hm : Mv No No w1 w2 := Mv.of_below hbm
  have hbx : Stays No w2 (fun W => PgAt W w1.heap.size (b)) := Stays.box HBL.out WI_1.out hw2
  have hsz2 : w2.heap.size = w1.heap.size + 1 := by rw [hw2]; simp
  try rw [← hsz1]
  clear hsz1
  obtain ⟨BQ, hBQ⟩ : ∃ q, q = w1.heap.size := ⟨_, rfl⟩
  try rw [← hBQ]
  rw [← hBQ] at hbx hsz2
  have P_3 := hdS P_2 hm
  have HM_3 := hdT HM_1 hm
  have WI_3 := hdW WI_1 hm
  clear P_2 HM_1 WI_1 hm hbm hw2 hBQ
  have Q_4 := Lib.hid (hbx)
  clear hbx
  obtain ⟨w3, hw3⟩ : ∃ q, q = w2.alloc (.cells (sv (sup0)).toArray 68) := ⟨_, rfl⟩
  try rw [← hw3]
  have hbm : Below w2.heap.size w2 w3 := by rw [hw3]; exact (Below.refl _ _).alloc (Nat.le_refl _) _
  have hm : Mv No No w2 w3 := Mv.of_below hbm
  have hbx : Stays No w3 (fun W => SupAt W w2.heap.size (sup0)) := Stays.boxS sup0_l WI_3.out hw3
  have hsz3 : w3.heap.size = w2.heap.size + 1 := by rw [hw3]; simp
  try rw [← hsz2]
  clear hsz2
  obtain ⟨BR, hBR⟩ : ∃ q, q = w2.heap.size := ⟨_, rfl⟩
  have HBR : Hid (w.heap.size ≤ BR) := Lib.hid (by rw [hBR]; exact HM_3.out.size)
  try rw [← hBR]
  rw [← hBR] at hbx hsz3
  have P_5 := hdS P_3 hm
  have Q_5 := hdS Q_4 hm
  have HM_5 := hdT HM_3 hm
  have WI_5 := hdW WI_3 hm
  clear P_3 Q_4 HM_3 WI_3 hm hbm hw3 hBR
  have R_6 := Lib.hid (hbx)
  clear hbx hsz3
  go_wp2_with (first | ((with_reducible refine at_ld 35 (.tmp 2) ?_); refine ld_pr rfl _ rfl BP (0) rfl a ?_ ?_ ?_; exact HAL.out; exact (P_5.out.now).r))
  refine (HRA.out _).mono ?_
  rintro e w4 ⟨rfl, hb⟩
  have hbm : Below w3.heap.size w3 w4 := hb
  clear hb
  have hm : Mv No No w3 w4 := Mv.of_below hbm
  have P_7 := hdS P_5 hm
  have Q_7 := hdS Q_5 hm
  have R_7 := hdS R_6 hm
  have HM_7 := hdT HM_5 hm
  have WI_7 := hdW WI_5 hm
  clear P_5 Q_5 R_6 HM_5 WI_5 hm hbm
  go_wp2_with (first | ((with_reducible refine at_ld 35 (.tmp 3) ?_); refine ld_pr rfl _ rfl BQ (0) rfl b ?_ ?_ ?_; exact HBL.out; exact (Q_7.out.now).r))
  refine (HRB.out _).mono ?_
  rintro e w5 ⟨rfl, hb⟩
  have hbm : Below w4.heap.size w4 w5 := hb
  clear hb
  have hm : Mv No No w4 w5 := Mv.of_below hbm
  have P_8 := hdS P_7 hm
  have Q_8 := hdS Q_7 hm
  have R_8 := hdS R_7 hm
  have HM_8 := hdT HM_7 hm
  have WI_8 := hdW WI_7 hm
  clear P_7 Q_7 R_7 HM_7 WI_7 hm hbm
  go_wp2_with fail
  refine (HSa.out _).mono ?_
  rintro e w6 ⟨rfl, hb⟩
  have hbm : Below w5.heap.size w5 w6 := hb
  clear hb
  have hm : Mv No No w5 w6 := Mv.of_below hbm
  have P_9 := hdS P_8 hm
  have Q_9 := hdS Q_8 hm
  have R_9 := hdS R_8 hm
  have HM_9 := hdT HM_8 hm
  have WI_9 := hdW WI_8 hm
  clear P_8 Q_8 R_8 HM_8 WI_8 hm hbm
  go_wp2_with (first | ((with_reducible refine at_al 68 ?_); refine al_rp rfl rfl ?_) | ((with_reducible refine at_st 68 (.tmp 12) (.tmp 31) ?_); refine stn_rp rfl _ _ rfl _ _ _ rfl rfl xa2 ?_ rfl ?_ ?_; exact HLA.out; exact ssz))
  obtain ⟨w7, hw7⟩ : ∃ q, q = w6.alloc (.cells (sv (xa2)).toArray 68) := ⟨_, rfl⟩
  try rw [← hw7]
  have hbm : Below w6.heap.size w6 w7 := by rw [hw7]; exact (Below.refl _ _).alloc (Nat.le_refl _) _
  have hm : Mv No No w6 w7 := Mv.of_below hbm
  have hbx : Stays No w7 (fun W => SupAt W w6.heap.size (xa2)) := Stays.boxS HLA.out WI_9.out hw7
  have hsz7 : w7.heap.size = w6.heap.size + 1 := by rw [hw7]; simp
  obtain ⟨BX, hBX⟩ : ∃ q, q = w6.heap.size := ⟨_, rfl⟩
  try rw [← hBX]
  rw [← hBX] at hbx hsz7
  have P_10 := hdS P_9 hm
  have Q_10 := hdS Q_9 hm
  have R_10 := hdS R_9 hm
  have HM_10 := hdT HM_9 hm
  have WI_10 := hdW WI_9 hm
  clear P_9 Q_9 R_9 HM_9 WI_9 hm hbm hw7 hBX
  have X_11 := Lib.hid (hbx)
  clear hbx hsz7
  refine (HSb.out _).mono ?_
  rintro e w8 ⟨rfl, hb⟩
  have hbm : Below w7.heap.size w7 w8 := hb
  clear hb
  have hm : Mv No No w7 w8 := Mv.of_below hbm
  have P_12 := hdS P_10 hm
  have Q_12 := hdS Q_10 hm
  have R_12 := hdS R_10 hm
  have X_12 := hdS X_11 hm
  have HM_12 := hdT HM_10 hm
  have WI_12 := hdW WI_10 hm
  clear P_10 Q_10 R_10 X_11 HM_10 WI_10 hm hbm
  go_upto_region 5 with (first | ((with_reducible refine at_al 68 ?_); refine al_rp rfl rfl ?_) | ((with_reducible refine at_st 68 (.tmp 14) (.tmp 36) ?_); refine stn_rp rfl _ _ rfl _ _ _ rfl rfl xb2 ?_ rfl ?_ ?_; exact HLB.out; exact ssz))
  obtain ⟨w9, hw9⟩ : ∃ q, q = w8.alloc (.cells (sv (xb2)).toArray 68) := ⟨_, rfl⟩
  try rw [← hw9]
  have hbm : Below w8.heap.size w8 w9 := by rw [hw9]; exact (Below.refl _ _).alloc (Nat.le_refl _) _
  have hm : Mv No No w8 w9 := Mv.of_below hbm
  have hbx : Stays No w9 (fun W => SupAt W w8.heap.size (xb2)) := Stays.boxS HLB.out WI_12.out hw9
  have hsz9 : w9.heap.size = w8.heap.size + 1 := by rw [hw9]; simp
  obtain ⟨BY, hBY⟩ : ∃ q, q = w8.heap.size := ⟨_, rfl⟩
  try rw [← hBY]
  rw [← hBY] at hbx hsz9
  have P_13 := hdS P_12 hm
  have Q_13 := hdS Q_12 hm
  have R_13 := hdS R_12 hm
  have X_13 := hdS X_12 hm
  have HM_13 := hdT HM_12 hm
  have WI_13 := hdW WI_12 hm
  clear P_12 Q_12 R_12 X_12 HM_12 WI_12 hm hbm hw9 hBY
  have Y_14 := Lib.hid (hbx)
  clear hbx hsz9
  have htR := (R_13.out.now).t
  have HTR := Lib.hid htR
  clear htR
  go_wp2_with (first | ((with_reducible refine at_ld 68 (.tmp 12) ?_); refine ld_rp rfl _ rfl BX (0) rfl xa2 ?_ ?_ ?_; exact HLA.out; exact (X_13.out.now).r) | ((with_reducible refine at_st 68 (.tmp 4) (.tmp 68) ?_); refine st_rp rfl _ _ rfl BR 0 rfl xa2 ?_ rfl ?_ ?_; exact HLA.out; exact HTR.out))
  have hld := run_loadVar_mid (P := Tryd.prog) (w9.setCells BR 0 (sv xa2)) BR 0 68 (sv xa2) _ (World.rangeAt_setCells_same w9 _ _ _ (by rw [sv_length HLA.out]; exact HTR.out)) Tryd.underlying68 rfl (szof_rp HLA.out)
  exact bodyPost_ret (v := .tuple #[.agg (sv xa2).toArray, .bool true]) (results_pg Tryd.results52 _ _ _ _ _ rfl rfl hld) rfl ⟨by rw [HRES.out.1, HRES.out.2], HM_13.out.below.trans (setCells_below _ _ _ _ _ HBR.out)⟩
set_option maxHeartbeats 4000000 in
set_option maxRecDepth 100000 in
theorem rbest_yy_g (a b : Pg) (ha : a.length = 128) (hb : b.length = 128) (oa : okU (rdD a) = true) (ka : (rdK a == 1) = true) (ob : okU (rdD b) = true) (kb : (rdK b == 1) = true) (hg : decide ((readU (rdD b)).g ≤ (readU (rdD a)).g) = true) (w : World) : Calls Tryd.prog 52 #[.agg (pv a).toArray, .agg (pv b).toArray] w fun e w' => e = .returned (.tuple #[.agg (sv (rbS a b)).toArray, .bool (rbB a b)]) ∧ Below w.heap.size w w' := by
  have ca := ok_code a oa
  have xa : exU a = true := by unfold exU; rw [oa, ca, ka]; rfl
  have cb := ok_code b ob
  have xb : exU b = true := by unfold exU; rw [ob, cb, kb]; rfl
  have hres : rbS a b = readU (rdD a) ∧ rbB a b = true := by unfold rbS rbB; rw [xa, xb]; simp [of_decide_eq_true hg]
  have HAL := Lib.hid ha
  have HBL := Lib.hid hb
  have HRA := Lib.hid (fun w => rread5 a ha w)
  have HRB := Lib.hid (fun w => rread5 b hb w)
  have HSa := Lib.hid (fun w => rread_sup (rdD a) w)
  rw [oa] at HSa
  have hla := (readU_fits (rdD a)).l
  obtain ⟨da, hda⟩ : ∃ q, q = rdD a := ⟨_, rfl⟩
  obtain ⟨qa, hqa⟩ : ∃ q, q = rdK a := ⟨_, rfl⟩
  obtain ⟨ea, hea⟩ : ∃ q, q = rdC a := ⟨_, rfl⟩
  have HSb := Lib.hid (fun w => rread_sup (rdD b) w)
  rw [ob] at HSb
  have hlb := (readU_fits (rdD b)).l
  obtain ⟨db, hdb⟩ : ∃ q, q = rdD b := ⟨_, rfl⟩
  obtain ⟨qb, hqb⟩ : ∃ q, q = rdK b := ⟨_, rfl⟩
  obtain ⟨eb, heb⟩ : ∃ q, q = rdC b := ⟨_, rfl⟩
  rw [← hda, ← hqa, ← hea] at HRA
  rw [← hdb, ← hqb, ← heb] at HRB
  rw [← hda] at HSa hla
  rw [← hdb] at HSb hlb
  rw [← hqa] at ka
  have ka2 : (ea == 0) = true := by rw [hea, ca]; rfl
  rw [← hqb] at kb
  have kb2 : (eb == 0) = true := by rw [heb, cb]; rfl
  have hres1 := hres.1
  have hres2 := hres.2
  rw [← hda] at hres1
  rw [← hda, ← hdb] at hg
  obtain ⟨xa2, hxa⟩ : ∃ q, q = readU da := ⟨_, rfl⟩
  obtain ⟨xb2, hxb⟩ : ∃ q, q = readU db := ⟨_, rfl⟩
  rw [← hxa] at HSa hla
  rw [← hxb] at HSb hlb
  rw [← hxa, ← hxb] at hg
  rw [← hxa] at hres1
  have HLA := Lib.hid hla
  have HLB := Lib.hid hlb
  have HRES := Lib.hid (And.intro hres1 hres2)
  clear ha hb hla hlb hres hres1 hres2 hda hdb hqa hqb hea heb hxa hxb xa xb oa ob ca cb
  have hbz := build_rp0
  have HM0 := Lib.hid (Mv.refl No w)
  have WI0 := Lib.hid (Wi.no w)
  go_enter Tryd.func52, Tryd.ntmps52
  go_upto_region 1 with (first | ((with_reducible refine at_al 68 ?_); refine al_rp rfl rfl ?_))
  obtain ⟨w1, hw1⟩ : ∃ q, q = w.alloc (.cells (pv (a)).toArray 35) := ⟨_, rfl⟩
  try rw [← hw1]
  have hbm : Below w.heap.size w w1 := by rw [hw1]; exact (Below.refl _ _).alloc (Nat.le_refl _) _
  have hm : Mv No No w w1 := Mv.of_below hbm
  have hbx : Stays No w1 (fun W => PgAt W w.heap.size (a)) := Stays.box HAL.out WI0.out hw1
  have hsz1 : w1.heap.size = w.heap.size + 1 := by rw [hw1]; simp
  obtain ⟨BP, hBP⟩ : ∃ q, q = w.heap.size := ⟨_, rfl⟩
  try rw [← hBP]
  rw [← hBP] at hbx hsz1
  have HM_1 := hdT HM0 hm
  have WI_1 := hdW WI0 hm
  clear HM0 WI0 hm hbm hw1 hBP
  have P_2 := Lib.hid (hbx)
  clear hbx
  obtain ⟨w2, hw2⟩ : ∃ q, q = w1.alloc (.cells (pv (b)).toArray 35) := ⟨_, rfl⟩
  try rw [← hw2]
  have hbm : Below w1.heap.size w1 w2 := by rw [hw2]; exact (Below.refl _ _).alloc (Nat.le_refl _) _
  have hm : Mv No No w1 w2 := Mv.of_below hbm
  have hbx : Stays No w2 (fun W => PgAt W w1.heap.size (b)) := Stays.box HBL.out WI_1.out hw2
  have hsz2 : w2.heap.size = w1.heap.size + 1 := by rw [hw2]; simp
  try rw [← hsz1]
  clear hsz1
  obtain ⟨BQ, hBQ⟩ : ∃ q, q = w1.heap.size := ⟨_, rfl⟩
  try rw [← hBQ]
  rw [← hBQ] at hbx hsz2
  have P_3 := hdS P_2 hm
  have HM_3 := hdT HM_1 hm
  have WI_3 := hdW WI_1 hm
  clear P_2 HM_1 WI_1 hm hbm hw2 hBQ
  have Q_4 := Lib.hid (hbx)
  clear hbx
  obtain ⟨w3, hw3⟩ : ∃ q, q = w2.alloc (.cells (sv (sup0)).toArray 68) := ⟨_, rfl⟩
  try rw [← hw3]
  have hbm : Below w2.heap.size w2 w3 := by rw [hw3]; exact (Below.refl _ _).alloc (Nat.le_refl _) _
  have hm : Mv No No w2 w3 := Mv.of_below hbm
  have hbx : Stays No w3 (fun W => SupAt W w2.heap.size (sup0)) := Stays.boxS sup0_l WI_3.out hw3
  have hsz3 : w3.heap.size = w2.heap.size + 1 := by rw [hw3]; simp
  try rw [← hsz2]
  clear hsz2
  obtain ⟨BR, hBR⟩ : ∃ q, q = w2.heap.size := ⟨_, rfl⟩
  have HBR : Hid (w.heap.size ≤ BR) := Lib.hid (by rw [hBR]; exact HM_3.out.size)
  try rw [← hBR]
  rw [← hBR] at hbx hsz3
  have P_5 := hdS P_3 hm
  have Q_5 := hdS Q_4 hm
  have HM_5 := hdT HM_3 hm
  have WI_5 := hdW WI_3 hm
  clear P_3 Q_4 HM_3 WI_3 hm hbm hw3 hBR
  have R_6 := Lib.hid (hbx)
  clear hbx hsz3
  go_wp2_with (first | ((with_reducible refine at_ld 35 (.tmp 2) ?_); refine ld_pr rfl _ rfl BP (0) rfl a ?_ ?_ ?_; exact HAL.out; exact (P_5.out.now).r))
  refine (HRA.out _).mono ?_
  rintro e w4 ⟨rfl, hb⟩
  have hbm : Below w3.heap.size w3 w4 := hb
  clear hb
  have hm : Mv No No w3 w4 := Mv.of_below hbm
  have P_7 := hdS P_5 hm
  have Q_7 := hdS Q_5 hm
  have R_7 := hdS R_6 hm
  have HM_7 := hdT HM_5 hm
  have WI_7 := hdW WI_5 hm
  clear P_5 Q_5 R_6 HM_5 WI_5 hm hbm
  go_wp2_with (first | ((with_reducible refine at_ld 35 (.tmp 3) ?_); refine ld_pr rfl _ rfl BQ (0) rfl b ?_ ?_ ?_; exact HBL.out; exact (Q_7.out.now).r))
  refine (HRB.out _).mono ?_
  rintro e w5 ⟨rfl, hb⟩
  have hbm : Below w4.heap.size w4 w5 := hb
  clear hb
  have hm : Mv No No w4 w5 := Mv.of_below hbm
  have P_8 := hdS P_7 hm
  have Q_8 := hdS Q_7 hm
  have R_8 := hdS R_7 hm
  have HM_8 := hdT HM_7 hm
  have WI_8 := hdW WI_7 hm
  clear P_7 Q_7 R_7 HM_7 WI_7 hm hbm
  go_wp2_with fail
  refine (HSa.out _).mono ?_
  rintro e w6 ⟨rfl, hb⟩
  have hbm : Below w5.heap.size w5 w6 := hb
  clear hb
  have hm : Mv No No w5 w6 := Mv.of_below hbm
  have P_9 := hdS P_8 hm
  have Q_9 := hdS Q_8 hm
  have R_9 := hdS R_8 hm
  have HM_9 := hdT HM_8 hm
  have WI_9 := hdW WI_8 hm
  clear P_8 Q_8 R_8 HM_8 WI_8 hm hbm
  go_wp2_with (first | ((with_reducible refine at_al 68 ?_); refine al_rp rfl rfl ?_) | ((with_reducible refine at_st 68 (.tmp 12) (.tmp 31) ?_); refine stn_rp rfl _ _ rfl _ _ _ rfl rfl xa2 ?_ rfl ?_ ?_; exact HLA.out; exact ssz))
  obtain ⟨w7, hw7⟩ : ∃ q, q = w6.alloc (.cells (sv (xa2)).toArray 68) := ⟨_, rfl⟩
  try rw [← hw7]
  have hbm : Below w6.heap.size w6 w7 := by rw [hw7]; exact (Below.refl _ _).alloc (Nat.le_refl _) _
  have hm : Mv No No w6 w7 := Mv.of_below hbm
  have hbx : Stays No w7 (fun W => SupAt W w6.heap.size (xa2)) := Stays.boxS HLA.out WI_9.out hw7
  have hsz7 : w7.heap.size = w6.heap.size + 1 := by rw [hw7]; simp
  obtain ⟨BX, hBX⟩ : ∃ q, q = w6.heap.size := ⟨_, rfl⟩
  try rw [← hBX]
  rw [← hBX] at hbx hsz7
  have P_10 := hdS P_9 hm
  have Q_10 := hdS Q_9 hm
  have R_10 := hdS R_9 hm
  have HM_10 := hdT HM_9 hm
  have WI_10 := hdW WI_9 hm
  clear P_9 Q_9 R_9 HM_9 WI_9 hm hbm hw7 hBX
  have X_11 := Lib.hid (hbx)
  clear hbx hsz7
  refine (HSb.out _).mono ?_
  rintro e w8 ⟨rfl, hb⟩
  have hbm : Below w7.heap.size w7 w8 := hb
  clear hb
  have hm : Mv No No w7 w8 := Mv.of_below hbm
  have P_12 := hdS P_10 hm
  have Q_12 := hdS Q_10 hm
  have R_12 := hdS R_10 hm
  have X_12 := hdS X_11 hm
  have HM_12 := hdT HM_10 hm
  have WI_12 := hdW WI_10 hm
  clear P_10 Q_10 R_10 X_11 HM_10 WI_10 hm hbm
  go_upto_region 5 with (first | ((with_reducible refine at_al 68 ?_); refine al_rp rfl rfl ?_) | ((with_reducible refine at_st 68 (.tmp 14) (.tmp 36) ?_); refine stn_rp rfl _ _ rfl _ _ _ rfl rfl xb2 ?_ rfl ?_ ?_; exact HLB.out; exact ssz))
  obtain ⟨w9, hw9⟩ : ∃ q, q = w8.alloc (.cells (sv (xb2)).toArray 68) := ⟨_, rfl⟩
  try rw [← hw9]
  have hbm : Below w8.heap.size w8 w9 := by rw [hw9]; exact (Below.refl _ _).alloc (Nat.le_refl _) _
  have hm : Mv No No w8 w9 := Mv.of_below hbm
  have hbx : Stays No w9 (fun W => SupAt W w8.heap.size (xb2)) := Stays.boxS HLB.out WI_12.out hw9
  have hsz9 : w9.heap.size = w8.heap.size + 1 := by rw [hw9]; simp
  obtain ⟨BY, hBY⟩ : ∃ q, q = w8.heap.size := ⟨_, rfl⟩
  try rw [← hBY]
  rw [← hBY] at hbx hsz9
  have P_13 := hdS P_12 hm
  have Q_13 := hdS Q_12 hm
  have R_13 := hdS R_12 hm
  have X_13 := hdS X_12 hm
  have HM_13 := hdT HM_12 hm
  have WI_13 := hdW WI_12 hm
  clear P_12 Q_12 R_12 X_12 HM_12 WI_12 hm hbm hw9 hBY
  have Y_14 := Lib.hid (hbx)
  clear hbx hsz9
  have cga := (X_13.out.now).gen
  have cgb := (Y_14.out.now).gen
  have htR := (R_13.out.now).t
  have HTR := Lib.hid htR
  clear htR
  go_wp2_with (first | ((with_reducible refine at_ld 68 (.tmp 12) ?_); refine ld_rp rfl _ rfl BX (0) rfl xa2 ?_ ?_ ?_; exact HLA.out; exact (X_13.out.now).r) | ((with_reducible refine at_st 68 (.tmp 4) (.tmp 68) ?_); refine st_rp rfl _ _ rfl BR 0 rfl xa2 ?_ rfl ?_ ?_; exact HLA.out; exact HTR.out))
  have hld := run_loadVar_mid (P := Tryd.prog) (w9.setCells BR 0 (sv xa2)) BR 0 68 (sv xa2) _ (World.rangeAt_setCells_same w9 _ _ _ (by rw [sv_length HLA.out]; exact HTR.out)) Tryd.underlying68 rfl (szof_rp HLA.out)
  exact bodyPost_ret (v := .tuple #[.agg (sv xa2).toArray, .bool true]) (results_pg Tryd.results52 _ _ _ _ _ rfl rfl hld) rfl ⟨by rw [HRES.out.1, HRES.out.2], HM_13.out.below.trans (setCells_below _ _ _ _ _ HBR.out)⟩
set_option maxHeartbeats 4000000 in
set_option maxRecDepth 100000 in
theorem rbest_yy_l (a b : Pg) (ha : a.length = 128) (hb : b.length = 128) (oa : okU (rdD a) = true) (ka : (rdK a == 1) = true) (ob : okU (rdD b) = true) (kb : (rdK b == 1) = true) (hg : decide ((readU (rdD b)).g ≤ (readU (rdD a)).g) = false) (w : World) : Calls Tryd.prog 52 #[.agg (pv a).toArray, .agg (pv b).toArray] w fun e w' => e = .returned (.tuple #[.agg (sv (rbS a b)).toArray, .bool (rbB a b)]) ∧ Below w.heap.size w w' := by
  have ca := ok_code a oa
  have xa : exU a = true := by unfold exU; rw [oa, ca, ka]; rfl
  have cb := ok_code b ob
  have xb : exU b = true := by unfold exU; rw [ob, cb, kb]; rfl
  have hres : rbS a b = readU (rdD b) ∧ rbB a b = true := by unfold rbS rbB; rw [xa, xb]; simp; have := of_decide_eq_false hg; omega
  have HAL := Lib.hid ha
  have HBL := Lib.hid hb
  have HRA := Lib.hid (fun w => rread5 a ha w)
  have HRB := Lib.hid (fun w => rread5 b hb w)
  have HSa := Lib.hid (fun w => rread_sup (rdD a) w)
  rw [oa] at HSa
  have hla := (readU_fits (rdD a)).l
  obtain ⟨da, hda⟩ : ∃ q, q = rdD a := ⟨_, rfl⟩
  obtain ⟨qa, hqa⟩ : ∃ q, q = rdK a := ⟨_, rfl⟩
  obtain ⟨ea, hea⟩ : ∃ q, q = rdC a := ⟨_, rfl⟩
  have HSb := Lib.hid (fun w => rread_sup (rdD b) w)
  rw [ob] at HSb
  have hlb := (readU_fits (rdD b)).l
  obtain ⟨db, hdb⟩ : ∃ q, q = rdD b := ⟨_, rfl⟩
  obtain ⟨qb, hqb⟩ : ∃ q, q = rdK b := ⟨_, rfl⟩
  obtain ⟨eb, heb⟩ : ∃ q, q = rdC b := ⟨_, rfl⟩
  rw [← hda, ← hqa, ← hea] at HRA
  rw [← hdb, ← hqb, ← heb] at HRB
  rw [← hda] at HSa hla
  rw [← hdb] at HSb hlb
  rw [← hqa] at ka
  have ka2 : (ea == 0) = true := by rw [hea, ca]; rfl
  rw [← hqb] at kb
  have kb2 : (eb == 0) = true := by rw [heb, cb]; rfl
  have hres1 := hres.1
  have hres2 := hres.2
  rw [← hdb] at hres1
  rw [← hda, ← hdb] at hg
  obtain ⟨xa2, hxa⟩ : ∃ q, q = readU da := ⟨_, rfl⟩
  obtain ⟨xb2, hxb⟩ : ∃ q, q = readU db := ⟨_, rfl⟩
  rw [← hxa] at HSa hla
  rw [← hxb] at HSb hlb
  rw [← hxa, ← hxb] at hg
  rw [← hxb] at hres1
  have HLA := Lib.hid hla
  have HLB := Lib.hid hlb
  have HRES := Lib.hid (And.intro hres1 hres2)
  clear ha hb hla hlb hres hres1 hres2 hda hdb hqa hqb hea heb hxa hxb xa xb oa ob ca cb
  have hbz := build_rp0
  have HM0 := Lib.hid (Mv.refl No w)
  have WI0 := Lib.hid (Wi.no w)
  go_enter Tryd.func52, Tryd.ntmps52
  go_upto_region 1 with (first | ((with_reducible refine at_al 68 ?_); refine al_rp rfl rfl ?_))
  obtain ⟨w1, hw1⟩ : ∃ q, q = w.alloc (.cells (pv (a)).toArray 35) := ⟨_, rfl⟩
  try rw [← hw1]
  have hbm : Below w.heap.size w w1 := by rw [hw1]; exact (Below.refl _ _).alloc (Nat.le_refl _) _
  have hm : Mv No No w w1 := Mv.of_below hbm
  have hbx : Stays No w1 (fun W => PgAt W w.heap.size (a)) := Stays.box HAL.out WI0.out hw1
  have hsz1 : w1.heap.size = w.heap.size + 1 := by rw [hw1]; simp
  obtain ⟨BP, hBP⟩ : ∃ q, q = w.heap.size := ⟨_, rfl⟩
  try rw [← hBP]
  rw [← hBP] at hbx hsz1
  have HM_1 := hdT HM0 hm
  have WI_1 := hdW WI0 hm
  clear HM0 WI0 hm hbm hw1 hBP
  have P_2 := Lib.hid (hbx)
  clear hbx
  obtain ⟨w2, hw2⟩ : ∃ q, q = w1.alloc (.cells (pv (b)).toArray 35) := ⟨_, rfl⟩
  try rw [← hw2]
  have hbm : Below w1.heap.size w1 w2 := by rw [hw2]; exact (Below.refl _ _).alloc (Nat.le_refl _) _
  have hm : Mv No No w1 w2 := Mv.of_below hbm
  have hbx : Stays No w2 (fun W => PgAt W w1.heap.size (b)) := Stays.box HBL.out WI_1.out hw2
  have hsz2 : w2.heap.size = w1.heap.size + 1 := by rw [hw2]; simp
  try rw [← hsz1]
  clear hsz1
  obtain ⟨BQ, hBQ⟩ : ∃ q, q = w1.heap.size := ⟨_, rfl⟩
  try rw [← hBQ]
  rw [← hBQ] at hbx hsz2
  have P_3 := hdS P_2 hm
  have HM_3 := hdT HM_1 hm
  have WI_3 := hdW WI_1 hm
  clear P_2 HM_1 WI_1 hm hbm hw2 hBQ
  have Q_4 := Lib.hid (hbx)
  clear hbx
  obtain ⟨w3, hw3⟩ : ∃ q, q = w2.alloc (.cells (sv (sup0)).toArray 68) := ⟨_, rfl⟩
  try rw [← hw3]
  have hbm : Below w2.heap.size w2 w3 := by rw [hw3]; exact (Below.refl _ _).alloc (Nat.le_refl _) _
  have hm : Mv No No w2 w3 := Mv.of_below hbm
  have hbx : Stays No w3 (fun W => SupAt W w2.heap.size (sup0)) := Stays.boxS sup0_l WI_3.out hw3
  have hsz3 : w3.heap.size = w2.heap.size + 1 := by rw [hw3]; simp
  try rw [← hsz2]
  clear hsz2
  obtain ⟨BR, hBR⟩ : ∃ q, q = w2.heap.size := ⟨_, rfl⟩
  have HBR : Hid (w.heap.size ≤ BR) := Lib.hid (by rw [hBR]; exact HM_3.out.size)
  try rw [← hBR]
  rw [← hBR] at hbx hsz3
  have P_5 := hdS P_3 hm
  have Q_5 := hdS Q_4 hm
  have HM_5 := hdT HM_3 hm
  have WI_5 := hdW WI_3 hm
  clear P_3 Q_4 HM_3 WI_3 hm hbm hw3 hBR
  have R_6 := Lib.hid (hbx)
  clear hbx hsz3
  go_wp2_with (first | ((with_reducible refine at_ld 35 (.tmp 2) ?_); refine ld_pr rfl _ rfl BP (0) rfl a ?_ ?_ ?_; exact HAL.out; exact (P_5.out.now).r))
  refine (HRA.out _).mono ?_
  rintro e w4 ⟨rfl, hb⟩
  have hbm : Below w3.heap.size w3 w4 := hb
  clear hb
  have hm : Mv No No w3 w4 := Mv.of_below hbm
  have P_7 := hdS P_5 hm
  have Q_7 := hdS Q_5 hm
  have R_7 := hdS R_6 hm
  have HM_7 := hdT HM_5 hm
  have WI_7 := hdW WI_5 hm
  clear P_5 Q_5 R_6 HM_5 WI_5 hm hbm
  go_wp2_with (first | ((with_reducible refine at_ld 35 (.tmp 3) ?_); refine ld_pr rfl _ rfl BQ (0) rfl b ?_ ?_ ?_; exact HBL.out; exact (Q_7.out.now).r))
  refine (HRB.out _).mono ?_
  rintro e w5 ⟨rfl, hb⟩
  have hbm : Below w4.heap.size w4 w5 := hb
  clear hb
  have hm : Mv No No w4 w5 := Mv.of_below hbm
  have P_8 := hdS P_7 hm
  have Q_8 := hdS Q_7 hm
  have R_8 := hdS R_7 hm
  have HM_8 := hdT HM_7 hm
  have WI_8 := hdW WI_7 hm
  clear P_7 Q_7 R_7 HM_7 WI_7 hm hbm
  go_wp2_with fail
  refine (HSa.out _).mono ?_
  rintro e w6 ⟨rfl, hb⟩
  have hbm : Below w5.heap.size w5 w6 := hb
  clear hb
  have hm : Mv No No w5 w6 := Mv.of_below hbm
  have P_9 := hdS P_8 hm
  have Q_9 := hdS Q_8 hm
  have R_9 := hdS R_8 hm
  have HM_9 := hdT HM_8 hm
  have WI_9 := hdW WI_8 hm
  clear P_8 Q_8 R_8 HM_8 WI_8 hm hbm
  go_wp2_with (first | ((with_reducible refine at_al 68 ?_); refine al_rp rfl rfl ?_) | ((with_reducible refine at_st 68 (.tmp 12) (.tmp 31) ?_); refine stn_rp rfl _ _ rfl _ _ _ rfl rfl xa2 ?_ rfl ?_ ?_; exact HLA.out; exact ssz))
  obtain ⟨w7, hw7⟩ : ∃ q, q = w6.alloc (.cells (sv (xa2)).toArray 68) := ⟨_, rfl⟩
  try rw [← hw7]
  have hbm : Below w6.heap.size w6 w7 := by rw [hw7]; exact (Below.refl _ _).alloc (Nat.le_refl _) _
  have hm : Mv No No w6 w7 := Mv.of_below hbm
  have hbx : Stays No w7 (fun W => SupAt W w6.heap.size (xa2)) := Stays.boxS HLA.out WI_9.out hw7
  have hsz7 : w7.heap.size = w6.heap.size + 1 := by rw [hw7]; simp
  obtain ⟨BX, hBX⟩ : ∃ q, q = w6.heap.size := ⟨_, rfl⟩
  try rw [← hBX]
  rw [← hBX] at hbx hsz7
  have P_10 := hdS P_9 hm
  have Q_10 := hdS Q_9 hm
  have R_10 := hdS R_9 hm
  have HM_10 := hdT HM_9 hm
  have WI_10 := hdW WI_9 hm
  clear P_9 Q_9 R_9 HM_9 WI_9 hm hbm hw7 hBX
  have X_11 := Lib.hid (hbx)
  clear hbx hsz7
  refine (HSb.out _).mono ?_
  rintro e w8 ⟨rfl, hb⟩
  have hbm : Below w7.heap.size w7 w8 := hb
  clear hb
  have hm : Mv No No w7 w8 := Mv.of_below hbm
  have P_12 := hdS P_10 hm
  have Q_12 := hdS Q_10 hm
  have R_12 := hdS R_10 hm
  have X_12 := hdS X_11 hm
  have HM_12 := hdT HM_10 hm
  have WI_12 := hdW WI_10 hm
  clear P_10 Q_10 R_10 X_11 HM_10 WI_10 hm hbm
  go_upto_region 5 with (first | ((with_reducible refine at_al 68 ?_); refine al_rp rfl rfl ?_) | ((with_reducible refine at_st 68 (.tmp 14) (.tmp 36) ?_); refine stn_rp rfl _ _ rfl _ _ _ rfl rfl xb2 ?_ rfl ?_ ?_; exact HLB.out; exact ssz))
  obtain ⟨w9, hw9⟩ : ∃ q, q = w8.alloc (.cells (sv (xb2)).toArray 68) := ⟨_, rfl⟩
  try rw [← hw9]
  have hbm : Below w8.heap.size w8 w9 := by rw [hw9]; exact (Below.refl _ _).alloc (Nat.le_refl _) _
  have hm : Mv No No w8 w9 := Mv.of_below hbm
  have hbx : Stays No w9 (fun W => SupAt W w8.heap.size (xb2)) := Stays.boxS HLB.out WI_12.out hw9
  have hsz9 : w9.heap.size = w8.heap.size + 1 := by rw [hw9]; simp
  obtain ⟨BY, hBY⟩ : ∃ q, q = w8.heap.size := ⟨_, rfl⟩
  try rw [← hBY]
  rw [← hBY] at hbx hsz9
  have P_13 := hdS P_12 hm
  have Q_13 := hdS Q_12 hm
  have R_13 := hdS R_12 hm
  have X_13 := hdS X_12 hm
  have HM_13 := hdT HM_12 hm
  have WI_13 := hdW WI_12 hm
  clear P_12 Q_12 R_12 X_12 HM_12 WI_12 hm hbm hw9 hBY
  have Y_14 := Lib.hid (hbx)
  clear hbx hsz9
  have cga := (X_13.out.now).gen
  have cgb := (Y_14.out.now).gen
  have htR := (R_13.out.now).t
  have HTR := Lib.hid htR
  clear htR
  go_wp2_with (first | ((with_reducible refine at_ld 68 (.tmp 14) ?_); refine ld_rp rfl _ rfl BY (0) rfl xb2 ?_ ?_ ?_; exact HLB.out; exact (Y_14.out.now).r) | ((with_reducible refine at_st 68 (.tmp 4) (.tmp 70) ?_); refine st_rp rfl _ _ rfl BR 0 rfl xb2 ?_ rfl ?_ ?_; exact HLB.out; exact HTR.out))
  have hld := run_loadVar_mid (P := Tryd.prog) (w9.setCells BR 0 (sv xb2)) BR 0 68 (sv xb2) _ (World.rangeAt_setCells_same w9 _ _ _ (by rw [sv_length HLB.out]; exact HTR.out)) Tryd.underlying68 rfl (szof_rp HLB.out)
  exact bodyPost_ret (v := .tuple #[.agg (sv xb2).toArray, .bool true]) (results_pg Tryd.results52 _ _ _ _ _ rfl rfl hld) rfl ⟨by rw [HRES.out.1, HRES.out.2], HM_13.out.below.trans (setCells_below _ _ _ _ _ HBR.out)⟩
theorem rbest_any (a b : Pg) (ha : a.length = 128) (hb : b.length = 128) (w : World) : Calls Tryd.prog 52 #[.agg (pv a).toArray, .agg (pv b).toArray] w fun e w' => e = .returned (.tuple #[.agg (sv (rbS a b)).toArray, .bool (rbB a b)]) ∧ Below w.heap.size w w' := by
  cases oa : okU (rdD a)
  · cases ob : okU (rdD b)
    · exact rbest_nn a b ha hb oa ob w
    · cases kb : rdK b == 1
      · exact rbest_nk a b ha hb oa ob kb w
      · exact rbest_ny a b ha hb oa ob kb w
  · cases ka : rdK a == 1
    · cases ob : okU (rdD b)
      · exact rbest_kn a b ha hb oa ka ob w
      · cases kb : rdK b == 1
        · exact rbest_kk a b ha hb oa ka ob kb w
        · exact rbest_ky a b ha hb oa ka ob kb w
    · cases ob : okU (rdD b)
      · exact rbest_yn a b ha hb oa ka ob w
      · cases kb : rdK b == 1
        · exact rbest_yk a b ha hb oa ka ob kb w
        · cases hg : decide ((readU (rdD b)).g ≤ (readU (rdD a)).g)
          · exact rbest_yy_l a b ha hb oa ka ob kb hg w
          · exact rbest_yy_g a b ha hb oa ka ob kb hg w
end Go.Proofs.YtmnkgcgmbdkjaaaDoor
