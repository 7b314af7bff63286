/- ClaimTakes: the walk. -/
import Derived.Test.YtfgbnnmaooillaaDoorClaimB
namespace Go.Proofs.YtfgbnnmaooillaaDoor
open Go.RowKit Go.Extern.Stop Go.Stop Go.Extern Go.Proofs.YtfgbnnmaooillaaDoorW.PrintWords Go.Proofs.YtfgbnnmaooillaaDoorW.PrintLast Go.Proofs.YtfgbnnmaooillaaDoorW.PrintMore Go.Proofs.YtfgbnnmaooillaaDoor.PClaimTakes
set_option linter.unusedVariables false
set_option linter.unusedSimpArgs false

theorem at_f (l : List Int) (r : Nat) : dynamoref18_At.f l r = some (placeL l r) := by
  unfold dynamoref18_At.f
  rw [if_neg (by omega)]
  by_cases h : r < l.length
  · rw [if_neg (by omega), if_pos (by omega), if_pos (by omega), placeL_lt l r h]
  · rw [if_pos (by omega), placeL_ge l r (by omega)]
theorem at_any (A : Option Addr) (l : List Int) (cp : Nat) (r : Nat) {p : Int} (hp : placeL l r = p) (W : World) (h : Ints W A l cp) : Calls Tryd.prog 17 #[.slice A l.length cp, .int .i64 r] W fun e w' => e = .returned (.int .i64 p) ∧ Below W.heap.size W w' :=
  (dynamoref18_At.calls A cp l r p W h.1 h.2 (by rw [at_f, hp])).mono fun _ _ ⟨he, hd⟩ => ⟨he, hd.below⟩
theorem taken_mem {l : List Int} {k : Nat} {p : Int} (h : placeL l k = p) (hp : 0 ≤ p) : p ∈ l := by
  rcases Nat.lt_or_ge k l.length with q | q
  · rw [← h, placeL_lt l k q]; exact rd_mem q
  · rw [placeL_ge l k q] at h; omega
theorem taken_free {l : List Int} {k : Nat} {p : Int} (h : placeL l k = p) (hp : 0 ≤ p) : freeB l p = false := by
  unfold freeB; rw [decide_eq_false_iff_not]
  rintro (q | q)
  · omega
  · exact q (taken_mem h hp)
set_option maxHeartbeats 2000000 in
theorem takes_neg (A : Option Addr) (l : List Int) (cp : Nat) (a b : Int) (k j : Nat) (p : Int) (a0 : 0 ≤ a) (b0 : 0 ≤ b) (a1 : a ≤ 255) (b1 : b ≤ 255) (hk : a % 10 = (k : Int)) (hj : b % 10 = (j : Int)) (hl : l.length ≤ 10) (hp : placeL l k = p) (h1 : p < 0) (W : World) (tied : Tied W) (h : Ints W A l cp) :
    Calls Tryd.prog 4 #[.slice A l.length cp, .int .u8 a, .int .u8 b] W fun e w' => e = .returned (.bool true) ∧ Below W.heap.size W w' := by
  have T := Lib.hid tied
  have H := Lib.hid h
  have hl9 : l.length ≤ 1000 := by omega
  have hd : decide ((10 : Int) < (l.length : Int)) = false := by simp; omega
  have hat := Lib.hid (at_any A l cp k hp)
  clear tied h
  have hd1 : decide (p < 0) = true := by simpa using h1
  go_enter Tryd.func4, Tryd.ntmps4
  go_wp2_with fail
  refine (claim_awake _ T.out).mono ?_
  rintro e w1 ⟨rfl, hb⟩
  have HB1 := Lib.hid (hb)
  clear hb
  have HB := HB1
  clear HB1
  go_wp2_with fail
  refine (hat.out _ (H.out.below HB.out)).mono ?_
  rintro e w2 ⟨rfl, hb⟩
  have HB2 := Lib.hid (bstep HB.out hb)
  clear hb
  clear HB
  have HB := HB2
  clear HB2
  go_wp2_with fail
  go_ret
  exact ⟨rfl, HB.out⟩
set_option maxHeartbeats 2000000 in
theorem takes_big (A : Option Addr) (l : List Int) (cp : Nat) (a b : Int) (k j : Nat) (p : Int) (a0 : 0 ≤ a) (b0 : 0 ≤ b) (a1 : a ≤ 255) (b1 : b ≤ 255) (hk : a % 10 = (k : Int)) (hj : b % 10 = (j : Int)) (hl : l.length ≤ 10) (hp : placeL l k = p) (h1 : ¬ p < 0) (h2 : 63 < p) (W : World) (tied : Tied W) (h : Ints W A l cp) :
    Calls Tryd.prog 4 #[.slice A l.length cp, .int .u8 a, .int .u8 b] W fun e w' => e = .returned (.bool true) ∧ Below W.heap.size W w' := by
  have T := Lib.hid tied
  have H := Lib.hid h
  have hl9 : l.length ≤ 1000 := by omega
  have hd : decide ((10 : Int) < (l.length : Int)) = false := by simp; omega
  have hat := Lib.hid (at_any A l cp k hp)
  clear tied h
  have hd1 : decide (p < 0) = false := by simpa using h1
  have hd2 : decide (63 < p) = true := by simpa using h2
  go_enter Tryd.func4, Tryd.ntmps4
  go_wp2_with fail
  refine (claim_awake _ T.out).mono ?_
  rintro e w1 ⟨rfl, hb⟩
  have HB1 := Lib.hid (hb)
  clear hb
  have HB := HB1
  clear HB1
  go_wp2_with fail
  refine (hat.out _ (H.out.below HB.out)).mono ?_
  rintro e w2 ⟨rfl, hb⟩
  have HB2 := Lib.hid (bstep HB.out hb)
  clear hb
  clear HB
  have HB := HB2
  clear HB2
  go_wp2_with fail
  go_ret
  exact ⟨rfl, HB.out⟩
set_option maxHeartbeats 2000000 in
theorem takes_same (A : Option Addr) (l : List Int) (cp : Nat) (a b : Int) (k j : Nat) (p : Int) (a0 : 0 ≤ a) (b0 : 0 ≤ b) (a1 : a ≤ 255) (b1 : b ≤ 255) (hk : a % 10 = (k : Int)) (hj : b % 10 = (j : Int)) (hl : l.length ≤ 10) (hp : placeL l k = p) (h1 : ¬ p < 0) (h2 : ¬ 63 < p) (h3 : k = j) (W : World) (tied : Tied W) (h : Ints W A l cp) :
    Calls Tryd.prog 4 #[.slice A l.length cp, .int .u8 a, .int .u8 b] W fun e w' => e = .returned (.bool true) ∧ Below W.heap.size W w' := by
  have T := Lib.hid tied
  have H := Lib.hid h
  have hl9 : l.length ≤ 1000 := by omega
  have hd : decide ((10 : Int) < (l.length : Int)) = false := by simp; omega
  have hat := Lib.hid (at_any A l cp k hp)
  clear tied h
  have hd1 : decide (p < 0) = false := by simpa using h1
  have hd2 : decide (63 < p) = false := by simpa using h2
  have hd3 : ((k : Int) == (j : Int)) = true := by rw [h3]; simp
  clear h3
  go_enter Tryd.func4, Tryd.ntmps4
  go_wp2_with fail
  refine (claim_awake _ T.out).mono ?_
  rintro e w1 ⟨rfl, hb⟩
  have HB1 := Lib.hid (hb)
  clear hb
  have HB := HB1
  clear HB1
  go_wp2_with fail
  refine (hat.out _ (H.out.below HB.out)).mono ?_
  rintro e w2 ⟨rfl, hb⟩
  have HB2 := Lib.hid (bstep HB.out hb)
  clear hb
  clear HB
  have HB := HB2
  clear HB2
  go_wp2_with fail
  go_ret
  exact ⟨rfl, HB.out⟩
set_option maxHeartbeats 2000000 in
theorem takes_both (A : Option Addr) (l : List Int) (cp : Nat) (a b : Int) (k j : Nat) (p : Int) (a0 : 0 ≤ a) (b0 : 0 ≤ b) (a1 : a ≤ 255) (b1 : b ≤ 255) (hk : a % 10 = (k : Int)) (hj : b % 10 = (j : Int)) (hl : l.length ≤ 10) (hp : placeL l k = p) (h1 : ¬ p < 0) (h2 : ¬ 63 < p) (h3 : k ≠ j) (h4 : placeL l j = p) (W : World) (tied : Tied W) (h : Ints W A l cp) :
    Calls Tryd.prog 4 #[.slice A l.length cp, .int .u8 a, .int .u8 b] W fun e w' => e = .returned (.bool true) ∧ Below W.heap.size W w' := by
  have T := Lib.hid tied
  have H := Lib.hid h
  have hl9 : l.length ≤ 1000 := by omega
  have hd : decide ((10 : Int) < (l.length : Int)) = false := by simp; omega
  have hat := Lib.hid (at_any A l cp k hp)
  clear tied h
  have hd1 : decide (p < 0) = false := by simpa using h1
  have hd2 : decide (63 < p) = false := by simpa using h2
  have hd3 : ((k : Int) == (j : Int)) = false := by simp; omega
  have haj := Lib.hid (at_any A l cp j h4)
  clear h3 h4
  go_enter Tryd.func4, Tryd.ntmps4
  go_wp2_with fail
  refine (claim_awake _ T.out).mono ?_
  rintro e w1 ⟨rfl, hb⟩
  have HB1 := Lib.hid (hb)
  clear hb
  have HB := HB1
  clear HB1
  go_wp2_with fail
  refine (hat.out _ (H.out.below HB.out)).mono ?_
  rintro e w2 ⟨rfl, hb⟩
  have HB2 := Lib.hid (bstep HB.out hb)
  clear hb
  clear HB
  have HB := HB2
  clear HB2
  go_wp2_with fail
  refine (haj.out _ (H.out.below HB.out)).mono ?_
  rintro e w3 ⟨rfl, hb⟩
  have HB3 := Lib.hid (bstep HB.out hb)
  clear hb
  clear HB
  have HB := HB3
  clear HB3
  go_wp2_with fail
  go_ret
  exact ⟨rfl, HB.out⟩
set_option maxHeartbeats 2000000 in
theorem takes_off (A : Option Addr) (l : List Int) (cp : Nat) (a b : Int) (k j : Nat) (p : Int) (a0 : 0 ≤ a) (b0 : 0 ≤ b) (a1 : a ≤ 255) (b1 : b ≤ 255) (hk : a % 10 = (k : Int)) (hj : b % 10 = (j : Int)) (hl : l.length ≤ 10) (hp : placeL l k = p) (h1 : ¬ p < 0) (h2 : ¬ 63 < p) (h3 : k ≠ j) (h4 : placeL l j = -1) (W : World) (tied : Tied W) (h : Ints W A l cp) :
    Calls Tryd.prog 4 #[.slice A l.length cp, .int .u8 a, .int .u8 b] W fun e w' => e = .returned (.bool true) ∧ Below W.heap.size W w' := by
  have T := Lib.hid tied
  have H := Lib.hid h
  have hl9 : l.length ≤ 1000 := by omega
  have hd : decide ((10 : Int) < (l.length : Int)) = false := by simp; omega
  have hat := Lib.hid (at_any A l cp k hp)
  clear tied h
  have hd1 : decide (p < 0) = false := by simpa using h1
  have hd2 : decide (63 < p) = false := by simpa using h2
  have hd3 : ((k : Int) == (j : Int)) = false := by simp; omega
  have hj9 : (j : Int) ≤ 9 := by omega
  have hm : mayB j p = true := by simp [mayB]; omega
  have hf := taken_free hp (by omega)
  have haj := Lib.hid (at_any A l cp j h4)
  have ho : onB l j = false := by unfold onB; rw [h4]; rfl
  have hpe : ((-1 : Int) == p) = false := by simp; omega
  have hen : enterC l j p = 10 := by unfold enterC; rw [if_neg (by rw [hm]; simp), Int.toNat_natCast, if_neg (by rw [ho]; simp), if_pos hf]
  have hmo : moveC l j p = 4 := by unfold moveC; rw [if_neg (by rw [hm]; simp), Int.toNat_natCast, if_pos ho]
  have hE := Lib.hid (fun W h => Enter_any A l cp j p hl9 W h)
  have hM := Lib.hid (fun W h => Move_any A l cp j p hl9 W h)
  have EN := Lib.hid hen
  have MO := Lib.hid hmo
  clear h3 h4 hen hmo ho hf hm hp
  go_enter Tryd.func4, Tryd.ntmps4
  go_wp2_with fail
  refine (claim_awake _ T.out).mono ?_
  rintro e w1 ⟨rfl, hb⟩
  have HB1 := Lib.hid (hb)
  clear hb
  have HB := HB1
  clear HB1
  go_wp2_with fail
  refine (hat.out _ (H.out.below HB.out)).mono ?_
  rintro e w2 ⟨rfl, hb⟩
  have HB2 := Lib.hid (bstep HB.out hb)
  clear hb
  clear HB
  have HB := HB2
  clear HB2
  go_wp2_with fail
  refine (haj.out _ (H.out.below HB.out)).mono ?_
  rintro e w3 ⟨rfl, hb⟩
  have HB3 := Lib.hid (bstep HB.out hb)
  clear hb
  clear HB
  have HB := HB3
  clear HB3
  go_wp2_with fail
  refine (hE.out _ (H.out.below HB.out)).mono ?_
  rintro e w4 ⟨A4, c4, ve, rfl, hi, he, hb⟩
  have Hve := Lib.hid he
  have HB4 := Lib.hid (bstep HB.out hb)
  clear hb hi he HB
  have HB := HB4
  clear HB4
  go_wp2_with fail
  refine (hM.out _ (H.out.below HB.out)).mono ?_
  rintro e w5 ⟨A5, c5, vf, rfl, hi, he, hb⟩
  have Hvf := Lib.hid he
  have HB5 := Lib.hid (bstep HB.out hb)
  have Hven := Lib.hid (Hve.out.under hb)
  clear Hve
  have Hve := Hven
  clear Hven
  clear hb hi he HB
  have HB := HB5
  clear HB5
  go_wp2_with fail
  refine (haj.out _ (H.out.below HB.out)).mono ?_
  rintro e w6 ⟨rfl, hb⟩
  have HB6 := Lib.hid (bstep HB.out hb)
  have Hven := Lib.hid (Hve.out.under hb)
  clear Hve
  have Hve := Hven
  clear Hven
  have Hvfn := Lib.hid (Hvf.out.under hb)
  clear Hvf
  have Hvf := Hvfn
  clear Hvfn
  clear hb
  clear HB
  have HB := HB6
  clear HB6
  go_wp2_with fail
  refine (Num_c _ ve 10 (by have h := Hve.out; rw [EN.out] at h; exact h) (T.out.under T.out.lt HB.out)).mono ?_
  rintro e w7 ⟨rfl, hb⟩
  have HB7 := Lib.hid (bstep HB.out hb)
  have Hvfn := Lib.hid (Hvf.out.under hb)
  clear Hvf
  have Hvf := Hvfn
  clear Hvfn
  clear hb
  clear HB
  have HB := HB7
  clear HB7
  go_wp2_with fail
  refine (Num_c _ vf 4 (by have h := Hvf.out; rw [MO.out] at h; exact h) (T.out.under T.out.lt HB.out)).mono ?_
  rintro e w8 ⟨rfl, hb⟩
  have HB8 := Lib.hid (bstep HB.out hb)
  clear hb
  clear HB
  have HB := HB8
  clear HB8
  go_wp2_with fail
  go_ret
  exact ⟨rfl, HB.out⟩
set_option maxHeartbeats 2000000 in
theorem takes_on (A : Option Addr) (l : List Int) (cp : Nat) (a b : Int) (k j : Nat) (p : Int) (a0 : 0 ≤ a) (b0 : 0 ≤ b) (a1 : a ≤ 255) (b1 : b ≤ 255) (hk : a % 10 = (k : Int)) (hj : b % 10 = (j : Int)) (hl : l.length ≤ 10) (hp : placeL l k = p) (h1 : ¬ p < 0) (h2 : ¬ 63 < p) (h3 : k ≠ j) (q : Int) (h4 : placeL l j = q) (h5 : q ≠ -1) (h6 : q ≠ p) (W : World) (tied : Tied W) (h : Ints W A l cp) :
    Calls Tryd.prog 4 #[.slice A l.length cp, .int .u8 a, .int .u8 b] W fun e w' => e = .returned (.bool true) ∧ Below W.heap.size W w' := by
  have T := Lib.hid tied
  have H := Lib.hid h
  have hl9 : l.length ≤ 1000 := by omega
  have hd : decide ((10 : Int) < (l.length : Int)) = false := by simp; omega
  have hat := Lib.hid (at_any A l cp k hp)
  clear tied h
  have hd1 : decide (p < 0) = false := by simpa using h1
  have hd2 : decide (63 < p) = false := by simpa using h2
  have hd3 : ((k : Int) == (j : Int)) = false := by simp; omega
  have hj9 : (j : Int) ≤ 9 := by omega
  have hm : mayB j p = true := by simp [mayB]; omega
  have hf := taken_free hp (by omega)
  have haj := Lib.hid (at_any A l cp j h4)
  have ho : onB l j = true := by unfold onB; rw [h4]; simpa using h5
  have hpe : (q == p) = false := by simpa using h6
  have hpo : (q == -1) = false := by simpa using h5
  have hen : enterC l j p = 5 := by unfold enterC; rw [if_neg (by rw [hm]; simp), Int.toNat_natCast, if_pos ho]
  have hmo : moveC l j p = 10 := by unfold moveC; rw [if_neg (by rw [hm]; simp), Int.toNat_natCast, if_neg (by rw [ho]; simp), if_pos ⟨by rw [h4]; exact h6, hf⟩]
  have hE := Lib.hid (fun W h => Enter_any A l cp j p hl9 W h)
  have hM := Lib.hid (fun W h => Move_any A l cp j p hl9 W h)
  have EN := Lib.hid hen
  have MO := Lib.hid hmo
  clear h3 h4 hen hmo ho hf hm hp h5 h6
  go_enter Tryd.func4, Tryd.ntmps4
  go_wp2_with fail
  refine (claim_awake _ T.out).mono ?_
  rintro e w1 ⟨rfl, hb⟩
  have HB1 := Lib.hid (hb)
  clear hb
  have HB := HB1
  clear HB1
  go_wp2_with fail
  refine (hat.out _ (H.out.below HB.out)).mono ?_
  rintro e w2 ⟨rfl, hb⟩
  have HB2 := Lib.hid (bstep HB.out hb)
  clear hb
  clear HB
  have HB := HB2
  clear HB2
  go_wp2_with fail
  refine (haj.out _ (H.out.below HB.out)).mono ?_
  rintro e w3 ⟨rfl, hb⟩
  have HB3 := Lib.hid (bstep HB.out hb)
  clear hb
  clear HB
  have HB := HB3
  clear HB3
  go_wp2_with fail
  refine (hE.out _ (H.out.below HB.out)).mono ?_
  rintro e w4 ⟨A4, c4, ve, rfl, hi, he, hb⟩
  have Hve := Lib.hid he
  have HB4 := Lib.hid (bstep HB.out hb)
  clear hb hi he HB
  have HB := HB4
  clear HB4
  go_wp2_with fail
  refine (hM.out _ (H.out.below HB.out)).mono ?_
  rintro e w5 ⟨A5, c5, vf, rfl, hi, he, hb⟩
  have Hvf := Lib.hid he
  have HB5 := Lib.hid (bstep HB.out hb)
  have Hven := Lib.hid (Hve.out.under hb)
  clear Hve
  have Hve := Hven
  clear Hven
  clear hb hi he HB
  have HB := HB5
  clear HB5
  go_wp2_with fail
  refine (haj.out _ (H.out.below HB.out)).mono ?_
  rintro e w6 ⟨rfl, hb⟩
  have HB6 := Lib.hid (bstep HB.out hb)
  have Hven := Lib.hid (Hve.out.under hb)
  clear Hve
  have Hve := Hven
  clear Hven
  have Hvfn := Lib.hid (Hvf.out.under hb)
  clear Hvf
  have Hvf := Hvfn
  clear Hvfn
  clear hb
  clear HB
  have HB := HB6
  clear HB6
  go_wp2_with fail
  refine (Num_c _ ve 5 (by have h := Hve.out; rw [EN.out] at h; exact h) (T.out.under T.out.lt HB.out)).mono ?_
  rintro e w7 ⟨rfl, hb⟩
  have HB7 := Lib.hid (bstep HB.out hb)
  have Hvfn := Lib.hid (Hvf.out.under hb)
  clear Hvf
  have Hvf := Hvfn
  clear Hvfn
  clear hb
  clear HB
  have HB := HB7
  clear HB7
  go_wp2_with fail
  refine (Num_c _ vf 10 (by have h := Hvf.out; rw [MO.out] at h; exact h) (T.out.under T.out.lt HB.out)).mono ?_
  rintro e w8 ⟨rfl, hb⟩
  have HB8 := Lib.hid (bstep HB.out hb)
  clear hb
  clear HB
  have HB := HB8
  clear HB8
  go_wp2_with fail
  go_ret
  exact ⟨rfl, HB.out⟩
theorem takes_out (A : Option Addr) (l : List Int) (cp : Nat) (a b : Int) (hl : 10 < l.length) (W : World) (tied : Tied W) :
    Calls Tryd.prog 4 #[.slice A l.length cp, .int .u8 a, .int .u8 b] W fun e w' => e = .returned (.bool true) ∧ Below W.heap.size W w' := by
  have T := Lib.hid tied
  have hd : decide ((10 : Int) < (l.length : Int)) = true := by simp; omega
  clear tied
  go_enter Tryd.func4, Tryd.ntmps4
  go_wp2_with fail
  refine (claim_awake _ T.out).mono ?_
  rintro e w1 ⟨rfl, hb⟩
  have HB1 := Lib.hid (hb)
  clear hb
  have HB := HB1
  clear HB1
  go_wp2_with fail
  refine (claim_awake _ (T.out.under T.out.lt HB.out)).mono ?_
  rintro e w2 ⟨rfl, hb⟩
  have HB2 := Lib.hid (bstep HB.out hb)
  clear hb
  clear HB
  have HB := HB2
  clear HB2
  go_wp2_with fail
  go_ret
  exact ⟨rfl, HB.out⟩
theorem wf_u8 {n : Int} (h : (Lit.int .u8 n).wf = true) : 0 ≤ n ∧ n ≤ 255 := by
  simpa [Lit.wf, IntKind.min, IntKind.max, IntKind.signed, IntKind.bits] using h
theorem takes_walk (A : Option Addr) (cp : Nat) (l : List Int) (a b : Int) (W : World) (h : IntsK .i64 W A l cp) (u : ∀ n ∈ l, (Lit.int .i64 n).wf = true) (w1 : (Lit.int .u8 a).wf = true) (w2 : (Lit.int .u8 b).wf = true) (tied : Tied W) :
    Calls Tryd.prog 4 #[.slice A l.length cp, .int .u8 a, .int .u8 b] W fun e w' => e = .returned (.bool true) ∧ Below W.heap.size W w' := by
  by_cases hl : l.length ≤ 10
  · obtain ⟨a0, a1⟩ := wf_u8 w1
    obtain ⟨b0, b1⟩ := wf_u8 w2
    obtain ⟨k, hk⟩ : ∃ k : Nat, a % 10 = (k : Int) := ⟨(a % 10).toNat, by omega⟩
    obtain ⟨j, hj⟩ : ∃ j : Nat, b % 10 = (j : Int) := ⟨(b % 10).toNat, by omega⟩
    by_cases h1 : placeL l k < 0
    · exact takes_neg A l cp a b k j _ a0 b0 a1 b1 hk hj hl rfl h1 W tied h
    · by_cases h2 : 63 < placeL l k
      · exact takes_big A l cp a b k j _ a0 b0 a1 b1 hk hj hl rfl h1 h2 W tied h
      · by_cases h3 : k = j
        · exact takes_same A l cp a b k j _ a0 b0 a1 b1 hk hj hl rfl h1 h2 h3 W tied h
        · by_cases h4 : placeL l j = placeL l k
          · exact takes_both A l cp a b k j _ a0 b0 a1 b1 hk hj hl rfl h1 h2 h3 h4 W tied h
          · by_cases h5 : placeL l j = -1
            · exact takes_off A l cp a b k j _ a0 b0 a1 b1 hk hj hl rfl h1 h2 h3 h5 W tied h
            · exact takes_on A l cp a b k j _ a0 b0 a1 b1 hk hj hl rfl h1 h2 h3 _ rfl h5 h4 W tied h
  · exact takes_out A l cp a b (by omega) W tied
end Go.Proofs.YtfgbnnmaooillaaDoor
