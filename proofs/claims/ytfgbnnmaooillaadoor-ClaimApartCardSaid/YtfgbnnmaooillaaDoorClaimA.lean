/- claim.with, claim.Enter, claim.Move, by their contracts. -/
import Derived.Test.YtfgbnnmaooillaaDoorClaimP
import Derived.Test.YtfgbnnmaooillaaDoorErrC
import Derived.Test.YtfgbnnmaooillaaDoorArgsK
import Derived.OwnWalk
import Derived.Laws.AppendOwn
import Derived.Laws.AppendOwnNone
import Derived.Laws.OwnMore
import Derived.Maps.AppendAt
namespace Go.Proofs.YtfgbnnmaooillaaDoor
open Go.RowKit Go.Extern.Stop Go.Stop Go.Extern Go.Proofs.YtfgbnnmaooillaaDoorW.PrintWords Go.Proofs.YtfgbnnmaooillaaDoorW.PrintLast Go.Proofs.YtfgbnnmaooillaaDoorW.PrintMore Go.Proofs.YtfgbnnmaooillaaDoor.PClaimTakes
set_option linter.unusedVariables false
set_option linter.unusedSimpArgs false

/-- a slice of ints that reads as l -/
def Ints (w : World) (A : Option Addr) (l : List Int) (c : Nat) : Prop := IntsK .i64 w A l c
theorem Ints.below {w w' : World} {A : Option Addr} {l : List Int} {c : Nat} (h : Ints w A l c) (hb : Below w.heap.size w w') : Ints w' A l c := ⟨Kd.C_below h.1 hb, h.2⟩
theorem Ints.len {w : World} {A : Option Addr} {l : List Int} {c : Nat} (h : Ints w A l c) : l.length ≤ 9223372036854775807 := h.1.2.1
theorem Ints.nil (w : World) : Ints w none [] 0 := ⟨Kd.C_nil _ w, Nat.le_refl _⟩
theorem Ints.at {w : World} {A : Option Addr} {l : List Int} {c : Nat} (h : Ints w A l c) (hl : 0 < l.length) : ∃ b o, A = some ⟨b, o, none⟩ ∧ ∀ j, j < l.length → w.cell? ⟨b, o + j, none⟩ = some (.int .i64 (rd l j)) := by
  obtain ⟨_, _, h3⟩ := h.1
  obtain ⟨ad, rfl, hc⟩ := h3 hl
  have hcc : ∀ j, j < l.length → w.cell? (ad.add j) = some (.int .i64 (rd l j)) := by
    intro j hj
    obtain ⟨cs, _, hk, hcell⟩ := hc j _ (List.getElem?_eq_getElem hj)
    have := hcell 0 (.int .i64 l[j]) (by rw [show cs = [Value.int .i64 l[j]] from hk]; rfl)
    have e1 : (Kd.int .i64).sz = 1 := rfl
    rw [e1] at this
    rw [rd_nat l j hj]
    simpa using this
  obtain ⟨b, o, spot⟩ := ad
  have hspot : spot = none := by simpa [Addr.add] using World.cell?_spot (hcc 0 hl)
  subst hspot
  exact ⟨b, o, rfl, fun j hj => by have := hcc j hj; rw [Go.WideShapes.add_plain] at this; exact this⟩
/-- a row of the call's own reads as its numbers -/
theorem own_ints {w : World} {base n : Nat} {e : TypeId} {A : Option Addr} {c : Nat} {xs : List Int} (h : w.ownsRow base e 1 (.slice A n c) n (nums .i64 xs)) (hn : xs.length = n) : Ints w A xs c := by
  subst hn
  refine ⟨Kd.C_of_reads (readsInt_of.1 (own_reads' h)), ?_⟩
  rcases h.2 with ⟨hv, h0⟩ | ⟨g, cap, cur, hv, _, _, h1, _⟩
  · simp only [Value.slice.injEq] at hv; omega
  · simp only [Value.slice.injEq] at hv; omega
theorem own_nil (W : World) (base : Nat) (e : TypeId) (size : Nat) : W.ownsRow base e size (.slice none 0 0) 0 [] := ⟨by simp, .inl ⟨rfl, rfl⟩⟩
theorem own_under {w w' : World} {base : Nat} {e : TypeId} {size n : Nat} {v : Value} {xs : List Value} (h : w.ownsRow base e size v n xs) (hb : Below w.heap.size w w') : w'.ownsRow base e size v n xs :=
  own_move h (fun k hk => hb.block k (own_lt h k hk))
theorem info_int : (Tryd.prog.info? 3).map (fun i => (i.zero, i.size, i.bytes)) = some (some (.int .i64 0), 1, 8) := by kernel_rfl

theorem news_of {W : World} {b o : Nat} {l : List Int} (hc : ∀ j, j < l.length → W.cell? ⟨b, o + j, none⟩ = some (.int .i64 (rd l j))) : ∀ j u, (nums .i64 l)[j]? = some u → W.cell? ((⟨b, o, none⟩ : Addr).add j) = some u := by
  intro j u hj
  have hjl : j < l.length := by have := (List.getElem?_eq_some_iff.1 hj).1; simpa [nums] using this
  rw [Go.WideShapes.add_plain, hc j hjl, rd_nat l j hjl, ← hj]
  simp [nums, List.getElem?_map, List.getElem?_eq_getElem hjl]
/-- places with one robot's, in memory of the call's own -/
def WithPost (l : List Int) (r : Nat) (c : Int) (W : World) (e : Ending) (w' : World) : Prop := ∃ A cap, e = .returned (.slice A (withL l r c).length cap) ∧ Ints w' A (withL l r c) cap ∧ Below W.heap.size W w'
theorem ret_sl {A : Option Addr} {n m c : Nat} (h : n = m) : Ending.returned (.slice A n c) = .returned (.slice A m c) := by rw [h]
set_option maxHeartbeats 1000000 in
theorem with_some (ad : Addr) (l : List Int) (cp r : Nat) (c : Int) (hr : r ≤ 9) (hl : l.length ≤ 1000) (hcp : l.length ≤ cp) (W : World) (hc : ∀ j u, (nums .i64 l)[j]? = some u → W.cell? (ad.add j) = some u) :
    Calls Tryd.prog 31 #[.slice (some ad) l.length cp, .int .i64 r, .int .i64 c] W (WithPost l r c W) := by
  obtain ⟨i0, hi, hz0, hz1, hz2⟩ := info_parts info_int
  have HC := Lib.hid hc
  clear hc
  go_enter Tryd.func31, Tryd.ntmps31
  go_wp2_with (at_builtin; refine wpList_append_own _ rfl _ _ 24 rfl W.heap.size 3 i0 (.int .i64 0) 1 8 Tryd.underlying24 hi hz0 hz1 hz2 rfl (by decide) _ _ _ rfl (own_nil W W.heap.size 3 1) ad l.length l.length (nums .i64 l) rfl (by simp [nums]) HC.out (fun u hu => by simp [nums] at hu; obtain ⟨x, _, rfl⟩ := hu; rfl) (by unfold maxLen; omega) (by omega) (Nat.le_refl _) ?_; intro v1 w1 hown1 hg hx; have O1 := Lib.hid hown1; have G1 := Lib.hid hg; clear hown1 hg hx)
  have HB1 := Lib.hid ((Below.refl W.heap.size W).grown G1.out (Nat.le_refl _) (fun k hk => by cases hk))
  obtain ⟨n1, hn1⟩ : ∃ n, n = 0 + l.length := ⟨_, rfl⟩
  rw [← hn1] at O1
  obtain rfl : n1 = l.length := by omega
  clear hn1
  go_wp2_with fail
  go_loopg [7] (r + 1 - l.length) (fun m v wl => ∃ n d : Nat, n = l.length + d ∧ m = r + 1 - n ∧ (d = 0 ∨ n ≤ r + 1) ∧ wl.ownsRow W.heap.size 3 1 v n (nums .i64 (l ++ List.replicate d (-1))) ∧ Below W.heap.size W wl)
  case atStart => exact ⟨l.length, 0, rfl, rfl, .inl rfl, by have h := O1.out; simpa using h, HB1.out⟩
  case round =>
    obtain ⟨n, d, hn, rfl, hd, hown, hb⟩ := hrel
    have HN := Lib.hid hn
    have O2 := Lib.hid hown
    have HB2 := Lib.hid hb
    have hz : W.heap.size ≤ wr.heap.size := hb.size
    have hn1 : l.length ≤ n := by omega
    have hn2 : n ≤ 1010 := by omega
    have hd' : Hid (d = 0 ∨ n ≤ r + 1) := hd
    obtain ⟨Av, cap, rfl⟩ := own_slice hown
    clear hn hd hown hb
    by_cases hlt : n ≤ r
    · have hltb : decide (n ≤ r) = true := by simpa using hlt
      go_wp2_with (at_builtin; refine wpList_append_own _ rfl _ _ 24 rfl W.heap.size 3 i0 (.int .i64 0) 1 8 Tryd.underlying24 hi hz0 hz1 hz2 rfl (by decide) _ _ _ rfl (O2.out.alloc _) ⟨wr.heap.size, 0, none⟩ 1 1 [.int .i64 (-1)] rfl rfl (cell_one_new _ _ _) (fun u hu => by simp at hu; subst hu; rfl) (by unfold maxLen; omega) (by omega) (by simp; omega) ?_; intro v3 w3 hown3 hg3 hx; have O3 := Lib.hid hown3; have G3 := Lib.hid hg3; clear hown3 hg3 hx)
      have HB3 := Lib.hid ((HB2.out.alloc hz (.cells #[.int .i64 (-1)] 3)).grown G3.out (by simp; omega) (fun k hk => (O2.out.lt k hk).1))
      go_wp2_with fail
      go_roundg (r + 1 - (n + 1))
      case measure => omega
      case rel =>
        refine ⟨n + 1, d + 1, by have := HN.out; omega, rfl, .inr (by omega), ?_, HB3.out⟩
        have h := O3.out
        have e : nums .i64 (l ++ List.replicate (d + 1) (-1)) = nums .i64 (l ++ List.replicate d (-1)) ++ [.int .i64 (-1)] := by
          rw [List.replicate_succ', ← List.append_assoc, nums_append]; rfl
        rw [e]; exact h
    · have hltb : decide (n ≤ r) = false := by simpa using hlt
      have hri : (r : Int) < (n : Int) := by omega
      obtain ⟨g, cap', he, _, _⟩ := O2.out.form (by omega)
      simp only [Value.slice.injEq, true_and] at he
      obtain ⟨rfl, rfl⟩ := he
      have hxl : (nums .i64 (l ++ List.replicate d (-1))).length = n := by rw [nums_length, List.length_append, List.length_replicate]; exact HN.out.symm
      obtain ⟨u, hu⟩ : ∃ u, (nums .i64 (l ++ List.replicate d (-1)))[r]? = some u := ⟨_, List.getElem?_eq_getElem (by rw [hxl]; omega)⟩
      have x1 : wr.cell? ⟨g, r, none⟩ = some u := by rw [O2.out.cellAt r (by omega)]; exact hu
      clear hu
      have x2 : wr.frozen? ⟨g, r, none⟩ = false := O2.out.frozenAt r
      have HS := Lib.hid (O2.out.stored r (.int .i64 c))
      have hgl : W.heap.size ≤ g := (O2.out.lt g rfl).1
      clear hxl
      go_wp2_with fail
      go_ret
      have hdd : d = r + 1 - l.length := by have h1 := hd'.out; have h2 := HN.out; omega
      have hnn : n = (withL l r c).length := by rw [withL_length]; have h2 := HN.out; omega
      refine ⟨some ⟨g, 0, none⟩, cap, ret_sl hnn, ?_, HB2.out.setCell hgl _⟩
      have h := HS.out.1
      have e : (nums .i64 (l ++ List.replicate d (-1))).set r (.int .i64 c) = nums .i64 (withL l r c) := by
        unfold withL; rw [← hdd]; simp [nums, List.map_set]
      rw [e] at h
      exact own_ints h hnn.symm
set_option maxHeartbeats 1000000 in
theorem with_none (cp r : Nat) (c : Int) (hr : r ≤ 9) (W : World) :
    Calls Tryd.prog 31 #[.slice none 0 cp, .int .i64 r, .int .i64 c] W (WithPost [] r c W) := by
  obtain ⟨i0, hi, hz0, hz1, hz2⟩ := info_parts info_int
  go_enter Tryd.func31, Tryd.ntmps31
  go_wp2_with (at_builtin; refine wpList_append_own_none _ rfl _ _ 24 rfl W.heap.size 3 i0 1 Tryd.underlying24 hi _ _ _ rfl (own_nil W W.heap.size 3 1) rfl ?_)
  go_wp2_with fail
  go_loopg [7] (r + 1 - ([] : List Int).length) (fun m v wl => ∃ n d : Nat, n = ([] : List Int).length + d ∧ m = r + 1 - n ∧ (d = 0 ∨ n ≤ r + 1) ∧ wl.ownsRow W.heap.size 3 1 v n (nums .i64 (([] : List Int) ++ List.replicate d (-1))) ∧ Below W.heap.size W wl)
  case atStart => exact ⟨0, 0, rfl, rfl, .inl rfl, own_nil _ _ _ _, Below.refl _ _⟩
  case round =>
    obtain ⟨n, d, hn, rfl, hd, hown, hb⟩ := hrel
    have HN := Lib.hid hn
    have O2 := Lib.hid hown
    have HB2 := Lib.hid hb
    have hz : W.heap.size ≤ wr.heap.size := hb.size
    have hn2 : n ≤ 1010 := by simp at hn; omega
    have hd' : Hid (d = 0 ∨ n ≤ r + 1) := hd
    obtain ⟨Av, cap, rfl⟩ := own_slice hown
    clear hn hd hown hb
    by_cases hlt : n ≤ r
    · have hltb : decide (n ≤ r) = true := by simpa using hlt
      go_wp2_with (at_builtin; refine wpList_append_own _ rfl _ _ 24 rfl W.heap.size 3 i0 (.int .i64 0) 1 8 Tryd.underlying24 hi hz0 hz1 hz2 rfl (by decide) _ _ _ rfl (O2.out.alloc _) ⟨wr.heap.size, 0, none⟩ 1 1 [.int .i64 (-1)] rfl rfl (cell_one_new _ _ _) (fun u hu => by simp at hu; subst hu; rfl) (by unfold maxLen; omega) (by omega) (by simp; omega) ?_; intro v3 w3 hown3 hg3 hx; have O3 := Lib.hid hown3; have G3 := Lib.hid hg3; clear hown3 hg3 hx)
      have HB3 := Lib.hid ((HB2.out.alloc hz (.cells #[.int .i64 (-1)] 3)).grown G3.out (by simp; omega) (fun k hk => (O2.out.lt k hk).1))
      go_wp2_with fail
      go_roundg (r + 1 - (n + 1))
      case measure => omega
      case rel =>
        refine ⟨n + 1, d + 1, by have := HN.out; omega, rfl, .inr (by omega), ?_, HB3.out⟩
        have h := O3.out
        have e : nums .i64 (([] : List Int) ++ List.replicate (d + 1) (-1)) = nums .i64 (([] : List Int) ++ List.replicate d (-1)) ++ [.int .i64 (-1)] := by
          rw [List.replicate_succ', ← List.append_assoc, nums_append]; rfl
        rw [e]; exact h
    · have hltb : decide (n ≤ r) = false := by simpa using hlt
      have hri : (r : Int) < (n : Int) := by omega
      obtain ⟨g, cap', he, _, _⟩ := O2.out.form (by omega)
      simp only [Value.slice.injEq, true_and] at he
      obtain ⟨rfl, rfl⟩ := he
      have hxl : (nums .i64 (([] : List Int) ++ List.replicate d (-1))).length = n := by rw [nums_length, List.length_append, List.length_replicate]; exact HN.out.symm
      obtain ⟨u, hu⟩ : ∃ u, (nums .i64 (([] : List Int) ++ List.replicate d (-1)))[r]? = some u := ⟨_, List.getElem?_eq_getElem (by rw [hxl]; omega)⟩
      have x1 : wr.cell? ⟨g, r, none⟩ = some u := by rw [O2.out.cellAt r (by omega)]; exact hu
      clear hu
      have x2 : wr.frozen? ⟨g, r, none⟩ = false := O2.out.frozenAt r
      have HS := Lib.hid (O2.out.stored r (.int .i64 c))
      have hgl : W.heap.size ≤ g := (O2.out.lt g rfl).1
      clear hxl
      go_wp2_with fail
      go_ret
      have hdd : d = r + 1 - ([] : List Int).length := by have h1 := hd'.out; have h2 := HN.out; omega
      have hnn : n = (withL [] r c).length := by rw [withL_length]; have h2 := HN.out; omega
      refine ⟨some ⟨g, 0, none⟩, cap, ret_sl hnn, ?_, HB2.out.setCell hgl _⟩
      have h := HS.out.1
      have e : (nums .i64 (([] : List Int) ++ List.replicate d (-1))).set r (.int .i64 c) = nums .i64 (withL [] r c) := by
        unfold withL; rw [← hdd]; simp [nums, List.map_set]
      rw [e] at h
      exact own_ints h hnn.symm
theorem with_any (A : Option Addr) (l : List Int) (cp : Nat) (r c : Int) (h0 : 0 ≤ r) (hr : r ≤ 9) (hl : l.length ≤ 1000) (W : World) (h : Ints W A l cp) :
    Calls Tryd.prog 31 #[.slice A l.length cp, .int .i64 r, .int .i64 c] W (WithPost l r.toNat c W) := by
  obtain ⟨r, rfl⟩ := Int.eq_ofNat_of_zero_le h0
  rw [Int.toNat_natCast]
  have hcp := h.2
  by_cases hp : 0 < l.length
  · obtain ⟨b, o, rfl, hc⟩ := h.at hp
    exact with_some ⟨b, o, none⟩ l cp r c (by omega) hl hcp W (news_of hc)
  · obtain rfl := List.eq_nil_of_length_eq_zero (by omega : l.length = 0)
    cases A with
    | none => exact with_none cp r c (by omega) W
    | some ad => exact with_some ad [] cp r c (by omega) hl hcp W (fun j u hj => by simp [nums] at hj)
/-- an answer's list and error -/
def PlacePost (l : List Int) (code : Int) (W : World) (e : Ending) (w' : World) : Prop := ∃ A cap v, e = .returned (.tuple #[.slice A l.length cap, v]) ∧ Ints w' A l cap ∧ ErrC W.heap.size w' v code ∧ Below W.heap.size W w'
theorem may_any (r c : Int) {b : Bool} (hb : mayB r c = b) (W : World) : Calls Tryd.prog 28 #[.int .i64 r, .int .i64 c] W fun e w' => e = .returned (.bool b) ∧ Below W.heap.size W w' :=
  (claim_may.calls r c b W (by rw [may_f, hb])).mono fun _ _ ⟨he, hd⟩ => ⟨he, hd.below⟩
theorem on_any (A : Option Addr) (l : List Int) (cp : Nat) (r : Nat) {b : Bool} (hb : onB l r = b) (W : World) (h : Ints W A l cp) : Calls Tryd.prog 30 #[.slice A l.length cp, .int .i64 r] W fun e w' => e = .returned (.bool b) ∧ Below W.heap.size W w' :=
  (claim_on.calls A cp l r b W h.1 h.2 (by rw [on_f, hb])).mono fun _ _ ⟨he, hd⟩ => ⟨he, hd.below⟩
theorem free_any (A : Option Addr) (l : List Int) (cp : Nat) (c : Int) {b : Bool} (hb : freeB l c = b) (hl : l.length ≤ 1000) (W : World) (h : Ints W A l cp) : Calls Tryd.prog 16 #[.slice A l.length cp, .int .i64 c] W fun e w' => e = .returned (.bool b) ∧ Below W.heap.size W w' :=
  (claim_Free.calls (l.length + 1) A cp l c b W h.1 h.2 (by rw [free_f l c (by omega) _ (by omega), hb])).mono fun _ _ ⟨he, hd⟩ => ⟨he, hd.below⟩
set_option maxHeartbeats 1000000 in
theorem Enter_any (A : Option Addr) (l : List Int) (cp : Nat) (r c : Int) (hl : l.length ≤ 1000) (W : World) (h : Ints W A l cp) :
    Calls Tryd.prog 12 #[.slice A l.length cp, .int .i64 r, .int .i64 c] W (PlacePost (enterL l r c) (enterC l r c) W) := by
  have H := Lib.hid h
  clear h
  cases hm : mayB r c with
  | false =>
    have hp : Hid (enterC l r c = 1 ∧ enterL l r c = []) := by
      have e : enterC l r c = 1 := by unfold enterC; rw [if_pos hm]
      exact ⟨e, by unfold enterL; rw [if_neg (by rw [e]; decide)]⟩
    have hmay := Lib.hid (may_any r c hm)
    clear hm
    go_enter Tryd.func12, Tryd.ntmps12
    go_wp2_with fail
    refine (hmay.out _).mono ?_
    rintro e w1 ⟨rfl, hb⟩
    have HB := Lib.hid (hb)
    clear hb
    go_wp2_with fail
    refine (Tag_err _ 1 _).mono ?_
    rintro e wz ⟨v, rfl, he, hb⟩
    have HE := Lib.hid he
    have HZ := Lib.hid (bstep HB.out hb)
    clear he hb
    go_wp2_with fail
    go_ret2
    exact ⟨none, 0, v, by rw [hp.out.2]; rfl, by rw [hp.out.2]; exact Ints.nil _, by rw [hp.out.1]; exact HE.out.mono HB.out.size, HZ.out⟩
  | true =>
    have hr := hm
    simp only [mayB, decide_eq_true_eq] at hr
    obtain ⟨r0, r1, _, _⟩ := hr
    have hmay := Lib.hid (may_any r c hm)
    obtain ⟨k, rfl⟩ := Int.eq_ofNat_of_zero_le r0
    cases ho : onB l k with
    | true =>
      have hp : Hid (enterC l k c = 5 ∧ enterL l k c = []) := by
        have e : enterC l k c = 5 := by unfold enterC; rw [if_neg (by rw [hm]; simp), Int.toNat_natCast, if_pos ho]
        exact ⟨e, by unfold enterL; rw [if_neg (by rw [e]; decide)]⟩
      have hon := Lib.hid (on_any A l cp k ho)
      clear hm ho
      go_enter Tryd.func12, Tryd.ntmps12
      go_wp2_with fail
      refine (hmay.out _).mono ?_
      rintro e w1 ⟨rfl, hb⟩
      have HB := Lib.hid (hb)
      clear hb
      go_wp2_with fail
      refine (hon.out _ (H.out.below HB.out)).mono ?_
      rintro e w2 ⟨rfl, hb⟩
      have HB2 := Lib.hid (bstep HB.out hb)
      clear hb
      replace HB := HB2
      clear HB2
      go_wp2_with fail
      refine (Tag_err _ 5 _).mono ?_
      rintro e wz ⟨v, rfl, he, hb⟩
      have HE := Lib.hid he
      have HZ := Lib.hid (bstep HB.out hb)
      clear he hb
      go_wp2_with fail
      go_ret2
      exact ⟨none, 0, v, by rw [hp.out.2]; rfl, by rw [hp.out.2]; exact Ints.nil _, by rw [hp.out.1]; exact HE.out.mono HB.out.size, HZ.out⟩
    | false =>
      have hon := Lib.hid (on_any A l cp k ho)
      cases hf : freeB l c with
      | false =>
        have hp : Hid (enterC l k c = 10 ∧ enterL l k c = []) := by
          have e : enterC l k c = 10 := by unfold enterC; rw [if_neg (by rw [hm]; simp), Int.toNat_natCast, if_neg (by rw [ho]; simp), if_pos hf]
          exact ⟨e, by unfold enterL; rw [if_neg (by rw [e]; decide)]⟩
        have hfr := Lib.hid (free_any A l cp c hf hl)
        clear hm ho hf
        go_enter Tryd.func12, Tryd.ntmps12
        go_wp2_with fail
        refine (hmay.out _).mono ?_
        rintro e w1 ⟨rfl, hb⟩
        have HB := Lib.hid (hb)
        clear hb
        go_wp2_with fail
        refine (hon.out _ (H.out.below HB.out)).mono ?_
        rintro e w2 ⟨rfl, hb⟩
        have HB2 := Lib.hid (bstep HB.out hb)
        clear hb
        replace HB := HB2
        clear HB2
        go_wp2_with fail
        refine (hfr.out _ (H.out.below HB.out)).mono ?_
        rintro e w3 ⟨rfl, hb⟩
        have HB3 := Lib.hid (bstep HB.out hb)
        clear hb
        replace HB := HB3
        clear HB3
        go_wp2_with fail
        refine (Tag_err _ 10 _).mono ?_
        rintro e wz ⟨v, rfl, he, hb⟩
        have HE := Lib.hid he
        have HZ := Lib.hid (bstep HB.out hb)
        clear he hb
        go_wp2_with fail
        go_ret2
        exact ⟨none, 0, v, by rw [hp.out.2]; rfl, by rw [hp.out.2]; exact Ints.nil _, by rw [hp.out.1]; exact HE.out.mono HB.out.size, HZ.out⟩
      | true =>
        have hp : Hid (enterC l k c = 0 ∧ enterL l k c = withL l k c) := by
          have e : enterC l k c = 0 := by unfold enterC; rw [if_neg (by rw [hm]; simp), Int.toNat_natCast, if_neg (by rw [ho]; simp), if_neg (by rw [hf]; simp)]
          exact ⟨e, by unfold enterL; rw [if_pos e, Int.toNat_natCast]⟩
        have hfr := Lib.hid (free_any A l cp c hf hl)
        clear hm ho hf
        go_enter Tryd.func12, Tryd.ntmps12
        go_wp2_with fail
        refine (hmay.out _).mono ?_
        rintro e w1 ⟨rfl, hb⟩
        have HB := Lib.hid (hb)
        clear hb
        go_wp2_with fail
        refine (hon.out _ (H.out.below HB.out)).mono ?_
        rintro e w2 ⟨rfl, hb⟩
        have HB2 := Lib.hid (bstep HB.out hb)
        clear hb
        replace HB := HB2
        clear HB2
        go_wp2_with fail
        refine (hfr.out _ (H.out.below HB.out)).mono ?_
        rintro e w3 ⟨rfl, hb⟩
        have HB3 := Lib.hid (bstep HB.out hb)
        clear hb
        replace HB := HB3
        clear HB3
        go_wp2_with fail
        refine (with_any A l cp k c r0 r1 hl _ (H.out.below HB.out)).mono ?_
        rintro e w4 ⟨A4, c4, rfl, hi, hb⟩
        have HI := Lib.hid hi
        have HZ := Lib.hid (bstep HB.out hb)
        clear hi hb
        go_wp2_with fail
        go_ret2
        rw [Int.toNat_natCast] at HI
        exact ⟨A4, c4, .nilIface, by rw [hp.out.2]; rfl, by rw [hp.out.2]; exact HI.out, by rw [hp.out.1]; exact ErrC.nil _ _, HZ.out⟩
end Go.Proofs.YtfgbnnmaooillaaDoor
