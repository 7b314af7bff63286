/- pack.Size, pack.Fields, pack.Parse, by their contracts. -/
import Derived.Test.YtlcnhagcomljnaaDoorKPackQPRecUnlike
import Derived.Test.YtlcnhagcomljnaaDoorKPackAPRecUnlike
import Derived.Test.YtlcnhagcomljnaaDoorBuild
namespace Go.Proofs.YtlcnhagcomljnaaDoor
open Go.RowKit Go.Extern.Stop Go.Stop Go.Extern Go.Proofs.YtlcnhagcomljnaaDoorW.PrintWords Go.Proofs.YtlcnhagcomljnaaDoorW.PrintLast Go.Proofs.YtlcnhagcomljnaaDoorW.PrintMore Go.Proofs.YtlcnhagcomljnaaDoor.PRecUnlike
set_option linter.unusedVariables false
set_option linter.unusedSimpArgs false

theorem ret_se {s t : ByteArray} {v : Value} (h : s = t) : Ending.returned (.tuple #[.string s, v]) = .returned (.tuple #[.string t, v]) := by rw [h]
/-- a slice of ints that reads as l -/
def Ints (w : World) (A : Option Addr) (l : List Int) (c : Nat) : Prop := (Kd.int .i64).C w A l.length l ∧ l.length ≤ c
theorem Ints.below {w w' : World} {A : Option Addr} {l : List Int} {c : Nat} (h : Ints w A l c) (hb : Below w.heap.size w w') : Ints w' A l c := ⟨Kd.C_below h.1 hb, h.2⟩
theorem Ints.reads {w : World} {A : Option Addr} {l : List Int} {c : Nat} (h : Ints w A l c) : ReadsInt w .i64 A l.length l := by
  obtain ⟨h1, h2, h3⟩ := h.1
  refine ⟨h1, h2, fun hn => ?_⟩
  obtain ⟨ad, e, hc⟩ := h3 hn
  refine ⟨ad, e, fun j hj => ?_⟩
  obtain ⟨cs, _, hk, hcell⟩ := hc j _ (List.getElem?_eq_getElem hj)
  have := hcell 0 (.int .i64 l[j]) (by rw [show cs = [Value.int .i64 l[j]] from hk]; rfl)
  rw [List.getD_eq_getElem?_getD, List.getElem?_eq_getElem hj]
  have e1 : (Kd.int .i64).sz = 1 := rfl
  rw [e1] at this
  simpa using this
theorem Ints.len {w : World} {A : Option Addr} {l : List Int} {c : Nat} (h : Ints w A l c) : l.length ≤ 9223372036854775807 := h.reads.2.1
theorem Ints.at {w : World} {A : Option Addr} {l : List Int} {c : Nat} (h : Ints w A l c) (hl : 0 < l.length) : ∃ b o, A = some ⟨b, o, none⟩ ∧ ∀ j, j < l.length → w.cell? ⟨b, o + j, none⟩ = some (.int .i64 (rd l j)) := by
  obtain ⟨ad, rfl, hc⟩ := h.reads.2.2 hl
  obtain ⟨b, o, spot⟩ := ad
  have hspot : spot = none := by simpa [Addr.add] using World.cell?_spot (hc 0 hl)
  subst hspot
  refine ⟨b, o, rfl, fun j hj => ?_⟩
  have hcc := hc j hj
  rw [Go.WideShapes.add_plain] at hcc
  rw [hcc]; simp [rd]
theorem Size_any (A : Option Addr) (ws : List Int) (c : Nat) (W : World) (h : Ints W A ws c) :
    Calls Tryd.prog 68 #[.slice A ws.length c] W fun e w' => e = .returned (.int .i64 (sizeR ws)) ∧ Below W.heap.size W w' :=
  (pack_Size.calls _ A c ws _ W h.1 h.2 (size_f ws _ rfl)).mono fun _ _ ⟨he, hd⟩ => ⟨he, hd.below⟩
def FieldsPost (ws ns : List Int) (W : World) (e : Ending) (w' : World) : Prop := ∃ v, e = .returned (.tuple #[.string (fieldsB ws ns), v]) ∧ ErrC W.heap.size w' v (fieldsC ws ns) ∧ Below W.heap.size W w'
theorem fits_any (w n : Int) (b : Bool) (hb : fitsB w n = b) (W : World) : Calls Tryd.prog 69 #[.int .i64 w, .int .i64 n] W fun e w' => e = .returned (.bool b) ∧ Below W.heap.size W w' :=
  (pack_fits.calls w n _ W (fits_f w n)).mono fun _ _ ⟨he, hd⟩ => ⟨by rw [he, hb], hd.below⟩
set_option maxHeartbeats 400000 in
theorem Fields_arg (A B : Option Addr) (ws ns : List Int) (c d : Nat) (W : World) (h : Ints W A ws c) (h1 : sizeR ws < 0 ∨ ws.length ≠ ns.length) :
    Calls Tryd.prog 47 #[.slice A ws.length c, .slice B ns.length d] W (FieldsPost ws ns W) := by
  have hz := Lib.hid (Size_any A ws c W h)
  have hp : Hid (fieldsC ws ns = 1 ∧ fieldsB ws ns = ⟨#[]⟩) := by
    have : fieldsC ws ns = 1 := by unfold fieldsC; rw [if_pos h1]
    exact ⟨this, by unfold fieldsB; rw [if_neg (by rw [this]; decide)]⟩
  by_cases hs : sizeR ws < 0
  · have hd : decide (sizeR ws < 0) = true := by simpa using hs
    clear h h1
    go_enter Tryd.func47, Tryd.ntmps47
    go_wp2_with fail
    refine hz.out.mono ?_
    rintro e w1 ⟨rfl, hb⟩
    have HB := Lib.hid hb
    clear hb
    go_wp2_with fail
    refine (Tag_err _ 1 _).mono ?_
    rintro e w2 ⟨v, rfl, he, hb⟩
    have HE := Lib.hid he
    have HB2 := Lib.hid (bstep HB.out hb)
    clear he hb
    go_wp2_with fail
    go_ret2
    exact ⟨v, ret_se hp.out.2.symm, by rw [hp.out.1]; exact HE.out.mono HB.out.size, HB2.out⟩
  · have hne : ws.length ≠ ns.length := by rcases h1 with h1 | h1; exact absurd h1 hs; exact h1
    have hd : decide (sizeR ws < 0) = false := by simpa using hs
    have hd2 : ((ns.length : Int) != (ws.length : Int)) = true := by simp; omega
    clear h h1
    go_enter Tryd.func47, Tryd.ntmps47
    go_wp2_with fail
    refine hz.out.mono ?_
    rintro e w1 ⟨rfl, hb⟩
    have HB := Lib.hid hb
    clear hb
    go_wp2_with fail
    refine (Tag_err _ 1 _).mono ?_
    rintro e w2 ⟨v, rfl, he, hb⟩
    have HE := Lib.hid he
    have HB2 := Lib.hid (bstep HB.out hb)
    clear he hb
    go_wp2_with fail
    go_ret2
    exact ⟨v, ret_se hp.out.2.symm, by rw [hp.out.1]; exact HE.out.mono HB.out.size, HB2.out⟩
theorem strCells_bytes (s : ByteArray) : Lib.strCells s = Lib.byteCells s.data.toList := by
  simp [Lib.strCells, Lib.byteCells]
theorem byteCells_append (a b : List UInt8) : Lib.byteCells (a ++ b) = Lib.byteCells a ++ Lib.byteCells b := by simp [Lib.byteCells]
theorem byteCells_length (a : List UInt8) : (Lib.byteCells a).length = a.length := by simp [Lib.byteCells]
theorem builder_new (T e : TypeId) (B : Nat) (w : World) (hB : B ≤ w.heap.size) : Lib.IsBuilder T e B w.heap.size (Lib.byteCells []) (w.alloc (.cells #[.pointer none, .slice none 0 0] T)) := by
  obtain ⟨h1, v, h2, h3, h4⟩ | ⟨h1, v, h2, h3, h4⟩ := Lib.fresh_isBuilder T e w
  · refine .inl ⟨hB, v, h2, ?_, h4⟩
    rcases h3 with ⟨q1, q2 | q2⟩
    · exact ⟨q1, .inl q2⟩
    · obtain ⟨g, cap, cur, hv, hg, rest⟩ := q2
      exact ⟨q1, .inr ⟨g, cap, cur, hv, by omega, rest⟩⟩
  · refine .inr ⟨hB, v, h2, ?_, h4⟩
    rcases h3 with ⟨q1, q2 | q2⟩
    · exact ⟨q1, .inl q2⟩
    · obtain ⟨g, cap, cur, hv, hg, rest⟩ := q2
      exact ⟨q1, .inr ⟨g, cap, cur, hv, by omega, rest⟩⟩
/-- a builder of the call's own, behind what leaves all that is there -/
theorem bu_at_under {T e : TypeId} {B b : Nat} {p : Value} {bs : List Value} {w w' : World} (h : Lib.BuilderAt T e B b p bs w) (hb : Below w.heap.size w w') : Lib.BuilderAt T e B b p bs w' := by
  obtain ⟨h1, v, h2, h3, h4⟩ := h
  have hlt : b < w.heap.size := (Array.getElem?_eq_some_iff.1 h2).1
  refine ⟨h1, v, (hb.block b hlt).trans h2, own_move h3 (fun k hk => ?_), h4⟩
  exact hb.block k (own_lt h3 k hk)
theorem bu_under {T e : TypeId} {B b : Nat} {bs : List Value} {w w' : World} (h : Lib.IsBuilder T e B b bs w) (hb : Below w.heap.size w w') : Lib.IsBuilder T e B b bs w' := by
  rcases h with h | h
  · exact .inl (bu_at_under h hb)
  · exact .inr (bu_at_under h hb)
set_option maxHeartbeats 800000 in
theorem Fields_go (b1 o1 b2 o2 : Nat) (ws ns : List Int) (c d : Nat) (W : World) (h : Ints W (some ⟨b1, o1, none⟩) ws c)
    (hc1 : ∀ j, j < ws.length → W.cell? ⟨b1, o1 + j, none⟩ = some (.int .i64 (rd ws j))) (hc2 : ∀ j, j < ns.length → W.cell? ⟨b2, o2 + j, none⟩ = some (.int .i64 (rd ns j))) (h1 : 0 ≤ sizeR ws) (hl : ws.length = ns.length) :
    Calls Tryd.prog 47 #[.slice (some ⟨b1, o1, none⟩) ws.length c, .slice (some ⟨b2, o2, none⟩) ns.length d] W (FieldsPost ws ns W) := by
  have hn40 : ws.length ≤ 40 := by
    rcases Nat.lt_or_ge 40 ws.length with hh | hh
    · have := (sizeR_neg ws).2 (fun hx => by omega); omega
    · exact hh
  have hz := Lib.hid (Size_any _ ws c W h)
  have hp : Hid (fieldsC ws ns = if fitTo ws ns ns.length then 0 else 8) := by
    show _ = _; unfold fieldsC; rw [if_neg (by omega)]
  have hd : decide (sizeR ws < 0) = false := by simpa using h1
  have hd2 : ((ns.length : Int) != (ws.length : Int)) = false := by simp; omega
  have hln : Hid (ws.length = ns.length) := hl
  have HR1 := Lib.hid hc1
  have HR2 := Lib.hid hc2
  have hn : ns.length ≤ 40 := by omega
  clear h1 hl h hc1 hc2
  go_enter Tryd.func47, Tryd.ntmps47
  go_wp2_with fail
  refine hz.out.mono ?_
  rintro e w1 ⟨rfl, hb⟩
  have HB := Lib.hid hb
  have hz1 := hb.size
  clear hb
  go_wp2_with fail
  go_loopw [7, 8, 23] (fun _ _ i wl => ∃ k : Nat, k ≤ ns.length ∧ i = .int .i64 k ∧ fitTo ws ns k ∧ Lib.IsBuilder 126 5 W.heap.size w1.heap.size (Lib.byteCells (fieldsTo ws ns k)) wl ∧ Below W.heap.size W wl) (fun _ _ i _ => ns.length - (intOf i).toNat)
  case atStart => exact ⟨0, Nat.zero_le _, rfl, fun j hj => absurd hj (by omega), builder_new _ _ _ _ HB.out.size, HB.out.alloc HB.out.size _⟩
  case round =>
    obtain ⟨k, hk, rfl, hfit, hbu, hb⟩ := hrel
    have HF := Lib.hid hfit
    have HU := Lib.hid hbu
    have HB1 := Lib.hid hb
    clear hfit hbu hb
    by_cases hlt : k < ns.length
    · have hltb : decide (k < ns.length) = true := by simpa using hlt
      have hltw : k < ws.length := by have := hln.out; omega
      have hi1 : (k : Int) < (ns.length : Int) := by omega
      have hi2 : (k : Int) < (ws.length : Int) := by omega
      have x1 : wr.cell? ⟨b1, o1 + k, none⟩ = some (.int .i64 (rd ws k)) := (HB1.out.cell (cell_lt (HR1.out k hltw))).trans (HR1.out k hltw)
      have x2 : wr.cell? ⟨b2, o2 + k, none⟩ = some (.int .i64 (rd ns k)) := (HB1.out.cell (cell_lt (HR2.out k hlt))).trans (HR2.out k hlt)
      cases hf : fitsB (rd ws k) (rd ns k) with
      | false =>
        have HN : Hid (fieldsC ws ns = 8) := by
          show _ = _
          rw [hp.out, if_neg (fun hh => by have := hh k hlt; rw [hf] at this; cases this)]
        have hfa := Lib.hid (fits_any (rd ws k) (rd ns k) false hf)
        clear hf
        go_wp2_with fail
        refine (hfa.out _).mono ?_
        rintro e w2 ⟨rfl, hb⟩
        have HB2 := Lib.hid (bstep HB1.out hb)
        clear hb
        go_wp2_with fail
        refine (Tag_err _ 8 _).mono ?_
        rintro e w3 ⟨v, rfl, he, hb⟩
        have HE := Lib.hid he
        have HB3 := Lib.hid (bstep HB2.out hb)
        clear he hb
        go_wp2_with fail
        go_ret2
        exact ⟨v, ret_se (by unfold fieldsB; rw [HN.out]; rfl), by rw [HN.out]; exact HE.out.mono HB2.out.size, HB3.out⟩
      | true =>
        have hfa := Lib.hid (fits_any (rd ws k) (rd ns k) true hf)
        have HFF := Lib.hid hf
        clear hf
        go_wp2_with fail
        refine (hfa.out _).mono ?_
        rintro e w2 ⟨rfl, hb⟩
        have HB2 := Lib.hid (bstep HB1.out hb)
        have HU2 : Hid (Lib.IsBuilder 126 5 W.heap.size w1.heap.size (Lib.byteCells (fieldsTo ws ns k)) w2) := bu_under HU.out hb
        have x1 : w2.cell? ⟨b1, o1 + k, none⟩ = some (.int .i64 (rd ws k)) := (HB2.out.cell (cell_lt (HR1.out k hltw))).trans (HR1.out k hltw)
        clear hb
        go_wp2_with fail
        refine (Put_any (rd ws k) (rd ns k) _).mono ?_
        rintro e w3 ⟨rfl, hb⟩
        have HB3 := Lib.hid (bstep HB2.out hb)
        have HU3 : Hid (Lib.IsBuilder 126 5 W.heap.size w1.heap.size (Lib.byteCells (fieldsTo ws ns k)) w3) := bu_under HU2.out hb
        clear hb
        go_wp2_with fail
        refine (bu_write W.heap.size w1.heap.size _ (putB (rd ws k) (rd ns k)) _ HU3.out (by have := fieldsTo_le ws ns k; have := putB_le (rd ws k) (rd ns k); rw [byteCells_length]; omega) HB3.out.size).mono ?_
        rintro e w4 ⟨rfl, hu, hb⟩
        have HB4 := Lib.hid (Below.trans HB3.out hb)
        have HU4 := Lib.hid hu
        clear hu hb
        go_wp2_with fail
        go_roundw
        case rel =>
          refine ⟨k + 1, by omega, by go_num, fun j hj => ?_, ?_, HB4.out⟩
          · rcases Nat.lt_or_ge j k with hjk | hjk
            · exact HF.out j hjk
            · obtain rfl : j = k := by omega
              exact HFF.out
          · have hu := HU4.out
            rw [strCells_bytes, ← byteCells_append] at hu
            exact hu
        case measure => simp [intOf]; omega
    · have hltb : decide (k < ns.length) = false := by simpa using hlt
      have hkn : k = ns.length := by omega
      have HN : Hid (fieldsC ws ns = 0) := by
        show _ = _
        rw [hp.out, if_pos (by have := HF.out; rw [hkn] at this; exact this)]
      have HK := Lib.hid hkn
      clear hkn
      go_wp2_with fail
      refine (bu_string W.heap.size w1.heap.size _ _ HU.out HB1.out.size).mono ?_
      rintro e w2 ⟨rfl, hb⟩
      have HB2 := Lib.hid (Below.trans HB1.out hb)
      clear hb
      go_wp2_with fail
      go_ret2
      exact ⟨.nilIface, ret_se (by unfold fieldsB; rw [HN.out, if_pos rfl, HK.out]), by rw [HN.out]; exact ErrC.nil _ _, HB2.out⟩
theorem Fields_none (A B : Option Addr) (c d : Nat) (W : World) (h : Ints W A [] c) :
    Calls Tryd.prog 47 #[.slice A 0 c, .slice B 0 d] W (FieldsPost [] [] W) := by
  have hz := Lib.hid (Size_any _ [] c W h)
  clear h
  go_enter Tryd.func47, Tryd.ntmps47
  go_wp2_with fail
  refine hz.out.mono ?_
  rintro e w1 ⟨rfl, hb⟩
  have HB := Lib.hid hb
  have hz1 := hb.size
  clear hb
  have hs : sizeR [] = 0 := rfl
  go_wp2_with fail
  refine wp_loop_rounds 1 ?_
  rw [rounds_succ]
  go_wp2_with fail
  refine (bu_string W.heap.size w1.heap.size [] _ (builder_new _ _ _ _ HB.out.size) (by simp; omega)).mono ?_
  rintro e w2 ⟨rfl, hb⟩
  have HB2 := Lib.hid (Below.trans (HB.out.alloc HB.out.size _) hb)
  clear hb
  go_wp2_with fail
  go_ret2
  exact ⟨.nilIface, rfl, ErrC.nil _ _, HB2.out⟩
theorem Fields_any (A B : Option Addr) (ws ns : List Int) (c d : Nat) (W : World) (h : Ints W A ws c) (h2 : Ints W B ns d) :
    Calls Tryd.prog 47 #[.slice A ws.length c, .slice B ns.length d] W (FieldsPost ws ns W) := by
  by_cases h1 : sizeR ws < 0 ∨ ws.length ≠ ns.length
  · exact Fields_arg A B ws ns c d W h h1
  · have hs : 0 ≤ sizeR ws := by omega
    have hl : ws.length = ns.length := by omega
    by_cases h0 : ws.length = 0
    · obtain rfl := List.eq_nil_of_length_eq_zero h0
      obtain rfl := List.eq_nil_of_length_eq_zero (by omega : ns.length = 0)
      exact Fields_none A B c d W h
    · obtain ⟨b1, o1, rfl, hc1⟩ := h.at (by omega)
      obtain ⟨b2, o2, rfl, hc2⟩ := h2.at (by omega)
      exact Fields_go b1 o1 b2 o2 ws ns c d W h hc1 hc2 hs hl
end Go.Proofs.YtlcnhagcomljnaaDoor
