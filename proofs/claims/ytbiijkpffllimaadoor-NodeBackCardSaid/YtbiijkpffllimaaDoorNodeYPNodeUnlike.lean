/- node.parts's closures by their contracts. -/
import Derived.Test.YtbiijkpffllimaaDoorNodeVPNodeUnlike
import Derived.Test.YtbiijkpffllimaaDoorPage
namespace Go.Proofs.YtbiijkpffllimaaDoor
open Go.RowKit Go.Extern.Stop Go.Stop Go.Extern Go.Proofs.YtbiijkpffllimaaDoorW.PrintWords Go.Proofs.YtbiijkpffllimaaDoorW.PrintLast Go.Proofs.YtbiijkpffllimaaDoorW.PrintMore Go.Proofs.YtbiijkpffllimaaDoor.PNodeUnlike
set_option linter.unusedVariables false
set_option linter.unusedSimpArgs false

/-- the data that are left, and whether there were enough, in the closures' variables -/
structure DatIn (w : World) (Bd Bo : Nat) (st : St) : Prop where
  c0 : w.cell? ⟨Bd, 0, none⟩ = some (.string st.1)
  f0 : w.frozen? ⟨Bd, 0, none⟩ = false
  c1 : w.cell? ⟨Bo, 0, none⟩ = some (.bool st.2)
  f1 : w.frozen? ⟨Bo, 0, none⟩ = false
  ne : Bd ≠ Bo
  z : st.1.size ≤ 1000000
theorem DatIn.keep {S : Nat → Prop} {w w' : World} {Bd Bo : Nat} {st : St} (h : DatIn w Bd Bo st) (ht : Touch S w w') (h0 : ¬ S Bd) (h1 : ¬ S Bo) : DatIn w' Bd Bo st :=
  ⟨ht.cell h.c0 h0, by rw [World.frozen?_of_block (ht.block Bd (cell_lt h.c0) h0)]; exact h.f0, ht.cell h.c1 h1, by rw [World.frozen?_of_block (ht.block Bo (cell_lt h.c1) h1)]; exact h.f1, h.ne, h.z⟩
theorem DatIn.under {w w' : World} {Bd Bo : Nat} {st : St} (h : DatIn w Bd Bo st) (hb : Below w.heap.size w w') : DatIn w' Bd Bo st :=
  h.keep (S := fun _ => False) (Touch.of_below hb) (fun h => h) (fun h => h)
def Two (Bd Bo : Nat) : Nat → Prop := fun b => b = Bd ∨ b = Bo
theorem touch_set1 {S : Nat → Prop} (w : World) (b o : Nat) (u : Value) (hb : S b) : Touch S w (w.setCell ⟨b, o, none⟩ u) := Touch.setCells (Touch.refl S w) b (.inl hb) [u] o w (Touch.refl S w)
def TakePost (Bd Bo : Nat) (st' : St) (r : Value) (w : World) (e : Ending) (w' : World) : Prop := e = .returned r ∧ DatIn w' Bd Bo st' ∧ Touch (Two Bd Bo) w w'
theorem take_no (n Bd Bo : Nat) (st : St) (w : World) (h : DatIn w Bd Bo st) (hn : st.1.size < n) :
    Calls Tryd.prog 68 #[.int .i64 (n : Int), .pointer (some ⟨Bd, 0, none⟩), .pointer (some ⟨Bo, 0, none⟩)] w (TakePost Bd Bo (tk n st).2 (.string (tk n st).1) w) := by
  obtain ⟨s, b⟩ := st
  have c0 := h.c0
  have c1 := h.c1
  have f1 := h.f1
  have H := Lib.hid h
  have HT : Hid (tk n (s, b) = (⟨#[]⟩, (s, false))) := Lib.hid (by unfold tk; rw [if_pos hn])
  simp only at c0 c1 hn
  have hz := h.z
  simp only at hz
  have h1 : (s.size : Int) < (n : Int) := by omega
  have h2 : decide (s.size < n) = true := decide_eq_true hn
  clear h hn
  go_enter Tryd.func68, Tryd.ntmps68
  go_wp2
  go_ret
  rw [HT.out]
  exact ⟨rfl, ⟨by rw [World.cell?_setCell_other _ _ _ _ (by have := H.out.ne; simp; try omega)]; exact H.out.c0, by rw [World.frozen?_setCell]; exact H.out.f0, World.cell?_setCell_same _ _ _ H.out.c1, by rw [World.frozen?_setCell]; exact H.out.f1, H.out.ne, H.out.z⟩, touch_set1 _ _ _ _ (.inr rfl)⟩
theorem take_yes (n Bd Bo : Nat) (st : St) (w : World) (h : DatIn w Bd Bo st) (hn : ¬ st.1.size < n) :
    Calls Tryd.prog 68 #[.int .i64 (n : Int), .pointer (some ⟨Bd, 0, none⟩), .pointer (some ⟨Bo, 0, none⟩)] w (TakePost Bd Bo (tk n st).2 (.string (tk n st).1) w) := by
  obtain ⟨s, b⟩ := st
  have c0 := h.c0
  have f0 := h.f0
  have H := Lib.hid h
  have HT : Hid (tk n (s, b) = (s.extract 0 n, (s.extract n s.size, b))) := Lib.hid (by unfold tk; rw [if_neg hn])
  simp only at c0 hn
  have hz := h.z
  simp only at hz
  have h1 : ¬ (s.size : Int) < (n : Int) := by omega
  have h2 : decide (s.size < n) = false := decide_eq_false hn
  have h3 : (n : Int) ≤ (s.size : Int) := by omega
  have h4 : n ≤ s.size := by omega
  clear h
  go_enter Tryd.func68, Tryd.ntmps68
  go_wp2
  go_ret
  rw [HT.out]
  exact ⟨rfl, ⟨World.cell?_setCell_same _ _ _ H.out.c0, by rw [World.frozen?_setCell]; exact H.out.f0, by rw [World.cell?_setCell_other _ _ _ _ (by have := H.out.ne; simp; try omega)]; exact H.out.c1, by rw [World.frozen?_setCell]; exact H.out.f1, H.out.ne, by show (s.extract n s.size).size ≤ _; rw [ByteArray.size_extract]; omega⟩, touch_set1 _ _ _ _ (.inl rfl)⟩
theorem take_any (n Bd Bo : Nat) (st : St) (w : World) (h : DatIn w Bd Bo st) :
    Calls Tryd.prog 68 #[.int .i64 (n : Int), .pointer (some ⟨Bd, 0, none⟩), .pointer (some ⟨Bo, 0, none⟩)] w (TakePost Bd Bo (tk n st).2 (.string (tk n st).1) w) := by
  by_cases hn : st.1.size < n
  · exact take_no n Bd Bo st w h hn
  · exact take_yes n Bd Bo st w h hn
theorem tk_len (n : Nat) (st : St) : (tk n st).1.size = if st.1.size < n then 0 else n := by
  unfold tk
  split
  · rfl
  · show (st.1.extract 0 n).size = n
    rw [ByteArray.size_extract]; omega
def takeF (Bd Bo : Nat) : Value := .func (.func 68) #[] #[.pointer (some ⟨Bd, 0, none⟩), .pointer (some ⟨Bo, 0, none⟩)]
theorem number_any (n Bd Bo Bt : Nat) (st : St) (w : World) (h : DatIn w Bd Bo st) (hT : w.cell? ⟨Bt, 0, none⟩ = some (.func (.func 68) #[] #[.pointer (some ⟨Bd, 0, none⟩), .pointer (some ⟨Bo, 0, none⟩)])) (hn0 : 1 ≤ n) (hn4 : n ≤ 4) :
    Calls Tryd.prog 69 #[.int .i64 (n : Int), .pointer (some ⟨Bt, 0, none⟩)] w (TakePost Bd Bo (nb n st).2 (.int .i64 (nb n st).1) w) := by
  have HTk := Lib.hid (take_any n Bd Bo st w h)
  have hl := tk_len n st
  have HNb : Hid (nb n st = (if (tk n st).1.size < n then 0 else getK (tk n st).1 n, (tk n st).2)) := Lib.hid rfl
  obtain ⟨r, hr⟩ : ∃ q, q = (tk n st).1 := ⟨_, rfl⟩
  obtain ⟨st', hst⟩ : ∃ q, q = (tk n st).2 := ⟨_, rfl⟩
  rw [← hr, ← hst] at HTk HNb
  rw [← hr] at hl
  have hm : mayB (n : Int) = true := by unfold mayB; exact decide_eq_true (by omega)
  have HM := Lib.hid hm
  clear h hr hst hm
  by_cases hs : r.size < n
  · have HG := Lib.hid (Get_form r (n : Int) · HM.out (by omega))
    have hv : Hid (nb n st = (0, st')) := Lib.hid (by rw [HNb.out, if_pos hs])
    clear hs hl
    go_enter Tryd.func69, Tryd.ntmps69
    go_wp2_with fail
    refine HTk.out.mono ?_
    rintro e w1 ⟨rfl, hd, ht⟩
    have HD := Lib.hid hd
    have HTo := Lib.hid ht
    clear hd ht
    go_wp2_with fail
    refine (HG.out _).mono ?_
    rintro e w2 ⟨v, rfl, he, hb⟩
    have HB := Lib.hid hb
    clear he hb
    go_wp2_with fail
    go_ret
    rw [hv.out]
    exact ⟨rfl, HD.out.under HB.out, HTo.out.trans (Touch.of_below HB.out)⟩
  · have hz : r.size ≤ 9223372036854775807 := by rw [hl]; split <;> omega
    have HG := Lib.hid (Get_ok r (n : Int) · HM.out (by omega) hz)
    have hv : Hid (nb n st = (getK r n, st')) := Lib.hid (by rw [HNb.out, if_neg hs])
    simp only [Int.toNat_natCast] at HG
    clear hs hl hz
    go_enter Tryd.func69, Tryd.ntmps69
    go_wp2_with fail
    refine HTk.out.mono ?_
    rintro e w1 ⟨rfl, hd, ht⟩
    have HD := Lib.hid hd
    have HTo := Lib.hid ht
    clear hd ht
    go_wp2_with fail
    refine (HG.out _).mono ?_
    rintro e w2 ⟨rfl, hb⟩
    have HB := Lib.hid hb
    clear hb
    go_wp2_with fail
    go_ret
    rw [hv.out]
    exact ⟨rfl, HD.out.under HB.out, HTo.out.trans (Touch.of_below HB.out)⟩
theorem getK_bd (s : ByteArray) {k : Nat} (h : k ≤ 4) : 0 ≤ getK s k ∧ getK s k < 4294967296 := by
  have hr := getK_range s k
  rcases (show k = 0 ∨ k = 1 ∨ k = 2 ∨ k = 3 ∨ k = 4 by omega) with rfl | rfl | rfl | rfl | rfl <;> simp at hr ⊢ <;> omega
theorem nb_bd (w : Nat) (st : St) (h : w ≤ 4) : 0 ≤ (nb w st).1 ∧ (nb w st).1 < 4294967296 := by
  unfold nb
  show 0 ≤ (if (tk w st).1.size < w then (0 : Int) else getK (tk w st).1 w) ∧ (if (tk w st).1.size < w then (0 : Int) else getK (tk w st).1 w) < 4294967296
  split
  · omega
  · exact getK_bd _ h
theorem runN_bd (w : Nat) (st : St) (h : w ≤ 4) : ∀ k, ∀ x ∈ (runN w st k).1, 0 ≤ x ∧ x < 4294967296
  | 0, x, hx => by cases hx
  | k + 1, x, hx => by
    rw [runN] at hx
    rcases List.mem_append.1 hx with hx | hx
    · exact runN_bd w st h k x hx
    · rw [List.mem_singleton.1 hx]; exact nb_bd w _ h
end Go.Proofs.YtbiijkpffllimaaDoor
