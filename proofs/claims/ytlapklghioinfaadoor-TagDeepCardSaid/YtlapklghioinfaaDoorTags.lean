/- A list of tags laid around a number; the tags of an error: by their contracts. -/
import Derived.Test.YtlapklghioinfaaDoorNum
import Derived.Test.YtlapklghioinfaaDoorKf
import Derived.OwnWalk
import Derived.Laws.AppendOwn
import Derived.Maps.AppendAt
namespace Go.Proofs.YtlapklghioinfaaDoor
open Go.RowKit Go.Extern.Stop Go.Stop Go.Extern
set_option linter.unusedVariables false
set_option linter.unusedSimpArgs false

/-- the law's 'tagged': an error of the tags, the innermost first -/
def TaggedPost (ss : List ByteArray) (n : Int) (w : World) (e : Ending) (w' : World) : Prop := ∃ v, e = .returned v ∧ Chain w.heap.size w' v ss.reverse (some n) ∧ Below w.heap.size w w'
set_option maxHeartbeats 1000000 in
theorem tagged_loop (n : Int) (b o len cap : Nat) (ss : List ByteArray) (w : World) (hlen : ss.length = len) (hm : len ≤ 9223372036854775807)
    (hc : Hid (∀ j, j < len → w.cell? ⟨b, o + j, none⟩ = some (.string (ss.getD j ByteArray.empty)))) :
    Calls Tryd.prog 16 #[.int .i64 n, .slice (some ⟨b, o, none⟩) len cap] w (TaggedPost ss n w) := by
  have HL := Lib.hid hlen
  clear hlen
  go_enter Tryd.func16, Tryd.ntmps16
  go_wp2_with fail
  go_loopw [5, 6] (fun E i wl => ∃ k : Nat, k ≤ len ∧ i = .int .i64 k ∧ Chain w.heap.size wl E (ss.take k).reverse (some n) ∧ Below w.heap.size w wl) (fun _ i _ => len - (intOf i).toNat)
  case atStart => exact ⟨0, Nat.zero_le _, rfl, .num n, Below.refl _ _⟩
  case round =>
    obtain ⟨k, hk, rfl, hch, hb⟩ := hrel
    obtain ⟨t, v, rfl⟩ := hch.iface
    have HC := Lib.hid hch
    have HB := Lib.hid hb
    clear hch hb
    by_cases hlt : k < len
    · have hltb : decide (k < len) = true := by simpa using hlt
      have hs : wr.cell? ⟨b, o + k, none⟩ = some (.string (ss.getD k ByteArray.empty)) := (HB.out.cell (cell_lt (hc.out k hlt))).trans (hc.out k hlt)
      obtain ⟨s, hsk⟩ : ∃ s, s = ss.getD k ByteArray.empty := ⟨_, rfl⟩
      rw [← hsk] at hs
      have HK := Lib.hid hsk
      clear hsk
      have hi1 : (k : Int) < (len : Int) := by omega
      go_wp2_with fail
      refine (Tag_some s t v _).mono ?_
      rintro e w1 ⟨rfl, rfl⟩
      go_wp2_with fail
      go_roundw
      case rel =>
        refine ⟨k + 1, by omega, by go_num, ?_, HB.out.alloc HB.out.size _⟩
        have e1 : (ss.take (k + 1)).reverse = s :: (ss.take k).reverse := by
          rw [List.take_succ_eq_append_getElem (by rw [HL.out]; exact hlt), List.reverse_append, HK.out, List.getD_eq_getElem?_getD, List.getElem?_eq_getElem (by rw [HL.out]; exact hlt)]
          rfl
        rw [e1]
        exact .more _ _ _ _ _ HB.out.size (by rw [World.cell?_alloc_at _ _ _ _ rfl]; rfl) (by rw [World.cell?_alloc_at _ _ _ _ rfl]; rfl) (HC.out.alloc _)
      case measure => simp [intOf]; omega
    · have hltb : decide (k < len) = false := by simpa using hlt
      go_wp2_with fail
      go_ret
      refine ⟨_, rfl, ?_, HB.out⟩
      have h := HC.out
      rw [List.take_of_length_le (by rw [HL.out]; omega)] at h
      exact h
theorem tagged_none (n : Int) (a : Option Addr) (cap : Nat) (w : World) :
    Calls Tryd.prog 16 #[.int .i64 n, .slice a 0 cap] w (TaggedPost [] n w) := by
  go_enter Tryd.func16, Tryd.ntmps16
  go_wp2_with fail
  refine wp_loop_rounds 1 ?_
  rw [rounds_succ]
  go_wp2_with fail
  go_ret
  exact ⟨_, rfl, .num n, Below.refl _ _⟩

/-- tag.Tags: a slice of the call's own that holds the tags -/
def TagsPost (l : List ByteArray) (W : World) (e : Ending) (w' : World) : Prop := ∃ v, e = .returned v ∧ w'.ownsRow W.heap.size 9 1 v l.length (l.map Value.string) ∧ Below W.heap.size W w'
theorem assertN (v : Value) (w : World) : (Instr.typeAssert (.iface 50 v) 25 31 true).run Tryd.prog w = .ok (.tuple #[.pointer none, .bool false]) w := by kernel_rfl
theorem assertT (v : Value) (w : World) : (Instr.typeAssert (.iface 31 v) 25 31 true).run Tryd.prog w = .ok (.tuple #[v, .bool true]) w := by kernel_rfl
theorem infoS : (Tryd.prog.info? 9).map (fun i => (i.zero, i.size, i.bytes)) = some (some (.string ⟨#[]⟩), 1, 16) := by kernel_rfl

set_option maxHeartbeats 2000000 in
theorem Tags_chain (B : Nat) (W : World) (E : Value) (l : List ByteArray) (r : Option Int) (hch : Chain B W E l r) (hl : l.length ≤ 1000000) :
    Calls Tryd.prog 17 #[E] W (TagsPost l W) := by
  obtain ⟨i0, hi, hz0, hz1, hz2⟩ := info_parts infoS
  have aN := assertN
  have aT := assertT
  have H := Lib.hid hch
  clear hch
  go_enter Tryd.func17, Tryd.ntmps17
  go_wp2_with fail
  go_loopg [0, 3] (l.length + 1) (fun k E' out wl => ∃ dn l' : List ByteArray, Hid (l = dn ++ l') ∧ Hid (wl.ownsRow W.heap.size 9 1 out dn.length (dn.map Value.string)) ∧ Below W.heap.size W wl ∧ ((Chain B W E' l' r ∧ k = l'.length + 1) ∨ (E' = .nilIface ∧ l' = [] ∧ k = 0)))
  case atStart => exact ⟨[], l, rfl, ⟨rfl, .inl ⟨rfl, rfl⟩⟩, Below.refl _ _, .inl ⟨H.out, rfl⟩⟩
  case round =>
    obtain ⟨dn, l', he, hown, hb, hcase⟩ := hrel
    have HB := Lib.hid hb
    clear hb
    rcases hcase with ⟨hch, hk⟩ | ⟨rfl, rfl, rfl⟩
    · have HK := Lib.hid hk
      clear hk
      cases hch with
      | num n =>
        go_wp2_with fail
        go_ret
        exact ⟨u3, rfl, by rw [he.out, List.append_nil]; exact hown.out, HB.out⟩
      | last b s hBb h0 h1 =>
        have c0 := (HB.out.cell (cell_lt h0)).trans h0
        have c1 := (HB.out.cell (cell_lt h1)).trans h1
        have H1 := Lib.hid h1
        clear h0 h1
        have hz : W.heap.size ≤ wr.heap.size := HB.out.size
        have hdl : dn.length + 1 ≤ 1000000 := by have := congrArg List.length he.out; simp at this; omega
        go_wp2_with (at_builtin; refine wpList_append_own _ rfl _ _ 22 rfl W.heap.size 9 i0 (.string ⟨#[]⟩) 1 16 Tryd.underlying22 hi hz0 hz1 hz2 rfl (by decide) _ _ _ rfl (hown.out.alloc _) ⟨wr.heap.size, 0, none⟩ 1 1 [.string s] rfl rfl (cell_one_new _ _ _) (fun u hu => by simp at hu; subst hu; rfl) (by unfold maxLen; omega) (by omega) (by simp; omega) ?_; intro v' w1 hown' hg _; have HO := Lib.hid hown'; have HB1 := Lib.hid ((HB.out.alloc hz (.cells #[.string s] 9)).grown hg (by simp; omega) (fun k hk => (hown.out.lt k hk).1)); have c2 : w1.cell? ⟨b, 1, none⟩ = some (.nilIface) := (HB1.out.cell (cell_lt H1.out)).trans H1.out; clear hown' hg)
        go_roundg 0
        case measure => rw [HK.out]; simp
        case rel => exact ⟨dn ++ [s], [], by rw [List.append_nil]; exact he.out, Lib.hid (by have h := HO.out; simpa using h), HB1.out, .inr ⟨rfl, rfl, rfl⟩⟩
      | more b s E2 l2 _ hBb h0 h1 h2 =>
        obtain ⟨t2, v2, rfl⟩ := h2.iface
        have c0 := (HB.out.cell (cell_lt h0)).trans h0
        have c1 := (HB.out.cell (cell_lt h1)).trans h1
        have H1 := Lib.hid h1
        have H2 := Lib.hid h2
        clear h0 h1 h2
        have hz : W.heap.size ≤ wr.heap.size := HB.out.size
        have hdl : dn.length + 1 ≤ 1000000 := by have := congrArg List.length he.out; simp at this; omega
        go_wp2_with (at_builtin; refine wpList_append_own _ rfl _ _ 22 rfl W.heap.size 9 i0 (.string ⟨#[]⟩) 1 16 Tryd.underlying22 hi hz0 hz1 hz2 rfl (by decide) _ _ _ rfl (hown.out.alloc _) ⟨wr.heap.size, 0, none⟩ 1 1 [.string s] rfl rfl (cell_one_new _ _ _) (fun u hu => by simp at hu; subst hu; rfl) (by unfold maxLen; omega) (by omega) (by simp; omega) ?_; intro v' w1 hown' hg _; have HO := Lib.hid hown'; have HB1 := Lib.hid ((HB.out.alloc hz (.cells #[.string s] 9)).grown hg (by simp; omega) (fun k hk => (hown.out.lt k hk).1)); have c2 : w1.cell? ⟨b, 1, none⟩ = some (.iface t2 v2) := (HB1.out.cell (cell_lt H1.out)).trans H1.out; clear hown' hg)
        go_roundg (l2.length + 1)
        case measure => rw [HK.out]; simp
        case rel => exact ⟨dn ++ [s], l2, by rw [List.append_assoc]; exact he.out, Lib.hid (by have h := HO.out; simpa using h), HB1.out, .inl ⟨H2.out, rfl⟩⟩
    · go_wp2_with fail
      go_ret
      exact ⟨u3, rfl, by rw [he.out, List.append_nil]; exact hown.out, HB.out⟩
theorem Tags_nil (W : World) : Calls Tryd.prog 17 #[.nilIface] W fun e w' => e = .returned (.slice none 0 0) ∧ W = w' := by
  go_enter Tryd.func17, Tryd.ntmps17
  go_wp2_with fail
  refine wp_loop_rounds 1 ?_
  rw [rounds_succ]
  go_wp2_with fail
  go_ret
  exact ⟨rfl, rfl⟩
end Go.Proofs.YtlapklghioinfaaDoor
