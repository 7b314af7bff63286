/- TagDeep: the walk by cases; a list of strings read as a source. -/
import Derived.Test.YtlapklghioinfaaDoorTagG
import Derived.Test.YtlapklghioinfaaDoorArgsS
namespace Go.Proofs.YtlapklghioinfaaDoor
open Go.RowKit Go.Extern.Stop Go.Stop Go.Extern Go.ChangeShapes Go.WideShapes
set_option linter.unusedVariables false

theorem read_src {H : Type} {enc : TypeId × Value → H} {P : Program} {W : World} {base : Nat} {spare : Nat → Bool} {held : Bool} {t e : TypeId} {a : Option Addr} {len cap : Nat} {d : DataW H} {ps : List MemPlace}
    (hu : P.underlying t = some (.slice e)) (he : P.underlying e = some .string) (hc : P.cellsOf e = 1)
    (h : DataW.Trod enc P W base spare held t (.slice a len cap) d ps) : ∃ ss, IsStrs W a len ss ∧ SrcStrs W a len cap ss ∧ (len = 0 ∨ ∃ rest, d = .slice (strs ss) rest) := by
  obtain ⟨ss, h1, h2⟩ := read_strs hu he hc h
  refine ⟨ss, h1, ?_, h2⟩
  obtain ⟨hl, _, _, hcell⟩ := h1
  obtain ⟨fuel, hf⟩ := h
  rcases open_strings hu he hc hf with ⟨hcs, _⟩ | ⟨x, l, c, ss', hcs, _⟩
  · simp [Value.cells] at hcs
    obtain ⟨rfl, rfl, rfl⟩ := hcs
    exact .inl ⟨rfl, rfl, rfl, List.eq_nil_of_length_eq_zero hl⟩
  · simp [Value.cells] at hcs
    obtain ⟨rfl, rfl, rfl⟩ := hcs
    refine .inr ⟨x, rfl, fun j u hj => ?_⟩
    have hlt : j < ss.length := by have := (List.getElem?_eq_some_iff.1 hj).1; simpa using this
    rcases hcell with h0 | ⟨b, o, hx, hb⟩
    · omega
    · obtain rfl := Option.some.inj hx
      rw [Go.WideShapes.add_plain, hb j (by omega), List.getD_eq_getElem?_getD]
      rw [List.getElem?_map] at hj
      cases hs : ss[j]? with
      | none => rw [hs] at hj; cases hj
      | some s => rw [hs] at hj; simpa using hj
theorem deep_out1 (n : Int) (a a2 : Option Addr) (len cap len2 cap2 : Nat) (hl : 40 < len) (w : World) (tied : Tied w) :
    Calls Tryd.prog 6 #[.int .i64 n, .slice a len cap, .slice a2 len2 cap2] w fun e w' => e = .returned (.bool true) ∧ Below w.heap.size w w' := by
  have T := Lib.hid tied
  clear tied
  have hd : decide ((40 : Int) < (len : Int)) = true := by simp; omega
  go_enter Tryd.func6, Tryd.ntmps6
  go_wp2_with fail
  refine (tag_awake _ T.out).mono ?_
  rintro e w1 ⟨rfl, hb⟩
  have HB1 := Lib.hid hb
  clear hb
  go_wp2_with fail
  refine (tag_awake _ (T.out.under T.out.lt HB1.out)).mono ?_
  rintro e w2 ⟨rfl, hb⟩
  have HB2 := Lib.hid (Below.trans HB1.out (hb.mono HB1.out.size))
  clear hb
  go_wp2_with fail
  go_ret
  exact ⟨rfl, HB2.out⟩
theorem deep_out2 (n : Int) (a a2 : Option Addr) (len cap len2 cap2 : Nat) (hl : len ≤ 40) (hl2 : 40 < len2) (w : World) (tied : Tied w) :
    Calls Tryd.prog 6 #[.int .i64 n, .slice a len cap, .slice a2 len2 cap2] w fun e w' => e = .returned (.bool true) ∧ Below w.heap.size w w' := by
  have T := Lib.hid tied
  clear tied
  have hd : decide ((40 : Int) < (len : Int)) = false := by simp; omega
  have hd2 : decide ((40 : Int) < (len2 : Int)) = true := by simp; omega
  go_enter Tryd.func6, Tryd.ntmps6
  go_wp2_with fail
  refine (tag_awake _ T.out).mono ?_
  rintro e w1 ⟨rfl, hb⟩
  have HB1 := Lib.hid hb
  clear hb
  go_wp2_with fail
  refine (tag_awake _ (T.out.under T.out.lt HB1.out)).mono ?_
  rintro e w2 ⟨rfl, hb⟩
  have HB2 := Lib.hid (Below.trans HB1.out (hb.mono HB1.out.size))
  clear hb
  go_wp2_with fail
  go_ret
  exact ⟨rfl, HB2.out⟩
theorem deep_walk (n : Int) (a : Option Addr) (len cap : Nat) (ss : List ByteArray) (a2 : Option Addr) (len2 cap2 : Nat) (ss2 : List ByteArray) (w : World) (w1 : (Lit.int .i64 n).wf = true)
    (r : IsStrs w a len ss) (q : SrcStrs w a len cap ss) (hss : ∀ s ∈ ss, s.size ≤ 140737488351232) (r2 : IsStrs w a2 len2 ss2) (q2 : SrcStrs w a2 len2 cap2 ss2) (hss2 : ∀ s ∈ ss2, s.size ≤ 140737488351232) (tied : Tied w) :
    Calls Tryd.prog 6 #[.int .i64 n, .slice a len cap, .slice a2 len2 cap2] w fun e w' => e = .returned (.bool true) ∧ Below w.heap.size w w' := by
  by_cases hl : len ≤ 40
  · by_cases hl2 : len2 ≤ 40
    · have ht := tagged_any n a len cap ss w r
      have e1 := r.1
      have e2 := r2.1
      rcases q with ⟨rfl, rfl, rfl, rfl⟩ | ⟨ad, rfl, q⟩
      · rcases q2 with ⟨rfl, rfl, rfl, rfl⟩ | ⟨ad2, rfl, q2⟩
        · exact deep_none_none_nn n w tied ht
        · by_cases h2 : len2 = 0
          · subst h2; exact deep_none_some_nn n ad2 cap2 ss2 e2 hss2 w tied q2 ht
          · exact deep_none_some_tn n ad2 len2 cap2 ss2 e2 hl2 hss2 (by omega) w tied q2 ht
      · rcases q2 with ⟨rfl, rfl, rfl, rfl⟩ | ⟨ad2, rfl, q2⟩
        · by_cases h1 : len = 0
          · subst h1; exact deep_some_none_nn n ad cap ss e1 hss w tied q ht
          · exact deep_some_none_tt n ad len cap ss e1 hl hss (by omega) w tied q ht
        · by_cases h1 : len = 0
          · subst h1
            by_cases h2 : len2 = 0
            · subst h2; exact deep_some_some_nn n ad cap ss e1 hss ad2 cap2 ss2 e2 hss2 w tied q q2 ht
            · exact deep_some_some_tn n ad cap ss e1 hss ad2 len2 cap2 ss2 e2 hl2 hss2 (by omega) w tied q q2 ht
          · exact deep_some_some_tt n ad len cap ss e1 hl hss ad2 len2 cap2 ss2 e2 hl2 hss2 (by omega) w tied q q2 ht
    · exact deep_out2 n a a2 len cap len2 cap2 hl (by omega) w tied
  · exact deep_out1 n a a2 len cap len2 cap2 (by omega) w tied
end Go.Proofs.YtlapklghioinfaaDoor
