/- TagUnlike, TagNil: walks. -/
import Derived.Test.YtlapklghioinfaaDoorTagA
import Derived.Test.YtlapklghioinfaaDoorText
namespace Go.Proofs.YtlapklghioinfaaDoor
open Go.RowKit Go.Extern.Stop Go.Stop Go.Extern
set_option linter.unusedVariables false
set_option linter.unusedSimpArgs false

theorem own_slice {w : World} {base : Nat} {e : TypeId} {size : Nat} {v : Value} {n : Nat} {xs : List Value} (h : w.ownsRow base e size v n xs) : ∃ a cap, v = .slice a n cap := by
  rcases h.2 with ⟨rfl, rfl⟩ | ⟨g, cap, cur, rfl, _⟩
  · exact ⟨none, 0, rfl⟩
  · exact ⟨_, cap, rfl⟩
theorem ofNat_inj {a b : Nat} (ha : a < 256) (hb : b < 256) (h : UInt8.ofNat a = UInt8.ofNat b) : a = b := by
  have := congrArg UInt8.toNat h
  simp at this
  omega
theorem errnoB_inj {x y : Int} (hx : 0 ≤ x ∧ x < 100) (hy : 0 ≤ y ∧ y < 100) (h : (errnoB x).toList = (errnoB y).toList) : x = y := by
  unfold errnoB at h
  rw [if_pos hx, if_pos hy] at h
  have h2 : ([102, 97, 117, 108, 116, 32, UInt8.ofNat (48 + x / 10).toNat, UInt8.ofNat (48 + x % 10).toNat] : List UInt8) = [102, 97, 117, 108, 116, 32, UInt8.ofNat (48 + y / 10).toNat, UInt8.ofNat (48 + y % 10).toNat] := by
    simpa [ByteArray.toList_eq] using h
  simp at h2
  have e1 := ofNat_inj (by omega) (by omega) h2.1
  have e2 := ofNat_inj (by omega) (by omega) h2.2
  omega

theorem unlike_same (a b x : Int) (s : ByteArray) (p0 : 0 ≤ a ∧ a ≤ 255) (p1 : 0 ≤ b ∧ b ≤ 255) (q0 : 0 ≤ x ∧ x < 100) (hx : a % 100 = x) (hy : b % 100 = x) (w : World) (tied : Tied w) :
    Calls Tryd.prog 14 #[.int .u8 a, .int .u8 b, .string s] w fun e w' => e = .returned (.bool true) ∧ Below w.heap.size w w' := by
  have T := Lib.hid tied
  clear tied
  obtain ⟨p00, p01⟩ := p0
  obtain ⟨p10, p11⟩ := p1
  obtain ⟨q00, q01⟩ := q0
  go_enter Tryd.func14, Tryd.ntmps14
  go_wp2_with fail
  refine (Tag_some s _ _ _).mono ?_
  rintro e w1 ⟨rfl, rfl⟩
  have HB1 := Lib.hid ((Below.refl w.heap.size w).alloc (Nat.le_refl _) (.cells #[.string s, .iface 50 (.int .i64 x)] 33))
  have HC1 : Hid (Chain w.heap.size (w.alloc (.cells #[.string s, .iface 50 (.int .i64 x)] 33)) (.iface 31 (.pointer (some ⟨w.heap.size, 0, none⟩))) [s] (some x)) := .more _ _ _ _ _ (Nat.le_refl _) (by rw [World.cell?_alloc_at _ _ _ _ rfl]; rfl) (by rw [World.cell?_alloc_at _ _ _ _ rfl]; rfl) (.num x)
  go_wp2_with fail
  refine (tag_awake _ (T.out.under T.out.lt HB1.out)).mono ?_
  rintro e w2 ⟨rfl, hb⟩
  have HB2 := Lib.hid (Below.trans HB1.out (hb.mono HB1.out.size))
  have HC2 := Lib.hid (HC1.out.under hb)
  clear hb
  go_wp2_with fail
  refine (errno_text x _).mono ?_
  rintro e w3 ⟨rfl, hb⟩
  have HB3 := Lib.hid (Below.trans HB2.out (hb.mono HB2.out.size))
  have HC3 := Lib.hid (HC2.out.under hb)
  clear hb
  go_wp2_with fail
  refine (errno_text x _).mono ?_
  rintro e w4 ⟨rfl, hb⟩
  have HB4 := Lib.hid (Below.trans HB3.out (hb.mono HB3.out.size))
  have HC4 := Lib.hid (HC3.out.under hb)
  clear hb
  go_wp2_with fail
  refine (Same_eq (m := x) (b := true) (by simp [sameB]) _ _ HC4.out).mono ?_
  rintro e w5 ⟨rfl, rfl⟩
  go_wp2_with fail
  refine (Tags_chain _ _ _ _ _ HC4.out (by simp)).mono ?_
  rintro e w5 ⟨v, rfl, hown, hb⟩
  have HB5 := Lib.hid (Below.trans HB4.out (hb.mono HB4.out.size))
  obtain ⟨ad, cap, rfl⟩ := own_slice hown
  clear hb hown
  go_wp2_with fail
  go_ret
  exact ⟨rfl, HB5.out⟩
theorem unlike_other (a b x y : Int) (s : ByteArray) (p0 : 0 ≤ a ∧ a ≤ 255) (p1 : 0 ≤ b ∧ b ≤ 255) (q0 : 0 ≤ x ∧ x < 100) (q1 : 0 ≤ y ∧ y < 100) (hne : ¬ x = y) (hx : a % 100 = x) (hy : b % 100 = y) (w : World) (tied : Tied w) :
    Calls Tryd.prog 14 #[.int .u8 a, .int .u8 b, .string s] w fun e w' => e = .returned (.bool true) ∧ Below w.heap.size w w' := by
  have T := Lib.hid tied
  clear tied
  obtain ⟨p00, p01⟩ := p0
  obtain ⟨p10, p11⟩ := p1
  obtain ⟨q00, q01⟩ := q0
  have hxy : ((errnoB x).toList == (errnoB y).toList) = false := by simpa using fun h => hne (errnoB_inj ⟨q00, q01⟩ q1 h)
  have hnb : (x == y) = false := by simpa using hne
  go_enter Tryd.func14, Tryd.ntmps14
  go_wp2_with fail
  refine (Tag_some s _ _ _).mono ?_
  rintro e w1 ⟨rfl, rfl⟩
  have HB1 := Lib.hid ((Below.refl w.heap.size w).alloc (Nat.le_refl _) (.cells #[.string s, .iface 50 (.int .i64 x)] 33))
  have HC1 : Hid (Chain w.heap.size (w.alloc (.cells #[.string s, .iface 50 (.int .i64 x)] 33)) (.iface 31 (.pointer (some ⟨w.heap.size, 0, none⟩))) [s] (some x)) := .more _ _ _ _ _ (Nat.le_refl _) (by rw [World.cell?_alloc_at _ _ _ _ rfl]; rfl) (by rw [World.cell?_alloc_at _ _ _ _ rfl]; rfl) (.num x)
  go_wp2_with fail
  refine (tag_awake _ (T.out.under T.out.lt HB1.out)).mono ?_
  rintro e w2 ⟨rfl, hb⟩
  have HB2 := Lib.hid (Below.trans HB1.out (hb.mono HB1.out.size))
  have HC2 := Lib.hid (HC1.out.under hb)
  clear hb
  go_wp2_with fail
  refine (errno_text x _).mono ?_
  rintro e w3 ⟨rfl, hb⟩
  have HB3 := Lib.hid (Below.trans HB2.out (hb.mono HB2.out.size))
  have HC3 := Lib.hid (HC2.out.under hb)
  clear hb
  go_wp2_with fail
  refine (errno_text y _).mono ?_
  rintro e w4 ⟨rfl, hb⟩
  have HB4 := Lib.hid (Below.trans HB3.out (hb.mono HB3.out.size))
  have HC4 := Lib.hid (HC3.out.under hb)
  clear hb
  go_wp2_with fail
  refine (Same_eq (m := y) (b := false) (by simp [sameB]; exact hne) _ _ HC4.out).mono ?_
  rintro e w5 ⟨rfl, rfl⟩
  go_wp2_with fail
  refine (Tags_chain _ _ _ _ _ HC4.out (by simp)).mono ?_
  rintro e w5 ⟨v, rfl, hown, hb⟩
  have HB5 := Lib.hid (Below.trans HB4.out (hb.mono HB4.out.size))
  obtain ⟨ad, cap, rfl⟩ := own_slice hown
  clear hb hown
  go_wp2_with fail
  go_ret
  exact ⟨rfl, HB5.out⟩
theorem unlike_walk (a b : Int) (s : ByteArray) (w : World) (w0 : (Lit.int .u8 a).wf = true) (w1 : (Lit.int .u8 b).wf = true) (w2 : s.size ≤ 140737488351232) (tied : Tied w) :
    Calls Tryd.prog 14 #[.int .u8 a, .int .u8 b, .string s] w fun e w' => e = .returned (.bool true) ∧ Below w.heap.size w w' := by
  have h0 : 0 ≤ a ∧ a ≤ 255 := by simpa [Lit.wf, IntKind.min, IntKind.max, IntKind.signed, IntKind.bits] using w0
  have h1 : 0 ≤ b ∧ b ≤ 255 := by simpa [Lit.wf, IntKind.min, IntKind.max, IntKind.signed, IntKind.bits] using w1
  by_cases h : a % 100 = b % 100
  · exact unlike_same a b (a % 100) s h0 h1 (by omega) rfl h.symm w tied
  · exact unlike_other a b (a % 100) (b % 100) s h0 h1 (by omega) (by omega) h rfl rfl w tied
end Go.Proofs.YtlapklghioinfaaDoor
