/- TagNil: the walk. -/
import Derived.Test.YtlapklghioinfaaDoorTagB
namespace Go.Proofs.YtlapklghioinfaaDoor
open Go.RowKit Go.Extern.Stop Go.Stop Go.Extern
set_option linter.unusedVariables false
set_option linter.unusedSimpArgs false

theorem Unwrap_nil (w : World) : Calls Tryd.prog 20 #[.pointer none] w fun e w' => e = .returned .nilIface ∧ w = w' := by
  go_enter Tryd.func20, Tryd.ntmps20
  go_wp2
  go_ret
  exact ⟨rfl, rfl⟩
theorem Unwrap_some (b : Nat) (v : Value) (w : World) (h : w.cell? ⟨b, 1, none⟩ = some v) : Calls Tryd.prog 20 #[.pointer (some ⟨b, 0, none⟩)] w fun e w' => e = .returned v ∧ w = w' := by
  go_enter Tryd.func20, Tryd.ntmps20
  go_wp2
  go_ret
  exact ⟨rfl, rfl⟩
theorem nil_walk (s : ByteArray) (w : World) (hs : s.size ≤ 140737488351232) (tied : Tied w) :
    Calls Tryd.prog 4 #[.string s] w fun e w' => e = .returned (.bool true) ∧ Below w.heap.size w w' := by
  have hs1 := Lib.hid (show s.size + 1 ≤ 9223372036854775807 by omega)
  have hadd := fun w : World => run_string_add_sum (P := Tryd.prog) w s ⟨#[46]⟩ hs1.out
  have T := Lib.hid tied
  clear tied hs
  go_enter Tryd.func4, Tryd.ntmps4
  go_wp2_with fail
  have HB1 := Lib.hid ((Below.refl w.heap.size w).alloc (Nat.le_refl _) (.cells #[.string s, .nilIface] 33))
  refine (tag_awake _ (T.out.under T.out.lt HB1.out)).mono ?_
  rintro e w2 ⟨rfl, hb⟩
  have hz2 := hb.size
  simp at hz2
  have h20 : w2.cell? ⟨w.heap.size, 0, none⟩ = some (.string s) := (hb.cell (p := ⟨w.heap.size, 0, none⟩) (by simp)).trans (by rw [World.cell?_alloc_at _ _ _ _ rfl]; rfl)
  have h21 : w2.cell? ⟨w.heap.size, 1, none⟩ = some .nilIface := (hb.cell (p := ⟨w.heap.size, 1, none⟩) (by simp)).trans (by rw [World.cell?_alloc_at _ _ _ _ rfl]; rfl)
  have HC2 : Hid (Chain w.heap.size w2 (.iface 31 (.pointer (some ⟨w.heap.size, 0, none⟩))) [s] none) := .last _ _ (Nat.le_refl _) h20 h21
  have HB2 := Lib.hid (Below.trans HB1.out (hb.mono HB1.out.size))
  have H21 := Lib.hid h21
  have H20 := Lib.hid h20
  clear hb
  go_wp2_with fail
  refine (tagged_nil _).mono ?_
  rintro e w3 ⟨rfl, rfl⟩
  go_wp2_with fail
  refine (Unwrap_nil _).mono ?_
  rintro e w3 ⟨rfl, rfl⟩
  go_wp2_with fail
  refine (tagged_last _ s _ hs1.out H20.out H21.out).mono ?_
  rintro e w3 ⟨rfl, rfl⟩
  go_wp2_with fail
  refine (Unwrap_some _ _ _ H21.out).mono ?_
  rintro e w3 ⟨rfl, rfl⟩
  go_wp2_with fail
  refine (Num_none _ _ _ HC2.out (T.out.under T.out.lt HB2.out)).mono ?_
  rintro e w3 ⟨rfl, hb⟩
  have HB3 := Lib.hid (Below.trans HB2.out (hb.mono HB2.out.size))
  have HC3 := Lib.hid (HC2.out.under hb)
  clear hb
  go_wp2_with fail
  refine (Tags_chain _ _ _ _ _ HC3.out (by simp)).mono ?_
  rintro e w5 ⟨v, rfl, hown, hb⟩
  have HB5 := Lib.hid (Below.trans HB3.out (hb.mono HB3.out.size))
  obtain ⟨ad, cap, rfl⟩ := own_slice hown
  clear hb hown
  go_wp2_with fail
  refine (Tags_nil _).mono ?_
  rintro e w6 ⟨rfl, rfl⟩
  go_wp2_with fail
  go_ret
  exact ⟨rfl, HB5.out⟩
end Go.Proofs.YtlapklghioinfaaDoor
