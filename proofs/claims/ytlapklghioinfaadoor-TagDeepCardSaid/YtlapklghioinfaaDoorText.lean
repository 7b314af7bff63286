/- The text of an error: by its contract, at whatever chain of tags. -/
import Derived.Test.YtlapklghioinfaaDoorNum
import Derived.Test.YtlapklghioinfaaDoorKf
import Derived.Deep.RegionHeld3
import Derived.Laws.BytesArg
import Derived.Laws.Concat
namespace Go.Proofs.YtlapklghioinfaaDoor
open Go.RowKit Go.Extern.Stop Go.Stop Go.Extern
set_option linter.unusedVariables false
set_option linter.unusedSimpArgs false

/-- a number's text -/
def errnoB (n : Int) : ByteArray := if 0 ≤ n ∧ n < 100 then ⟨#[102, 97, 117, 108, 116, 32, UInt8.ofNat (48 + n / 10).toNat, UInt8.ofNat (48 + n % 10).toNat]⟩ else ⟨#[102, 97, 117, 108, 116]⟩
/-- the text of tags, the first one ahead -/
def textB : List ByteArray → Option Int → ByteArray
  | [], some n => errnoB n
  | [], none => ⟨#[]⟩
  | s :: l, r => (s ++ ⟨#[46]⟩) ++ textB l r

set_option maxRecDepth 100000 in
theorem errno_text_in (n : Int) (w : World) (h0 : 0 ≤ n) (h1 : n < 100) : Calls Tryd.prog 34 #[.int .i64 n] w fun e w' => e = .returned (.string ⟨#[102, 97, 117, 108, 116, 32, UInt8.ofNat (48 + n / 10).toNat, UInt8.ofNat (48 + n % 10).toNat]⟩) ∧ Below w.heap.size w w' := by
  have hcv := run_convert_bytes_arg (P := Tryd.prog) (w := w.alloc (.cells #[.int .u8 (48 + n / 10), .int .u8 (48 + n % 10)] 5)) 60 5 Tryd.underlying60 Tryd.underlying5 w.heap.size 0 2 2 [48 + n / 10, 48 + n % 10] rfl (fun i hi => by rw [World.cell?_alloc_at _ _ _ _ rfl]; match i, hi with | 0, _ => rfl | 1, _ => rfl) 9 Tryd.underlying9
  go_enter Tryd.func34, Tryd.ntmps34
  go_wp2
  go_ret
  exact ⟨rfl, (Below.refl _ _).alloc (Nat.le_refl _) _⟩
theorem errno_text_out (n : Int) (w : World) (h : n < 0 ∨ 100 ≤ n) : Calls Tryd.prog 34 #[.int .i64 n] w fun e w' => e = .returned (.string ⟨#[102, 97, 117, 108, 116]⟩) ∧ w = w' := by
  rcases h with h | h
  · go_enter Tryd.func34, Tryd.ntmps34
    go_wp2
    go_ret
    exact ⟨rfl, rfl⟩
  · have h0 : 0 ≤ n := by omega
    go_enter Tryd.func34, Tryd.ntmps34
    go_wp2
    go_ret
    exact ⟨rfl, rfl⟩
theorem errno_text (n : Int) (w : World) : Calls Tryd.prog 34 #[.int .i64 n] w fun e w' => e = .returned (.string (errnoB n)) ∧ Below w.heap.size w w' := by
  unfold errnoB
  by_cases h : 0 ≤ n ∧ n < 100
  · rw [if_pos h]; exact errno_text_in n w h.1 h.2
  · rw [if_neg h]; exact (errno_text_out n w (by omega)).mono fun _ _ ⟨he, hw⟩ => ⟨he, hw ▸ Below.refl _ _⟩
theorem errno_nilAhead (v : Value) (w : World) : (nilAhead 228 50 v "Error").run Tryd.prog w = .ok (some false) w := by kernel_rfl
theorem errno_method (v : Value) (w : World) : (Go.method 228 50 v "Error").run Tryd.prog w = .ok (34, v) w := by kernel_rfl
theorem tagged_nilAhead (a : Addr) (w : World) : (nilAhead 228 31 (.pointer (some a)) "Error").run Tryd.prog w = .ok (some false) w := by kernel_rfl
theorem tagged_method (v : Value) (w : World) : (Go.method 228 31 v "Error").run Tryd.prog w = .ok (19, v) w := by kernel_rfl
theorem tagged_nil (w : World) : Calls Tryd.prog 19 #[.pointer none] w fun e w' => e = .returned (.string ⟨#[]⟩) ∧ w = w' := by
  go_enter Tryd.func19, Tryd.ntmps19
  go_wp2
  go_ret
  exact ⟨rfl, rfl⟩
theorem tagged_last (b : Nat) (s : ByteArray) (w : World) (hs : s.size + 1 ≤ 9223372036854775807) (h0 : w.cell? ⟨b, 0, none⟩ = some (.string s)) (h1 : w.cell? ⟨b, 1, none⟩ = some .nilIface) : Calls Tryd.prog 19 #[.pointer (some ⟨b, 0, none⟩)] w fun e w' => e = .returned (.string (s ++ ⟨#[46]⟩)) ∧ w = w' := by
  have hadd := fun w : World => run_string_add_sum (P := Tryd.prog) w s ⟨#[46]⟩ hs
  clear hs
  go_enter Tryd.func19, Tryd.ntmps19
  go_wp2
  go_ret
  exact ⟨rfl, rfl⟩
set_option maxHeartbeats 1000000 in
theorem tagged_errno (b : Nat) (s t : ByteArray) (w : World) (n : Int) (ht : t = errnoB n) (hs : s.size + 1 + t.size ≤ 9223372036854775807) (h0 : w.cell? ⟨b, 0, none⟩ = some (.string s)) (h1 : w.cell? ⟨b, 1, none⟩ = some (.iface 50 (.int .i64 n))) :
    Calls Tryd.prog 19 #[.pointer (some ⟨b, 0, none⟩)] w fun e w' => e = .returned (.string ((s ++ ⟨#[46]⟩) ++ t)) ∧ Below w.heap.size w w' := by
  have hadd := fun w : World => run_string_add_sum (P := Tryd.prog) w s ⟨#[46]⟩ (by show s.size + 1 ≤ _; omega)
  have hadd2 := fun w : World => run_string_add_sum (P := Tryd.prog) w (s ++ ⟨#[46]⟩) t (by rw [ByteArray.size_append]; exact hs)
  clear hs
  subst ht
  have n1 := errno_nilAhead
  have n2 := errno_method
  have H0 := Lib.hid h0
  have H1 := Lib.hid h1
  have HS := Lib.hid (show ∀ w', KF w w' → w'.cell? ⟨b, 0, none⟩ = some (.string s) ∧ w'.cell? ⟨b, 1, none⟩ = some (.iface 50 (.int .i64 n)) ∧ KF w w' from fun w' h => ⟨h.cell H0.out, h.cell H1.out, h⟩)
  have HP := Lib.hid (show ∀ w', (w'.cell? ⟨b, 0, none⟩ = some (.string s) ∧ w'.cell? ⟨b, 1, none⟩ = some (.iface 50 (.int .i64 n)) ∧ KF w w') → KF w w' from fun w' h => h.2.2)
  go_enter Tryd.func19, Tryd.ntmps19
  go_wp2_with fail
  clear h0 h1
  go_region_held3 (fun w' => w'.cell? ⟨b, 0, none⟩ = some (.string s) ∧ w'.cell? ⟨b, 1, none⟩ = some (.iface 50 (.int .i64 n)) ∧ KF w w') ((refine HS.out _ ?_; repeat (first | assumption | exact KF.refl _ | refine KF.drew ?_))) (first | (go_at_call 34; (with_reducible refine (errno_text n _).mono ?_); rintro e wn ⟨rfl, hb⟩; have hKn := KF.step (HP.out _ (by assumption)) hb; clear hb))
  all_goals go_wp2_with fail
  all_goals go_ret
  all_goals exact ⟨rfl, hKn⟩
set_option maxHeartbeats 1000000 in
theorem tagged_deep (b : Nat) (s t : ByteArray) (w : World) (b2 : Nat) (hs : s.size + 1 + t.size ≤ 9223372036854775807) (h0 : w.cell? ⟨b, 0, none⟩ = some (.string s)) (h1 : w.cell? ⟨b, 1, none⟩ = some (.iface 31 (.pointer (some ⟨b2, 0, none⟩))))
    (hin : ∀ W, KF w W → Calls Tryd.prog 19 #[.pointer (some ⟨b2, 0, none⟩)] W fun e w' => e = .returned (.string t) ∧ Below W.heap.size W w') :
    Calls Tryd.prog 19 #[.pointer (some ⟨b, 0, none⟩)] w fun e w' => e = .returned (.string ((s ++ ⟨#[46]⟩) ++ t)) ∧ Below w.heap.size w w' := by
  have hadd := fun w : World => run_string_add_sum (P := Tryd.prog) w s ⟨#[46]⟩ (by show s.size + 1 ≤ _; omega)
  have hadd2 := fun w : World => run_string_add_sum (P := Tryd.prog) w (s ++ ⟨#[46]⟩) t (by rw [ByteArray.size_append]; exact hs)
  clear hs
  have Hin := Lib.hid hin
  clear hin
  have n1 := tagged_nilAhead
  have n2 := tagged_method
  have H0 := Lib.hid h0
  have H1 := Lib.hid h1
  have HS := Lib.hid (show ∀ w', KF w w' → w'.cell? ⟨b, 0, none⟩ = some (.string s) ∧ w'.cell? ⟨b, 1, none⟩ = some (.iface 31 (.pointer (some ⟨b2, 0, none⟩))) ∧ KF w w' from fun w' h => ⟨h.cell H0.out, h.cell H1.out, h⟩)
  have HP := Lib.hid (show ∀ w', (w'.cell? ⟨b, 0, none⟩ = some (.string s) ∧ w'.cell? ⟨b, 1, none⟩ = some (.iface 31 (.pointer (some ⟨b2, 0, none⟩))) ∧ KF w w') → KF w w' from fun w' h => h.2.2)
  go_enter Tryd.func19, Tryd.ntmps19
  go_wp2_with fail
  clear h0 h1
  go_region_held3 (fun w' => w'.cell? ⟨b, 0, none⟩ = some (.string s) ∧ w'.cell? ⟨b, 1, none⟩ = some (.iface 31 (.pointer (some ⟨b2, 0, none⟩))) ∧ KF w w') ((refine HS.out _ ?_; repeat (first | assumption | exact KF.refl _ | refine KF.drew ?_))) (first | (go_at_call 19; (with_reducible refine (Hin.out _ (HP.out _ (by assumption))).mono ?_); rintro e wn ⟨rfl, hb⟩; have hKn := KF.step (HP.out _ (by assumption)) hb; clear hb))
  all_goals go_wp2_with fail
  all_goals go_ret
  all_goals exact ⟨rfl, hKn⟩

/-- the text of tags around a number, or around nil -/
theorem text_chain (l : List ByteArray) : ∀ (b B : Nat) (r : Option Int) (W : World), Chain B W (.iface 31 (.pointer (some ⟨b, 0, none⟩))) l r → (textB l r).size ≤ 9223372036854775807 →
    Calls Tryd.prog 19 #[.pointer (some ⟨b, 0, none⟩)] W fun e w' => e = .returned (.string (textB l r)) ∧ Below W.heap.size W w' := by
  induction l with
  | nil => intro b B r W h; cases h
  | cons s l ih =>
    intro b B r W h hz
    have hz1 : s.size + 1 + (textB l r).size ≤ 9223372036854775807 := by
      have : (textB (s :: l) r).size = s.size + 1 + (textB l r).size := by simp only [textB, ByteArray.size_append]; rfl
      omega
    cases h with
    | last _ _ _ h0 h1 =>
      have e : textB [s] none = s ++ ⟨#[46]⟩ := by simp only [textB]; exact ByteArray.append_empty
      rw [e]
      exact (tagged_last b s W (by omega) h0 h1).mono fun _ _ ⟨he, hw⟩ => ⟨he, hw ▸ Below.refl _ _⟩
    | more _ _ E _ _ _ h0 h1 h2 =>
      cases h2 with
      | num n => exact tagged_errno b s _ W n rfl hz1 h0 h1
      | last b2 s2 hB k0 k1 => exact tagged_deep b s _ W b2 hz1 h0 h1 fun W' hW => ih b2 B none W' (.last b2 s2 hB (hW.cell k0) (hW.cell k1)) (by omega)
      | more b2 s2 E2 l2 _ hB k0 k1 k2 => exact tagged_deep b s _ W b2 hz1 h0 h1 fun W' hW => ih b2 B r W' (.more b2 s2 E2 l2 r hB (hW.cell k0) (hW.cell k1) (k2.under hW)) (by omega)
end Go.Proofs.YtlapklghioinfaaDoor
