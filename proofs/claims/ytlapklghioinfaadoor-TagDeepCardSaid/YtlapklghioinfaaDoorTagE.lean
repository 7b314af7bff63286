/- TagTexts: the reference's text, and the walk. -/
import Derived.Test.YtlapklghioinfaaDoorTagD
import Derived.Outline
namespace Go.Proofs.YtlapklghioinfaaDoor
open Go.RowKit Go.Extern.Stop Go.Stop Go.Extern
set_option linter.unusedVariables false
set_option linter.unusedSimpArgs false

/-- the reference's text of the first tags: the innermost first -/
def refText (n : Int) (ss : List ByteArray) : ByteArray := textB ss.reverse (some n)
theorem refText_snoc (n : Int) (ss : List ByteArray) (s : ByteArray) : refText n (ss ++ [s]) = (s ++ ⟨#[46]⟩) ++ refText n ss := by
  unfold refText; rw [List.reverse_append]; rfl
theorem refText_size (n : Int) (ss : List ByteArray) (k : Nat) (h : ∀ s ∈ ss, s.size ≤ 140737488351232) (hl : ss.length ≤ 40) : (refText n (ss.take k)).size ≤ 5629499534049328 := by
  have h2 := textB_size (ss.take k).reverse n (fun x hx => h _ (List.mem_of_mem_take (List.mem_reverse.1 hx)))
  rw [List.length_reverse] at h2
  have h3 : (ss.take k).length ≤ 40 := by rw [List.length_take]; omega
  unfold refText
  have h4 := Nat.mul_le_mul_right 140737488351233 h3
  omega
set_option maxRecDepth 100000 in
set_option maxHeartbeats 1000000 in
theorem ref_in (n : Int) (b o len cap : Nat) (ss : List ByteArray) (w : World) (hlen : ss.length = len) (hm : len ≤ 40) (hss : ∀ s ∈ ss, s.size ≤ 140737488351232)
    (hc : Hid (∀ j, j < len → w.cell? ⟨b, o + j, none⟩ = some (.string (ss.getD j ByteArray.empty)))) (h0 : 0 ≤ n) (h1 : n < 100) :
    Calls Tryd.prog 18 #[.int .i64 n, .slice (some ⟨b, o, none⟩) len cap] w fun e w' => e = .returned (.string (refText n ss)) ∧ Below w.heap.size w w' := by
  have HL := Lib.hid hlen
  have HS := Lib.hid hss
  clear hlen hss
  have hcv := run_convert_bytes_arg (P := Tryd.prog) (w := w.alloc (.cells #[.int .u8 (48 + n / 10), .int .u8 (48 + n % 10)] 5)) 60 5 Tryd.underlying60 Tryd.underlying5 w.heap.size 0 2 2 [48 + n / 10, 48 + n % 10] rfl (fun i hi => by rw [World.cell?_alloc_at _ _ _ _ rfl]; match i, hi with | 0, _ => rfl | 1, _ => rfl) 9 Tryd.underlying9
  go_enter Tryd.func18, Tryd.ntmps18
  go_wp2_with fail
  go_loopw [5, 6] (fun s i wl => ∃ k : Nat, k ≤ len ∧ i = .int .i64 k ∧ s = .string (refText n (ss.take k)) ∧ Below w.heap.size w wl) (fun _ i _ => len - (intOf i).toNat)
  case atStart => exact ⟨0, Nat.zero_le _, rfl, by show Value.string _ = Value.string (errnoB n); rw [show errnoB n = _ from if_pos ⟨h0, h1⟩]; rfl, (Below.refl _ _).alloc (Nat.le_refl _) _⟩
  case round =>
    obtain ⟨k, hk, rfl, rfl, hb⟩ := hrel
    have HB := Lib.hid hb
    clear hb
    by_cases hlt : k < len
    · have hltb : decide (k < len) = true := by simpa using hlt
      have hs : wr.cell? ⟨b, o + k, none⟩ = some (.string (ss.getD k ByteArray.empty)) := (HB.out.cell (cell_lt (hc.out k hlt))).trans (hc.out k hlt)
      have hgd : ss.getD k ByteArray.empty = ss[k]'(by rw [HL.out]; exact hlt) := by rw [List.getD_eq_getElem?_getD, List.getElem?_eq_getElem (by rw [HL.out]; exact hlt)]; rfl
      have HSN := Lib.hid (show refText n (ss.take (k + 1)) = ((ss.getD k ByteArray.empty) ++ ⟨#[46]⟩) ++ refText n (ss.take k) by rw [List.take_succ_eq_append_getElem (by rw [HL.out]; exact hlt), refText_snoc, hgd])
      have hsz : (ss.getD k ByteArray.empty).size ≤ 140737488351232 := by rw [hgd]; exact HS.out _ (List.getElem_mem _)
      have hrz : (refText n (ss.take k)).size ≤ 5629499534049328 := refText_size n ss k HS.out (by rw [HL.out]; exact hm)
      clear hgd
      generalize ss.getD k ByteArray.empty = s at hs HSN hsz
      obtain ⟨acc, hacc⟩ : ∃ acc, refText n (ss.take k) = acc := ⟨_, rfl⟩
      rw [hacc] at HSN hrz ⊢
      clear hacc
      have hadd := fun w : World => run_string_add_sum (P := Tryd.prog) w s ⟨#[46]⟩ (by show s.size + 1 ≤ _; omega)
      have hadd2 := fun w : World => run_string_add_sum (P := Tryd.prog) w (s ++ ⟨#[46]⟩) acc (by rw [ByteArray.size_append]; show s.size + 1 + _ ≤ _; omega)
      have hi1 : (k : Int) < (len : Int) := by omega
      clear hsz hrz
      go_wp2_with fail
      go_roundw
      case rel => exact ⟨k + 1, by omega, by go_num, by rw [HSN.out], HB.out⟩
      case measure => simp [intOf]; omega
    · have hltb : decide (k < len) = false := by simpa using hlt
      have HE := Lib.hid (show refText n (ss.take k) = refText n ss by rw [List.take_of_length_le (by rw [HL.out]; omega)])
      rw [HE.out]
      go_wp2_with fail
      go_ret
      exact ⟨rfl, HB.out⟩
set_option maxRecDepth 100000 in
set_option maxHeartbeats 1000000 in
theorem ref_out (n : Int) (b o len cap : Nat) (ss : List ByteArray) (w : World) (hlen : ss.length = len) (hm : len ≤ 40) (hss : ∀ s ∈ ss, s.size ≤ 140737488351232)
    (hc : Hid (∀ j, j < len → w.cell? ⟨b, o + j, none⟩ = some (.string (ss.getD j ByteArray.empty)))) (h : n < 0 ∨ 100 ≤ n) :
    Calls Tryd.prog 18 #[.int .i64 n, .slice (some ⟨b, o, none⟩) len cap] w fun e w' => e = .returned (.string (refText n ss)) ∧ Below w.heap.size w w' := by
  have HL := Lib.hid hlen
  have HS := Lib.hid hss
  clear hlen hss
  rcases h with h | h
  · go_enter Tryd.func18, Tryd.ntmps18
    go_wp2_with fail
    go_loopw [5, 6] (fun s i wl => ∃ k : Nat, k ≤ len ∧ i = .int .i64 k ∧ s = .string (refText n (ss.take k)) ∧ Below w.heap.size w wl) (fun _ i _ => len - (intOf i).toNat)
    case atStart => exact ⟨0, Nat.zero_le _, rfl, by show Value.string _ = Value.string (errnoB n); rw [show errnoB n = _ from if_neg (by omega)], Below.refl _ _⟩
    case round =>
      obtain ⟨k, hk, rfl, rfl, hb⟩ := hrel
      have HB := Lib.hid hb
      clear hb
      by_cases hlt : k < len
      · have hltb : decide (k < len) = true := by simpa using hlt
        have hs : wr.cell? ⟨b, o + k, none⟩ = some (.string (ss.getD k ByteArray.empty)) := (HB.out.cell (cell_lt (hc.out k hlt))).trans (hc.out k hlt)
        have hgd : ss.getD k ByteArray.empty = ss[k]'(by rw [HL.out]; exact hlt) := by rw [List.getD_eq_getElem?_getD, List.getElem?_eq_getElem (by rw [HL.out]; exact hlt)]; rfl
        have HSN := Lib.hid (show refText n (ss.take (k + 1)) = ((ss.getD k ByteArray.empty) ++ ⟨#[46]⟩) ++ refText n (ss.take k) by rw [List.take_succ_eq_append_getElem (by rw [HL.out]; exact hlt), refText_snoc, hgd])
        have hsz : (ss.getD k ByteArray.empty).size ≤ 140737488351232 := by rw [hgd]; exact HS.out _ (List.getElem_mem _)
        have hrz : (refText n (ss.take k)).size ≤ 5629499534049328 := refText_size n ss k HS.out (by rw [HL.out]; exact hm)
        clear hgd
        generalize ss.getD k ByteArray.empty = s at hs HSN hsz
        obtain ⟨acc, hacc⟩ : ∃ acc, refText n (ss.take k) = acc := ⟨_, rfl⟩
        rw [hacc] at HSN hrz ⊢
        clear hacc
        have hadd := fun w : World => run_string_add_sum (P := Tryd.prog) w s ⟨#[46]⟩ (by show s.size + 1 ≤ _; omega)
        have hadd2 := fun w : World => run_string_add_sum (P := Tryd.prog) w (s ++ ⟨#[46]⟩) acc (by rw [ByteArray.size_append]; show s.size + 1 + _ ≤ _; omega)
        have hi1 : (k : Int) < (len : Int) := by omega
        clear hsz hrz
        go_wp2_with fail
        go_roundw
        case rel => exact ⟨k + 1, by omega, by go_num, by rw [HSN.out], HB.out⟩
        case measure => simp [intOf]; omega
      · have hltb : decide (k < len) = false := by simpa using hlt
        have HE := Lib.hid (show refText n (ss.take k) = refText n ss by rw [List.take_of_length_le (by rw [HL.out]; omega)])
        rw [HE.out]
        go_wp2_with fail
        go_ret
        exact ⟨rfl, HB.out⟩
  · have h0 : 0 ≤ n := by omega
    go_enter Tryd.func18, Tryd.ntmps18
    go_wp2_with fail
    go_loopw [5, 6] (fun s i wl => ∃ k : Nat, k ≤ len ∧ i = .int .i64 k ∧ s = .string (refText n (ss.take k)) ∧ Below w.heap.size w wl) (fun _ i _ => len - (intOf i).toNat)
    case atStart => exact ⟨0, Nat.zero_le _, rfl, by show Value.string _ = Value.string (errnoB n); rw [show errnoB n = _ from if_neg (by omega)], Below.refl _ _⟩
    case round =>
      obtain ⟨k, hk, rfl, rfl, hb⟩ := hrel
      have HB := Lib.hid hb
      clear hb
      by_cases hlt : k < len
      · have hltb : decide (k < len) = true := by simpa using hlt
        have hs : wr.cell? ⟨b, o + k, none⟩ = some (.string (ss.getD k ByteArray.empty)) := (HB.out.cell (cell_lt (hc.out k hlt))).trans (hc.out k hlt)
        have hgd : ss.getD k ByteArray.empty = ss[k]'(by rw [HL.out]; exact hlt) := by rw [List.getD_eq_getElem?_getD, List.getElem?_eq_getElem (by rw [HL.out]; exact hlt)]; rfl
        have HSN := Lib.hid (show refText n (ss.take (k + 1)) = ((ss.getD k ByteArray.empty) ++ ⟨#[46]⟩) ++ refText n (ss.take k) by rw [List.take_succ_eq_append_getElem (by rw [HL.out]; exact hlt), refText_snoc, hgd])
        have hsz : (ss.getD k ByteArray.empty).size ≤ 140737488351232 := by rw [hgd]; exact HS.out _ (List.getElem_mem _)
        have hrz : (refText n (ss.take k)).size ≤ 5629499534049328 := refText_size n ss k HS.out (by rw [HL.out]; exact hm)
        clear hgd
        generalize ss.getD k ByteArray.empty = s at hs HSN hsz
        obtain ⟨acc, hacc⟩ : ∃ acc, refText n (ss.take k) = acc := ⟨_, rfl⟩
        rw [hacc] at HSN hrz ⊢
        clear hacc
        have hadd := fun w : World => run_string_add_sum (P := Tryd.prog) w s ⟨#[46]⟩ (by show s.size + 1 ≤ _; omega)
        have hadd2 := fun w : World => run_string_add_sum (P := Tryd.prog) w (s ++ ⟨#[46]⟩) acc (by rw [ByteArray.size_append]; show s.size + 1 + _ ≤ _; omega)
        have hi1 : (k : Int) < (len : Int) := by omega
        clear hsz hrz
        go_wp2_with fail
        go_roundw
        case rel => exact ⟨k + 1, by omega, by go_num, by rw [HSN.out], HB.out⟩
        case measure => simp [intOf]; omega
      · have hltb : decide (k < len) = false := by simpa using hlt
        have HE := Lib.hid (show refText n (ss.take k) = refText n ss by rw [List.take_of_length_le (by rw [HL.out]; omega)])
        rw [HE.out]
        go_wp2_with fail
        go_ret
        exact ⟨rfl, HB.out⟩
end Go.Proofs.YtlapklghioinfaaDoor
