/- SlotShifts: the plain laws. -/
import Derived.Test.YtfgbnnmaooillaaSlotCPSlotShifts
namespace Go.Proofs.Ytfgbnnmaooillaa
open Go.ChangeShapes Go.WideShapes Go.RowKit Go.Lib Go.Proofs.YtfgbnnmaooillaaW.PrintWords Go.Proofs.YtfgbnnmaooillaaW.PrintLast Go.Proofs.YtfgbnnmaooillaaW.PrintMore Go.Proofs.Ytfgbnnmaooillaa.PSlotShifts
set_option linter.unusedVariables false
set_option linter.unusedSimpArgs false

def shB (d : Int) (s : SB) : SB := ⟨s.f0, s.f1 + d, s.f2 + d⟩
def okS (s : RB) : Bool := rightB (toBkR s) && decide (s.f2 < 1073741824)
def selL (l : List RB) : List SB := (l.filter okS).map ofR
def Small (L : List SB) : Prop := ∀ s ∈ L, rightB (toBk s) = true ∧ s.f2 < 1073741824
theorem sel_small (l : List RB) : Small (selL l) := by
  intro s hs
  obtain ⟨r, hr, rfl⟩ := List.mem_map.1 hs
  have := (List.mem_filter.1 hr).2
  simp only [okS, Bool.and_eq_true, decide_eq_true_eq] at this
  exact this
theorem sel_len (l : List RB) : (selL l).length ≤ l.length := by unfold selL; rw [List.length_map]; exact List.length_filter_le _ _
theorem holds_shift (d x : Int) (hd : 0 ≤ d) (hd2 : d ≤ 255) (s : SB) (h : rightB (toBk s) = true ∧ s.f2 < 1073741824) : holdsB (toBk (shB d s)) (x + d) = holdsB (toBk s) x := by
  obtain ⟨h1, h2⟩ := h
  have h4 : 0 ≤ s.f0 ∧ s.f0 ≤ 9 ∧ 0 ≤ s.f1 ∧ s.f1 < s.f2 ∧ s.f2 ≤ 2147483647 := of_decide_eq_true h1
  have h3 : rightB (toBk (shB d s)) = true := decide_eq_true (show 0 ≤ s.f0 ∧ s.f0 ≤ 9 ∧ 0 ≤ s.f1 + d ∧ s.f1 + d < s.f2 + d ∧ s.f2 + d ≤ 2147483647 by omega)
  unfold holdsB
  rw [h1, h3, Bool.true_and, Bool.true_and]
  exact decide_eq_decide.2 (show s.f1 + d ≤ x + d ∧ x + d < s.f2 + d ↔ s.f1 ≤ x ∧ x < s.f2 by omega)
theorem count_shift (d x : Int) (hd : 0 ≤ d) (hd2 : d ≤ 255) : ∀ L : List SB, Small L → countL (bks (L.map (shB d))) (x + d) = countL (bks L) x
  | [], _ => rfl
  | s :: L, h => by
    have ih := count_shift d x hd hd2 L (fun t ht => h t (List.mem_cons_of_mem _ ht))
    have hs := holds_shift d x hd hd2 s (h s List.mem_cons_self)
    simp only [bks, List.map_cons, countL, List.countP_cons] at ih ⊢
    rw [ih, hs]
theorem peakTo_shift (d a b : Int) (hd : 0 ≤ d) (hd2 : d ≤ 255) (L : List SB) (hL : Small L) : ∀ (K : List SB) (m : Nat), peakTo (bks (L.map (shB d))) (a + d) (b + d) m (bks (K.map (shB d))) = peakTo (bks L) a b m (bks K)
  | [], m => rfl
  | k :: K, m => by
    have e : ∀ m', peakTo (bks (L.map (shB d))) (a + d) (b + d) m' (bks (K.map (shB d))) = peakTo (bks L) a b m' (bks K) := fun m' => peakTo_shift d a b hd hd2 L hL K m'
    have hc := count_shift d k.f1 hd hd2 L hL
    show peakTo _ _ _ _ (toBk (shB d k) :: bks (K.map (shB d))) = peakTo _ _ _ _ (toBk k :: bks K)
    rw [peakTo, peakTo]
    have h1 : (toBk (shB d k)).f = k.f1 + d := rfl
    have h2 : (toBk k).f = k.f1 := rfl
    rw [h1, h2, hc, e]
    by_cases hh : a ≤ k.f1 ∧ k.f1 < b
    · rw [if_pos hh, if_pos (by omega)]
    · rw [if_neg hh, if_neg (by omega)]
theorem peak_shift (d a b : Int) (hd : 0 ≤ d) (hd2 : d ≤ 255) (L : List SB) (hL : Small L) : peakL (bks (L.map (shB d))) (a + d) (b + d) = peakL (bks L) a b := by
  unfold peakL
  by_cases h : b ≤ a
  · rw [if_pos h, if_pos (by omega)]
  · rw [if_neg h, if_neg (by omega), count_shift d a hd hd2 L hL, peakTo_shift d a b hd hd2 L hL]
theorem past_shift (d x : Int) : ∀ L : List SB, (pastB (x + d) (L.map (shB d))).length = (pastB x L).length
  | [] => rfl
  | s :: L => by
    have ih := past_shift d x L
    unfold pastB at ih ⊢
    rw [List.map_cons, List.filter_cons, List.filter_cons]
    have e : decide (x + d < (shB d s).f2) = decide (x < s.f2) := decide_eq_decide.2 (show x + d < s.f2 + d ↔ x < s.f2 by omega)
    rw [e]
    by_cases h : x < s.f2
    · rw [if_pos (by simpa using h), if_pos (by simpa using h), List.length_cons, List.length_cons, ih]
    · rw [if_neg (by simpa using h), if_neg (by simpa using h), ih]
theorem sel_snoc (l : List RB) (i : Nat) (h : i < l.length) : selL (l.take (i + 1)) = selL (l.take i) ++ if okS l[i] = true then [ofR l[i]] else [] := by
  unfold selL
  rw [List.take_succ_eq_append_getElem h, List.filter_append, List.map_append]
  by_cases hh : okS l[i] = true <;> simp [hh]
/-! ### rows of bookings, by their cells -/
def cells3 (L : List SB) : List Value := L.flatMap fun s => [.int .i64 s.f0, .int .i64 s.f1, .int .i64 s.f2]
theorem cells3_snoc (L : List SB) (s : SB) : cells3 (L ++ [s]) = cells3 L ++ [.int .i64 s.f0, .int .i64 s.f1, .int .i64 s.f2] := by simp [cells3]
theorem cells3_reps (w : World) (base : Nat) (ok : Nat → Prop) (L : List SB) : Reps ((kSB).M w base ok) 3 L (cells3 L) := by
  suffices h : ∀ L' : List SB, Reps ((kSB).M w base ok) 3 L'.reverse (cells3 L'.reverse) by
    have := h L.reverse; rwa [List.reverse_reverse] at this
  intro L'
  induction L' with
  | nil => exact Reps.none _ _
  | cons s L' ih =>
    rw [List.reverse_cons, cells3_snoc]
    exact ih.snoc (k31_mkM w base ok s) rfl
theorem R_of_cells {w : World} {base : Nat} {v : Value} {L : List SB} (h : w.ownsRow base 31 3 v L.length (cells3 L)) : Kd.R kSB 31 w base (fun _ => True) v L :=
  ⟨fun _ _ => trivial, cells3 L, h, cells3_reps _ _ _ _⟩
theorem peak_call {base : Nat} {ok : Nat → Prop} {v : Value} {L : List SB} (a b : Int) (W : World) (h : Kd.R kSB 31 W base ok v L) (hl : L.length ≤ 1000) :
    Calls Try.prog 8 #[v, .int .i64 a, .int .i64 b] W fun e w' => e = .returned (.int .i64 (peakL (bks L) a b : Nat)) ∧ Below W.heap.size W w' := by
  obtain ⟨A, c, rfl, hc, hC⟩ := Kd.R_reads h
  exact slot_Peak.calls 3000 A c L a b _ W hC hc (speak_f L a b hl 3000 (by omega))
end Go.Proofs.Ytfgbnnmaooillaa
