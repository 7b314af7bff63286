/- Bookings in memory; slices.Clone, slices.DeleteFunc, slot.Of at them (seat with errors). -/
import Derived.Test.YtfgbnnmaooillaaDoorGnC
import Derived.Test.YtfgbnnmaooillaaDoorErrC
import Derived.Test.YtfgbnnmaooillaaDoorReg
import Derived.Test.YtfgbnnmaooillaaDoorSlotAPSlotPlays
namespace Go.Proofs.YtfgbnnmaooillaaDoor
open Go.ChangeShapes Go.WideShapes Go.RowKit Go.Lib Go.Proofs.YtfgbnnmaooillaaDoorW.PrintWords Go.Proofs.YtfgbnnmaooillaaDoorW.PrintLast Go.Proofs.YtfgbnnmaooillaaDoorW.PrintMore Go.Proofs.YtfgbnnmaooillaaDoor.PSlotPlays
set_option linter.unusedVariables false
set_option linter.unusedSimpArgs false

theorem under_alloc {W w1 : World} {o : Obj} (hb : Below (W.alloc o).heap.size (W.alloc o) w1) : Below W.heap.size W w1 := ((Below.refl _ W).alloc (Nat.le_refl _) o).trans (hb.mono (by simp))
theorem index_none (f : Value) (c : Nat) (W : World) : Calls Tryd.prog 48 #[.slice none 0 c, f] W fun e w' => e = .returned (.int .i64 (-1)) ∧ w' = W := by
  go_enter Tryd.func48, Tryd.ntmps48
  go_wp2
  go_loopg [5, 8] 1 (fun gg _ s8 wr => s8 = .int .i64 0 ∧ wr = W)
  case atStart => exact ⟨rfl, rfl⟩
  case round =>
    obtain ⟨rfl, rfl⟩ := hrel
    go_wp2
    go_ret
    exact ⟨rfl, rfl⟩
theorem delete_none (f : Value) (c : Nat) (W : World) : Calls Tryd.prog 37 #[.slice none 0 c, f] W fun e w' => e = .returned (.slice none 0 c) ∧ w' = W := by
  go_enter Tryd.func37, Tryd.ntmps37
  go_wp2_with (go_at_call 48; refine (index_none f c W).mono ?_; rintro e w1 ⟨rfl, rfl⟩)
  go_ret
  exact ⟨rfl, rfl⟩
abbrev kSB := k42
/-- the cells of a row of bookings, by number -/
def mOf (l : List SB) (t : Nat) : Int := match l[t / 3]? with | none => 0 | some s => if t % 3 = 0 then s.f0 else if t % 3 = 1 then s.f1 else s.f2
theorem mOf_at (l : List SB) (j : Nat) (h : j < l.length) : mOf l (j * 3) = l[j].f0 ∧ mOf l (j * 3 + 1) = l[j].f1 ∧ mOf l (j * 3 + 2) = l[j].f2 := by
  have e0 : j * 3 / 3 = j := by omega
  have e1 : (j * 3 + 1) / 3 = j := by omega
  have e2 : (j * 3 + 2) / 3 = j := by omega
  have m0 : j * 3 % 3 = 0 := by omega
  have m1 : (j * 3 + 1) % 3 = 1 := by omega
  have m2 : (j * 3 + 2) % 3 = 2 := by omega
  refine ⟨?_, ?_, ?_⟩ <;> simp [mOf, e0, e1, e2, m0, m1, m2, List.getElem?_eq_getElem h]
def tri (s : SB) : Int × Int × Int := (s.f0, s.f1, s.f2)
theorem rowsOf_mOf (l : List SB) : rowsOf (mOf l) l.length = l.map tri := by
  apply List.ext_getElem
  · simp [rowsOf]
  · intro i h1 h2
    have hi : i < l.length := by simpa using h2
    obtain ⟨a, b, c⟩ := mOf_at l i hi
    simp [rowsOf, a, b, c, tri]
/-- a row that is read, by its cells -/
theorem cells_of_C {w : World} {b o n : Nat} {l : List SB} (h : Kd.C kSB w (some ⟨b, o, none⟩) n l) : BCells w b o n (mOf l) := by
  obtain ⟨h1, _, h3⟩ := h
  subst h1
  intro t ht
  obtain ⟨ad, e, hc⟩ := h3 (by omega)
  obtain rfl := Option.some.inj e
  have hj : t / 3 < l.length := by omega
  obtain ⟨cs, hl, hk, hcell⟩ := hc (t / 3) _ (List.getElem?_eq_getElem hj)
  obtain rfl := k42_open hk
  have e3 : (kSB).sz = 3 := rfl
  rw [e3] at hcell
  obtain ⟨a, b', c⟩ := mOf_at l (t / 3) hj
  have hd : t = t / 3 * 3 + t % 3 := by omega
  have hm : t % 3 < 3 := by omega
  have := hcell (t % 3)
  rw [Go.WideShapes.add_plain] at this
  rw [hd]
  generalize t % 3 = d at this hm
  match d, hm with
  | 0, _ => exact (this _ rfl).trans (by rw [Nat.add_zero, a])
  | 1, _ => exact (this _ rfl).trans (by rw [b'])
  | 2, _ => exact (this _ rfl).trans (by rw [c])
theorem R_own3 {w : World} {base : Nat} {ok : Nat → Prop} {v : Value} {l : List SB} (h : Kd.R kSB 42 w base ok v l) :
    (v = .slice none 0 0 ∧ l = []) ∨ ∃ g cap, v = .slice (some ⟨g, 0, none⟩) l.length cap ∧ l.length ≤ cap ∧ base ≤ g ∧ g < w.heap.size ∧ BCells w g 0 l.length (mOf l) := by
  obtain ⟨A, c, rfl, hlc, hC⟩ := Kd.R_reads h
  obtain ⟨inner, ho⟩ := Kd.R_own h
  rcases ho.2 with ⟨hv, hi⟩ | ⟨g, cap, cur, hv, hg, hh, _⟩
  · simp only [Value.slice.injEq] at hv
    obtain ⟨rfl, hn, rfl⟩ := hv
    exact .inl ⟨by rw [hn], List.eq_nil_of_length_eq_zero hn⟩
  · have hlt := ho.lt
    simp only [Value.slice.injEq] at hv
    obtain ⟨rfl, _, rfl⟩ := hv
    exact .inr ⟨g, _, rfl, hlc, hg, (hlt g rfl).2, cells_of_C hC⟩
/-- a slice of bookings that reads as l -/
def SBs (w : World) (v : Value) (l : List SB) : Prop := ∃ A c, v = .slice A l.length c ∧ l.length ≤ c ∧ Kd.C kSB w A l.length l
theorem filter_tri (p : Int → Int → Int → Bool) (l : List SB) : (l.map tri).filter (keep3 p) = (l.filter fun s => !p s.f0 s.f1 s.f2).map tri := by
  rw [List.filter_map]; rfl
theorem C_of_rows {w : World} {g k : Nat} {m' : Nat → Int} {l : List SB} (hB : 0 < k → B0 w g k m') (hr : rowsOf m' k = l.map tri) (hk : k ≤ 1000000) : Kd.C kSB w (some ⟨g, 0, none⟩) k l := by
  have hl : l.length = k := by have := congrArg List.length hr; rw [rowsOf_length, List.length_map] at this; omega
  refine ⟨hl, by omega, fun h0 => ⟨_, rfl, fun j s hj => ⟨[.int .i64 s.f0, .int .i64 s.f1, .int .i64 s.f2], rfl, k42_mk w s, fun i u hu => ?_⟩⟩⟩
  have hjk : j < k := by have := (List.getElem?_eq_some_iff.1 hj).1; omega
  have hrj : (rowsOf m' k)[j]? = some (m' (j * 3), m' (j * 3 + 1), m' (j * 3 + 2)) := by
    unfold rowsOf; rw [List.getElem?_map, List.getElem?_range hjk]; rfl
  rw [hr, List.getElem?_map, hj] at hrj
  simp only [Option.map_some, Option.some.injEq, tri, Prod.mk.injEq] at hrj
  have hb := hB h0
  have e3 : (kSB).sz = 3 := rfl
  rw [e3, Go.WideShapes.add_plain, Nat.zero_add]
  match i, hu with
  | 0, hu => simp at hu; subst hu; rw [hrj.1]; exact hb _ (by omega)
  | 1, hu => simp at hu; subst hu; rw [hrj.2.1]; exact hb _ (by omega)
  | 2, hu => simp at hu; subst hu; rw [hrj.2.2]; exact hb _ (by omega)
/-! ### slot.Of -/
def ofP (r x : Int) : Int → Int → Int → Bool := fun a b c => a == r && holdsB ⟨a, b, c⟩ x
def ofB (r x : Int) (l : List SB) : Bool := l.any fun s => ofP r x s.f0 s.f1 s.f2
theorem cell_old {w : World} {a : Addr} {u : Value} (h : w.cell? a = some u) : a.block < w.heap.size := by
  rcases Nat.lt_or_ge a.block w.heap.size with h' | h'
  · exact h'
  · simp [World.cell?, Array.getElem?_eq_none h'] at h
theorem of_pred (r x : Int) (a1 a2 : Addr) (base : Nat) (W : World) (ha1 : a1.block < base) (ha2 : a2.block < base) (hc1 : W.cell? a1 = some (.int .i64 r)) (hc2 : W.cell? a2 = some (.int .i64 x)) :
    PredB 41 #[.pointer (some a1), .pointer (some a2)] (ofP r x) base W := fun w p q z hb => by
  have d1 : (w.alloc (.cells #[.int .i64 p, .int .i64 q, .int .i64 z] 42)).cell? a1 = some (.int .i64 r) := Lib.cell?_alloc_some _ ((hb.cell ha1).trans hc1)
  have d2 : (w.alloc (.cells #[.int .i64 p, .int .i64 q, .int .i64 z] 42)).cell? a2 = some (.int .i64 x) := Lib.cell?_alloc_some _ ((hb.cell ha2).trans hc2)
  have hn1 : a1.block ≠ w.heap.size := by have := cell_old ((hb.cell ha1).trans hc1); omega
  have hn2 : a2.block ≠ w.heap.size := by have := cell_old ((hb.cell ha2).trans hc2); omega
  have HH := fun (w : World) => slot_Booking_holds.calls p q z x _ w (sholds_f p q z x)
  have HH' := Lib.hid HH
  clear hb hc1 hc2 HH
  show Calls Tryd.prog 41 #[.agg #[.int .i64 p, .int .i64 q, .int .i64 z], .pointer (some a1), .pointer (some a2)] w _
  by_cases hp : p = r
  · have hq : Hid (ofP r x p q z = holdsB ⟨p, q, z⟩ x) := by show _ = _; simp [ofP, hp]
    have hpr : (p == r) = true := by simpa using hp
    generalize holdsB ⟨p, q, z⟩ x = hv at HH' hq
    clear hp
    go_enter Tryd.func41, Tryd.ntmps41
    go_wp2_with (go_at_call 42; refine (HH'.out _).mono ?_; rintro e w' ⟨rfl, hb'⟩; have HB := Lib.hid hb'; clear hb')
    go_ret
    exact ⟨by rw [hq.out]; rfl, under_alloc HB.out⟩
  · have hq : Hid (ofP r x p q z = false) := by show _ = _; simp [ofP, hp]
    have hpr : (p == r) = false := by simpa using hp
    clear hp
    go_enter Tryd.func41, Tryd.ntmps41
    go_wp2_with fail
    go_ret
    exact ⟨by rw [hq.out]; rfl, (Below.refl _ w).alloc (Nat.le_refl _) _⟩
theorem found_any {p : Int → Int → Int → Bool} {l : List SB} {r : Int} (h : Found (at3 p (mOf l)) l.length r) : decide (0 ≤ r) = l.any fun s => p s.f0 s.f1 s.f2 := by
  have hat : ∀ j (hj : j < l.length), at3 p (mOf l) j = p l[j].f0 l[j].f1 l[j].f2 := fun j hj => by
    obtain ⟨a, b, c⟩ := mOf_at l j hj
    unfold at3; rw [a, b, c]
  rcases h with ⟨rfl, ha⟩ | ⟨k, hk, rfl, ht, _⟩
  · symm
    rw [show decide ((0 : Int) ≤ -1) = false from rfl, List.any_eq_false]
    intro s hs
    obtain ⟨j, hj, rfl⟩ := List.getElem_of_mem hs
    rw [← hat j hj, ha j hj]; simp
  · symm
    rw [show decide ((0 : Int) ≤ (k : Int)) = true by simp, List.any_eq_true]
    exact ⟨l[k], List.getElem_mem hk, by rw [← hat k hk]; exact ht⟩
def ContPost (q : Nat → Bool) (n : Nat) (W : World) (e : Ending) (w' : World) : Prop := ∃ r : Int, e = .returned (.bool (decide (0 ≤ r))) ∧ Found q n r ∧ Below W.heap.size W w'
theorem contains_of (A1 A2 : Addr) (p : Int → Int → Int → Bool) (base b o n c : Nat) (m : Nat → Int) (W : World)
    (hp : PredB 41 #[.pointer (some A1), .pointer (some A2)] p base W) (hbase : base ≤ W.heap.size) (hn : n ≤ 1000000) (hb : b < W.heap.size) (hc : BCells W b o n m) :
    Calls Tryd.prog 40 #[.slice (some ⟨b, o, none⟩) n c, .func (.func 41) #[] #[.pointer (some A1), .pointer (some A2)]] W (ContPost (at3 p m) n W) := by
  have HI := Lib.hid (index_of A1 A2 p base b o n c m W hp hbase hn hb hc)
  clear hp hc
  go_enter Tryd.func40, Tryd.ntmps40
  go_wp2_with fail
  refine HI.out.mono ?_
  rintro e w1 ⟨⟨r, rfl, hf⟩, hb1⟩
  have HF := Lib.hid hf
  have HB := Lib.hid hb1
  clear hf hb1
  go_wp2_with fail
  go_ret
  exact ⟨r, rfl, HF.out, HB.out⟩
theorem contains_none (f : Value) (c : Nat) (W : World) :
    Calls Tryd.prog 40 #[.slice none 0 c, f] W fun e w' => e = .returned (.bool false) ∧ w' = W := by
  go_enter Tryd.func40, Tryd.ntmps40
  go_wp2_with fail
  refine (index_none _ c _).mono ?_
  rintro e w1 ⟨rfl, rfl⟩
  go_wp2_with fail
  go_ret
  exact ⟨rfl, rfl⟩
theorem under_alloc2 {W w1 : World} {o1 o2 : Obj} (hb : Below ((W.alloc o1).alloc o2).heap.size ((W.alloc o1).alloc o2) w1) : Below W.heap.size W w1 :=
  (((Below.refl _ W).alloc (Nat.le_refl _) o1).alloc (by simp) o2).trans (hb.mono (by simp; omega))
theorem of_any {base : Nat} {ok : Nat → Prop} (v : Value) (l : List SB) (r x : Int) (W : World) (h : Kd.R kSB 42 W base ok v l) (hl : l.length ≤ 1000000) :
    Calls Tryd.prog 27 #[v, .int .i64 r, .int .i64 x] W fun e w' => e = .returned (.bool (ofB r x l)) ∧ Below W.heap.size W w' := by
  rcases R_own3 h with ⟨rfl, rfl⟩ | ⟨g, cap, rfl, hc, _, hlt, hB⟩
  · go_enter Tryd.func27, Tryd.ntmps27
    go_wp2_with fail
    refine (contains_none _ 0 _).mono ?_
    rintro e w1 ⟨rfl, rfl⟩
    go_wp2_with fail
    go_ret
    exact ⟨rfl, ((Below.refl _ W).alloc (Nat.le_refl _) _).alloc (by simp) _⟩
  · obtain ⟨W1, hW1⟩ : ∃ W1, W1 = (W.alloc (.cells #[.int .i64 r] 3)).alloc (.cells #[.int .i64 x] 3) := ⟨_, rfl⟩
    have h1 : W1.cell? ⟨W.heap.size, 0, none⟩ = some (.int .i64 r) := by rw [hW1]; simp
    have h2 : W1.cell? ⟨W.heap.size + 1, 0, none⟩ = some (.int .i64 x) := by rw [hW1]; simp
    have hs : W1.heap.size = W.heap.size + 2 := by rw [hW1]; simp
    have hB1 : BCells W1 g 0 l.length (mOf l) := by rw [hW1]; exact fun t ht => Lib.cell?_alloc_some _ (Lib.cell?_alloc_some _ (hB t ht))
    have hc := contains_of ⟨W.heap.size, 0, none⟩ ⟨W.heap.size + 1, 0, none⟩ (ofP r x) W1.heap.size g 0 l.length cap (mOf l) W1 (of_pred r x _ _ _ _ (by simp; omega) (by simp; omega) h1 h2) (Nat.le_refl _) hl (by omega) hB1
    rw [hW1] at hc
    have HCT := Lib.hid hc
    clear hB h hB1 h1 h2 hs hc hW1
    go_enter Tryd.func27, Tryd.ntmps27
    go_wp2_with fail
    refine HCT.out.mono ?_
    rintro e w1 ⟨q, rfl, hf, hb⟩
    have HF := Lib.hid hf
    have HB := Lib.hid hb
    clear hf hb
    go_wp2_with fail
    go_ret
    exact ⟨by rw [found_any HF.out]; rfl, under_alloc2 HB.out⟩
theorem rRight_f (a b c : Int) : dynamoref20_Right.f a b c = some (rightB ⟨a, b, c⟩) := by
  unfold dynamoref20_Right.f
  by_cases h1 : a ≥ 0
  · rw [if_pos h1]
    by_cases h2 : a ≤ 9
    · rw [if_pos h2]
      by_cases h3 : b ≥ 0
      · rw [if_pos h3]
        by_cases h4 : b < c
        · rw [if_pos h4]; congr 1; rw [Bool.eq_iff_iff]; simp [rightB]; omega
        · rw [if_neg h4]; congr 1; symm; simp [rightB]; omega
      · rw [if_neg h3]; congr 1; symm; simp [rightB]; omega
    · rw [if_neg h2]; congr 1; symm; simp [rightB]; omega
  · rw [if_neg h1]; congr 1; symm; simp [rightB]; omega
def toBkR (s : RB) : Bk := ⟨s.f0, s.f1, s.f2⟩
theorem of_call (A : Option Addr) (cp : Nat) (l : List RB) (W : World) (h : RBs W A l cp) (hl : l.length ≤ 1000) :
    Calls Tryd.prog 24 #[.slice A l.length cp] W fun e w' => ∃ v0_ : Value, e = .returned v0_ ∧ Kd.R kSB 42 w' W.heap.size (fun _ => True) v0_ (l.map ofR) ∧ Below W.heap.size W w' :=
  dynamolaw20_of.calls 1001 A cp l _ W h.1 h.2.1 (sof_f l hl 1001 (by omega))
theorem awake_call (W : World) : Calls Tryd.prog 20 #[] W fun e w' => e = .returned (.bool true) ∧ Below W.heap.size W w' := dynamolaw20_awake.calls 7 true W (sawake_f 7 (by omega))
theorem RBs.below {W w' : World} {A : Option Addr} {l : List RB} {cp : Nat} (h : RBs W A l cp) (hb : Below W.heap.size W w') : RBs w' A l cp := ⟨Kd.C_below h.1 hb, h.2.1, h.2.2⟩
theorem bstep0 {W w1 w2 : World} (h : Below W.heap.size W w1) (k : Below w1.heap.size w1 w2) : Below W.heap.size W w2 := h.trans (k.mono h.size)

theorem R_cells {w : World} {base : Nat} {ok : Nat → Prop} {v : Value} {l : List SB} (h : Kd.R kSB 42 w base ok v l) (j : Nat) (hj : j < l.length) :
    ∃ g cap, v = .slice (some ⟨g, 0, none⟩) l.length cap ∧ w.cell? ⟨g, j * 3, none⟩ = some (.int .i64 l[j].f0) ∧ w.cell? ⟨g, j * 3 + 1, none⟩ = some (.int .i64 l[j].f1) ∧ w.cell? ⟨g, j * 3 + 2, none⟩ = some (.int .i64 l[j].f2) := by
  rcases R_own3 h with ⟨_, rfl⟩ | ⟨g, cap, rfl, hc, _, hlt, hB⟩
  · cases hj
  · obtain ⟨a, b, c⟩ := mOf_at l j hj
    obtain ⟨x0, x1, x2⟩ := load3 hB j hj
    simp only [Nat.zero_add] at x0 x1 x2
    rw [a] at x0; rw [b] at x1; rw [c] at x2
    exact ⟨g, cap, rfl, x0, x1, x2⟩
/-! ### rows of bookings, by their cells -/
def cells3 (L : List SB) : List Value := L.flatMap fun s => [.int .i64 s.f0, .int .i64 s.f1, .int .i64 s.f2]
theorem cells3_snoc (L : List SB) (s : SB) : cells3 (L ++ [s]) = cells3 L ++ [.int .i64 s.f0, .int .i64 s.f1, .int .i64 s.f2] := by simp [cells3]
theorem cells3_reps (w : World) (base : Nat) (ok : Nat → Prop) (L : List SB) : Reps ((kSB).M w base ok) 3 L (cells3 L) := by
  suffices h : ∀ L' : List SB, Reps ((kSB).M w base ok) 3 L'.reverse (cells3 L'.reverse) by
    have := h L.reverse; rwa [List.reverse_reverse] at this
  intro L'
  induction L' with
  | nil => exact Reps.none _ _
  | cons s L' ih =>
    rw [List.reverse_cons, cells3_snoc]
    exact ih.snoc (k42_mkM w base ok s) rfl
theorem R_of_cells {w : World} {base : Nat} {v : Value} {L : List SB} (h : w.ownsRow base 42 3 v L.length (cells3 L)) : Kd.R kSB 42 w base (fun _ => True) v L :=
  ⟨fun _ _ => trivial, cells3 L, h, cells3_reps _ _ _ _⟩
theorem peak_call {base : Nat} {ok : Nat → Prop} {v : Value} {L : List SB} (a b : Int) (W : World) (h : Kd.R kSB 42 W base ok v L) (hl : L.length ≤ 1000) :
    Calls Tryd.prog 23 #[v, .int .i64 a, .int .i64 b] W fun e w' => e = .returned (.int .i64 (peakL (bks L) a b : Nat)) ∧ Below W.heap.size W w' := by
  obtain ⟨A, c, rfl, hc, hC⟩ := Kd.R_reads h
  exact slot_Peak.calls 3000 A c L a b _ W hC hc (speak_f L a b hl 3000 (by omega))
theorem news3 (w : World) (x y z : Value) (t : TypeId) : ∀ j u, [x, y, z][j]? = some u → (w.alloc (.cells #[x, y, z] t)).cell? ((⟨w.heap.size, 0, none⟩ : Addr).add j) = some u := by
  intro j u hj
  rw [Go.WideShapes.add_plain, Nat.zero_add]
  match j, hj with
  | 0, hj => simp at hj; subst hj; simp
  | 1, hj => simp at hj; subst hj; simp
  | 2, hj => simp at hj; subst hj; simp
theorem news3' (w : World) (n : Nat) (hn : n = w.heap.size) (x y z : Value) (t : TypeId) : ∀ j u, [x, y, z][j]? = some u → (w.alloc (.cells #[x, y, z] t)).cell? ((⟨n, 0, none⟩ : Addr).add j) = some u := by
  subst hn; exact news3 w x y z t
theorem own_under {w w' : World} {base : Nat} {e : TypeId} {size n : Nat} {v : Value} {xs : List Value} (h : w.ownsRow base e size v n xs) (hb : Below w.heap.size w w') : w'.ownsRow base e size v n xs :=
  own_move h (fun k hk => hb.block k (own_lt h k hk))
theorem own_nil0 (W : World) (base : Nat) (e : TypeId) (size : Nat) : W.ownsRow base e size (.slice none 0 0) 0 [] := ⟨by simp, .inl ⟨rfl, rfl⟩⟩
theorem grown_cell {w w' : World} {row : Option Nat} (hg : w.grownBy w' row) {a : Addr} {v : Value} (h : w.cell? a = some v) (hne : ∀ k, row = some k → k ≠ a.block) : w'.cell? a = some v :=
  hg.cell h (fun e => hne _ e.symm rfl)
theorem grown_frozen {w w' : World} {row : Option Nat} (hg : w.grownBy w' row) {a : Addr} (hlt : a.block < w.heap.size) (h : w.frozen? a = false) (hne : ∀ k, row = some k → k ≠ a.block) : w'.frozen? a = false := by
  rw [World.frozen?_of_block (hg.block a.block hlt (fun e => hne _ e.symm rfl))]; exact h
theorem kept_setCell {w : World} {base : Nat} {e : TypeId} {size n : Nat} {v : Value} {xs : List Value} (h : w.ownsRow base e size v n xs) {a : Addr} (ha : ∀ k, v.ownBlock = some k → k ≠ a.block) (u : Value) : (w.setCell a u).ownsRow base e size v n xs :=
  own_move h (fun k hk => Below.heap_setCell w a u k (ha k hk))

end Go.Proofs.YtfgbnnmaooillaaDoor
