/- slot.Past, slot.Of in the print's words. -/
import Derived.Test.YtfgbnnmaooillaaFnD
import Derived.Test.YtfgbnnmaooillaaSlotQPSlotShifts
namespace Go.Proofs.Ytfgbnnmaooillaa
open Go.RowKit Go.Lib Go.Proofs.YtfgbnnmaooillaaW.PrintWords Go.Proofs.YtfgbnnmaooillaaW.PrintLast Go.Proofs.YtfgbnnmaooillaaW.PrintMore Go.Proofs.Ytfgbnnmaooillaa.PSlotShifts
set_option linter.unusedVariables false
set_option linter.unusedSimpArgs false

abbrev kSB := k31
/-- the cells of a row of bookings, by number -/
def mOf (l : List SB) (t : Nat) : Int := match l[t / 3]? with | none => 0 | some s => if t % 3 = 0 then s.f0 else if t % 3 = 1 then s.f1 else s.f2
theorem mOf_at (l : List SB) (j : Nat) (h : j < l.length) : mOf l (j * 3) = l[j].f0 ∧ mOf l (j * 3 + 1) = l[j].f1 ∧ mOf l (j * 3 + 2) = l[j].f2 := by
  have e0 : j * 3 / 3 = j := by omega
  have e1 : (j * 3 + 1) / 3 = j := by omega
  have e2 : (j * 3 + 2) / 3 = j := by omega
  have m0 : j * 3 % 3 = 0 := by omega
  have m1 : (j * 3 + 1) % 3 = 1 := by omega
  have m2 : (j * 3 + 2) % 3 = 2 := by omega
  refine ⟨?_, ?_, ?_⟩ <;> simp [mOf, e0, e1, e2, m0, m1, m2, List.getElem?_eq_getElem h]
def tri (s : SB) : Int × Int × Int := (s.f0, s.f1, s.f2)
theorem rowsOf_mOf (l : List SB) : rowsOf (mOf l) l.length = l.map tri := by
  apply List.ext_getElem
  · simp [rowsOf]
  · intro i h1 h2
    have hi : i < l.length := by simpa using h2
    obtain ⟨a, b, c⟩ := mOf_at l i hi
    simp [rowsOf, a, b, c, tri]
/-- a row that is read, by its cells -/
theorem cells_of_C {w : World} {b o n : Nat} {l : List SB} (h : Kd.C kSB w (some ⟨b, o, none⟩) n l) : BCells w b o n (mOf l) := by
  obtain ⟨h1, _, h3⟩ := h
  subst h1
  intro t ht
  obtain ⟨ad, e, hc⟩ := h3 (by omega)
  obtain rfl := Option.some.inj e
  have hj : t / 3 < l.length := by omega
  obtain ⟨cs, hl, hk, hcell⟩ := hc (t / 3) _ (List.getElem?_eq_getElem hj)
  obtain rfl := k31_open hk
  have e3 : (kSB).sz = 3 := rfl
  rw [e3] at hcell
  obtain ⟨a, b', c⟩ := mOf_at l (t / 3) hj
  have hd : t = t / 3 * 3 + t % 3 := by omega
  have hm : t % 3 < 3 := by omega
  have := hcell (t % 3)
  rw [Go.WideShapes.add_plain] at this
  rw [hd]
  generalize t % 3 = d at this hm
  match d, hm with
  | 0, _ => exact (this _ rfl).trans (by rw [Nat.add_zero, a])
  | 1, _ => exact (this _ rfl).trans (by rw [b'])
  | 2, _ => exact (this _ rfl).trans (by rw [c])
theorem R_own3 {w : World} {base : Nat} {ok : Nat → Prop} {v : Value} {l : List SB} (h : Kd.R kSB 31 w base ok v l) :
    (v = .slice none 0 0 ∧ l = []) ∨ ∃ g cap, v = .slice (some ⟨g, 0, none⟩) l.length cap ∧ l.length ≤ cap ∧ base ≤ g ∧ g < w.heap.size ∧ BCells w g 0 l.length (mOf l) := by
  obtain ⟨A, c, rfl, hlc, hC⟩ := Kd.R_reads h
  obtain ⟨inner, ho⟩ := Kd.R_own h
  rcases ho.2 with ⟨hv, hi⟩ | ⟨g, cap, cur, hv, hg, hh, _⟩
  · simp only [Value.slice.injEq] at hv
    obtain ⟨rfl, hn, rfl⟩ := hv
    exact .inl ⟨by rw [hn], List.eq_nil_of_length_eq_zero hn⟩
  · have hlt := ho.lt
    simp only [Value.slice.injEq] at hv
    obtain ⟨rfl, _, rfl⟩ := hv
    exact .inr ⟨g, _, rfl, hlc, hg, (hlt g rfl).2, cells_of_C hC⟩
def pastB (tick : Int) (l : List SB) : List SB := l.filter fun s => decide (tick < s.f2)
/-- a slice of bookings that reads as l -/
def SBs (w : World) (v : Value) (l : List SB) : Prop := ∃ A c, v = .slice A l.length c ∧ l.length ≤ c ∧ Kd.C kSB w A l.length l
theorem filter_tri (p : Int → Int → Int → Bool) (l : List SB) : (l.map tri).filter (keep3 p) = (l.filter fun s => !p s.f0 s.f1 s.f2).map tri := by
  rw [List.filter_map]; rfl
theorem C_of_rows {w : World} {g k : Nat} {m' : Nat → Int} {l : List SB} (hB : 0 < k → B0 w g k m') (hr : rowsOf m' k = l.map tri) (hk : k ≤ 1000000) : Kd.C kSB w (some ⟨g, 0, none⟩) k l := by
  have hl : l.length = k := by have := congrArg List.length hr; rw [rowsOf_length, List.length_map] at this; omega
  refine ⟨hl, by omega, fun h0 => ⟨_, rfl, fun j s hj => ⟨[.int .i64 s.f0, .int .i64 s.f1, .int .i64 s.f2], rfl, k31_mk w s, fun i u hu => ?_⟩⟩⟩
  have hjk : j < k := by have := (List.getElem?_eq_some_iff.1 hj).1; omega
  have hrj : (rowsOf m' k)[j]? = some (m' (j * 3), m' (j * 3 + 1), m' (j * 3 + 2)) := by
    unfold rowsOf; rw [List.getElem?_map, List.getElem?_range hjk]; rfl
  rw [hr, List.getElem?_map, hj] at hrj
  simp only [Option.map_some, Option.some.injEq, tri, Prod.mk.injEq] at hrj
  have hb := hB h0
  have e3 : (kSB).sz = 3 := rfl
  rw [e3, Go.WideShapes.add_plain, Nat.zero_add]
  match i, hu with
  | 0, hu => simp at hu; subst hu; rw [hrj.1]; exact hb _ (by omega)
  | 1, hu => simp at hu; subst hu; rw [hrj.2.1]; exact hb _ (by omega)
  | 2, hu => simp at hu; subst hu; rw [hrj.2.2]; exact hb _ (by omega)
theorem past_filter (tick : Int) (l : List SB) : (l.filter fun s => !pastP tick s.f0 s.f1 s.f2) = pastB tick l := by
  unfold pastB; congr 1; funext s; simp only [pastP]; by_cases h : s.f2 ≤ tick <;> simp [h] <;> omega
theorem past_any {base : Nat} {ok : Nat → Prop} (v : Value) (l : List SB) (tick : Int) (W : World) (h : Kd.R kSB 31 W base ok v l) (hl : l.length ≤ 1000000) :
    Calls Try.prog 10 #[v, .int .i64 tick] W fun e w' => ∃ v', e = .returned v' ∧ SBs w' v' (pastB tick l) ∧ Below W.heap.size W w' := by
  rcases R_own3 h with ⟨rfl, rfl⟩ | ⟨g, cap, rfl, hc, _, hlt, hB⟩
  · refine (past_none 0 (mOf []) tick W).mono ?_
    rintro e w' ⟨⟨A, k, c', m', rfl, hk, _, hr⟩, hb⟩
    obtain rfl : k = 0 := by omega
    exact ⟨_, rfl, ⟨A, c', rfl, Nat.zero_le _, rfl, by simp [pastB], fun h => absurd h (Nat.lt_irrefl _)⟩, hb⟩
  · refine (past_some g 0 l.length cap (mOf l) tick W hl hc hlt hB).mono ?_
    rintro e w' ⟨⟨A, k, c', m', rfl, hk, hck, hA, hr⟩, hb⟩
    rw [rowsOf_mOf, filter_tri, past_filter] at hr
    have hkl : k = (pastB tick l).length := by have := congrArg List.length hr; rwa [rowsOf_length, List.length_map] at this
    subst hkl
    refine ⟨_, rfl, ⟨A, c', rfl, hck, ?_⟩, hb⟩
    by_cases h0 : 0 < (pastB tick l).length
    · obtain ⟨g', rfl, hB'⟩ := hA h0
      exact C_of_rows (fun _ => hB') hr (by omega)
    · exact ⟨rfl, by omega, fun h => absurd h h0⟩
/-! ### slot.Of -/
def ofP (r x : Int) : Int → Int → Int → Bool := fun a b c => a == r && holdsB ⟨a, b, c⟩ x
def ofB (r x : Int) (l : List SB) : Bool := l.any fun s => ofP r x s.f0 s.f1 s.f2
theorem cell_old {w : World} {a : Addr} {u : Value} (h : w.cell? a = some u) : a.block < w.heap.size := by
  rcases Nat.lt_or_ge a.block w.heap.size with h' | h'
  · exact h'
  · simp [World.cell?, Array.getElem?_eq_none h'] at h
theorem of_pred (r x : Int) (a1 a2 : Addr) (base : Nat) (W : World) (ha1 : a1.block < base) (ha2 : a2.block < base) (hc1 : W.cell? a1 = some (.int .i64 r)) (hc2 : W.cell? a2 = some (.int .i64 x)) :
    PredB 18 #[.pointer (some a1), .pointer (some a2)] (ofP r x) base W := fun w p q z hb => by
  have d1 : (w.alloc (.cells #[.int .i64 p, .int .i64 q, .int .i64 z] 31)).cell? a1 = some (.int .i64 r) := Lib.cell?_alloc_some _ ((hb.cell ha1).trans hc1)
  have d2 : (w.alloc (.cells #[.int .i64 p, .int .i64 q, .int .i64 z] 31)).cell? a2 = some (.int .i64 x) := Lib.cell?_alloc_some _ ((hb.cell ha2).trans hc2)
  have hn1 : a1.block ≠ w.heap.size := by have := cell_old ((hb.cell ha1).trans hc1); omega
  have hn2 : a2.block ≠ w.heap.size := by have := cell_old ((hb.cell ha2).trans hc2); omega
  have HH := fun (w : World) => slot_Booking_holds.calls p q z x _ w (sholds_f p q z x)
  have HH' := Lib.hid HH
  clear hb hc1 hc2 HH
  show Calls Try.prog 18 #[.agg #[.int .i64 p, .int .i64 q, .int .i64 z], .pointer (some a1), .pointer (some a2)] w _
  by_cases hp : p = r
  · have hq : Hid (ofP r x p q z = holdsB ⟨p, q, z⟩ x) := by show _ = _; simp [ofP, hp]
    have hpr : (p == r) = true := by simpa using hp
    generalize holdsB ⟨p, q, z⟩ x = hv at HH' hq
    clear hp
    go_enter Try.func18, Try.ntmps18
    go_wp2_with (go_at_call 19; refine (HH'.out _).mono ?_; rintro e w' ⟨rfl, hb'⟩; have HB := Lib.hid hb'; clear hb')
    go_ret
    exact ⟨by rw [hq.out]; rfl, under_alloc HB.out⟩
  · have hq : Hid (ofP r x p q z = false) := by show _ = _; simp [ofP, hp]
    have hpr : (p == r) = false := by simpa using hp
    clear hp
    go_enter Try.func18, Try.ntmps18
    go_wp2_with fail
    go_ret
    exact ⟨by rw [hq.out]; rfl, (Below.refl _ w).alloc (Nat.le_refl _) _⟩
theorem found_any {p : Int → Int → Int → Bool} {l : List SB} {r : Int} (h : Found (at3 p (mOf l)) l.length r) : decide (0 ≤ r) = l.any fun s => p s.f0 s.f1 s.f2 := by
  have hat : ∀ j (hj : j < l.length), at3 p (mOf l) j = p l[j].f0 l[j].f1 l[j].f2 := fun j hj => by
    obtain ⟨a, b, c⟩ := mOf_at l j hj
    unfold at3; rw [a, b, c]
  rcases h with ⟨rfl, ha⟩ | ⟨k, hk, rfl, ht, _⟩
  · symm
    rw [show decide ((0 : Int) ≤ -1) = false from rfl, List.any_eq_false]
    intro s hs
    obtain ⟨j, hj, rfl⟩ := List.getElem_of_mem hs
    rw [← hat j hj, ha j hj]; simp
  · symm
    rw [show decide ((0 : Int) ≤ (k : Int)) = true by simp, List.any_eq_true]
    exact ⟨l[k], List.getElem_mem hk, by rw [← hat k hk]; exact ht⟩
def ContPost (q : Nat → Bool) (n : Nat) (W : World) (e : Ending) (w' : World) : Prop := ∃ r : Int, e = .returned (.bool (decide (0 ≤ r))) ∧ Found q n r ∧ Below W.heap.size W w'
theorem contains_of (A1 A2 : Addr) (p : Int → Int → Int → Bool) (base b o n c : Nat) (m : Nat → Int) (W : World)
    (hp : PredB 18 #[.pointer (some A1), .pointer (some A2)] p base W) (hbase : base ≤ W.heap.size) (hn : n ≤ 1000000) (hb : b < W.heap.size) (hc : BCells W b o n m) :
    Calls Try.prog 17 #[.slice (some ⟨b, o, none⟩) n c, .func (.func 18) #[] #[.pointer (some A1), .pointer (some A2)]] W (ContPost (at3 p m) n W) := by
  have HI := Lib.hid (index_of A1 A2 p base b o n c m W hp hbase hn hb hc)
  clear hp hc
  go_enter Try.func17, Try.ntmps17
  go_wp2_with fail
  refine HI.out.mono ?_
  rintro e w1 ⟨⟨r, rfl, hf⟩, hb1⟩
  have HF := Lib.hid hf
  have HB := Lib.hid hb1
  clear hf hb1
  go_wp2_with fail
  go_ret
  exact ⟨r, rfl, HF.out, HB.out⟩
theorem contains_none (f : Value) (c : Nat) (W : World) :
    Calls Try.prog 17 #[.slice none 0 c, f] W fun e w' => e = .returned (.bool false) ∧ w' = W := by
  go_enter Try.func17, Try.ntmps17
  go_wp2_with fail
  refine (index_none _ c _).mono ?_
  rintro e w1 ⟨rfl, rfl⟩
  go_wp2_with fail
  go_ret
  exact ⟨rfl, rfl⟩
theorem under_alloc2 {W w1 : World} {o1 o2 : Obj} (hb : Below ((W.alloc o1).alloc o2).heap.size ((W.alloc o1).alloc o2) w1) : Below W.heap.size W w1 :=
  (((Below.refl _ W).alloc (Nat.le_refl _) o1).alloc (by simp) o2).trans (hb.mono (by simp; omega))
theorem of_any {base : Nat} {ok : Nat → Prop} (v : Value) (l : List SB) (r x : Int) (W : World) (h : Kd.R kSB 31 W base ok v l) (hl : l.length ≤ 1000000) :
    Calls Try.prog 12 #[v, .int .i64 r, .int .i64 x] W fun e w' => e = .returned (.bool (ofB r x l)) ∧ Below W.heap.size W w' := by
  rcases R_own3 h with ⟨rfl, rfl⟩ | ⟨g, cap, rfl, hc, _, hlt, hB⟩
  · go_enter Try.func12, Try.ntmps12
    go_wp2_with fail
    refine (contains_none _ 0 _).mono ?_
    rintro e w1 ⟨rfl, rfl⟩
    go_wp2_with fail
    go_ret
    exact ⟨rfl, ((Below.refl _ W).alloc (Nat.le_refl _) _).alloc (by simp) _⟩
  · obtain ⟨W1, hW1⟩ : ∃ W1, W1 = (W.alloc (.cells #[.int .i64 r] 3)).alloc (.cells #[.int .i64 x] 3) := ⟨_, rfl⟩
    have h1 : W1.cell? ⟨W.heap.size, 0, none⟩ = some (.int .i64 r) := by rw [hW1]; simp
    have h2 : W1.cell? ⟨W.heap.size + 1, 0, none⟩ = some (.int .i64 x) := by rw [hW1]; simp
    have hs : W1.heap.size = W.heap.size + 2 := by rw [hW1]; simp
    have hB1 : BCells W1 g 0 l.length (mOf l) := by rw [hW1]; exact fun t ht => Lib.cell?_alloc_some _ (Lib.cell?_alloc_some _ (hB t ht))
    have hc := contains_of ⟨W.heap.size, 0, none⟩ ⟨W.heap.size + 1, 0, none⟩ (ofP r x) W1.heap.size g 0 l.length cap (mOf l) W1 (of_pred r x _ _ _ _ (by simp; omega) (by simp; omega) h1 h2) (Nat.le_refl _) hl (by omega) hB1
    rw [hW1] at hc
    have HCT := Lib.hid hc
    clear hB h hB1 h1 h2 hs hc hW1
    go_enter Try.func12, Try.ntmps12
    go_wp2_with fail
    refine HCT.out.mono ?_
    rintro e w1 ⟨q, rfl, hf, hb⟩
    have HF := Lib.hid hf
    have HB := Lib.hid hb
    clear hf hb
    go_wp2_with fail
    go_ret
    exact ⟨by rw [found_any HF.out]; rfl, under_alloc2 HB.out⟩
end Go.Proofs.Ytfgbnnmaooillaa
