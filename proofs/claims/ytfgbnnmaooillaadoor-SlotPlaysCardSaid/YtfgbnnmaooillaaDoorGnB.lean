/- slices.DeleteFunc at Booking, at Add's closure. -/
import Derived.Test.YtfgbnnmaooillaaDoorGnA
import Derived.Deep.DeepCutAuto
import Derived.Deep.Cut
import Derived.Lib.SliceRun
namespace Go.Proofs.YtfgbnnmaooillaaDoor
open Go.RowKit Go.Lib
set_option linter.unusedVariables false
set_option linter.unusedSimpArgs false

def rowsOf (m : Nat → Int) (n : Nat) : List (Int × Int × Int) := (List.range n).map fun j => (m (j * 3), m (j * 3 + 1), m (j * 3 + 2))
theorem rowsOf_succ (m : Nat → Int) (n : Nat) : rowsOf m (n + 1) = rowsOf m n ++ [(m (n * 3), m (n * 3 + 1), m (n * 3 + 2))] := by
  unfold rowsOf; rw [List.range_succ, List.map_append]; rfl
theorem rowsOf_length (m : Nat → Int) (n : Nat) : (rowsOf m n).length = n := by unfold rowsOf; simp
theorem rowsOf_congr {m m' : Nat → Int} : ∀ {n : Nat}, (∀ t, t < n * 3 → m t = m' t) → rowsOf m n = rowsOf m' n
  | 0, _ => rfl
  | n + 1, h => by rw [rowsOf_succ, rowsOf_succ, rowsOf_congr (n := n) (fun t ht => h t (by omega)), h (n * 3) (by omega), h (n * 3 + 1) (by omega), h (n * 3 + 2) (by omega)]
def keep3 (p : Int → Int → Int → Bool) (z : Int × Int × Int) : Bool := !p z.1 z.2.1 z.2.2
def put3 (m : Nat → Int) (i : Nat) (x y z : Int) : Nat → Int := fun t => if t = i * 3 then x else if t = i * 3 + 1 then y else if t = i * 3 + 2 then z else m t
theorem put3_low (m : Nat → Int) (i : Nat) (x y z : Int) : rowsOf (put3 m i x y z) (i + 1) = rowsOf m i ++ [(x, y, z)] := by
  rw [rowsOf_succ]
  congr 1
  · exact rowsOf_congr fun t ht => by unfold put3; rw [if_neg (by omega), if_neg (by omega), if_neg (by omega)]
  · unfold put3; simp
/-- behind j rows looked at: i are kept -/
structure KInv (p : Int → Int → Int → Bool) (m : Nat → Int) (j i : Nat) (m' : Nat → Int) : Prop where
  lt : i < j
  low : rowsOf m' i = (rowsOf m j).filter (keep3 p)
  high : ∀ t, j * 3 ≤ t → m' t = m t
theorem filter_all {p : Int → Int → Int → Bool} {m : Nat → Int} : ∀ {n : Nat}, (∀ j, j < n → at3 p m j = false) → (rowsOf m n).filter (keep3 p) = rowsOf m n
  | 0, _ => rfl
  | n + 1, h => by
    rw [rowsOf_succ, List.filter_append, filter_all (n := n) (fun j hj => h j (by omega))]
    have : at3 p m n = false := h n (by omega)
    unfold at3 at this
    simp [keep3, this]
theorem KInv.start {p : Int → Int → Int → Bool} {m : Nat → Int} {k : Nat} (h : ∀ j, j < k → at3 p m j = false) (hk : at3 p m k = true) : KInv p m (k + 1) k m where
  lt := Nat.lt_succ_self k
  low := by
    rw [rowsOf_succ, List.filter_append, filter_all h]
    unfold at3 at hk
    simp [keep3, hk]
  high := fun _ _ => rfl
theorem KInv.skip {p : Int → Int → Int → Bool} {m m' : Nat → Int} {j i : Nat} (h : KInv p m j i m') (hk : at3 p m j = true) : KInv p m (j + 1) i m' where
  lt := by have := h.lt; omega
  low := by
    rw [rowsOf_succ, List.filter_append, h.low]
    unfold at3 at hk
    simp [keep3, hk]
  high := fun t ht => h.high t (by omega)
theorem KInv.keep {p : Int → Int → Int → Bool} {m m' : Nat → Int} {j i : Nat} (h : KInv p m j i m') (hk : at3 p m j = false) : KInv p m (j + 1) (i + 1) (put3 m' i (m (j * 3)) (m (j * 3 + 1)) (m (j * 3 + 2))) where
  lt := by have := h.lt; omega
  low := by
    rw [put3_low, h.low, rowsOf_succ m j, List.filter_append]
    unfold at3 at hk
    simp [keep3, hk]
  high := fun t ht => by
    have := h.lt
    unfold put3
    rw [if_neg (by omega), if_neg (by omega), if_neg (by omega)]
    exact h.high t (by omega)
def Unfroz (w : World) (g n : Nat) : Prop := ∀ t, t < n * 3 → w.frozen? ⟨g, t, none⟩ = false
def B0 (w : World) (g n : Nat) (m : Nat → Int) : Prop := ∀ t, t < n * 3 → w.cell? ⟨g, t, none⟩ = some (.int .i64 (m t))
theorem B0.cells {w : World} {g n : Nat} {m : Nat → Int} (h : B0 w g n m) : BCells w g 0 n m := fun t ht => by rw [Nat.zero_add]; exact h t ht

theorem zv_booking : ∀ w, (zeroValue 42).run Tryd.prog w = .ok (.agg #[.int .i64 0, .int .i64 0, .int .i64 0]) w := fun w => by
  simp [zeroValue]
  kernel_rfl
theorem run_clear3 (w : World) (ty : TypeId) (b o n c : Nat) (hn : 0 < n) (hc : ∀ j, j < n * 3 → (w.cell? ⟨b, o + j, none⟩).isSome = true) (hf : ∀ j, j < n * 3 → w.frozen? ⟨b, o + j, none⟩ = false) :
    (Builtin.clear_ #[46] ty #[.slice (some ⟨b, o, none⟩) n c]).run Tryd.prog w = .ok (.tuple #[]) (w.setCells b o (List.replicate (n * 3) (.int .i64 0))) := by
  have hzc : (Builtin.zeroCells (Value.agg #[.int .i64 0, .int .i64 0, .int .i64 0]).cells n).toList = List.replicate (n * 3) (.int .i64 0) := by
    apply List.ext_getElem
    · simp [Builtin.zeroCells, Value.cells]
    · intro i h1 h2
      have h3 : i % 3 < 3 := Nat.mod_lt _ (by omega)
      simp only [Builtin.zeroCells, Value.cells, Array.getElem_toList, Array.getElem_map, Array.getElem_range, List.getElem_replicate]
      show (#[Value.int .i64 0, .int .i64 0, .int .i64 0] : Array Value)[i % 3]! = _
      generalize i % 3 = d at h3
      match d, h3 with
      | 0, _ => rfl
      | 1, _ => rfl
      | 2, _ => rfl
  have hst := run_storeCells_cells (P := Tryd.prog) b o (List.replicate (n * 3) (.int .i64 0)) 0 w (by simpa using hc) (by simpa using hf) (by intro v hv'; rw [List.eq_of_mem_replicate hv']; rfl)
  simp only [Nat.add_zero] at hst
  obtain ⟨m, rfl⟩ : ∃ m, n = m + 1 := ⟨n - 1, by omega⟩
  simp [Builtin.clear_, run_underlying Tryd.underlying46, zv_booking, hzc, hst]

theorem boxed3 {wr w1 : World} {t : TypeId} {x y z : Value} (hb : Below (wr.alloc (.cells #[x, y, z] t)).heap.size (wr.alloc (.cells #[x, y, z] t)) w1) :
    w1.cell? ⟨wr.heap.size, 0, none⟩ = some x ∧ w1.cell? ⟨wr.heap.size, 1, none⟩ = some y ∧ w1.cell? ⟨wr.heap.size, 2, none⟩ = some z :=
  ⟨(hb.cell (p := ⟨wr.heap.size, 0, none⟩) (by simp)).trans (by simp), (hb.cell (p := ⟨wr.heap.size, 1, none⟩) (by simp)).trans (by simp), (hb.cell (p := ⟨wr.heap.size, 2, none⟩) (by simp)).trans (by simp)⟩
theorem under_box {base : Nat} {W wr w1 : World} {o : Obj} (h : Below base W wr) (hs : base ≤ wr.heap.size) (hb : Below (wr.alloc o).heap.size (wr.alloc o) w1) : Below base W w1 := (h.alloc hs o).trans (hb.mono (by simp; omega))
theorem row_box {wr w1 : World} {o : Obj} {g n : Nat} {m : Nat → Int} (hg : g < wr.heap.size) (h : B0 wr g n m) (hb : Below (wr.alloc o).heap.size (wr.alloc o) w1) : B0 w1 g n m :=
  fun t ht => (hb.cell (p := ⟨g, t, none⟩) (by simp; omega)).trans (Lib.cell?_alloc_some o (h t ht))
theorem froz_box {wr w1 : World} {o : Obj} {g n : Nat} (hg : g < wr.heap.size) (h : Unfroz wr g n) (hb : Below (wr.alloc o).heap.size (wr.alloc o) w1) : Unfroz w1 g n :=
  fun t ht => by
    rw [World.frozen?_of_block (hb.block g (by simp; omega)), World.frozen?_alloc_old _ _ _ (by show g ≠ wr.heap.size; omega)]; exact h t ht

theorem below_setCells {B : Nat} {a : World} {g : Nat} (hg : B ≤ g) : ∀ (vs : List Value) (o : Nat) (w : World), Below B a w → Below B a (w.setCells g o vs)
  | [], _, _, h => h
  | v :: r, o, w, h => below_setCells hg r (o + 1) (w.setCell ⟨g, o, none⟩ v) (h.setCell (by exact hg) v)
theorem size_setCell' (w : World) (a : Addr) (v : Value) : (w.setCell a v).heap.size = w.heap.size := by simp [World.setCell]
theorem put_rows {w : World} {g n i : Nat} {m : Nat → Int} (h : B0 w g n m) (hi : i < n) (x y z : Int) : B0 (w.setCells g (i * 3) [.int .i64 x, .int .i64 y, .int .i64 z]) g n (put3 m i x y z) := by
  intro t ht
  by_cases h1 : i * 3 ≤ t ∧ t < i * 3 + 3
  · obtain ⟨d, rfl⟩ : ∃ d, t = i * 3 + d := ⟨t - i * 3, by omega⟩
    have hd : d < [Value.int .i64 x, .int .i64 y, .int .i64 z].length := by simp; omega
    rw [World.cell?_setCells_in g _ _ w (fun j hj => by simp at hj; rw [h (i * 3 + j) (by omega)]; rfl) d hd]
    have hd3 : d < 3 := by omega
    unfold put3
    match d, hd3 with
    | 0, _ => simp
    | 1, _ => simp
    | 2, _ => simp
  · rw [World.cell?_setCells_out g _ _ w _ (fun _ _ => by simp; omega), h t ht]
    unfold put3
    rw [if_neg (by omega), if_neg (by omega), if_neg (by omega)]
theorem froz_setCells {w : World} {g n : Nat} (h : Unfroz w g n) (o : Nat) (vs : List Value) : Unfroz (w.setCells g o vs) g n := fun t ht => by rw [World.frozen?_setCells]; exact h t ht

set_option maxHeartbeats 1000000 in
theorem delete_add (A1 : Addr) (p : Int → Int → Int → Bool) (base g n c : Nat) (m : Nat → Int) (W : World)
    (hp : PredB 39 #[.pointer (some A1)] p base W) (hbase : base ≤ g) (hg : g < W.heap.size) (hn : n ≤ 1000000) (hnc : n ≤ c) (hc : B0 W g n m) (hf : Unfroz W g n) :
    Calls Tryd.prog 37 #[.slice (some ⟨g, 0, none⟩) n c, .func (.func 39) #[] #[.pointer (some A1)]] W fun e w' =>
      (∃ k m', e = .returned (.slice (some ⟨g, 0, none⟩) k c) ∧ k ≤ n ∧ k ≤ c ∧ B0 w' g k m' ∧ rowsOf m' k = (rowsOf m n).filter (keep3 p)) ∧ Below base W w' := by
  have HP := Lib.hid hp
  have HC := Lib.hid hc
  have HF := Lib.hid hf
  have hI := index_add A1 p base g 0 n c m W hp (by omega) hn hg hc.cells
  clear hp hc hf
  go_enter Tryd.func37, Tryd.ntmps37
  go_upto_region 2 with (go_at_call 48; refine hI.mono ?_; rintro e w0 ⟨⟨r, rfl, hfd⟩, hb⟩; have HB := Lib.hid hb; have HD := Lib.hid hfd; clear hb hfd)
  have HI := Lib.hid hI
  clear hI
  rcases HD.out with ⟨rfl, ha⟩ | ⟨k0, hk0, rfl, ht, ha⟩
  · have HA := Lib.hid ha
    clear ha
    go_wp2_with fail
    go_ret
    exact ⟨⟨n, m, rfl, Nat.le_refl _, hnc, fun t h => (HB.out.cell (p := ⟨g, t, none⟩) hg).trans (HC.out t h), (filter_all HA.out).symm⟩, HB.out.mono (by omega)⟩
  · have HS := Lib.hid (KInv.start ha ht)
    clear ha ht
    have hne1 : ((k0 : Int) == -1) = false := beq_eq_false_iff_ne.2 (by omega)
    go_wp2_with fail
    go_loopg [5, 6, 7] n (fun gg s5 s6 _ wr => ∃ (i j : Nat) (m' : Nat → Int), s5 = .int .i64 i ∧ s6 = .int .i64 j ∧ j ≤ n ∧ n - j ≤ gg ∧ Hid (KInv p m j i m') ∧ Hid (B0 wr g n m') ∧ Hid (Unfroz wr g n) ∧ Hid (Below base W wr) ∧ g < wr.heap.size)
    case atStart =>
      exact ⟨k0, k0 + 1, m, rfl, by go_num, by omega, by omega, HS, Lib.hid (fun t h => (HB.out.cell (p := ⟨g, t, none⟩) hg).trans (HC.out t h)), Lib.hid (fun t h => by rw [World.frozen?_of_block (HB.out.block g hg)]; exact HF.out t h), Lib.hid (HB.out.mono (by omega)), by have := HB.out.size; omega⟩
    case round =>
      obtain ⟨i, j, m', rfl, rfl, hjn, hgg, HK, HC2, HF2, HB2, hg2⟩ := hrel
      have hij := HK.out.lt
      by_cases hlt : j < n
      · have hltz : (j : Int) < (n : Int) := by omega
        have x0 := HC2.out (j * 3) (by omega)
        have x1 := HC2.out (j * 3 + 1) (by omega)
        have x2 := HC2.out (j * 3 + 2) (by omega)
        obtain ⟨h0, h1, h2⟩ : m' (j * 3) = m (j * 3) ∧ m' (j * 3 + 1) = m (j * 3 + 1) ∧ m' (j * 3 + 2) = m (j * 3 + 2) := ⟨HK.out.high _ (by omega), HK.out.high _ (by omega), HK.out.high _ (by omega)⟩
        rw [h0] at x0
        rw [h1] at x1
        rw [h2] at x2
        clear h0 h1 h2
        have hcall := fun (w : World) (hw : Below base W w) => HP.out w (m (j * 3)) (m (j * 3 + 1)) (m (j * 3 + 2)) hw
        generalize hx : m (j * 3) = x at x0 hcall
        generalize hy : m (j * 3 + 1) = y at x1 hcall
        generalize hz : m (j * 3 + 2) = z at x2 hcall
        have HQ := Lib.hid (show at3 p m j = p x y z by unfold at3; rw [hx, hy, hz])
        have HX := Lib.hid (And.intro hx (And.intro hy hz))
        clear hx hy hz
        cases hq : p x y z with
        | true =>
          rw [hq] at hcall HQ
          have HCall := Lib.hid hcall
          clear hq hcall
          go_wp2_with (go_at_call 39; refine (HCall.out _ (HB2.out.alloc (by have := HB2.out.size; omega) _)).mono ?_; rintro e w1 ⟨rfl, hb1⟩; obtain ⟨z0, z1, z2⟩ := boxed3 hb1; have HB3 := Lib.hid (under_box HB2.out (by omega) hb1); have HC3 := Lib.hid (row_box hg2 HC2.out hb1); have HF3 := Lib.hid (froz_box hg2 HF2.out hb1); have HG3 : Hid (g < w1.heap.size) := Lib.hid (by have := hb1.size; simp at this; omega); clear hb1)
          go_roundg (n - (j + 1))
          case measure => omega
          case rel => exact ⟨i, j + 1, m', rfl, by go_num, by omega, Nat.le_refl _, Lib.hid (HK.out.skip HQ.out), HC3, HF3, HB3, HG3.out⟩
        | false =>
          rw [hq] at hcall HQ
          have HCall := Lib.hid hcall
          clear hq hcall
          go_wp2_with (go_at_call 39; refine (HCall.out _ (HB2.out.alloc (by have := HB2.out.size; omega) _)).mono ?_; rintro e w1 ⟨rfl, hb1⟩; obtain ⟨z0, z1, z2⟩ := boxed3 hb1; have HB3 := Lib.hid (under_box HB2.out (by omega) hb1); have HC3 := Lib.hid (row_box hg2 HC2.out hb1); have HF3 := Lib.hid (froz_box hg2 HF2.out hb1); have HG3 : Hid (g < w1.heap.size) := Lib.hid (by have := hb1.size; simp at this; omega); have y0 := HF3.out (i * 3) (by omega); have y1 := HF3.out (i * 3 + 1) (by omega); have y2 := HF3.out (i * 3 + 2) (by omega); have q0 := HC3.out (i * 3) (by omega); have q1 := HC3.out (i * 3 + 1) (by omega); have q2 := HC3.out (i * 3 + 2) (by omega); clear hb1)
          go_roundg (n - (j + 1))
          case measure => omega
          case rel =>
            have hin : i < n := by omega
            have hk := HK.out.keep HQ.out
            rw [HX.out.1, HX.out.2.1, HX.out.2.2] at hk
            exact ⟨i + 1, j + 1, put3 m' i x y z, by go_num, by go_num, by omega, Nat.le_refl _, Lib.hid hk, Lib.hid (put_rows HC3.out hin x y z), Lib.hid (froz_setCells HF3.out (i * 3) [.int .i64 x, .int .i64 y, .int .i64 z]), Lib.hid (below_setCells hbase [.int .i64 x, .int .i64 y, .int .i64 z] (i * 3) _ HB3.out), by simp only [size_setCell']; exact HG3.out⟩
      · obtain rfl : j = n := by omega
        have hltz : ¬ (j : Int) < (j : Int) := by omega
        have hcl : ∀ ty, (Builtin.clear_ #[46] ty #[.slice (some ⟨g, i * 3, none⟩) (j - i) (c - i)]).run Tryd.prog wr = .ok (.tuple #[]) (wr.setCells g (i * 3) (List.replicate ((j - i) * 3) (.int .i64 0))) :=
          fun ty => run_clear3 wr ty g (i * 3) (j - i) (c - i) (by omega) (fun t ht => by rw [HC2.out (i * 3 + t) (by omega)]; rfl) (fun t ht => HF2.out (i * 3 + t) (by omega))
        go_wp2_with fail
        go_ret
        exact ⟨⟨i, rfl, by omega, by omega, m', fun t ht => by rw [World.cell?_setCells_out g _ _ _ _ (fun _ _ => by simp; omega)]; exact HC2.out t (by omega), HK.out.low⟩, below_setCells hbase _ _ _ HB2.out⟩
end Go.Proofs.YtfgbnnmaooillaaDoor
