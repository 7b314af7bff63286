/- rec: numbers, ReadRobot, ReadTask by their contracts. -/
import Derived.Test.YtlcnhagcomljnaaDoorRecBPRecUnlike
namespace Go.Proofs.YtlcnhagcomljnaaDoor
open Go.RowKit Go.Extern.Stop Go.Stop Go.Extern Go.Proofs.YtlcnhagcomljnaaDoorW.PrintWords Go.Proofs.YtlcnhagcomljnaaDoorW.PrintLast Go.Proofs.YtlcnhagcomljnaaDoorW.PrintMore Go.Proofs.YtlcnhagcomljnaaDoor.PRecUnlike
set_option linter.unusedVariables false
set_option linter.unusedSimpArgs false

theorem own_ints {w : World} {base n : Nat} {e : TypeId} {A : Option Addr} {c : Nat} {xs : List Int} (h : w.ownsRow base e 1 (.slice A n c) n (nums .i64 xs)) (hn : xs.length = n) : Ints w A xs c := by
  subst hn
  refine ⟨Kd.C_of_reads (readsInt_of.1 (own_reads' h)), ?_⟩
  rcases h.2 with ⟨hv, h0⟩ | ⟨g, cap, cur, hv, _, _, h1, _⟩
  · simp only [Value.slice.injEq] at hv; omega
  · simp only [Value.slice.injEq] at hv; omega
theorem Parse_ok (A : Option Addr) (ws ns : List Int) (n m c : Nat) (s : ByteArray) (W : World) (h : Ints W A ws c) (hn : ws.length = n) (hm : ns.length = m) (h0 : 0 < m) (hsz : s.size ≤ 9223372036854775807) (hc : parseC ws s = 0) (hl : parseL ws s = ns) :
    Calls Tryd.prog 76 #[.slice A n c, .string s] W fun e w' => ∃ b d, e = .returned (.tuple #[.slice (some ⟨b, 0, none⟩) m d, .nilIface]) ∧ W.heap.size ≤ b ∧ Ints w' (some ⟨b, 0, none⟩) ns d ∧ Below W.heap.size W w' := by
  subst hn hm
  refine (Parse_any A ws c s W h hsz).mono ?_
  rintro e w' ⟨vs, v, rfl, ho, he, hb⟩
  rw [hc] at he
  rw [hl] at ho
  rw [he.zero]
  obtain ⟨b, d, rfl, hg⟩ : ∃ b d, vs = .slice (some ⟨b, 0, none⟩) ns.length d ∧ W.heap.size ≤ b := by
    rcases ho.2 with ⟨_, hx⟩ | ⟨g, cap, cur, hv, hg, _⟩
    · simp [nums] at hx; rw [hx] at h0; exact absurd h0 (by simp)
    · exact ⟨g, cap, hv, hg⟩
  exact ⟨b, d, rfl, hg, own_ints ho rfl, hb⟩
theorem Parse_no (A : Option Addr) (ws : List Int) (n c : Nat) (s : ByteArray) (W : World) (h : Ints W A ws c) (hn : ws.length = n) (hsz : s.size ≤ 9223372036854775807) (hc : parseC ws s ≠ 0) :
    Calls Tryd.prog 76 #[.slice A n c, .string s] W fun e w' => ∃ vs t x, e = .returned (.tuple #[vs, .iface t x]) ∧ Below W.heap.size W w' := by
  subst hn
  refine (Parse_any A ws c s W h hsz).mono ?_
  rintro e w' ⟨vs, v, rfl, ho, he, hb⟩
  obtain ⟨t, x, rfl⟩ := he.iface hc
  exact ⟨vs, t, x, rfl, hb⟩
theorem numbersR_length (ws : List Int) (s : ByteArray) : (numbersR ws s).length = ws.length := by
  unfold numbersR
  split
  · exact parseTo_length ws s _
  · simp
theorem parseTo_range (ws : List Int) (s : ByteArray) (h : ws.all mayB = true) : ∀ k, k ≤ ws.length → ∀ x ∈ parseTo ws s k, 0 ≤ x ∧ x < 4294967296
  | 0, _, x, hx => by simp [parseTo] at hx
  | k + 1, hk, x, hx => by
    have hx2 : x ∈ parseTo ws s k ++ [getK (restK ws s k) (rd ws k).toNat] := hx
    rcases List.mem_append.1 hx2 with hx | hx
    · exact parseTo_range ws s h k (by omega) x hx
    · obtain rfl := List.mem_singleton.1 hx
      have hw := mayB_iff.1 (List.all_eq_true.1 h _ (rd_mem (l := ws) (i := k) (by omega)))
      obtain ⟨h0, h1⟩ := getK_range (restK ws s k) (rd ws k).toNat
      refine ⟨h0, Int.lt_of_lt_of_le h1 ?_⟩
      rcases four hw.1 hw.2 with e | e | e | e <;> rw [e] <;> decide
theorem numbersR_range (ws : List Int) (s : ByteArray) (h : ws.all mayB = true) : ∀ x ∈ numbersR ws s, 0 ≤ x ∧ x < 4294967296 := by
  unfold numbersR
  split
  · exact parseTo_range ws s h _ (Nat.le_refl _)
  · intro x hx
    rw [(List.mem_replicate.1 hx).2]; omega
theorem mk_7 (w : World) : (Instr.makeSlice 93 (.int .i64 7) (.int .i64 7)).run Tryd.prog w = .ok (.slice (some ⟨w.heap.size, 0, none⟩) 7 7) (w.alloc (.cells #[.int .i64 0, .int .i64 0, .int .i64 0, .int .i64 0, .int .i64 0, .int .i64 0, .int .i64 0] 3)) := by kernel_rfl
theorem mk_6 (w : World) : (Instr.makeSlice 93 (.int .i64 6) (.int .i64 6)).run Tryd.prog w = .ok (.slice (some ⟨w.heap.size, 0, none⟩) 6 6) (w.alloc (.cells #[.int .i64 0, .int .i64 0, .int .i64 0, .int .i64 0, .int .i64 0, .int .i64 0] 3)) := by kernel_rfl
theorem list7 {l : List Int} (h : l.length = 7) : ∃ a b c d e f g, l = [a, b, c, d, e, f, g] := by
  match l, h with
  | [a, b, c, d, e, f, g], _ => exact ⟨a, b, c, d, e, f, g, rfl⟩
theorem list6 {l : List Int} (h : l.length = 6) : ∃ a b c d e f, l = [a, b, c, d, e, f] := by
  match l, h with
  | [a, b, c, d, e, f], _ => exact ⟨a, b, c, d, e, f, rfl⟩
set_option maxHeartbeats 800000 in
set_option maxRecDepth 100000 in
theorem numbers_rwid (A : Option Addr) (c : Nat) (s : ByteArray) (W : World) (h : Ints W A rwid c) (hs : s.size ≤ 9223372036854775807) :
    Calls Tryd.prog 50 #[.slice A 7 c, .string s] W fun e w' => ∃ b d, e = .returned (.slice (some ⟨b, 0, none⟩) 7 d) ∧ W.heap.size ≤ b ∧ Ints w' (some ⟨b, 0, none⟩) (numbersR rwid s) d ∧ Below W.heap.size W w' := by
  by_cases hc : parseC rwid s = 0
  · have hl : parseL rwid s = numbersR rwid s := by unfold parseL numbersR; rw [if_pos hc, if_pos hc]
    have HC := Lib.hid (Parse_ok A rwid (numbersR rwid s) 7 7 c s W h rfl (numbersR_length _ _) (by decide) hs hc hl)
    clear hc hl h
    go_enter Tryd.func50, Tryd.ntmps50
    go_wp2_with fail
    refine HC.out.mono ?_
    rintro e w1 ⟨b, d, rfl, hg, hi, hb⟩
    have HI := Lib.hid hi
    have HG := Lib.hid hg
    clear hg
    have HB := Lib.hid hb
    clear hi hb
    go_wp2_with fail
    go_ret
    exact ⟨b, d, rfl, HG.out, HI.out, HB.out⟩
  · have HN : Hid (numbersR rwid s = List.replicate 7 0) := Lib.hid (by unfold numbersR; rw [if_neg hc]; rfl)
    have HC := Lib.hid (Parse_no A rwid 7 c s W h rfl hs hc)
    clear hc h
    have hmk := mk_7
    go_enter Tryd.func50, Tryd.ntmps50
    go_wp2_with fail
    refine HC.out.mono ?_
    rintro e w1 ⟨vs, t, x, rfl, hb⟩
    have HB := Lib.hid hb
    clear hb
    go_wp2_with fail
    go_ret
    refine ⟨_, _, rfl, HB.out.size, ?_, HB.out.alloc HB.out.size _⟩
    rw [HN.out]
    exact ints_lit (List.replicate 7 0) _ _ (by simp)
set_option maxHeartbeats 800000 in
set_option maxRecDepth 100000 in
theorem numbers_twid (A : Option Addr) (c : Nat) (s : ByteArray) (W : World) (h : Ints W A twid c) (hs : s.size ≤ 9223372036854775807) :
    Calls Tryd.prog 50 #[.slice A 6 c, .string s] W fun e w' => ∃ b d, e = .returned (.slice (some ⟨b, 0, none⟩) 6 d) ∧ W.heap.size ≤ b ∧ Ints w' (some ⟨b, 0, none⟩) (numbersR twid s) d ∧ Below W.heap.size W w' := by
  by_cases hc : parseC twid s = 0
  · have hl : parseL twid s = numbersR twid s := by unfold parseL numbersR; rw [if_pos hc, if_pos hc]
    have HC := Lib.hid (Parse_ok A twid (numbersR twid s) 6 6 c s W h rfl (numbersR_length _ _) (by decide) hs hc hl)
    clear hc hl h
    go_enter Tryd.func50, Tryd.ntmps50
    go_wp2_with fail
    refine HC.out.mono ?_
    rintro e w1 ⟨b, d, rfl, hg, hi, hb⟩
    have HI := Lib.hid hi
    have HG := Lib.hid hg
    clear hg
    have HB := Lib.hid hb
    clear hi hb
    go_wp2_with fail
    go_ret
    exact ⟨b, d, rfl, HG.out, HI.out, HB.out⟩
  · have HN : Hid (numbersR twid s = List.replicate 6 0) := Lib.hid (by unfold numbersR; rw [if_neg hc]; rfl)
    have HC := Lib.hid (Parse_no A twid 6 c s W h rfl hs hc)
    clear hc h
    have hmk := mk_6
    go_enter Tryd.func50, Tryd.ntmps50
    go_wp2_with fail
    refine HC.out.mono ?_
    rintro e w1 ⟨vs, t, x, rfl, hb⟩
    have HB := Lib.hid hb
    clear hb
    go_wp2_with fail
    go_ret
    refine ⟨_, _, rfl, HB.out.size, ?_, HB.out.alloc HB.out.size _⟩
    rw [HN.out]
    exact ints_lit (List.replicate 6 0) _ _ (by simp)
set_option maxHeartbeats 4000000 in
set_option maxRecDepth 100000 in
theorem read_r_ok_ (n0 n1 n2 n3 n4 n5 n6 : Int) (s : ByteArray) (hs : s.size ≤ 9223372036854775807) (hn : Hid (numbersR rwid s = [n0, n1, n2, n3, n4, n5, n6])) (hw : Hid (∀ x ∈ numbersR rwid s, 0 ≤ x ∧ x < 4294967296)) (w : World)
    (hsame : Hid (∀ w, Calls Tryd.prog 51 #[.agg #[.int .i64 n0, .int .i64 n1, .int .i64 n2, .int .i64 (n3 - 1), .int .i64 n4, .int .i64 n5, .int .i64 (n6 - 32768)], .func (.func 15) #[] #[], .string s] w fun e w' => e = .returned (.tuple #[.agg #[.int .i64 n0, .int .i64 n1, .int .i64 n2, .int .i64 (n3 - 1), .int .i64 n4, .int .i64 n5, .int .i64 (n6 - 32768)], .nilIface]) ∧ Below w.heap.size w w')) :
    Calls Tryd.prog 18 #[.string s] w fun e w' => e = .returned (.tuple #[.agg #[.int .i64 n0, .int .i64 n1, .int .i64 n2, .int .i64 (n3 - 1), .int .i64 n4, .int .i64 n5, .int .i64 (n6 - 32768)], .nilIface]) ∧ Below w.heap.size w w' := by
  have b3 := hw.out n3 (by rw [hn.out]; simp)
  have b6 := hw.out n6 (by rw [hn.out]; simp)
  have e1 : IntKind.i64.wrap (n3 - 1) = n3 - 1 := IntWalk.i64_in _ (by omega)
  have e2 : IntKind.i64.wrap (n6 - 32768) = n6 - 32768 := IntWalk.i64_in _ (by omega)
  have HS := Lib.hid hs
  clear hs
  have HB0 : Hid (Below w.heap.size w (w.alloc (.cells #[.int .i64 0, .int .i64 0, .int .i64 0, .int .i64 0, .int .i64 0, .int .i64 0, .int .i64 0] 30))) := Lib.hid ((Below.refl _ _).alloc (Nat.le_refl _) _)
  go_enter Tryd.func18, Tryd.ntmps18
  go_wp2_with fail
  refine (rwid_any _).mono ?_
  rintro e w1 ⟨A, c, rfl, hi, hb⟩
  have HI1 := Lib.hid hi
  have HB1 := Lib.hid hb
  clear hi hb
  go_wp2_with fail
  refine (numbers_rwid A c s _ HI1.out HS.out).mono ?_
  rintro e w2 ⟨b, d, rfl, hg, hi, hb⟩
  rw [hn.out] at hi
  obtain ⟨_, _, hbo, hq⟩ := hi.at (by simp)
  cases hbo
  have hbw : w.heap.size < b := Nat.lt_of_lt_of_le (Nat.lt_of_lt_of_le (by simp) HB1.out.size) hg
  have HG := Lib.hid hbw
  clear hg hbw
  have q0 : w2.cell? ⟨b, 0, none⟩ = some (.int .i64 n0) := hq 0 (by simp)
  have q1 : w2.cell? ⟨b, 1, none⟩ = some (.int .i64 n1) := hq 1 (by simp)
  have q2 : w2.cell? ⟨b, 2, none⟩ = some (.int .i64 n2) := hq 2 (by simp)
  have q3 : w2.cell? ⟨b, 3, none⟩ = some (.int .i64 n3) := hq 3 (by simp)
  have q4 : w2.cell? ⟨b, 4, none⟩ = some (.int .i64 n4) := hq 4 (by simp)
  have q5 : w2.cell? ⟨b, 5, none⟩ = some (.int .i64 n5) := hq 5 (by simp)
  have q6 : w2.cell? ⟨b, 6, none⟩ = some (.int .i64 n6) := hq 6 (by simp)
  have HB2 := Lib.hid (show Below (w.alloc (.cells #[.int .i64 0, .int .i64 0, .int .i64 0, .int .i64 0, .int .i64 0, .int .i64 0, .int .i64 0] 30)).heap.size (w.alloc (.cells #[.int .i64 0, .int .i64 0, .int .i64 0, .int .i64 0, .int .i64 0, .int .i64 0, .int .i64 0] 30)) w2 from bstep HB1.out hb)
  have HBw := Lib.hid (show Below w.heap.size w w2 from HB0.out.trans (HB2.out.mono (by simp)))
  have HTh : Hid (w2.there w.heap.size 0 7) := Lib.hid (there_under HB2.out (by simp) (there_last _ _ _ _ (by simp) rfl))
  have HL : Hid (w.heap.size < w2.heap.size) := Lib.hid (Nat.lt_of_lt_of_le (by simp) HB2.out.size)
  clear hi hb hq
  have Q0 := Lib.hid q0
  have Q1 := Lib.hid q1
  have Q2 := Lib.hid q2
  have Q3 := Lib.hid q3
  have Q4 := Lib.hid q4
  have Q5 := Lib.hid q5
  have Q6 := Lib.hid q6
  have hbl : b < w2.heap.size := cell_lt q0
  have HBl := Lib.hid hbl
  have hS0 : (w2.drew).cell? ⟨b, 0, none⟩ = some (.int .i64 n0) ∧ (w2.drew).cell? ⟨b, 1, none⟩ = some (.int .i64 n1) ∧ (w2.drew).cell? ⟨b, 2, none⟩ = some (.int .i64 n2) ∧ (w2.drew).cell? ⟨b, 3, none⟩ = some (.int .i64 n3) ∧ (w2.drew).cell? ⟨b, 4, none⟩ = some (.int .i64 n4) ∧ (w2.drew).cell? ⟨b, 5, none⟩ = some (.int .i64 n5) ∧ (w2.drew).cell? ⟨b, 6, none⟩ = some (.int .i64 n6) := ⟨q0, q1, q2, q3, q4, q5, q6⟩
  clear q0 q1 q2 q3 q4 q5 q6 hbl
  go_wp2_with fail
  refine wp_region_held_drew (S := fun w' => (w').cell? ⟨b, 0, none⟩ = some (.int .i64 n0) ∧ (w').cell? ⟨b, 1, none⟩ = some (.int .i64 n1) ∧ (w').cell? ⟨b, 2, none⟩ = some (.int .i64 n2) ∧ (w').cell? ⟨b, 3, none⟩ = some (.int .i64 n3) ∧ (w').cell? ⟨b, 4, none⟩ = some (.int .i64 n4) ∧ (w').cell? ⟨b, 5, none⟩ = some (.int .i64 n5) ∧ (w').cell? ⟨b, 6, none⟩ = some (.int .i64 n6)) (by kernel_rfl) ?_ (fun hHeld => ?_)
  · exact hS0
  refine wpAnyH_take (i := 0) (oi := { dst := Option.some 8, op := Go.Op.move (Go.Operand.tmp 4), type := 93, pos := "rec.go:100", after := #[], guard := Option.none }) (v := ?_) rfl (by kernel_rfl) (by kernel_rfl) (by kernel_rfl) (fun _ _ _ h => h) (Or.inl ⟨by rfl, ?_⟩) (by assumption) ?_
  rotate_left
  · intro w hSw; (try dsimp only at hSw); go_simp; (try with_reducible rfl)
  simp only [Act.put, List.setIfInBounds_toArray, List.set_cons_zero, List.set_cons_succ]
  refine wpAnyH_take (i := 1) (oi := { dst := Option.some 9, op := Go.Op.indexAddr 93 (Go.Operand.tmp 8) (Go.Operand.const (Go.Value.int Go.IntKind.i64 0)), type := 0, pos := "rec.go:100", after := #[{ on := 0, ground := Go.Ground.data }], guard := Option.none }) (v := ?_) rfl (by kernel_rfl) (by kernel_rfl) (by kernel_rfl) (fun _ _ _ h => h) (Or.inl ⟨by rfl, ?_⟩) (by assumption) ?_
  rotate_left
  · intro w hSw; (try dsimp only at hSw); go_simp; (try with_reducible rfl)
  simp only [Act.put, List.setIfInBounds_toArray, List.set_cons_zero, List.set_cons_succ]
  refine wpAnyH_take (i := 2) (oi := { dst := Option.some 10, op := Go.Op.load 3 (Go.Operand.tmp 9), type := 3, pos := "rec.go:100", after := #[{ on := 1, ground := Go.Ground.data }], guard := Option.none }) (v := ?_) rfl (by kernel_rfl) (by kernel_rfl) (by kernel_rfl) (fun _ _ _ h => h) (Or.inl ⟨by rfl, ?_⟩) (by assumption) ?_
  rotate_left
  · intro w hSw; (try dsimp only at hSw); go_simp; (try with_reducible rfl)
  simp only [Act.put, List.setIfInBounds_toArray, List.set_cons_zero, List.set_cons_succ]
  refine wpAnyH_take (i := 3) (oi := { dst := Option.some 11, op := Go.Op.move (Go.Operand.tmp 4), type := 93, pos := "rec.go:100", after := #[], guard := Option.none }) (v := ?_) rfl (by kernel_rfl) (by kernel_rfl) (by kernel_rfl) (fun _ _ _ h => h) (Or.inl ⟨by rfl, ?_⟩) (by assumption) ?_
  rotate_left
  · intro w hSw; (try dsimp only at hSw); go_simp; (try with_reducible rfl)
  simp only [Act.put, List.setIfInBounds_toArray, List.set_cons_zero, List.set_cons_succ]
  refine wpAnyH_take (i := 4) (oi := { dst := Option.some 12, op := Go.Op.indexAddr 93 (Go.Operand.tmp 11) (Go.Operand.const (Go.Value.int Go.IntKind.i64 1)), type := 0, pos := "rec.go:100", after := #[{ on := 3, ground := Go.Ground.data }], guard := Option.none }) (v := ?_) rfl (by kernel_rfl) (by kernel_rfl) (by kernel_rfl) (fun _ _ _ h => h) (Or.inl ⟨by rfl, ?_⟩) (by assumption) ?_
  rotate_left
  · intro w hSw; (try dsimp only at hSw); go_simp; (try with_reducible rfl)
  simp only [Act.put, List.setIfInBounds_toArray, List.set_cons_zero, List.set_cons_succ]
  refine wpAnyH_take (i := 5) (oi := { dst := Option.some 13, op := Go.Op.load 3 (Go.Operand.tmp 12), type := 3, pos := "rec.go:100", after := #[{ on := 4, ground := Go.Ground.data }], guard := Option.none }) (v := ?_) rfl (by kernel_rfl) (by kernel_rfl) (by kernel_rfl) (fun _ _ _ h => h) (Or.inl ⟨by rfl, ?_⟩) (by assumption) ?_
  rotate_left
  · intro w hSw; (try dsimp only at hSw); go_simp; (try with_reducible rfl)
  simp only [Act.put, List.setIfInBounds_toArray, List.set_cons_zero, List.set_cons_succ]
  refine wpAnyH_take (i := 6) (oi := { dst := Option.some 14, op := Go.Op.move (Go.Operand.tmp 4), type := 93, pos := "rec.go:100", after := #[], guard := Option.none }) (v := ?_) rfl (by kernel_rfl) (by kernel_rfl) (by kernel_rfl) (fun _ _ _ h => h) (Or.inl ⟨by rfl, ?_⟩) (by assumption) ?_
  rotate_left
  · intro w hSw; (try dsimp only at hSw); go_simp; (try with_reducible rfl)
  simp only [Act.put, List.setIfInBounds_toArray, List.set_cons_zero, List.set_cons_succ]
  refine wpAnyH_take (i := 7) (oi := { dst := Option.some 15, op := Go.Op.indexAddr 93 (Go.Operand.tmp 14) (Go.Operand.const (Go.Value.int Go.IntKind.i64 2)), type := 0, pos := "rec.go:100", after := #[{ on := 6, ground := Go.Ground.data }], guard := Option.none }) (v := ?_) rfl (by kernel_rfl) (by kernel_rfl) (by kernel_rfl) (fun _ _ _ h => h) (Or.inl ⟨by rfl, ?_⟩) (by assumption) ?_
  rotate_left
  · intro w hSw; (try dsimp only at hSw); go_simp; (try with_reducible rfl)
  simp only [Act.put, List.setIfInBounds_toArray, List.set_cons_zero, List.set_cons_succ]
  refine wpAnyH_take (i := 8) (oi := { dst := Option.some 16, op := Go.Op.load 3 (Go.Operand.tmp 15), type := 3, pos := "rec.go:100", after := #[{ on := 7, ground := Go.Ground.data }], guard := Option.none }) (v := ?_) rfl (by kernel_rfl) (by kernel_rfl) (by kernel_rfl) (fun _ _ _ h => h) (Or.inl ⟨by rfl, ?_⟩) (by assumption) ?_
  rotate_left
  · intro w hSw; (try dsimp only at hSw); go_simp; (try with_reducible rfl)
  simp only [Act.put, List.setIfInBounds_toArray, List.set_cons_zero, List.set_cons_succ]
  refine wpAnyH_take (i := 9) (oi := { dst := Option.some 17, op := Go.Op.move (Go.Operand.tmp 4), type := 93, pos := "rec.go:100", after := #[], guard := Option.none }) (v := ?_) rfl (by kernel_rfl) (by kernel_rfl) (by kernel_rfl) (fun _ _ _ h => h) (Or.inl ⟨by rfl, ?_⟩) (by assumption) ?_
  rotate_left
  · intro w hSw; (try dsimp only at hSw); go_simp; (try with_reducible rfl)
  simp only [Act.put, List.setIfInBounds_toArray, List.set_cons_zero, List.set_cons_succ]
  refine wpAnyH_take (i := 10) (oi := { dst := Option.some 18, op := Go.Op.indexAddr 93 (Go.Operand.tmp 17) (Go.Operand.const (Go.Value.int Go.IntKind.i64 3)), type := 0, pos := "rec.go:100", after := #[{ on := 9, ground := Go.Ground.data }], guard := Option.none }) (v := ?_) rfl (by kernel_rfl) (by kernel_rfl) (by kernel_rfl) (fun _ _ _ h => h) (Or.inl ⟨by rfl, ?_⟩) (by assumption) ?_
  rotate_left
  · intro w hSw; (try dsimp only at hSw); go_simp; (try with_reducible rfl)
  simp only [Act.put, List.setIfInBounds_toArray, List.set_cons_zero, List.set_cons_succ]
  refine wpAnyH_take (i := 11) (oi := { dst := Option.some 19, op := Go.Op.load 3 (Go.Operand.tmp 18), type := 3, pos := "rec.go:100", after := #[{ on := 10, ground := Go.Ground.data }], guard := Option.none }) (v := ?_) rfl (by kernel_rfl) (by kernel_rfl) (by kernel_rfl) (fun _ _ _ h => h) (Or.inl ⟨by rfl, ?_⟩) (by assumption) ?_
  rotate_left
  · intro w hSw; (try dsimp only at hSw); go_simp; (try with_reducible rfl)
  simp only [Act.put, List.setIfInBounds_toArray, List.set_cons_zero, List.set_cons_succ]
  refine wpAnyH_take (i := 12) (oi := { dst := Option.some 20, op := Go.Op.binOp Go.BinOp.sub 3 (Go.Operand.tmp 19) (Go.Operand.const (Go.Value.int Go.IntKind.i64 1)) 3, type := 3, pos := "rec.go:100", after := #[{ on := 11, ground := Go.Ground.data }], guard := Option.none }) (v := ?_) rfl (by kernel_rfl) (by kernel_rfl) (by kernel_rfl) (fun _ _ _ h => h) (Or.inl ⟨by rfl, ?_⟩) (by assumption) ?_
  rotate_left
  · intro w hSw; (try dsimp only at hSw); go_simp; (try with_reducible rfl)
  simp only [Act.put, List.setIfInBounds_toArray, List.set_cons_zero, List.set_cons_succ]
  refine wpAnyH_take (i := 13) (oi := { dst := Option.some 21, op := Go.Op.move (Go.Operand.tmp 4), type := 93, pos := "rec.go:100", after := #[], guard := Option.none }) (v := ?_) rfl (by kernel_rfl) (by kernel_rfl) (by kernel_rfl) (fun _ _ _ h => h) (Or.inl ⟨by rfl, ?_⟩) (by assumption) ?_
  rotate_left
  · intro w hSw; (try dsimp only at hSw); go_simp; (try with_reducible rfl)
  simp only [Act.put, List.setIfInBounds_toArray, List.set_cons_zero, List.set_cons_succ]
  refine wpAnyH_take (i := 14) (oi := { dst := Option.some 22, op := Go.Op.indexAddr 93 (Go.Operand.tmp 21) (Go.Operand.const (Go.Value.int Go.IntKind.i64 4)), type := 0, pos := "rec.go:100", after := #[{ on := 13, ground := Go.Ground.data }], guard := Option.none }) (v := ?_) rfl (by kernel_rfl) (by kernel_rfl) (by kernel_rfl) (fun _ _ _ h => h) (Or.inl ⟨by rfl, ?_⟩) (by assumption) ?_
  rotate_left
  · intro w hSw; (try dsimp only at hSw); go_simp; (try with_reducible rfl)
  simp only [Act.put, List.setIfInBounds_toArray, List.set_cons_zero, List.set_cons_succ]
  refine wpAnyH_take (i := 15) (oi := { dst := Option.some 23, op := Go.Op.load 3 (Go.Operand.tmp 22), type := 3, pos := "rec.go:100", after := #[{ on := 14, ground := Go.Ground.data }], guard := Option.none }) (v := ?_) rfl (by kernel_rfl) (by kernel_rfl) (by kernel_rfl) (fun _ _ _ h => h) (Or.inl ⟨by rfl, ?_⟩) (by assumption) ?_
  rotate_left
  · intro w hSw; (try dsimp only at hSw); go_simp; (try with_reducible rfl)
  simp only [Act.put, List.setIfInBounds_toArray, List.set_cons_zero, List.set_cons_succ]
  refine wpAnyH_take (i := 16) (oi := { dst := Option.some 24, op := Go.Op.move (Go.Operand.tmp 4), type := 93, pos := "rec.go:100", after := #[], guard := Option.none }) (v := ?_) rfl (by kernel_rfl) (by kernel_rfl) (by kernel_rfl) (fun _ _ _ h => h) (Or.inl ⟨by rfl, ?_⟩) (by assumption) ?_
  rotate_left
  · intro w hSw; (try dsimp only at hSw); go_simp; (try with_reducible rfl)
  simp only [Act.put, List.setIfInBounds_toArray, List.set_cons_zero, List.set_cons_succ]
  refine wpAnyH_take (i := 17) (oi := { dst := Option.some 25, op := Go.Op.indexAddr 93 (Go.Operand.tmp 24) (Go.Operand.const (Go.Value.int Go.IntKind.i64 5)), type := 0, pos := "rec.go:100", after := #[{ on := 16, ground := Go.Ground.data }], guard := Option.none }) (v := ?_) rfl (by kernel_rfl) (by kernel_rfl) (by kernel_rfl) (fun _ _ _ h => h) (Or.inl ⟨by rfl, ?_⟩) (by assumption) ?_
  rotate_left
  · intro w hSw; (try dsimp only at hSw); go_simp; (try with_reducible rfl)
  simp only [Act.put, List.setIfInBounds_toArray, List.set_cons_zero, List.set_cons_succ]
  refine wpAnyH_take (i := 18) (oi := { dst := Option.some 26, op := Go.Op.load 3 (Go.Operand.tmp 25), type := 3, pos := "rec.go:100", after := #[{ on := 17, ground := Go.Ground.data }], guard := Option.none }) (v := ?_) rfl (by kernel_rfl) (by kernel_rfl) (by kernel_rfl) (fun _ _ _ h => h) (Or.inl ⟨by rfl, ?_⟩) (by assumption) ?_
  rotate_left
  · intro w hSw; (try dsimp only at hSw); go_simp; (try with_reducible rfl)
  simp only [Act.put, List.setIfInBounds_toArray, List.set_cons_zero, List.set_cons_succ]
  refine wpAnyH_take (i := 19) (oi := { dst := Option.some 27, op := Go.Op.move (Go.Operand.tmp 4), type := 93, pos := "rec.go:100", after := #[], guard := Option.none }) (v := ?_) rfl (by kernel_rfl) (by kernel_rfl) (by kernel_rfl) (fun _ _ _ h => h) (Or.inl ⟨by rfl, ?_⟩) (by assumption) ?_
  rotate_left
  · intro w hSw; (try dsimp only at hSw); go_simp; (try with_reducible rfl)
  simp only [Act.put, List.setIfInBounds_toArray, List.set_cons_zero, List.set_cons_succ]
  refine wpAnyH_take (i := 20) (oi := { dst := Option.some 28, op := Go.Op.indexAddr 93 (Go.Operand.tmp 27) (Go.Operand.const (Go.Value.int Go.IntKind.i64 6)), type := 0, pos := "rec.go:100", after := #[{ on := 19, ground := Go.Ground.data }], guard := Option.none }) (v := ?_) rfl (by kernel_rfl) (by kernel_rfl) (by kernel_rfl) (fun _ _ _ h => h) (Or.inl ⟨by rfl, ?_⟩) (by assumption) ?_
  rotate_left
  · intro w hSw; (try dsimp only at hSw); go_simp; (try with_reducible rfl)
  simp only [Act.put, List.setIfInBounds_toArray, List.set_cons_zero, List.set_cons_succ]
  refine wpAnyH_take (i := 21) (oi := { dst := Option.some 29, op := Go.Op.load 3 (Go.Operand.tmp 28), type := 3, pos := "rec.go:100", after := #[{ on := 20, ground := Go.Ground.data }], guard := Option.none }) (v := ?_) rfl (by kernel_rfl) (by kernel_rfl) (by kernel_rfl) (fun _ _ _ h => h) (Or.inl ⟨by rfl, ?_⟩) (by assumption) ?_
  rotate_left
  · intro w hSw; (try dsimp only at hSw); go_simp; (try with_reducible rfl)
  simp only [Act.put, List.setIfInBounds_toArray, List.set_cons_zero, List.set_cons_succ]
  refine wpAnyH_take (i := 22) (oi := { dst := Option.some 30, op := Go.Op.binOp Go.BinOp.sub 3 (Go.Operand.tmp 29) (Go.Operand.const (Go.Value.int Go.IntKind.i64 32768)) 3, type := 3, pos := "rec.go:100", after := #[{ on := 21, ground := Go.Ground.data }], guard := Option.none }) (v := ?_) rfl (by kernel_rfl) (by kernel_rfl) (by kernel_rfl) (fun _ _ _ h => h) (Or.inl ⟨by rfl, ?_⟩) (by assumption) ?_
  rotate_left
  · intro w hSw; (try dsimp only at hSw); go_simp; (try with_reducible rfl)
  simp only [Act.put, List.setIfInBounds_toArray, List.set_cons_zero, List.set_cons_succ]
  refine wpAnyH_take (i := 23) (oi := { dst := Option.some 31, op := Go.Op.build 30 #[(0, Go.Operand.tmp 10), (1, Go.Operand.tmp 13), (2, Go.Operand.tmp 16), (3, Go.Operand.tmp 20), (4, Go.Operand.tmp 23), (5, Go.Operand.tmp 26), (6, Go.Operand.tmp 30)], type := 30, pos := "rec.go:100", after := #[{ on := 2, ground := Go.Ground.data }, { on := 5, ground := Go.Ground.data }, { on := 8, ground := Go.Ground.data }, { on := 12, ground := Go.Ground.data }, { on := 15, ground := Go.Ground.data }, { on := 18, ground := Go.Ground.data }, { on := 22, ground := Go.Ground.data }], guard := Option.none }) (v := ?_) rfl (by kernel_rfl) (by kernel_rfl) (by kernel_rfl) (fun _ _ _ h => h) (Or.inl ⟨by rfl, ?_⟩) (by assumption) ?_
  rotate_left
  · intro w hSw; (try dsimp only at hSw); go_simp; (try with_reducible rfl)
  simp only [Act.put, List.setIfInBounds_toArray, List.set_cons_zero, List.set_cons_succ]
  refine wpAnyH_take (i := 24) (oi := { dst := Option.some 32, op := Go.Op.move (Go.Operand.tmp 0), type := 9, pos := "rec.go:100", after := #[], guard := Option.none }) (v := ?_) rfl (by kernel_rfl) (by kernel_rfl) (by kernel_rfl) (fun _ _ _ h => h) (Or.inl ⟨by rfl, ?_⟩) (by assumption) ?_
  rotate_left
  · intro w hSw; (try dsimp only at hSw); go_simp; (try with_reducible rfl)
  simp only [Act.put, List.setIfInBounds_toArray, List.set_cons_zero, List.set_cons_succ]
  refine wpAnyH_ready (rs := [25]) (by kernel_rfl) (by simp) ?_
  refine AllReadyH.cons (o := { dst := Option.some 33, op := Go.Op.call { callee := Go.Callee.value (Go.Operand.func 51), args := #[Go.Operand.tmp 31, Go.Operand.func 15, Go.Operand.tmp 32], argTypes := #[30, 29, 9] }, type := 34, pos := "rec.go:100", after := #[{ on := 23, ground := Go.Ground.data }, { on := 24, ground := Go.Ground.data }], guard := Option.none }) rfl (fun K hK => ?_) AllReadyH.nil
  go_simp
  refine (hsame.out _).mono ?_
  rintro e wn ⟨rfl, hb⟩
  have hKn : (wn).cell? ⟨b, 0, none⟩ = some (.int .i64 n0) ∧ (wn).cell? ⟨b, 1, none⟩ = some (.int .i64 n1) ∧ (wn).cell? ⟨b, 2, none⟩ = some (.int .i64 n2) ∧ (wn).cell? ⟨b, 3, none⟩ = some (.int .i64 n3) ∧ (wn).cell? ⟨b, 4, none⟩ = some (.int .i64 n4) ∧ (wn).cell? ⟨b, 5, none⟩ = some (.int .i64 n5) ∧ (wn).cell? ⟨b, 6, none⟩ = some (.int .i64 n6) := ⟨(hb.cell (p := ⟨b, 0, none⟩) HBl.out).trans Q0.out, (hb.cell (p := ⟨b, 1, none⟩) HBl.out).trans Q1.out, (hb.cell (p := ⟨b, 2, none⟩) HBl.out).trans Q2.out, (hb.cell (p := ⟨b, 3, none⟩) HBl.out).trans Q3.out, (hb.cell (p := ⟨b, 4, none⟩) HBl.out).trans Q4.out, (hb.cell (p := ⟨b, 5, none⟩) HBl.out).trans Q5.out, (hb.cell (p := ⟨b, 6, none⟩) HBl.out).trans Q6.out⟩
  have HBn := Lib.hid (show Below w.heap.size w wn from HBw.out.trans (((Below.drew (Below.refl _ _)).trans hb).mono HBw.out.size))
  have HTn : Hid (wn.there w.heap.size 0 7) := Lib.hid (there_under hb HL.out HTh.out)
  clear hb
  go_wp2_with fail
  refine hK.out _ _ hKn (fun hHeld2 => ?_)
  clear hK K
  try simp only [Act.put, List.setIfInBounds_toArray, List.set_cons_zero, List.set_cons_succ]
  refine wpAnyH_take (i := 26) (oi := { dst := Option.some 34, op := Go.Op.extract (Go.Operand.tmp 33) 0, type := 30, pos := "rec.go:100", after := #[{ on := 25, ground := Go.Ground.data }], guard := Option.none }) (v := ?_) rfl (by kernel_rfl) (by kernel_rfl) (by kernel_rfl) (fun _ _ _ h => h) (Or.inl ⟨by rfl, ?_⟩) (by assumption) ?_
  rotate_left
  · intro w hSw; (try dsimp only at hSw); go_simp; (try with_reducible rfl)
  simp only [Act.put, List.setIfInBounds_toArray, List.set_cons_zero, List.set_cons_succ]
  refine wpAnyH_take (i := 27) (oi := { dst := Option.some 35, op := Go.Op.extract (Go.Operand.tmp 33) 1, type := 27, pos := "rec.go:100", after := #[{ on := 25, ground := Go.Ground.data }], guard := Option.none }) (v := ?_) rfl (by kernel_rfl) (by kernel_rfl) (by kernel_rfl) (fun _ _ _ h => h) (Or.inl ⟨by rfl, ?_⟩) (by assumption) ?_
  rotate_left
  · intro w hSw; (try dsimp only at hSw); go_simp; (try with_reducible rfl)
  simp only [Act.put, List.setIfInBounds_toArray, List.set_cons_zero, List.set_cons_succ]
  refine wpAnyH_ready (rs := [28]) (by kernel_rfl) (by simp) ?_
  refine AllReadyH.cons (o := { dst := Option.none, op := Go.Op.store 30 (Go.Operand.tmp 2) (Go.Operand.tmp 34), type := 0, pos := "rec.go:100", after := #[{ on := 26, ground := Go.Ground.data }, { on := 25, ground := Go.Ground.chain }, { on := 0, ground := Go.Ground.phase }, { on := 1, ground := Go.Ground.phase }, { on := 2, ground := Go.Ground.phase }, { on := 3, ground := Go.Ground.phase }, { on := 4, ground := Go.Ground.phase }, { on := 5, ground := Go.Ground.phase }, { on := 6, ground := Go.Ground.phase }, { on := 7, ground := Go.Ground.phase }, { on := 8, ground := Go.Ground.phase }, { on := 9, ground := Go.Ground.phase }, { on := 10, ground := Go.Ground.phase }, { on := 11, ground := Go.Ground.phase }, { on := 12, ground := Go.Ground.phase }, { on := 13, ground := Go.Ground.phase }, { on := 14, ground := Go.Ground.phase }, { on := 15, ground := Go.Ground.phase }, { on := 16, ground := Go.Ground.phase }, { on := 17, ground := Go.Ground.phase }, { on := 18, ground := Go.Ground.phase }, { on := 19, ground := Go.Ground.phase }, { on := 20, ground := Go.Ground.phase }, { on := 21, ground := Go.Ground.phase }, { on := 22, ground := Go.Ground.phase }, { on := 23, ground := Go.Ground.phase }, { on := 24, ground := Go.Ground.phase }, { on := 25, ground := Go.Ground.phase }, { on := 26, ground := Go.Ground.phase }, { on := 27, ground := Go.Ground.phase }], guard := Option.none }) rfl (fun K hK => ?_) AllReadyH.nil
  refine wp_store_mid 30 _ _ rfl w.heap.size 0 #[.int .i64 n0, .int .i64 n1, .int .i64 n2, .int .i64 (n3 - 1), .int .i64 n4, .int .i64 n5, .int .i64 (n6 - 32768)] rfl rfl HTn.out (by kernel_rfl) (by simp [Value.oneCell']) ?_
  dsimp only [Array.toList]
  have hS3 : ((wn.setCells w.heap.size 0 [.int .i64 n0, .int .i64 n1, .int .i64 n2, .int .i64 (n3 - 1), .int .i64 n4, .int .i64 n5, .int .i64 (n6 - 32768)])).cell? ⟨b, 0, none⟩ = some (.int .i64 n0) ∧ ((wn.setCells w.heap.size 0 [.int .i64 n0, .int .i64 n1, .int .i64 n2, .int .i64 (n3 - 1), .int .i64 n4, .int .i64 n5, .int .i64 (n6 - 32768)])).cell? ⟨b, 1, none⟩ = some (.int .i64 n1) ∧ ((wn.setCells w.heap.size 0 [.int .i64 n0, .int .i64 n1, .int .i64 n2, .int .i64 (n3 - 1), .int .i64 n4, .int .i64 n5, .int .i64 (n6 - 32768)])).cell? ⟨b, 2, none⟩ = some (.int .i64 n2) ∧ ((wn.setCells w.heap.size 0 [.int .i64 n0, .int .i64 n1, .int .i64 n2, .int .i64 (n3 - 1), .int .i64 n4, .int .i64 n5, .int .i64 (n6 - 32768)])).cell? ⟨b, 3, none⟩ = some (.int .i64 n3) ∧ ((wn.setCells w.heap.size 0 [.int .i64 n0, .int .i64 n1, .int .i64 n2, .int .i64 (n3 - 1), .int .i64 n4, .int .i64 n5, .int .i64 (n6 - 32768)])).cell? ⟨b, 4, none⟩ = some (.int .i64 n4) ∧ ((wn.setCells w.heap.size 0 [.int .i64 n0, .int .i64 n1, .int .i64 n2, .int .i64 (n3 - 1), .int .i64 n4, .int .i64 n5, .int .i64 (n6 - 32768)])).cell? ⟨b, 5, none⟩ = some (.int .i64 n5) ∧ ((wn.setCells w.heap.size 0 [.int .i64 n0, .int .i64 n1, .int .i64 n2, .int .i64 (n3 - 1), .int .i64 n4, .int .i64 n5, .int .i64 (n6 - 32768)])).cell? ⟨b, 6, none⟩ = some (.int .i64 n6) := ⟨(set_other _ _ _ _ _ _ (by have := HG.out; omega)).trans hKn.1, (set_other _ _ _ _ _ _ (by have := HG.out; omega)).trans hKn.2.1, (set_other _ _ _ _ _ _ (by have := HG.out; omega)).trans hKn.2.2.1, (set_other _ _ _ _ _ _ (by have := HG.out; omega)).trans hKn.2.2.2.1, (set_other _ _ _ _ _ _ (by have := HG.out; omega)).trans hKn.2.2.2.2.1, (set_other _ _ _ _ _ _ (by have := HG.out; omega)).trans hKn.2.2.2.2.2.1, (set_other _ _ _ _ _ _ (by have := HG.out; omega)).trans hKn.2.2.2.2.2.2⟩
  refine hK.out _ _ hS3 (fun hHeld3 => ?_)
  clear hK K
  try simp only [Act.put, List.setIfInBounds_toArray, List.set_cons_zero, List.set_cons_succ]
  refine wpAnyH_take (i := 29) (oi := { dst := Option.some 3, op := Go.Op.assign (Go.Operand.tmp 35), type := 27, pos := "rec.go:100", after := #[{ on := 27, ground := Go.Ground.data }, { on := 28, ground := Go.Ground.chain }, { on := 0, ground := Go.Ground.phase }, { on := 1, ground := Go.Ground.phase }, { on := 2, ground := Go.Ground.phase }, { on := 3, ground := Go.Ground.phase }, { on := 4, ground := Go.Ground.phase }, { on := 5, ground := Go.Ground.phase }, { on := 6, ground := Go.Ground.phase }, { on := 7, ground := Go.Ground.phase }, { on := 8, ground := Go.Ground.phase }, { on := 9, ground := Go.Ground.phase }, { on := 10, ground := Go.Ground.phase }, { on := 11, ground := Go.Ground.phase }, { on := 12, ground := Go.Ground.phase }, { on := 13, ground := Go.Ground.phase }, { on := 14, ground := Go.Ground.phase }, { on := 15, ground := Go.Ground.phase }, { on := 16, ground := Go.Ground.phase }, { on := 17, ground := Go.Ground.phase }, { on := 18, ground := Go.Ground.phase }, { on := 19, ground := Go.Ground.phase }, { on := 20, ground := Go.Ground.phase }, { on := 21, ground := Go.Ground.phase }, { on := 22, ground := Go.Ground.phase }, { on := 23, ground := Go.Ground.phase }, { on := 24, ground := Go.Ground.phase }, { on := 25, ground := Go.Ground.phase }, { on := 26, ground := Go.Ground.phase }, { on := 27, ground := Go.Ground.phase }, { on := 28, ground := Go.Ground.phase }], guard := Option.none }) (v := ?_) rfl (by kernel_rfl) (by kernel_rfl) (by kernel_rfl) (fun _ _ _ h => h) (Or.inl ⟨by rfl, ?_⟩) (by assumption) ?_
  rotate_left
  · intro w hSw; (try dsimp only at hSw); go_simp; (try with_reducible rfl)
  simp only [Act.put, List.setIfInBounds_toArray, List.set_cons_zero, List.set_cons_succ]
  refine wpAnyH_done (by kernel_rfl) ?_ _
  go_wp2_with fail
  have hld := run_loadVar_mid (P := Tryd.prog) (wn.setCells w.heap.size 0 [.int .i64 n0, .int .i64 n1, .int .i64 n2, .int .i64 (n3 - 1), .int .i64 n4, .int .i64 n5, .int .i64 (n6 - 32768)]) w.heap.size 0 30 [.int .i64 n0, .int .i64 n1, .int .i64 n2, .int .i64 (n3 - 1), .int .i64 n4, .int .i64 n5, .int .i64 (n6 - 32768)] _ (World.rangeAt_setCells_same wn _ _ _ HTn.out) Tryd.underlying30 rfl (by kernel_rfl)
  refine bodyPost_ret (v := .tuple #[.agg #[.int .i64 n0, .int .i64 n1, .int .i64 n2, .int .i64 (n3 - 1), .int .i64 n4, .int .i64 n5, .int .i64 (n6 - 32768)], .nilIface]) (results_two Tryd.results18 _ _ _ _ _ rfl rfl hld) rfl ⟨rfl, ?_⟩
  exact HBn.out.trans (below_set _ _ _ _ _ (Nat.le_refl _))
set_option maxHeartbeats 4000000 in
set_option maxRecDepth 100000 in
theorem read_r_no_ (n0 n1 n2 n3 n4 n5 n6 : Int) (s : ByteArray) (hs : s.size ≤ 9223372036854775807) (hn : Hid (numbersR rwid s = [n0, n1, n2, n3, n4, n5, n6])) (hw : Hid (∀ x ∈ numbersR rwid s, 0 ≤ x ∧ x < 4294967296)) (w : World)
    (hsame : Hid (∀ w, Calls Tryd.prog 51 #[.agg #[.int .i64 n0, .int .i64 n1, .int .i64 n2, .int .i64 (n3 - 1), .int .i64 n4, .int .i64 n5, .int .i64 (n6 - 32768)], .func (.func 15) #[] #[], .string s] w fun e w' => ∃ v, e = .returned (.tuple #[.agg #[.int .i64 0, .int .i64 0, .int .i64 0, .int .i64 0, .int .i64 0, .int .i64 0, .int .i64 0], v]) ∧ ErrC w.heap.size w' v 2 ∧ Below w.heap.size w w')) :
    Calls Tryd.prog 18 #[.string s] w fun e w' => ∃ v, e = .returned (.tuple #[.agg #[.int .i64 0, .int .i64 0, .int .i64 0, .int .i64 0, .int .i64 0, .int .i64 0, .int .i64 0], v]) ∧ ErrC w.heap.size w' v 2 ∧ Below w.heap.size w w' := by
  have b3 := hw.out n3 (by rw [hn.out]; simp)
  have b6 := hw.out n6 (by rw [hn.out]; simp)
  have e1 : IntKind.i64.wrap (n3 - 1) = n3 - 1 := IntWalk.i64_in _ (by omega)
  have e2 : IntKind.i64.wrap (n6 - 32768) = n6 - 32768 := IntWalk.i64_in _ (by omega)
  have HS := Lib.hid hs
  clear hs
  have HB0 : Hid (Below w.heap.size w (w.alloc (.cells #[.int .i64 0, .int .i64 0, .int .i64 0, .int .i64 0, .int .i64 0, .int .i64 0, .int .i64 0] 30))) := Lib.hid ((Below.refl _ _).alloc (Nat.le_refl _) _)
  go_enter Tryd.func18, Tryd.ntmps18
  go_wp2_with fail
  refine (rwid_any _).mono ?_
  rintro e w1 ⟨A, c, rfl, hi, hb⟩
  have HI1 := Lib.hid hi
  have HB1 := Lib.hid hb
  clear hi hb
  go_wp2_with fail
  refine (numbers_rwid A c s _ HI1.out HS.out).mono ?_
  rintro e w2 ⟨b, d, rfl, hg, hi, hb⟩
  rw [hn.out] at hi
  obtain ⟨_, _, hbo, hq⟩ := hi.at (by simp)
  cases hbo
  have hbw : w.heap.size < b := Nat.lt_of_lt_of_le (Nat.lt_of_lt_of_le (by simp) HB1.out.size) hg
  have HG := Lib.hid hbw
  clear hg hbw
  have q0 : w2.cell? ⟨b, 0, none⟩ = some (.int .i64 n0) := hq 0 (by simp)
  have q1 : w2.cell? ⟨b, 1, none⟩ = some (.int .i64 n1) := hq 1 (by simp)
  have q2 : w2.cell? ⟨b, 2, none⟩ = some (.int .i64 n2) := hq 2 (by simp)
  have q3 : w2.cell? ⟨b, 3, none⟩ = some (.int .i64 n3) := hq 3 (by simp)
  have q4 : w2.cell? ⟨b, 4, none⟩ = some (.int .i64 n4) := hq 4 (by simp)
  have q5 : w2.cell? ⟨b, 5, none⟩ = some (.int .i64 n5) := hq 5 (by simp)
  have q6 : w2.cell? ⟨b, 6, none⟩ = some (.int .i64 n6) := hq 6 (by simp)
  have HB2 := Lib.hid (show Below (w.alloc (.cells #[.int .i64 0, .int .i64 0, .int .i64 0, .int .i64 0, .int .i64 0, .int .i64 0, .int .i64 0] 30)).heap.size (w.alloc (.cells #[.int .i64 0, .int .i64 0, .int .i64 0, .int .i64 0, .int .i64 0, .int .i64 0, .int .i64 0] 30)) w2 from bstep HB1.out hb)
  have HBw := Lib.hid (show Below w.heap.size w w2 from HB0.out.trans (HB2.out.mono (by simp)))
  have HTh : Hid (w2.there w.heap.size 0 7) := Lib.hid (there_under HB2.out (by simp) (there_last _ _ _ _ (by simp) rfl))
  have HL : Hid (w.heap.size < w2.heap.size) := Lib.hid (Nat.lt_of_lt_of_le (by simp) HB2.out.size)
  clear hi hb hq
  have Q0 := Lib.hid q0
  have Q1 := Lib.hid q1
  have Q2 := Lib.hid q2
  have Q3 := Lib.hid q3
  have Q4 := Lib.hid q4
  have Q5 := Lib.hid q5
  have Q6 := Lib.hid q6
  have hbl : b < w2.heap.size := cell_lt q0
  have HBl := Lib.hid hbl
  have hS0 : (w2.drew).cell? ⟨b, 0, none⟩ = some (.int .i64 n0) ∧ (w2.drew).cell? ⟨b, 1, none⟩ = some (.int .i64 n1) ∧ (w2.drew).cell? ⟨b, 2, none⟩ = some (.int .i64 n2) ∧ (w2.drew).cell? ⟨b, 3, none⟩ = some (.int .i64 n3) ∧ (w2.drew).cell? ⟨b, 4, none⟩ = some (.int .i64 n4) ∧ (w2.drew).cell? ⟨b, 5, none⟩ = some (.int .i64 n5) ∧ (w2.drew).cell? ⟨b, 6, none⟩ = some (.int .i64 n6) := ⟨q0, q1, q2, q3, q4, q5, q6⟩
  clear q0 q1 q2 q3 q4 q5 q6 hbl
  go_wp2_with fail
  refine wp_region_held_drew (S := fun w' => (w').cell? ⟨b, 0, none⟩ = some (.int .i64 n0) ∧ (w').cell? ⟨b, 1, none⟩ = some (.int .i64 n1) ∧ (w').cell? ⟨b, 2, none⟩ = some (.int .i64 n2) ∧ (w').cell? ⟨b, 3, none⟩ = some (.int .i64 n3) ∧ (w').cell? ⟨b, 4, none⟩ = some (.int .i64 n4) ∧ (w').cell? ⟨b, 5, none⟩ = some (.int .i64 n5) ∧ (w').cell? ⟨b, 6, none⟩ = some (.int .i64 n6)) (by kernel_rfl) ?_ (fun hHeld => ?_)
  · exact hS0
  refine wpAnyH_take (i := 0) (oi := { dst := Option.some 8, op := Go.Op.move (Go.Operand.tmp 4), type := 93, pos := "rec.go:100", after := #[], guard := Option.none }) (v := ?_) rfl (by kernel_rfl) (by kernel_rfl) (by kernel_rfl) (fun _ _ _ h => h) (Or.inl ⟨by rfl, ?_⟩) (by assumption) ?_
  rotate_left
  · intro w hSw; (try dsimp only at hSw); go_simp; (try with_reducible rfl)
  simp only [Act.put, List.setIfInBounds_toArray, List.set_cons_zero, List.set_cons_succ]
  refine wpAnyH_take (i := 1) (oi := { dst := Option.some 9, op := Go.Op.indexAddr 93 (Go.Operand.tmp 8) (Go.Operand.const (Go.Value.int Go.IntKind.i64 0)), type := 0, pos := "rec.go:100", after := #[{ on := 0, ground := Go.Ground.data }], guard := Option.none }) (v := ?_) rfl (by kernel_rfl) (by kernel_rfl) (by kernel_rfl) (fun _ _ _ h => h) (Or.inl ⟨by rfl, ?_⟩) (by assumption) ?_
  rotate_left
  · intro w hSw; (try dsimp only at hSw); go_simp; (try with_reducible rfl)
  simp only [Act.put, List.setIfInBounds_toArray, List.set_cons_zero, List.set_cons_succ]
  refine wpAnyH_take (i := 2) (oi := { dst := Option.some 10, op := Go.Op.load 3 (Go.Operand.tmp 9), type := 3, pos := "rec.go:100", after := #[{ on := 1, ground := Go.Ground.data }], guard := Option.none }) (v := ?_) rfl (by kernel_rfl) (by kernel_rfl) (by kernel_rfl) (fun _ _ _ h => h) (Or.inl ⟨by rfl, ?_⟩) (by assumption) ?_
  rotate_left
  · intro w hSw; (try dsimp only at hSw); go_simp; (try with_reducible rfl)
  simp only [Act.put, List.setIfInBounds_toArray, List.set_cons_zero, List.set_cons_succ]
  refine wpAnyH_take (i := 3) (oi := { dst := Option.some 11, op := Go.Op.move (Go.Operand.tmp 4), type := 93, pos := "rec.go:100", after := #[], guard := Option.none }) (v := ?_) rfl (by kernel_rfl) (by kernel_rfl) (by kernel_rfl) (fun _ _ _ h => h) (Or.inl ⟨by rfl, ?_⟩) (by assumption) ?_
  rotate_left
  · intro w hSw; (try dsimp only at hSw); go_simp; (try with_reducible rfl)
  simp only [Act.put, List.setIfInBounds_toArray, List.set_cons_zero, List.set_cons_succ]
  refine wpAnyH_take (i := 4) (oi := { dst := Option.some 12, op := Go.Op.indexAddr 93 (Go.Operand.tmp 11) (Go.Operand.const (Go.Value.int Go.IntKind.i64 1)), type := 0, pos := "rec.go:100", after := #[{ on := 3, ground := Go.Ground.data }], guard := Option.none }) (v := ?_) rfl (by kernel_rfl) (by kernel_rfl) (by kernel_rfl) (fun _ _ _ h => h) (Or.inl ⟨by rfl, ?_⟩) (by assumption) ?_
  rotate_left
  · intro w hSw; (try dsimp only at hSw); go_simp; (try with_reducible rfl)
  simp only [Act.put, List.setIfInBounds_toArray, List.set_cons_zero, List.set_cons_succ]
  refine wpAnyH_take (i := 5) (oi := { dst := Option.some 13, op := Go.Op.load 3 (Go.Operand.tmp 12), type := 3, pos := "rec.go:100", after := #[{ on := 4, ground := Go.Ground.data }], guard := Option.none }) (v := ?_) rfl (by kernel_rfl) (by kernel_rfl) (by kernel_rfl) (fun _ _ _ h => h) (Or.inl ⟨by rfl, ?_⟩) (by assumption) ?_
  rotate_left
  · intro w hSw; (try dsimp only at hSw); go_simp; (try with_reducible rfl)
  simp only [Act.put, List.setIfInBounds_toArray, List.set_cons_zero, List.set_cons_succ]
  refine wpAnyH_take (i := 6) (oi := { dst := Option.some 14, op := Go.Op.move (Go.Operand.tmp 4), type := 93, pos := "rec.go:100", after := #[], guard := Option.none }) (v := ?_) rfl (by kernel_rfl) (by kernel_rfl) (by kernel_rfl) (fun _ _ _ h => h) (Or.inl ⟨by rfl, ?_⟩) (by assumption) ?_
  rotate_left
  · intro w hSw; (try dsimp only at hSw); go_simp; (try with_reducible rfl)
  simp only [Act.put, List.setIfInBounds_toArray, List.set_cons_zero, List.set_cons_succ]
  refine wpAnyH_take (i := 7) (oi := { dst := Option.some 15, op := Go.Op.indexAddr 93 (Go.Operand.tmp 14) (Go.Operand.const (Go.Value.int Go.IntKind.i64 2)), type := 0, pos := "rec.go:100", after := #[{ on := 6, ground := Go.Ground.data }], guard := Option.none }) (v := ?_) rfl (by kernel_rfl) (by kernel_rfl) (by kernel_rfl) (fun _ _ _ h => h) (Or.inl ⟨by rfl, ?_⟩) (by assumption) ?_
  rotate_left
  · intro w hSw; (try dsimp only at hSw); go_simp; (try with_reducible rfl)
  simp only [Act.put, List.setIfInBounds_toArray, List.set_cons_zero, List.set_cons_succ]
  refine wpAnyH_take (i := 8) (oi := { dst := Option.some 16, op := Go.Op.load 3 (Go.Operand.tmp 15), type := 3, pos := "rec.go:100", after := #[{ on := 7, ground := Go.Ground.data }], guard := Option.none }) (v := ?_) rfl (by kernel_rfl) (by kernel_rfl) (by kernel_rfl) (fun _ _ _ h => h) (Or.inl ⟨by rfl, ?_⟩) (by assumption) ?_
  rotate_left
  · intro w hSw; (try dsimp only at hSw); go_simp; (try with_reducible rfl)
  simp only [Act.put, List.setIfInBounds_toArray, List.set_cons_zero, List.set_cons_succ]
  refine wpAnyH_take (i := 9) (oi := { dst := Option.some 17, op := Go.Op.move (Go.Operand.tmp 4), type := 93, pos := "rec.go:100", after := #[], guard := Option.none }) (v := ?_) rfl (by kernel_rfl) (by kernel_rfl) (by kernel_rfl) (fun _ _ _ h => h) (Or.inl ⟨by rfl, ?_⟩) (by assumption) ?_
  rotate_left
  · intro w hSw; (try dsimp only at hSw); go_simp; (try with_reducible rfl)
  simp only [Act.put, List.setIfInBounds_toArray, List.set_cons_zero, List.set_cons_succ]
  refine wpAnyH_take (i := 10) (oi := { dst := Option.some 18, op := Go.Op.indexAddr 93 (Go.Operand.tmp 17) (Go.Operand.const (Go.Value.int Go.IntKind.i64 3)), type := 0, pos := "rec.go:100", after := #[{ on := 9, ground := Go.Ground.data }], guard := Option.none }) (v := ?_) rfl (by kernel_rfl) (by kernel_rfl) (by kernel_rfl) (fun _ _ _ h => h) (Or.inl ⟨by rfl, ?_⟩) (by assumption) ?_
  rotate_left
  · intro w hSw; (try dsimp only at hSw); go_simp; (try with_reducible rfl)
  simp only [Act.put, List.setIfInBounds_toArray, List.set_cons_zero, List.set_cons_succ]
  refine wpAnyH_take (i := 11) (oi := { dst := Option.some 19, op := Go.Op.load 3 (Go.Operand.tmp 18), type := 3, pos := "rec.go:100", after := #[{ on := 10, ground := Go.Ground.data }], guard := Option.none }) (v := ?_) rfl (by kernel_rfl) (by kernel_rfl) (by kernel_rfl) (fun _ _ _ h => h) (Or.inl ⟨by rfl, ?_⟩) (by assumption) ?_
  rotate_left
  · intro w hSw; (try dsimp only at hSw); go_simp; (try with_reducible rfl)
  simp only [Act.put, List.setIfInBounds_toArray, List.set_cons_zero, List.set_cons_succ]
  refine wpAnyH_take (i := 12) (oi := { dst := Option.some 20, op := Go.Op.binOp Go.BinOp.sub 3 (Go.Operand.tmp 19) (Go.Operand.const (Go.Value.int Go.IntKind.i64 1)) 3, type := 3, pos := "rec.go:100", after := #[{ on := 11, ground := Go.Ground.data }], guard := Option.none }) (v := ?_) rfl (by kernel_rfl) (by kernel_rfl) (by kernel_rfl) (fun _ _ _ h => h) (Or.inl ⟨by rfl, ?_⟩) (by assumption) ?_
  rotate_left
  · intro w hSw; (try dsimp only at hSw); go_simp; (try with_reducible rfl)
  simp only [Act.put, List.setIfInBounds_toArray, List.set_cons_zero, List.set_cons_succ]
  refine wpAnyH_take (i := 13) (oi := { dst := Option.some 21, op := Go.Op.move (Go.Operand.tmp 4), type := 93, pos := "rec.go:100", after := #[], guard := Option.none }) (v := ?_) rfl (by kernel_rfl) (by kernel_rfl) (by kernel_rfl) (fun _ _ _ h => h) (Or.inl ⟨by rfl, ?_⟩) (by assumption) ?_
  rotate_left
  · intro w hSw; (try dsimp only at hSw); go_simp; (try with_reducible rfl)
  simp only [Act.put, List.setIfInBounds_toArray, List.set_cons_zero, List.set_cons_succ]
  refine wpAnyH_take (i := 14) (oi := { dst := Option.some 22, op := Go.Op.indexAddr 93 (Go.Operand.tmp 21) (Go.Operand.const (Go.Value.int Go.IntKind.i64 4)), type := 0, pos := "rec.go:100", after := #[{ on := 13, ground := Go.Ground.data }], guard := Option.none }) (v := ?_) rfl (by kernel_rfl) (by kernel_rfl) (by kernel_rfl) (fun _ _ _ h => h) (Or.inl ⟨by rfl, ?_⟩) (by assumption) ?_
  rotate_left
  · intro w hSw; (try dsimp only at hSw); go_simp; (try with_reducible rfl)
  simp only [Act.put, List.setIfInBounds_toArray, List.set_cons_zero, List.set_cons_succ]
  refine wpAnyH_take (i := 15) (oi := { dst := Option.some 23, op := Go.Op.load 3 (Go.Operand.tmp 22), type := 3, pos := "rec.go:100", after := #[{ on := 14, ground := Go.Ground.data }], guard := Option.none }) (v := ?_) rfl (by kernel_rfl) (by kernel_rfl) (by kernel_rfl) (fun _ _ _ h => h) (Or.inl ⟨by rfl, ?_⟩) (by assumption) ?_
  rotate_left
  · intro w hSw; (try dsimp only at hSw); go_simp; (try with_reducible rfl)
  simp only [Act.put, List.setIfInBounds_toArray, List.set_cons_zero, List.set_cons_succ]
  refine wpAnyH_take (i := 16) (oi := { dst := Option.some 24, op := Go.Op.move (Go.Operand.tmp 4), type := 93, pos := "rec.go:100", after := #[], guard := Option.none }) (v := ?_) rfl (by kernel_rfl) (by kernel_rfl) (by kernel_rfl) (fun _ _ _ h => h) (Or.inl ⟨by rfl, ?_⟩) (by assumption) ?_
  rotate_left
  · intro w hSw; (try dsimp only at hSw); go_simp; (try with_reducible rfl)
  simp only [Act.put, List.setIfInBounds_toArray, List.set_cons_zero, List.set_cons_succ]
  refine wpAnyH_take (i := 17) (oi := { dst := Option.some 25, op := Go.Op.indexAddr 93 (Go.Operand.tmp 24) (Go.Operand.const (Go.Value.int Go.IntKind.i64 5)), type := 0, pos := "rec.go:100", after := #[{ on := 16, ground := Go.Ground.data }], guard := Option.none }) (v := ?_) rfl (by kernel_rfl) (by kernel_rfl) (by kernel_rfl) (fun _ _ _ h => h) (Or.inl ⟨by rfl, ?_⟩) (by assumption) ?_
  rotate_left
  · intro w hSw; (try dsimp only at hSw); go_simp; (try with_reducible rfl)
  simp only [Act.put, List.setIfInBounds_toArray, List.set_cons_zero, List.set_cons_succ]
  refine wpAnyH_take (i := 18) (oi := { dst := Option.some 26, op := Go.Op.load 3 (Go.Operand.tmp 25), type := 3, pos := "rec.go:100", after := #[{ on := 17, ground := Go.Ground.data }], guard := Option.none }) (v := ?_) rfl (by kernel_rfl) (by kernel_rfl) (by kernel_rfl) (fun _ _ _ h => h) (Or.inl ⟨by rfl, ?_⟩) (by assumption) ?_
  rotate_left
  · intro w hSw; (try dsimp only at hSw); go_simp; (try with_reducible rfl)
  simp only [Act.put, List.setIfInBounds_toArray, List.set_cons_zero, List.set_cons_succ]
  refine wpAnyH_take (i := 19) (oi := { dst := Option.some 27, op := Go.Op.move (Go.Operand.tmp 4), type := 93, pos := "rec.go:100", after := #[], guard := Option.none }) (v := ?_) rfl (by kernel_rfl) (by kernel_rfl) (by kernel_rfl) (fun _ _ _ h => h) (Or.inl ⟨by rfl, ?_⟩) (by assumption) ?_
  rotate_left
  · intro w hSw; (try dsimp only at hSw); go_simp; (try with_reducible rfl)
  simp only [Act.put, List.setIfInBounds_toArray, List.set_cons_zero, List.set_cons_succ]
  refine wpAnyH_take (i := 20) (oi := { dst := Option.some 28, op := Go.Op.indexAddr 93 (Go.Operand.tmp 27) (Go.Operand.const (Go.Value.int Go.IntKind.i64 6)), type := 0, pos := "rec.go:100", after := #[{ on := 19, ground := Go.Ground.data }], guard := Option.none }) (v := ?_) rfl (by kernel_rfl) (by kernel_rfl) (by kernel_rfl) (fun _ _ _ h => h) (Or.inl ⟨by rfl, ?_⟩) (by assumption) ?_
  rotate_left
  · intro w hSw; (try dsimp only at hSw); go_simp; (try with_reducible rfl)
  simp only [Act.put, List.setIfInBounds_toArray, List.set_cons_zero, List.set_cons_succ]
  refine wpAnyH_take (i := 21) (oi := { dst := Option.some 29, op := Go.Op.load 3 (Go.Operand.tmp 28), type := 3, pos := "rec.go:100", after := #[{ on := 20, ground := Go.Ground.data }], guard := Option.none }) (v := ?_) rfl (by kernel_rfl) (by kernel_rfl) (by kernel_rfl) (fun _ _ _ h => h) (Or.inl ⟨by rfl, ?_⟩) (by assumption) ?_
  rotate_left
  · intro w hSw; (try dsimp only at hSw); go_simp; (try with_reducible rfl)
  simp only [Act.put, List.setIfInBounds_toArray, List.set_cons_zero, List.set_cons_succ]
  refine wpAnyH_take (i := 22) (oi := { dst := Option.some 30, op := Go.Op.binOp Go.BinOp.sub 3 (Go.Operand.tmp 29) (Go.Operand.const (Go.Value.int Go.IntKind.i64 32768)) 3, type := 3, pos := "rec.go:100", after := #[{ on := 21, ground := Go.Ground.data }], guard := Option.none }) (v := ?_) rfl (by kernel_rfl) (by kernel_rfl) (by kernel_rfl) (fun _ _ _ h => h) (Or.inl ⟨by rfl, ?_⟩) (by assumption) ?_
  rotate_left
  · intro w hSw; (try dsimp only at hSw); go_simp; (try with_reducible rfl)
  simp only [Act.put, List.setIfInBounds_toArray, List.set_cons_zero, List.set_cons_succ]
  refine wpAnyH_take (i := 23) (oi := { dst := Option.some 31, op := Go.Op.build 30 #[(0, Go.Operand.tmp 10), (1, Go.Operand.tmp 13), (2, Go.Operand.tmp 16), (3, Go.Operand.tmp 20), (4, Go.Operand.tmp 23), (5, Go.Operand.tmp 26), (6, Go.Operand.tmp 30)], type := 30, pos := "rec.go:100", after := #[{ on := 2, ground := Go.Ground.data }, { on := 5, ground := Go.Ground.data }, { on := 8, ground := Go.Ground.data }, { on := 12, ground := Go.Ground.data }, { on := 15, ground := Go.Ground.data }, { on := 18, ground := Go.Ground.data }, { on := 22, ground := Go.Ground.data }], guard := Option.none }) (v := ?_) rfl (by kernel_rfl) (by kernel_rfl) (by kernel_rfl) (fun _ _ _ h => h) (Or.inl ⟨by rfl, ?_⟩) (by assumption) ?_
  rotate_left
  · intro w hSw; (try dsimp only at hSw); go_simp; (try with_reducible rfl)
  simp only [Act.put, List.setIfInBounds_toArray, List.set_cons_zero, List.set_cons_succ]
  refine wpAnyH_take (i := 24) (oi := { dst := Option.some 32, op := Go.Op.move (Go.Operand.tmp 0), type := 9, pos := "rec.go:100", after := #[], guard := Option.none }) (v := ?_) rfl (by kernel_rfl) (by kernel_rfl) (by kernel_rfl) (fun _ _ _ h => h) (Or.inl ⟨by rfl, ?_⟩) (by assumption) ?_
  rotate_left
  · intro w hSw; (try dsimp only at hSw); go_simp; (try with_reducible rfl)
  simp only [Act.put, List.setIfInBounds_toArray, List.set_cons_zero, List.set_cons_succ]
  refine wpAnyH_ready (rs := [25]) (by kernel_rfl) (by simp) ?_
  refine AllReadyH.cons (o := { dst := Option.some 33, op := Go.Op.call { callee := Go.Callee.value (Go.Operand.func 51), args := #[Go.Operand.tmp 31, Go.Operand.func 15, Go.Operand.tmp 32], argTypes := #[30, 29, 9] }, type := 34, pos := "rec.go:100", after := #[{ on := 23, ground := Go.Ground.data }, { on := 24, ground := Go.Ground.data }], guard := Option.none }) rfl (fun K hK => ?_) AllReadyH.nil
  go_simp
  refine (hsame.out _).mono ?_
  rintro e wn ⟨v, rfl, he, hb⟩
  have HE := Lib.hid he
  clear he
  have hKn : (wn).cell? ⟨b, 0, none⟩ = some (.int .i64 n0) ∧ (wn).cell? ⟨b, 1, none⟩ = some (.int .i64 n1) ∧ (wn).cell? ⟨b, 2, none⟩ = some (.int .i64 n2) ∧ (wn).cell? ⟨b, 3, none⟩ = some (.int .i64 n3) ∧ (wn).cell? ⟨b, 4, none⟩ = some (.int .i64 n4) ∧ (wn).cell? ⟨b, 5, none⟩ = some (.int .i64 n5) ∧ (wn).cell? ⟨b, 6, none⟩ = some (.int .i64 n6) := ⟨(hb.cell (p := ⟨b, 0, none⟩) HBl.out).trans Q0.out, (hb.cell (p := ⟨b, 1, none⟩) HBl.out).trans Q1.out, (hb.cell (p := ⟨b, 2, none⟩) HBl.out).trans Q2.out, (hb.cell (p := ⟨b, 3, none⟩) HBl.out).trans Q3.out, (hb.cell (p := ⟨b, 4, none⟩) HBl.out).trans Q4.out, (hb.cell (p := ⟨b, 5, none⟩) HBl.out).trans Q5.out, (hb.cell (p := ⟨b, 6, none⟩) HBl.out).trans Q6.out⟩
  have HBn := Lib.hid (show Below w.heap.size w wn from HBw.out.trans (((Below.drew (Below.refl _ _)).trans hb).mono HBw.out.size))
  have HTn : Hid (wn.there w.heap.size 0 7) := Lib.hid (there_under hb HL.out HTh.out)
  clear hb
  go_wp2_with fail
  refine hK.out _ _ hKn (fun hHeld2 => ?_)
  clear hK K
  try simp only [Act.put, List.setIfInBounds_toArray, List.set_cons_zero, List.set_cons_succ]
  refine wpAnyH_take (i := 26) (oi := { dst := Option.some 34, op := Go.Op.extract (Go.Operand.tmp 33) 0, type := 30, pos := "rec.go:100", after := #[{ on := 25, ground := Go.Ground.data }], guard := Option.none }) (v := ?_) rfl (by kernel_rfl) (by kernel_rfl) (by kernel_rfl) (fun _ _ _ h => h) (Or.inl ⟨by rfl, ?_⟩) (by assumption) ?_
  rotate_left
  · intro w hSw; (try dsimp only at hSw); go_simp; (try with_reducible rfl)
  simp only [Act.put, List.setIfInBounds_toArray, List.set_cons_zero, List.set_cons_succ]
  refine wpAnyH_take (i := 27) (oi := { dst := Option.some 35, op := Go.Op.extract (Go.Operand.tmp 33) 1, type := 27, pos := "rec.go:100", after := #[{ on := 25, ground := Go.Ground.data }], guard := Option.none }) (v := ?_) rfl (by kernel_rfl) (by kernel_rfl) (by kernel_rfl) (fun _ _ _ h => h) (Or.inl ⟨by rfl, ?_⟩) (by assumption) ?_
  rotate_left
  · intro w hSw; (try dsimp only at hSw); go_simp; (try with_reducible rfl)
  simp only [Act.put, List.setIfInBounds_toArray, List.set_cons_zero, List.set_cons_succ]
  refine wpAnyH_ready (rs := [28]) (by kernel_rfl) (by simp) ?_
  refine AllReadyH.cons (o := { dst := Option.none, op := Go.Op.store 30 (Go.Operand.tmp 2) (Go.Operand.tmp 34), type := 0, pos := "rec.go:100", after := #[{ on := 26, ground := Go.Ground.data }, { on := 25, ground := Go.Ground.chain }, { on := 0, ground := Go.Ground.phase }, { on := 1, ground := Go.Ground.phase }, { on := 2, ground := Go.Ground.phase }, { on := 3, ground := Go.Ground.phase }, { on := 4, ground := Go.Ground.phase }, { on := 5, ground := Go.Ground.phase }, { on := 6, ground := Go.Ground.phase }, { on := 7, ground := Go.Ground.phase }, { on := 8, ground := Go.Ground.phase }, { on := 9, ground := Go.Ground.phase }, { on := 10, ground := Go.Ground.phase }, { on := 11, ground := Go.Ground.phase }, { on := 12, ground := Go.Ground.phase }, { on := 13, ground := Go.Ground.phase }, { on := 14, ground := Go.Ground.phase }, { on := 15, ground := Go.Ground.phase }, { on := 16, ground := Go.Ground.phase }, { on := 17, ground := Go.Ground.phase }, { on := 18, ground := Go.Ground.phase }, { on := 19, ground := Go.Ground.phase }, { on := 20, ground := Go.Ground.phase }, { on := 21, ground := Go.Ground.phase }, { on := 22, ground := Go.Ground.phase }, { on := 23, ground := Go.Ground.phase }, { on := 24, ground := Go.Ground.phase }, { on := 25, ground := Go.Ground.phase }, { on := 26, ground := Go.Ground.phase }, { on := 27, ground := Go.Ground.phase }], guard := Option.none }) rfl (fun K hK => ?_) AllReadyH.nil
  refine wp_store_mid 30 _ _ rfl w.heap.size 0 #[.int .i64 0, .int .i64 0, .int .i64 0, .int .i64 0, .int .i64 0, .int .i64 0, .int .i64 0] rfl rfl HTn.out (by kernel_rfl) (by simp [Value.oneCell']) ?_
  dsimp only [Array.toList]
  have hS3 : ((wn.setCells w.heap.size 0 [.int .i64 0, .int .i64 0, .int .i64 0, .int .i64 0, .int .i64 0, .int .i64 0, .int .i64 0])).cell? ⟨b, 0, none⟩ = some (.int .i64 n0) ∧ ((wn.setCells w.heap.size 0 [.int .i64 0, .int .i64 0, .int .i64 0, .int .i64 0, .int .i64 0, .int .i64 0, .int .i64 0])).cell? ⟨b, 1, none⟩ = some (.int .i64 n1) ∧ ((wn.setCells w.heap.size 0 [.int .i64 0, .int .i64 0, .int .i64 0, .int .i64 0, .int .i64 0, .int .i64 0, .int .i64 0])).cell? ⟨b, 2, none⟩ = some (.int .i64 n2) ∧ ((wn.setCells w.heap.size 0 [.int .i64 0, .int .i64 0, .int .i64 0, .int .i64 0, .int .i64 0, .int .i64 0, .int .i64 0])).cell? ⟨b, 3, none⟩ = some (.int .i64 n3) ∧ ((wn.setCells w.heap.size 0 [.int .i64 0, .int .i64 0, .int .i64 0, .int .i64 0, .int .i64 0, .int .i64 0, .int .i64 0])).cell? ⟨b, 4, none⟩ = some (.int .i64 n4) ∧ ((wn.setCells w.heap.size 0 [.int .i64 0, .int .i64 0, .int .i64 0, .int .i64 0, .int .i64 0, .int .i64 0, .int .i64 0])).cell? ⟨b, 5, none⟩ = some (.int .i64 n5) ∧ ((wn.setCells w.heap.size 0 [.int .i64 0, .int .i64 0, .int .i64 0, .int .i64 0, .int .i64 0, .int .i64 0, .int .i64 0])).cell? ⟨b, 6, none⟩ = some (.int .i64 n6) := ⟨(set_other _ _ _ _ _ _ (by have := HG.out; omega)).trans hKn.1, (set_other _ _ _ _ _ _ (by have := HG.out; omega)).trans hKn.2.1, (set_other _ _ _ _ _ _ (by have := HG.out; omega)).trans hKn.2.2.1, (set_other _ _ _ _ _ _ (by have := HG.out; omega)).trans hKn.2.2.2.1, (set_other _ _ _ _ _ _ (by have := HG.out; omega)).trans hKn.2.2.2.2.1, (set_other _ _ _ _ _ _ (by have := HG.out; omega)).trans hKn.2.2.2.2.2.1, (set_other _ _ _ _ _ _ (by have := HG.out; omega)).trans hKn.2.2.2.2.2.2⟩
  refine hK.out _ _ hS3 (fun hHeld3 => ?_)
  clear hK K
  try simp only [Act.put, List.setIfInBounds_toArray, List.set_cons_zero, List.set_cons_succ]
  refine wpAnyH_take (i := 29) (oi := { dst := Option.some 3, op := Go.Op.assign (Go.Operand.tmp 35), type := 27, pos := "rec.go:100", after := #[{ on := 27, ground := Go.Ground.data }, { on := 28, ground := Go.Ground.chain }, { on := 0, ground := Go.Ground.phase }, { on := 1, ground := Go.Ground.phase }, { on := 2, ground := Go.Ground.phase }, { on := 3, ground := Go.Ground.phase }, { on := 4, ground := Go.Ground.phase }, { on := 5, ground := Go.Ground.phase }, { on := 6, ground := Go.Ground.phase }, { on := 7, ground := Go.Ground.phase }, { on := 8, ground := Go.Ground.phase }, { on := 9, ground := Go.Ground.phase }, { on := 10, ground := Go.Ground.phase }, { on := 11, ground := Go.Ground.phase }, { on := 12, ground := Go.Ground.phase }, { on := 13, ground := Go.Ground.phase }, { on := 14, ground := Go.Ground.phase }, { on := 15, ground := Go.Ground.phase }, { on := 16, ground := Go.Ground.phase }, { on := 17, ground := Go.Ground.phase }, { on := 18, ground := Go.Ground.phase }, { on := 19, ground := Go.Ground.phase }, { on := 20, ground := Go.Ground.phase }, { on := 21, ground := Go.Ground.phase }, { on := 22, ground := Go.Ground.phase }, { on := 23, ground := Go.Ground.phase }, { on := 24, ground := Go.Ground.phase }, { on := 25, ground := Go.Ground.phase }, { on := 26, ground := Go.Ground.phase }, { on := 27, ground := Go.Ground.phase }, { on := 28, ground := Go.Ground.phase }], guard := Option.none }) (v := ?_) rfl (by kernel_rfl) (by kernel_rfl) (by kernel_rfl) (fun _ _ _ h => h) (Or.inl ⟨by rfl, ?_⟩) (by assumption) ?_
  rotate_left
  · intro w hSw; (try dsimp only at hSw); go_simp; (try with_reducible rfl)
  simp only [Act.put, List.setIfInBounds_toArray, List.set_cons_zero, List.set_cons_succ]
  refine wpAnyH_done (by kernel_rfl) ?_ _
  go_wp2_with fail
  have hld := run_loadVar_mid (P := Tryd.prog) (wn.setCells w.heap.size 0 [.int .i64 0, .int .i64 0, .int .i64 0, .int .i64 0, .int .i64 0, .int .i64 0, .int .i64 0]) w.heap.size 0 30 [.int .i64 0, .int .i64 0, .int .i64 0, .int .i64 0, .int .i64 0, .int .i64 0, .int .i64 0] _ (World.rangeAt_setCells_same wn _ _ _ HTn.out) Tryd.underlying30 rfl (by kernel_rfl)
  refine bodyPost_ret (v := .tuple #[.agg #[.int .i64 0, .int .i64 0, .int .i64 0, .int .i64 0, .int .i64 0, .int .i64 0, .int .i64 0], v]) (results_two Tryd.results18 _ _ _ _ _ rfl rfl hld) rfl ⟨_, rfl, ?_, ?_⟩
  · exact (err_set HE.out HL.out).mono HBw.out.size
  · exact HBn.out.trans (below_set _ _ _ _ _ (Nat.le_refl _))
set_option maxHeartbeats 4000000 in
set_option maxRecDepth 100000 in
theorem read_t_ok_ (n0 n1 n2 n3 n4 n5 : Int) (s : ByteArray) (hs : s.size ≤ 9223372036854775807) (hn : Hid (numbersR twid s = [n0, n1, n2, n3, n4, n5])) (hw : Hid (∀ x ∈ numbersR twid s, 0 ≤ x ∧ x < 4294967296)) (w : World)
    (hsame : Hid (∀ w, Calls Tryd.prog 55 #[.agg #[.int .i64 n0, .int .i64 n1, .int .i64 n2], .func (.func 20) #[] #[], .string s] w fun e w' => e = .returned (.tuple #[.agg #[.int .i64 n0, .int .i64 n1, .int .i64 n2], .nilIface]) ∧ Below w.heap.size w w')) :
    Calls Tryd.prog 22 #[.string s] w fun e w' => e = .returned (.tuple #[.agg #[.int .i64 n0, .int .i64 n1, .int .i64 n2], .nilIface]) ∧ Below w.heap.size w w' := by
  have HS := Lib.hid hs
  clear hs
  have HB0 : Hid (Below w.heap.size w (w.alloc (.cells #[.int .i64 0, .int .i64 0, .int .i64 0] 43))) := Lib.hid ((Below.refl _ _).alloc (Nat.le_refl _) _)
  go_enter Tryd.func22, Tryd.ntmps22
  go_wp2_with fail
  refine (twid_any _).mono ?_
  rintro e w1 ⟨A, c, rfl, hi, hb⟩
  have HI1 := Lib.hid hi
  have HB1 := Lib.hid hb
  clear hi hb
  go_wp2_with fail
  refine (numbers_twid A c s _ HI1.out HS.out).mono ?_
  rintro e w2 ⟨b, d, rfl, hg, hi, hb⟩
  rw [hn.out] at hi
  obtain ⟨_, _, hbo, hq⟩ := hi.at (by simp)
  cases hbo
  have hbw : w.heap.size < b := Nat.lt_of_lt_of_le (Nat.lt_of_lt_of_le (by simp) HB1.out.size) hg
  have HG := Lib.hid hbw
  clear hg hbw
  have q0 : w2.cell? ⟨b, 0, none⟩ = some (.int .i64 n0) := hq 0 (by simp)
  have q1 : w2.cell? ⟨b, 1, none⟩ = some (.int .i64 n1) := hq 1 (by simp)
  have q2 : w2.cell? ⟨b, 2, none⟩ = some (.int .i64 n2) := hq 2 (by simp)
  have HB2 := Lib.hid (show Below (w.alloc (.cells #[.int .i64 0, .int .i64 0, .int .i64 0] 43)).heap.size (w.alloc (.cells #[.int .i64 0, .int .i64 0, .int .i64 0] 43)) w2 from bstep HB1.out hb)
  have HBw := Lib.hid (show Below w.heap.size w w2 from HB0.out.trans (HB2.out.mono (by simp)))
  have HTh : Hid (w2.there w.heap.size 0 3) := Lib.hid (there_under HB2.out (by simp) (there_last _ _ _ _ (by simp) rfl))
  have HL : Hid (w.heap.size < w2.heap.size) := Lib.hid (Nat.lt_of_lt_of_le (by simp) HB2.out.size)
  clear hi hb hq
  have Q0 := Lib.hid q0
  have Q1 := Lib.hid q1
  have Q2 := Lib.hid q2
  have hbl : b < w2.heap.size := cell_lt q0
  have HBl := Lib.hid hbl
  have hS0 : (w2.drew).cell? ⟨b, 0, none⟩ = some (.int .i64 n0) ∧ (w2.drew).cell? ⟨b, 1, none⟩ = some (.int .i64 n1) ∧ (w2.drew).cell? ⟨b, 2, none⟩ = some (.int .i64 n2) := ⟨q0, q1, q2⟩
  clear q0 q1 q2 hbl
  go_wp2_with fail
  refine wp_region_held_drew (S := fun w' => (w').cell? ⟨b, 0, none⟩ = some (.int .i64 n0) ∧ (w').cell? ⟨b, 1, none⟩ = some (.int .i64 n1) ∧ (w').cell? ⟨b, 2, none⟩ = some (.int .i64 n2)) (by kernel_rfl) ?_ (fun hHeld => ?_)
  · exact hS0
  refine wpAnyH_take (i := 0) (oi := { dst := Option.some 8, op := Go.Op.move (Go.Operand.tmp 4), type := 93, pos := "rec.go:106", after := #[], guard := Option.none }) (v := ?_) rfl (by kernel_rfl) (by kernel_rfl) (by kernel_rfl) (fun _ _ _ h => h) (Or.inl ⟨by rfl, ?_⟩) (by assumption) ?_
  rotate_left
  · intro w hSw; (try dsimp only at hSw); go_simp; (try with_reducible rfl)
  simp only [Act.put, List.setIfInBounds_toArray, List.set_cons_zero, List.set_cons_succ]
  refine wpAnyH_take (i := 1) (oi := { dst := Option.some 9, op := Go.Op.indexAddr 93 (Go.Operand.tmp 8) (Go.Operand.const (Go.Value.int Go.IntKind.i64 0)), type := 0, pos := "rec.go:106", after := #[{ on := 0, ground := Go.Ground.data }], guard := Option.none }) (v := ?_) rfl (by kernel_rfl) (by kernel_rfl) (by kernel_rfl) (fun _ _ _ h => h) (Or.inl ⟨by rfl, ?_⟩) (by assumption) ?_
  rotate_left
  · intro w hSw; (try dsimp only at hSw); go_simp; (try with_reducible rfl)
  simp only [Act.put, List.setIfInBounds_toArray, List.set_cons_zero, List.set_cons_succ]
  refine wpAnyH_take (i := 2) (oi := { dst := Option.some 10, op := Go.Op.load 3 (Go.Operand.tmp 9), type := 3, pos := "rec.go:106", after := #[{ on := 1, ground := Go.Ground.data }], guard := Option.none }) (v := ?_) rfl (by kernel_rfl) (by kernel_rfl) (by kernel_rfl) (fun _ _ _ h => h) (Or.inl ⟨by rfl, ?_⟩) (by assumption) ?_
  rotate_left
  · intro w hSw; (try dsimp only at hSw); go_simp; (try with_reducible rfl)
  simp only [Act.put, List.setIfInBounds_toArray, List.set_cons_zero, List.set_cons_succ]
  refine wpAnyH_take (i := 3) (oi := { dst := Option.some 11, op := Go.Op.move (Go.Operand.tmp 4), type := 93, pos := "rec.go:106", after := #[], guard := Option.none }) (v := ?_) rfl (by kernel_rfl) (by kernel_rfl) (by kernel_rfl) (fun _ _ _ h => h) (Or.inl ⟨by rfl, ?_⟩) (by assumption) ?_
  rotate_left
  · intro w hSw; (try dsimp only at hSw); go_simp; (try with_reducible rfl)
  simp only [Act.put, List.setIfInBounds_toArray, List.set_cons_zero, List.set_cons_succ]
  refine wpAnyH_take (i := 4) (oi := { dst := Option.some 12, op := Go.Op.indexAddr 93 (Go.Operand.tmp 11) (Go.Operand.const (Go.Value.int Go.IntKind.i64 1)), type := 0, pos := "rec.go:106", after := #[{ on := 3, ground := Go.Ground.data }], guard := Option.none }) (v := ?_) rfl (by kernel_rfl) (by kernel_rfl) (by kernel_rfl) (fun _ _ _ h => h) (Or.inl ⟨by rfl, ?_⟩) (by assumption) ?_
  rotate_left
  · intro w hSw; (try dsimp only at hSw); go_simp; (try with_reducible rfl)
  simp only [Act.put, List.setIfInBounds_toArray, List.set_cons_zero, List.set_cons_succ]
  refine wpAnyH_take (i := 5) (oi := { dst := Option.some 13, op := Go.Op.load 3 (Go.Operand.tmp 12), type := 3, pos := "rec.go:106", after := #[{ on := 4, ground := Go.Ground.data }], guard := Option.none }) (v := ?_) rfl (by kernel_rfl) (by kernel_rfl) (by kernel_rfl) (fun _ _ _ h => h) (Or.inl ⟨by rfl, ?_⟩) (by assumption) ?_
  rotate_left
  · intro w hSw; (try dsimp only at hSw); go_simp; (try with_reducible rfl)
  simp only [Act.put, List.setIfInBounds_toArray, List.set_cons_zero, List.set_cons_succ]
  refine wpAnyH_take (i := 6) (oi := { dst := Option.some 14, op := Go.Op.move (Go.Operand.tmp 4), type := 93, pos := "rec.go:106", after := #[], guard := Option.none }) (v := ?_) rfl (by kernel_rfl) (by kernel_rfl) (by kernel_rfl) (fun _ _ _ h => h) (Or.inl ⟨by rfl, ?_⟩) (by assumption) ?_
  rotate_left
  · intro w hSw; (try dsimp only at hSw); go_simp; (try with_reducible rfl)
  simp only [Act.put, List.setIfInBounds_toArray, List.set_cons_zero, List.set_cons_succ]
  refine wpAnyH_take (i := 7) (oi := { dst := Option.some 15, op := Go.Op.indexAddr 93 (Go.Operand.tmp 14) (Go.Operand.const (Go.Value.int Go.IntKind.i64 2)), type := 0, pos := "rec.go:106", after := #[{ on := 6, ground := Go.Ground.data }], guard := Option.none }) (v := ?_) rfl (by kernel_rfl) (by kernel_rfl) (by kernel_rfl) (fun _ _ _ h => h) (Or.inl ⟨by rfl, ?_⟩) (by assumption) ?_
  rotate_left
  · intro w hSw; (try dsimp only at hSw); go_simp; (try with_reducible rfl)
  simp only [Act.put, List.setIfInBounds_toArray, List.set_cons_zero, List.set_cons_succ]
  refine wpAnyH_take (i := 8) (oi := { dst := Option.some 16, op := Go.Op.load 3 (Go.Operand.tmp 15), type := 3, pos := "rec.go:106", after := #[{ on := 7, ground := Go.Ground.data }], guard := Option.none }) (v := ?_) rfl (by kernel_rfl) (by kernel_rfl) (by kernel_rfl) (fun _ _ _ h => h) (Or.inl ⟨by rfl, ?_⟩) (by assumption) ?_
  rotate_left
  · intro w hSw; (try dsimp only at hSw); go_simp; (try with_reducible rfl)
  simp only [Act.put, List.setIfInBounds_toArray, List.set_cons_zero, List.set_cons_succ]
  refine wpAnyH_take (i := 9) (oi := { dst := Option.some 17, op := Go.Op.build 43 #[(0, Go.Operand.tmp 10), (1, Go.Operand.tmp 13), (2, Go.Operand.tmp 16)], type := 43, pos := "rec.go:106", after := #[{ on := 2, ground := Go.Ground.data }, { on := 5, ground := Go.Ground.data }, { on := 8, ground := Go.Ground.data }], guard := Option.none }) (v := ?_) rfl (by kernel_rfl) (by kernel_rfl) (by kernel_rfl) (fun _ _ _ h => h) (Or.inl ⟨by rfl, ?_⟩) (by assumption) ?_
  rotate_left
  · intro w hSw; (try dsimp only at hSw); go_simp; (try with_reducible rfl)
  simp only [Act.put, List.setIfInBounds_toArray, List.set_cons_zero, List.set_cons_succ]
  refine wpAnyH_take (i := 10) (oi := { dst := Option.some 18, op := Go.Op.move (Go.Operand.tmp 0), type := 9, pos := "rec.go:106", after := #[], guard := Option.none }) (v := ?_) rfl (by kernel_rfl) (by kernel_rfl) (by kernel_rfl) (fun _ _ _ h => h) (Or.inl ⟨by rfl, ?_⟩) (by assumption) ?_
  rotate_left
  · intro w hSw; (try dsimp only at hSw); go_simp; (try with_reducible rfl)
  simp only [Act.put, List.setIfInBounds_toArray, List.set_cons_zero, List.set_cons_succ]
  refine wpAnyH_ready (rs := [11]) (by kernel_rfl) (by simp) ?_
  refine AllReadyH.cons (o := { dst := Option.some 19, op := Go.Op.call { callee := Go.Callee.value (Go.Operand.func 55), args := #[Go.Operand.tmp 17, Go.Operand.func 20, Go.Operand.tmp 18], argTypes := #[43, 42, 9] }, type := 46, pos := "rec.go:106", after := #[{ on := 9, ground := Go.Ground.data }, { on := 10, ground := Go.Ground.data }], guard := Option.none }) rfl (fun K hK => ?_) AllReadyH.nil
  go_simp
  refine (hsame.out _).mono ?_
  rintro e wn ⟨rfl, hb⟩
  have hKn : (wn).cell? ⟨b, 0, none⟩ = some (.int .i64 n0) ∧ (wn).cell? ⟨b, 1, none⟩ = some (.int .i64 n1) ∧ (wn).cell? ⟨b, 2, none⟩ = some (.int .i64 n2) := ⟨(hb.cell (p := ⟨b, 0, none⟩) HBl.out).trans Q0.out, (hb.cell (p := ⟨b, 1, none⟩) HBl.out).trans Q1.out, (hb.cell (p := ⟨b, 2, none⟩) HBl.out).trans Q2.out⟩
  have HBn := Lib.hid (show Below w.heap.size w wn from HBw.out.trans (((Below.drew (Below.refl _ _)).trans hb).mono HBw.out.size))
  have HTn : Hid (wn.there w.heap.size 0 3) := Lib.hid (there_under hb HL.out HTh.out)
  clear hb
  go_wp2_with fail
  refine hK.out _ _ hKn (fun hHeld2 => ?_)
  clear hK K
  try simp only [Act.put, List.setIfInBounds_toArray, List.set_cons_zero, List.set_cons_succ]
  refine wpAnyH_take (i := 12) (oi := { dst := Option.some 20, op := Go.Op.extract (Go.Operand.tmp 19) 0, type := 43, pos := "rec.go:106", after := #[{ on := 11, ground := Go.Ground.data }], guard := Option.none }) (v := ?_) rfl (by kernel_rfl) (by kernel_rfl) (by kernel_rfl) (fun _ _ _ h => h) (Or.inl ⟨by rfl, ?_⟩) (by assumption) ?_
  rotate_left
  · intro w hSw; (try dsimp only at hSw); go_simp; (try with_reducible rfl)
  simp only [Act.put, List.setIfInBounds_toArray, List.set_cons_zero, List.set_cons_succ]
  refine wpAnyH_take (i := 13) (oi := { dst := Option.some 21, op := Go.Op.extract (Go.Operand.tmp 19) 1, type := 27, pos := "rec.go:106", after := #[{ on := 11, ground := Go.Ground.data }], guard := Option.none }) (v := ?_) rfl (by kernel_rfl) (by kernel_rfl) (by kernel_rfl) (fun _ _ _ h => h) (Or.inl ⟨by rfl, ?_⟩) (by assumption) ?_
  rotate_left
  · intro w hSw; (try dsimp only at hSw); go_simp; (try with_reducible rfl)
  simp only [Act.put, List.setIfInBounds_toArray, List.set_cons_zero, List.set_cons_succ]
  refine wpAnyH_ready (rs := [14]) (by kernel_rfl) (by simp) ?_
  refine AllReadyH.cons (o := { dst := Option.none, op := Go.Op.store 43 (Go.Operand.tmp 2) (Go.Operand.tmp 20), type := 0, pos := "rec.go:106", after := #[{ on := 12, ground := Go.Ground.data }, { on := 11, ground := Go.Ground.chain }, { on := 0, ground := Go.Ground.phase }, { on := 1, ground := Go.Ground.phase }, { on := 2, ground := Go.Ground.phase }, { on := 3, ground := Go.Ground.phase }, { on := 4, ground := Go.Ground.phase }, { on := 5, ground := Go.Ground.phase }, { on := 6, ground := Go.Ground.phase }, { on := 7, ground := Go.Ground.phase }, { on := 8, ground := Go.Ground.phase }, { on := 9, ground := Go.Ground.phase }, { on := 10, ground := Go.Ground.phase }, { on := 11, ground := Go.Ground.phase }, { on := 12, ground := Go.Ground.phase }, { on := 13, ground := Go.Ground.phase }], guard := Option.none }) rfl (fun K hK => ?_) AllReadyH.nil
  refine wp_store_mid 43 _ _ rfl w.heap.size 0 #[.int .i64 n0, .int .i64 n1, .int .i64 n2] rfl rfl HTn.out (by kernel_rfl) (by simp [Value.oneCell']) ?_
  dsimp only [Array.toList]
  have hS3 : ((wn.setCells w.heap.size 0 [.int .i64 n0, .int .i64 n1, .int .i64 n2])).cell? ⟨b, 0, none⟩ = some (.int .i64 n0) ∧ ((wn.setCells w.heap.size 0 [.int .i64 n0, .int .i64 n1, .int .i64 n2])).cell? ⟨b, 1, none⟩ = some (.int .i64 n1) ∧ ((wn.setCells w.heap.size 0 [.int .i64 n0, .int .i64 n1, .int .i64 n2])).cell? ⟨b, 2, none⟩ = some (.int .i64 n2) := ⟨(set_other _ _ _ _ _ _ (by have := HG.out; omega)).trans hKn.1, (set_other _ _ _ _ _ _ (by have := HG.out; omega)).trans hKn.2.1, (set_other _ _ _ _ _ _ (by have := HG.out; omega)).trans hKn.2.2⟩
  refine hK.out _ _ hS3 (fun hHeld3 => ?_)
  clear hK K
  try simp only [Act.put, List.setIfInBounds_toArray, List.set_cons_zero, List.set_cons_succ]
  refine wpAnyH_take (i := 15) (oi := { dst := Option.some 3, op := Go.Op.assign (Go.Operand.tmp 21), type := 27, pos := "rec.go:106", after := #[{ on := 13, ground := Go.Ground.data }, { on := 14, ground := Go.Ground.chain }, { on := 0, ground := Go.Ground.phase }, { on := 1, ground := Go.Ground.phase }, { on := 2, ground := Go.Ground.phase }, { on := 3, ground := Go.Ground.phase }, { on := 4, ground := Go.Ground.phase }, { on := 5, ground := Go.Ground.phase }, { on := 6, ground := Go.Ground.phase }, { on := 7, ground := Go.Ground.phase }, { on := 8, ground := Go.Ground.phase }, { on := 9, ground := Go.Ground.phase }, { on := 10, ground := Go.Ground.phase }, { on := 11, ground := Go.Ground.phase }, { on := 12, ground := Go.Ground.phase }, { on := 13, ground := Go.Ground.phase }, { on := 14, ground := Go.Ground.phase }], guard := Option.none }) (v := ?_) rfl (by kernel_rfl) (by kernel_rfl) (by kernel_rfl) (fun _ _ _ h => h) (Or.inl ⟨by rfl, ?_⟩) (by assumption) ?_
  rotate_left
  · intro w hSw; (try dsimp only at hSw); go_simp; (try with_reducible rfl)
  simp only [Act.put, List.setIfInBounds_toArray, List.set_cons_zero, List.set_cons_succ]
  refine wpAnyH_done (by kernel_rfl) ?_ _
  go_wp2_with fail
  have hld := run_loadVar_mid (P := Tryd.prog) (wn.setCells w.heap.size 0 [.int .i64 n0, .int .i64 n1, .int .i64 n2]) w.heap.size 0 43 [.int .i64 n0, .int .i64 n1, .int .i64 n2] _ (World.rangeAt_setCells_same wn _ _ _ HTn.out) Tryd.underlying43 rfl (by kernel_rfl)
  refine bodyPost_ret (v := .tuple #[.agg #[.int .i64 n0, .int .i64 n1, .int .i64 n2], .nilIface]) (results_two Tryd.results22 _ _ _ _ _ rfl rfl hld) rfl ⟨rfl, ?_⟩
  exact HBn.out.trans (below_set _ _ _ _ _ (Nat.le_refl _))
set_option maxHeartbeats 4000000 in
set_option maxRecDepth 100000 in
theorem read_t_no_ (n0 n1 n2 n3 n4 n5 : Int) (s : ByteArray) (hs : s.size ≤ 9223372036854775807) (hn : Hid (numbersR twid s = [n0, n1, n2, n3, n4, n5])) (hw : Hid (∀ x ∈ numbersR twid s, 0 ≤ x ∧ x < 4294967296)) (w : World)
    (hsame : Hid (∀ w, Calls Tryd.prog 55 #[.agg #[.int .i64 n0, .int .i64 n1, .int .i64 n2], .func (.func 20) #[] #[], .string s] w fun e w' => ∃ v, e = .returned (.tuple #[.agg #[.int .i64 0, .int .i64 0, .int .i64 0], v]) ∧ ErrC w.heap.size w' v 2 ∧ Below w.heap.size w w')) :
    Calls Tryd.prog 22 #[.string s] w fun e w' => ∃ v, e = .returned (.tuple #[.agg #[.int .i64 0, .int .i64 0, .int .i64 0], v]) ∧ ErrC w.heap.size w' v 2 ∧ Below w.heap.size w w' := by
  have HS := Lib.hid hs
  clear hs
  have HB0 : Hid (Below w.heap.size w (w.alloc (.cells #[.int .i64 0, .int .i64 0, .int .i64 0] 43))) := Lib.hid ((Below.refl _ _).alloc (Nat.le_refl _) _)
  go_enter Tryd.func22, Tryd.ntmps22
  go_wp2_with fail
  refine (twid_any _).mono ?_
  rintro e w1 ⟨A, c, rfl, hi, hb⟩
  have HI1 := Lib.hid hi
  have HB1 := Lib.hid hb
  clear hi hb
  go_wp2_with fail
  refine (numbers_twid A c s _ HI1.out HS.out).mono ?_
  rintro e w2 ⟨b, d, rfl, hg, hi, hb⟩
  rw [hn.out] at hi
  obtain ⟨_, _, hbo, hq⟩ := hi.at (by simp)
  cases hbo
  have hbw : w.heap.size < b := Nat.lt_of_lt_of_le (Nat.lt_of_lt_of_le (by simp) HB1.out.size) hg
  have HG := Lib.hid hbw
  clear hg hbw
  have q0 : w2.cell? ⟨b, 0, none⟩ = some (.int .i64 n0) := hq 0 (by simp)
  have q1 : w2.cell? ⟨b, 1, none⟩ = some (.int .i64 n1) := hq 1 (by simp)
  have q2 : w2.cell? ⟨b, 2, none⟩ = some (.int .i64 n2) := hq 2 (by simp)
  have HB2 := Lib.hid (show Below (w.alloc (.cells #[.int .i64 0, .int .i64 0, .int .i64 0] 43)).heap.size (w.alloc (.cells #[.int .i64 0, .int .i64 0, .int .i64 0] 43)) w2 from bstep HB1.out hb)
  have HBw := Lib.hid (show Below w.heap.size w w2 from HB0.out.trans (HB2.out.mono (by simp)))
  have HTh : Hid (w2.there w.heap.size 0 3) := Lib.hid (there_under HB2.out (by simp) (there_last _ _ _ _ (by simp) rfl))
  have HL : Hid (w.heap.size < w2.heap.size) := Lib.hid (Nat.lt_of_lt_of_le (by simp) HB2.out.size)
  clear hi hb hq
  have Q0 := Lib.hid q0
  have Q1 := Lib.hid q1
  have Q2 := Lib.hid q2
  have hbl : b < w2.heap.size := cell_lt q0
  have HBl := Lib.hid hbl
  have hS0 : (w2.drew).cell? ⟨b, 0, none⟩ = some (.int .i64 n0) ∧ (w2.drew).cell? ⟨b, 1, none⟩ = some (.int .i64 n1) ∧ (w2.drew).cell? ⟨b, 2, none⟩ = some (.int .i64 n2) := ⟨q0, q1, q2⟩
  clear q0 q1 q2 hbl
  go_wp2_with fail
  refine wp_region_held_drew (S := fun w' => (w').cell? ⟨b, 0, none⟩ = some (.int .i64 n0) ∧ (w').cell? ⟨b, 1, none⟩ = some (.int .i64 n1) ∧ (w').cell? ⟨b, 2, none⟩ = some (.int .i64 n2)) (by kernel_rfl) ?_ (fun hHeld => ?_)
  · exact hS0
  refine wpAnyH_take (i := 0) (oi := { dst := Option.some 8, op := Go.Op.move (Go.Operand.tmp 4), type := 93, pos := "rec.go:106", after := #[], guard := Option.none }) (v := ?_) rfl (by kernel_rfl) (by kernel_rfl) (by kernel_rfl) (fun _ _ _ h => h) (Or.inl ⟨by rfl, ?_⟩) (by assumption) ?_
  rotate_left
  · intro w hSw; (try dsimp only at hSw); go_simp; (try with_reducible rfl)
  simp only [Act.put, List.setIfInBounds_toArray, List.set_cons_zero, List.set_cons_succ]
  refine wpAnyH_take (i := 1) (oi := { dst := Option.some 9, op := Go.Op.indexAddr 93 (Go.Operand.tmp 8) (Go.Operand.const (Go.Value.int Go.IntKind.i64 0)), type := 0, pos := "rec.go:106", after := #[{ on := 0, ground := Go.Ground.data }], guard := Option.none }) (v := ?_) rfl (by kernel_rfl) (by kernel_rfl) (by kernel_rfl) (fun _ _ _ h => h) (Or.inl ⟨by rfl, ?_⟩) (by assumption) ?_
  rotate_left
  · intro w hSw; (try dsimp only at hSw); go_simp; (try with_reducible rfl)
  simp only [Act.put, List.setIfInBounds_toArray, List.set_cons_zero, List.set_cons_succ]
  refine wpAnyH_take (i := 2) (oi := { dst := Option.some 10, op := Go.Op.load 3 (Go.Operand.tmp 9), type := 3, pos := "rec.go:106", after := #[{ on := 1, ground := Go.Ground.data }], guard := Option.none }) (v := ?_) rfl (by kernel_rfl) (by kernel_rfl) (by kernel_rfl) (fun _ _ _ h => h) (Or.inl ⟨by rfl, ?_⟩) (by assumption) ?_
  rotate_left
  · intro w hSw; (try dsimp only at hSw); go_simp; (try with_reducible rfl)
  simp only [Act.put, List.setIfInBounds_toArray, List.set_cons_zero, List.set_cons_succ]
  refine wpAnyH_take (i := 3) (oi := { dst := Option.some 11, op := Go.Op.move (Go.Operand.tmp 4), type := 93, pos := "rec.go:106", after := #[], guard := Option.none }) (v := ?_) rfl (by kernel_rfl) (by kernel_rfl) (by kernel_rfl) (fun _ _ _ h => h) (Or.inl ⟨by rfl, ?_⟩) (by assumption) ?_
  rotate_left
  · intro w hSw; (try dsimp only at hSw); go_simp; (try with_reducible rfl)
  simp only [Act.put, List.setIfInBounds_toArray, List.set_cons_zero, List.set_cons_succ]
  refine wpAnyH_take (i := 4) (oi := { dst := Option.some 12, op := Go.Op.indexAddr 93 (Go.Operand.tmp 11) (Go.Operand.const (Go.Value.int Go.IntKind.i64 1)), type := 0, pos := "rec.go:106", after := #[{ on := 3, ground := Go.Ground.data }], guard := Option.none }) (v := ?_) rfl (by kernel_rfl) (by kernel_rfl) (by kernel_rfl) (fun _ _ _ h => h) (Or.inl ⟨by rfl, ?_⟩) (by assumption) ?_
  rotate_left
  · intro w hSw; (try dsimp only at hSw); go_simp; (try with_reducible rfl)
  simp only [Act.put, List.setIfInBounds_toArray, List.set_cons_zero, List.set_cons_succ]
  refine wpAnyH_take (i := 5) (oi := { dst := Option.some 13, op := Go.Op.load 3 (Go.Operand.tmp 12), type := 3, pos := "rec.go:106", after := #[{ on := 4, ground := Go.Ground.data }], guard := Option.none }) (v := ?_) rfl (by kernel_rfl) (by kernel_rfl) (by kernel_rfl) (fun _ _ _ h => h) (Or.inl ⟨by rfl, ?_⟩) (by assumption) ?_
  rotate_left
  · intro w hSw; (try dsimp only at hSw); go_simp; (try with_reducible rfl)
  simp only [Act.put, List.setIfInBounds_toArray, List.set_cons_zero, List.set_cons_succ]
  refine wpAnyH_take (i := 6) (oi := { dst := Option.some 14, op := Go.Op.move (Go.Operand.tmp 4), type := 93, pos := "rec.go:106", after := #[], guard := Option.none }) (v := ?_) rfl (by kernel_rfl) (by kernel_rfl) (by kernel_rfl) (fun _ _ _ h => h) (Or.inl ⟨by rfl, ?_⟩) (by assumption) ?_
  rotate_left
  · intro w hSw; (try dsimp only at hSw); go_simp; (try with_reducible rfl)
  simp only [Act.put, List.setIfInBounds_toArray, List.set_cons_zero, List.set_cons_succ]
  refine wpAnyH_take (i := 7) (oi := { dst := Option.some 15, op := Go.Op.indexAddr 93 (Go.Operand.tmp 14) (Go.Operand.const (Go.Value.int Go.IntKind.i64 2)), type := 0, pos := "rec.go:106", after := #[{ on := 6, ground := Go.Ground.data }], guard := Option.none }) (v := ?_) rfl (by kernel_rfl) (by kernel_rfl) (by kernel_rfl) (fun _ _ _ h => h) (Or.inl ⟨by rfl, ?_⟩) (by assumption) ?_
  rotate_left
  · intro w hSw; (try dsimp only at hSw); go_simp; (try with_reducible rfl)
  simp only [Act.put, List.setIfInBounds_toArray, List.set_cons_zero, List.set_cons_succ]
  refine wpAnyH_take (i := 8) (oi := { dst := Option.some 16, op := Go.Op.load 3 (Go.Operand.tmp 15), type := 3, pos := "rec.go:106", after := #[{ on := 7, ground := Go.Ground.data }], guard := Option.none }) (v := ?_) rfl (by kernel_rfl) (by kernel_rfl) (by kernel_rfl) (fun _ _ _ h => h) (Or.inl ⟨by rfl, ?_⟩) (by assumption) ?_
  rotate_left
  · intro w hSw; (try dsimp only at hSw); go_simp; (try with_reducible rfl)
  simp only [Act.put, List.setIfInBounds_toArray, List.set_cons_zero, List.set_cons_succ]
  refine wpAnyH_take (i := 9) (oi := { dst := Option.some 17, op := Go.Op.build 43 #[(0, Go.Operand.tmp 10), (1, Go.Operand.tmp 13), (2, Go.Operand.tmp 16)], type := 43, pos := "rec.go:106", after := #[{ on := 2, ground := Go.Ground.data }, { on := 5, ground := Go.Ground.data }, { on := 8, ground := Go.Ground.data }], guard := Option.none }) (v := ?_) rfl (by kernel_rfl) (by kernel_rfl) (by kernel_rfl) (fun _ _ _ h => h) (Or.inl ⟨by rfl, ?_⟩) (by assumption) ?_
  rotate_left
  · intro w hSw; (try dsimp only at hSw); go_simp; (try with_reducible rfl)
  simp only [Act.put, List.setIfInBounds_toArray, List.set_cons_zero, List.set_cons_succ]
  refine wpAnyH_take (i := 10) (oi := { dst := Option.some 18, op := Go.Op.move (Go.Operand.tmp 0), type := 9, pos := "rec.go:106", after := #[], guard := Option.none }) (v := ?_) rfl (by kernel_rfl) (by kernel_rfl) (by kernel_rfl) (fun _ _ _ h => h) (Or.inl ⟨by rfl, ?_⟩) (by assumption) ?_
  rotate_left
  · intro w hSw; (try dsimp only at hSw); go_simp; (try with_reducible rfl)
  simp only [Act.put, List.setIfInBounds_toArray, List.set_cons_zero, List.set_cons_succ]
  refine wpAnyH_ready (rs := [11]) (by kernel_rfl) (by simp) ?_
  refine AllReadyH.cons (o := { dst := Option.some 19, op := Go.Op.call { callee := Go.Callee.value (Go.Operand.func 55), args := #[Go.Operand.tmp 17, Go.Operand.func 20, Go.Operand.tmp 18], argTypes := #[43, 42, 9] }, type := 46, pos := "rec.go:106", after := #[{ on := 9, ground := Go.Ground.data }, { on := 10, ground := Go.Ground.data }], guard := Option.none }) rfl (fun K hK => ?_) AllReadyH.nil
  go_simp
  refine (hsame.out _).mono ?_
  rintro e wn ⟨v, rfl, he, hb⟩
  have HE := Lib.hid he
  clear he
  have hKn : (wn).cell? ⟨b, 0, none⟩ = some (.int .i64 n0) ∧ (wn).cell? ⟨b, 1, none⟩ = some (.int .i64 n1) ∧ (wn).cell? ⟨b, 2, none⟩ = some (.int .i64 n2) := ⟨(hb.cell (p := ⟨b, 0, none⟩) HBl.out).trans Q0.out, (hb.cell (p := ⟨b, 1, none⟩) HBl.out).trans Q1.out, (hb.cell (p := ⟨b, 2, none⟩) HBl.out).trans Q2.out⟩
  have HBn := Lib.hid (show Below w.heap.size w wn from HBw.out.trans (((Below.drew (Below.refl _ _)).trans hb).mono HBw.out.size))
  have HTn : Hid (wn.there w.heap.size 0 3) := Lib.hid (there_under hb HL.out HTh.out)
  clear hb
  go_wp2_with fail
  refine hK.out _ _ hKn (fun hHeld2 => ?_)
  clear hK K
  try simp only [Act.put, List.setIfInBounds_toArray, List.set_cons_zero, List.set_cons_succ]
  refine wpAnyH_take (i := 12) (oi := { dst := Option.some 20, op := Go.Op.extract (Go.Operand.tmp 19) 0, type := 43, pos := "rec.go:106", after := #[{ on := 11, ground := Go.Ground.data }], guard := Option.none }) (v := ?_) rfl (by kernel_rfl) (by kernel_rfl) (by kernel_rfl) (fun _ _ _ h => h) (Or.inl ⟨by rfl, ?_⟩) (by assumption) ?_
  rotate_left
  · intro w hSw; (try dsimp only at hSw); go_simp; (try with_reducible rfl)
  simp only [Act.put, List.setIfInBounds_toArray, List.set_cons_zero, List.set_cons_succ]
  refine wpAnyH_take (i := 13) (oi := { dst := Option.some 21, op := Go.Op.extract (Go.Operand.tmp 19) 1, type := 27, pos := "rec.go:106", after := #[{ on := 11, ground := Go.Ground.data }], guard := Option.none }) (v := ?_) rfl (by kernel_rfl) (by kernel_rfl) (by kernel_rfl) (fun _ _ _ h => h) (Or.inl ⟨by rfl, ?_⟩) (by assumption) ?_
  rotate_left
  · intro w hSw; (try dsimp only at hSw); go_simp; (try with_reducible rfl)
  simp only [Act.put, List.setIfInBounds_toArray, List.set_cons_zero, List.set_cons_succ]
  refine wpAnyH_ready (rs := [14]) (by kernel_rfl) (by simp) ?_
  refine AllReadyH.cons (o := { dst := Option.none, op := Go.Op.store 43 (Go.Operand.tmp 2) (Go.Operand.tmp 20), type := 0, pos := "rec.go:106", after := #[{ on := 12, ground := Go.Ground.data }, { on := 11, ground := Go.Ground.chain }, { on := 0, ground := Go.Ground.phase }, { on := 1, ground := Go.Ground.phase }, { on := 2, ground := Go.Ground.phase }, { on := 3, ground := Go.Ground.phase }, { on := 4, ground := Go.Ground.phase }, { on := 5, ground := Go.Ground.phase }, { on := 6, ground := Go.Ground.phase }, { on := 7, ground := Go.Ground.phase }, { on := 8, ground := Go.Ground.phase }, { on := 9, ground := Go.Ground.phase }, { on := 10, ground := Go.Ground.phase }, { on := 11, ground := Go.Ground.phase }, { on := 12, ground := Go.Ground.phase }, { on := 13, ground := Go.Ground.phase }], guard := Option.none }) rfl (fun K hK => ?_) AllReadyH.nil
  refine wp_store_mid 43 _ _ rfl w.heap.size 0 #[.int .i64 0, .int .i64 0, .int .i64 0] rfl rfl HTn.out (by kernel_rfl) (by simp [Value.oneCell']) ?_
  dsimp only [Array.toList]
  have hS3 : ((wn.setCells w.heap.size 0 [.int .i64 0, .int .i64 0, .int .i64 0])).cell? ⟨b, 0, none⟩ = some (.int .i64 n0) ∧ ((wn.setCells w.heap.size 0 [.int .i64 0, .int .i64 0, .int .i64 0])).cell? ⟨b, 1, none⟩ = some (.int .i64 n1) ∧ ((wn.setCells w.heap.size 0 [.int .i64 0, .int .i64 0, .int .i64 0])).cell? ⟨b, 2, none⟩ = some (.int .i64 n2) := ⟨(set_other _ _ _ _ _ _ (by have := HG.out; omega)).trans hKn.1, (set_other _ _ _ _ _ _ (by have := HG.out; omega)).trans hKn.2.1, (set_other _ _ _ _ _ _ (by have := HG.out; omega)).trans hKn.2.2⟩
  refine hK.out _ _ hS3 (fun hHeld3 => ?_)
  clear hK K
  try simp only [Act.put, List.setIfInBounds_toArray, List.set_cons_zero, List.set_cons_succ]
  refine wpAnyH_take (i := 15) (oi := { dst := Option.some 3, op := Go.Op.assign (Go.Operand.tmp 21), type := 27, pos := "rec.go:106", after := #[{ on := 13, ground := Go.Ground.data }, { on := 14, ground := Go.Ground.chain }, { on := 0, ground := Go.Ground.phase }, { on := 1, ground := Go.Ground.phase }, { on := 2, ground := Go.Ground.phase }, { on := 3, ground := Go.Ground.phase }, { on := 4, ground := Go.Ground.phase }, { on := 5, ground := Go.Ground.phase }, { on := 6, ground := Go.Ground.phase }, { on := 7, ground := Go.Ground.phase }, { on := 8, ground := Go.Ground.phase }, { on := 9, ground := Go.Ground.phase }, { on := 10, ground := Go.Ground.phase }, { on := 11, ground := Go.Ground.phase }, { on := 12, ground := Go.Ground.phase }, { on := 13, ground := Go.Ground.phase }, { on := 14, ground := Go.Ground.phase }], guard := Option.none }) (v := ?_) rfl (by kernel_rfl) (by kernel_rfl) (by kernel_rfl) (fun _ _ _ h => h) (Or.inl ⟨by rfl, ?_⟩) (by assumption) ?_
  rotate_left
  · intro w hSw; (try dsimp only at hSw); go_simp; (try with_reducible rfl)
  simp only [Act.put, List.setIfInBounds_toArray, List.set_cons_zero, List.set_cons_succ]
  refine wpAnyH_done (by kernel_rfl) ?_ _
  go_wp2_with fail
  have hld := run_loadVar_mid (P := Tryd.prog) (wn.setCells w.heap.size 0 [.int .i64 0, .int .i64 0, .int .i64 0]) w.heap.size 0 43 [.int .i64 0, .int .i64 0, .int .i64 0] _ (World.rangeAt_setCells_same wn _ _ _ HTn.out) Tryd.underlying43 rfl (by kernel_rfl)
  refine bodyPost_ret (v := .tuple #[.agg #[.int .i64 0, .int .i64 0, .int .i64 0], v]) (results_two Tryd.results22 _ _ _ _ _ rfl rfl hld) rfl ⟨_, rfl, ?_, ?_⟩
  · exact (err_set HE.out HL.out).mono HBw.out.size
  · exact HBn.out.trans (below_set _ _ _ _ _ (Nat.le_refl _))
end Go.Proofs.YtlcnhagcomljnaaDoor
