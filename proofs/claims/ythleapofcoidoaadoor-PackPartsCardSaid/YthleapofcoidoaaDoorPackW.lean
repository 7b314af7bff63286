/- PackParts: the walk. -/
import Derived.Test.YthleapofcoidoaaDoorPackV
namespace Go.Proofs.YthleapofcoidoaaDoor
open Go.RowKit Go.Extern.Stop Go.Stop Go.Extern Go.Proofs.YthleapofcoidoaaDoorW.PrintWords Go.Proofs.YthleapofcoidoaaDoorW.PrintLast Go.Proofs.YthleapofcoidoaaDoorW.PrintMore Go.Proofs.YthleapofcoidoaaDoor.PPackPlays
set_option linter.unusedVariables false
set_option linter.unusedSimpArgs false

theorem Size_eq {A : Option Addr} {ws : List Int} {n c : Nat} {z : Int} (hn : ws.length = n) (hz : sizeR ws = z) (W : World) (h : Ints W A ws c) :
    Calls Tryd.prog 23 #[.slice A n c] W fun e w' => e = .returned (.int .i64 z) ∧ Below W.heap.size W w' := by subst hz; exact Size_at hn W h
theorem ints_of_reads {w : World} {A : Option Addr} {l : List Int} {c : Nat} (h : ReadsInt w .i64 A l.length l) (hc : l.length ≤ c) : Ints w A l c := ⟨Kd.C_of_reads (readsInt_of.1 h), hc⟩
theorem ints_take {w : World} {A : Option Addr} {l : List Int} {c q : Nat} (h : Ints w A l c) (hq : q ≤ l.length) : Ints w A (l.take q) c :=
  ints_of_reads (reads_take h.reads q hq) (by have := h.2; rw [List.length_take]; omega)
set_option maxRecDepth 100000 in
set_option maxHeartbeats 4000000 in
theorem parts_go (A B : Option Addr) (zs ns : List Int) (c d : Nat) (cut : Int) (q0 : 0 ≤ cut) (q1 : cut ≤ 255) (hl : zs.length ≤ 40) (hm : zs.length ≤ ns.length) (W : World) (tied : Tied W)
    (h1 : IntsK .u8 W A zs c) (h2 : IntsK .u32 W B ns d) (hw : ∀ j, j < zs.length → 0 ≤ rd zs j ∧ rd zs j ≤ 255) (hv : ∀ j, j < zs.length → 0 ≤ rd ns j ∧ rd ns j ≤ 4294967295) :
    Calls Tryd.prog 6 #[.slice A zs.length c, .slice B ns.length d, .int .u8 cut] W fun e w' => e = .returned (.bool true) ∧ Below W.heap.size W w' := by
  obtain ⟨i0, hi, hz0, hz1, hz2⟩ := info_parts info_int
  have T := Lib.hid tied
  have H1 := Lib.hid h1
  have H2 := Lib.hid h2
  have HW := Lib.hid hw
  have HV := Lib.hid hv
  have hn9 : ns.length ≤ 9223372036854775807 := h2.1.2.1
  clear tied h1 h2 hw hv
  have hd1 : decide ((40 : Int) < (zs.length : Int)) = false := by simp; omega
  have hd2 : decide (ns.length < zs.length) = false := by simp; omega
  have s8 := sh8
  have s16 := sh16
  have s24 := sh24
  have s32 := sh32
  go_enter Tryd.func6, Tryd.ntmps6
  go_wp2_with fail
  refine (pack_awake _).mono ?_
  rintro e w1 ⟨rfl, hb⟩
  have HB1 := Lib.hid hb
  clear hb
  go_wp2_with fail
  go_loopw [7, 8, 9, 10] (fun u v i _ wl => ∃ k : Nat, k ≤ zs.length ∧ i = .int .i64 k ∧ wl.ownsRow W.heap.size 3 1 u k (nums .i64 (wsOf zs k)) ∧ wl.ownsRow W.heap.size 3 1 v k (nums .i64 (nsOf zs ns k)) ∧ Apart u v ∧ Below W.heap.size W wl) (fun _ _ i _ _ => zs.length - (intOf i).toNat)
  case atStart => exact ⟨0, Nat.zero_le _, rfl, own_nil _ _ _ _, own_nil _ _ _ _, fun b h => by simp [Value.ownBlock] at h, HB1.out⟩
  case round =>
    obtain ⟨k, hk, rfl, ho1, ho2, hap, hb⟩ := hrel
    have O1 := Lib.hid ho1
    have O2 := Lib.hid ho2
    have AP := Lib.hid hap
    have HB := Lib.hid hb
    have hzz : W.heap.size ≤ wr.heap.size := hb.size
    clear ho1 ho2 hap hb
    by_cases hlt : k < zs.length
    · have hltb : decide (k < zs.length) = true := by simpa using hlt
      obtain ⟨b1, o1, rfl, hc1⟩ := H1.out.at (by omega)
      obtain ⟨b2, o2, rfl, hc2⟩ := H2.out.at (by omega)
      have hi1 : (k : Int) < (zs.length : Int) := by omega
      have hi2 : (k : Int) < (ns.length : Int) := by omega
      obtain ⟨z, hz⟩ : ∃ z, z = rd zs k := ⟨_, rfl⟩
      obtain ⟨y, hy⟩ : ∃ y, y = rd ns k := ⟨_, rfl⟩
      have x1 : wr.cell? ⟨b1, o1 + k, none⟩ = some (.int .u8 z) := by rw [hz]; exact (HB.out.cell (cell_lt (hc1 k hlt))).trans (hc1 k hlt)
      have C2 : Hid (W.cell? ⟨b2, o2 + k, none⟩ = some (.int .u32 y)) := by rw [hy]; exact hc2 k (by omega)
      obtain ⟨z0, z1⟩ := HW.out k hlt
      obtain ⟨y0, y1⟩ := HV.out k hlt
      rw [← hz] at z0 z1
      rw [← hy] at y0 y1
      have HZ := Lib.hid hz
      have HY := Lib.hid hy
      clear hz hy hc1 hc2
      rcases (show z % 4 = 0 ∨ z % 4 = 1 ∨ z % 4 = 2 ∨ z % 4 = 3 by omega) with hj | hj | hj | hj
      all_goals
        go_wp2_with (at_builtin; refine wpList_append_own_at _ rfl _ _ 48 rfl W.heap.size 3 i0 (.int .i64 0) 1 8 Tryd.underlying48 hi hz0 hz1 hz2 rfl (by decide) _ _ _ rfl (O1.out.alloc _) ⟨wr.heap.size, 0, none⟩ 1 1 _ rfl rfl (cell_one_new _ _ _) (fun u hu => by simp at hu; subst hu; rfl) (by unfold maxLen; omega) (by omega) (by simp; omega) ?_; intro v' w3 hown' hg _ hat; have O3 := Lib.hid hown'; have G3 := Lib.hid hg; have AT3 := Lib.hid hat; clear hown' hg hat)
      all_goals
        have hz3 : W.heap.size ≤ w3.heap.size := by have := G3.out.size; simp at this; omega
        have HB3 := Lib.hid ((HB.out.alloc hzz _).grown G3.out (by simp; omega) (fun k hk => (O1.out.lt k hk).1))
        have O4 := Lib.hid ((O2.out.alloc _).kept G3.out (apart_ne AP.out))
        have AP3 := Lib.hid (apart_step AP.out (fun b h => (O2.out.lt b h).2) (by simp) AT3.out)
        have x2 : w3.cell? ⟨b2, o2 + k, none⟩ = some (.int .u32 y) := (HB3.out.cell (cell_lt C2.out)).trans C2.out
        have hwy : IntKind.i64.wrap y = y := IntWalk.i64_in _ (by omega)
        have ht1 : Int.tmod y 256 = y % 256 := Int.tmod_eq_emod_of_nonneg y0
        have ht2 : Int.tmod y 65536 = y % 65536 := Int.tmod_eq_emod_of_nonneg y0
        have ht3 : Int.tmod y 16777216 = y % 16777216 := Int.tmod_eq_emod_of_nonneg y0
        have ht4 : Int.tmod y 4294967296 = y % 4294967296 := Int.tmod_eq_emod_of_nonneg y0
        have ag : u8.ownBlock ≠ some b2 := fun h => by have := (O2.out.lt _ h).1; have := cell_lt C2.out; simp at this; omega
        have hlt2 : b2 < w3.heap.size := cell_lt x2
        go_region_held3 (fun w' => w'.cell? ⟨b2, o2 + k, none⟩ = some (.int .u32 y)) (first | go_keep | ((rw [hgrow.cell_far _ (by simp; omega) (Ne.symm ag)]; assumption))) (first | (refine step_append_lies _ (by rfl) _ _ _ (by rfl) W.heap.size 3 i0 (.int .i64 0) 1 8 Tryd.underlying48 hi hz0 hz1 hz2 rfl (by omega) u8 k (nums .i64 (nsOf zs ns k)) (by rfl) ((O4.out.alloc _).drew) ⟨w3.heap.size, 0, none⟩ 1 1 [.int .i64 (y % 256)] (by rfl) (by rfl) (World.news_of_block (cs := #[.int .i64 (y % 256)]) (t := 3) (fr := (0, 0)) (heap_alloc_new w3 _)) (by simp [Value.oneCell']) (by omega) (by unfold maxLen; omega) (by omega) (by simp; omega) (w3.heap.size + 1) (by simp) ?_; intro gg cap w4 hown1 hgrow hat hlt) | (refine step_append_lies _ (by rfl) _ _ _ (by rfl) W.heap.size 3 i0 (.int .i64 0) 1 8 Tryd.underlying48 hi hz0 hz1 hz2 rfl (by omega) u8 k (nums .i64 (nsOf zs ns k)) (by rfl) ((O4.out.alloc _).drew) ⟨w3.heap.size, 0, none⟩ 1 1 [.int .i64 y] (by rfl) (by rfl) (World.news_of_block (cs := #[.int .i64 y]) (t := 3) (fr := (0, 0)) (heap_alloc_new w3 _)) (by simp [Value.oneCell']) (by omega) (by unfold maxLen; omega) (by omega) (by simp; omega) (w3.heap.size + 1) (by simp) ?_; intro gg cap w4 hown1 hgrow hat hlt) | (refine step_append_lies _ (by rfl) _ _ _ (by rfl) W.heap.size 3 i0 (.int .i64 0) 1 8 Tryd.underlying48 hi hz0 hz1 hz2 rfl (by omega) u8 k (nums .i64 (nsOf zs ns k)) (by rfl) ((O4.out.alloc _).drew) ⟨w3.heap.size, 0, none⟩ 1 1 [.int .i64 (y % 65536)] (by rfl) (by rfl) (World.news_of_block (cs := #[.int .i64 (y % 65536)]) (t := 3) (fr := (0, 0)) (heap_alloc_new w3 _)) (by simp [Value.oneCell']) (by omega) (by unfold maxLen; omega) (by omega) (by simp; omega) (w3.heap.size + 1) (by simp) ?_; intro gg cap w4 hown1 hgrow hat hlt) | (refine step_append_lies _ (by rfl) _ _ _ (by rfl) W.heap.size 3 i0 (.int .i64 0) 1 8 Tryd.underlying48 hi hz0 hz1 hz2 rfl (by omega) u8 k (nums .i64 (nsOf zs ns k)) (by rfl) ((O4.out.alloc _).drew) ⟨w3.heap.size, 0, none⟩ 1 1 [.int .i64 (y % 16777216)] (by rfl) (by rfl) (World.news_of_block (cs := #[.int .i64 (y % 16777216)]) (t := 3) (fr := (0, 0)) (heap_alloc_new w3 _)) (by simp [Value.oneCell']) (by omega) (by unfold maxLen; omega) (by omega) (by simp; omega) (w3.heap.size + 1) (by simp) ?_; intro gg cap w4 hown1 hgrow hat hlt) | (refine step_append_lies _ (by rfl) _ _ _ (by rfl) W.heap.size 3 i0 (.int .i64 0) 1 8 Tryd.underlying48 hi hz0 hz1 hz2 rfl (by omega) u8 k (nums .i64 (nsOf zs ns k)) (by rfl) ((O4.out.alloc _).drew) ⟨w3.heap.size, 0, none⟩ 1 1 [.int .i64 (y % 4294967296)] (by rfl) (by rfl) (World.news_of_block (cs := #[.int .i64 (y % 4294967296)]) (t := 3) (fr := (0, 0)) (heap_alloc_new w3 _)) (by simp [Value.oneCell']) (by omega) (by unfold maxLen; omega) (by omega) (by simp; omega) (w3.heap.size + 1) (by simp) ?_; intro gg cap w4 hown1 hgrow hat hlt))
      all_goals
        have O5 := Lib.hid (((O3.out.alloc _).drew).kept hgrow (apart_ne (apart_symm AP3.out)))
        have AP5 := Lib.hid (apart_symm (apart_step (u' := .slice (some ⟨gg, 0, none⟩) (k + 1) cap) (g := w3.heap.size + 1) (apart_symm AP3.out) (fun b h => (O3.out.lt b h).2) (by omega) (by rcases hat with h | h; exact .inl h.symm; exact .inr (congrArg some h))))
        have HB4 := Lib.hid (((HB3.out.alloc hz3 _).drew).grown hgrow (by simp; omega) (fun k hk => (O2.out.lt k hk).1))
        have O6 := Lib.hid hown1
        clear hown1 hgrow hat hlt
        go_wp2_with fail
        go_roundw
        case rel =>
          refine ⟨k + 1, by omega, by go_num, ?_, ?_, AP5.out, HB4.out⟩
          · have h := O5.out
            rw [wsOf, nums_append, ← HZ.out, hj]
            exact h
          · have h := O6.out
            rw [nsOf, nums_append, ← HZ.out, ← HY.out, hj]
            first
              | exact h
              | (rw [show y % 256 ^ ((1 : Int) + 3).toNat = y from Int.emod_eq_of_lt y0 (Int.lt_of_le_of_lt y1 (by decide))]; exact h)
        case measure => simp [intOf]; omega
    · as_aux_lemma =>
      have hltb : decide (k < zs.length) = false := by simpa using hlt
      obtain ⟨A5, c5, rfl⟩ := own_slice O1.out
      obtain ⟨A6, c6, rfl⟩ := own_slice O2.out
      obtain ⟨Wl, hWl⟩ : ∃ Wl, Wl = wsOf zs k := ⟨_, rfl⟩
      obtain ⟨Nl, hNl⟩ : ∃ Nl, Nl = nsOf zs ns k := ⟨_, rfl⟩
      have L5 : Hid (Wl.length = k) := by rw [hWl]; exact wsOf_length _ _
      have L6 : Hid (Nl.length = k) := by rw [hNl]; exact nsOf_length _ _ _
      have I5 : Hid (Ints wr A5 Wl c5) := by rw [hWl]; exact own_ints O1.out (wsOf_length _ _)
      have I6 : Hid (Ints wr A6 Nl c6) := by rw [hNl]; exact own_ints O2.out (nsOf_length _ _ _)
      have FC : Hid (fieldsC Wl Nl = 0) := by rw [hWl, hNl]; exact fieldsC_of zs ns k (by omega)
      have MW : Hid (Wl.all mayB = true) := by rw [hWl]; exact may_of zs k
      clear hWl hNl hlt
      obtain ⟨q, hq⟩ : ∃ q : Nat, cut % ((k : Int) + 1) = (q : Int) := ⟨(cut % ((k : Int) + 1)).toNat, by have := Int.emod_nonneg cut (show (k : Int) + 1 ≠ 0 by omega); omega⟩
      have hqk : q ≤ k := by have := Int.emod_lt_of_pos cut (show (0 : Int) < (k : Int) + 1 by omega); omega
      have hc5 : k ≤ c5 := by have := I5.out.2; have := L5.out; omega
      have hc6 : k ≤ c6 := by have := I6.out.2; have := L6.out; omega
      obtain ⟨B5, s5, r5⟩ := print_cut (P := Tryd.prog) 48 3 .i64 Tryd.underlying48 hi hz1 A5 k c5 q hqk
      obtain ⟨B6, s6, r6⟩ := print_cut (P := Tryd.prog) 48 3 .i64 Tryd.underlying48 hi hz1 A6 k c6 q hqk
      have T5 : Hid (Ints wr A5 (Wl.take q) c5) := ints_take I5.out (by rw [L5.out]; exact hqk)
      have T6 : Hid (Ints wr A6 (Nl.take q) c6) := ints_take I6.out (by rw [L6.out]; exact hqk)
      have D5 : Hid (Ints wr B5 (Wl.drop q) (c5 - q)) := ints_of_reads (by have h := r5 wr .i64 Wl hc5 (by have h := I5.out.reads; rw [L5.out] at h; exact h); rw [show k - q = (Wl.drop q).length by rw [List.length_drop, L5.out]] at h; exact h) (by rw [List.length_drop, L5.out]; omega)
      have D6 : Hid (Ints wr B6 (Nl.drop q) (c6 - q)) := ints_of_reads (by have h := r6 wr .i64 Nl hc6 (by have h := I6.out.reads; rw [L6.out] at h; exact h); rw [show k - q = (Nl.drop q).length by rw [List.length_drop, L6.out]] at h; exact h) (by rw [List.length_drop, L6.out]; omega)
      clear r5 r6
      have hp := parts_fields FC.out MW.out (by rw [L5.out]; omega) q (by rw [L5.out]; exact hqk)
      have hsum := parts_sum MW.out (by rw [L5.out]; omega) q
      obtain ⟨s, hs⟩ : ∃ s, s = fieldsB Wl Nl := ⟨_, rfl⟩
      obtain ⟨sa, hsa⟩ : ∃ s, s = fieldsB (Wl.take q) (Nl.take q) := ⟨_, rfl⟩
      obtain ⟨sb, hsb⟩ : ∃ s, s = fieldsB (Wl.drop q) (Nl.drop q) := ⟨_, rfl⟩
      obtain ⟨za, hza⟩ : ∃ z, z = sizeR (Wl.take q) := ⟨_, rfl⟩
      obtain ⟨zb, hzb⟩ : ∃ z, z = sizeR (Wl.drop q) := ⟨_, rfl⟩
      have hab : s = sa ++ sb := by rw [hs, hsa, hsb]; exact hp.2.2
      have LA : Hid ((Wl.take q).length = q) := by show _ = _; rw [List.length_take, L5.out]; omega
      have LA6 : Hid ((Nl.take q).length = q) := by show _ = _; rw [List.length_take, L6.out]; omega
      have LB : Hid ((Wl.drop q).length = k - q) := by show _ = _; rw [List.length_drop, L5.out]
      have LB6 : Hid ((Nl.drop q).length = k - q) := by show _ = _; rw [List.length_drop, L6.out]
      have F0 := Lib.hid (⟨FC.out, hs.symm⟩ : fieldsC Wl Nl = 0 ∧ fieldsB Wl Nl = s)
      have F1 := Lib.hid (⟨hp.1, hsa.symm⟩ : fieldsC (Wl.take q) (Nl.take q) = 0 ∧ fieldsB (Wl.take q) (Nl.take q) = sa)
      have F2 := Lib.hid (⟨hp.2.1, hsb.symm⟩ : fieldsC (Wl.drop q) (Nl.drop q) = 0 ∧ fieldsB (Wl.drop q) (Nl.drop q) = sb)
      have ha0 : 0 ≤ za := by rw [hza]; exact sizeR_nonneg (all_take MW.out q) (by rw [LA.out]; omega)
      have hb0 : 0 ≤ zb := by rw [hzb]; exact sizeR_nonneg (all_drop MW.out q) (by rw [LB.out]; omega)
      have ha1 : za ≤ 160 := by have h := sum_take_range (Wl.take q) (all_take MW.out q) _ (Nat.le_refl _); rw [List.take_length] at h; rw [hza, sizeR_all (all_take MW.out q) (by rw [LA.out]; omega)]; have := LA.out; omega
      have hb1 : zb ≤ 160 := by have h := sum_take_range (Wl.drop q) (all_drop MW.out q) _ (Nat.le_refl _); rw [List.take_length] at h; rw [hzb, sizeR_all (all_drop MW.out q) (by rw [LB.out]; omega)]; have := LB.out; omega
      have hsm : sa.size + sb.size ≤ 9223372036854775807 := by
        have h1 := fieldsB_size F1.out.1
        have h2 := fieldsB_size F2.out.1
        rw [F1.out.2, ← hza] at h1
        rw [F2.out.2, ← hzb] at h2
        omega
      have hsm8 : ¬ (9223372036854775807 < sa.size + sb.size) := by omega
      have hadd : ∀ w : World, (Op.stringOp .add sa sb).run Tryd.prog w = .ok (.string (sa ++ sb)) w := fun w => run_string_add_sum _ _ _ hsm
      have Z0 : Hid (sizeR Wl = za + zb) := by show _ = _; rw [hsum, hza, hzb]
      have Z1 : Hid (sizeR (Wl.take q) = za) := hza.symm
      have Z2 : Hid (sizeR (Wl.drop q) = zb) := hzb.symm
      have hq0 : (0 : Int) ≤ (q : Int) := by omega
      have hqi : (q : Int) ≤ (k : Int) := by omega
      have hq5 : (q : Int) ≤ (c5 : Int) := by omega
      have hq6 : (q : Int) ≤ (c6 : Int) := by omega
      clear hp hsum hs hsa hsb hza hzb
      subst hab
      go_wp2_with fail
      refine (Fields_at (ws := Wl) (ns := Nl) L5.out L6.out _ I5.out I6.out).mono ?_
      intro e w2 hp
      obtain ⟨rfl, hb⟩ := fields_ok F0.out.1 F0.out.2 hp
      have K2 := Lib.hid (show KF wr w2 from hb)
      clear hp hb
      go_wp2_with fail
      go_region_held3 (fun w' => KF wr w') ((first | assumption | exact KF.drew K2.out)) ((go_at_call 22; (refine (Fields_at (ws := Wl.take q) (ns := Nl.take q) LA.out LA6.out _ (T5.out.below (show KF wr _ by assumption)) (T6.out.below (show KF wr _ by assumption))).mono ?_); intro e w3 hp; obtain ⟨rfl, hb⟩ := fields_ok F1.out.1 F1.out.2 hp; have hK3 := KF.step (show KF wr _ by assumption) hb; clear hp hb))
      have K3 := Lib.hid hK3
      clear hK3
      go_wp2_with fail
      go_region_held3 (fun w' => KF wr w') ((first | assumption | exact KF.drew K3.out)) ((go_at_call 22; (refine (Fields_at (ws := Wl.drop q) (ns := Nl.drop q) LB.out LB6.out _ (D5.out.below (show KF wr _ by assumption)) (D6.out.below (show KF wr _ by assumption))).mono ?_); intro e w4 hp; obtain ⟨rfl, hb⟩ := fields_ok F2.out.1 F2.out.2 hp; have hK4 := KF.step (show KF wr _ by assumption) hb; clear hp hb))
      have K4 := Lib.hid hK4
      clear hK4
      go_wp2_with fail
      have hwz : IntKind.i64.wrap (za + zb) = za + zb := IntWalk.i64_in _ (by omega)
      go_region_held3 (fun w' => KF wr w') ((first | assumption | exact KF.drew K4.out)) (first | (go_at_call 15; (refine (Num_nil _).mono ?_); rintro e w5 ⟨rfl, rfl⟩) | (go_at_call_of 23 (Value.slice A5 k c5); (refine (Size_eq (ws := Wl) L5.out Z0.out _ (I5.out.below (show KF wr _ by assumption))).mono ?_); rintro e w5 ⟨rfl, hb⟩; have hK5 := KF.step (show KF wr _ by assumption) hb; clear hb) | (go_at_call_of 23 (Value.slice A5 q c5); (refine (Size_eq (ws := Wl.take q) LA.out Z1.out _ (T5.out.below (show KF wr _ by assumption))).mono ?_); rintro e w6 ⟨rfl, hb⟩; have hK6 := KF.step (show KF wr _ by assumption) hb; clear hb) | (go_at_call_of 23 (Value.slice B5 (k - q) (c5 - q)); (refine (Size_eq (ws := Wl.drop q) LB.out Z2.out _ (D5.out.below (show KF wr _ by assumption))).mono ?_); rintro e w7 ⟨rfl, hb⟩; have hK7 := KF.step (show KF wr _ by assumption) hb; clear hb))
      have K7 := Lib.hid (bstep HB.out hK7)
      go_wp2_with fail
      go_ret
      exact ⟨rfl, K7.out⟩
end Go.Proofs.YthleapofcoidoaaDoor
