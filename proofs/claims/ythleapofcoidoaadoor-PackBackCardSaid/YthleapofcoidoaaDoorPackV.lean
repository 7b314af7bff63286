/- PackBack: the walk. -/
import Derived.Test.YthleapofcoidoaaDoorPackU
import Derived.Test.YthleapofcoidoaaDoorPackC
import Derived.Test.YthleapofcoidoaaDoorArgsK
import Derived.Deep.RegionHeld3
import Derived.Deep.AppendLies
import Derived.IntWalk
import Derived.Deep.DeepCutAuto
import Derived.Deep.QuietTactic
import Derived.BigQuiet
namespace Go.Proofs.YthleapofcoidoaaDoor
open Go.RowKit Go.Extern.Stop Go.Stop Go.Extern Go.Proofs.YthleapofcoidoaaDoorW.PrintWords Go.Proofs.YthleapofcoidoaaDoorW.PrintLast Go.Proofs.YthleapofcoidoaaDoorW.PrintMore Go.Proofs.YthleapofcoidoaaDoor.PPackPlays
set_option linter.unusedVariables false
set_option linter.unusedSimpArgs false

theorem IntsK.at {k : IntKind} {w : World} {A : Option Addr} {l : List Int} {c : Nat} (h : IntsK k w A l c) (hl : 0 < l.length) : ∃ b o, A = some ⟨b, o, none⟩ ∧ ∀ j, j < l.length → w.cell? ⟨b, o + j, none⟩ = some (.int k (rd l j)) := by
  obtain ⟨_, _, h3⟩ := h.1
  obtain ⟨ad, rfl, hc⟩ := h3 hl
  have hcc : ∀ j, j < l.length → w.cell? (ad.add j) = some (.int k (rd l j)) := by
    intro j hj
    obtain ⟨cs, _, hk, hcell⟩ := hc j _ (List.getElem?_eq_getElem hj)
    have := hcell 0 (.int k l[j]) (by rw [show cs = [Value.int k l[j]] from hk]; rfl)
    have e1 : (Kd.int k).sz = 1 := rfl
    rw [e1] at this
    rw [rd_nat l j hj]
    simpa using this
  obtain ⟨b, o, spot⟩ := ad
  have hspot : spot = none := by simpa [Addr.add] using World.cell?_spot (hcc 0 hl)
  subst hspot
  exact ⟨b, o, rfl, fun j hj => by have := hcc j hj; rw [Go.WideShapes.add_plain] at this; exact this⟩
theorem IntsK.below {k : IntKind} {w w' : World} {A : Option Addr} {l : List Int} {c : Nat} (h : IntsK k w A l c) (hb : Below w.heap.size w w') : IntsK k w' A l c := ⟨Kd.C_below h.1 hb, h.2⟩
/-- a row of the call's own reads as its numbers -/
theorem own_ints {w : World} {base n : Nat} {e : TypeId} {A : Option Addr} {c : Nat} {xs : List Int} (h : w.ownsRow base e 1 (.slice A n c) n (nums .i64 xs)) (hn : xs.length = n) : Ints w A xs c := by
  subst hn
  refine ⟨Kd.C_of_reads (readsInt_of.1 (own_reads' h)), ?_⟩
  rcases h.2 with ⟨hv, h0⟩ | ⟨g, cap, cur, hv, _, _, h1, _⟩
  · simp only [Value.slice.injEq] at hv; omega
  · simp only [Value.slice.injEq] at hv; omega
theorem Fields_at {A B : Option Addr} {ws ns : List Int} {n m c d : Nat} (hn : ws.length = n) (hm : ns.length = m) (W : World) (h : Ints W A ws c) (h2 : Ints W B ns d) :
    Calls Tryd.prog 22 #[.slice A n c, .slice B m d] W (FieldsPost ws ns W) := by subst hn; subst hm; exact Fields_any A B ws ns c d W h h2
theorem Parse_at {A : Option Addr} {ws : List Int} {n c : Nat} (hn : ws.length = n) (s : ByteArray) (W : World) (h : Ints W A ws c) (hsz : s.size ≤ 9223372036854775807) :
    Calls Tryd.prog 30 #[.slice A n c, .string s] W (ParsePost ws s W) := by subst hn; exact Parse_any A ws c s W h hsz
theorem Size_at {A : Option Addr} {ws : List Int} {n c : Nat} (hn : ws.length = n) (W : World) (h : Ints W A ws c) :
    Calls Tryd.prog 23 #[.slice A n c] W fun e w' => e = .returned (.int .i64 (sizeR ws)) ∧ Below W.heap.size W w' := by subst hn; exact Size_any A ws c W h
theorem fields_ok {ws ns : List Int} {s : ByteArray} (h : fieldsC ws ns = 0) (hs : fieldsB ws ns = s) {W : World} {e : Ending} {w' : World} (hp : FieldsPost ws ns W e w') : e = .returned (.tuple #[.string s, .nilIface]) ∧ Below W.heap.size W w' := by
  obtain ⟨v, he, hv, hb⟩ := hp
  rw [h] at hv
  rw [hv.zero, hs] at he
  exact ⟨he, hb⟩
theorem parse_ok {ws ns : List Int} {s : ByteArray} (h : parseC ws s = 0) (hl : parseL ws s = ns) {W : World} {e : Ending} {w' : World} (hp : ParsePost ws s W e w') : ∃ A c, e = .returned (.tuple #[.slice A ns.length c, .nilIface]) ∧ Ints w' A ns c ∧ Below W.heap.size W w' := by
  obtain ⟨vs, v, he, ho, hv, hb⟩ := hp
  rw [h] at hv
  rw [hl] at ho
  rw [hv.zero] at he
  obtain ⟨A, c, rfl⟩ := own_slice ho
  exact ⟨A, c, he, own_ints ho rfl, hb⟩
/-- two rows of the call's own lie apart -/
def Apart (u v : Value) : Prop := ∀ b, u.ownBlock = some b → v.ownBlock ≠ some b
theorem apart_ne {u v : Value} (h : Apart u v) : v.ownBlock = none ∨ v.ownBlock ≠ u.ownBlock := by
  cases hv : v.ownBlock with
  | none => exact .inl rfl
  | some b => exact .inr (fun e => h b e.symm hv)
theorem apart_step {u v u' : Value} {w : World} {g : Nat} (h : Apart u v) (hl : ∀ b, v.ownBlock = some b → b < w.heap.size) (hg : w.heap.size ≤ g) (h' : u'.ownBlock = u.ownBlock ∨ u'.ownBlock = some g) : Apart u' v := by
  intro b hb
  rcases h' with e | e
  · exact h b (by rw [← e]; exact hb)
  · intro hv
    have := hl b hv
    rw [e] at hb
    have := Option.some.inj hb
    omega
theorem apart_symm {u v : Value} (h : Apart u v) : Apart v u := fun b hb hu => h b hu hb
theorem sh8 (w : World) : (Op.shift BinOp.shl IntKind.i64 1 IntKind.i64 (IntKind.i64.wrap 8)).run Tryd.prog w = .ok (.int .i64 256) w := by kernel_rfl
theorem sh16 (w : World) : (Op.shift BinOp.shl IntKind.i64 1 IntKind.i64 (IntKind.i64.wrap 16)).run Tryd.prog w = .ok (.int .i64 65536) w := by kernel_rfl
theorem sh24 (w : World) : (Op.shift BinOp.shl IntKind.i64 1 IntKind.i64 (IntKind.i64.wrap 24)).run Tryd.prog w = .ok (.int .i64 16777216) w := by kernel_rfl
theorem sh32 (w : World) : (Op.shift BinOp.shl IntKind.i64 1 IntKind.i64 (IntKind.i64.wrap 32)).run Tryd.prog w = .ok (.int .i64 4294967296) w := by kernel_rfl
set_option maxRecDepth 100000 in
set_option maxHeartbeats 4000000 in
theorem back_go (A B : Option Addr) (zs ns : List Int) (c d : Nat) (hl : zs.length ≤ 40) (hm : zs.length ≤ ns.length) (W : World) (tied : Tied W)
    (h1 : IntsK .u8 W A zs c) (h2 : IntsK .u32 W B ns d) (hw : ∀ j, j < zs.length → 0 ≤ rd zs j ∧ rd zs j ≤ 255) (hv : ∀ j, j < zs.length → 0 ≤ rd ns j ∧ rd ns j ≤ 4294967295) :
    Calls Tryd.prog 10 #[.slice A zs.length c, .slice B ns.length d] W fun e w' => e = .returned (.bool true) ∧ Below W.heap.size W w' := by
  obtain ⟨i0, hi, hz0, hz1, hz2⟩ := info_parts info_int
  have T := Lib.hid tied
  have H1 := Lib.hid h1
  have H2 := Lib.hid h2
  have HW := Lib.hid hw
  have HV := Lib.hid hv
  have hn9 : ns.length ≤ 9223372036854775807 := h2.1.2.1
  clear tied h1 h2 hw hv
  have hd1 : decide ((40 : Int) < (zs.length : Int)) = false := by simp; omega
  have hd2 : decide (ns.length < zs.length) = false := by simp; omega
  have s8 := sh8
  have s16 := sh16
  have s24 := sh24
  have s32 := sh32
  go_enter Tryd.func10, Tryd.ntmps10
  go_wp2_with fail
  refine (pack_awake _).mono ?_
  rintro e w1 ⟨rfl, hb⟩
  have HB1 := Lib.hid hb
  clear hb
  go_wp2_with fail
  go_loopw [5, 6, 7, 8] (fun u v i _ wl => ∃ k : Nat, k ≤ zs.length ∧ i = .int .i64 k ∧ wl.ownsRow W.heap.size 3 1 u k (nums .i64 (wsOf zs k)) ∧ wl.ownsRow W.heap.size 3 1 v k (nums .i64 (nsOf zs ns k)) ∧ Apart u v ∧ Below W.heap.size W wl) (fun _ _ i _ _ => zs.length - (intOf i).toNat)
  case atStart => exact ⟨0, Nat.zero_le _, rfl, own_nil _ _ _ _, own_nil _ _ _ _, fun b h => by simp [Value.ownBlock] at h, HB1.out⟩
  case round =>
    obtain ⟨k, hk, rfl, ho1, ho2, hap, hb⟩ := hrel
    have O1 := Lib.hid ho1
    have O2 := Lib.hid ho2
    have AP := Lib.hid hap
    have HB := Lib.hid hb
    have hzz : W.heap.size ≤ wr.heap.size := hb.size
    clear ho1 ho2 hap hb
    by_cases hlt : k < zs.length
    · have hltb : decide (k < zs.length) = true := by simpa using hlt
      obtain ⟨b1, o1, rfl, hc1⟩ := H1.out.at (by omega)
      obtain ⟨b2, o2, rfl, hc2⟩ := H2.out.at (by omega)
      have hi1 : (k : Int) < (zs.length : Int) := by omega
      have hi2 : (k : Int) < (ns.length : Int) := by omega
      obtain ⟨z, hz⟩ : ∃ z, z = rd zs k := ⟨_, rfl⟩
      obtain ⟨y, hy⟩ : ∃ y, y = rd ns k := ⟨_, rfl⟩
      have x1 : wr.cell? ⟨b1, o1 + k, none⟩ = some (.int .u8 z) := by rw [hz]; exact (HB.out.cell (cell_lt (hc1 k hlt))).trans (hc1 k hlt)
      have C2 : Hid (W.cell? ⟨b2, o2 + k, none⟩ = some (.int .u32 y)) := by rw [hy]; exact hc2 k (by omega)
      obtain ⟨z0, z1⟩ := HW.out k hlt
      obtain ⟨y0, y1⟩ := HV.out k hlt
      rw [← hz] at z0 z1
      rw [← hy] at y0 y1
      have HZ := Lib.hid hz
      have HY := Lib.hid hy
      clear hz hy hc1 hc2
      rcases (show z % 4 = 0 ∨ z % 4 = 1 ∨ z % 4 = 2 ∨ z % 4 = 3 by omega) with hj | hj | hj | hj
      all_goals
        go_wp2_with (at_builtin; refine wpList_append_own_at _ rfl _ _ 48 rfl W.heap.size 3 i0 (.int .i64 0) 1 8 Tryd.underlying48 hi hz0 hz1 hz2 rfl (by decide) _ _ _ rfl (O1.out.alloc _) ⟨wr.heap.size, 0, none⟩ 1 1 _ rfl rfl (cell_one_new _ _ _) (fun u hu => by simp at hu; subst hu; rfl) (by unfold maxLen; omega) (by omega) (by simp; omega) ?_; intro v' w3 hown' hg _ hat; have O3 := Lib.hid hown'; have G3 := Lib.hid hg; have AT3 := Lib.hid hat; clear hown' hg hat)
      all_goals
        have hz3 : W.heap.size ≤ w3.heap.size := by have := G3.out.size; simp at this; omega
        have HB3 := Lib.hid ((HB.out.alloc hzz _).grown G3.out (by simp; omega) (fun k hk => (O1.out.lt k hk).1))
        have O4 := Lib.hid ((O2.out.alloc _).kept G3.out (apart_ne AP.out))
        have AP3 := Lib.hid (apart_step AP.out (fun b h => (O2.out.lt b h).2) (by simp) AT3.out)
        have x2 : w3.cell? ⟨b2, o2 + k, none⟩ = some (.int .u32 y) := (HB3.out.cell (cell_lt C2.out)).trans C2.out
        have hwy : IntKind.i64.wrap y = y := IntWalk.i64_in _ (by omega)
        have ht1 : Int.tmod y 256 = y % 256 := Int.tmod_eq_emod_of_nonneg y0
        have ht2 : Int.tmod y 65536 = y % 65536 := Int.tmod_eq_emod_of_nonneg y0
        have ht3 : Int.tmod y 16777216 = y % 16777216 := Int.tmod_eq_emod_of_nonneg y0
        have ht4 : Int.tmod y 4294967296 = y % 4294967296 := Int.tmod_eq_emod_of_nonneg y0
        have ag : u6.ownBlock ≠ some b2 := fun h => by have := (O2.out.lt _ h).1; have := cell_lt C2.out; simp at this; omega
        have hlt2 : b2 < w3.heap.size := cell_lt x2
        go_region_held3 (fun w' => w'.cell? ⟨b2, o2 + k, none⟩ = some (.int .u32 y)) (first | go_keep | ((rw [hgrow.cell_far _ (by simp; omega) (Ne.symm ag)]; assumption))) (first | (refine step_append_lies _ (by rfl) _ _ _ (by rfl) W.heap.size 3 i0 (.int .i64 0) 1 8 Tryd.underlying48 hi hz0 hz1 hz2 rfl (by omega) u6 k (nums .i64 (nsOf zs ns k)) (by rfl) ((O4.out.alloc _).drew) ⟨w3.heap.size, 0, none⟩ 1 1 [.int .i64 (y % 256)] (by rfl) (by rfl) (World.news_of_block (cs := #[.int .i64 (y % 256)]) (t := 3) (fr := (0, 0)) (heap_alloc_new w3 _)) (by simp [Value.oneCell']) (by omega) (by unfold maxLen; omega) (by omega) (by simp; omega) (w3.heap.size + 1) (by simp) ?_; intro gg cap w4 hown1 hgrow hat hlt) | (refine step_append_lies _ (by rfl) _ _ _ (by rfl) W.heap.size 3 i0 (.int .i64 0) 1 8 Tryd.underlying48 hi hz0 hz1 hz2 rfl (by omega) u6 k (nums .i64 (nsOf zs ns k)) (by rfl) ((O4.out.alloc _).drew) ⟨w3.heap.size, 0, none⟩ 1 1 [.int .i64 y] (by rfl) (by rfl) (World.news_of_block (cs := #[.int .i64 y]) (t := 3) (fr := (0, 0)) (heap_alloc_new w3 _)) (by simp [Value.oneCell']) (by omega) (by unfold maxLen; omega) (by omega) (by simp; omega) (w3.heap.size + 1) (by simp) ?_; intro gg cap w4 hown1 hgrow hat hlt) | (refine step_append_lies _ (by rfl) _ _ _ (by rfl) W.heap.size 3 i0 (.int .i64 0) 1 8 Tryd.underlying48 hi hz0 hz1 hz2 rfl (by omega) u6 k (nums .i64 (nsOf zs ns k)) (by rfl) ((O4.out.alloc _).drew) ⟨w3.heap.size, 0, none⟩ 1 1 [.int .i64 (y % 65536)] (by rfl) (by rfl) (World.news_of_block (cs := #[.int .i64 (y % 65536)]) (t := 3) (fr := (0, 0)) (heap_alloc_new w3 _)) (by simp [Value.oneCell']) (by omega) (by unfold maxLen; omega) (by omega) (by simp; omega) (w3.heap.size + 1) (by simp) ?_; intro gg cap w4 hown1 hgrow hat hlt) | (refine step_append_lies _ (by rfl) _ _ _ (by rfl) W.heap.size 3 i0 (.int .i64 0) 1 8 Tryd.underlying48 hi hz0 hz1 hz2 rfl (by omega) u6 k (nums .i64 (nsOf zs ns k)) (by rfl) ((O4.out.alloc _).drew) ⟨w3.heap.size, 0, none⟩ 1 1 [.int .i64 (y % 16777216)] (by rfl) (by rfl) (World.news_of_block (cs := #[.int .i64 (y % 16777216)]) (t := 3) (fr := (0, 0)) (heap_alloc_new w3 _)) (by simp [Value.oneCell']) (by omega) (by unfold maxLen; omega) (by omega) (by simp; omega) (w3.heap.size + 1) (by simp) ?_; intro gg cap w4 hown1 hgrow hat hlt) | (refine step_append_lies _ (by rfl) _ _ _ (by rfl) W.heap.size 3 i0 (.int .i64 0) 1 8 Tryd.underlying48 hi hz0 hz1 hz2 rfl (by omega) u6 k (nums .i64 (nsOf zs ns k)) (by rfl) ((O4.out.alloc _).drew) ⟨w3.heap.size, 0, none⟩ 1 1 [.int .i64 (y % 4294967296)] (by rfl) (by rfl) (World.news_of_block (cs := #[.int .i64 (y % 4294967296)]) (t := 3) (fr := (0, 0)) (heap_alloc_new w3 _)) (by simp [Value.oneCell']) (by omega) (by unfold maxLen; omega) (by omega) (by simp; omega) (w3.heap.size + 1) (by simp) ?_; intro gg cap w4 hown1 hgrow hat hlt))
      all_goals
        have O5 := Lib.hid (((O3.out.alloc _).drew).kept hgrow (apart_ne (apart_symm AP3.out)))
        have AP5 := Lib.hid (apart_symm (apart_step (u' := .slice (some ⟨gg, 0, none⟩) (k + 1) cap) (g := w3.heap.size + 1) (apart_symm AP3.out) (fun b h => (O3.out.lt b h).2) (by omega) (by rcases hat with h | h; exact .inl h.symm; exact .inr (congrArg some h))))
        have HB4 := Lib.hid (((HB3.out.alloc hz3 _).drew).grown hgrow (by simp; omega) (fun k hk => (O2.out.lt k hk).1))
        have O6 := Lib.hid hown1
        clear hown1 hgrow hat hlt
        go_wp2_with fail
        go_roundw
        case rel =>
          refine ⟨k + 1, by omega, by go_num, ?_, ?_, AP5.out, HB4.out⟩
          · have h := O5.out
            rw [wsOf, nums_append, ← HZ.out, hj]
            exact h
          · have h := O6.out
            rw [nsOf, nums_append, ← HZ.out, ← HY.out, hj]
            first
              | exact h
              | (rw [show y % 256 ^ ((1 : Int) + 3).toNat = y from Int.emod_eq_of_lt y0 (Int.lt_of_le_of_lt y1 (by decide))]; exact h)
        case measure => simp [intOf]; omega
    · as_aux_lemma =>
      have hltb : decide (k < zs.length) = false := by simpa using hlt
      obtain ⟨A5, c5, rfl⟩ := own_slice O1.out
      obtain ⟨A6, c6, rfl⟩ := own_slice O2.out
      obtain ⟨Wl, hWl⟩ : ∃ Wl, Wl = wsOf zs k := ⟨_, rfl⟩
      obtain ⟨Nl, hNl⟩ : ∃ Nl, Nl = nsOf zs ns k := ⟨_, rfl⟩
      obtain ⟨s, hs⟩ : ∃ s, s = fieldsB Wl Nl := ⟨_, rfl⟩
      have I5 : Hid (Ints wr A5 Wl c5) := by rw [hWl]; exact own_ints O1.out (wsOf_length _ _)
      have I6 : Hid (Ints wr A6 Nl c6) := by rw [hNl]; exact own_ints O2.out (nsOf_length _ _ _)
      have L5 : Hid (Wl.length = k) := by rw [hWl]; exact wsOf_length _ _
      have L6 : Hid (Nl.length = k) := by rw [hNl]; exact nsOf_length _ _ _
      have FC : Hid (fieldsC Wl Nl = 0) := by rw [hWl, hNl]; exact fieldsC_of zs ns k (by omega)
      have FB : Hid (fieldsB Wl Nl = s) := hs.symm
      have PC : Hid (parseC Wl s = 0 ∧ parseL Wl s = Nl) := by rw [hs]; exact parse_fields FC.out
      have hsz : (s.size : Int) = sizeR Wl := by rw [hs]; exact fieldsB_size FC.out
      have hszb : ((s.size : Int) == sizeR Wl) = true := by simpa using hsz
      have hs9 : s.size ≤ 9223372036854775807 := by
        have h1 := fieldsTo_le Wl Nl Nl.length
        have h2 : s.size = (fieldsTo Wl Nl Nl.length).length := by rw [hs]; unfold fieldsB; rw [if_pos FC.out]; exact List.size_toArray
        have := L6.out
        omega
      clear hsz hs hWl hNl hlt
      go_wp2_with fail
      refine (Fields_at (ws := Wl) (ns := Nl) L5.out L6.out _ I5.out I6.out).mono ?_
      intro e w2 hp
      obtain ⟨rfl, hb⟩ := fields_ok FC.out FB.out hp
      have HB2 := Lib.hid (bstep HB.out hb)
      have J5 := Lib.hid (I5.out.below hb)
      have J6 := Lib.hid (I6.out.below hb)
      clear hp hb
      go_wp2_with fail
      refine (Parse_at (ws := Wl) L5.out s _ J5.out hs9).mono ?_
      intro e w3 hp
      obtain ⟨Al, cl, rfl, hil, hb⟩ := parse_ok PC.out.1 PC.out.2 hp
      rw [L6.out]
      have HB3 := Lib.hid (bstep HB2.out hb)
      have M5 := Lib.hid (J5.out.below hb)
      have M6 := Lib.hid (J6.out.below hb)
      have ML := Lib.hid hil
      clear hp hb hil
      go_wp2_with fail
      go_loopw [13] (fun i wl => ∃ j : Nat, j ≤ k ∧ i = .int .i64 j ∧ Below w3.heap.size w3 wl) (fun i _ => k - (intOf i).toNat)
      case atStart => exact ⟨0, Nat.zero_le _, rfl, Below.refl _ _⟩
      case round =>
        obtain ⟨j, hj, rfl, hb⟩ := hrel
        have HBj := Lib.hid hb
        clear hb
        by_cases hlt : j < k
        · have hltb : decide (j < k) = true := by simpa using hlt
          obtain ⟨g1, p1, rfl, q1⟩ := ML.out.at (by have := L6.out; omega)
          obtain ⟨g2, p2, rfl, q2⟩ := M6.out.at (by have := L6.out; omega)
          have hi1 : (j : Int) < (k : Int) := by omega
          have hjl : j < Nl.length := by have := L6.out; omega
          have x1 : wr.cell? ⟨g1, p1 + j, none⟩ = some (.int .i64 (rd Nl j)) := (HBj.out.cell (cell_lt (q1 j hjl))).trans (q1 j hjl)
          have x2 : wr.cell? ⟨g2, p2 + j, none⟩ = some (.int .i64 (rd Nl j)) := (HBj.out.cell (cell_lt (q2 j hjl))).trans (q2 j hjl)
          clear q1 q2
          go_wp2_with fail
          go_quiet (fail)
          go_wp2_with fail
          go_roundw
          case rel => exact ⟨j + 1, by omega, by go_num, bstep HBj.out (Drawn0.below ⟨⟨_, rfl⟩⟩)⟩
          case measure => simp [intOf]; omega
        · have hltb : decide (j < k) = false := by simpa using hlt
          have HBf := Lib.hid (bstep HB3.out HBj.out)
          have N5 := Lib.hid (M5.out.below HBj.out)
          go_wp2_with fail
          refine (Num_nil _).mono ?_
          rintro e w4 ⟨rfl, rfl⟩
          go_wp2_with fail
          refine (Num_nil _).mono ?_
          rintro e w4 ⟨rfl, rfl⟩
          go_wp2_with fail
          refine (Size_at (ws := Wl) L5.out _ N5.out).mono ?_
          rintro e w5 ⟨rfl, hb⟩
          have HB5 := Lib.hid (bstep HBf.out hb)
          clear hb
          go_wp2_with fail
          go_ret
          exact ⟨rfl, HB5.out⟩
end Go.Proofs.YthleapofcoidoaaDoor
