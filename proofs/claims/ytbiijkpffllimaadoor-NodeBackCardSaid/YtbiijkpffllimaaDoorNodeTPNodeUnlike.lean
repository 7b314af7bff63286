/- Nodes: what is read of bytes (plain), and that what is laid is read as it was. -/
import Derived.Test.YtbiijkpffllimaaDoorNodeLPNodeUnlike
namespace Go.Proofs.YtbiijkpffllimaaDoor
open Go.RowKit Go.Proofs.YtbiijkpffllimaaDoorW.PrintWords Go.Proofs.YtbiijkpffllimaaDoorW.PrintLast Go.Proofs.YtbiijkpffllimaaDoorW.PrintMore Go.Proofs.YtbiijkpffllimaaDoor.PNodeUnlike
set_option linter.unusedVariables false
set_option linter.unusedSimpArgs false

/-- what is left of the bytes, and whether there were enough -/
abbrev St := ByteArray × Bool
def tk (n : Nat) (st : St) : ByteArray × St := if st.1.size < n then (⟨#[]⟩, (st.1, false)) else (st.1.extract 0 n, (st.1.extract n st.1.size, st.2))
def nb (w : Nat) (st : St) : Int × St := (if (tk w st).1.size < w then 0 else getK (tk w st).1 w, (tk w st).2)
def runN (w : Nat) (st : St) : Nat → List Int × St
  | 0 => ([], st)
  | k + 1 => ((runN w st k).1 ++ [(nb w (runN w st k).2).1], (nb w (runN w st k).2).2)
def runV (w : Nat) (st : St) : Nat → List ByteArray × St
  | 0 => ([], st)
  | k + 1 => ((runV w st k).1 ++ [(tk w (runV w st k).2).1], (tk w (runV w st k).2).2)
theorem runN_length (w : Nat) (st : St) : ∀ k, (runN w st k).1.length = k
  | 0 => rfl
  | k + 1 => by rw [runN, List.length_append, runN_length w st k]; rfl
theorem runV_length (w : Nat) (st : St) : ∀ k, (runV w st k).1.length = k
  | 0 => rfl
  | k + 1 => by rw [runV, List.length_append, runV_length w st k]; rfl
theorem runN_cons (w : Nat) (st : St) : ∀ k, runN w st (k + 1) = ((nb w st).1 :: (runN w (nb w st).2 k).1, (runN w (nb w st).2 k).2)
  | 0 => rfl
  | k + 1 => by rw [runN, runN_cons w st k]; rfl
theorem runV_cons (w : Nat) (st : St) : ∀ k, runV w st (k + 1) = ((tk w st).1 :: (runV w (tk w st).2 k).1, (runV w (tk w st).2 k).2)
  | 0 => rfl
  | k + 1 => by rw [runV, runV_cons w st k]; rfl
structure Parts where
  ks : List Int
  vs : List ByteArray
  kd : List Int
  ok : Bool
def kindS (d : ByteArray) : Int × St := nb 1 (d, true)
def countS (d : ByteArray) : Int × St := nb 1 (kindS d).2
def keysP (d : ByteArray) : List Int × St := runN 4 (countS d).2 (countS d).1.toNat
def valsP (d : ByteArray) : List ByteArray × St := runV 12 (keysP d).2 ((countS d).1 * (1 - (kindS d).1)).toNat
def kidsP (d : ByteArray) : List Int × St := runN 1 (valsP d).2 (((countS d).1 + 1) * (kindS d).1).toNat
/-- a node's parts -/
def partsR (d : ByteArray) : Parts :=
  if 1 < (kindS d).1 ∨ 7 < (countS d).1 then ⟨[], [], [], false⟩ else ⟨(keysP d).1, (valsP d).1, (kidsP d).1, (kidsP d).2.2 && decide ((kidsP d).2.1.size = 0)⟩
theorem tk_append (a b : ByteArray) (ok : Bool) (n : Nat) (h : a.size = n) : tk n (a ++ b, ok) = (a, (b, ok)) := by
  unfold tk
  have hs : (a ++ b).size = a.size + b.size := ByteArray.size_append
  rw [if_neg (by show ¬ (a ++ b).size < n; omega)]
  show ((a ++ b).extract 0 n, ((a ++ b).extract n (a ++ b).size, ok)) = _
  rw [ByteArray.extract_append_eq_right h.symm (by rw [hs])]
  have e : (a ++ b).extract 0 n = a := by rw [← h]; exact ByteArray.extract_append_eq_left rfl
  rw [e]
theorem getK_putB {w n : Int} (h : fitsB w n = true) : getK (putB w n) w.toNat = n := by
  have := getK_put h ⟨#[]⟩
  rwa [show putB w n ++ (⟨#[]⟩ : ByteArray) = putB w n from by apply ByteArray.ext; simp] at this
theorem nb_append (w : Nat) (n : Int) (b : ByteArray) (ok : Bool) (h : fitsB (w : Int) n = true) : nb w (putB w n ++ b, ok) = (n, (b, ok)) := by
  have hs : (putB (w : Int) n).size = w := by have := putB_size h; omega
  have hg := getK_putB h
  unfold nb
  rw [tk_append _ _ _ _ hs]
  show (if (putB (w : Int) n).size < w then 0 else getK (putB (w : Int) n) w, (b, ok)) = _
  rw [if_neg (by omega)]
  rw [Int.toNat_natCast] at hg
  rw [hg]
def catN (w : Nat) : List Int → ByteArray
  | [] => ⟨#[]⟩
  | x :: l => putB w x ++ catN w l
def catV : List ByteArray → ByteArray
  | [] => ⟨#[]⟩
  | x :: l => x ++ catV l
theorem nil_append (b : ByteArray) : (⟨#[]⟩ : ByteArray) ++ b = b := by apply ByteArray.ext; simp
theorem append_nil (b : ByteArray) : b ++ (⟨#[]⟩ : ByteArray) = b := by apply ByteArray.ext; simp
theorem catN_snoc (w : Nat) (x : Int) : ∀ l, catN w (l ++ [x]) = catN w l ++ putB w x
  | [] => by show putB w x ++ (⟨#[]⟩ : ByteArray) = (⟨#[]⟩ : ByteArray) ++ putB w x; rw [append_nil, nil_append]
  | y :: l => by rw [List.cons_append, catN, catN_snoc w x l, catN, ByteArray.append_assoc]
theorem catV_snoc (x : ByteArray) : ∀ l, catV (l ++ [x]) = catV l ++ x
  | [] => by show x ++ (⟨#[]⟩ : ByteArray) = (⟨#[]⟩ : ByteArray) ++ x; rw [append_nil, nil_append]
  | y :: l => by rw [List.cons_append, catV, catV_snoc x l, catV, ByteArray.append_assoc]
theorem keysS_cat (ks : List Int) (s0 : ByteArray) : ∀ k, k ≤ ks.length → keysS ks s0 k = s0 ++ catN 4 (ks.take k)
  | 0, _ => by rw [keysS, List.take_zero, catN, append_nil]
  | k + 1, h => by rw [keysS, keysS_cat ks s0 k (by omega), List.take_succ_eq_append_getElem h, catN_snoc, rd_at ks k h, ByteArray.append_assoc]; rfl
theorem kidsS_cat (ks : List Int) (s0 : ByteArray) : ∀ k, k ≤ ks.length → kidsS ks s0 k = s0 ++ catN 1 (ks.take k)
  | 0, _ => by rw [kidsS, List.take_zero, catN, append_nil]
  | k + 1, h => by rw [kidsS, kidsS_cat ks s0 k (by omega), List.take_succ_eq_append_getElem h, catN_snoc, rd_at ks k h, ByteArray.append_assoc]; rfl
theorem valsS_cat (vs : List ByteArray) (s0 : ByteArray) : ∀ k, k ≤ vs.length → valsS vs s0 k = s0 ++ catV (vs.take k)
  | 0, _ => by rw [valsS, List.take_zero, catV, append_nil]
  | k + 1, h => by rw [valsS, valsS_cat vs s0 k (by omega), List.take_succ_eq_append_getElem h, catV_snoc, rdOf_at vs k h, ByteArray.append_assoc]
theorem layS_cat (ks : List Int) (vs : List ByteArray) (kd : List Int) : layS ks vs kd = putB 1 (kindI kd) ++ (putB 1 ks.length ++ (catN 4 ks ++ (catV vs ++ catN 1 kd))) := by
  unfold layS headS
  rw [kidsS_cat _ _ _ (Nat.le_refl _), valsS_cat _ _ _ (Nat.le_refl _), keysS_cat _ _ _ (Nat.le_refl _), List.take_length, List.take_length, List.take_length]
  simp only [ByteArray.append_assoc]
theorem runN_cat (w : Nat) (b : ByteArray) (ok : Bool) : ∀ l : List Int, (∀ x ∈ l, fitsB (w : Int) x = true) → runN w (catN w l ++ b, ok) l.length = (l, (b, ok))
  | [], _ => by rw [catN, nil_append]; rfl
  | x :: l, h => by
    rw [List.length_cons, runN_cons, catN, ByteArray.append_assoc, nb_append w x _ ok (h x List.mem_cons_self)]
    show (x :: (runN w (catN w l ++ b, ok) l.length).1, (runN w (catN w l ++ b, ok) l.length).2) = _
    rw [runN_cat w b ok l (fun y hy => h y (List.mem_cons_of_mem _ hy))]
theorem runV_cat (b : ByteArray) (ok : Bool) : ∀ l : List ByteArray, (∀ x ∈ l, x.size = 12) → runV 12 (catV l ++ b, ok) l.length = (l, (b, ok))
  | [], _ => by rw [catV, nil_append]; rfl
  | x :: l, h => by
    rw [List.length_cons, runV_cons, catV, ByteArray.append_assoc, tk_append x _ ok 12 (h x List.mem_cons_self)]
    show (x :: (runV 12 (catV l ++ b, ok) l.length).1, (runV 12 (catV l ++ b, ok) l.length).2) = _
    rw [runV_cat b ok l (fun y hy => h y (List.mem_cons_of_mem _ hy))]
theorem fits_of {w : Nat} {n : Int} (h1 : 1 ≤ w) (h4 : w ≤ 4) (h0 : 0 ≤ n) (h : n < 256 ^ w) : fitsB (w : Int) n = true := by
  unfold fitsB
  refine decide_eq_true ⟨by omega, by omega, h0, ?_⟩
  rw [Int.toNat_natCast]; exact h
structure NodeG (ks : List Int) (vs : List ByteArray) (kd : List Int) : Prop where
  k : ∀ x ∈ ks, fitsB ((4 : Nat) : Int) x = true
  v : ∀ x ∈ vs, x.size = 12
  d : ∀ x ∈ kd, fitsB ((1 : Nat) : Int) x = true
  h1 : fitsB ((1 : Nat) : Int) (kindI kd) = true
  h2 : fitsB ((1 : Nat) : Int) (ks.length : Int) = true
  nv : ((ks.length : Int) * (1 - kindI kd)).toNat = vs.length
  nd : (((ks.length : Int) + 1) * kindI kd).toNat = kd.length
theorem node_g {ks : List Int} {vs : List ByteArray} {kd : List Int} (h : nodeB ks vs kd = true) : NodeG ks vs kd := by
  have f := node_facts h
  refine ⟨fun x hx => ?_, fun x hx => ?_, fun x hx => ?_, ?_, ?_, ?_, ?_⟩
  · obtain ⟨i, hi, rfl⟩ := List.mem_iff_getElem.1 hx
    have := of_decide_eq_true (allN_all.1 f.r i hi)
    rw [rd_at ks i hi] at this
    exact fits_of (by omega) (by omega) this.1 (by omega)
  · obtain ⟨i, hi, rfl⟩ := List.mem_iff_getElem.1 hx
    have := of_decide_eq_true (allN_all.1 f.v i hi)
    rw [rdOf_at vs i hi] at this
    omega
  · obtain ⟨i, hi, rfl⟩ := List.mem_iff_getElem.1 hx
    have hk := allN_all.1 f.d i hi
    unfold kidK at hk
    have := of_decide_eq_true (Bool.and_eq_true_iff.1 hk).1
    rw [rd_at kd i hi] at this
    exact fits_of (by omega) (by omega) (by omega) (by omega)
  · unfold kindI; split <;> exact fits_of (by omega) (by omega) (by omega) (by omega)
  · have := f.k7; exact fits_of (by omega) (by omega) (by omega) (by omega)
  · unfold nodeB at h
    unfold kindI
    split
    · rename_i hk
      rw [if_pos hk, Bool.and_eq_true, Bool.and_eq_true] at h
      have := of_decide_eq_true h.2.2
      omega
    · rename_i hk
      rw [if_neg hk, Bool.and_eq_true, Bool.and_eq_true] at h
      have := of_decide_eq_true h.2.2
      omega
  · unfold nodeB at h
    unfold kindI
    split
    · rename_i hk; omega
    · rename_i hk
      rw [if_neg hk, Bool.and_eq_true, Bool.and_eq_true] at h
      have := of_decide_eq_true h.2.2
      omega
theorem parts_at {ks : List Int} {vs : List ByteArray} {kd : List Int} (h : nodeB ks vs kd = true) (b : ByteArray) : partsR (layS ks vs kd ++ b) = ⟨ks, vs, kd, decide (b.size = 0)⟩ := by
  have f := node_facts h
  have g := node_g h
  have e1 : kindS (layS ks vs kd ++ b) = (kindI kd, (putB 1 ks.length ++ (catN 4 ks ++ (catV vs ++ (catN 1 kd ++ b))), true)) := by
    unfold kindS
    rw [layS_cat]
    simp only [ByteArray.append_assoc]
    exact nb_append 1 _ _ true g.h1
  have e2 : countS (layS ks vs kd ++ b) = ((ks.length : Int), (catN 4 ks ++ (catV vs ++ (catN 1 kd ++ b)), true)) := by
    unfold countS; rw [e1]; exact nb_append 1 _ _ true g.h2
  have e3 : keysP (layS ks vs kd ++ b) = (ks, (catV vs ++ (catN 1 kd ++ b), true)) := by
    unfold keysP; rw [e2]; exact runN_cat 4 _ true ks g.k
  have e4 : valsP (layS ks vs kd ++ b) = (vs, (catN 1 kd ++ b, true)) := by
    unfold valsP; rw [e3, e2, e1]
    show runV 12 _ (((ks.length : Int) * (1 - kindI kd)).toNat) = _
    rw [g.nv]; exact runV_cat _ true vs g.v
  have e5 : kidsP (layS ks vs kd ++ b) = (kd, (b, true)) := by
    unfold kidsP; rw [e4, e2, e1]
    show runN 1 _ ((((ks.length : Int) + 1) * kindI kd).toNat) = _
    rw [g.nd]; exact runN_cat 1 _ true kd g.d
  have hk : kindI kd ≤ 1 := by unfold kindI; split <;> omega
  have h7 := f.k7
  unfold partsR
  rw [e1, e2, if_neg (by show ¬ (1 < kindI kd ∨ 7 < (ks.length : Int)); omega), e3, e4, e5]
  rfl
theorem parts_lay {ks : List Int} {vs : List ByteArray} {kd : List Int} (h : nodeB ks vs kd = true) : partsR (layS ks vs kd) = ⟨ks, vs, kd, true⟩ := by
  have := parts_at h ⟨#[]⟩
  rwa [append_nil] at this
theorem lay_inj {ks : List Int} {vs : List ByteArray} {kd ks' : List Int} {vs' : List ByteArray} {kd' : List Int} (h : nodeB ks vs kd = true) (h' : nodeB ks' vs' kd' = true) (e : layS ks vs kd = layS ks' vs' kd') : ks = ks' ∧ vs = vs' ∧ kd = kd' := by
  have h1 := parts_lay h
  rw [e, parts_lay h'] at h1
  injection h1 with a b c
  exact ⟨a.symm, b.symm, c.symm⟩
end Go.Proofs.YtbiijkpffllimaaDoor
