/- What is laid is read as it was; fields in two parts: plain laws. -/
import Derived.Test.YtlcnhagcomljnaaDoorKPackQPRecUnlike
namespace Go.Proofs.YtlcnhagcomljnaaDoor
open Go.RowKit Go.Proofs.YtlcnhagcomljnaaDoorW.PrintWords Go.Proofs.YtlcnhagcomljnaaDoorW.PrintLast Go.Proofs.YtlcnhagcomljnaaDoorW.PrintMore Go.Proofs.YtlcnhagcomljnaaDoor.PRecUnlike
set_option linter.unusedVariables false
set_option linter.unusedSimpArgs false

/-- the bytes of d fields from field k on -/
def fieldsFrom (ws ns : List Int) : Nat → Nat → List UInt8
  | _, 0 => []
  | k, d + 1 => (putB (rd ws k) (rd ns k)).data.toList ++ fieldsFrom ws ns (k + 1) d
theorem fieldsTo_from (ws ns : List Int) : ∀ d k, fieldsTo ws ns (k + d) = fieldsTo ws ns k ++ fieldsFrom ws ns k d
  | 0, k => by simp [fieldsFrom]
  | d + 1, k => by
    have ih := fieldsTo_from ws ns d (k + 1)
    rw [show k + (d + 1) = k + 1 + d by omega, ih, fieldsTo, fieldsFrom, List.append_assoc]
def strL (l : List UInt8) : ByteArray := ⟨l.toArray⟩
theorem strL_append (a b : List UInt8) : strL (a ++ b) = strL a ++ strL b := by
  apply ByteArray.ext; simp [strL]
theorem strL_put (s : ByteArray) : strL s.data.toList = s := by
  apply ByteArray.ext; simp [strL]
theorem extract_behind (a b : ByteArray) (k : Nat) (h : k = a.size) : (a ++ b).extract k (a ++ b).size = b := by
  exact ByteArray.extract_append_eq_right h (by rw [ByteArray.size_append])
theorem rest_from (ws ns : List Int) (n : Nat) (hf : fitTo ws ns n) : ∀ k, k ≤ n → restK ws (strL (fieldsTo ws ns n)) k = strL (fieldsFrom ws ns k (n - k))
  | 0, _ => by
    have := fieldsTo_from ws ns n 0
    simp only [Nat.zero_add, fieldsTo, List.nil_append] at this
    rw [restK, this, Nat.sub_zero]
  | k + 1, hk => by
    have ih := rest_from ws ns n hf k (by omega)
    have hs := putB_size (hf k (by omega))
    rw [restK, ih, show n - k = (n - (k + 1)) + 1 by omega, fieldsFrom, strL_append, strL_put]
    exact extract_behind _ _ _ (by omega)
theorem parse_to (ws ns : List Int) (n : Nat) (hn : n = ns.length) (hf : fitTo ws ns n) : ∀ k, k ≤ n → parseTo ws (strL (fieldsTo ws ns n)) k = ns.take k
  | 0, _ => by simp [parseTo]
  | k + 1, hk => by
    have ih := parse_to ws ns n hn hf k (by omega)
    have hfk := hf k (by omega)
    rw [parseTo, ih, rest_from ws ns n hf k (by omega), show n - k = (n - (k + 1)) + 1 by omega, fieldsFrom, strL_append, strL_put, getK_put hfk, List.take_succ_eq_append_getElem (by omega), rd_nat ns k (by omega)]
theorem fieldsC_zero {ws ns : List Int} (h : fieldsC ws ns = 0) : 0 ≤ sizeR ws ∧ ws.length = ns.length ∧ fitTo ws ns ns.length := by
  unfold fieldsC at h
  by_cases q : sizeR ws < 0 ∨ ws.length ≠ ns.length
  · rw [if_pos q] at h; cases h
  · rw [if_neg q] at h
    by_cases f : fitTo ws ns ns.length
    · exact ⟨by omega, by omega, f⟩
    · rw [if_neg f] at h; cases h
theorem sizeR_sum {ws : List Int} (h : 0 ≤ sizeR ws) : sizeR ws = ws.sum := by
  unfold sizeR at h ⊢
  by_cases q : ws.length ≤ 40 ∧ ws.all mayB = true
  · rw [if_pos q]
  · rw [if_neg q] at h; omega
theorem fieldsB_size {ws ns : List Int} (h : fieldsC ws ns = 0) : ((fieldsB ws ns).size : Int) = sizeR ws := by
  obtain ⟨h0, h1, h2⟩ := fieldsC_zero h
  have e := fieldsTo_size ws ns ns.length h2 (by omega)
  rw [List.take_of_length_le (by omega)] at e
  unfold fieldsB
  rw [if_pos h, sizeR_sum h0, ← e]
  show ((List.toArray _).size : Int) = _
  rw [List.size_toArray]
/-- what is laid is read as it was -/
theorem parse_fields {ws ns : List Int} (h : fieldsC ws ns = 0) : parseC ws (fieldsB ws ns) = 0 ∧ parseL ws (fieldsB ws ns) = ns := by
  obtain ⟨h0, h1, h2⟩ := fieldsC_zero h
  have hs := fieldsB_size h
  have hc : parseC ws (fieldsB ws ns) = 0 := by
    unfold parseC
    rw [if_neg (by omega), if_neg (fun q => q hs.symm)]
  refine ⟨hc, ?_⟩
  unfold parseL
  rw [if_pos hc]
  have e : fieldsB ws ns = strL (fieldsTo ws ns ns.length) := by unfold fieldsB; rw [if_pos h]; rfl
  rw [e, h1, parse_to ws ns ns.length rfl h2 _ (Nat.le_refl _), List.take_length]

/-- the law's widths and numbers -/
def wsOf (zs : List Int) : Nat → List Int
  | 0 => []
  | k + 1 => wsOf zs k ++ [1 + rd zs k % 4]
def nsOf (zs ns : List Int) : Nat → List Int
  | 0 => []
  | k + 1 => nsOf zs ns k ++ [rd ns k % 256 ^ (1 + rd zs k % 4).toNat]
theorem wsOf_length (zs : List Int) : ∀ k, (wsOf zs k).length = k
  | 0 => rfl
  | k + 1 => by rw [wsOf, List.length_append, wsOf_length zs k]; rfl
theorem nsOf_length (zs ns : List Int) : ∀ k, (nsOf zs ns k).length = k
  | 0 => rfl
  | k + 1 => by rw [nsOf, List.length_append, nsOf_length zs ns k]; rfl
theorem rd_append_left (a b : List Int) (j : Nat) (h : j < a.length) : rd (a ++ b) j = rd a j := by
  rw [rd_nat _ _ (by rw [List.length_append]; omega), rd_nat _ _ h, List.getElem_append_left h]
theorem rd_append_last (a : List Int) (x : Int) : rd (a ++ [x]) a.length = x := by
  rw [rd_nat _ _ (by simp)]; simp
theorem rd_wsOf (zs : List Int) : ∀ k j, j < k → rd (wsOf zs k) j = 1 + rd zs j % 4
  | k + 1, j, h => by
    rw [wsOf]
    rcases Nat.lt_or_ge j k with q | q
    · rw [rd_append_left _ _ _ (by rw [wsOf_length]; exact q)]; exact rd_wsOf zs k j q
    · obtain rfl : j = k := by omega
      have := rd_append_last (wsOf zs j) (1 + rd zs j % 4)
      rw [wsOf_length] at this; exact this
theorem rd_nsOf (zs ns : List Int) : ∀ k j, j < k → rd (nsOf zs ns k) j = rd ns j % 256 ^ (1 + rd zs j % 4).toNat
  | k + 1, j, h => by
    rw [nsOf]
    rcases Nat.lt_or_ge j k with q | q
    · rw [rd_append_left _ _ _ (by rw [nsOf_length]; exact q)]; exact rd_nsOf zs ns k j q
    · obtain rfl : j = k := by omega
      have := rd_append_last (nsOf zs ns j) (rd ns j % 256 ^ (1 + rd zs j % 4).toNat)
      rw [nsOf_length] at this; exact this
theorem fit_of (zs ns : List Int) (k : Nat) : fitTo (wsOf zs k) (nsOf zs ns k) k := by
  intro j hj
  rw [rd_wsOf zs k j hj, rd_nsOf zs ns k j hj]
  have h1 := Int.emod_nonneg (rd zs j) (show (4 : Int) ≠ 0 by decide)
  have h2 := Int.emod_lt_of_pos (rd zs j) (show (0 : Int) < 4 by decide)
  have hp : (0 : Int) < 256 ^ (1 + rd zs j % 4).toNat := Int.pow_pos (by decide)
  have h3 := Int.emod_nonneg (rd ns j) (show (256 : Int) ^ (1 + rd zs j % 4).toNat ≠ 0 by omega)
  have h4 := Int.emod_lt_of_pos (rd ns j) hp
  simp only [fitsB, decide_eq_true_eq]
  exact ⟨by omega, by omega, h3, h4⟩
theorem may_of (zs : List Int) : ∀ k, (wsOf zs k).all mayB = true
  | 0 => rfl
  | k + 1 => by
    rw [wsOf, List.all_append, may_of zs k]
    have h1 := Int.emod_nonneg (rd zs k) (show (4 : Int) ≠ 0 by decide)
    have h2 := Int.emod_lt_of_pos (rd zs k) (show (0 : Int) < 4 by decide)
    simp [mayB]; omega
theorem sizeR_of (zs : List Int) (k : Nat) (h : k ≤ 40) : 0 ≤ sizeR (wsOf zs k) := by
  have := sizeR_neg (wsOf zs k)
  rw [wsOf_length] at this
  by_cases q : sizeR (wsOf zs k) < 0
  · exact absurd ⟨h, may_of zs k⟩ (this.1 q)
  · omega
theorem fieldsC_of (zs ns : List Int) (k : Nat) (h : k ≤ 40) : fieldsC (wsOf zs k) (nsOf zs ns k) = 0 := by
  have := sizeR_of zs k h
  unfold fieldsC
  rw [if_neg (by rw [wsOf_length, nsOf_length]; omega), if_pos (by rw [nsOf_length]; exact fit_of zs ns k)]

/-! ### two parts -/
theorem rd_take (l : List Int) (c j : Nat) (h : j < c) : rd (l.take c) j = rd l j := by
  simp [rd, List.getD_eq_getElem?_getD, List.getElem?_take, h]
theorem rd_drop (l : List Int) (c j : Nat) : rd (l.drop c) j = rd l ((c + j : Nat) : Int) := by
  have e : ((c : Int) + (j : Int)).toNat = c + j := by omega
  simp [rd, List.getD_eq_getElem?_getD, e]
theorem fieldsTo_take (ws ns : List Int) (c : Nat) : ∀ k, k ≤ c → fieldsTo (ws.take c) (ns.take c) k = fieldsTo ws ns k
  | 0, _ => rfl
  | k + 1, h => by rw [fieldsTo, fieldsTo, fieldsTo_take ws ns c k (by omega), rd_take _ _ _ (by omega), rd_take _ _ _ (by omega)]
theorem fieldsTo_drop (ws ns : List Int) (c : Nat) : ∀ d k, fieldsFrom (ws.drop c) (ns.drop c) k d = fieldsFrom ws ns (c + k) d
  | 0, _ => rfl
  | d + 1, k => by rw [fieldsFrom, fieldsFrom, rd_drop, rd_drop, fieldsTo_drop ws ns c d (k + 1)]; rfl
theorem all_take {l : List Int} (h : l.all mayB = true) (c : Nat) : (l.take c).all mayB = true := List.all_eq_true.2 fun x hx => List.all_eq_true.1 h x (List.mem_of_mem_take hx)
theorem all_drop {l : List Int} (h : l.all mayB = true) (c : Nat) : (l.drop c).all mayB = true := List.all_eq_true.2 fun x hx => List.all_eq_true.1 h x (List.mem_of_mem_drop hx)
theorem sizeR_all {l : List Int} (h : l.all mayB = true) (hl : l.length ≤ 40) : sizeR l = l.sum := by unfold sizeR; rw [if_pos ⟨hl, h⟩]
theorem parts_sum {ws : List Int} (h : ws.all mayB = true) (hl : ws.length ≤ 40) (c : Nat) : sizeR ws = sizeR (ws.take c) + sizeR (ws.drop c) := by
  rw [sizeR_all h hl, sizeR_all (all_take h c) (by rw [List.length_take]; omega), sizeR_all (all_drop h c) (by rw [List.length_drop]; omega), ← List.sum_append, List.take_append_drop]
theorem sizeR_nonneg {l : List Int} (h : l.all mayB = true) (hl : l.length ≤ 40) : 0 ≤ sizeR l := by
  by_cases q : sizeR l < 0
  · exact absurd ⟨hl, h⟩ ((sizeR_neg l).1 q)
  · omega
theorem parts_fields {ws ns : List Int} (h : fieldsC ws ns = 0) (hm : ws.all mayB = true) (hl : ws.length ≤ 40) (c : Nat) (hc : c ≤ ws.length) :
    fieldsC (ws.take c) (ns.take c) = 0 ∧ fieldsC (ws.drop c) (ns.drop c) = 0 ∧ fieldsB ws ns = fieldsB (ws.take c) (ns.take c) ++ fieldsB (ws.drop c) (ns.drop c) := by
  obtain ⟨h0, h1, h2⟩ := fieldsC_zero h
  have e1 : fieldsC (ws.take c) (ns.take c) = 0 := by
    have := sizeR_nonneg (all_take hm c) (by rw [List.length_take]; omega)
    unfold fieldsC
    rw [if_neg (by rw [List.length_take, List.length_take]; omega), if_pos]
    intro j hj
    rw [List.length_take] at hj
    rw [rd_take _ _ _ (by omega), rd_take _ _ _ (by omega)]
    exact h2 j (by omega)
  have e2 : fieldsC (ws.drop c) (ns.drop c) = 0 := by
    have := sizeR_nonneg (all_drop hm c) (by rw [List.length_drop]; omega)
    unfold fieldsC
    rw [if_neg (by rw [List.length_drop, List.length_drop]; omega), if_pos]
    intro j hj
    rw [List.length_drop] at hj
    rw [rd_drop, rd_drop]
    exact h2 (c + j) (by omega)
  refine ⟨e1, e2, ?_⟩
  have b0 : fieldsB ws ns = strL (fieldsTo ws ns ns.length) := by unfold fieldsB; rw [if_pos h]; rfl
  have b1 : fieldsB (ws.take c) (ns.take c) = strL (fieldsTo (ws.take c) (ns.take c) (ns.take c).length) := by unfold fieldsB; rw [if_pos e1]; rfl
  have b2 : fieldsB (ws.drop c) (ns.drop c) = strL (fieldsTo (ws.drop c) (ns.drop c) (ns.drop c).length) := by unfold fieldsB; rw [if_pos e2]; rfl
  have t1 : (ns.take c).length = c := by rw [List.length_take]; omega
  have t2 : (ns.drop c).length = ns.length - c := List.length_drop
  have q := fieldsTo_from (ws.drop c) (ns.drop c) (ns.length - c) 0
  simp only [Nat.zero_add, fieldsTo, List.nil_append] at q
  rw [b0, b1, b2, t1, t2, fieldsTo_take ws ns c c (Nat.le_refl _), q, fieldsTo_drop ws ns c _ 0, ← strL_append, Nat.add_zero, ← fieldsTo_from, show c + (ns.length - c) = ns.length by omega]
end Go.Proofs.YtlcnhagcomljnaaDoor
