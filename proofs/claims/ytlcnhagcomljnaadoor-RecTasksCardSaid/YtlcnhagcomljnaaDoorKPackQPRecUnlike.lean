/- Fields: the plain laws of Size, Fields, Parse. -/
import Derived.Test.YtlcnhagcomljnaaDoorKPackPPRecUnlike
namespace Go.Proofs.YtlcnhagcomljnaaDoor
open Go.RowKit Go.Proofs.YtlcnhagcomljnaaDoorW.PrintWords Go.Proofs.YtlcnhagcomljnaaDoorW.PrintLast Go.Proofs.YtlcnhagcomljnaaDoorW.PrintMore Go.Proofs.YtlcnhagcomljnaaDoor.PRecUnlike
set_option linter.unusedVariables false
set_option linter.unusedSimpArgs false

/-- how many bytes fields have; -1 -/
def sizeR (ws : List Int) : Int := if ws.length ≤ 40 ∧ ws.all mayB = true then ws.sum else -1
theorem rd_nat (l : List Int) (i : Nat) (h : i < l.length) : rd l (i : Int) = l[i] := by
  simp [rd, List.getD_eq_getElem?_getD, List.getElem?_eq_getElem h]
theorem rd_mem {l : List Int} {i : Nat} (h : i < l.length) : rd l (i : Int) ∈ l := by rw [rd_nat l i h]; exact List.getElem_mem h
theorem mayB_iff {w : Int} : mayB w = true ↔ 1 ≤ w ∧ w ≤ 4 := by simp [mayB]
theorem sum_take_range (ws : List Int) (h : ws.all mayB = true) : ∀ i, i ≤ ws.length → (i : Int) ≤ (ws.take i).sum ∧ (ws.take i).sum ≤ 4 * i
  | 0, _ => by simp
  | i + 1, hi => by
    have ih := sum_take_range ws h i (by omega)
    rw [List.take_succ_eq_append_getElem (by omega), List.sum_append]
    have := mayB_iff.1 (List.all_eq_true.1 h ws[i] (List.getElem_mem (by omega)))
    simp; omega
theorem size_loop (ws : List Int) (hl : ws.length ≤ 40) : ∀ (d i : Nat) (acc : Int), i + d = ws.length → (i : Int) ≤ acc → acc ≤ 4 * i →
    pack_Size.l0 (d + 1) acc ws ws.length i = some (if (ws.drop i).all mayB = true then acc + (ws.drop i).sum else -1)
  | 0, i, acc, hi, _, _ => by
    simp only [pack_Size.l0]
    rw [if_neg (by omega), List.drop_of_length_le (by omega)]
    simp
  | d + 1, i, acc, hi, h0, h1 => by
    have hlt : i < ws.length := by omega
    have e2 : wrap64 ((i : Int) + 1) = ((i + 1 : Nat) : Int) := by unfold wrap64; omega
    have hdrop : ws.drop i = ws[i] :: ws.drop (i + 1) := List.drop_eq_getElem_cons hlt
    unfold pack_Size.l0
    rw [if_pos (by clear e2; omega), if_pos (by clear e2; omega), if_pos (by clear e2; omega), may_f]
    simp only [Option.bind_some]
    rw [rd_nat ws i hlt, hdrop, List.all_cons, List.sum_cons]
    cases hm : mayB ws[i] with
    | false => simp
    | true =>
      have hb := mayB_iff.1 hm
      have e1 : wrap64 (acc + ws[i]) = acc + ws[i] := by clear e2; unfold wrap64; omega
      rw [if_pos rfl, e1, e2]
      rw [size_loop ws hl d (i + 1) (acc + ws[i]) (by clear e1 e2; omega) (by clear e1 e2; omega) (by clear e1 e2; omega)]
      simp only [Bool.true_and, Int.add_assoc]
theorem size_f (ws : List Int) (k : Nat) (hk : k = ws.length + 1) : pack_Size.f k ws = some (sizeR ws) := by
  unfold pack_Size.f sizeR
  by_cases hl : ws.length ≤ 40
  · rw [if_neg (by omega)]
    have h := size_loop ws hl ws.length 0 0 (by omega) (by omega) (by omega)
    rw [hk]
    simp only [List.drop_zero, Int.zero_add] at h
    rw [show ((0 : Nat) : Int) = 0 from rfl] at h
    rw [h]
    by_cases ha : ws.all mayB = true
    · rw [if_pos ha, if_pos ⟨hl, ha⟩]
    · rw [if_neg ha, if_neg (fun h => ha h.2)]
  · rw [if_pos (by omega), if_neg (fun h => hl h.1)]
theorem sizeR_neg (ws : List Int) : sizeR ws < 0 ↔ ¬ (ws.length ≤ 40 ∧ ws.all mayB = true) := by
  unfold sizeR
  by_cases h : ws.length ≤ 40 ∧ ws.all mayB = true
  · rw [if_pos h]
    have := (sum_take_range ws h.2 ws.length (Nat.le_refl _)).1
    rw [List.take_length] at this
    exact ⟨fun hn => by omega, fun hn => absurd h hn⟩
  · rw [if_neg h]; exact ⟨fun _ => h, fun _ => by omega⟩

/-- the first k fields' bytes -/
def fieldsTo (ws ns : List Int) : Nat → List UInt8
  | 0 => []
  | k + 1 => fieldsTo ws ns k ++ (putB (rd ws k) (rd ns k)).data.toList
/-- do the first k numbers fit? -/
def fitTo (ws ns : List Int) (k : Nat) : Prop := ∀ j, j < k → fitsB (rd ws j) (rd ns j) = true
instance (ws ns : List Int) (k : Nat) : Decidable (fitTo ws ns k) := by unfold fitTo; exact Nat.decidableBallLT k _
/-- why fields can't be laid; 0 -/
def fieldsC (ws ns : List Int) : Int := if sizeR ws < 0 ∨ ws.length ≠ ns.length then 1 else if fitTo ws ns ns.length then 0 else 8
/-- fields' bytes -/
def fieldsB (ws ns : List Int) : ByteArray := if fieldsC ws ns = 0 then ⟨(fieldsTo ws ns ns.length).toArray⟩ else ⟨#[]⟩
theorem fieldsTo_le (ws ns : List Int) : ∀ k, (fieldsTo ws ns k).length ≤ 4 * k
  | 0 => by simp [fieldsTo]
  | k + 1 => by
    have ih := fieldsTo_le ws ns k
    have := putB_le (rd ws k) (rd ns k)
    rw [fieldsTo, List.length_append]
    have e : (putB (rd ws k) (rd ns k)).data.toList.length = (putB (rd ws k) (rd ns k)).size := by rw [Array.length_toList]; rfl
    omega
theorem fieldsTo_size (ws ns : List Int) : ∀ k, fitTo ws ns k → k ≤ ws.length → ((fieldsTo ws ns k).length : Int) = (ws.take k).sum
  | 0, _, _ => by simp [fieldsTo]
  | k + 1, h, hk => by
    have ih := fieldsTo_size ws ns k (fun j hj => h j (by omega)) (by omega)
    have hs := putB_size (h k (by omega))
    have e : (putB (rd ws k) (rd ns k)).data.toList.length = (putB (rd ws k) (rd ns k)).size := by rw [Array.length_toList]; rfl
    rw [fieldsTo, List.length_append, List.take_succ_eq_append_getElem (by omega), List.sum_append, ← rd_nat ws k (by omega)]
    simp; omega
/-- what is left of the bytes behind the first k fields -/
def restK (ws : List Int) (s : ByteArray) : Nat → ByteArray
  | 0 => s
  | k + 1 => (restK ws s k).extract (rd ws k).toNat (restK ws s k).size
/-- the first k fields' numbers -/
def parseTo (ws : List Int) (s : ByteArray) : Nat → List Int
  | 0 => []
  | k + 1 => parseTo ws s k ++ [getK (restK ws s k) (rd ws k).toNat]
theorem parseTo_length (ws : List Int) (s : ByteArray) : ∀ k, (parseTo ws s k).length = k
  | 0 => rfl
  | k + 1 => by rw [parseTo, List.length_append, parseTo_length ws s k]; rfl
/-- why fields can't be read; 0 -/
def parseC (ws : List Int) (s : ByteArray) : Int := if sizeR ws < 0 then 1 else if sizeR ws ≠ s.size then 2 else 0
/-- fields' numbers -/
def parseL (ws : List Int) (s : ByteArray) : List Int := if parseC ws s = 0 then parseTo ws s ws.length else []
theorem restK_size (ws : List Int) (s : ByteArray) (h : sizeR ws = s.size) : ∀ k, k ≤ ws.length → ((restK ws s k).size : Int) = s.size - (ws.take k).sum ∧ 0 ≤ s.size - (ws.take k).sum
  | 0, _ => by simp [restK]
  | k + 1, hk => by
    have ih := restK_size ws s h k (by omega)
    have hall : ws.all mayB = true := by
      rcases Decidable.em (ws.length ≤ 40 ∧ ws.all mayB = true) with hh | hh
      · exact hh.2
      · have := (sizeR_neg ws).2 hh; omega
    have hm := mayB_iff.1 (List.all_eq_true.1 hall ws[k] (List.getElem_mem (by omega)))
    have hsum : sizeR ws = ws.sum := by
      unfold sizeR
      rcases Decidable.em (ws.length ≤ 40 ∧ ws.all mayB = true) with hh | hh
      · rw [if_pos hh]
      · have := (sizeR_neg ws).2 hh; omega
    have h2 : ws.sum = (ws.take (k + 1)).sum + (ws.drop (k + 1)).sum := by rw [← List.sum_append, List.take_append_drop]
    have h3 : 0 ≤ (ws.drop (k + 1)).sum := by
      have := sum_take_range (ws.drop (k + 1)) (List.all_eq_true.2 fun x hx => List.all_eq_true.1 hall x (List.mem_of_mem_drop hx)) _ (Nat.le_refl _)
      rw [List.take_length] at this; omega
    have e : (ws.take (k + 1)).sum = (ws.take k).sum + ws[k] := by rw [List.take_succ_eq_append_getElem (by omega), List.sum_append]; simp
    rw [restK, ByteArray.size_extract, rd_nat ws k (by omega)]
    omega
theorem rest_ge (ws : List Int) (s : ByteArray) (h : sizeR ws = s.size) (k : Nat) (hk : k < ws.length) : 1 ≤ rd ws k ∧ rd ws k ≤ 4 ∧ rd ws k ≤ (restK ws s k).size ∧ (restK ws s k).size ≤ s.size := by
  have h1 := restK_size ws s h k (by omega)
  have h2 := restK_size ws s h (k + 1) hk
  have hall : ws.all mayB = true := by
    rcases Decidable.em (ws.length ≤ 40 ∧ ws.all mayB = true) with hh | hh
    · exact hh.2
    · have := (sizeR_neg ws).2 hh; omega
  have hm := mayB_iff.1 (List.all_eq_true.1 hall ws[k] (List.getElem_mem (by omega)))
  have e : (ws.take (k + 1)).sum = (ws.take k).sum + ws[k] := by rw [List.take_succ_eq_append_getElem (by omega), List.sum_append]; simp
  have h4 := sum_take_range ws hall k (by omega)
  rw [rd_nat ws k hk]
  omega
end Go.Proofs.YtlcnhagcomljnaaDoor
