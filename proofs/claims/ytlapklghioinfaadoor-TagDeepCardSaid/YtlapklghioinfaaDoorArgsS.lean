/- The strings of a slice that is an argument are no longer than the form's reach allows. -/
import Derived.Test.YtlapklghioinfaaDoorArgs
import Derived.SizedLaws
namespace Go.Proofs.YtlapklghioinfaaDoor
open Go.ChangeShapes Go.WideShapes Go.RowKit

theorem weightsAll_strs {H : Type} {P : Program} {e : TypeId} (ss : List ByteArray) : ∀ s ∈ ss, s.size ∈ DataW.weightsAll P e (strs (H := H) ss) := by
  induction ss with
  | nil => intro s h; cases h
  | cons x r ih =>
    intro s h
    simp only [strs, List.map_cons, DataW.weightsAll, List.mem_append]
    rcases List.mem_cons.1 h with rfl | h
    · left; simp [DataW.weights]
    · right; exact ih s h
theorem sized_strs {H : Type} {P : Program} {ts : List TypeId} {ds : List (DataW H)} (h : (DataW.weightsEach P ts ds).all (· ≤ reachBytes) = true) {j : Nat} {t e : TypeId} {ss : List ByteArray} {rest : List (DataW H)} (ht : ts[j]? = some t) (hd : ds[j]? = some (.slice (strs ss) rest)) (hu : P.underlying t = some (.slice e)) :
    ∀ s ∈ ss, s.size ≤ 140737488351232 := by
  intro s hs
  have := List.all_eq_true.1 h _ (DataW.weights_mem_each ht hd s.size (by simp only [DataW.weights, hu, List.mem_cons, List.mem_append]; exact .inr (.inl (weightsAll_strs ss s hs))))
  exact of_decide_eq_true this
end Go.Proofs.YtlapklghioinfaaDoor
