/- A region that draws its order: the condition on the world may turn on the way. -/
import Derived.Test.YtfgbnnmaooillaaDoorProg
import Derived.Deep.RegionHeld3
namespace Go.Proofs.YtfgbnnmaooillaaDoor

/-- a stronger condition from here on -/
theorem wpAnyH_switch {P : Program} {ops : Array Oper} {Q : Exit → Act → World → Prop} {md : Region.Mode} {S S' : World → Prop} (hs : ∀ w, S' w → S w) :
    ∀ (fuel : Nat) (listed : Array Bool) (a : Act) (w : World), wpAnyH P md ops Q S' fuel listed a w → wpAnyH P md ops Q S fuel listed a w
  | 0, _, _, _, h => h
  | fuel + 1, _, _, _, h => ⟨h.1, fun i hi => wpOp_mono (fun a' w' h' => ⟨hs w' h'.1, wpAnyH_switch hs fuel _ a' w' h'.2⟩) (h.2 i hi)⟩
end Go.Proofs.YtfgbnnmaooillaaDoor
