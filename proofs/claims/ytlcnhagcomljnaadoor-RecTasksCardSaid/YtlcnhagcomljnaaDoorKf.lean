/- More on a world that is another one but for what is new. -/
import Derived.Test.YtlcnhagcomljnaaDoorNum
namespace Go.Proofs.YtlcnhagcomljnaaDoor
open Go.RowKit
theorem KF.alloc {W w' : World} (h : KF W w') (o : Obj) : KF W (w'.alloc o) := Below.alloc h (Below.size h) o
theorem KF.refl (W : World) : KF W W := Below.refl _ _
theorem KF.drew {W w' : World} (h : KF W w') : KF W w'.drew := Below.drew h
theorem KF.setCell {W w' : World} (h : KF W w') {p : Addr} (hp : W.heap.size ≤ p.block) (u : Value) : KF W (w'.setCell p u) := Below.setCell h hp u
theorem KF.frozen {W w' : World} (h : KF W w') {p : Addr} (hp : p.block < W.heap.size) : w'.frozen? p = W.frozen? p := Below.frozen h hp
end Go.Proofs.YtlcnhagcomljnaaDoor
