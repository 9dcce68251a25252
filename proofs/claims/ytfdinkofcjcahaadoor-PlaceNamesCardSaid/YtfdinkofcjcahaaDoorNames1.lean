/- The walk of heraldlaw1.limits: a closed sentence. -/
import Derived.Test.YtfdinkofcjcahaaDoorPairs
namespace Go.Proofs.YtfdinkofcjcahaaDoor.Law
open Go.RowKit Go.Proofs.YtfdinkofcjcahaaDoorW.PrintWords

set_option maxRecDepth 100000 in
set_option maxHeartbeats 20000000 in
theorem limits_any (w : World) : Calls Tryd.prog 22 #[] w fun e w' => e = .returned (.bool true) ∧ Below w.heap.size w w' := by
  go_enter Tryd.func22, Tryd.ntmps22
  go_wp2_with (go_at_call 49; refine (pairs_any ⟨w.heap.size, 0, none⟩ [2147483647, 16, 6, 102, 64, 256, 200000, 64, 99999, 4, 16, 4, 32, 64, 32, 16, 8, 1000, 262144, 5, 6, 256, 400, 8, 65536] _ (by decide) _ (twice_new w _ _ _ rfl)).mono ?_; rintro e w1 ⟨rfl, hd⟩)
  go_ret
  exact ⟨rfl, ((Below.refl _ w).alloc (Nat.le_refl _) _).trans (hd.below.mono (by simp))⟩
end Go.Proofs.YtfdinkofcjcahaaDoor.Law
