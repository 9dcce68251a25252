/- The walk of heraldlaw1.kinds: a closed sentence. -/
import Derived.Test.YtfdinkofcjcahaaDoorNames3
namespace Go.Proofs.YtfdinkofcjcahaaDoor.Law
open Go.RowKit Go.Proofs.YtfdinkofcjcahaaDoorW.PrintWords

set_option maxRecDepth 100000 in
set_option maxHeartbeats 20000000 in
theorem kinds_any (w : World) : Calls Tryd.prog 23 #[] w fun e w' => e = .returned (.bool true) ∧ Below w.heap.size w w' := by
  go_enter Tryd.func23, Tryd.ntmps23
  go_wp2
  refine wp_build rfl (dup kindNums).toArray (by kernel_rfl) ?_
  go_wp2_with (go_at_call 49; refine (pairs_any ⟨w.heap.size, 0, none⟩ kindNums _ (by decide) _ (twice_new w _ _ _ rfl)).mono ?_; rintro e w1 ⟨rfl, hd⟩)
  go_ret
  exact ⟨rfl, ((Below.refl _ w).alloc (Nat.le_refl _) _).trans (hd.below.mono (by simp))⟩
end Go.Proofs.YtfdinkofcjcahaaDoor.Law
