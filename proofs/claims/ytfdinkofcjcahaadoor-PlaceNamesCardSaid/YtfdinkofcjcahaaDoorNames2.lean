/- The walk of heraldlaw1.errors1: a closed sentence. -/
import Derived.Test.YtfdinkofcjcahaaDoorPairs
import Derived.Test.YtfdinkofcjcahaaDoorPPlx1
namespace Go.Proofs.YtfdinkofcjcahaaDoor.Law
open Go.RowKit Go.Proofs.YtfdinkofcjcahaaDoorW.PrintWords Go.Proofs.YtfdinkofcjcahaaDoor.PPl

set_option maxRecDepth 100000 in
set_option maxHeartbeats 20000000 in
theorem errors_any (w : World) : Calls Tryd.prog 21 #[] w fun e w' => e = .returned (.bool true) ∧ Below w.heap.size w w' := by
  have HB := Aside0.mk (Below.refl w.heap.size w)
  go_enter Tryd.func21, Tryd.ntmps21
  go_wp2_with (first
    | (go_at_call 20; (with_reducible refine (heraldlaw1_num.calls _ _ _ rfl).mono ?_); rintro e w1 ⟨rfl, hd⟩; have n0_ := Aside0.mk (below_step HB.out hd.below); clear HB hd; have HB := n0_; clear n0_)
    | (go_at_call 49; refine (pairs_any ⟨_, 0, none⟩ [0, 1, 2, 3, 10, 20, 21, 22, 30, 40, 41, 42, 43, 44, 45, 46, 47, 48, 50, 51, 60, 61, 62, 63, 70, 80, 81, 82, 83, 90, 100, 110, 120, 121, 130, 131, 140, 150, 160, 161, 170, 180, 190, 191, 192, 193, 194, 195, 196, 197, 200, 210, 220, 221, 222] _ (by decide) _ (twice_new _ _ _ _ rfl)).mono ?_; rintro e w1 ⟨rfl, hd⟩))
  go_ret
  exact ⟨rfl, (HB.out.alloc (HB.out.size) _).trans (hd.below.mono (by have := HB.out.size; simp; omega))⟩
end Go.Proofs.YtfdinkofcjcahaaDoor.Law
