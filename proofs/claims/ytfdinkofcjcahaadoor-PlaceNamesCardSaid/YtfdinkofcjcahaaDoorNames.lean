/- The walk of the law PlaceNames: a closed sentence; in every world that holds the tables it returns true. -/
import Derived.Test.YtfdinkofcjcahaaDoorNames1
import Derived.Test.YtfdinkofcjcahaaDoorNames2
import Derived.Test.YtfdinkofcjcahaaDoorNames4
namespace Go.Proofs.YtfdinkofcjcahaaDoor.Law
open Go.RowKit Go.Proofs.YtfdinkofcjcahaaDoor.Ext Go.Proofs.YtfdinkofcjcahaaDoor.PPl Go.Proofs.YtfdinkofcjcahaaDoor.Pl Go.Proofs.YtfdinkofcjcahaaDoor.Ord Go.Proofs.YtfdinkofcjcahaaDoorW.PrintWords

set_option maxRecDepth 100000 in
theorem names_walk (w : World) (HE : Env w) : Calls Tryd.prog 4 #[] w fun e w' => e = .returned (.bool true) ∧ Below w.heap.size w w' := by
  have HB := Aside0.mk (Below.refl w.heap.size w)
  have H1 := Aside0.mk (show place_Parse.f ⟨#[97]⟩ = some ([], 10) by kernel_rfl)
  have H2 := Aside0.mk (show place_Parent.f ⟨#[47, 97]⟩ = some (⟨#[47]⟩, 0) by kernel_rfl)
  go_enter Tryd.func4, Tryd.ntmps4
  go_wp2_with (first
    | (go_at_call 18; (with_reducible refine (place_Parse.calls _ [] 10 _ H1.out (HE.at_ HB.out)).mono ?_); rintro e w1 ⟨v, rfl, hR, hb⟩; have n0_ := Aside0.mk (below_step HB.out hb); clear HB hb hR; have HB := n0_; clear n0_)
    | (go_at_call 19; (with_reducible refine (place_Parent.calls _ ⟨#[47]⟩ 0 _ H2.out (HE.at_ HB.out)).mono ?_); rintro e w1 ⟨rfl, hb⟩; have n0_ := Aside0.mk (below_step HB.out hb); clear HB hb; have HB := n0_; clear n0_)
    | (go_at_call 20; (with_reducible refine (heraldlaw1_num.calls _ _ _ rfl).mono ?_); rintro e w1 ⟨rfl, hd⟩; have n0_ := Aside0.mk (below_step HB.out hd.below); clear HB hd; have HB := n0_; clear n0_)
    | (go_at_call 21; (with_reducible refine (errors_any _).mono ?_); rintro e w1 ⟨rfl, hb⟩; have n0_ := Aside0.mk (below_step HB.out hb); clear HB hb; have HB := n0_; clear n0_)
    | (go_at_call 22; (with_reducible refine (limits_any _).mono ?_); rintro e w1 ⟨rfl, hb⟩; have n0_ := Aside0.mk (below_step HB.out hb); clear HB hb; have HB := n0_; clear n0_)
    | (go_at_call 23; (with_reducible refine (kinds_any _).mono ?_); rintro e w1 ⟨rfl, hb⟩; have n0_ := Aside0.mk (below_step HB.out hb); clear HB hb; have HB := n0_; clear n0_))
  go_ret
  exact ⟨rfl, HB.out⟩
end Go.Proofs.YtfdinkofcjcahaaDoor.Law
