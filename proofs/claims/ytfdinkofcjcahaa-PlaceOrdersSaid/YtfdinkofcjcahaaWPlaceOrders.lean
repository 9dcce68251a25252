/- The walk of the law PlaceOrders: true at any two texts. -/
import Derived.Test.YtfdinkofcjcahaaRefOrder
namespace Go.Proofs.Ytfdinkofcjcahaa.W1
open Go.RowKit Go.Proofs.Ytfdinkofcjcahaa.Ord Go.Proofs.Ytfdinkofcjcahaa.Order
theorem order_const (w : World) : Calls Try.prog 5 #[.string { data := #[47] }, .string { data := #[47, 97] }] w fun e w' => e = .returned (.int .i64 (-1)) ∧ Drawn w w' :=
  (order_any _ _ w (by decide) (by decide)).mono fun _ _ h => h
set_option maxHeartbeats 400000 in
theorem law_any (a b : ByteArray) (w : World) (ha : a.size ≤ 140737488351232) (hb : b.size ≤ 140737488351232) :
    Calls Try.prog 3 #[.string a, .string b] w fun e w' => e = .returned (.bool true) ∧ Below w.heap.size w w' := by
  have H1 := Lib.hid (fun W => order_any a b W (by unfold maxLen; omega) (by unfold maxLen; omega))
  have H2 := Lib.hid (fun W => RefOrder.order_any a b W (by unfold maxLen; omega) (by unfold maxLen; omega))
  generalize ordL (tx a) (tx b) = r at H1 H2
  have hrr : (r == r) = true := by simp
  go_enter Try.func3, Try.ntmps3
  go_wp2_with (first | (go_at_call 5; (with_reducible refine (H1.out _).mono ?_); rintro e w' ⟨rfl, D1⟩) | (go_at_call 6; (with_reducible refine (H2.out _).mono ?_); rintro e w' ⟨rfl, D2⟩) | (go_at_call 5; (with_reducible refine (order_const _).mono ?_); rintro e w' ⟨rfl, D3⟩))
  go_ret
  exact ⟨rfl, ((D1.trans D2).trans D3).below⟩
end Go.Proofs.Ytfdinkofcjcahaa.W1
