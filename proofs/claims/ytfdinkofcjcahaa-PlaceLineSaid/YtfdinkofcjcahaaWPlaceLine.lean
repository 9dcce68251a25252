/- The walk of the law PlaceLine: true at any three texts. -/
import Derived.Test.YtfdinkofcjcahaaOrder
namespace Go.Proofs.Ytfdinkofcjcahaa.W2
open Go.RowKit Go.Proofs.Ytfdinkofcjcahaa.Ord Go.Proofs.Ytfdinkofcjcahaa.Order
theorem order_const (w : World) : Calls Try.prog 5 #[.string { data := #[47] }, .string { data := #[47, 97] }] w fun e w' => e = .returned (.int .i64 (-1)) ∧ Drawn w w' :=
  (order_any _ _ w (by decide) (by decide)).mono fun _ _ h => h

/-- What the law asks of the three answers. -/
def Fits (x y z : Int) : Prop := (x ≤ 0 → y ≤ 0 → z ≤ 0) ∧ (x ≤ 0 → y ≤ 0 → (x < 0 ∨ y < 0) → z < 0) ∧ (0 ≤ x → 0 ≤ y → 0 ≤ z) ∧ (0 ≤ x → 0 ≤ y → (0 < x ∨ 0 < y) → 0 < z)
theorem fits (a b c : List UInt8) : Fits (ordL a b) (ordL b c) (ordL a c) := by
  have h1 := ordL_trans a b c
  have h2 := ordL_trans c b a
  have s1 := ordL_swap a b
  have s2 := ordL_swap b c
  have s3 := ordL_swap a c
  rw [s1, s2, s3] at h2
  refine ⟨fun x y => (h1 x y).1, fun x y z => (h1 x y).2 z, fun x y => ?_, fun x y z => ?_⟩
  · have := (h2 (by omega) (by omega)).1; omega
  · have := (h2 (by omega) (by omega)).2 (by omega); omega
set_option maxHeartbeats 1000000 in
theorem line_of (a b c : ByteArray) (w : World) (x y z : Int) (hx : x = -1 ∨ x = 0 ∨ x = 1) (hy : y = -1 ∨ y = 0 ∨ y = 1) (hz : z = -1 ∨ z = 0 ∨ z = 1) (hf : Fits x y z) (h0 : (x == 0) = (a.toList == b.toList))
    (H1 : Hid (∀ W, Calls Try.prog 5 #[.string a, .string b] W fun e w' => e = .returned (.int .i64 x) ∧ Drawn W w'))
    (H2 : Hid (∀ W, Calls Try.prog 5 #[.string b, .string c] W fun e w' => e = .returned (.int .i64 y) ∧ Drawn W w'))
    (H3 : Hid (∀ W, Calls Try.prog 5 #[.string a, .string c] W fun e w' => e = .returned (.int .i64 z) ∧ Drawn W w'))
    (H4 : Hid (∀ W, Calls Try.prog 5 #[.string b, .string a] W fun e w' => e = .returned (.int .i64 (-x)) ∧ Drawn W w')) :
    Calls Try.prog 4 #[.string a, .string b, .string c] w fun e w' => e = .returned (.bool true) ∧ Below w.heap.size w w' := by
  have h0' := h0.symm
  clear h0
  obtain ⟨f1, f2, f3, f4⟩ := hf
  rcases hx with rfl | rfl | rfl <;> rcases hy with rfl | rfl | rfl <;> rcases hz with rfl | rfl | rfl
  all_goals first | omega | skip
  all_goals
    clear f1 f2 f3 f4
    simp only [Int.reduceBEq, Int.reduceNeg, Int.neg_neg, Int.neg_zero] at h0' H4
    go_enter Try.func4, Try.ntmps4
    go_wp2_with fail
    refine (H1.out _).mono ?_
    rintro e w1 ⟨rfl, D1⟩
    go_wp2_with fail
    refine (H2.out _).mono ?_
    rintro e w2 ⟨rfl, D2⟩
    go_wp2_with fail
    refine (H3.out _).mono ?_
    rintro e w3 ⟨rfl, D3⟩
    go_wp2_with fail
    refine (H4.out _).mono ?_
    rintro e w4 ⟨rfl, D4⟩
    go_wp2_with fail
    refine (order_const _).mono ?_
    rintro e w5 ⟨rfl, D5⟩
    go_wp2_with fail
    go_ret
    exact ⟨rfl, ((((D1.trans D2).trans D3).trans D4).trans D5).below⟩
theorem law_any (a b c : ByteArray) (w : World) (ha : a.size ≤ 140737488351232) (hb : b.size ≤ 140737488351232) (hc : c.size ≤ 140737488351232) :
    Calls Try.prog 4 #[.string a, .string b, .string c] w fun e w' => e = .returned (.bool true) ∧ Below w.heap.size w w' := by
  have ka : a.size ≤ maxLen := by unfold maxLen; omega
  have kb : b.size ≤ maxLen := by unfold maxLen; omega
  have kc : c.size ≤ maxLen := by unfold maxLen; omega
  refine line_of a b c w _ _ _ (ordL_range (tx a) (tx b)) (ordL_range (tx b) (tx c)) (ordL_range (tx a) (tx c)) (fits _ _ _) ?_ (Lib.hid fun W => order_any a b W ka kb) (Lib.hid fun W => order_any b c W kb kc)
    (Lib.hid fun W => order_any a c W ka kc) (Lib.hid fun W => by rw [← ordL_swap]; exact order_any b a W kb ka)
  rw [ByteArray.toList_eq, ByteArray.toList_eq, Bool.eq_iff_iff, beq_iff_eq, beq_iff_eq]
  exact ordL_zero _ _
end Go.Proofs.Ytfdinkofcjcahaa.W2
