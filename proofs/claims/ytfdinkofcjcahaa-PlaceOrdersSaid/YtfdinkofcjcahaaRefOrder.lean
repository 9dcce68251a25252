/- The walks of heraldref1.Order and heraldref1.weight: the document's Order is the same line of texts (Ord.ordL). -/
import Derived.Test.YtfdinkofcjcahaaOrder
namespace Go.Proofs.Ytfdinkofcjcahaa.RefOrder
open Go.RowKit Go.Proofs.Ytfdinkofcjcahaa.Ord Go.Proofs.Ytfdinkofcjcahaa.Order

theorem weight_any (c : UInt8) (w : World) : Calls Try.prog 8 #[.int .u8 (c.toNat : Int)] w fun e w' => e = .returned (.int .i64 (wt c)) ∧ Drawn w w' := by
  have hb := c.toNat_lt
  by_cases h : c = 47
  · subst h
    go_enter Try.func8, Try.ntmps8
    go_wp2
    go_ret
    exact ⟨rfl, Drawn.refl w⟩
  · have h' : (((c.toNat : Nat) : Int) == 47) = false := by
      rw [beq_eq_false_iff_ne]
      intro e
      exact h (UInt8.toNat_inj.1 (by simpa using (by omega : c.toNat = 47)))
    go_enter Try.func8, Try.ntmps8
    go_wp2
    go_ret
    exact ⟨ret_int (by unfold wt; rw [if_neg h]), Drawn.refl w⟩
set_option maxHeartbeats 400000 in
theorem order_any (a b : ByteArray) (w : World) (ha : a.size ≤ maxLen) (_hb : b.size ≤ maxLen) :
    Calls Try.prog 6 #[.string a, .string b] w fun e w' => e = .returned (.int .i64 (ordL (tx a) (tx b))) ∧ Drawn w w' := by
  unfold maxLen at ha _hb
  go_enter Try.func6, Try.ntmps6
  go_wp2
  go_loopw [5] (fun v wr => ∃ i : Nat, i ≤ a.size ∧ i ≤ b.size ∧ v = .int .i64 i ∧ Hid (ordL (tx a) (tx b) = ordL ((tx a).drop i) ((tx b).drop i)) ∧ Drawn w wr) (fun v _ => a.size - (intOf v).toNat)
  case atStart => exact ⟨0, Nat.zero_le _, Nat.zero_le _, rfl, Lib.hid (by simp), Drawn.refl w⟩
  case round =>
    obtain ⟨i, h1, h2, rfl, HO, HD⟩ := hrel
    by_cases hlt1 : i < a.size
    · by_cases hlt2 : i < b.size
      · have HS := Lib.hid (show ordL ((tx a).drop i) ((tx b).drop i) = _ from by rw [drop_cons a i hlt1, drop_cons b i hlt2, ordL])
        have hr1 := wt_range (a[i]'hlt1)
        have hr2 := wt_range (b[i]'hlt2)
        go_wp2_with (go_at_call 8; refine (weight_any _ _).mono ?_; rintro e w' ⟨rfl, HD'⟩; replace HD := HD.trans HD'; clear HD')
        · rename_i hw
          go_ret
          exact ⟨ret_int (by rw [HO.out, HS.out, if_pos hw]), HD⟩
        · rename_i hw hw2
          go_ret
          exact ⟨ret_int (by rw [HO.out, HS.out, if_neg (by omega), if_pos (by omega)]), HD⟩
        · rename_i hw hw2
          go_roundw
          case rel => exact ⟨i + 1, by omega, by omega, by go_num, Lib.hid (by rw [HO.out, HS.out, if_neg (by omega), if_neg (by omega)]), HD⟩
          case measure => simp [intOf]; omega
      · have HA := Lib.hid (drop_cons a i (by omega))
        have HB := Lib.hid (drop_end b i (by omega))
        have hf : decide ((i : Int) < (b.size : Int)) = false := by simp; omega
        go_wp2
        all_goals (go_ret; exact ⟨ret_int (by rw [HO.out, HA.out, HB.out]; rfl), HD⟩)
    · have HA := Lib.hid (drop_end a i (by omega))
      have hf : decide ((i : Int) < (a.size : Int)) = false := by simp; omega
      by_cases e2 : i < b.size
      · have HB := Lib.hid (drop_cons b i e2)
        have hc1 : decide ((a.size : Int) < (b.size : Int)) = true := by simp; omega
        go_wp2
        all_goals (go_ret; exact ⟨ret_int (by rw [HO.out, HA.out, HB.out]; rfl), HD⟩)
      · have HB := Lib.hid (drop_end b i (by omega))
        go_wp2
        all_goals (go_ret; exact ⟨ret_int (by rw [HO.out, HA.out, HB.out]; rfl), HD⟩)
end Go.Proofs.Ytfdinkofcjcahaa.RefOrder
