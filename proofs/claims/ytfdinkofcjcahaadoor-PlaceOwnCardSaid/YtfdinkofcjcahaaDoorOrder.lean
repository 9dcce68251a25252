/- The walks of place.Order and place.weight: Order answers as the line of texts (Ord.ordL) says, at any two texts. -/
import Derived.Test.YtfdinkofcjcahaaDoorProg
import Derived.Test.YtfdinkofcjcahaaDoorOrd
import Derived.WalkKit
import Derived.LoopTactic
import Derived.RegionTactic
import Derived.Deep.QuietTactic
import Derived.BigQuiet
import Derived.Deep.Draws
import Derived.KernelRfl
import Derived.Lib.Hide
import Derived.Outline
import Derived.WalkLawsBesides
namespace Go.Proofs.YtfdinkofcjcahaaDoor.Order
open Go.RowKit Go.Proofs.YtfdinkofcjcahaaDoor.Ord

/-- The world is the old one, some orders having been drawn. -/
structure Drawn (w w' : World) : Prop where mk :: (out : ∃ n, w' = w.drewN n)
theorem Drawn.refl (w : World) : Drawn w w := ⟨⟨0, rfl⟩⟩
theorem Drawn.step {w w' : World} (h : Drawn w w') (n : Nat) : Drawn w (w'.drewN n) := by
  obtain ⟨m, rfl⟩ := h
  exact ⟨⟨m + n, World.drewN_drewN ..⟩⟩
theorem Drawn.trans {w w' w'' : World} (h : Drawn w w') (g : Drawn w' w'') : Drawn w w'' := by
  obtain ⟨n, rfl⟩ := g
  exact h.step n
theorem Drawn.below {w w' : World} (h : Drawn w w') : Below w.heap.size w w' := by
  obtain ⟨n, rfl⟩ := h
  induction n with
  | zero => exact Below.refl _ _
  | succ n ih => rw [← World.drew_drewN]; exact ih.drew
theorem quiet {P : Program} {f : FuncId} {args : Array Value} {w : World} {n : Nat} {v : Value} (h : Calls P f args (w.drewN n) fun e w' => e = .returned v ∧ Drawn (w.drewN n) w') :
    Calls P f args (w.drewN n) fun e w'' => e = .returned v ∧ ∃ m, w'' = w.drewN m :=
  h.mono fun _ _ ⟨he, hm⟩ => by
    obtain ⟨m, rfl⟩ := hm
    exact ⟨he, n + m, World.drewN_drewN ..⟩
theorem ret_int {k : IntKind} {a b : Int} (h : a = b) : Ending.returned (.int k a) = .returned (.int k b) := by rw [h]

theorem weight_any (c : UInt8) (w : World) : Calls Tryd.prog 57 #[.int .u8 (c.toNat : Int)] w fun e w' => e = .returned (.int .i64 (wt c)) ∧ Drawn w w' := by
  have hb := c.toNat_lt
  by_cases h : c = 47
  · subst h
    go_enter Tryd.func57, Tryd.ntmps57
    go_wp2
    go_ret
    exact ⟨rfl, Drawn.refl w⟩
  · have h' : (((c.toNat : Nat) : Int) == 47) = false := by
      rw [beq_eq_false_iff_ne]
      intro e
      exact h (UInt8.toNat_inj.1 (by simpa using (by omega : c.toNat = 47)))
    go_enter Tryd.func57, Tryd.ntmps57
    go_wp2
    go_ret
    exact ⟨ret_int (by unfold wt; rw [if_neg h]), Drawn.refl w⟩
set_option maxHeartbeats 400000 in
theorem order_any (a b : ByteArray) (w : World) (ha : a.size ≤ maxLen) (hb : b.size ≤ maxLen) :
    Calls Tryd.prog 40 #[.string a, .string b] w fun e w' => e = .returned (.int .i64 (ordL (tx a) (tx b))) ∧ Drawn w w' := by
  unfold maxLen at ha hb
  by_cases hm : (b.size : Int) < (a.size : Int)
  all_goals
    go_enter Tryd.func40, Tryd.ntmps40
    go_wp2
    go_loopw [13] (fun v wr => ∃ i : Nat, i ≤ a.size ∧ i ≤ b.size ∧ v = .int .i64 i ∧ Hid (ordL (tx a) (tx b) = ordL ((tx a).drop i) ((tx b).drop i)) ∧ Drawn w wr) (fun v _ => a.size - (intOf v).toNat)
    case atStart => exact ⟨0, Nat.zero_le _, Nat.zero_le _, rfl, Lib.hid (by simp), Drawn.refl w⟩
    case round =>
      obtain ⟨i, h1, h2, rfl, HO, HD⟩ := hrel
      by_cases hlt : i < a.size ∧ i < b.size
      · obtain ⟨hlt1, hlt2⟩ := hlt
        have HS := Lib.hid (show ordL ((tx a).drop i) ((tx b).drop i) = _ from by rw [drop_cons a i hlt1, drop_cons b i hlt2, ordL])
        have hr1 := wt_range (a[i]'hlt1)
        have hr2 := wt_range (b[i]'hlt2)
        go_wp2
        go_quiet ((go_at_call 57; exact quiet (weight_any _ _)))
        go_wp2
        · rename_i hw
          go_ret
          exact ⟨ret_int (by rw [HO.out, HS.out, if_pos hw]), HD.step _⟩
        · rename_i hw hw2
          go_ret
          exact ⟨ret_int (by rw [HO.out, HS.out, if_neg (by omega), if_pos (by omega)]), HD.step _⟩
        · rename_i hw hw2
          go_roundw
          case rel => exact ⟨i + 1, by omega, by omega, by go_num, Lib.hid (by rw [HO.out, HS.out, if_neg (by omega), if_neg (by omega)]), HD.step _⟩
          case measure => simp [intOf]; omega
      · by_cases e1 : i = a.size
        · have HA := Lib.hid (drop_end a i (by omega))
          by_cases e2 : i < b.size
          · have HB := Lib.hid (drop_cons b i e2)
            have hc1 : decide ((a.size : Int) < (b.size : Int)) = true := by simp; omega
            go_wp2
            all_goals (go_ret; exact ⟨ret_int (by rw [HO.out, HA.out, HB.out]; rfl), HD⟩)
          · have HB := Lib.hid (drop_end b i (by omega))
            go_wp2
            all_goals (go_ret; exact ⟨ret_int (by rw [HO.out, HA.out, HB.out]; rfl), HD⟩)
        · have HA := Lib.hid (drop_cons a i (by omega))
          have HB := Lib.hid (drop_end b i (by omega))
          go_wp2
          all_goals (go_ret; exact ⟨ret_int (by rw [HO.out, HA.out, HB.out]; rfl), HD⟩)
end Go.Proofs.YtfdinkofcjcahaaDoor.Order
