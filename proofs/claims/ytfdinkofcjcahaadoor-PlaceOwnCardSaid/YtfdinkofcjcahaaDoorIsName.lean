/- The walk of place.isName: it answers whether a text is a name (Name.okN), reading the table of names' bytes. -/
import Derived.Test.YtfdinkofcjcahaaDoorEnv
import Derived.WalkKit
import Derived.LoopTactic
import Derived.Outline
import Derived.WalkLawsBesides
import Derived.BigQuiet
import Derived.Deep.QuietTactic
namespace Go.Proofs.YtfdinkofcjcahaaDoor.Ext
open Go.RowKit Go.Proofs.YtfdinkofcjcahaaDoorW.PrintWords Go.Proofs.YtfdinkofcjcahaaDoor.Ord

def place_isName.f (a0 : ByteArray) : Option Bool := some (Name.okN (tx a0))

theorem ret_bool {a b : Bool} (h : a = b) : Ending.returned (.bool a) = .returned (.bool b) := by rw [h]
/-- The loop: the bytes so far are good. -/
def Sofar (s : ByteArray) (i : Nat) : Prop := ((tx s).take i).all Name.okB = true
theorem sofar_next {s : ByteArray} {i : Nat} (h : i < s.size) (hs : Sofar s i) (hc : Name.okB (s[i]'h) = true) : Sofar s (i + 1) := by
  unfold Sofar
  rw [Name.all_snoc s i h, hc, hs]
  rfl
theorem sofar_all {s : ByteArray} {i : Nat} (h : s.size ≤ i) (hs : Sofar s i) : (tx s).all Name.okB = true := by
  unfold Sofar at hs
  rwa [List.take_of_length_le (by rw [tx_length]; exact h)] at hs
set_option maxHeartbeats 1000000 in
theorem place_isName.stays (a0 : ByteArray) (r : Bool) (w : World) (h : place_isName.f a0 = some r) (HE : Env w) :
    Calls Tryd.prog 47 #[.string a0] w fun e w' => e = .returned (.bool r) ∧ w = w' := by
  obtain rfl : Name.okN (tx a0) = r := Option.some.inj h
  clear h
  have HN := Lib.hid (HE.named)
  have hl := tx_length a0
  have htx : a0.toList = tx a0 := ByteArray.toList_eq a0
  have HX := Lib.hid htx
  have HL := Lib.hid hl
  clear hl htx
  by_cases h0 : a0.size = 0
  · have e1 : a0.toList.isEmpty = true := by rw [HX.out, List.isEmpty_iff_length_eq_zero, HL.out]; exact h0
    have e2 : a0.toList = [] := List.isEmpty_iff.1 e1
    have HF := Lib.hid (show Name.okN (tx a0) = false by unfold Name.okN; rw [← HX.out, e2]; rfl)
    clear h0
    go_enter Tryd.func47, Tryd.ntmps47
    go_wp2
    go_ret
    exact ⟨ret_bool HF.out.symm, rfl⟩
  · have e1 : a0.toList.isEmpty = false := by
      rw [Bool.eq_false_iff]
      intro e
      rw [HX.out, List.isEmpty_iff_length_eq_zero, HL.out] at e
      exact h0 e
    have e2 : (a0.toList == []) = false := by rw [beq_eq_false_iff_ne]; intro e; rw [e] at e1; cases e1
    have p0 : 0 < a0.size := by omega
    clear h0
    by_cases h1 : 16 < a0.size
    · have HF := Lib.hid (show Name.okN (tx a0) = false by unfold Name.okN; rw [decide_eq_false (p := (tx a0).length ≤ 16) (by rw [HL.out]; omega)]; simp)
      go_enter Tryd.func47, Tryd.ntmps47
      go_wp2
      go_ret
      exact ⟨ret_bool HF.out.symm, rfl⟩
    · by_cases h2 : a0.toList = [46]
      · have h2b : (a0.toList == [46]) = true := by rw [h2]; rfl
        have HF := Lib.hid (show Name.okN (tx a0) = false by rw [← HX.out, h2]; rfl)
        have H2 := Lib.hid h2
        clear h2
        go_enter Tryd.func47, Tryd.ntmps47
        go_wp2
        go_ret
        exact ⟨ret_bool HF.out.symm, rfl⟩
      · have h2b : (a0.toList == [46]) = false := by rw [beq_eq_false_iff_ne]; exact h2
        have H2 := Lib.hid h2
        clear h2
        by_cases h3 : a0.toList = [46, 46]
        · have h3b : (a0.toList == [46, 46]) = true := by rw [h3]; rfl
          have HF := Lib.hid (show Name.okN (tx a0) = false by rw [← HX.out, h3]; rfl)
          have H3 := Lib.hid h3
          clear h3
          go_enter Tryd.func47, Tryd.ntmps47
          go_wp2
          go_ret
          exact ⟨ret_bool HF.out.symm, rfl⟩
        · have h3b : (a0.toList == [46, 46]) = false := by rw [beq_eq_false_iff_ne]; exact h3
          have HF := Lib.hid (show Name.okN (tx a0) = (tx a0).all Name.okB by
            unfold Name.okN
            rw [← HX.out, h2b, h3b, HX.out, decide_eq_true (p := 1 ≤ (tx a0).length) (by rw [HL.out]; omega), decide_eq_true (p := (tx a0).length ≤ 16) (by rw [HL.out]; omega)]
            rfl)
          have H3 := Lib.hid h3
          clear h3
          have hlen : a0.size ≤ 16 := by omega
          clear h1
          go_enter Tryd.func47, Tryd.ntmps47
          go_wp2
          go_loopw [21] (fun v wr => ∃ i : Nat, i ≤ a0.size ∧ v = .int .i64 i ∧ Sofar a0 i ∧ wr = w) (fun v _ => a0.size - (intOf v).toNat)
          case atStart => exact ⟨0, Nat.zero_le _, rfl, by simp [Sofar], rfl⟩
          case round =>
            obtain ⟨i, hi, rfl, HS, rfl⟩ := hrel
            by_cases hlt : i < a0.size
            · have hby := (a0[i]'hlt).toNat_lt
              by_cases hbig : 128 ≤ (a0[i]'hlt).toNat
              · have HK := Lib.hid (Name.all_false a0 i hlt (Name.okB_small _ hbig))
                have hb1 : decide (128 ≤ ((a0[i]'hlt).toNat : Int)) = true := by simp; omega
                go_wp2
                go_ret
                exact ⟨ret_bool (by rw [HF.out, HK.out]), rfl⟩
              · have hb1 : decide (128 ≤ ((a0[i]'hlt).toNat : Int)) = false := by simp; omega
                have hc := HN.out (a0[i]'hlt).toNat (by omega)
                rw [Name.tab_of] at hc
                by_cases hk : Name.okB (a0[i]'hlt) = true
                · rw [if_pos hk] at hc
                  have HS' := sofar_next hlt HS hk
                  have HK := Lib.hid hk
                  clear hk
                  go_wp2
                  go_roundw
                  case rel => exact ⟨i + 1, by omega, by go_num, HS', trivial⟩
                  case measure => simp [intOf]; omega
                · rw [if_neg hk] at hc
                  have HK := Lib.hid (Name.all_false a0 i hlt (by simpa using hk))
                  clear hk
                  go_wp2
                  go_ret
                  exact ⟨ret_bool (by rw [HF.out, HK.out]), rfl⟩
            · have HK := Lib.hid (sofar_all (by omega) HS)
              go_wp2
              go_ret
              exact ⟨ret_bool (by rw [HF.out, HK.out]), rfl⟩
theorem place_isName.calls (a0 : ByteArray) (r : Bool) (w : World) (h : place_isName.f a0 = some r) (HE : Env w) :
    Calls Tryd.prog 47 #[.string a0] w fun e w' => e = .returned (.bool r) ∧ Below w.heap.size w w' :=
  (place_isName.stays a0 r w h HE).mono fun _ _ ⟨he, hw⟩ => ⟨he, hw ▸ Below.refl _ _⟩
end Go.Proofs.YtfdinkofcjcahaaDoor.Ext
