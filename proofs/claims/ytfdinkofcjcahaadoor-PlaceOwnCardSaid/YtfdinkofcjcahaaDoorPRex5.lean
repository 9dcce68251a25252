-- Functions of the program as Lean functions, and that the machine's calls come to just them: written by the kit's print.py, run by this session's mkprint.py.
import Derived.Test.YtfdinkofcjcahaaDoorPRex0
import Derived.Test.YtfdinkofcjcahaaDoorPRex3
import Derived.Test.YtfdinkofcjcahaaDoorPRex4
namespace Go.Proofs.YtfdinkofcjcahaaDoor.PRe
open Go.RowKit Go.Proofs.YtfdinkofcjcahaaDoor.Ext Go.Proofs.YtfdinkofcjcahaaDoorW.PrintWords Go.Proofs.YtfdinkofcjcahaaDoorW.PrintLast Go.Proofs.YtfdinkofcjcahaaDoorW.PrintMore
attribute [local go_sem] max2_int min2_int max_two min_two max_three min_three max_four min_four   -- for this text's walks alone
set_option linter.unusedVariables false
set_option linter.unusedSimpArgs false

/-! ### heraldref1_Covers: function 16 -/
mutual
def heraldref1_Covers.j0 : Nat → Int → ByteArray → Int → ByteArray → Bool → Option (Bool)
  | 0, _, _, _, _, _ => none
  | k + 1, x0, x1, x2, x3, x9 => if x9 = true then (if x2 < 1 then (heraldref1_Covers.j1 k x0 x1 x2 x3 true) else (heraldref1_Covers.j1 k x0 x1 x2 x3 (decide (x2 > 3)))) else (heraldref1_Covers.j1 k x0 x1 x2 x3 true)
def heraldref1_Covers.j1 : Nat → Int → ByteArray → Int → ByteArray → Bool → Option (Bool)
  | 0, _, _, _, _, _ => none
  | k + 1, x0, x1, x2, x3, x28 => if x28 = true then (some false) else (if x0 < 1 then (heraldref1_Covers.j2 k x0 x1 x2 x3 true) else (heraldref1_Covers.j2 k x0 x1 x2 x3 (decide (x0 > 3))))
def heraldref1_Covers.j2 : Nat → Int → ByteArray → Int → ByteArray → Bool → Option (Bool)
  | 0, _, _, _, _, _ => none
  | k + 1, x0, x1, x2, x3, x34 => if x34 = true then (some false) else (if x3.toList = x1.toList then (if x0 = 2 then (some (x2 != 2)) else (some true)) else ((heraldref1_Below.f k x3 x1).bind fun t166 => (if t166 = true then (heraldref1_Covers.j3 k x0 x1 x2 x3 (x0 == 1)) else (heraldref1_Covers.j3 k x0 x1 x2 x3 true))))
def heraldref1_Covers.j3 : Nat → Int → ByteArray → Int → ByteArray → Bool → Option (Bool)
  | 0, _, _, _, _, _ => none
  | k + 1, x0, x1, x2, x3, x52 => if x52 = true then (some false) else (if x0 = 3 then (some true) else ((heraldref1_Parent.f k x3).bind fun bt167 => (if x2 = 2 then (some false) else (some (bt167.1.toList == x1.toList)))))
end
def heraldref1_Covers.f (k : Nat) (a0 : Int) (a1 : ByteArray) (a2 : Int) (a3 : ByteArray) : Option (Bool) := (heraldref1_Is.f k a1).bind fun t164 => (if t164 = true then ((heraldref1_Is.f k a3).bind fun t165 => (heraldref1_Covers.j0 k a0 a1 a2 a3 t165)) else (heraldref1_Covers.j0 k a0 a1 a2 a3 false))
theorem heraldref1_Covers.mono_l : ∀ k, (∀ y0 y1 y2 y3 y4, LeO (heraldref1_Covers.j0 k y0 y1 y2 y3 y4) (heraldref1_Covers.j0 (k + 1) y0 y1 y2 y3 y4)) ∧ (∀ y0 y1 y2 y3 y4, LeO (heraldref1_Covers.j1 k y0 y1 y2 y3 y4) (heraldref1_Covers.j1 (k + 1) y0 y1 y2 y3 y4)) ∧ (∀ y0 y1 y2 y3 y4, LeO (heraldref1_Covers.j2 k y0 y1 y2 y3 y4) (heraldref1_Covers.j2 (k + 1) y0 y1 y2 y3 y4)) ∧ (∀ y0 y1 y2 y3 y4, LeO (heraldref1_Covers.j3 k y0 y1 y2 y3 y4) (heraldref1_Covers.j3 (k + 1) y0 y1 y2 y3 y4))
  | 0 => ⟨fun _ _ _ _ _ r h => by simp [heraldref1_Covers.j0] at h, fun _ _ _ _ _ r h => by simp [heraldref1_Covers.j1] at h, fun _ _ _ _ _ r h => by simp [heraldref1_Covers.j2] at h, fun _ _ _ _ _ r h => by simp [heraldref1_Covers.j3] at h⟩
  | k + 1 => by
    obtain ⟨ih0, ih1, ih2, ih3⟩ := heraldref1_Covers.mono_l k
    refine ⟨?_, ?_, ?_, ?_⟩
    · intro y0 y1 y2 y3 y4
      unfold heraldref1_Covers.j0
      repeat' first
      | (with_reducible exact ih0 _ _ _ _ _)
      | (with_reducible exact ih1 _ _ _ _ _)
      | (with_reducible exact ih2 _ _ _ _ _)
      | (with_reducible exact ih3 _ _ _ _ _)
      | (with_reducible exact heraldref1_Below.mono _ _ _)
      | (with_reducible exact heraldref1_Is.mono _ _)
      | (with_reducible exact heraldref1_Parent.mono _ _)
      | (with_reducible exact LeO.refl _)
      | (with_reducible exact LeO.none _)
      | (with_reducible refine LeO.ite ?_ ?_)
      | (with_reducible refine LeO.bind ?_ (fun _ => ?_))
      | exact ih0 _ _ _ _ _
      | exact ih1 _ _ _ _ _
      | exact ih2 _ _ _ _ _
      | exact ih3 _ _ _ _ _
      | exact heraldref1_Below.mono _ _ _
      | exact heraldref1_Is.mono _ _
      | exact heraldref1_Parent.mono _ _
      | exact LeO.none _
      | refine LeO.ite ?_ ?_
      | refine LeO.bind ?_ (fun _ => ?_)
    · intro y0 y1 y2 y3 y4
      unfold heraldref1_Covers.j1
      repeat' first
      | (with_reducible exact ih0 _ _ _ _ _)
      | (with_reducible exact ih1 _ _ _ _ _)
      | (with_reducible exact ih2 _ _ _ _ _)
      | (with_reducible exact ih3 _ _ _ _ _)
      | (with_reducible exact heraldref1_Below.mono _ _ _)
      | (with_reducible exact heraldref1_Is.mono _ _)
      | (with_reducible exact heraldref1_Parent.mono _ _)
      | (with_reducible exact LeO.refl _)
      | (with_reducible exact LeO.none _)
      | (with_reducible refine LeO.ite ?_ ?_)
      | (with_reducible refine LeO.bind ?_ (fun _ => ?_))
      | exact ih0 _ _ _ _ _
      | exact ih1 _ _ _ _ _
      | exact ih2 _ _ _ _ _
      | exact ih3 _ _ _ _ _
      | exact heraldref1_Below.mono _ _ _
      | exact heraldref1_Is.mono _ _
      | exact heraldref1_Parent.mono _ _
      | exact LeO.none _
      | refine LeO.ite ?_ ?_
      | refine LeO.bind ?_ (fun _ => ?_)
    · intro y0 y1 y2 y3 y4
      unfold heraldref1_Covers.j2
      repeat' first
      | (with_reducible exact ih0 _ _ _ _ _)
      | (with_reducible exact ih1 _ _ _ _ _)
      | (with_reducible exact ih2 _ _ _ _ _)
      | (with_reducible exact ih3 _ _ _ _ _)
      | (with_reducible exact heraldref1_Below.mono _ _ _)
      | (with_reducible exact heraldref1_Is.mono _ _)
      | (with_reducible exact heraldref1_Parent.mono _ _)
      | (with_reducible exact LeO.refl _)
      | (with_reducible exact LeO.none _)
      | (with_reducible refine LeO.ite ?_ ?_)
      | (with_reducible refine LeO.bind ?_ (fun _ => ?_))
      | exact ih0 _ _ _ _ _
      | exact ih1 _ _ _ _ _
      | exact ih2 _ _ _ _ _
      | exact ih3 _ _ _ _ _
      | exact heraldref1_Below.mono _ _ _
      | exact heraldref1_Is.mono _ _
      | exact heraldref1_Parent.mono _ _
      | exact LeO.none _
      | refine LeO.ite ?_ ?_
      | refine LeO.bind ?_ (fun _ => ?_)
    · intro y0 y1 y2 y3 y4
      unfold heraldref1_Covers.j3
      repeat' first
      | (with_reducible exact ih0 _ _ _ _ _)
      | (with_reducible exact ih1 _ _ _ _ _)
      | (with_reducible exact ih2 _ _ _ _ _)
      | (with_reducible exact ih3 _ _ _ _ _)
      | (with_reducible exact heraldref1_Below.mono _ _ _)
      | (with_reducible exact heraldref1_Is.mono _ _)
      | (with_reducible exact heraldref1_Parent.mono _ _)
      | (with_reducible exact LeO.refl _)
      | (with_reducible exact LeO.none _)
      | (with_reducible refine LeO.ite ?_ ?_)
      | (with_reducible refine LeO.bind ?_ (fun _ => ?_))
      | exact ih0 _ _ _ _ _
      | exact ih1 _ _ _ _ _
      | exact ih2 _ _ _ _ _
      | exact ih3 _ _ _ _ _
      | exact heraldref1_Below.mono _ _ _
      | exact heraldref1_Is.mono _ _
      | exact heraldref1_Parent.mono _ _
      | exact LeO.none _
      | refine LeO.ite ?_ ?_
      | refine LeO.bind ?_ (fun _ => ?_)
theorem heraldref1_Covers.mono : ∀ a0 a1 a2 a3 k, LeO (heraldref1_Covers.f k a0 a1 a2 a3) (heraldref1_Covers.f (k + 1) a0 a1 a2 a3) := by
  intro a0 a1 a2 a3 k
  obtain ⟨ih0, ih1, ih2, ih3⟩ := heraldref1_Covers.mono_l k
  unfold heraldref1_Covers.f
  repeat' first
      | (with_reducible exact ih0 _ _ _ _ _)
      | (with_reducible exact ih1 _ _ _ _ _)
      | (with_reducible exact ih2 _ _ _ _ _)
      | (with_reducible exact ih3 _ _ _ _ _)
      | (with_reducible exact heraldref1_Below.mono _ _ _)
      | (with_reducible exact heraldref1_Is.mono _ _)
      | (with_reducible exact heraldref1_Parent.mono _ _)
      | (with_reducible exact LeO.refl _)
      | (with_reducible exact LeO.none _)
      | (with_reducible refine LeO.ite ?_ ?_)
      | (with_reducible refine LeO.bind ?_ (fun _ => ?_))
      | exact ih0 _ _ _ _ _
      | exact ih1 _ _ _ _ _
      | exact ih2 _ _ _ _ _
      | exact ih3 _ _ _ _ _
      | exact heraldref1_Below.mono _ _ _
      | exact heraldref1_Is.mono _ _
      | exact heraldref1_Parent.mono _ _
      | exact LeO.none _
      | refine LeO.ite ?_ ?_
      | refine LeO.bind ?_ (fun _ => ?_)
set_option maxHeartbeats 8000000 in
set_option maxRecDepth 100000 in
theorem heraldref1_Covers.calls (k : Nat) (a0 : Int) (a1 : ByteArray) (a2 : Int) (a3 : ByteArray) (r : Bool) (w : World) (h : heraldref1_Covers.f k a0 a1 a2 a3 = some r) :
    Calls Tryd.prog 16 #[.int .i64 a0, .string a1, .int .i64 a2, .string a3] w fun e w' => e = .returned (.bool r) ∧ Below w.heap.size w w' := by
  have HB := Aside0.mk (Below.refl w.heap.size w)
  have H : ((heraldref1_Is.f k a1).bind fun t164 => (if t164 = true then ((heraldref1_Is.f k a3).bind fun t165 => (heraldref1_Covers.j0 k a0 a1 a2 a3 t165)) else (heraldref1_Covers.j0 k a0 a1 a2 a3 false))) = some r := h
  clear h
  have HC5 := Aside0.mk H
  clear H
  go_enter Tryd.func16, Tryd.ntmps16
  go_upto_region 1 with (fail)
  go_cut [9] (fun v9 wc => ∃ (kq : Nat) (x9_4 : Bool), v9 = .bool x9_4 ∧ Aside0 (heraldref1_Covers.j0 kq a0 a1 a2 a3 x9_4 = some r) ∧ Aside0 (kq ≤ k) ∧ Aside0 (Below w.heap.size w wc))
  case first =>
    have H := HC5.out
    clear HC5
    replace H := Option.bind_eq_some_iff.mp H
    obtain ⟨t164, A60, H⟩ := H
    replace H : (if t164 = true then ((heraldref1_Is.f k a3).bind fun t165 => (heraldref1_Covers.j0 k a0 a1 a2 a3 t165)) else (heraldref1_Covers.j0 k a0 a1 a2 a3 false)) = some r := H
    have A6 := Aside0.mk A60
    clear A60
    by_cases c7 : t164 = true
    · subst c7
      have H1 : ((heraldref1_Is.f k a3).bind fun t165 => (heraldref1_Covers.j0 k a0 a1 a2 a3 t165)) = some r := by rw [if_pos rfl] at H; exact H
      clear H
      have H := H1
      clear H1
      replace H := Option.bind_eq_some_iff.mp H
      obtain ⟨t165, A80, H⟩ := H
      replace H : (heraldref1_Covers.j0 k a0 a1 a2 a3 t165) = some r := H
      have A8 := Aside0.mk A80
      clear A80
      have H' := Aside0.mk H
      clear H
      go_wp2_with (first | ((with_reducible refine gate_callee (f := 42) rfl ?_); refine goesL_ (some 14) rfl rfl Tryd.func42 (by kernel_rfl) rfl #[.string a1] rfl (by (try simp only [List.map_toArray, List.map_cons, List.map_nil]); first | done | rfl | (simp only [List.length_drop, List.length_take]; rfl)) ?_; (with_reducible refine (heraldref1_Is.calls k a1 true _ A6.out).mono ?_); rintro e w9 ⟨rfl, hb⟩; refine ⟨_, rfl, ?_⟩; have n0_ := Aside0.mk (below_step (by repeat (first | (with_reducible first | exact HB.out | apply below_alloc | apply pw_below_drewN | apply below_drew1) | exact HB.out)) hb); clear HB; have HB := n0_; clear n0_; (try clear hb); (try clear hb2); (try clear hk); (try clear hi)) | (go_at_call 42; (with_reducible refine (heraldref1_Is.calls k a3 t165 _ A8.out).mono ?_); rintro e w10 ⟨rfl, hb⟩; have n0_ := Aside0.mk (below_step (by repeat (first | (with_reducible first | exact HB.out | apply below_alloc | apply pw_below_drewN | apply below_drew1) | exact HB.out)) hb); clear HB; have HB := n0_; clear n0_; (try clear hb); (try clear hb2); (try clear hk); (try clear hi)))
      go_meet
      case rel => exact ⟨_, (t165), (by first | rfl | (simp; done) | (simp [*]; done)), H', ⟨by first | omega | exact Nat.le_refl _⟩, ⟨by repeat (first | (with_reducible first | exact HB.out | apply below_alloc | apply pw_below_drewN | apply below_drew1) | exact HB.out)⟩⟩
    · replace c7 := Bool.eq_false_iff.mpr c7
      subst c7
      have H1 : (heraldref1_Covers.j0 k a0 a1 a2 a3 false) = some r := by rw [if_neg (show ¬ (false = true) by decide)] at H; exact H
      clear H
      have H := H1
      clear H1
      have H' := Aside0.mk H
      clear H
      go_wp2_with (first | ((with_reducible refine gate_callee (f := 42) rfl ?_); refine goesL_ (some 14) rfl rfl Tryd.func42 (by kernel_rfl) rfl #[.string a1] rfl (by (try simp only [List.map_toArray, List.map_cons, List.map_nil]); first | done | rfl | (simp only [List.length_drop, List.length_take]; rfl)) ?_; (with_reducible refine (heraldref1_Is.calls k a1 false _ A6.out).mono ?_); rintro e w11 ⟨rfl, hb⟩; refine ⟨_, rfl, ?_⟩; have n0_ := Aside0.mk (below_step (by repeat (first | (with_reducible first | exact HB.out | apply below_alloc | apply pw_below_drewN | apply below_drew1) | exact HB.out)) hb); clear HB; have HB := n0_; clear n0_; (try clear hb); (try clear hb2); (try clear hk); (try clear hi)))
      go_meet
      case rel => exact ⟨_, (false), (by first | rfl | (simp; done) | (simp [*]; done)), H', ⟨by first | omega | exact Nat.le_refl _⟩, ⟨by repeat (first | (with_reducible first | exact HB.out | apply below_alloc | apply pw_below_drewN | apply below_drew1) | exact HB.out)⟩⟩
  case rest =>
    clear HC5
    try clear c1
    try clear p2
    try clear c4
    try clear c7
    obtain ⟨kq, x9_4, rfl, HA, HJ4, HB⟩ := hcut
    cases kq with
    | zero => exact absurd HA.out (by simp [heraldref1_Covers.j0])
    | succ kj4 =>
      have H := HA.out
      clear HA
      simp only [heraldref1_Covers.j0] at H
      have HC12 := Aside0.mk H
      clear H
      go_upto_region 2 with (fail)
      go_cut [28] (fun v28 wc => ∃ (kq : Nat) (x28_11 : Bool), v28 = .bool x28_11 ∧ Aside0 (heraldref1_Covers.j1 kq a0 a1 a2 a3 x28_11 = some r) ∧ Aside0 (kq ≤ kj4) ∧ Aside0 (Below w.heap.size w wc))
      case first =>
        have H := HC12.out
        clear HC12
        by_cases c13 : x9_4 = true
        · subst c13
          have H1 : (if a2 < 1 then (heraldref1_Covers.j1 kj4 a0 a1 a2 a3 true) else (heraldref1_Covers.j1 kj4 a0 a1 a2 a3 (decide (a2 > 3)))) = some r := by rw [if_pos rfl] at H; exact H
          clear H
          have H := H1
          clear H1
          by_cases c14 : a2 < 1
          · rw [if_pos c14] at H
            have c14b0 : decide (a2 < 1) = true := decide_eq_true c14
            clear c14
            (first | rw [c14b0] | (simp only [i64_w, i32_w]; rw [c14b0]) | skip)
            have H' := Aside0.mk H
            clear H
            go_wp2
            go_meet
            case rel => exact ⟨_, (true), (by first | rfl | (simp; done) | (simp [*]; done)), H', ⟨by have := HJ4.out; first | omega | exact Nat.le_refl _⟩, ⟨by repeat (first | (with_reducible first | exact HB.out | apply below_alloc | apply pw_below_drewN | apply below_drew1) | exact HB.out)⟩⟩
          · rw [if_neg c14] at H
            have c14b0 : decide (a2 < 1) = false := decide_eq_false c14
            clear c14
            (first | rw [c14b0] | (simp only [i64_w, i32_w]; rw [c14b0]) | skip)
            have H' := Aside0.mk H
            clear H
            go_wp2
            go_meet
            case rel => exact ⟨_, (decide (a2 > 3)), (by first | rfl | (simp; done) | (simp [*]; done)), H', ⟨by have := HJ4.out; first | omega | exact Nat.le_refl _⟩, ⟨by repeat (first | (with_reducible first | exact HB.out | apply below_alloc | apply pw_below_drewN | apply below_drew1) | exact HB.out)⟩⟩
        · replace c13 := Bool.eq_false_iff.mpr c13
          subst c13
          have H1 : (heraldref1_Covers.j1 kj4 a0 a1 a2 a3 true) = some r := by rw [if_neg (show ¬ (false = true) by decide)] at H; exact H
          clear H
          have H := H1
          clear H1
          have H' := Aside0.mk H
          clear H
          go_wp2
          go_meet
          case rel => exact ⟨_, (true), (by first | rfl | (simp; done) | (simp [*]; done)), H', ⟨by have := HJ4.out; first | omega | exact Nat.le_refl _⟩, ⟨by repeat (first | (with_reducible first | exact HB.out | apply below_alloc | apply pw_below_drewN | apply below_drew1) | exact HB.out)⟩⟩
      case rest =>
        clear HC12
        try clear c1
        try clear p2
        try clear c4
        try clear c7
        try clear c13
        try clear c14
        try clear c14b0
        try clear p2
        obtain ⟨kq, x28_11, rfl, HA, HJ11, HB⟩ := hcut
        cases kq with
        | zero => exact absurd HA.out (by simp [heraldref1_Covers.j1])
        | succ kj11 =>
          have H := HA.out
          clear HA
          simp only [heraldref1_Covers.j1] at H
          by_cases c15 : x28_11 = true
          · subst c15
            have H1 : (some false) = some r := by rw [if_pos rfl] at H; exact H
            clear H
            have H := H1
            clear H1
            obtain rfl := Option.some.inj H
            go_wp2
            go_ret
            exact ⟨by first | rfl | (simp [errW_none, errW_some] <;> rfl) | (simp [*, errW_none, errW_some] <;> rfl), by repeat (first | (with_reducible first | exact HB.out | apply below_alloc | apply pw_below_drewN | apply below_drew1) | exact HB.out)⟩
          · replace c15 := Bool.eq_false_iff.mpr c15
            subst c15
            have H1 : (if a0 < 1 then (heraldref1_Covers.j2 kj11 a0 a1 a2 a3 true) else (heraldref1_Covers.j2 kj11 a0 a1 a2 a3 (decide (a0 > 3)))) = some r := by rw [if_neg (show ¬ (false = true) by decide)] at H; exact H
            clear H
            have H := H1
            clear H1
            have HC16 := Aside0.mk H
            clear H
            go_upto_region 4 with (fail)
            go_cut [34] (fun v34 wc => ∃ (kq : Nat) (x34_15 : Bool), v34 = .bool x34_15 ∧ Aside0 (heraldref1_Covers.j2 kq a0 a1 a2 a3 x34_15 = some r) ∧ Aside0 (kq ≤ kj11) ∧ Aside0 (Below w.heap.size w wc))
            case first =>
              have H := HC16.out
              clear HC16
              by_cases c17 : a0 < 1
              · rw [if_pos c17] at H
                have c17b0 : decide (a0 < 1) = true := decide_eq_true c17
                clear c17
                (first | rw [c17b0] | (simp only [i64_w, i32_w]; rw [c17b0]) | skip)
                have H' := Aside0.mk H
                clear H
                go_wp2
                go_meet
                case rel => exact ⟨_, (true), (by first | rfl | (simp; done) | (simp [*]; done)), H', ⟨by have := HJ4.out; have := HJ11.out; first | omega | exact Nat.le_refl _⟩, ⟨by repeat (first | (with_reducible first | exact HB.out | apply below_alloc | apply pw_below_drewN | apply below_drew1) | exact HB.out)⟩⟩
              · rw [if_neg c17] at H
                have c17b0 : decide (a0 < 1) = false := decide_eq_false c17
                clear c17
                (first | rw [c17b0] | (simp only [i64_w, i32_w]; rw [c17b0]) | skip)
                have H' := Aside0.mk H
                clear H
                go_wp2
                go_meet
                case rel => exact ⟨_, (decide (a0 > 3)), (by first | rfl | (simp; done) | (simp [*]; done)), H', ⟨by have := HJ4.out; have := HJ11.out; first | omega | exact Nat.le_refl _⟩, ⟨by repeat (first | (with_reducible first | exact HB.out | apply below_alloc | apply pw_below_drewN | apply below_drew1) | exact HB.out)⟩⟩
            case rest =>
              clear HC16
              try clear c1
              try clear p2
              try clear c4
              try clear c7
              try clear c13
              try clear c14
              try clear c14b0
              try clear c15
              try clear c16
              try clear c17
              try clear c17b0
              try clear p2
              obtain ⟨kq, x34_15, rfl, HA, HJ15, HB⟩ := hcut
              cases kq with
              | zero => exact absurd HA.out (by simp [heraldref1_Covers.j2])
              | succ kj15 =>
                have H := HA.out
                clear HA
                simp only [heraldref1_Covers.j2] at H
                by_cases c18 : x34_15 = true
                · subst c18
                  have H1 : (some false) = some r := by rw [if_pos rfl] at H; exact H
                  clear H
                  have H := H1
                  clear H1
                  obtain rfl := Option.some.inj H
                  go_wp2
                  go_ret
                  exact ⟨by first | rfl | (simp [errW_none, errW_some] <;> rfl) | (simp [*, errW_none, errW_some] <;> rfl), by repeat (first | (with_reducible first | exact HB.out | apply below_alloc | apply pw_below_drewN | apply below_drew1) | exact HB.out)⟩
                · replace c18 := Bool.eq_false_iff.mpr c18
                  subst c18
                  have H1 : (if a3.toList = a1.toList then (if a0 = 2 then (some (a2 != 2)) else (some true)) else ((heraldref1_Below.f kj15 a3 a1).bind fun t166 => (if t166 = true then (heraldref1_Covers.j3 kj15 a0 a1 a2 a3 (a0 == 1)) else (heraldref1_Covers.j3 kj15 a0 a1 a2 a3 true)))) = some r := by rw [if_neg (show ¬ (false = true) by decide)] at H; exact H
                  clear H
                  have H := H1
                  clear H1
                  by_cases c19 : a3.toList = a1.toList
                  · rw [if_pos c19] at H
                    have c19b0 : (a3.toList == a1.toList) = true := beq_iff_eq.mpr c19
                    have c19b1 : (a3.toList != a1.toList) = false := bne_eq_false_iff_eq.mpr c19
                    clear c19
                    by_cases c20 : a0 = 2
                    · rw [if_pos c20] at H
                      have c20b0 : (a0 == 2) = true := beq_iff_eq.mpr c20
                      have c20b1 : (a0 != 2) = false := bne_eq_false_iff_eq.mpr c20
                      clear c20
                      obtain rfl := Option.some.inj H
                      go_wp2
                      go_ret
                      exact ⟨by first | rfl | (simp [errW_none, errW_some] <;> rfl) | (simp [*, errW_none, errW_some] <;> rfl), by repeat (first | (with_reducible first | exact HB.out | apply below_alloc | apply pw_below_drewN | apply below_drew1) | exact HB.out)⟩
                    · rw [if_neg c20] at H
                      have c20b0 : (a0 == 2) = false := beq_eq_false_iff_ne.mpr c20
                      have c20b1 : (a0 != 2) = true := bne_iff_ne.mpr c20
                      obtain rfl := Option.some.inj H
                      go_wp2
                      go_ret
                      exact ⟨by first | rfl | (simp [errW_none, errW_some] <;> rfl) | (simp [*, errW_none, errW_some] <;> rfl), by repeat (first | (with_reducible first | exact HB.out | apply below_alloc | apply pw_below_drewN | apply below_drew1) | exact HB.out)⟩
                  · rw [if_neg c19] at H
                    have c19b0 : (a3.toList == a1.toList) = false := beq_eq_false_iff_ne.mpr c19
                    have c19b1 : (a3.toList != a1.toList) = true := bne_iff_ne.mpr c19
                    replace H := Option.bind_eq_some_iff.mp H
                    obtain ⟨t166, A210, H⟩ := H
                    replace H : (if t166 = true then (heraldref1_Covers.j3 kj15 a0 a1 a2 a3 (a0 == 1)) else (heraldref1_Covers.j3 kj15 a0 a1 a2 a3 true)) = some r := H
                    have A21 := Aside0.mk A210
                    clear A210
                    have HC22 := Aside0.mk H
                    clear H
                    go_upto_region 9 with (first | ((with_reducible refine gate_callee (f := 43) rfl ?_); refine goesL_ (some 46) rfl rfl Tryd.func43 (by kernel_rfl) rfl #[.string a3, .string a1] rfl (by (try simp only [List.map_toArray, List.map_cons, List.map_nil]); first | done | rfl | (simp only [List.length_drop, List.length_take]; rfl)) ?_; (with_reducible refine (heraldref1_Below.calls kj15 a3 a1 t166 _ A21.out).mono ?_); rintro e w23 ⟨rfl, hb⟩; refine ⟨_, rfl, ?_⟩; have n0_ := Aside0.mk (below_step (by repeat (first | (with_reducible first | exact HB.out | apply below_alloc | apply pw_below_drewN | apply below_drew1) | exact HB.out)) hb); clear HB; have HB := n0_; clear n0_; (try clear hb); (try clear hb2); (try clear hk); (try clear hi)))
                    (try simp only [Act.put, List.setIfInBounds_toArray, List.set_cons_zero, List.set_cons_succ])
                    go_cut [52] (fun v52 wc => ∃ (kq : Nat) (x52_21 : Bool), v52 = .bool x52_21 ∧ Aside0 (heraldref1_Covers.j3 kq a0 a1 a2 a3 x52_21 = some r) ∧ Aside0 (kq ≤ kj15) ∧ Aside0 (Below w.heap.size w wc))
                    case first =>
                      have H := HC22.out
                      clear HC22
                      by_cases c24 : t166 = true
                      · subst c24
                        have H1 : (heraldref1_Covers.j3 kj15 a0 a1 a2 a3 (a0 == 1)) = some r := by rw [if_pos rfl] at H; exact H
                        clear H
                        have H := H1
                        clear H1
                        have H' := Aside0.mk H
                        clear H
                        go_wp2
                        go_meet
                        case rel => exact ⟨_, ((a0 == 1)), (by first | rfl | (simp; done) | (simp [*]; done)), H', ⟨by have := HJ4.out; have := HJ11.out; have := HJ15.out; first | omega | exact Nat.le_refl _⟩, ⟨by repeat (first | (with_reducible first | exact HB.out | apply below_alloc | apply pw_below_drewN | apply below_drew1) | exact HB.out)⟩⟩
                      · replace c24 := Bool.eq_false_iff.mpr c24
                        subst c24
                        have H1 : (heraldref1_Covers.j3 kj15 a0 a1 a2 a3 true) = some r := by rw [if_neg (show ¬ (false = true) by decide)] at H; exact H
                        clear H
                        have H := H1
                        clear H1
                        have H' := Aside0.mk H
                        clear H
                        go_wp2
                        go_meet
                        case rel => exact ⟨_, (true), (by first | rfl | (simp; done) | (simp [*]; done)), H', ⟨by have := HJ4.out; have := HJ11.out; have := HJ15.out; first | omega | exact Nat.le_refl _⟩, ⟨by repeat (first | (with_reducible first | exact HB.out | apply below_alloc | apply pw_below_drewN | apply below_drew1) | exact HB.out)⟩⟩
                    case rest =>
                      clear HC22
                      try clear c1
                      try clear c2
                      try clear p2
                      try clear c4
                      try clear c7
                      try clear c13
                      try clear c14
                      try clear c14b0
                      try clear c15
                      try clear c16
                      try clear c17
                      try clear c17b0
                      try clear c18
                      try clear c19
                      try clear c19b0
                      try clear c19b1
                      try clear c20
                      try clear c20b0
                      try clear c20b1
                      try clear c24
                      try clear p2
                      obtain ⟨kq, x52_21, rfl, HA, HJ21, HB⟩ := hcut
                      cases kq with
                      | zero => exact absurd HA.out (by simp [heraldref1_Covers.j3])
                      | succ kj21 =>
                        have H := HA.out
                        clear HA
                        simp only [heraldref1_Covers.j3] at H
                        by_cases c25 : x52_21 = true
                        · subst c25
                          have H1 : (some false) = some r := by rw [if_pos rfl] at H; exact H
                          clear H
                          have H := H1
                          clear H1
                          obtain rfl := Option.some.inj H
                          go_wp2
                          go_ret
                          exact ⟨by first | rfl | (simp [errW_none, errW_some] <;> rfl) | (simp [*, errW_none, errW_some] <;> rfl), by repeat (first | (with_reducible first | exact HB.out | apply below_alloc | apply pw_below_drewN | apply below_drew1) | exact HB.out)⟩
                        · replace c25 := Bool.eq_false_iff.mpr c25
                          subst c25
                          have H1 : (if a0 = 3 then (some true) else ((heraldref1_Parent.f kj21 a3).bind fun bt167 => (if a2 = 2 then (some false) else (some (bt167.1.toList == a1.toList))))) = some r := by rw [if_neg (show ¬ (false = true) by decide)] at H; exact H
                          clear H
                          have H := H1
                          clear H1
                          by_cases c26 : a0 = 3
                          · rw [if_pos c26] at H
                            have c26b0 : (a0 == 3) = true := beq_iff_eq.mpr c26
                            have c26b1 : (a0 != 3) = false := bne_eq_false_iff_eq.mpr c26
                            clear c26
                            obtain rfl := Option.some.inj H
                            go_wp2
                            go_ret
                            exact ⟨by first | rfl | (simp [errW_none, errW_some] <;> rfl) | (simp [*, errW_none, errW_some] <;> rfl), by repeat (first | (with_reducible first | exact HB.out | apply below_alloc | apply pw_below_drewN | apply below_drew1) | exact HB.out)⟩
                          · rw [if_neg c26] at H
                            have c26b0 : (a0 == 3) = false := beq_eq_false_iff_ne.mpr c26
                            have c26b1 : (a0 != 3) = true := bne_iff_ne.mpr c26
                            replace H := Option.bind_eq_some_iff.mp H
                            obtain ⟨⟨t167, t168⟩, A270, H⟩ := H
                            replace H : (if a2 = 2 then (some false) else (some (t167.toList == a1.toList))) = some r := H
                            have A27 := Aside0.mk A270
                            clear A270
                            by_cases c28 : a2 = 2
                            · rw [if_pos c28] at H
                              have c28b0 : (a2 == 2) = true := beq_iff_eq.mpr c28
                              have c28b1 : (a2 != 2) = false := bne_eq_false_iff_eq.mpr c28
                              clear c28
                              obtain rfl := Option.some.inj H
                              go_wp2_with (first | ((with_reducible refine gate_callee (f := 37) rfl ?_); refine goesL_ (some 57) rfl rfl Tryd.func37 (by kernel_rfl) rfl #[.string a3] rfl (by (try simp only [List.map_toArray, List.map_cons, List.map_nil]); first | done | rfl | (simp only [List.length_drop, List.length_take]; rfl)) ?_; (with_reducible refine (heraldref1_Parent.calls kj21 a3 t167 t168 _ A27.out).mono ?_); rintro e w29 ⟨rfl, hb⟩; refine ⟨_, rfl, ?_⟩; have n0_ := Aside0.mk (below_step (by repeat (first | (with_reducible first | exact HB.out | apply below_alloc | apply pw_below_drewN | apply below_drew1) | exact HB.out)) hb); clear HB; have HB := n0_; clear n0_; (try clear hb); (try clear hb2); (try clear hk); (try clear hi)))
                              go_ret
                              exact ⟨by first | rfl | (simp [errW_none, errW_some] <;> rfl) | (simp [*, errW_none, errW_some] <;> rfl), by repeat (first | (with_reducible first | exact HB.out | apply below_alloc | apply pw_below_drewN | apply below_drew1) | exact HB.out)⟩
                            · rw [if_neg c28] at H
                              have c28b0 : (a2 == 2) = false := beq_eq_false_iff_ne.mpr c28
                              have c28b1 : (a2 != 2) = true := bne_iff_ne.mpr c28
                              obtain rfl := Option.some.inj H
                              go_wp2_with (first | ((with_reducible refine gate_callee (f := 37) rfl ?_); refine goesL_ (some 57) rfl rfl Tryd.func37 (by kernel_rfl) rfl #[.string a3] rfl (by (try simp only [List.map_toArray, List.map_cons, List.map_nil]); first | done | rfl | (simp only [List.length_drop, List.length_take]; rfl)) ?_; (with_reducible refine (heraldref1_Parent.calls kj21 a3 t167 t168 _ A27.out).mono ?_); rintro e w30 ⟨rfl, hb⟩; refine ⟨_, rfl, ?_⟩; have n0_ := Aside0.mk (below_step (by repeat (first | (with_reducible first | exact HB.out | apply below_alloc | apply pw_below_drewN | apply below_drew1) | exact HB.out)) hb); clear HB; have HB := n0_; clear n0_; (try clear hb); (try clear hb2); (try clear hk); (try clear hi)))
                              go_ret
                              exact ⟨by first | rfl | (simp [errW_none, errW_some] <;> rfl) | (simp [*, errW_none, errW_some] <;> rfl), by repeat (first | (with_reducible first | exact HB.out | apply below_alloc | apply pw_below_drewN | apply below_drew1) | exact HB.out)⟩

/-- THE ONE PURE STATEMENT of heraldref1_Covers: yours. -/
def heraldref1_Covers.Pure : Prop := ∀ (a0 : Int) (a1 : ByteArray) (a2 : Int) (a3 : ByteArray), (Lit.int .i64 a0).wf = true → a1.size ≤ 140737488351232 → (Lit.int .i64 a2).wf = true → a3.size ≤ 140737488351232 → ∃ k, heraldref1_Covers.f k a0 a1 a2 a3 = some true
theorem heraldref1_Covers.walk (P : heraldref1_Covers.Pure) (a0 : Int) (a1 : ByteArray) (a2 : Int) (a3 : ByteArray) (w : World) (w0 : (Lit.int .i64 a0).wf = true) (w1 : a1.size ≤ 140737488351232) (w2 : (Lit.int .i64 a2).wf = true) (w3 : a3.size ≤ 140737488351232) :
    Calls Tryd.prog 16 #[.int .i64 a0, .string a1, .int .i64 a2, .string a3] w fun e w' => e = .returned (.bool true) ∧ Below w.heap.size w w' := by
  obtain ⟨k, h⟩ := P a0 a1 a2 a3 w0 w1 w2 w3
  refine (heraldref1_Covers.calls k a0 a1 a2 a3 true w h).mono ?_
  rintro e w' ⟨rfl, hd⟩
  exact ⟨rfl, hd⟩

end Go.Proofs.YtfdinkofcjcahaaDoor.PRe
