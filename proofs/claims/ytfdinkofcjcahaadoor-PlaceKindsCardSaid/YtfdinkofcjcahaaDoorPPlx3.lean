-- Functions of the program as Lean functions, and that the machine's calls come to just them: written by the kit's print.py, run by this session's mkprint.py.
import Derived.Test.YtfdinkofcjcahaaDoorPPlx0
import Derived.Test.YtfdinkofcjcahaaDoorPPlx1
import Derived.Test.YtfdinkofcjcahaaDoorPPlx2
namespace Go.Proofs.YtfdinkofcjcahaaDoor.PPl
open Go.RowKit Go.Proofs.YtfdinkofcjcahaaDoor.Ext Go.Proofs.YtfdinkofcjcahaaDoorW.PrintWords Go.Proofs.YtfdinkofcjcahaaDoorW.PrintLast Go.Proofs.YtfdinkofcjcahaaDoorW.PrintMore
attribute [local go_sem] max2_int min2_int max_two min_two max_three min_three max_four min_four   -- for this text's walks alone
set_option linter.unusedVariables false
set_option linter.unusedSimpArgs false

/-! ### heraldlaw1_PlaceKinds: function 13 -/
mutual
def heraldlaw1_PlaceKinds.j0 : Nat → ByteArray → Int → ByteArray → Bool → Option (Bool)
  | 0, _, _, _, _ => none
  | k + 1, x0, x1, x2, x30 => if x30 = true then ((place_Covers.f 1 x0 x1 x2).bind fun t198 => (if t198 = true then (some false) else ((place_Covers.f 2 x0 x1 x2).bind fun t199 => (if t199 = true then (some false) else ((place_Covers.f 3 x0 x1 x2).bind fun t200 => (if t200 = true then (some false) else ((heraldlaw1_known.f k).bind fun t201 => (some t201)))))))) else (heraldlaw1_PlaceKinds.l0 k x0 x1 x2 x2 (x2.toList == x0.toList) 0)
def heraldlaw1_PlaceKinds.j2 : Nat → ByteArray → Int → ByteArray → ByteArray → Bool → Option (Bool)
  | 0, _, _, _, _, _ => none
  | k + 1, x0, x1, x2, x7, x8 => (place_Parent.f x2).bind fun bt205 => ((heraldlaw1_num.f bt205.2).bind fun t207 => (if t207 = 0 then (heraldlaw1_PlaceKinds.j3 k x0 x1 x2 x7 x8 (bt205.1.toList == x0.toList)) else (heraldlaw1_PlaceKinds.j3 k x0 x1 x2 x7 x8 false)))
def heraldlaw1_PlaceKinds.j3 : Nat → ByteArray → Int → ByteArray → ByteArray → Bool → Bool → Option (Bool)
  | 0, _, _, _, _, _, _ => none
  | k + 1, x0, x1, x2, x7, x8, x14 => (place_Covers.f 1 x0 x1 x2).bind fun t208 => (if (t208 != (x2.toList == x0.toList)) = true then (heraldlaw1_PlaceKinds.j4 k x0 x1 x2 x7 x14 true) else ((place_Covers.f 3 x0 x1 x2).bind fun t209 => (heraldlaw1_PlaceKinds.j4 k x0 x1 x2 x7 x14 (t209 != x8))))
def heraldlaw1_PlaceKinds.j4 : Nat → ByteArray → Int → ByteArray → ByteArray → Bool → Bool → Option (Bool)
  | 0, _, _, _, _, _, _ => none
  | k + 1, x0, x1, x2, x7, x14, x104 => if x104 = true then (some false) else ((place_Covers.f 2 x0 x1 x2).bind fun t210 => (if x1 = 2 then (if (t210 == false) = true then (if x7.toList = ([47] : List UInt8) then ((heraldlaw1_known.f k).bind fun t211 => (some t211)) else (some false)) else (some false)) else (if x2.toList = x0.toList then (if (t210 == true) = true then (if x7.toList = ([47] : List UInt8) then ((heraldlaw1_known.f k).bind fun t212 => (some t212)) else (some false)) else (some false)) else (if (t210 == x14) = true then (if x7.toList = ([47] : List UInt8) then ((heraldlaw1_known.f k).bind fun t213 => (some t213)) else (some false)) else (some false)))))
def heraldlaw1_PlaceKinds.l0 : Nat → ByteArray → Int → ByteArray → ByteArray → Bool → Int → Option (Bool)
  | 0, _, _, _, _, _, _ => none
  | k + 1, x0, x1, x2, x7, x8, x9 => if x9 < 6 then ((place_Parent.f x7).bind fun bt202 => ((heraldlaw1_num.f bt202.2).bind fun t204 => (if t204 = 0 then (if x8 = true then (heraldlaw1_PlaceKinds.l0 k x0 x1 x2 bt202.1 true (wrap64 (x9 + 1))) else (heraldlaw1_PlaceKinds.l0 k x0 x1 x2 bt202.1 (bt202.1.toList == x0.toList) (wrap64 (x9 + 1)))) else (heraldlaw1_PlaceKinds.j2 k x0 x1 x2 x7 x8)))) else (heraldlaw1_PlaceKinds.j2 k x0 x1 x2 x7 x8)
end
def heraldlaw1_PlaceKinds.f (k : Nat) (a0 : ByteArray) (a1 : Int) (a2 : ByteArray) : Option (Bool) := (heraldlaw1_in.f a0).bind fun t196 => (if t196 = true then ((heraldlaw1_in.f a2).bind fun t197 => (if t197 = true then (if a1 < 1 then (heraldlaw1_PlaceKinds.j0 k a0 a1 a2 true) else (heraldlaw1_PlaceKinds.j0 k a0 a1 a2 (decide (a1 > 3)))) else (heraldlaw1_PlaceKinds.j0 k a0 a1 a2 true))) else (heraldlaw1_PlaceKinds.j0 k a0 a1 a2 true))
theorem heraldlaw1_PlaceKinds.mono_l : ∀ k, (∀ y0 y1 y2 y3, LeO (heraldlaw1_PlaceKinds.j0 k y0 y1 y2 y3) (heraldlaw1_PlaceKinds.j0 (k + 1) y0 y1 y2 y3)) ∧ (∀ y0 y1 y2 y3 y4, LeO (heraldlaw1_PlaceKinds.j2 k y0 y1 y2 y3 y4) (heraldlaw1_PlaceKinds.j2 (k + 1) y0 y1 y2 y3 y4)) ∧ (∀ y0 y1 y2 y3 y4 y5, LeO (heraldlaw1_PlaceKinds.j3 k y0 y1 y2 y3 y4 y5) (heraldlaw1_PlaceKinds.j3 (k + 1) y0 y1 y2 y3 y4 y5)) ∧ (∀ y0 y1 y2 y3 y4 y5, LeO (heraldlaw1_PlaceKinds.j4 k y0 y1 y2 y3 y4 y5) (heraldlaw1_PlaceKinds.j4 (k + 1) y0 y1 y2 y3 y4 y5)) ∧ (∀ y0 y1 y2 y3 y4 y5, LeO (heraldlaw1_PlaceKinds.l0 k y0 y1 y2 y3 y4 y5) (heraldlaw1_PlaceKinds.l0 (k + 1) y0 y1 y2 y3 y4 y5))
  | 0 => ⟨fun _ _ _ _ r h => by simp [heraldlaw1_PlaceKinds.j0] at h, fun _ _ _ _ _ r h => by simp [heraldlaw1_PlaceKinds.j2] at h, fun _ _ _ _ _ _ r h => by simp [heraldlaw1_PlaceKinds.j3] at h, fun _ _ _ _ _ _ r h => by simp [heraldlaw1_PlaceKinds.j4] at h, fun _ _ _ _ _ _ r h => by simp [heraldlaw1_PlaceKinds.l0] at h⟩
  | k + 1 => by
    obtain ⟨ih0, ih1, ih2, ih3, ih4⟩ := heraldlaw1_PlaceKinds.mono_l k
    refine ⟨?_, ?_, ?_, ?_, ?_⟩
    · intro y0 y1 y2 y3
      unfold heraldlaw1_PlaceKinds.j0
      repeat' first
      | (with_reducible exact ih0 _ _ _ _)
      | (with_reducible exact ih1 _ _ _ _ _)
      | (with_reducible exact ih2 _ _ _ _ _ _)
      | (with_reducible exact ih3 _ _ _ _ _ _)
      | (with_reducible exact ih4 _ _ _ _ _ _)
      | (with_reducible exact heraldlaw1_known.mono _)
      | (with_reducible exact LeO.refl _)
      | (with_reducible exact LeO.none _)
      | (with_reducible refine LeO.ite ?_ ?_)
      | (with_reducible refine LeO.bind ?_ (fun _ => ?_))
      | exact ih0 _ _ _ _
      | exact ih1 _ _ _ _ _
      | exact ih2 _ _ _ _ _ _
      | exact ih3 _ _ _ _ _ _
      | exact ih4 _ _ _ _ _ _
      | exact heraldlaw1_known.mono _
      | exact LeO.none _
      | refine LeO.ite ?_ ?_
      | refine LeO.bind ?_ (fun _ => ?_)
    · intro y0 y1 y2 y3 y4
      unfold heraldlaw1_PlaceKinds.j2
      repeat' first
      | (with_reducible exact ih0 _ _ _ _)
      | (with_reducible exact ih1 _ _ _ _ _)
      | (with_reducible exact ih2 _ _ _ _ _ _)
      | (with_reducible exact ih3 _ _ _ _ _ _)
      | (with_reducible exact ih4 _ _ _ _ _ _)
      | (with_reducible exact heraldlaw1_known.mono _)
      | (with_reducible exact LeO.refl _)
      | (with_reducible exact LeO.none _)
      | (with_reducible refine LeO.ite ?_ ?_)
      | (with_reducible refine LeO.bind ?_ (fun _ => ?_))
      | exact ih0 _ _ _ _
      | exact ih1 _ _ _ _ _
      | exact ih2 _ _ _ _ _ _
      | exact ih3 _ _ _ _ _ _
      | exact ih4 _ _ _ _ _ _
      | exact heraldlaw1_known.mono _
      | exact LeO.none _
      | refine LeO.ite ?_ ?_
      | refine LeO.bind ?_ (fun _ => ?_)
    · intro y0 y1 y2 y3 y4 y5
      unfold heraldlaw1_PlaceKinds.j3
      repeat' first
      | (with_reducible exact ih0 _ _ _ _)
      | (with_reducible exact ih1 _ _ _ _ _)
      | (with_reducible exact ih2 _ _ _ _ _ _)
      | (with_reducible exact ih3 _ _ _ _ _ _)
      | (with_reducible exact ih4 _ _ _ _ _ _)
      | (with_reducible exact heraldlaw1_known.mono _)
      | (with_reducible exact LeO.refl _)
      | (with_reducible exact LeO.none _)
      | (with_reducible refine LeO.ite ?_ ?_)
      | (with_reducible refine LeO.bind ?_ (fun _ => ?_))
      | exact ih0 _ _ _ _
      | exact ih1 _ _ _ _ _
      | exact ih2 _ _ _ _ _ _
      | exact ih3 _ _ _ _ _ _
      | exact ih4 _ _ _ _ _ _
      | exact heraldlaw1_known.mono _
      | exact LeO.none _
      | refine LeO.ite ?_ ?_
      | refine LeO.bind ?_ (fun _ => ?_)
    · intro y0 y1 y2 y3 y4 y5
      unfold heraldlaw1_PlaceKinds.j4
      repeat' first
      | (with_reducible exact ih0 _ _ _ _)
      | (with_reducible exact ih1 _ _ _ _ _)
      | (with_reducible exact ih2 _ _ _ _ _ _)
      | (with_reducible exact ih3 _ _ _ _ _ _)
      | (with_reducible exact ih4 _ _ _ _ _ _)
      | (with_reducible exact heraldlaw1_known.mono _)
      | (with_reducible exact LeO.refl _)
      | (with_reducible exact LeO.none _)
      | (with_reducible refine LeO.ite ?_ ?_)
      | (with_reducible refine LeO.bind ?_ (fun _ => ?_))
      | exact ih0 _ _ _ _
      | exact ih1 _ _ _ _ _
      | exact ih2 _ _ _ _ _ _
      | exact ih3 _ _ _ _ _ _
      | exact ih4 _ _ _ _ _ _
      | exact heraldlaw1_known.mono _
      | exact LeO.none _
      | refine LeO.ite ?_ ?_
      | refine LeO.bind ?_ (fun _ => ?_)
    · intro y0 y1 y2 y3 y4 y5
      unfold heraldlaw1_PlaceKinds.l0
      repeat' first
      | (with_reducible exact ih0 _ _ _ _)
      | (with_reducible exact ih1 _ _ _ _ _)
      | (with_reducible exact ih2 _ _ _ _ _ _)
      | (with_reducible exact ih3 _ _ _ _ _ _)
      | (with_reducible exact ih4 _ _ _ _ _ _)
      | (with_reducible exact heraldlaw1_known.mono _)
      | (with_reducible exact LeO.refl _)
      | (with_reducible exact LeO.none _)
      | (with_reducible refine LeO.ite ?_ ?_)
      | (with_reducible refine LeO.bind ?_ (fun _ => ?_))
      | exact ih0 _ _ _ _
      | exact ih1 _ _ _ _ _
      | exact ih2 _ _ _ _ _ _
      | exact ih3 _ _ _ _ _ _
      | exact ih4 _ _ _ _ _ _
      | exact heraldlaw1_known.mono _
      | exact LeO.none _
      | refine LeO.ite ?_ ?_
      | refine LeO.bind ?_ (fun _ => ?_)
theorem heraldlaw1_PlaceKinds.mono : ∀ a0 a1 a2 k, LeO (heraldlaw1_PlaceKinds.f k a0 a1 a2) (heraldlaw1_PlaceKinds.f (k + 1) a0 a1 a2) := by
  intro a0 a1 a2 k
  obtain ⟨ih0, ih1, ih2, ih3, ih4⟩ := heraldlaw1_PlaceKinds.mono_l k
  unfold heraldlaw1_PlaceKinds.f
  repeat' first
      | (with_reducible exact ih0 _ _ _ _)
      | (with_reducible exact ih1 _ _ _ _ _)
      | (with_reducible exact ih2 _ _ _ _ _ _)
      | (with_reducible exact ih3 _ _ _ _ _ _)
      | (with_reducible exact ih4 _ _ _ _ _ _)
      | (with_reducible exact heraldlaw1_known.mono _)
      | (with_reducible exact LeO.refl _)
      | (with_reducible exact LeO.none _)
      | (with_reducible refine LeO.ite ?_ ?_)
      | (with_reducible refine LeO.bind ?_ (fun _ => ?_))
      | exact ih0 _ _ _ _
      | exact ih1 _ _ _ _ _
      | exact ih2 _ _ _ _ _ _
      | exact ih3 _ _ _ _ _ _
      | exact ih4 _ _ _ _ _ _
      | exact heraldlaw1_known.mono _
      | exact LeO.none _
      | refine LeO.ite ?_ ?_
      | refine LeO.bind ?_ (fun _ => ?_)
set_option maxHeartbeats 8000000 in
set_option maxRecDepth 100000 in
theorem heraldlaw1_PlaceKinds.calls (k : Nat) (a0 : ByteArray) (a1 : Int) (a2 : ByteArray) (r : Bool) (w : World) (h : heraldlaw1_PlaceKinds.f k a0 a1 a2 = some r) (HE : Env2 w) :
    Calls Tryd.prog 13 #[.string a0, .int .i64 a1, .string a2] w fun e w' => e = .returned (.bool r) ∧ Below w.heap.size w w' := by
  have HB := Aside0.mk (Below.refl w.heap.size w)
  have H : ((heraldlaw1_in.f a0).bind fun t196 => (if t196 = true then ((heraldlaw1_in.f a2).bind fun t197 => (if t197 = true then (if a1 < 1 then (heraldlaw1_PlaceKinds.j0 k a0 a1 a2 true) else (heraldlaw1_PlaceKinds.j0 k a0 a1 a2 (decide (a1 > 3)))) else (heraldlaw1_PlaceKinds.j0 k a0 a1 a2 true))) else (heraldlaw1_PlaceKinds.j0 k a0 a1 a2 true))) = some r := h
  clear h
  have HC4 := Aside0.mk H
  clear H
  go_enter Tryd.func13, Tryd.ntmps13
  go_upto_region 1 with (fail)
  go_cut [30] (fun v30 wc => ∃ (kq : Nat) (x30_3 : Bool), v30 = .bool x30_3 ∧ Aside0 (heraldlaw1_PlaceKinds.j0 kq a0 a1 a2 x30_3 = some r) ∧ Aside0 (kq ≤ k) ∧ Aside0 (Below w.heap.size w wc))
  case first =>
    have H := HC4.out
    clear HC4
    replace H := Option.bind_eq_some_iff.mp H
    obtain ⟨t196, A50, H⟩ := H
    replace H : (if t196 = true then ((heraldlaw1_in.f a2).bind fun t197 => (if t197 = true then (if a1 < 1 then (heraldlaw1_PlaceKinds.j0 k a0 a1 a2 true) else (heraldlaw1_PlaceKinds.j0 k a0 a1 a2 (decide (a1 > 3)))) else (heraldlaw1_PlaceKinds.j0 k a0 a1 a2 true))) else (heraldlaw1_PlaceKinds.j0 k a0 a1 a2 true)) = some r := H
    have A5 := Aside0.mk A50
    clear A50
    by_cases c6 : t196 = true
    · subst c6
      have H1 : ((heraldlaw1_in.f a2).bind fun t197 => (if t197 = true then (if a1 < 1 then (heraldlaw1_PlaceKinds.j0 k a0 a1 a2 true) else (heraldlaw1_PlaceKinds.j0 k a0 a1 a2 (decide (a1 > 3)))) else (heraldlaw1_PlaceKinds.j0 k a0 a1 a2 true))) = some r := by rw [if_pos rfl] at H; exact H
      clear H
      have H := H1
      clear H1
      replace H := Option.bind_eq_some_iff.mp H
      obtain ⟨t197, A70, H⟩ := H
      replace H : (if t197 = true then (if a1 < 1 then (heraldlaw1_PlaceKinds.j0 k a0 a1 a2 true) else (heraldlaw1_PlaceKinds.j0 k a0 a1 a2 (decide (a1 > 3)))) else (heraldlaw1_PlaceKinds.j0 k a0 a1 a2 true)) = some r := H
      have A7 := Aside0.mk A70
      clear A70
      by_cases c8 : t197 = true
      · subst c8
        have H1 : (if a1 < 1 then (heraldlaw1_PlaceKinds.j0 k a0 a1 a2 true) else (heraldlaw1_PlaceKinds.j0 k a0 a1 a2 (decide (a1 > 3)))) = some r := by rw [if_pos rfl] at H; exact H
        clear H
        have H := H1
        clear H1
        by_cases c9 : a1 < 1
        · rw [if_pos c9] at H
          have c9b0 : decide (a1 < 1) = true := decide_eq_true c9
          clear c9
          (first | rw [c9b0] | (simp only [i64_w, i32_w]; rw [c9b0]) | skip)
          have H' := Aside0.mk H
          clear H
          go_wp2_with (first | ((with_reducible refine gate_callee (f := 41) rfl ?_); refine goesL_ (some 16) rfl rfl Tryd.func41 (by kernel_rfl) rfl #[.string a0] rfl (by (try simp only [List.map_toArray, List.map_cons, List.map_nil]); first | done | rfl | (simp only [List.length_drop, List.length_take]; rfl)) ?_; (with_reducible refine (heraldlaw1_in.calls a0 true _ A5.out ((HE.at_ (by repeat (first | (with_reducible first | exact HB.out | apply below_alloc | apply pw_below_drewN | apply below_drew1) | exact HB.out))).env)).mono ?_); rintro e w10 ⟨rfl, hb⟩; refine ⟨_, rfl, ?_⟩; have n0_ := Aside0.mk (below_step (by repeat (first | (with_reducible first | exact HB.out | apply below_alloc | apply pw_below_drewN | apply below_drew1) | exact HB.out)) hb); clear HB; have HB := n0_; clear n0_; (try clear hb); (try clear hb2); (try clear hk); (try clear hi)) | (go_at_call 41; (with_reducible refine (heraldlaw1_in.calls a2 true _ A7.out ((HE.at_ (by repeat (first | (with_reducible first | exact HB.out | apply below_alloc | apply pw_below_drewN | apply below_drew1) | exact HB.out))).env)).mono ?_); rintro e w11 ⟨rfl, hb⟩; have n0_ := Aside0.mk (below_step (by repeat (first | (with_reducible first | exact HB.out | apply below_alloc | apply pw_below_drewN | apply below_drew1) | exact HB.out)) hb); clear HB; have HB := n0_; clear n0_; (try clear hb); (try clear hb2); (try clear hk); (try clear hi)))
          go_meet
          case rel => exact ⟨_, (true), (by first | rfl | (simp; done) | (simp [*]; done)), H', ⟨by first | omega | exact Nat.le_refl _⟩, ⟨by repeat (first | (with_reducible first | exact HB.out | apply below_alloc | apply pw_below_drewN | apply below_drew1) | exact HB.out)⟩⟩
        · rw [if_neg c9] at H
          have c9b0 : decide (a1 < 1) = false := decide_eq_false c9
          clear c9
          (first | rw [c9b0] | (simp only [i64_w, i32_w]; rw [c9b0]) | skip)
          have H' := Aside0.mk H
          clear H
          go_wp2_with (first | ((with_reducible refine gate_callee (f := 41) rfl ?_); refine goesL_ (some 16) rfl rfl Tryd.func41 (by kernel_rfl) rfl #[.string a0] rfl (by (try simp only [List.map_toArray, List.map_cons, List.map_nil]); first | done | rfl | (simp only [List.length_drop, List.length_take]; rfl)) ?_; (with_reducible refine (heraldlaw1_in.calls a0 true _ A5.out ((HE.at_ (by repeat (first | (with_reducible first | exact HB.out | apply below_alloc | apply pw_below_drewN | apply below_drew1) | exact HB.out))).env)).mono ?_); rintro e w12 ⟨rfl, hb⟩; refine ⟨_, rfl, ?_⟩; have n0_ := Aside0.mk (below_step (by repeat (first | (with_reducible first | exact HB.out | apply below_alloc | apply pw_below_drewN | apply below_drew1) | exact HB.out)) hb); clear HB; have HB := n0_; clear n0_; (try clear hb); (try clear hb2); (try clear hk); (try clear hi)) | (go_at_call 41; (with_reducible refine (heraldlaw1_in.calls a2 true _ A7.out ((HE.at_ (by repeat (first | (with_reducible first | exact HB.out | apply below_alloc | apply pw_below_drewN | apply below_drew1) | exact HB.out))).env)).mono ?_); rintro e w13 ⟨rfl, hb⟩; have n0_ := Aside0.mk (below_step (by repeat (first | (with_reducible first | exact HB.out | apply below_alloc | apply pw_below_drewN | apply below_drew1) | exact HB.out)) hb); clear HB; have HB := n0_; clear n0_; (try clear hb); (try clear hb2); (try clear hk); (try clear hi)))
          go_meet
          case rel => exact ⟨_, (decide (a1 > 3)), (by first | rfl | (simp; done) | (simp [*]; done)), H', ⟨by first | omega | exact Nat.le_refl _⟩, ⟨by repeat (first | (with_reducible first | exact HB.out | apply below_alloc | apply pw_below_drewN | apply below_drew1) | exact HB.out)⟩⟩
      · replace c8 := Bool.eq_false_iff.mpr c8
        subst c8
        have H1 : (heraldlaw1_PlaceKinds.j0 k a0 a1 a2 true) = some r := by rw [if_neg (show ¬ (false = true) by decide)] at H; exact H
        clear H
        have H := H1
        clear H1
        have H' := Aside0.mk H
        clear H
        go_wp2_with (first | ((with_reducible refine gate_callee (f := 41) rfl ?_); refine goesL_ (some 16) rfl rfl Tryd.func41 (by kernel_rfl) rfl #[.string a0] rfl (by (try simp only [List.map_toArray, List.map_cons, List.map_nil]); first | done | rfl | (simp only [List.length_drop, List.length_take]; rfl)) ?_; (with_reducible refine (heraldlaw1_in.calls a0 true _ A5.out ((HE.at_ (by repeat (first | (with_reducible first | exact HB.out | apply below_alloc | apply pw_below_drewN | apply below_drew1) | exact HB.out))).env)).mono ?_); rintro e w14 ⟨rfl, hb⟩; refine ⟨_, rfl, ?_⟩; have n0_ := Aside0.mk (below_step (by repeat (first | (with_reducible first | exact HB.out | apply below_alloc | apply pw_below_drewN | apply below_drew1) | exact HB.out)) hb); clear HB; have HB := n0_; clear n0_; (try clear hb); (try clear hb2); (try clear hk); (try clear hi)) | (go_at_call 41; (with_reducible refine (heraldlaw1_in.calls a2 false _ A7.out ((HE.at_ (by repeat (first | (with_reducible first | exact HB.out | apply below_alloc | apply pw_below_drewN | apply below_drew1) | exact HB.out))).env)).mono ?_); rintro e w15 ⟨rfl, hb⟩; have n0_ := Aside0.mk (below_step (by repeat (first | (with_reducible first | exact HB.out | apply below_alloc | apply pw_below_drewN | apply below_drew1) | exact HB.out)) hb); clear HB; have HB := n0_; clear n0_; (try clear hb); (try clear hb2); (try clear hk); (try clear hi)))
        go_meet
        case rel => exact ⟨_, (true), (by first | rfl | (simp; done) | (simp [*]; done)), H', ⟨by first | omega | exact Nat.le_refl _⟩, ⟨by repeat (first | (with_reducible first | exact HB.out | apply below_alloc | apply pw_below_drewN | apply below_drew1) | exact HB.out)⟩⟩
    · replace c6 := Bool.eq_false_iff.mpr c6
      subst c6
      have H1 : (heraldlaw1_PlaceKinds.j0 k a0 a1 a2 true) = some r := by rw [if_neg (show ¬ (false = true) by decide)] at H; exact H
      clear H
      have H := H1
      clear H1
      have H' := Aside0.mk H
      clear H
      go_wp2_with (first | ((with_reducible refine gate_callee (f := 41) rfl ?_); refine goesL_ (some 16) rfl rfl Tryd.func41 (by kernel_rfl) rfl #[.string a0] rfl (by (try simp only [List.map_toArray, List.map_cons, List.map_nil]); first | done | rfl | (simp only [List.length_drop, List.length_take]; rfl)) ?_; (with_reducible refine (heraldlaw1_in.calls a0 false _ A5.out ((HE.at_ (by repeat (first | (with_reducible first | exact HB.out | apply below_alloc | apply pw_below_drewN | apply below_drew1) | exact HB.out))).env)).mono ?_); rintro e w16 ⟨rfl, hb⟩; refine ⟨_, rfl, ?_⟩; have n0_ := Aside0.mk (below_step (by repeat (first | (with_reducible first | exact HB.out | apply below_alloc | apply pw_below_drewN | apply below_drew1) | exact HB.out)) hb); clear HB; have HB := n0_; clear n0_; (try clear hb); (try clear hb2); (try clear hk); (try clear hi)))
      go_meet
      case rel => exact ⟨_, (true), (by first | rfl | (simp; done) | (simp [*]; done)), H', ⟨by first | omega | exact Nat.le_refl _⟩, ⟨by repeat (first | (with_reducible first | exact HB.out | apply below_alloc | apply pw_below_drewN | apply below_drew1) | exact HB.out)⟩⟩
  case rest =>
    clear HC4
    try clear c1
    try clear p2
    try clear c4
    try clear c6
    try clear c8
    try clear c9
    try clear c9b0
    try clear c13
    obtain ⟨kq, x30_3, rfl, HA, HJ3, HB⟩ := hcut
    cases kq with
    | zero => exact absurd HA.out (by simp [heraldlaw1_PlaceKinds.j0])
    | succ kj3 =>
      have H := HA.out
      clear HA
      simp only [heraldlaw1_PlaceKinds.j0] at H
      by_cases c17 : x30_3 = true
      · subst c17
        have H1 : ((place_Covers.f 1 a0 a1 a2).bind fun t198 => (if t198 = true then (some false) else ((place_Covers.f 2 a0 a1 a2).bind fun t199 => (if t199 = true then (some false) else ((place_Covers.f 3 a0 a1 a2).bind fun t200 => (if t200 = true then (some false) else ((heraldlaw1_known.f kj3).bind fun t201 => (some t201)))))))) = some r := by rw [if_pos rfl] at H; exact H
        clear H
        have H := H1
        clear H1
        replace H := Option.bind_eq_some_iff.mp H
        obtain ⟨t198, A180, H⟩ := H
        replace H : (if t198 = true then (some false) else ((place_Covers.f 2 a0 a1 a2).bind fun t199 => (if t199 = true then (some false) else ((place_Covers.f 3 a0 a1 a2).bind fun t200 => (if t200 = true then (some false) else ((heraldlaw1_known.f kj3).bind fun t201 => (some t201))))))) = some r := H
        have A18 := Aside0.mk A180
        clear A180
        by_cases c19 : t198 = true
        · subst c19
          have H1 : (some false) = some r := by rw [if_pos rfl] at H; exact H
          clear H
          have H := H1
          clear H1
          obtain rfl := Option.some.inj H
          go_wp2_with (first | ((with_reducible refine gate_callee (f := 17) rfl ?_); refine goesL_ (some 34) rfl rfl Tryd.func17 (by kernel_rfl) rfl #[.int .i64 1, .string a0, .int .i64 a1, .string a2] rfl (by (try simp only [List.map_toArray, List.map_cons, List.map_nil]); first | done | rfl | (simp only [List.length_drop, List.length_take]; rfl)) ?_; (with_reducible refine (place_Covers.calls 1 a0 a1 a2 true _ A18.out ((HE.at_ (by repeat (first | (with_reducible first | exact HB.out | apply below_alloc | apply pw_below_drewN | apply below_drew1) | exact HB.out))).env)).mono ?_); rintro e w20 ⟨rfl, hb⟩; refine ⟨_, rfl, ?_⟩; have n0_ := Aside0.mk (below_step (by repeat (first | (with_reducible first | exact HB.out | apply below_alloc | apply pw_below_drewN | apply below_drew1) | exact HB.out)) hb); clear HB; have HB := n0_; clear n0_; (try clear hb); (try clear hb2); (try clear hk); (try clear hi)))
          go_ret
          exact ⟨by first | rfl | (simp [errW_none, errW_some] <;> rfl) | (simp [*, errW_none, errW_some] <;> rfl), by repeat (first | (with_reducible first | exact HB.out | apply below_alloc | apply pw_below_drewN | apply below_drew1) | exact HB.out)⟩
        · replace c19 := Bool.eq_false_iff.mpr c19
          subst c19
          have H1 : ((place_Covers.f 2 a0 a1 a2).bind fun t199 => (if t199 = true then (some false) else ((place_Covers.f 3 a0 a1 a2).bind fun t200 => (if t200 = true then (some false) else ((heraldlaw1_known.f kj3).bind fun t201 => (some t201)))))) = some r := by rw [if_neg (show ¬ (false = true) by decide)] at H; exact H
          clear H
          have H := H1
          clear H1
          replace H := Option.bind_eq_some_iff.mp H
          obtain ⟨t199, A210, H⟩ := H
          replace H : (if t199 = true then (some false) else ((place_Covers.f 3 a0 a1 a2).bind fun t200 => (if t200 = true then (some false) else ((heraldlaw1_known.f kj3).bind fun t201 => (some t201))))) = some r := H
          have A21 := Aside0.mk A210
          clear A210
          by_cases c22 : t199 = true
          · subst c22
            have H1 : (some false) = some r := by rw [if_pos rfl] at H; exact H
            clear H
            have H := H1
            clear H1
            obtain rfl := Option.some.inj H
            go_wp2_with (first | ((with_reducible refine gate_callee (f := 17) rfl ?_); refine goesL_ (some 34) rfl rfl Tryd.func17 (by kernel_rfl) rfl #[.int .i64 1, .string a0, .int .i64 a1, .string a2] rfl (by (try simp only [List.map_toArray, List.map_cons, List.map_nil]); first | done | rfl | (simp only [List.length_drop, List.length_take]; rfl)) ?_; (with_reducible refine (place_Covers.calls 1 a0 a1 a2 false _ A18.out ((HE.at_ (by repeat (first | (with_reducible first | exact HB.out | apply below_alloc | apply pw_below_drewN | apply below_drew1) | exact HB.out))).env)).mono ?_); rintro e w23 ⟨rfl, hb⟩; refine ⟨_, rfl, ?_⟩; have n0_ := Aside0.mk (below_step (by repeat (first | (with_reducible first | exact HB.out | apply below_alloc | apply pw_below_drewN | apply below_drew1) | exact HB.out)) hb); clear HB; have HB := n0_; clear n0_; (try clear hb); (try clear hb2); (try clear hk); (try clear hi)) | (go_at_call 17; (with_reducible refine (place_Covers.calls 2 a0 a1 a2 true _ A21.out ((HE.at_ (by repeat (first | (with_reducible first | exact HB.out | apply below_alloc | apply pw_below_drewN | apply below_drew1) | exact HB.out))).env)).mono ?_); rintro e w24 ⟨rfl, hb⟩; have n0_ := Aside0.mk (below_step (by repeat (first | (with_reducible first | exact HB.out | apply below_alloc | apply pw_below_drewN | apply below_drew1) | exact HB.out)) hb); clear HB; have HB := n0_; clear n0_; (try clear hb); (try clear hb2); (try clear hk); (try clear hi)))
            go_ret
            exact ⟨by first | rfl | (simp [errW_none, errW_some] <;> rfl) | (simp [*, errW_none, errW_some] <;> rfl), by repeat (first | (with_reducible first | exact HB.out | apply below_alloc | apply pw_below_drewN | apply below_drew1) | exact HB.out)⟩
          · replace c22 := Bool.eq_false_iff.mpr c22
            subst c22
            have H1 : ((place_Covers.f 3 a0 a1 a2).bind fun t200 => (if t200 = true then (some false) else ((heraldlaw1_known.f kj3).bind fun t201 => (some t201)))) = some r := by rw [if_neg (show ¬ (false = true) by decide)] at H; exact H
            clear H
            have H := H1
            clear H1
            replace H := Option.bind_eq_some_iff.mp H
            obtain ⟨t200, A250, H⟩ := H
            replace H : (if t200 = true then (some false) else ((heraldlaw1_known.f kj3).bind fun t201 => (some t201))) = some r := H
            have A25 := Aside0.mk A250
            clear A250
            by_cases c26 : t200 = true
            · subst c26
              have H1 : (some false) = some r := by rw [if_pos rfl] at H; exact H
              clear H
              have H := H1
              clear H1
              obtain rfl := Option.some.inj H
              go_wp2_with (first | ((with_reducible refine gate_callee (f := 17) rfl ?_); refine goesL_ (some 34) rfl rfl Tryd.func17 (by kernel_rfl) rfl #[.int .i64 1, .string a0, .int .i64 a1, .string a2] rfl (by (try simp only [List.map_toArray, List.map_cons, List.map_nil]); first | done | rfl | (simp only [List.length_drop, List.length_take]; rfl)) ?_; (with_reducible refine (place_Covers.calls 1 a0 a1 a2 false _ A18.out ((HE.at_ (by repeat (first | (with_reducible first | exact HB.out | apply below_alloc | apply pw_below_drewN | apply below_drew1) | exact HB.out))).env)).mono ?_); rintro e w27 ⟨rfl, hb⟩; refine ⟨_, rfl, ?_⟩; have n0_ := Aside0.mk (below_step (by repeat (first | (with_reducible first | exact HB.out | apply below_alloc | apply pw_below_drewN | apply below_drew1) | exact HB.out)) hb); clear HB; have HB := n0_; clear n0_; (try clear hb); (try clear hb2); (try clear hk); (try clear hi)) | (go_at_call 17; (with_reducible refine (place_Covers.calls 2 a0 a1 a2 false _ A21.out ((HE.at_ (by repeat (first | (with_reducible first | exact HB.out | apply below_alloc | apply pw_below_drewN | apply below_drew1) | exact HB.out))).env)).mono ?_); rintro e w28 ⟨rfl, hb⟩; have n0_ := Aside0.mk (below_step (by repeat (first | (with_reducible first | exact HB.out | apply below_alloc | apply pw_below_drewN | apply below_drew1) | exact HB.out)) hb); clear HB; have HB := n0_; clear n0_; (try clear hb); (try clear hb2); (try clear hk); (try clear hi)) | (go_at_call 17; (with_reducible refine (place_Covers.calls 3 a0 a1 a2 true _ A25.out ((HE.at_ (by repeat (first | (with_reducible first | exact HB.out | apply below_alloc | apply pw_below_drewN | apply below_drew1) | exact HB.out))).env)).mono ?_); rintro e w29 ⟨rfl, hb⟩; have n0_ := Aside0.mk (below_step (by repeat (first | (with_reducible first | exact HB.out | apply below_alloc | apply pw_below_drewN | apply below_drew1) | exact HB.out)) hb); clear HB; have HB := n0_; clear n0_; (try clear hb); (try clear hb2); (try clear hk); (try clear hi)))
              go_ret
              exact ⟨by first | rfl | (simp [errW_none, errW_some] <;> rfl) | (simp [*, errW_none, errW_some] <;> rfl), by repeat (first | (with_reducible first | exact HB.out | apply below_alloc | apply pw_below_drewN | apply below_drew1) | exact HB.out)⟩
            · replace c26 := Bool.eq_false_iff.mpr c26
              subst c26
              have H1 : ((heraldlaw1_known.f kj3).bind fun t201 => (some t201)) = some r := by rw [if_neg (show ¬ (false = true) by decide)] at H; exact H
              clear H
              have H := H1
              clear H1
              replace H := Option.bind_eq_some_iff.mp H
              obtain ⟨t201, A300, H⟩ := H
              replace H : (some t201) = some r := H
              have A30 := Aside0.mk A300
              clear A300
              obtain rfl := Option.some.inj H
              go_wp2_with (first | ((with_reducible refine gate_callee (f := 17) rfl ?_); refine goesL_ (some 34) rfl rfl Tryd.func17 (by kernel_rfl) rfl #[.int .i64 1, .string a0, .int .i64 a1, .string a2] rfl (by (try simp only [List.map_toArray, List.map_cons, List.map_nil]); first | done | rfl | (simp only [List.length_drop, List.length_take]; rfl)) ?_; (with_reducible refine (place_Covers.calls 1 a0 a1 a2 false _ A18.out ((HE.at_ (by repeat (first | (with_reducible first | exact HB.out | apply below_alloc | apply pw_below_drewN | apply below_drew1) | exact HB.out))).env)).mono ?_); rintro e w31 ⟨rfl, hb⟩; refine ⟨_, rfl, ?_⟩; have n0_ := Aside0.mk (below_step (by repeat (first | (with_reducible first | exact HB.out | apply below_alloc | apply pw_below_drewN | apply below_drew1) | exact HB.out)) hb); clear HB; have HB := n0_; clear n0_; (try clear hb); (try clear hb2); (try clear hk); (try clear hi)) | (go_at_call 17; (with_reducible refine (place_Covers.calls 2 a0 a1 a2 false _ A21.out ((HE.at_ (by repeat (first | (with_reducible first | exact HB.out | apply below_alloc | apply pw_below_drewN | apply below_drew1) | exact HB.out))).env)).mono ?_); rintro e w32 ⟨rfl, hb⟩; have n0_ := Aside0.mk (below_step (by repeat (first | (with_reducible first | exact HB.out | apply below_alloc | apply pw_below_drewN | apply below_drew1) | exact HB.out)) hb); clear HB; have HB := n0_; clear n0_; (try clear hb); (try clear hb2); (try clear hk); (try clear hi)) | (go_at_call 17; (with_reducible refine (place_Covers.calls 3 a0 a1 a2 false _ A25.out ((HE.at_ (by repeat (first | (with_reducible first | exact HB.out | apply below_alloc | apply pw_below_drewN | apply below_drew1) | exact HB.out))).env)).mono ?_); rintro e w33 ⟨rfl, hb⟩; have n0_ := Aside0.mk (below_step (by repeat (first | (with_reducible first | exact HB.out | apply below_alloc | apply pw_below_drewN | apply below_drew1) | exact HB.out)) hb); clear HB; have HB := n0_; clear n0_; (try clear hb); (try clear hb2); (try clear hk); (try clear hi)) | (go_at_call 26; (with_reducible refine (heraldlaw1_known.calls kj3  t201 _ A30.out (HE.at_ (by repeat (first | (with_reducible first | exact HB.out | apply below_alloc | apply pw_below_drewN | apply below_drew1) | exact HB.out)))).mono ?_); rintro e w34 ⟨rfl, hb⟩; have n0_ := Aside0.mk (below_step (by repeat (first | (with_reducible first | exact HB.out | apply below_alloc | apply pw_below_drewN | apply below_drew1) | exact HB.out)) hb); clear HB; have HB := n0_; clear n0_; (try clear hb); (try clear hb2); (try clear hk); (try clear hi)))
              go_ret
              exact ⟨by first | rfl | (simp [errW_none, errW_some] <;> rfl) | (simp [*, errW_none, errW_some] <;> rfl), by repeat (first | (with_reducible first | exact HB.out | apply below_alloc | apply pw_below_drewN | apply below_drew1) | exact HB.out)⟩
      · replace c17 := Bool.eq_false_iff.mpr c17
        subst c17
        have H1 : (heraldlaw1_PlaceKinds.l0 kj3 a0 a1 a2 a2 (a2.toList == a0.toList) 0) = some r := by rw [if_neg (show ¬ (false = true) by decide)] at H; exact H
        clear H
        have H := H1
        clear H1
        have HC35 := Aside0.mk H
        clear H
        go_upto_block 0 with (fail)
        go_cut [7, 8] (fun v7 v8 wc => ∃ (kq : Nat) (x7_34 : ByteArray) (x8_34 : Bool), v7 = .string x7_34 ∧ v8 = .bool x8_34 ∧ Aside0 (heraldlaw1_PlaceKinds.j2 kq a0 a1 a2 x7_34 x8_34 = some r) ∧ Aside0 (kq ≤ kj3) ∧ Aside0 (Below w.heap.size w wc))
        case first =>
          have H := HC35.out
          clear HC35
          have H' := Aside0.mk H
          clear H
          go_wp2
          go_loopg [7, 8, 9] kj3 (fun kq v7 v8 v9 w' => ∃ (x7_2 : ByteArray) (x8_2 : Bool) (x9_2 : Int), v7 = .string x7_2 ∧ v8 = .bool x8_2 ∧ v9 = .int .i64 x9_2 ∧ Aside0 (heraldlaw1_PlaceKinds.l0 kq a0 a1 a2 x7_2 x8_2 x9_2 = some r) ∧ Aside0 (kq ≤ kj3) ∧ Aside0 (Below w.heap.size w w'))
          case atStart => exact ⟨(a2), ((a2.toList == a0.toList)), (0), (by first | rfl | (simp; done) | (simp [*]; done)), (by first | rfl | (simp; done) | (simp [*]; done)), (by first | rfl | (simp; done) | (simp [*]; done)), H', ⟨Nat.le_refl _⟩, ⟨by repeat (first | (with_reducible first | exact HB.out | apply below_alloc | apply pw_below_drewN | apply below_drew1) | exact HB.out)⟩⟩
          case round =>
            clear H'
            try clear c1
            try clear c2
            try clear p2
            try clear c4
            try clear c6
            try clear c8
            try clear c9
            try clear c9b0
            try clear c13
            try clear c17
            try clear c19
            try clear c22
            try clear c26
            try clear p2
            obtain ⟨x7_2, x8_2, x9_2, rfl, rfl, rfl, HA, HK2, HB⟩ := hrel
            cases gk with
            | zero => exact absurd HA.out (by simp [heraldlaw1_PlaceKinds.l0])
            | succ k2 =>
              have H := HA.out
              clear HA
              simp only [heraldlaw1_PlaceKinds.l0] at H
              by_cases c36 : x9_2 < 6
              · rw [if_pos c36] at H
                have c36b0 : decide (x9_2 < 6) = true := decide_eq_true c36
                clear c36
                (first | rw [c36b0] | (simp only [i64_w, i32_w]; rw [c36b0]) | skip)
                replace H := Option.bind_eq_some_iff.mp H
                obtain ⟨⟨t202, t203⟩, A370, H⟩ := H
                replace H : ((heraldlaw1_num.f t203).bind fun t204 => (if t204 = 0 then (if x8_2 = true then (heraldlaw1_PlaceKinds.l0 k2 a0 a1 a2 t202 true (wrap64 (x9_2 + 1))) else (heraldlaw1_PlaceKinds.l0 k2 a0 a1 a2 t202 (t202.toList == a0.toList) (wrap64 (x9_2 + 1)))) else (heraldlaw1_PlaceKinds.j2 k2 a0 a1 a2 x7_2 x8_2))) = some r := H
                have A37 := Aside0.mk A370
                clear A370
                replace H := Option.bind_eq_some_iff.mp H
                obtain ⟨t204, A380, H⟩ := H
                replace H : (if t204 = 0 then (if x8_2 = true then (heraldlaw1_PlaceKinds.l0 k2 a0 a1 a2 t202 true (wrap64 (x9_2 + 1))) else (heraldlaw1_PlaceKinds.l0 k2 a0 a1 a2 t202 (t202.toList == a0.toList) (wrap64 (x9_2 + 1)))) else (heraldlaw1_PlaceKinds.j2 k2 a0 a1 a2 x7_2 x8_2)) = some r := H
                have A38 := Aside0.mk A380
                clear A380
                by_cases c39 : t204 = 0
                · rw [if_pos c39] at H
                  have c39b0 : (t204 == 0) = true := beq_iff_eq.mpr c39
                  have c39b1 : (t204 != 0) = false := bne_eq_false_iff_eq.mpr c39
                  clear c39
                  by_cases c40 : x8_2 = true
                  · subst c40
                    have H1 : (heraldlaw1_PlaceKinds.l0 k2 a0 a1 a2 t202 true (wrap64 (x9_2 + 1))) = some r := by rw [if_pos rfl] at H; exact H
                    clear H
                    have H := H1
                    clear H1
                    have H' := Aside0.mk H
                    clear H
                    go_wp2_with (first | ((with_reducible refine gate_callee (f := 19) rfl ?_); refine goesL_ (some 63) rfl rfl Tryd.func19 (by kernel_rfl) rfl #[.string x7_2] rfl (by (try simp only [List.map_toArray, List.map_cons, List.map_nil]); first | done | rfl | (simp only [List.length_drop, List.length_take]; rfl)) ?_; (with_reducible refine (place_Parent.calls x7_2 t202 t203 _ A37.out ((HE.at_ (by repeat (first | (with_reducible first | exact HB.out | apply below_alloc | apply pw_below_drewN | apply below_drew1) | exact HB.out))).env)).mono ?_); rintro e w41 ⟨rfl, hb⟩; refine ⟨_, rfl, ?_⟩; have n0_ := Aside0.mk (below_step (by repeat (first | (with_reducible first | exact HB.out | apply below_alloc | apply pw_below_drewN | apply below_drew1) | exact HB.out)) hb); clear HB; have HB := n0_; clear n0_; (try clear hb); (try clear hb2); (try clear hk); (try clear hi)) | ((with_reducible refine gate_callee (f := 20) rfl ?_); refine goesL_ (some 67) rfl rfl Tryd.func20 (by kernel_rfl) rfl #[.int .i64 t203] rfl (by (try simp only [List.map_toArray, List.map_cons, List.map_nil]); first | done | rfl | (simp only [List.length_drop, List.length_take]; rfl)) ?_; (with_reducible refine (heraldlaw1_num.calls t203 t204 _ A38.out).mono ?_); rintro e w' ⟨rfl, ⟨nd, rfl⟩⟩; refine ⟨_, rfl, ?_⟩))
                    go_roundg k2
                    case measure => have := HJ3.out; have := HK2.out; omega
                    case rel => exact ⟨(t202), (true), (wrap64 (x9_2 + 1)), (by first | rfl | (simp; done) | (simp [*]; done)), (by first | rfl | (simp; done) | (simp [*]; done)), (by first | rfl | (simp; done) | (simp [*]; done)), H', ⟨by have := HJ3.out; have := HK2.out; omega⟩, ⟨by repeat (first | (with_reducible first | exact HB.out | apply below_alloc | apply pw_below_drewN | apply below_drew1) | exact HB.out)⟩⟩
                  · replace c40 := Bool.eq_false_iff.mpr c40
                    subst c40
                    have H1 : (heraldlaw1_PlaceKinds.l0 k2 a0 a1 a2 t202 (t202.toList == a0.toList) (wrap64 (x9_2 + 1))) = some r := by rw [if_neg (show ¬ (false = true) by decide)] at H; exact H
                    clear H
                    have H := H1
                    clear H1
                    have H' := Aside0.mk H
                    clear H
                    go_wp2_with (first | ((with_reducible refine gate_callee (f := 19) rfl ?_); refine goesL_ (some 63) rfl rfl Tryd.func19 (by kernel_rfl) rfl #[.string x7_2] rfl (by (try simp only [List.map_toArray, List.map_cons, List.map_nil]); first | done | rfl | (simp only [List.length_drop, List.length_take]; rfl)) ?_; (with_reducible refine (place_Parent.calls x7_2 t202 t203 _ A37.out ((HE.at_ (by repeat (first | (with_reducible first | exact HB.out | apply below_alloc | apply pw_below_drewN | apply below_drew1) | exact HB.out))).env)).mono ?_); rintro e w42 ⟨rfl, hb⟩; refine ⟨_, rfl, ?_⟩; have n0_ := Aside0.mk (below_step (by repeat (first | (with_reducible first | exact HB.out | apply below_alloc | apply pw_below_drewN | apply below_drew1) | exact HB.out)) hb); clear HB; have HB := n0_; clear n0_; (try clear hb); (try clear hb2); (try clear hk); (try clear hi)) | ((with_reducible refine gate_callee (f := 20) rfl ?_); refine goesL_ (some 67) rfl rfl Tryd.func20 (by kernel_rfl) rfl #[.int .i64 t203] rfl (by (try simp only [List.map_toArray, List.map_cons, List.map_nil]); first | done | rfl | (simp only [List.length_drop, List.length_take]; rfl)) ?_; (with_reducible refine (heraldlaw1_num.calls t203 t204 _ A38.out).mono ?_); rintro e w' ⟨rfl, ⟨nd, rfl⟩⟩; refine ⟨_, rfl, ?_⟩))
                    go_roundg k2
                    case measure => have := HJ3.out; have := HK2.out; omega
                    case rel => exact ⟨(t202), ((t202.toList == a0.toList)), (wrap64 (x9_2 + 1)), (by first | rfl | (simp; done) | (simp [*]; done)), (by first | rfl | (simp; done) | (simp [*]; done)), (by first | rfl | (simp; done) | (simp [*]; done)), H', ⟨by have := HJ3.out; have := HK2.out; omega⟩, ⟨by repeat (first | (with_reducible first | exact HB.out | apply below_alloc | apply pw_below_drewN | apply below_drew1) | exact HB.out)⟩⟩
                · rw [if_neg c39] at H
                  have c39b0 : (t204 == 0) = false := beq_eq_false_iff_ne.mpr c39
                  have c39b1 : (t204 != 0) = true := bne_iff_ne.mpr c39
                  have H' := Aside0.mk H
                  clear H
                  go_wp2_with (first | ((with_reducible refine gate_callee (f := 19) rfl ?_); refine goesL_ (some 63) rfl rfl Tryd.func19 (by kernel_rfl) rfl #[.string x7_2] rfl (by (try simp only [List.map_toArray, List.map_cons, List.map_nil]); first | done | rfl | (simp only [List.length_drop, List.length_take]; rfl)) ?_; (with_reducible refine (place_Parent.calls x7_2 t202 t203 _ A37.out ((HE.at_ (by repeat (first | (with_reducible first | exact HB.out | apply below_alloc | apply pw_below_drewN | apply below_drew1) | exact HB.out))).env)).mono ?_); rintro e w43 ⟨rfl, hb⟩; refine ⟨_, rfl, ?_⟩; have n0_ := Aside0.mk (below_step (by repeat (first | (with_reducible first | exact HB.out | apply below_alloc | apply pw_below_drewN | apply below_drew1) | exact HB.out)) hb); clear HB; have HB := n0_; clear n0_; (try clear hb); (try clear hb2); (try clear hk); (try clear hi)) | ((with_reducible refine gate_callee (f := 20) rfl ?_); refine goesL_ (some 67) rfl rfl Tryd.func20 (by kernel_rfl) rfl #[.int .i64 t203] rfl (by (try simp only [List.map_toArray, List.map_cons, List.map_nil]); first | done | rfl | (simp only [List.length_drop, List.length_take]; rfl)) ?_; (with_reducible refine (heraldlaw1_num.calls t203 t204 _ A38.out).mono ?_); rintro e w' ⟨rfl, ⟨nd, rfl⟩⟩; refine ⟨_, rfl, ?_⟩))
                  go_meet
                  case rel => exact ⟨_, (x7_2), (x8_2), (by first | rfl | (simp; done) | (simp [*]; done)), (by first | rfl | (simp; done) | (simp [*]; done)), H', ⟨by have := HJ3.out; have := HK2.out; first | omega | exact Nat.le_refl _⟩, ⟨by repeat (first | (with_reducible first | exact HB.out | apply below_alloc | apply pw_below_drewN | apply below_drew1) | exact HB.out)⟩⟩
              · rw [if_neg c36] at H
                have c36b0 : decide (x9_2 < 6) = false := decide_eq_false c36
                clear c36
                (first | rw [c36b0] | (simp only [i64_w, i32_w]; rw [c36b0]) | skip)
                have H' := Aside0.mk H
                clear H
                go_wp2
                go_meet
                case rel => exact ⟨_, (x7_2), (x8_2), (by first | rfl | (simp; done) | (simp [*]; done)), (by first | rfl | (simp; done) | (simp [*]; done)), H', ⟨by have := HJ3.out; have := HK2.out; first | omega | exact Nat.le_refl _⟩, ⟨by repeat (first | (with_reducible first | exact HB.out | apply below_alloc | apply pw_below_drewN | apply below_drew1) | exact HB.out)⟩⟩
        case rest =>
          clear HC35
          try clear c1
          try clear c2
          try clear p2
          try clear c3
          try clear c4
          try clear c6
          try clear p6
          try clear c8
          try clear c9
          try clear c9b0
          try clear c13
          try clear c17
          try clear c19
          try clear c20
          try clear c22
          try clear c26
          try clear c36
          try clear c36b0
          try clear c39
          try clear c39b0
          try clear c39b1
          try clear c40
          try clear c41
          try clear p2
          obtain ⟨kq, x7_34, x8_34, rfl, rfl, HA, HJ34, HB⟩ := hcut
          cases kq with
          | zero => exact absurd HA.out (by simp [heraldlaw1_PlaceKinds.j2])
          | succ kj34 =>
            have H := HA.out
            clear HA
            simp only [heraldlaw1_PlaceKinds.j2] at H
            replace H := Option.bind_eq_some_iff.mp H
            obtain ⟨⟨t205, t206⟩, A440, H⟩ := H
            replace H : ((heraldlaw1_num.f t206).bind fun t207 => (if t207 = 0 then (heraldlaw1_PlaceKinds.j3 kj34 a0 a1 a2 x7_34 x8_34 (t205.toList == a0.toList)) else (heraldlaw1_PlaceKinds.j3 kj34 a0 a1 a2 x7_34 x8_34 false))) = some r := H
            have A44 := Aside0.mk A440
            clear A440
            have HC45 := Aside0.mk H
            clear H
            go_upto_region 13 with (first | ((with_reducible refine gate_callee (f := 19) rfl ?_); refine goesL_ (some 78) rfl rfl Tryd.func19 (by kernel_rfl) rfl #[.string a2] rfl (by (try simp only [List.map_toArray, List.map_cons, List.map_nil]); first | done | rfl | (simp only [List.length_drop, List.length_take]; rfl)) ?_; (with_reducible refine (place_Parent.calls a2 t205 t206 _ A44.out ((HE.at_ (by repeat (first | (with_reducible first | exact HB.out | apply below_alloc | apply pw_below_drewN | apply below_drew1) | exact HB.out))).env)).mono ?_); rintro e w46 ⟨rfl, hb⟩; refine ⟨_, rfl, ?_⟩; have n0_ := Aside0.mk (below_step (by repeat (first | (with_reducible first | exact HB.out | apply below_alloc | apply pw_below_drewN | apply below_drew1) | exact HB.out)) hb); clear HB; have HB := n0_; clear n0_; (try clear hb); (try clear hb2); (try clear hk); (try clear hi)))
            (try simp only [Act.put, List.setIfInBounds_toArray, List.set_cons_zero, List.set_cons_succ])
            go_cut [14] (fun v14 wc => ∃ (kq : Nat) (x14_44 : Bool), v14 = .bool x14_44 ∧ Aside0 (heraldlaw1_PlaceKinds.j3 kq a0 a1 a2 x7_34 x8_34 x14_44 = some r) ∧ Aside0 (kq ≤ kj34) ∧ Aside0 (Below w.heap.size w wc))
            case first =>
              have H := HC45.out
              clear HC45
              replace H := Option.bind_eq_some_iff.mp H
              obtain ⟨t207, A470, H⟩ := H
              replace H : (if t207 = 0 then (heraldlaw1_PlaceKinds.j3 kj34 a0 a1 a2 x7_34 x8_34 (t205.toList == a0.toList)) else (heraldlaw1_PlaceKinds.j3 kj34 a0 a1 a2 x7_34 x8_34 false)) = some r := H
              have A47 := Aside0.mk A470
              clear A470
              by_cases c48 : t207 = 0
              · rw [if_pos c48] at H
                have c48b0 : (t207 == 0) = true := beq_iff_eq.mpr c48
                have c48b1 : (t207 != 0) = false := bne_eq_false_iff_eq.mpr c48
                clear c48
                (first | rw [c48b0] | (simp only [i64_w, i32_w]; rw [c48b0]) | skip)
                have H' := Aside0.mk H
                clear H
                go_wp2_with (first | ((with_reducible refine gate_callee (f := 20) rfl ?_); refine goesL_ (some 82) rfl rfl Tryd.func20 (by kernel_rfl) rfl #[.int .i64 t206] rfl (by (try simp only [List.map_toArray, List.map_cons, List.map_nil]); first | done | rfl | (simp only [List.length_drop, List.length_take]; rfl)) ?_; (with_reducible refine (heraldlaw1_num.calls t206 t207 _ A47.out).mono ?_); rintro e w' ⟨rfl, ⟨nd, rfl⟩⟩; refine ⟨_, rfl, ?_⟩))
                go_meet
                case rel => exact ⟨_, ((t205.toList == a0.toList)), (by first | rfl | (simp; done) | (simp [*]; done)), H', ⟨by have := HJ3.out; have := HJ34.out; first | omega | exact Nat.le_refl _⟩, ⟨by repeat (first | (with_reducible first | exact HB.out | apply below_alloc | apply pw_below_drewN | apply below_drew1) | exact HB.out)⟩⟩
              · rw [if_neg c48] at H
                have c48b0 : (t207 == 0) = false := beq_eq_false_iff_ne.mpr c48
                have c48b1 : (t207 != 0) = true := bne_iff_ne.mpr c48
                (first | rw [c48b0] | (simp only [i64_w, i32_w]; rw [c48b0]) | skip)
                have H' := Aside0.mk H
                clear H
                go_wp2_with (first | ((with_reducible refine gate_callee (f := 20) rfl ?_); refine goesL_ (some 82) rfl rfl Tryd.func20 (by kernel_rfl) rfl #[.int .i64 t206] rfl (by (try simp only [List.map_toArray, List.map_cons, List.map_nil]); first | done | rfl | (simp only [List.length_drop, List.length_take]; rfl)) ?_; (with_reducible refine (heraldlaw1_num.calls t206 t207 _ A47.out).mono ?_); rintro e w' ⟨rfl, ⟨nd, rfl⟩⟩; refine ⟨_, rfl, ?_⟩))
                go_meet
                case rel => exact ⟨_, (false), (by first | rfl | (simp; done) | (simp [*]; done)), H', ⟨by have := HJ3.out; have := HJ34.out; first | omega | exact Nat.le_refl _⟩, ⟨by repeat (first | (with_reducible first | exact HB.out | apply below_alloc | apply pw_below_drewN | apply below_drew1) | exact HB.out)⟩⟩
            case rest =>
              clear HC45
              try clear c1
              try clear c2
              try clear p2
              try clear c3
              try clear c4
              try clear c6
              try clear p6
              try clear c8
              try clear c9
              try clear c9b0
              try clear c13
              try clear c17
              try clear c19
              try clear c20
              try clear c22
              try clear c26
              try clear c36
              try clear c36b0
              try clear c39
              try clear c39b0
              try clear c39b1
              try clear c40
              try clear c41
              try clear c48
              try clear c48b0
              try clear c48b1
              try clear p2
              try clear p6
              obtain ⟨kq, x14_44, rfl, HA, HJ44, HB⟩ := hcut
              cases kq with
              | zero => exact absurd HA.out (by simp [heraldlaw1_PlaceKinds.j3])
              | succ kj44 =>
                have H := HA.out
                clear HA
                simp only [heraldlaw1_PlaceKinds.j3] at H
                have HC49 := Aside0.mk H
                clear H
                go_upto_region 14 with (fail)
                go_cut [104] (fun v104 wc => ∃ (kq : Nat) (x104_48 : Bool), v104 = .bool x104_48 ∧ Aside0 (heraldlaw1_PlaceKinds.j4 kq a0 a1 a2 x7_34 x14_44 x104_48 = some r) ∧ Aside0 (kq ≤ kj44) ∧ Aside0 (Below w.heap.size w wc))
                case first =>
                  have H := HC49.out
                  clear HC49
                  replace H := Option.bind_eq_some_iff.mp H
                  obtain ⟨t208, A500, H⟩ := H
                  replace H : (if (t208 != (a2.toList == a0.toList)) = true then (heraldlaw1_PlaceKinds.j4 kj44 a0 a1 a2 x7_34 x14_44 true) else ((place_Covers.f 3 a0 a1 a2).bind fun t209 => (heraldlaw1_PlaceKinds.j4 kj44 a0 a1 a2 x7_34 x14_44 (t209 != x8_34)))) = some r := H
                  have A50 := Aside0.mk A500
                  clear A500
                  by_cases c51 : (t208 != (a2.toList == a0.toList)) = true
                  · rw [if_pos c51] at H
                    have c51b0 : (t208 != (a2.toList == a0.toList)) = true := c51
                    (try (have c51b1 : decide (t208 = (a2.toList == a0.toList)) = false := by simpa using c51))
                    (try (have c51b2 : (t208 == (a2.toList == a0.toList)) = false := by simpa using c51))
                    (try (have c51b3 : ¬ (t208 = (a2.toList == a0.toList)) := by simpa using c51))
                    clear c51
                    (first | rw [c51b0] | (simp only [i64_w, i32_w]; rw [c51b0]) | skip)
                    have H' := Aside0.mk H
                    clear H
                    go_wp2_with (first | ((with_reducible refine gate_callee (f := 17) rfl ?_); refine goesL_ (some 92) rfl rfl Tryd.func17 (by kernel_rfl) rfl #[.int .i64 1, .string a0, .int .i64 a1, .string a2] rfl (by (try simp only [List.map_toArray, List.map_cons, List.map_nil]); first | done | rfl | (simp only [List.length_drop, List.length_take]; rfl)) ?_; (with_reducible refine (place_Covers.calls 1 a0 a1 a2 t208 _ A50.out ((HE.at_ (by repeat (first | (with_reducible first | exact HB.out | apply below_alloc | apply pw_below_drewN | apply below_drew1) | exact HB.out))).env)).mono ?_); rintro e w52 ⟨rfl, hb⟩; refine ⟨_, rfl, ?_⟩; have n0_ := Aside0.mk (below_step (by repeat (first | (with_reducible first | exact HB.out | apply below_alloc | apply pw_below_drewN | apply below_drew1) | exact HB.out)) hb); clear HB; have HB := n0_; clear n0_; (try clear hb); (try clear hb2); (try clear hk); (try clear hi)))
                    go_meet
                    case rel => exact ⟨_, (true), (by first | rfl | (simp; done) | (simp [*]; done)), H', ⟨by have := HJ3.out; have := HJ34.out; have := HJ44.out; first | omega | exact Nat.le_refl _⟩, ⟨by repeat (first | (with_reducible first | exact HB.out | apply below_alloc | apply pw_below_drewN | apply below_drew1) | exact HB.out)⟩⟩
                  · rw [if_neg c51] at H
                    have c51b0 : (t208 != (a2.toList == a0.toList)) = false := by simpa using c51
                    (try (have c51b1 : decide (t208 = (a2.toList == a0.toList)) = true := by simpa using c51))
                    (try (have c51b2 : (t208 == (a2.toList == a0.toList)) = true := by simpa using c51))
                    clear c51
                    (first | rw [c51b0] | (simp only [i64_w, i32_w]; rw [c51b0]) | skip)
                    replace H := Option.bind_eq_some_iff.mp H
                    obtain ⟨t209, A530, H⟩ := H
                    replace H : (heraldlaw1_PlaceKinds.j4 kj44 a0 a1 a2 x7_34 x14_44 (t209 != x8_34)) = some r := H
                    have A53 := Aside0.mk A530
                    clear A530
                    have H' := Aside0.mk H
                    clear H
                    go_wp2_with (first | ((with_reducible refine gate_callee (f := 17) rfl ?_); refine goesL_ (some 92) rfl rfl Tryd.func17 (by kernel_rfl) rfl #[.int .i64 1, .string a0, .int .i64 a1, .string a2] rfl (by (try simp only [List.map_toArray, List.map_cons, List.map_nil]); first | done | rfl | (simp only [List.length_drop, List.length_take]; rfl)) ?_; (with_reducible refine (place_Covers.calls 1 a0 a1 a2 t208 _ A50.out ((HE.at_ (by repeat (first | (with_reducible first | exact HB.out | apply below_alloc | apply pw_below_drewN | apply below_drew1) | exact HB.out))).env)).mono ?_); rintro e w54 ⟨rfl, hb⟩; refine ⟨_, rfl, ?_⟩; have n0_ := Aside0.mk (below_step (by repeat (first | (with_reducible first | exact HB.out | apply below_alloc | apply pw_below_drewN | apply below_drew1) | exact HB.out)) hb); clear HB; have HB := n0_; clear n0_; (try clear hb); (try clear hb2); (try clear hk); (try clear hi)) | (go_at_call 17; (with_reducible refine (place_Covers.calls 3 a0 a1 a2 t209 _ A53.out ((HE.at_ (by repeat (first | (with_reducible first | exact HB.out | apply below_alloc | apply pw_below_drewN | apply below_drew1) | exact HB.out))).env)).mono ?_); rintro e w55 ⟨rfl, hb⟩; have n0_ := Aside0.mk (below_step (by repeat (first | (with_reducible first | exact HB.out | apply below_alloc | apply pw_below_drewN | apply below_drew1) | exact HB.out)) hb); clear HB; have HB := n0_; clear n0_; (try clear hb); (try clear hb2); (try clear hk); (try clear hi)))
                    go_meet
                    case rel => exact ⟨_, ((t209 != x8_34)), (by first | rfl | (simp; done) | (simp [*]; done)), H', ⟨by have := HJ3.out; have := HJ34.out; have := HJ44.out; first | omega | exact Nat.le_refl _⟩, ⟨by repeat (first | (with_reducible first | exact HB.out | apply below_alloc | apply pw_below_drewN | apply below_drew1) | exact HB.out)⟩⟩
                case rest =>
                  clear HC49
                  try clear c1
                  try clear c2
                  try clear p2
                  try clear c3
                  try clear c4
                  try clear c5
                  try clear c6
                  try clear p6
                  try clear c8
                  try clear c9
                  try clear c9b0
                  try clear c13
                  try clear c17
                  try clear c19
                  try clear c20
                  try clear c22
                  try clear c26
                  try clear c36
                  try clear c36b0
                  try clear c39
                  try clear c39b0
                  try clear c39b1
                  try clear c40
                  try clear c41
                  try clear c48
                  try clear c48b0
                  try clear c48b1
                  try clear c51
                  try clear c51b0
                  try clear c51b1
                  try clear c51b2
                  try clear p2
                  try clear p6
                  obtain ⟨kq, x104_48, rfl, HA, HJ48, HB⟩ := hcut
                  cases kq with
                  | zero => exact absurd HA.out (by simp [heraldlaw1_PlaceKinds.j4])
                  | succ kj48 =>
                    have H := HA.out
                    clear HA
                    simp only [heraldlaw1_PlaceKinds.j4] at H
                    by_cases c56 : x104_48 = true
                    · subst c56
                      have H1 : (some false) = some r := by rw [if_pos rfl] at H; exact H
                      clear H
                      have H := H1
                      clear H1
                      obtain rfl := Option.some.inj H
                      go_wp2
                      go_ret
                      exact ⟨by first | rfl | (simp [errW_none, errW_some] <;> rfl) | (simp [*, errW_none, errW_some] <;> rfl), by repeat (first | (with_reducible first | exact HB.out | apply below_alloc | apply pw_below_drewN | apply below_drew1) | exact HB.out)⟩
                    · replace c56 := Bool.eq_false_iff.mpr c56
                      subst c56
                      have H1 : ((place_Covers.f 2 a0 a1 a2).bind fun t210 => (if a1 = 2 then (if (t210 == false) = true then (if x7_34.toList = ([47] : List UInt8) then ((heraldlaw1_known.f kj48).bind fun t211 => (some t211)) else (some false)) else (some false)) else (if a2.toList = a0.toList then (if (t210 == true) = true then (if x7_34.toList = ([47] : List UInt8) then ((heraldlaw1_known.f kj48).bind fun t212 => (some t212)) else (some false)) else (some false)) else (if (t210 == x14_44) = true then (if x7_34.toList = ([47] : List UInt8) then ((heraldlaw1_known.f kj48).bind fun t213 => (some t213)) else (some false)) else (some false))))) = some r := by rw [if_neg (show ¬ (false = true) by decide)] at H; exact H
                      clear H
                      have H := H1
                      clear H1
                      replace H := Option.bind_eq_some_iff.mp H
                      obtain ⟨t210, A570, H⟩ := H
                      replace H : (if a1 = 2 then (if (t210 == false) = true then (if x7_34.toList = ([47] : List UInt8) then ((heraldlaw1_known.f kj48).bind fun t211 => (some t211)) else (some false)) else (some false)) else (if a2.toList = a0.toList then (if (t210 == true) = true then (if x7_34.toList = ([47] : List UInt8) then ((heraldlaw1_known.f kj48).bind fun t212 => (some t212)) else (some false)) else (some false)) else (if (t210 == x14_44) = true then (if x7_34.toList = ([47] : List UInt8) then ((heraldlaw1_known.f kj48).bind fun t213 => (some t213)) else (some false)) else (some false)))) = some r := H
                      have A57 := Aside0.mk A570
                      clear A570
                      by_cases c58 : a1 = 2
                      · rw [if_pos c58] at H
                        have c58b0 : (a1 == 2) = true := beq_iff_eq.mpr c58
                        have c58b1 : (a1 != 2) = false := bne_eq_false_iff_eq.mpr c58
                        clear c58
                        by_cases c59 : (t210 == false) = true
                        · rw [if_pos c59] at H
                          have c59b0 : (t210 == false) = true := c59
                          (try (have c59b1 : decide (t210 = false) = true := by simpa using c59))
                          (try (have c59b2 : (t210 == false) = true := by simpa using c59))
                          clear c59
                          by_cases c60 : x7_34.toList = ([47] : List UInt8)
                          · rw [if_pos c60] at H
                            have c60b0 : (x7_34.toList == ([47] : List UInt8)) = true := beq_iff_eq.mpr c60
                            have c60b1 : (x7_34.toList != ([47] : List UInt8)) = false := bne_eq_false_iff_eq.mpr c60
                            clear c60
                            replace H := Option.bind_eq_some_iff.mp H
                            obtain ⟨t211, A610, H⟩ := H
                            replace H : (some t211) = some r := H
                            have A61 := Aside0.mk A610
                            clear A610
                            obtain rfl := Option.some.inj H
                            go_wp2_with (first | ((with_reducible refine gate_callee (f := 17) rfl ?_); refine goesL_ (some 108) rfl rfl Tryd.func17 (by kernel_rfl) rfl #[.int .i64 2, .string a0, .int .i64 a1, .string a2] rfl (by (try simp only [List.map_toArray, List.map_cons, List.map_nil]); first | done | rfl | (simp only [List.length_drop, List.length_take]; rfl)) ?_; (with_reducible refine (place_Covers.calls 2 a0 a1 a2 t210 _ A57.out ((HE.at_ (by repeat (first | (with_reducible first | exact HB.out | apply below_alloc | apply pw_below_drewN | apply below_drew1) | exact HB.out))).env)).mono ?_); rintro e w62 ⟨rfl, hb⟩; refine ⟨_, rfl, ?_⟩; have n0_ := Aside0.mk (below_step (by repeat (first | (with_reducible first | exact HB.out | apply below_alloc | apply pw_below_drewN | apply below_drew1) | exact HB.out)) hb); clear HB; have HB := n0_; clear n0_; (try clear hb); (try clear hb2); (try clear hk); (try clear hi)) | (go_at_call 26; (with_reducible refine (heraldlaw1_known.calls kj48  t211 _ A61.out (HE.at_ (by repeat (first | (with_reducible first | exact HB.out | apply below_alloc | apply pw_below_drewN | apply below_drew1) | exact HB.out)))).mono ?_); rintro e w63 ⟨rfl, hb⟩; have n0_ := Aside0.mk (below_step (by repeat (first | (with_reducible first | exact HB.out | apply below_alloc | apply pw_below_drewN | apply below_drew1) | exact HB.out)) hb); clear HB; have HB := n0_; clear n0_; (try clear hb); (try clear hb2); (try clear hk); (try clear hi)))
                            go_ret
                            exact ⟨by first | rfl | (simp [errW_none, errW_some] <;> rfl) | (simp [*, errW_none, errW_some] <;> rfl), by repeat (first | (with_reducible first | exact HB.out | apply below_alloc | apply pw_below_drewN | apply below_drew1) | exact HB.out)⟩
                          · rw [if_neg c60] at H
                            have c60b0 : (x7_34.toList == ([47] : List UInt8)) = false := beq_eq_false_iff_ne.mpr c60
                            have c60b1 : (x7_34.toList != ([47] : List UInt8)) = true := bne_iff_ne.mpr c60
                            obtain rfl := Option.some.inj H
                            go_wp2_with (first | ((with_reducible refine gate_callee (f := 17) rfl ?_); refine goesL_ (some 108) rfl rfl Tryd.func17 (by kernel_rfl) rfl #[.int .i64 2, .string a0, .int .i64 a1, .string a2] rfl (by (try simp only [List.map_toArray, List.map_cons, List.map_nil]); first | done | rfl | (simp only [List.length_drop, List.length_take]; rfl)) ?_; (with_reducible refine (place_Covers.calls 2 a0 a1 a2 t210 _ A57.out ((HE.at_ (by repeat (first | (with_reducible first | exact HB.out | apply below_alloc | apply pw_below_drewN | apply below_drew1) | exact HB.out))).env)).mono ?_); rintro e w64 ⟨rfl, hb⟩; refine ⟨_, rfl, ?_⟩; have n0_ := Aside0.mk (below_step (by repeat (first | (with_reducible first | exact HB.out | apply below_alloc | apply pw_below_drewN | apply below_drew1) | exact HB.out)) hb); clear HB; have HB := n0_; clear n0_; (try clear hb); (try clear hb2); (try clear hk); (try clear hi)))
                            go_ret
                            exact ⟨by first | rfl | (simp [errW_none, errW_some] <;> rfl) | (simp [*, errW_none, errW_some] <;> rfl), by repeat (first | (with_reducible first | exact HB.out | apply below_alloc | apply pw_below_drewN | apply below_drew1) | exact HB.out)⟩
                        · rw [if_neg c59] at H
                          have c59b0 : (t210 == false) = false := by simpa using c59
                          (try (have c59b1 : decide (t210 = false) = false := by simpa using c59))
                          (try (have c59b2 : (t210 == false) = false := by simpa using c59))
                          (try (have c59b3 : ¬ (t210 = false) := by simpa using c59))
                          clear c59
                          obtain rfl := Option.some.inj H
                          go_wp2_with (first | ((with_reducible refine gate_callee (f := 17) rfl ?_); refine goesL_ (some 108) rfl rfl Tryd.func17 (by kernel_rfl) rfl #[.int .i64 2, .string a0, .int .i64 a1, .string a2] rfl (by (try simp only [List.map_toArray, List.map_cons, List.map_nil]); first | done | rfl | (simp only [List.length_drop, List.length_take]; rfl)) ?_; (with_reducible refine (place_Covers.calls 2 a0 a1 a2 t210 _ A57.out ((HE.at_ (by repeat (first | (with_reducible first | exact HB.out | apply below_alloc | apply pw_below_drewN | apply below_drew1) | exact HB.out))).env)).mono ?_); rintro e w65 ⟨rfl, hb⟩; refine ⟨_, rfl, ?_⟩; have n0_ := Aside0.mk (below_step (by repeat (first | (with_reducible first | exact HB.out | apply below_alloc | apply pw_below_drewN | apply below_drew1) | exact HB.out)) hb); clear HB; have HB := n0_; clear n0_; (try clear hb); (try clear hb2); (try clear hk); (try clear hi)))
                          go_ret
                          exact ⟨by first | rfl | (simp [errW_none, errW_some] <;> rfl) | (simp [*, errW_none, errW_some] <;> rfl), by repeat (first | (with_reducible first | exact HB.out | apply below_alloc | apply pw_below_drewN | apply below_drew1) | exact HB.out)⟩
                      · rw [if_neg c58] at H
                        have c58b0 : (a1 == 2) = false := beq_eq_false_iff_ne.mpr c58
                        have c58b1 : (a1 != 2) = true := bne_iff_ne.mpr c58
                        by_cases c66 : a2.toList = a0.toList
                        · rw [if_pos c66] at H
                          have c66b0 : (a2.toList == a0.toList) = true := beq_iff_eq.mpr c66
                          have c66b1 : (a2.toList != a0.toList) = false := bne_eq_false_iff_eq.mpr c66
                          clear c66
                          by_cases c67 : (t210 == true) = true
                          · rw [if_pos c67] at H
                            have c67b0 : (t210 == true) = true := c67
                            (try (have c67b1 : decide (t210 = true) = true := by simpa using c67))
                            (try (have c67b2 : (t210 == true) = true := by simpa using c67))
                            clear c67
                            by_cases c68 : x7_34.toList = ([47] : List UInt8)
                            · rw [if_pos c68] at H
                              have c68b0 : (x7_34.toList == ([47] : List UInt8)) = true := beq_iff_eq.mpr c68
                              have c68b1 : (x7_34.toList != ([47] : List UInt8)) = false := bne_eq_false_iff_eq.mpr c68
                              clear c68
                              replace H := Option.bind_eq_some_iff.mp H
                              obtain ⟨t212, A690, H⟩ := H
                              replace H : (some t212) = some r := H
                              have A69 := Aside0.mk A690
                              clear A690
                              obtain rfl := Option.some.inj H
                              go_wp2_with (first | ((with_reducible refine gate_callee (f := 17) rfl ?_); refine goesL_ (some 108) rfl rfl Tryd.func17 (by kernel_rfl) rfl #[.int .i64 2, .string a0, .int .i64 a1, .string a2] rfl (by (try simp only [List.map_toArray, List.map_cons, List.map_nil]); first | done | rfl | (simp only [List.length_drop, List.length_take]; rfl)) ?_; (with_reducible refine (place_Covers.calls 2 a0 a1 a2 t210 _ A57.out ((HE.at_ (by repeat (first | (with_reducible first | exact HB.out | apply below_alloc | apply pw_below_drewN | apply below_drew1) | exact HB.out))).env)).mono ?_); rintro e w70 ⟨rfl, hb⟩; refine ⟨_, rfl, ?_⟩; have n0_ := Aside0.mk (below_step (by repeat (first | (with_reducible first | exact HB.out | apply below_alloc | apply pw_below_drewN | apply below_drew1) | exact HB.out)) hb); clear HB; have HB := n0_; clear n0_; (try clear hb); (try clear hb2); (try clear hk); (try clear hi)) | (go_at_call 26; (with_reducible refine (heraldlaw1_known.calls kj48  t212 _ A69.out (HE.at_ (by repeat (first | (with_reducible first | exact HB.out | apply below_alloc | apply pw_below_drewN | apply below_drew1) | exact HB.out)))).mono ?_); rintro e w71 ⟨rfl, hb⟩; have n0_ := Aside0.mk (below_step (by repeat (first | (with_reducible first | exact HB.out | apply below_alloc | apply pw_below_drewN | apply below_drew1) | exact HB.out)) hb); clear HB; have HB := n0_; clear n0_; (try clear hb); (try clear hb2); (try clear hk); (try clear hi)))
                              go_ret
                              exact ⟨by first | rfl | (simp [errW_none, errW_some] <;> rfl) | (simp [*, errW_none, errW_some] <;> rfl), by repeat (first | (with_reducible first | exact HB.out | apply below_alloc | apply pw_below_drewN | apply below_drew1) | exact HB.out)⟩
                            · rw [if_neg c68] at H
                              have c68b0 : (x7_34.toList == ([47] : List UInt8)) = false := beq_eq_false_iff_ne.mpr c68
                              have c68b1 : (x7_34.toList != ([47] : List UInt8)) = true := bne_iff_ne.mpr c68
                              obtain rfl := Option.some.inj H
                              go_wp2_with (first | ((with_reducible refine gate_callee (f := 17) rfl ?_); refine goesL_ (some 108) rfl rfl Tryd.func17 (by kernel_rfl) rfl #[.int .i64 2, .string a0, .int .i64 a1, .string a2] rfl (by (try simp only [List.map_toArray, List.map_cons, List.map_nil]); first | done | rfl | (simp only [List.length_drop, List.length_take]; rfl)) ?_; (with_reducible refine (place_Covers.calls 2 a0 a1 a2 t210 _ A57.out ((HE.at_ (by repeat (first | (with_reducible first | exact HB.out | apply below_alloc | apply pw_below_drewN | apply below_drew1) | exact HB.out))).env)).mono ?_); rintro e w72 ⟨rfl, hb⟩; refine ⟨_, rfl, ?_⟩; have n0_ := Aside0.mk (below_step (by repeat (first | (with_reducible first | exact HB.out | apply below_alloc | apply pw_below_drewN | apply below_drew1) | exact HB.out)) hb); clear HB; have HB := n0_; clear n0_; (try clear hb); (try clear hb2); (try clear hk); (try clear hi)))
                              go_ret
                              exact ⟨by first | rfl | (simp [errW_none, errW_some] <;> rfl) | (simp [*, errW_none, errW_some] <;> rfl), by repeat (first | (with_reducible first | exact HB.out | apply below_alloc | apply pw_below_drewN | apply below_drew1) | exact HB.out)⟩
                          · rw [if_neg c67] at H
                            have c67b0 : (t210 == true) = false := by simpa using c67
                            (try (have c67b1 : decide (t210 = true) = false := by simpa using c67))
                            (try (have c67b2 : (t210 == true) = false := by simpa using c67))
                            (try (have c67b3 : ¬ (t210 = true) := by simpa using c67))
                            clear c67
                            obtain rfl := Option.some.inj H
                            go_wp2_with (first | ((with_reducible refine gate_callee (f := 17) rfl ?_); refine goesL_ (some 108) rfl rfl Tryd.func17 (by kernel_rfl) rfl #[.int .i64 2, .string a0, .int .i64 a1, .string a2] rfl (by (try simp only [List.map_toArray, List.map_cons, List.map_nil]); first | done | rfl | (simp only [List.length_drop, List.length_take]; rfl)) ?_; (with_reducible refine (place_Covers.calls 2 a0 a1 a2 t210 _ A57.out ((HE.at_ (by repeat (first | (with_reducible first | exact HB.out | apply below_alloc | apply pw_below_drewN | apply below_drew1) | exact HB.out))).env)).mono ?_); rintro e w73 ⟨rfl, hb⟩; refine ⟨_, rfl, ?_⟩; have n0_ := Aside0.mk (below_step (by repeat (first | (with_reducible first | exact HB.out | apply below_alloc | apply pw_below_drewN | apply below_drew1) | exact HB.out)) hb); clear HB; have HB := n0_; clear n0_; (try clear hb); (try clear hb2); (try clear hk); (try clear hi)))
                            go_ret
                            exact ⟨by first | rfl | (simp [errW_none, errW_some] <;> rfl) | (simp [*, errW_none, errW_some] <;> rfl), by repeat (first | (with_reducible first | exact HB.out | apply below_alloc | apply pw_below_drewN | apply below_drew1) | exact HB.out)⟩
                        · rw [if_neg c66] at H
                          have c66b0 : (a2.toList == a0.toList) = false := beq_eq_false_iff_ne.mpr c66
                          have c66b1 : (a2.toList != a0.toList) = true := bne_iff_ne.mpr c66
                          by_cases c74 : (t210 == x14_44) = true
                          · rw [if_pos c74] at H
                            have c74b0 : (t210 == x14_44) = true := c74
                            (try (have c74b1 : decide (t210 = x14_44) = true := by simpa using c74))
                            (try (have c74b2 : (t210 == x14_44) = true := by simpa using c74))
                            clear c74
                            by_cases c75 : x7_34.toList = ([47] : List UInt8)
                            · rw [if_pos c75] at H
                              have c75b0 : (x7_34.toList == ([47] : List UInt8)) = true := beq_iff_eq.mpr c75
                              have c75b1 : (x7_34.toList != ([47] : List UInt8)) = false := bne_eq_false_iff_eq.mpr c75
                              clear c75
                              replace H := Option.bind_eq_some_iff.mp H
                              obtain ⟨t213, A760, H⟩ := H
                              replace H : (some t213) = some r := H
                              have A76 := Aside0.mk A760
                              clear A760
                              obtain rfl := Option.some.inj H
                              go_wp2_with (first | ((with_reducible refine gate_callee (f := 17) rfl ?_); refine goesL_ (some 108) rfl rfl Tryd.func17 (by kernel_rfl) rfl #[.int .i64 2, .string a0, .int .i64 a1, .string a2] rfl (by (try simp only [List.map_toArray, List.map_cons, List.map_nil]); first | done | rfl | (simp only [List.length_drop, List.length_take]; rfl)) ?_; (with_reducible refine (place_Covers.calls 2 a0 a1 a2 t210 _ A57.out ((HE.at_ (by repeat (first | (with_reducible first | exact HB.out | apply below_alloc | apply pw_below_drewN | apply below_drew1) | exact HB.out))).env)).mono ?_); rintro e w77 ⟨rfl, hb⟩; refine ⟨_, rfl, ?_⟩; have n0_ := Aside0.mk (below_step (by repeat (first | (with_reducible first | exact HB.out | apply below_alloc | apply pw_below_drewN | apply below_drew1) | exact HB.out)) hb); clear HB; have HB := n0_; clear n0_; (try clear hb); (try clear hb2); (try clear hk); (try clear hi)) | (go_at_call 26; (with_reducible refine (heraldlaw1_known.calls kj48  t213 _ A76.out (HE.at_ (by repeat (first | (with_reducible first | exact HB.out | apply below_alloc | apply pw_below_drewN | apply below_drew1) | exact HB.out)))).mono ?_); rintro e w78 ⟨rfl, hb⟩; have n0_ := Aside0.mk (below_step (by repeat (first | (with_reducible first | exact HB.out | apply below_alloc | apply pw_below_drewN | apply below_drew1) | exact HB.out)) hb); clear HB; have HB := n0_; clear n0_; (try clear hb); (try clear hb2); (try clear hk); (try clear hi)))
                              go_ret
                              exact ⟨by first | rfl | (simp [errW_none, errW_some] <;> rfl) | (simp [*, errW_none, errW_some] <;> rfl), by repeat (first | (with_reducible first | exact HB.out | apply below_alloc | apply pw_below_drewN | apply below_drew1) | exact HB.out)⟩
                            · rw [if_neg c75] at H
                              have c75b0 : (x7_34.toList == ([47] : List UInt8)) = false := beq_eq_false_iff_ne.mpr c75
                              have c75b1 : (x7_34.toList != ([47] : List UInt8)) = true := bne_iff_ne.mpr c75
                              obtain rfl := Option.some.inj H
                              go_wp2_with (first | ((with_reducible refine gate_callee (f := 17) rfl ?_); refine goesL_ (some 108) rfl rfl Tryd.func17 (by kernel_rfl) rfl #[.int .i64 2, .string a0, .int .i64 a1, .string a2] rfl (by (try simp only [List.map_toArray, List.map_cons, List.map_nil]); first | done | rfl | (simp only [List.length_drop, List.length_take]; rfl)) ?_; (with_reducible refine (place_Covers.calls 2 a0 a1 a2 t210 _ A57.out ((HE.at_ (by repeat (first | (with_reducible first | exact HB.out | apply below_alloc | apply pw_below_drewN | apply below_drew1) | exact HB.out))).env)).mono ?_); rintro e w79 ⟨rfl, hb⟩; refine ⟨_, rfl, ?_⟩; have n0_ := Aside0.mk (below_step (by repeat (first | (with_reducible first | exact HB.out | apply below_alloc | apply pw_below_drewN | apply below_drew1) | exact HB.out)) hb); clear HB; have HB := n0_; clear n0_; (try clear hb); (try clear hb2); (try clear hk); (try clear hi)))
                              go_ret
                              exact ⟨by first | rfl | (simp [errW_none, errW_some] <;> rfl) | (simp [*, errW_none, errW_some] <;> rfl), by repeat (first | (with_reducible first | exact HB.out | apply below_alloc | apply pw_below_drewN | apply below_drew1) | exact HB.out)⟩
                          · rw [if_neg c74] at H
                            have c74b0 : (t210 == x14_44) = false := by simpa using c74
                            (try (have c74b1 : decide (t210 = x14_44) = false := by simpa using c74))
                            (try (have c74b2 : (t210 == x14_44) = false := by simpa using c74))
                            (try (have c74b3 : ¬ (t210 = x14_44) := by simpa using c74))
                            clear c74
                            obtain rfl := Option.some.inj H
                            go_wp2_with (first | ((with_reducible refine gate_callee (f := 17) rfl ?_); refine goesL_ (some 108) rfl rfl Tryd.func17 (by kernel_rfl) rfl #[.int .i64 2, .string a0, .int .i64 a1, .string a2] rfl (by (try simp only [List.map_toArray, List.map_cons, List.map_nil]); first | done | rfl | (simp only [List.length_drop, List.length_take]; rfl)) ?_; (with_reducible refine (place_Covers.calls 2 a0 a1 a2 t210 _ A57.out ((HE.at_ (by repeat (first | (with_reducible first | exact HB.out | apply below_alloc | apply pw_below_drewN | apply below_drew1) | exact HB.out))).env)).mono ?_); rintro e w80 ⟨rfl, hb⟩; refine ⟨_, rfl, ?_⟩; have n0_ := Aside0.mk (below_step (by repeat (first | (with_reducible first | exact HB.out | apply below_alloc | apply pw_below_drewN | apply below_drew1) | exact HB.out)) hb); clear HB; have HB := n0_; clear n0_; (try clear hb); (try clear hb2); (try clear hk); (try clear hi)))
                            go_ret
                            exact ⟨by first | rfl | (simp [errW_none, errW_some] <;> rfl) | (simp [*, errW_none, errW_some] <;> rfl), by repeat (first | (with_reducible first | exact HB.out | apply below_alloc | apply pw_below_drewN | apply below_drew1) | exact HB.out)⟩

/-- THE ONE PURE STATEMENT of heraldlaw1_PlaceKinds: yours. -/
def heraldlaw1_PlaceKinds.Pure : Prop := ∀ (a0 : ByteArray) (a1 : Int) (a2 : ByteArray), a0.size ≤ 140737488351232 → (Lit.int .i64 a1).wf = true → a2.size ≤ 140737488351232 → ∃ k, heraldlaw1_PlaceKinds.f k a0 a1 a2 = some true
theorem heraldlaw1_PlaceKinds.walk (P : heraldlaw1_PlaceKinds.Pure) (a0 : ByteArray) (a1 : Int) (a2 : ByteArray) (w : World) (w0 : a0.size ≤ 140737488351232) (w1 : (Lit.int .i64 a1).wf = true) (w2 : a2.size ≤ 140737488351232) (HE : Env2 w) :
    Calls Tryd.prog 13 #[.string a0, .int .i64 a1, .string a2] w fun e w' => e = .returned (.bool true) ∧ Below w.heap.size w w' := by
  obtain ⟨k, h⟩ := P a0 a1 a2 w0 w1 w2
  refine (heraldlaw1_PlaceKinds.calls k a0 a1 a2 true w h HE).mono ?_
  rintro e w' ⟨rfl, hd⟩
  exact ⟨rfl, hd⟩

end Go.Proofs.YtfdinkofcjcahaaDoor.PPl
