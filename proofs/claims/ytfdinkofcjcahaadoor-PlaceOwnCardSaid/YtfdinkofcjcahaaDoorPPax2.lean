-- Functions of the program as Lean functions, and that the machine's calls come to just them: written by the kit's print.py, run by this session's mkprint.py.
import Derived.Test.YtfdinkofcjcahaaDoorPPax0
import Derived.Test.YtfdinkofcjcahaaDoorPPax1
namespace Go.Proofs.YtfdinkofcjcahaaDoor.PPa
open Go.RowKit Go.Proofs.YtfdinkofcjcahaaDoor.Ext Go.Proofs.YtfdinkofcjcahaaDoorW.PrintWords Go.Proofs.YtfdinkofcjcahaaDoorW.PrintLast Go.Proofs.YtfdinkofcjcahaaDoorW.PrintMore
attribute [local go_sem] max2_int min2_int max_two min_two max_three min_three max_four min_four   -- for this text's walks alone
set_option linter.unusedVariables false
set_option linter.unusedSimpArgs false

/-! ### place_Covers: function 17 -/
def place_Covers.j0 : Nat → Int → Int → List ByteArray → List ByteArray → Bool → Option (Bool)
  | 0, _, _, _, _, _ => none
  | k + 1, x0, x2, x9, x11, x42 => if x42 = true then (some false) else (if x0 = 1 then (some ((x11.length : Int) == (x9.length : Int))) else (if x0 = 2 then (if x2 = 2 then (some false) else (some (decide ((x11.length : Int) ≤ (wrap64 ((x9.length : Int) + 1)))))) else (if x0 = 3 then (some true) else (some false))))
def place_Covers.f (k : Nat) (a0 : Int) (a1 : ByteArray) (a2 : Int) (a3 : ByteArray) : Option (Bool) := (place_Parse.f k a1).bind fun bt136 => ((place_Parse.f k a3).bind fun bt140 => (if bt136.2 = 0 then (if bt140.2 = 0 then (if a2 < 1 then (place_Covers.j0 k a0 a2 bt136.1 bt140.1 true) else (if a2 > 3 then (place_Covers.j0 k a0 a2 bt136.1 bt140.1 true) else ((place_begins.f k bt140.1 bt136.1).bind fun t144 => (place_Covers.j0 k a0 a2 bt136.1 bt140.1 (!t144))))) else (place_Covers.j0 k a0 a2 bt136.1 bt140.1 true)) else (place_Covers.j0 k a0 a2 bt136.1 bt140.1 true)))
theorem place_Covers.mono_l : ∀ k, (∀ y0 y1 y2 y3 y4, LeO (place_Covers.j0 k y0 y1 y2 y3 y4) (place_Covers.j0 (k + 1) y0 y1 y2 y3 y4))
  | 0 => fun _ _ _ _ _ r h => by simp [place_Covers.j0] at h
  | k + 1 => by
    have ih0 := place_Covers.mono_l k
    · intro y0 y1 y2 y3 y4
      unfold place_Covers.j0
      repeat' first
      | (with_reducible exact ih0 _ _ _ _ _)
      | (with_reducible exact place_Parse.mono _ _)
      | (with_reducible exact place_begins.mono _ _ _)
      | (with_reducible exact LeO.refl _)
      | (with_reducible exact LeO.none _)
      | (with_reducible refine LeO.ite ?_ ?_)
      | (with_reducible refine LeO.bind ?_ (fun _ => ?_))
      | exact ih0 _ _ _ _ _
      | exact place_Parse.mono _ _
      | exact place_begins.mono _ _ _
      | exact LeO.none _
      | refine LeO.ite ?_ ?_
      | refine LeO.bind ?_ (fun _ => ?_)
theorem place_Covers.mono : ∀ a0 a1 a2 a3 k, LeO (place_Covers.f k a0 a1 a2 a3) (place_Covers.f (k + 1) a0 a1 a2 a3) := by
  intro a0 a1 a2 a3 k
  have ih0 := place_Covers.mono_l k
  unfold place_Covers.f
  repeat' first
      | (with_reducible exact ih0 _ _ _ _ _)
      | (with_reducible exact place_Parse.mono _ _)
      | (with_reducible exact place_begins.mono _ _ _)
      | (with_reducible exact LeO.refl _)
      | (with_reducible exact LeO.none _)
      | (with_reducible refine LeO.ite ?_ ?_)
      | (with_reducible refine LeO.bind ?_ (fun _ => ?_))
      | exact ih0 _ _ _ _ _
      | exact place_Parse.mono _ _
      | exact place_begins.mono _ _ _
      | exact LeO.none _
      | refine LeO.ite ?_ ?_
      | refine LeO.bind ?_ (fun _ => ?_)
set_option maxHeartbeats 8000000 in
set_option maxRecDepth 100000 in
theorem place_Covers.calls (k : Nat) (a0 : Int) (a1 : ByteArray) (a2 : Int) (a3 : ByteArray) (r : Bool) (w : World) (h : place_Covers.f k a0 a1 a2 a3 = some r) (HE : Env w) :
    Calls Tryd.prog 17 #[.int .i64 a0, .string a1, .int .i64 a2, .string a3] w fun e w' => e = .returned (.bool r) ∧ Below w.heap.size w w' := by
  have HB := Aside0.mk (Below.refl w.heap.size w)
  have H : ((place_Parse.f k a1).bind fun bt136 => ((place_Parse.f k a3).bind fun bt140 => (if bt136.2 = 0 then (if bt140.2 = 0 then (if a2 < 1 then (place_Covers.j0 k a0 a2 bt136.1 bt140.1 true) else (if a2 > 3 then (place_Covers.j0 k a0 a2 bt136.1 bt140.1 true) else ((place_begins.f k bt140.1 bt136.1).bind fun t144 => (place_Covers.j0 k a0 a2 bt136.1 bt140.1 (!t144))))) else (place_Covers.j0 k a0 a2 bt136.1 bt140.1 true)) else (place_Covers.j0 k a0 a2 bt136.1 bt140.1 true)))) = some r := h
  clear h
  replace H := Option.bind_eq_some_iff.mp H
  obtain ⟨⟨t136, t137⟩, A50, H⟩ := H
  replace H : ((place_Parse.f k a3).bind fun bt140 => (if t137 = 0 then (if bt140.2 = 0 then (if a2 < 1 then (place_Covers.j0 k a0 a2 t136 bt140.1 true) else (if a2 > 3 then (place_Covers.j0 k a0 a2 t136 bt140.1 true) else ((place_begins.f k bt140.1 t136).bind fun t144 => (place_Covers.j0 k a0 a2 t136 bt140.1 (!t144))))) else (place_Covers.j0 k a0 a2 t136 bt140.1 true)) else (place_Covers.j0 k a0 a2 t136 bt140.1 true))) = some r := H
  have A5 := Aside0.mk A50
  clear A50
  replace H := Option.bind_eq_some_iff.mp H
  obtain ⟨⟨t140, t141⟩, A60, H⟩ := H
  replace H : (if t137 = 0 then (if t141 = 0 then (if a2 < 1 then (place_Covers.j0 k a0 a2 t136 t140 true) else (if a2 > 3 then (place_Covers.j0 k a0 a2 t136 t140 true) else ((place_begins.f k t140 t136).bind fun t144 => (place_Covers.j0 k a0 a2 t136 t140 (!t144))))) else (place_Covers.j0 k a0 a2 t136 t140 true)) else (place_Covers.j0 k a0 a2 t136 t140 true)) = some r := H
  have A6 := Aside0.mk A60
  clear A60
  have HC7 := Aside0.mk H
  clear H
  go_enter Tryd.func17, Tryd.ntmps17
  go_upto_region 3 with (first | ((with_reducible refine gate_callee (f := 18) rfl ?_); refine goesL_ (some 15) rfl rfl Tryd.func18 (by kernel_rfl) rfl #[.string a1] rfl (by (try simp only [List.map_toArray, List.map_cons, List.map_nil]); first | done | rfl | (simp only [List.length_drop, List.length_take]; rfl)) ?_; (with_reducible refine (place_Parse.calls k a1 t136 t137 _ A5.out (HE.at_ (by repeat (first | (with_reducible first | exact HB.out | apply below_alloc | apply pw_below_drewN | apply below_drew1) | exact HB.out)))).mono ?_); rintro e w8 ⟨v138, rfl, ho0, hb⟩; refine ⟨_, rfl, ?_⟩; have n0_ := Aside0.mk (Kd.R_lower ho0 (below_size (by repeat (first | (with_reducible first | exact HB.out | apply below_alloc | apply pw_below_drewN | apply below_drew1) | exact HB.out)))); have n1_ := Aside0.mk (below_step (by repeat (first | (with_reducible first | exact HB.out | apply below_alloc | apply pw_below_drewN | apply below_drew1) | exact HB.out)) hb); clear HB; have HO139 := n0_; have HB := n1_; clear n0_ n1_; (try clear hb); (try clear hb2); (try clear hk); (try clear hi); (try clear ho0)) | ((with_reducible refine gate_callee (f := 18) rfl ?_); refine goesL_ (some 20) rfl rfl Tryd.func18 (by kernel_rfl) rfl #[.string a3] rfl (by (try simp only [List.map_toArray, List.map_cons, List.map_nil]); first | done | rfl | (simp only [List.length_drop, List.length_take]; rfl)) ?_; (with_reducible refine (place_Parse.calls k a3 t140 t141 _ A6.out (HE.at_ (by repeat (first | (with_reducible first | exact HB.out | apply below_alloc | apply pw_below_drewN | apply below_drew1) | exact HB.out)))).mono ?_); rintro e w9 ⟨v142, rfl, ho0, hb⟩; refine ⟨_, rfl, ?_⟩; have n0_ := Aside0.mk (Kd.R_elder' (by (with_reducible repeat (first | apply Kd.R_alloc | apply Kd.R_drewN | apply Kd.R_drew)); exact HO139.out) (Kd.R_base ho0) hb); have n1_ := Aside0.mk (Kd.R_lower (Kd.R_new' ho0 (Kd.R_lt (by (with_reducible repeat (first | apply Kd.R_alloc | apply Kd.R_drewN | apply Kd.R_drew)); exact HO139.out))) (below_size (by repeat (first | (with_reducible first | exact HB.out | apply below_alloc | apply pw_below_drewN | apply below_drew1) | exact HB.out)))); have n2_ := Aside0.mk (below_step (by repeat (first | (with_reducible first | exact HB.out | apply below_alloc | apply pw_below_drewN | apply below_drew1) | exact HB.out)) hb); clear HO139; clear HB; have HO139 := n0_; have HO143 := n1_; have HB := n2_; clear n0_ n1_ n2_; (try clear hb); (try clear hb2); (try clear hk); (try clear hi); (try clear ho0)))
  (try simp only [Act.put, List.setIfInBounds_toArray, List.set_cons_zero, List.set_cons_succ])
  go_cut [42] (fun v42 wc => ∃ (kq : Nat) (x42_6 : Bool), v42 = .bool x42_6 ∧ Aside0 (place_Covers.j0 kq a0 a2 t136 t140 x42_6 = some r) ∧ Aside0 (kq ≤ k) ∧ Aside0 (Kd.R Kd.string 9 wc w.heap.size (fun k_ => some k_ ≠ (v142 : Value).ownBlock) v138 t136) ∧ Aside0 (Kd.R Kd.string 9 wc w.heap.size (fun k_ => some k_ ≠ (v138 : Value).ownBlock) v142 t140) ∧ Aside0 (Below w.heap.size w wc))
  case first =>
    have H := HC7.out
    clear HC7
    by_cases c10 : t137 = 0
    · rw [if_pos c10] at H
      have c10b0 : (t137 == 0) = true := beq_iff_eq.mpr c10
      have c10b1 : (t137 != 0) = false := bne_eq_false_iff_eq.mpr c10
      clear c10
      (first | rw [c10b0] | (simp only [i64_w, i32_w]; rw [c10b0]) | skip)
      by_cases c11 : t141 = 0
      · rw [if_pos c11] at H
        have c11b0 : (t141 == 0) = true := beq_iff_eq.mpr c11
        have c11b1 : (t141 != 0) = false := bne_eq_false_iff_eq.mpr c11
        clear c11
        by_cases c12 : a2 < 1
        · rw [if_pos c12] at H
          have c12b0 : decide (a2 < 1) = true := decide_eq_true c12
          clear c12
          have H' := Aside0.mk H
          clear H
          go_wp2
          go_meet
          case rel => exact ⟨_, (true), (by first | rfl | (simp; done) | (simp [*]; done)), H', ⟨by first | omega | exact Nat.le_refl _⟩, ⟨by (with_reducible repeat (first | apply Kd.R_alloc | apply Kd.R_drewN | apply Kd.R_drew)); exact Kd.R_mono HO139.out (fun _ hk => hk.2)⟩, ⟨by (with_reducible repeat (first | apply Kd.R_alloc | apply Kd.R_drewN | apply Kd.R_drew)); exact Kd.R_mono HO143.out (fun _ hk => hk.2)⟩, ⟨by repeat (first | (with_reducible first | exact HB.out | apply below_alloc | apply pw_below_drewN | apply below_drew1) | exact HB.out)⟩⟩
        · rw [if_neg c12] at H
          have c12b0 : decide (a2 < 1) = false := decide_eq_false c12
          clear c12
          by_cases c13 : a2 > 3
          · rw [if_pos c13] at H
            have c13b0 : decide (3 < a2) = true := decide_eq_true c13
            clear c13
            have H' := Aside0.mk H
            clear H
            go_wp2
            go_meet
            case rel => exact ⟨_, (true), (by first | rfl | (simp; done) | (simp [*]; done)), H', ⟨by first | omega | exact Nat.le_refl _⟩, ⟨by (with_reducible repeat (first | apply Kd.R_alloc | apply Kd.R_drewN | apply Kd.R_drew)); exact Kd.R_mono HO139.out (fun _ hk => hk.2)⟩, ⟨by (with_reducible repeat (first | apply Kd.R_alloc | apply Kd.R_drewN | apply Kd.R_drew)); exact Kd.R_mono HO143.out (fun _ hk => hk.2)⟩, ⟨by repeat (first | (with_reducible first | exact HB.out | apply below_alloc | apply pw_below_drewN | apply below_drew1) | exact HB.out)⟩⟩
          · rw [if_neg c13] at H
            have c13b0 : decide (3 < a2) = false := decide_eq_false c13
            clear c13
            replace H := Option.bind_eq_some_iff.mp H
            obtain ⟨t144, A140, H⟩ := H
            replace H : (place_Covers.j0 k a0 a2 t136 t140 (!t144)) = some r := H
            have A14 := Aside0.mk A140
            clear A140
            have H' := Aside0.mk H
            clear H
            obtain ⟨Ao15, co15, eo15⟩ := Kd.R_slice HO143.out
            subst eo15
            obtain ⟨Ao16, co16, eo16⟩ := Kd.R_slice HO139.out
            subst eo16
            go_wp2_with (first | (go_at_call 44; (with_reducible refine (place_begins.calls k _ _ t140 _ _ t136 t144 _ ?side1 ?side2 ?side3 ?side4 A14.out).mono ?_); (case side1 => repeat (first | exact (Kd.R_reads' HO143.out).2.2 | (with_reducible refine Kd.C_alloc ?_ _) | (with_reducible refine Kd.C_drewN ?_ _) | (with_reducible refine Kd.C_drew ?_))); (case side2 => exact (Kd.R_reads' HO143.out).2.1); (case side3 => repeat (first | exact (Kd.R_reads' HO139.out).2.2 | (with_reducible refine Kd.C_alloc ?_ _) | (with_reducible refine Kd.C_drewN ?_ _) | (with_reducible refine Kd.C_drew ?_))); (case side4 => exact (Kd.R_reads' HO139.out).2.1); rintro e w' ⟨rfl, ⟨nd, rfl⟩⟩))
            go_meet
            case rel => exact ⟨_, (!t144), (by first | rfl | (simp; done) | (simp [*]; done)), H', ⟨by first | omega | exact Nat.le_refl _⟩, ⟨by (with_reducible repeat (first | apply Kd.R_alloc | apply Kd.R_drewN | apply Kd.R_drew)); exact Kd.R_mono HO139.out (fun _ hk => hk.2)⟩, ⟨by (with_reducible repeat (first | apply Kd.R_alloc | apply Kd.R_drewN | apply Kd.R_drew)); exact Kd.R_mono HO143.out (fun _ hk => hk.2)⟩, ⟨by repeat (first | (with_reducible first | exact HB.out | apply below_alloc | apply pw_below_drewN | apply below_drew1) | exact HB.out)⟩⟩
      · rw [if_neg c11] at H
        have c11b0 : (t141 == 0) = false := beq_eq_false_iff_ne.mpr c11
        have c11b1 : (t141 != 0) = true := bne_iff_ne.mpr c11
        have H' := Aside0.mk H
        clear H
        go_wp2
        go_meet
        case rel => exact ⟨_, (true), (by first | rfl | (simp; done) | (simp [*]; done)), H', ⟨by first | omega | exact Nat.le_refl _⟩, ⟨by (with_reducible repeat (first | apply Kd.R_alloc | apply Kd.R_drewN | apply Kd.R_drew)); exact Kd.R_mono HO139.out (fun _ hk => hk.2)⟩, ⟨by (with_reducible repeat (first | apply Kd.R_alloc | apply Kd.R_drewN | apply Kd.R_drew)); exact Kd.R_mono HO143.out (fun _ hk => hk.2)⟩, ⟨by repeat (first | (with_reducible first | exact HB.out | apply below_alloc | apply pw_below_drewN | apply below_drew1) | exact HB.out)⟩⟩
    · rw [if_neg c10] at H
      have c10b0 : (t137 == 0) = false := beq_eq_false_iff_ne.mpr c10
      have c10b1 : (t137 != 0) = true := bne_iff_ne.mpr c10
      (first | rw [c10b0] | (simp only [i64_w, i32_w]; rw [c10b0]) | skip)
      have H' := Aside0.mk H
      clear H
      go_wp2
      go_meet
      case rel => exact ⟨_, (true), (by first | rfl | (simp; done) | (simp [*]; done)), H', ⟨by first | omega | exact Nat.le_refl _⟩, ⟨by (with_reducible repeat (first | apply Kd.R_alloc | apply Kd.R_drewN | apply Kd.R_drew)); exact Kd.R_mono HO139.out (fun _ hk => hk.2)⟩, ⟨by (with_reducible repeat (first | apply Kd.R_alloc | apply Kd.R_drewN | apply Kd.R_drew)); exact Kd.R_mono HO143.out (fun _ hk => hk.2)⟩, ⟨by repeat (first | (with_reducible first | exact HB.out | apply below_alloc | apply pw_below_drewN | apply below_drew1) | exact HB.out)⟩⟩
  case rest =>
    clear HC7
    try clear c1
    try clear p2
    try clear c10
    try clear c10b0
    try clear c10b1
    try clear c11
    try clear c11b0
    try clear c11b1
    try clear c12
    try clear c12b0
    try clear c13
    try clear c13b0
    obtain ⟨kq, x42_6, rfl, HA, HJ6, HO_9, HO_11, HB⟩ := hcut
    cases kq with
    | zero => exact absurd HA.out (by simp [place_Covers.j0])
    | succ kj6 =>
      have H := HA.out
      clear HA
      simp only [place_Covers.j0] at H
      by_cases c17 : x42_6 = true
      · subst c17
        have H1 : (some false) = some r := by rw [if_pos rfl] at H; exact H
        clear H
        have H := H1
        clear H1
        obtain rfl := Option.some.inj H
        go_wp2
        go_ret
        exact ⟨by first | rfl | (simp [errW_none, errW_some] <;> rfl) | (simp [*, errW_none, errW_some] <;> rfl), by repeat (first | (with_reducible first | exact HB.out | apply below_alloc | apply pw_below_drewN | apply below_drew1) | exact HB.out)⟩
      · replace c17 := Bool.eq_false_iff.mpr c17
        subst c17
        have H1 : (if a0 = 1 then (some ((t140.length : Int) == (t136.length : Int))) else (if a0 = 2 then (if a2 = 2 then (some false) else (some (decide ((t140.length : Int) ≤ (wrap64 ((t136.length : Int) + 1)))))) else (if a0 = 3 then (some true) else (some false)))) = some r := by rw [if_neg (show ¬ (false = true) by decide)] at H; exact H
        clear H
        have H := H1
        clear H1
        by_cases c18 : a0 = 1
        · rw [if_pos c18] at H
          have c18b0 : (a0 == 1) = true := beq_iff_eq.mpr c18
          have c18b1 : (a0 != 1) = false := bne_eq_false_iff_eq.mpr c18
          clear c18
          obtain rfl := Option.some.inj H
          obtain ⟨Ao19, co19, eo19⟩ := Kd.R_slice HO_11.out
          subst eo19
          obtain ⟨Ao20, co20, eo20⟩ := Kd.R_slice HO_9.out
          subst eo20
          go_wp2
          go_ret
          exact ⟨by first | rfl | (simp [errW_none, errW_some] <;> rfl) | (simp [*, errW_none, errW_some] <;> rfl), by repeat (first | (with_reducible first | exact HB.out | apply below_alloc | apply pw_below_drewN | apply below_drew1) | exact HB.out)⟩
        · rw [if_neg c18] at H
          have c18b0 : (a0 == 1) = false := beq_eq_false_iff_ne.mpr c18
          have c18b1 : (a0 != 1) = true := bne_iff_ne.mpr c18
          by_cases c21 : a0 = 2
          · rw [if_pos c21] at H
            have c21b0 : (a0 == 2) = true := beq_iff_eq.mpr c21
            have c21b1 : (a0 != 2) = false := bne_eq_false_iff_eq.mpr c21
            clear c21
            by_cases c22 : a2 = 2
            · rw [if_pos c22] at H
              have c22b0 : (a2 == 2) = true := beq_iff_eq.mpr c22
              have c22b1 : (a2 != 2) = false := bne_eq_false_iff_eq.mpr c22
              clear c22
              obtain rfl := Option.some.inj H
              go_wp2
              go_ret
              exact ⟨by first | rfl | (simp [errW_none, errW_some] <;> rfl) | (simp [*, errW_none, errW_some] <;> rfl), by repeat (first | (with_reducible first | exact HB.out | apply below_alloc | apply pw_below_drewN | apply below_drew1) | exact HB.out)⟩
            · rw [if_neg c22] at H
              have c22b0 : (a2 == 2) = false := beq_eq_false_iff_ne.mpr c22
              have c22b1 : (a2 != 2) = true := bne_iff_ne.mpr c22
              obtain rfl := Option.some.inj H
              obtain ⟨Ao23, co23, eo23⟩ := Kd.R_slice HO_11.out
              subst eo23
              obtain ⟨Ao24, co24, eo24⟩ := Kd.R_slice HO_9.out
              subst eo24
              go_wp2
              go_ret
              exact ⟨by first | rfl | (simp [errW_none, errW_some] <;> rfl) | (simp [*, errW_none, errW_some] <;> rfl), by repeat (first | (with_reducible first | exact HB.out | apply below_alloc | apply pw_below_drewN | apply below_drew1) | exact HB.out)⟩
          · rw [if_neg c21] at H
            have c21b0 : (a0 == 2) = false := beq_eq_false_iff_ne.mpr c21
            have c21b1 : (a0 != 2) = true := bne_iff_ne.mpr c21
            by_cases c25 : a0 = 3
            · rw [if_pos c25] at H
              have c25b0 : (a0 == 3) = true := beq_iff_eq.mpr c25
              have c25b1 : (a0 != 3) = false := bne_eq_false_iff_eq.mpr c25
              clear c25
              obtain rfl := Option.some.inj H
              go_wp2
              go_ret
              exact ⟨by first | rfl | (simp [errW_none, errW_some] <;> rfl) | (simp [*, errW_none, errW_some] <;> rfl), by repeat (first | (with_reducible first | exact HB.out | apply below_alloc | apply pw_below_drewN | apply below_drew1) | exact HB.out)⟩
            · rw [if_neg c25] at H
              have c25b0 : (a0 == 3) = false := beq_eq_false_iff_ne.mpr c25
              have c25b1 : (a0 != 3) = true := bne_iff_ne.mpr c25
              obtain rfl := Option.some.inj H
              go_wp2
              go_ret
              exact ⟨by first | rfl | (simp [errW_none, errW_some] <;> rfl) | (simp [*, errW_none, errW_some] <;> rfl), by repeat (first | (with_reducible first | exact HB.out | apply below_alloc | apply pw_below_drewN | apply below_drew1) | exact HB.out)⟩

/-- THE ONE PURE STATEMENT of place_Covers: yours. -/
def place_Covers.Pure : Prop := ∀ (a0 : Int) (a1 : ByteArray) (a2 : Int) (a3 : ByteArray), (Lit.int .i64 a0).wf = true → a1.size ≤ 140737488351232 → (Lit.int .i64 a2).wf = true → a3.size ≤ 140737488351232 → ∃ k, place_Covers.f k a0 a1 a2 a3 = some true
theorem place_Covers.walk (P : place_Covers.Pure) (a0 : Int) (a1 : ByteArray) (a2 : Int) (a3 : ByteArray) (w : World) (w0 : (Lit.int .i64 a0).wf = true) (w1 : a1.size ≤ 140737488351232) (w2 : (Lit.int .i64 a2).wf = true) (w3 : a3.size ≤ 140737488351232) (HE : Env w) :
    Calls Tryd.prog 17 #[.int .i64 a0, .string a1, .int .i64 a2, .string a3] w fun e w' => e = .returned (.bool true) ∧ Below w.heap.size w w' := by
  obtain ⟨k, h⟩ := P a0 a1 a2 a3 w0 w1 w2 w3
  refine (place_Covers.calls k a0 a1 a2 a3 true w h HE).mono ?_
  rintro e w' ⟨rfl, hd⟩
  exact ⟨rfl, hd⟩

end Go.Proofs.YtfdinkofcjcahaaDoor.PPa
