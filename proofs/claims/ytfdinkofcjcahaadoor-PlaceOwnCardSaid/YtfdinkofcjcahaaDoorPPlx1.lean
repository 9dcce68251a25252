-- Functions of the program as Lean functions, and that the machine's calls come to just them: written by the kit's print.py, run by this session's mkprint.py.
import Derived.Test.YtfdinkofcjcahaaDoorPPlx0
namespace Go.Proofs.YtfdinkofcjcahaaDoor.PPl
open Go.RowKit Go.Proofs.YtfdinkofcjcahaaDoor.Ext Go.Proofs.YtfdinkofcjcahaaDoorW.PrintWords Go.Proofs.YtfdinkofcjcahaaDoorW.PrintLast Go.Proofs.YtfdinkofcjcahaaDoorW.PrintMore
attribute [local go_sem] max2_int min2_int max_two min_two max_three min_three max_four min_four   -- for this text's walks alone
set_option linter.unusedVariables false
set_option linter.unusedSimpArgs false

/-! ### heraldlaw1_PlaceCovers: function 3 -/
def heraldlaw1_PlaceCovers.f (a0 : Int) (a1 : ByteArray) (a2 : Int) (a3 : ByteArray) : Option (Bool) := (heraldref1_Covers.f a0 a1 a2 a3).bind fun t101 => ((place_Covers.f a0 a1 a2 a3).bind fun t102 => (if (t102 == t101) = true then ((place_Covers.f 3 (⟨#[47]⟩ : ByteArray) 1 (⟨#[47, 120]⟩ : ByteArray)).bind fun t103 => (some t103)) else (some false)))
set_option maxHeartbeats 8000000 in
set_option maxRecDepth 100000 in
theorem heraldlaw1_PlaceCovers.calls (a0 : Int) (a1 : ByteArray) (a2 : Int) (a3 : ByteArray) (r : Bool) (w : World) (h : heraldlaw1_PlaceCovers.f a0 a1 a2 a3 = some r) (HE : Env w) :
    Calls Tryd.prog 3 #[.int .i64 a0, .string a1, .int .i64 a2, .string a3] w fun e w' => e = .returned (.bool r) ∧ Below w.heap.size w w' := by
  have HB := Aside0.mk (Below.refl w.heap.size w)
  have H : ((heraldref1_Covers.f a0 a1 a2 a3).bind fun t101 => ((place_Covers.f a0 a1 a2 a3).bind fun t102 => (if (t102 == t101) = true then ((place_Covers.f 3 (⟨#[47]⟩ : ByteArray) 1 (⟨#[47, 120]⟩ : ByteArray)).bind fun t103 => (some t103)) else (some false)))) = some r := h
  clear h
  replace H := Option.bind_eq_some_iff.mp H
  obtain ⟨t101, A50, H⟩ := H
  replace H : ((place_Covers.f a0 a1 a2 a3).bind fun t102 => (if (t102 == t101) = true then ((place_Covers.f 3 (⟨#[47]⟩ : ByteArray) 1 (⟨#[47, 120]⟩ : ByteArray)).bind fun t103 => (some t103)) else (some false))) = some r := H
  have A5 := Aside0.mk A50
  clear A50
  replace H := Option.bind_eq_some_iff.mp H
  obtain ⟨t102, A60, H⟩ := H
  replace H : (if (t102 == t101) = true then ((place_Covers.f 3 (⟨#[47]⟩ : ByteArray) 1 (⟨#[47, 120]⟩ : ByteArray)).bind fun t103 => (some t103)) else (some false)) = some r := H
  have A6 := Aside0.mk A60
  clear A60
  by_cases c7 : (t102 == t101) = true
  · rw [if_pos c7] at H
    have c7b0 : (t102 == t101) = true := c7
    (try (have c7b1 : decide (t102 = t101) = true := by simpa using c7))
    (try (have c7b2 : (t102 == t101) = true := by simpa using c7))
    clear c7
    replace H := Option.bind_eq_some_iff.mp H
    obtain ⟨t103, A80, H⟩ := H
    replace H : (some t103) = some r := H
    have A8 := Aside0.mk A80
    clear A80
    obtain rfl := Option.some.inj H
    go_enter Tryd.func3, Tryd.ntmps3
    go_wp2_with (first | ((with_reducible refine gate_callee (f := 16) rfl ?_); refine goesL_ (some 15) rfl rfl Tryd.func16 (by kernel_rfl) rfl #[.int .i64 a0, .string a1, .int .i64 a2, .string a3] rfl (by (try simp only [List.map_toArray, List.map_cons, List.map_nil]); first | done | rfl | (simp only [List.length_drop, List.length_take]; rfl)) ?_; (with_reducible refine (heraldref1_Covers.calls a0 a1 a2 a3 t101 _ A5.out).mono ?_); rintro e w9 ⟨rfl, hb⟩; refine ⟨_, rfl, ?_⟩; have n0_ := Aside0.mk (below_step (by repeat (first | (with_reducible first | exact HB.out | apply below_alloc | apply pw_below_drewN | apply below_drew1) | exact HB.out)) hb); clear HB; have HB := n0_; clear n0_; (try clear hb); (try clear hb2); (try clear hk); (try clear hi)) | ((with_reducible refine gate_callee (f := 17) rfl ?_); refine goesL_ (some 20) rfl rfl Tryd.func17 (by kernel_rfl) rfl #[.int .i64 a0, .string a1, .int .i64 a2, .string a3] rfl (by (try simp only [List.map_toArray, List.map_cons, List.map_nil]); first | done | rfl | (simp only [List.length_drop, List.length_take]; rfl)) ?_; (with_reducible refine (place_Covers.calls a0 a1 a2 a3 t102 _ A6.out (HE.at_ (by repeat (first | (with_reducible first | exact HB.out | apply below_alloc | apply pw_below_drewN | apply below_drew1) | exact HB.out)))).mono ?_); rintro e w10 ⟨rfl, hb⟩; refine ⟨_, rfl, ?_⟩; have n0_ := Aside0.mk (below_step (by repeat (first | (with_reducible first | exact HB.out | apply below_alloc | apply pw_below_drewN | apply below_drew1) | exact HB.out)) hb); clear HB; have HB := n0_; clear n0_; (try clear hb); (try clear hb2); (try clear hk); (try clear hi)) | (go_at_call 17; (with_reducible refine (place_Covers.calls 3 (⟨#[47]⟩ : ByteArray) 1 (⟨#[47, 120]⟩ : ByteArray) t103 _ A8.out (HE.at_ (by repeat (first | (with_reducible first | exact HB.out | apply below_alloc | apply pw_below_drewN | apply below_drew1) | exact HB.out)))).mono ?_); rintro e w11 ⟨rfl, hb⟩; have n0_ := Aside0.mk (below_step (by repeat (first | (with_reducible first | exact HB.out | apply below_alloc | apply pw_below_drewN | apply below_drew1) | exact HB.out)) hb); clear HB; have HB := n0_; clear n0_; (try clear hb); (try clear hb2); (try clear hk); (try clear hi)))
    go_ret
    exact ⟨by first | rfl | (simp [errW_none, errW_some] <;> rfl) | (simp [*, errW_none, errW_some] <;> rfl), by repeat (first | (with_reducible first | exact HB.out | apply below_alloc | apply pw_below_drewN | apply below_drew1) | exact HB.out)⟩
  · rw [if_neg c7] at H
    have c7b0 : (t102 == t101) = false := by simpa using c7
    (try (have c7b1 : decide (t102 = t101) = false := by simpa using c7))
    (try (have c7b2 : (t102 == t101) = false := by simpa using c7))
    (try (have c7b3 : ¬ (t102 = t101) := by simpa using c7))
    clear c7
    obtain rfl := Option.some.inj H
    go_enter Tryd.func3, Tryd.ntmps3
    go_wp2_with (first | ((with_reducible refine gate_callee (f := 16) rfl ?_); refine goesL_ (some 15) rfl rfl Tryd.func16 (by kernel_rfl) rfl #[.int .i64 a0, .string a1, .int .i64 a2, .string a3] rfl (by (try simp only [List.map_toArray, List.map_cons, List.map_nil]); first | done | rfl | (simp only [List.length_drop, List.length_take]; rfl)) ?_; (with_reducible refine (heraldref1_Covers.calls a0 a1 a2 a3 t101 _ A5.out).mono ?_); rintro e w12 ⟨rfl, hb⟩; refine ⟨_, rfl, ?_⟩; have n0_ := Aside0.mk (below_step (by repeat (first | (with_reducible first | exact HB.out | apply below_alloc | apply pw_below_drewN | apply below_drew1) | exact HB.out)) hb); clear HB; have HB := n0_; clear n0_; (try clear hb); (try clear hb2); (try clear hk); (try clear hi)) | ((with_reducible refine gate_callee (f := 17) rfl ?_); refine goesL_ (some 20) rfl rfl Tryd.func17 (by kernel_rfl) rfl #[.int .i64 a0, .string a1, .int .i64 a2, .string a3] rfl (by (try simp only [List.map_toArray, List.map_cons, List.map_nil]); first | done | rfl | (simp only [List.length_drop, List.length_take]; rfl)) ?_; (with_reducible refine (place_Covers.calls a0 a1 a2 a3 t102 _ A6.out (HE.at_ (by repeat (first | (with_reducible first | exact HB.out | apply below_alloc | apply pw_below_drewN | apply below_drew1) | exact HB.out)))).mono ?_); rintro e w13 ⟨rfl, hb⟩; refine ⟨_, rfl, ?_⟩; have n0_ := Aside0.mk (below_step (by repeat (first | (with_reducible first | exact HB.out | apply below_alloc | apply pw_below_drewN | apply below_drew1) | exact HB.out)) hb); clear HB; have HB := n0_; clear n0_; (try clear hb); (try clear hb2); (try clear hk); (try clear hi)))
    go_ret
    exact ⟨by first | rfl | (simp [errW_none, errW_some] <;> rfl) | (simp [*, errW_none, errW_some] <;> rfl), by repeat (first | (with_reducible first | exact HB.out | apply below_alloc | apply pw_below_drewN | apply below_drew1) | exact HB.out)⟩

/-- THE ONE PURE STATEMENT of heraldlaw1_PlaceCovers: yours. -/
def heraldlaw1_PlaceCovers.Pure : Prop := ∀ (a0 : Int) (a1 : ByteArray) (a2 : Int) (a3 : ByteArray), (Lit.int .i64 a0).wf = true → a1.size ≤ 140737488351232 → (Lit.int .i64 a2).wf = true → a3.size ≤ 140737488351232 → heraldlaw1_PlaceCovers.f a0 a1 a2 a3 = some true
theorem heraldlaw1_PlaceCovers.walk (P : heraldlaw1_PlaceCovers.Pure) (a0 : Int) (a1 : ByteArray) (a2 : Int) (a3 : ByteArray) (w : World) (w0 : (Lit.int .i64 a0).wf = true) (w1 : a1.size ≤ 140737488351232) (w2 : (Lit.int .i64 a2).wf = true) (w3 : a3.size ≤ 140737488351232) (HE : Env w) :
    Calls Tryd.prog 3 #[.int .i64 a0, .string a1, .int .i64 a2, .string a3] w fun e w' => e = .returned (.bool true) ∧ Below w.heap.size w w' := by
  have h := P a0 a1 a2 a3 w0 w1 w2 w3
  refine (heraldlaw1_PlaceCovers.calls a0 a1 a2 a3 true w h HE).mono ?_
  rintro e w' ⟨rfl, hd⟩
  exact ⟨rfl, hd⟩

/-! ### heraldlaw1_num: function 20 -/
def heraldlaw1_num.f (a0 : Int) : Option (Int) := some a0
set_option maxHeartbeats 8000000 in
set_option maxRecDepth 100000 in
theorem heraldlaw1_num.calls (a0 : Int) (r : Int) (w : World) (h : heraldlaw1_num.f a0 = some r) :
    Calls Tryd.prog 20 #[.int .i64 a0] w fun e w' => e = .returned (.int .i64 r) ∧ Drawn0 w w' := by
  have H : (some a0) = some r := h
  clear h
  obtain rfl := Option.some.inj H
  go_enter Tryd.func20, Tryd.ntmps20
  go_wp2
  go_ret
  exact ⟨by first | rfl | (simp; done) | (simp [*]; done), by repeat (first | exact Drawn0.refl _ | apply Drawn0.step)⟩

/-! ### heraldlaw1_texts: function 25 -/
def heraldlaw1_texts.l0 : Nat → List ByteArray → List ByteArray → Int → Option (Bool)
  | 0, _, _, _ => none
  | k + 1, x0, x1, x5 => if x5 < (x0.length : Int) then (if 0 ≤ x5 then (if x5 < (x1.length : Int) then (if (rdOf ByteArray.empty x0 x5).toList = (rdOf ByteArray.empty x1 x5).toList then (heraldlaw1_texts.l0 k x0 x1 (wrap64 (x5 + 1))) else (some false)) else (none)) else (none)) else (some true)
def heraldlaw1_texts.f (k : Nat) (l0 : List ByteArray) (l1 : List ByteArray) : Option (Bool) := if (l0.length : Int) = (l1.length : Int) then (heraldlaw1_texts.l0 k l0 l1 0) else (some false)
theorem heraldlaw1_texts.mono_l : ∀ k, (∀ y0 y1 y2, LeO (heraldlaw1_texts.l0 k y0 y1 y2) (heraldlaw1_texts.l0 (k + 1) y0 y1 y2))
  | 0 => fun _ _ _ r h => by simp [heraldlaw1_texts.l0] at h
  | k + 1 => by
    have ih0 := heraldlaw1_texts.mono_l k
    · intro y0 y1 y2
      unfold heraldlaw1_texts.l0
      repeat' first
      | (with_reducible exact ih0 _ _ _)
      | (with_reducible exact LeO.refl _)
      | (with_reducible exact LeO.none _)
      | (with_reducible refine LeO.ite ?_ ?_)
      | (with_reducible refine LeO.bind ?_ (fun _ => ?_))
      | exact ih0 _ _ _
      | exact LeO.none _
      | refine LeO.ite ?_ ?_
      | refine LeO.bind ?_ (fun _ => ?_)
theorem heraldlaw1_texts.mono : ∀ a0 a1 k, LeO (heraldlaw1_texts.f k a0 a1) (heraldlaw1_texts.f (k + 1) a0 a1) := by
  intro a0 a1 k
  have ih0 := heraldlaw1_texts.mono_l k
  unfold heraldlaw1_texts.f
  repeat' first
      | (with_reducible exact ih0 _ _ _)
      | (with_reducible exact LeO.refl _)
      | (with_reducible exact LeO.none _)
      | (with_reducible refine LeO.ite ?_ ?_)
      | (with_reducible refine LeO.bind ?_ (fun _ => ?_))
      | exact ih0 _ _ _
      | exact LeO.none _
      | refine LeO.ite ?_ ?_
      | refine LeO.bind ?_ (fun _ => ?_)
set_option maxHeartbeats 8000000 in
set_option maxRecDepth 100000 in
theorem heraldlaw1_texts.calls (k : Nat) (A0 : Option Addr) (c0 : Nat) (l0 : List ByteArray) (A1 : Option Addr) (c1 : Nat) (l1 : List ByteArray) (r : Bool) (w : World) (hr0 : Kd.C Kd.string w A0 l0.length l0) (hc0 : l0.length ≤ c0) (hr1 : Kd.C Kd.string w A1 l1.length l1) (hc1 : l1.length ≤ c1) (h : heraldlaw1_texts.f k l0 l1 = some r) :
    Calls Tryd.prog 25 #[.slice A0 l0.length c0, .slice A1 l1.length c1] w fun e w' => e = .returned (.bool r) ∧ Drawn0 w w' := by
  have HR0 := Aside0.mk hr0
  have HC0 := Aside0.mk hc0
  clear hr0 hc0
  have HR1 := Aside0.mk hr1
  have HC1 := Aside0.mk hc1
  clear hr1 hc1
  have H : (if (l0.length : Int) = (l1.length : Int) then (heraldlaw1_texts.l0 k l0 l1 0) else (some false)) = some r := h
  clear h
  by_cases c3 : (l0.length : Int) = (l1.length : Int)
  · rw [if_pos c3] at H
    have c3b0 : ((l0.length : Int) == (l1.length : Int)) = true := beq_iff_eq.mpr c3
    have c3b1 : ((l0.length : Int) != (l1.length : Int)) = false := bne_eq_false_iff_eq.mpr c3
    have c3b2 : (l0.length == l1.length) = true := by first | simpa using c3 | (simp at c3 ⊢; omega)
    clear c3
    have H' := Aside0.mk H
    clear H
    go_enter Tryd.func25, Tryd.ntmps25
    go_wp2
    repeat (go_quiet (fail); try go_wp2)
    go_loopg [5] k (fun kq v5 w' => ∃ (x5_1 : Int), v5 = .int .i64 x5_1 ∧ Aside0 (heraldlaw1_texts.l0 kq l0 l1 x5_1 = some r) ∧ Aside0 (kq ≤ k) ∧ Drawn0 w w')
    case atStart => exact ⟨(0), (by first | rfl | (simp; done) | (simp [*]; done)), H', ⟨Nat.le_refl _⟩, by repeat (first | exact Drawn0.refl _ | apply Drawn0.step)⟩
    case round =>
      clear H'
      try clear c1
      try clear c2
      try clear p2
      try clear c3
      try clear c3b0
      try clear c3b1
      try clear c3b2
      obtain ⟨x5_1, rfl, HA, HK1, ⟨m1, rfl⟩⟩ := hrel
      cases gk with
      | zero => exact absurd HA.out (by simp [heraldlaw1_texts.l0])
      | succ k1 =>
        have H := HA.out
        clear HA
        simp only [heraldlaw1_texts.l0] at H
        by_cases c4 : x5_1 < (l0.length : Int)
        · rw [if_pos c4] at H
          have c4b0 : decide (x5_1 < (l0.length : Int)) = true := decide_eq_true c4
          clear c4
          by_cases c5 : 0 ≤ x5_1
          · rw [if_pos c5] at H
            have c5b0 : decide (0 ≤ x5_1) = true := decide_eq_true c5
            clear c5
            by_cases c6 : x5_1 < (l1.length : Int)
            · rw [if_pos c6] at H
              have c6b0 : decide (x5_1 < (l1.length : Int)) = true := decide_eq_true c6
              clear c6
              by_cases c7 : (rdOf ByteArray.empty l0 x5_1).toList = (rdOf ByteArray.empty l1 x5_1).toList
              · rw [if_pos c7] at H
                have c7b0 : ((rdOf ByteArray.empty l0 x5_1).toList == (rdOf ByteArray.empty l1 x5_1).toList) = true := beq_iff_eq.mpr c7
                have c7b1 : ((rdOf ByteArray.empty l0 x5_1).toList != (rdOf ByteArray.empty l1 x5_1).toList) = false := bne_eq_false_iff_eq.mpr c7
                clear c7
                have H' := Aside0.mk H
                clear H
                have p104 : 0 ≤ (x5_1 : Int) := of_decide_eq_true (by first | (with_reducible assumption) | assumption)
                have q104 : x5_1 < (l0.length : Int) := of_decide_eq_true (by first | (with_reducible assumption) | assumption)
                obtain ⟨ad104, e104, hx104_0⟩ := Kd.at_string HR0.out x5_1 p104 q104
                cases e104
                replace p104 := eq_true p104
                replace q104 := eq_true q104
                have p105 : 0 ≤ (x5_1 : Int) := of_decide_eq_true (by first | (with_reducible assumption) | assumption)
                have q105 : x5_1 < (l1.length : Int) := of_decide_eq_true (by first | (with_reducible assumption) | assumption)
                obtain ⟨ad105, e105, hx105_0⟩ := Kd.at_string HR1.out x5_1 p105 q105
                cases e105
                replace p105 := eq_true p105
                replace q105 := eq_true q105
                go_wp2
                repeat (go_quiet (fail); try go_wp2)
                go_roundg k1
                case measure => have := HK1.out; omega
                case rel => exact ⟨(wrap64 (x5_1 + 1)), (by first | rfl | (simp; done) | (simp [*]; done)), H', ⟨by have := HK1.out; omega⟩, by repeat (first | exact Drawn0.refl _ | apply Drawn0.step)⟩
              · rw [if_neg c7] at H
                have c7b0 : ((rdOf ByteArray.empty l0 x5_1).toList == (rdOf ByteArray.empty l1 x5_1).toList) = false := beq_eq_false_iff_ne.mpr c7
                have c7b1 : ((rdOf ByteArray.empty l0 x5_1).toList != (rdOf ByteArray.empty l1 x5_1).toList) = true := bne_iff_ne.mpr c7
                obtain rfl := Option.some.inj H
                have p104 : 0 ≤ (x5_1 : Int) := of_decide_eq_true (by first | (with_reducible assumption) | assumption)
                have q104 : x5_1 < (l0.length : Int) := of_decide_eq_true (by first | (with_reducible assumption) | assumption)
                obtain ⟨ad104, e104, hx104_0⟩ := Kd.at_string HR0.out x5_1 p104 q104
                cases e104
                replace p104 := eq_true p104
                replace q104 := eq_true q104
                have p105 : 0 ≤ (x5_1 : Int) := of_decide_eq_true (by first | (with_reducible assumption) | assumption)
                have q105 : x5_1 < (l1.length : Int) := of_decide_eq_true (by first | (with_reducible assumption) | assumption)
                obtain ⟨ad105, e105, hx105_0⟩ := Kd.at_string HR1.out x5_1 p105 q105
                cases e105
                replace p105 := eq_true p105
                replace q105 := eq_true q105
                go_wp2
                repeat (go_quiet (fail); try go_wp2)
                go_ret
                exact ⟨by first | rfl | (simp; done) | (simp [*]; done), by repeat (first | exact Drawn0.refl _ | apply Drawn0.step)⟩
            · rw [if_neg c6] at H
              exact absurd H (by simp)
          · rw [if_neg c5] at H
            exact absurd H (by simp)
        · rw [if_neg c4] at H
          have c4b0 : decide (x5_1 < (l0.length : Int)) = false := decide_eq_false c4
          clear c4
          obtain rfl := Option.some.inj H
          go_wp2
          repeat (go_quiet (fail); try go_wp2)
          go_ret
          exact ⟨by first | rfl | (simp; done) | (simp [*]; done), by repeat (first | exact Drawn0.refl _ | apply Drawn0.step)⟩
  · rw [if_neg c3] at H
    have c3b0 : ((l0.length : Int) == (l1.length : Int)) = false := beq_eq_false_iff_ne.mpr c3
    have c3b1 : ((l0.length : Int) != (l1.length : Int)) = true := bne_iff_ne.mpr c3
    have c3b2 : (l0.length == l1.length) = false := by first | simpa using c3 | (simp at c3 ⊢; omega)
    obtain rfl := Option.some.inj H
    go_enter Tryd.func25, Tryd.ntmps25
    go_wp2
    repeat (go_quiet (fail); try go_wp2)
    go_ret
    exact ⟨by first | rfl | (simp; done) | (simp [*]; done), by repeat (first | exact Drawn0.refl _ | apply Drawn0.step)⟩

/-! ### heraldlaw1_known: function 26 -/
def heraldlaw1_known.j0 : Nat → List ByteArray → Int → Int → Bool → Option (Bool)
  | 0, _, _, _, _ => none
  | k + 1, x1, x2, x4, x48 => if x48 = true then (some false) else ((heraldlaw1_num.f x2).bind fun t129 => (if t129 = 0 then ((heraldlaw1_num.f x4).bind fun t130 => (if t130 = 10 then ((heraldlaw1_texts.f k x1 (([(⟨#[97]⟩ : ByteArray), (⟨#[98, 45, 49]⟩ : ByteArray)] : List ByteArray))).bind fun t134 => (some t134)) else (some false))) else (some false)))
def heraldlaw1_known.f (k : Nat)  : Option (Bool) := (place_Parse.f (⟨#[47, 97, 47, 98, 45, 49]⟩ : ByteArray)).bind fun bt106 => ((place_Parse.f (⟨#[47, 97, 47]⟩ : ByteArray)).bind fun bt110 => (if 65537 ≤ 281474976710656 then ((place_Clean.f (strOfNums (List.replicate 65537 0))).bind fun bt117 => ((place_Counted.f (⟨#[47]⟩ : ByteArray) (-1)).bind fun bt119 => ((place_Counted.f (⟨#[47, 97, 98, 99, 100, 101, 102, 103, 104, 105, 106, 107, 108]⟩ : ByteArray) (-1)).bind fun bt121 => ((heraldlaw1_num.f bt117.2).bind fun t123 => ((heraldlaw1_num.f 2).bind fun t124 => (if t123 = t124 then ((heraldlaw1_num.f bt119.2).bind fun t125 => ((heraldlaw1_num.f 47).bind fun t126 => (if t125 = t126 then ((heraldlaw1_num.f bt121.2).bind fun t127 => ((heraldlaw1_num.f 10).bind fun t128 => (heraldlaw1_known.j0 k bt106.1 bt106.2 bt110.2 (t127 != t128)))) else (heraldlaw1_known.j0 k bt106.1 bt106.2 bt110.2 true)))) else (heraldlaw1_known.j0 k bt106.1 bt106.2 bt110.2 true))))))) else (none)))
theorem heraldlaw1_known.mono_l : ∀ k, (∀ y0 y1 y2 y3, LeO (heraldlaw1_known.j0 k y0 y1 y2 y3) (heraldlaw1_known.j0 (k + 1) y0 y1 y2 y3))
  | 0 => fun _ _ _ _ r h => by simp [heraldlaw1_known.j0] at h
  | k + 1 => by
    have ih0 := heraldlaw1_known.mono_l k
    · intro y0 y1 y2 y3
      unfold heraldlaw1_known.j0
      repeat' first
      | (with_reducible exact ih0 _ _ _ _)
      | (with_reducible exact heraldlaw1_texts.mono _ _ _)
      | (with_reducible exact LeO.refl _)
      | (with_reducible exact LeO.none _)
      | (with_reducible refine LeO.ite ?_ ?_)
      | (with_reducible refine LeO.bind ?_ (fun _ => ?_))
      | exact ih0 _ _ _ _
      | exact heraldlaw1_texts.mono _ _ _
      | exact LeO.none _
      | refine LeO.ite ?_ ?_
      | refine LeO.bind ?_ (fun _ => ?_)
theorem heraldlaw1_known.mono : ∀ k, LeO (heraldlaw1_known.f k ) (heraldlaw1_known.f (k + 1) ) := by
  intro  k
  have ih0 := heraldlaw1_known.mono_l k
  unfold heraldlaw1_known.f
  repeat' first
      | (with_reducible exact ih0 _ _ _ _)
      | (with_reducible exact heraldlaw1_texts.mono _ _ _)
      | (with_reducible exact LeO.refl _)
      | (with_reducible exact LeO.none _)
      | (with_reducible refine LeO.ite ?_ ?_)
      | (with_reducible refine LeO.bind ?_ (fun _ => ?_))
      | exact ih0 _ _ _ _
      | exact heraldlaw1_texts.mono _ _ _
      | exact LeO.none _
      | refine LeO.ite ?_ ?_
      | refine LeO.bind ?_ (fun _ => ?_)
set_option maxHeartbeats 8000000 in
set_option maxRecDepth 100000 in
theorem heraldlaw1_known.calls (k : Nat)  (r : Bool) (w : World) (h : heraldlaw1_known.f k  = some r) (HE : Env2 w) :
    Calls Tryd.prog 26 #[] w fun e w' => e = .returned (.bool r) ∧ Below w.heap.size w w' := by
  have HB := Aside0.mk (Below.refl w.heap.size w)
  have H : ((place_Parse.f (⟨#[47, 97, 47, 98, 45, 49]⟩ : ByteArray)).bind fun bt106 => ((place_Parse.f (⟨#[47, 97, 47]⟩ : ByteArray)).bind fun bt110 => (if 65537 ≤ 281474976710656 then ((place_Clean.f (strOfNums (List.replicate 65537 0))).bind fun bt117 => ((place_Counted.f (⟨#[47]⟩ : ByteArray) (-1)).bind fun bt119 => ((place_Counted.f (⟨#[47, 97, 98, 99, 100, 101, 102, 103, 104, 105, 106, 107, 108]⟩ : ByteArray) (-1)).bind fun bt121 => ((heraldlaw1_num.f bt117.2).bind fun t123 => ((heraldlaw1_num.f 2).bind fun t124 => (if t123 = t124 then ((heraldlaw1_num.f bt119.2).bind fun t125 => ((heraldlaw1_num.f 47).bind fun t126 => (if t125 = t126 then ((heraldlaw1_num.f bt121.2).bind fun t127 => ((heraldlaw1_num.f 10).bind fun t128 => (heraldlaw1_known.j0 k bt106.1 bt106.2 bt110.2 (t127 != t128)))) else (heraldlaw1_known.j0 k bt106.1 bt106.2 bt110.2 true)))) else (heraldlaw1_known.j0 k bt106.1 bt106.2 bt110.2 true))))))) else (none)))) = some r := h
  clear h
  replace H := Option.bind_eq_some_iff.mp H
  obtain ⟨⟨t106, t107⟩, A10, H⟩ := H
  replace H : ((place_Parse.f (⟨#[47, 97, 47]⟩ : ByteArray)).bind fun bt110 => (if 65537 ≤ 281474976710656 then ((place_Clean.f (strOfNums (List.replicate 65537 0))).bind fun bt117 => ((place_Counted.f (⟨#[47]⟩ : ByteArray) (-1)).bind fun bt119 => ((place_Counted.f (⟨#[47, 97, 98, 99, 100, 101, 102, 103, 104, 105, 106, 107, 108]⟩ : ByteArray) (-1)).bind fun bt121 => ((heraldlaw1_num.f bt117.2).bind fun t123 => ((heraldlaw1_num.f 2).bind fun t124 => (if t123 = t124 then ((heraldlaw1_num.f bt119.2).bind fun t125 => ((heraldlaw1_num.f 47).bind fun t126 => (if t125 = t126 then ((heraldlaw1_num.f bt121.2).bind fun t127 => ((heraldlaw1_num.f 10).bind fun t128 => (heraldlaw1_known.j0 k t106 t107 bt110.2 (t127 != t128)))) else (heraldlaw1_known.j0 k t106 t107 bt110.2 true)))) else (heraldlaw1_known.j0 k t106 t107 bt110.2 true))))))) else (none))) = some r := H
  have A1 := Aside0.mk A10
  clear A10
  replace H := Option.bind_eq_some_iff.mp H
  obtain ⟨⟨t110, t111⟩, A20, H⟩ := H
  replace H : (if 65537 ≤ 281474976710656 then ((place_Clean.f (strOfNums (List.replicate 65537 0))).bind fun bt117 => ((place_Counted.f (⟨#[47]⟩ : ByteArray) (-1)).bind fun bt119 => ((place_Counted.f (⟨#[47, 97, 98, 99, 100, 101, 102, 103, 104, 105, 106, 107, 108]⟩ : ByteArray) (-1)).bind fun bt121 => ((heraldlaw1_num.f bt117.2).bind fun t123 => ((heraldlaw1_num.f 2).bind fun t124 => (if t123 = t124 then ((heraldlaw1_num.f bt119.2).bind fun t125 => ((heraldlaw1_num.f 47).bind fun t126 => (if t125 = t126 then ((heraldlaw1_num.f bt121.2).bind fun t127 => ((heraldlaw1_num.f 10).bind fun t128 => (heraldlaw1_known.j0 k t106 t107 t111 (t127 != t128)))) else (heraldlaw1_known.j0 k t106 t107 t111 true)))) else (heraldlaw1_known.j0 k t106 t107 t111 true))))))) else (none)) = some r := H
  have A2 := Aside0.mk A20
  clear A20
  by_cases c3 : 65537 ≤ 281474976710656
  · rw [if_pos c3] at H
    have c3b0 := eq_true c3
    have c3b1 : decide (65537 ≤ 281474976710656) = true := decide_eq_true c3
    clear c3
    obtain ⟨y114, hy114⟩ : ∃ y_ : List Int, y_ = (List.replicate 65537 0) := ⟨_, rfl⟩
    replace H : ((place_Clean.f (strOfNums y114)).bind fun bt117 => ((place_Counted.f (⟨#[47]⟩ : ByteArray) (-1)).bind fun bt119 => ((place_Counted.f (⟨#[47, 97, 98, 99, 100, 101, 102, 103, 104, 105, 106, 107, 108]⟩ : ByteArray) (-1)).bind fun bt121 => ((heraldlaw1_num.f bt117.2).bind fun t123 => ((heraldlaw1_num.f 2).bind fun t124 => (if t123 = t124 then ((heraldlaw1_num.f bt119.2).bind fun t125 => ((heraldlaw1_num.f 47).bind fun t126 => (if t125 = t126 then ((heraldlaw1_num.f bt121.2).bind fun t127 => ((heraldlaw1_num.f 10).bind fun t128 => (heraldlaw1_known.j0 k t106 t107 t111 (t127 != t128)))) else (heraldlaw1_known.j0 k t106 t107 t111 true)))) else (heraldlaw1_known.j0 k t106 t107 t111 true))))))) = some r := by first | (rw [hy114]; with_reducible exact H) | (have H2_ := (Option.bind_some _ _).symm.trans H; rw [hy114]; with_reducible exact H2_) | (have H2_ := (Option.bind_some _ _).symm.trans H; with_reducible exact H2_) | with_reducible exact H | (rw [hy114]; exact H) | exact H
    have Ny114 := Aside0.mk hy114
    clear hy114
    replace H := Option.bind_eq_some_iff.mp H
    obtain ⟨⟨t117, t118⟩, A40, H⟩ := H
    replace H : ((place_Counted.f (⟨#[47]⟩ : ByteArray) (-1)).bind fun bt119 => ((place_Counted.f (⟨#[47, 97, 98, 99, 100, 101, 102, 103, 104, 105, 106, 107, 108]⟩ : ByteArray) (-1)).bind fun bt121 => ((heraldlaw1_num.f t118).bind fun t123 => ((heraldlaw1_num.f 2).bind fun t124 => (if t123 = t124 then ((heraldlaw1_num.f bt119.2).bind fun t125 => ((heraldlaw1_num.f 47).bind fun t126 => (if t125 = t126 then ((heraldlaw1_num.f bt121.2).bind fun t127 => ((heraldlaw1_num.f 10).bind fun t128 => (heraldlaw1_known.j0 k t106 t107 t111 (t127 != t128)))) else (heraldlaw1_known.j0 k t106 t107 t111 true)))) else (heraldlaw1_known.j0 k t106 t107 t111 true)))))) = some r := H
    have A4 := Aside0.mk A40
    clear A40
    replace H := Option.bind_eq_some_iff.mp H
    obtain ⟨⟨t119, t120⟩, A50, H⟩ := H
    replace H : ((place_Counted.f (⟨#[47, 97, 98, 99, 100, 101, 102, 103, 104, 105, 106, 107, 108]⟩ : ByteArray) (-1)).bind fun bt121 => ((heraldlaw1_num.f t118).bind fun t123 => ((heraldlaw1_num.f 2).bind fun t124 => (if t123 = t124 then ((heraldlaw1_num.f t120).bind fun t125 => ((heraldlaw1_num.f 47).bind fun t126 => (if t125 = t126 then ((heraldlaw1_num.f bt121.2).bind fun t127 => ((heraldlaw1_num.f 10).bind fun t128 => (heraldlaw1_known.j0 k t106 t107 t111 (t127 != t128)))) else (heraldlaw1_known.j0 k t106 t107 t111 true)))) else (heraldlaw1_known.j0 k t106 t107 t111 true))))) = some r := H
    have A5 := Aside0.mk A50
    clear A50
    replace H := Option.bind_eq_some_iff.mp H
    obtain ⟨⟨t121, t122⟩, A60, H⟩ := H
    replace H : ((heraldlaw1_num.f t118).bind fun t123 => ((heraldlaw1_num.f 2).bind fun t124 => (if t123 = t124 then ((heraldlaw1_num.f t120).bind fun t125 => ((heraldlaw1_num.f 47).bind fun t126 => (if t125 = t126 then ((heraldlaw1_num.f t122).bind fun t127 => ((heraldlaw1_num.f 10).bind fun t128 => (heraldlaw1_known.j0 k t106 t107 t111 (t127 != t128)))) else (heraldlaw1_known.j0 k t106 t107 t111 true)))) else (heraldlaw1_known.j0 k t106 t107 t111 true)))) = some r := H
    have A6 := Aside0.mk A60
    clear A60
    have HC7 := Aside0.mk H
    clear H
    go_enter Tryd.func26, Tryd.ntmps26
    go_upto_region 6 with (first | ((with_reducible refine gate_callee (f := 18) rfl ?_); refine goesL_ (some 12) rfl rfl Tryd.func18 (by kernel_rfl) rfl #[.string (⟨#[47, 97, 47, 98, 45, 49]⟩ : ByteArray)] rfl (by (try simp only [List.map_toArray, List.map_cons, List.map_nil]); first | done | rfl | (simp only [List.length_drop, List.length_take]; rfl)) ?_; (with_reducible refine (place_Parse.calls (⟨#[47, 97, 47, 98, 45, 49]⟩ : ByteArray) t106 t107 _ A1.out ((HE.at_ (by repeat (first | (with_reducible first | exact HB.out | apply below_alloc | apply pw_below_drewN | apply below_drew1) | exact HB.out))).env)).mono ?_); rintro e w8 ⟨v108, rfl, ho0, hb⟩; refine ⟨_, rfl, ?_⟩; have n0_ := Aside0.mk (Kd.R_lower ho0 (below_size (by repeat (first | (with_reducible first | exact HB.out | apply below_alloc | apply pw_below_drewN | apply below_drew1) | exact HB.out)))); have n1_ := Aside0.mk (below_step (by repeat (first | (with_reducible first | exact HB.out | apply below_alloc | apply pw_below_drewN | apply below_drew1) | exact HB.out)) hb); clear HB; have HO109 := n0_; have HB := n1_; clear n0_ n1_; (try clear hb); (try clear hb2); (try clear hk); (try clear hi); (try clear ho0)) | ((with_reducible refine gate_callee (f := 18) rfl ?_); refine goesL_ (some 16) rfl rfl Tryd.func18 (by kernel_rfl) rfl #[.string (⟨#[47, 97, 47]⟩ : ByteArray)] rfl (by (try simp only [List.map_toArray, List.map_cons, List.map_nil]); first | done | rfl | (simp only [List.length_drop, List.length_take]; rfl)) ?_; (with_reducible refine (place_Parse.calls (⟨#[47, 97, 47]⟩ : ByteArray) t110 t111 _ A2.out ((HE.at_ (by repeat (first | (with_reducible first | exact HB.out | apply below_alloc | apply pw_below_drewN | apply below_drew1) | exact HB.out))).env)).mono ?_); rintro e w9 ⟨v112, rfl, ho0, hb⟩; refine ⟨_, rfl, ?_⟩; have n0_ := Aside0.mk (Kd.R_elder' (by (with_reducible repeat (first | apply Kd.R_alloc | apply Kd.R_drewN | apply Kd.R_drew)); exact HO109.out) (Kd.R_base ho0) hb); have n1_ := Aside0.mk (Kd.R_lower (Kd.R_new' ho0 (Kd.R_lt (by (with_reducible repeat (first | apply Kd.R_alloc | apply Kd.R_drewN | apply Kd.R_drew)); exact HO109.out))) (below_size (by repeat (first | (with_reducible first | exact HB.out | apply below_alloc | apply pw_below_drewN | apply below_drew1) | exact HB.out)))); have n2_ := Aside0.mk (below_step (by repeat (first | (with_reducible first | exact HB.out | apply below_alloc | apply pw_below_drewN | apply below_drew1) | exact HB.out)) hb); clear HO109; clear HB; have HO109 := n0_; have HO113 := n1_; have HB := n2_; clear n0_ n1_ n2_; (try clear hb); (try clear hb2); (try clear hk); (try clear hi); (try clear ho0)) | ((with_reducible refine gate_dst (N := 20) rfl ?_); (try (refine gate_guard (by rfl) ?_; dsimp only)); refine Kd.R_make (Kd.int .u8) _ 5 rfl (N := 20) rfl 45 _ _ rfl 65537 rfl rfl Tryd.underlying45 (.int .u8 0) 1 info5 rfl (by decide) (by omega) 0 (ok := fun _ => True) (okp := fun _ => True) rfl (fun _ hk => hk) trivial (by omega) (by omega) (Below.refl _ _) (Nat.le_refl _) ?_; intro v115 w10 ho11 hb hg_ hnew_; clear hg_ hnew_; (first | rw [← Ny114.out] at ho11 | (simp only [Int.reduceToNat] at ho11; rw [← Ny114.out] at ho11)); have n0_ := Aside0.mk (Kd.R_below (by (with_reducible repeat (first | apply Kd.R_alloc | apply Kd.R_drewN | apply Kd.R_drew)); exact HO109.out) hb); have n1_ := Aside0.mk (Kd.R_below (by (with_reducible repeat (first | apply Kd.R_alloc | apply Kd.R_drewN | apply Kd.R_drew)); exact HO113.out) hb); have n2_ := Aside0.mk (Kd.R_lower ho11 (below_size (by repeat (first | (with_reducible first | exact HB.out | apply below_alloc | apply pw_below_drewN | apply below_drew1) | exact HB.out)))); have n3_ := Aside0.mk (below_step (by repeat (first | (with_reducible first | exact HB.out | apply below_alloc | apply pw_below_drewN | apply below_drew1) | exact HB.out)) hb); clear HO109; clear HO113; clear HB; have HO109 := n0_; have HO113 := n1_; have HO116 := n2_; have HB := n3_; clear n0_ n1_ n2_ n3_; clear hb ho11; have hcv12 := own_string (P := Tryd.prog) Tryd.underlying45 Tryd.underlying5 Tryd.underlying9 (Kd.own_of_R HO116.out)) | ((with_reducible refine gate_callee (f := 28) rfl ?_); refine goesL_ (some 22) rfl rfl Tryd.func28 (by kernel_rfl) rfl #[.string (strOfNums y114)] rfl (by (try simp only [List.map_toArray, List.map_cons, List.map_nil]); first | done | rfl | (simp only [List.length_drop, List.length_take]; rfl)) ?_; (with_reducible refine (place_Clean.calls (strOfNums y114) t117 t118 _ A4.out ((HE.at_ (by repeat (first | (with_reducible first | exact HB.out | apply below_alloc | apply pw_below_drewN | apply below_drew1) | exact HB.out))).env)).mono ?_); rintro e w13 ⟨rfl, hb⟩; refine ⟨_, rfl, ?_⟩; have n0_ := Aside0.mk (Kd.R_below (by (with_reducible repeat (first | apply Kd.R_alloc | apply Kd.R_drewN | apply Kd.R_drew)); exact HO109.out) hb); have n1_ := Aside0.mk (Kd.R_below (by (with_reducible repeat (first | apply Kd.R_alloc | apply Kd.R_drewN | apply Kd.R_drew)); exact HO113.out) hb); have n2_ := Aside0.mk (Kd.R_below (by (with_reducible repeat (first | apply Kd.R_alloc | apply Kd.R_drewN | apply Kd.R_drew)); exact HO116.out) hb); have n3_ := Aside0.mk (below_step (by repeat (first | (with_reducible first | exact HB.out | apply below_alloc | apply pw_below_drewN | apply below_drew1) | exact HB.out)) hb); clear HO109; clear HO113; clear HO116; clear HB; have HO109 := n0_; have HO113 := n1_; have HO116 := n2_; have HB := n3_; clear n0_ n1_ n2_ n3_; (try clear hb); (try clear hb2); (try clear hk); (try clear hi)) | ((with_reducible refine gate_callee (f := 30) rfl ?_); refine goesL_ (some 26) rfl rfl Tryd.func30 (by kernel_rfl) rfl #[.string (⟨#[47]⟩ : ByteArray), .int .i64 (-1)] rfl (by (try simp only [List.map_toArray, List.map_cons, List.map_nil]); first | done | rfl | (simp only [List.length_drop, List.length_take]; rfl)) ?_; (with_reducible refine (place_Counted.calls (⟨#[47]⟩ : ByteArray) (-1) t119 t120 _ A5.out (HE.at_ (by repeat (first | (with_reducible first | exact HB.out | apply below_alloc | apply pw_below_drewN | apply below_drew1) | exact HB.out)))).mono ?_); rintro e w14 ⟨rfl, hb⟩; refine ⟨_, rfl, ?_⟩; have n0_ := Aside0.mk (Kd.R_below (by (with_reducible repeat (first | apply Kd.R_alloc | apply Kd.R_drewN | apply Kd.R_drew)); exact HO109.out) hb); have n1_ := Aside0.mk (Kd.R_below (by (with_reducible repeat (first | apply Kd.R_alloc | apply Kd.R_drewN | apply Kd.R_drew)); exact HO113.out) hb); have n2_ := Aside0.mk (Kd.R_below (by (with_reducible repeat (first | apply Kd.R_alloc | apply Kd.R_drewN | apply Kd.R_drew)); exact HO116.out) hb); have n3_ := Aside0.mk (below_step (by repeat (first | (with_reducible first | exact HB.out | apply below_alloc | apply pw_below_drewN | apply below_drew1) | exact HB.out)) hb); clear HO109; clear HO113; clear HO116; clear HB; have HO109 := n0_; have HO113 := n1_; have HO116 := n2_; have HB := n3_; clear n0_ n1_ n2_ n3_; (try clear hb); (try clear hb2); (try clear hk); (try clear hi)) | ((with_reducible refine gate_callee (f := 30) rfl ?_); refine goesL_ (some 30) rfl rfl Tryd.func30 (by kernel_rfl) rfl #[.string (⟨#[47, 97, 98, 99, 100, 101, 102, 103, 104, 105, 106, 107, 108]⟩ : ByteArray), .int .i64 (-1)] rfl (by (try simp only [List.map_toArray, List.map_cons, List.map_nil]); first | done | rfl | (simp only [List.length_drop, List.length_take]; rfl)) ?_; (with_reducible refine (place_Counted.calls (⟨#[47, 97, 98, 99, 100, 101, 102, 103, 104, 105, 106, 107, 108]⟩ : ByteArray) (-1) t121 t122 _ A6.out (HE.at_ (by repeat (first | (with_reducible first | exact HB.out | apply below_alloc | apply pw_below_drewN | apply below_drew1) | exact HB.out)))).mono ?_); rintro e w15 ⟨rfl, hb⟩; refine ⟨_, rfl, ?_⟩; have n0_ := Aside0.mk (Kd.R_below (by (with_reducible repeat (first | apply Kd.R_alloc | apply Kd.R_drewN | apply Kd.R_drew)); exact HO109.out) hb); have n1_ := Aside0.mk (Kd.R_below (by (with_reducible repeat (first | apply Kd.R_alloc | apply Kd.R_drewN | apply Kd.R_drew)); exact HO113.out) hb); have n2_ := Aside0.mk (Kd.R_below (by (with_reducible repeat (first | apply Kd.R_alloc | apply Kd.R_drewN | apply Kd.R_drew)); exact HO116.out) hb); have n3_ := Aside0.mk (below_step (by repeat (first | (with_reducible first | exact HB.out | apply below_alloc | apply pw_below_drewN | apply below_drew1) | exact HB.out)) hb); clear HO109; clear HO113; clear HO116; clear HB; have HO109 := n0_; have HO113 := n1_; have HO116 := n2_; have HB := n3_; clear n0_ n1_ n2_ n3_; (try clear hb); (try clear hb2); (try clear hk); (try clear hi)))
    (try simp only [Act.put, List.setIfInBounds_toArray, List.set_cons_zero, List.set_cons_succ])
    go_cut [48] (fun v48 wc => ∃ (kq : Nat) (x48_6 : Bool), v48 = .bool x48_6 ∧ Aside0 (heraldlaw1_known.j0 kq t106 t107 t111 x48_6 = some r) ∧ Aside0 (kq ≤ k) ∧ Aside0 (Kd.R Kd.string 9 wc w.heap.size (fun _ => True) v108 t106) ∧ Aside0 (Below w.heap.size w wc))
    case first =>
      have H := HC7.out
      clear HC7
      replace H := Option.bind_eq_some_iff.mp H
      obtain ⟨t123, A160, H⟩ := H
      replace H : ((heraldlaw1_num.f 2).bind fun t124 => (if t123 = t124 then ((heraldlaw1_num.f t120).bind fun t125 => ((heraldlaw1_num.f 47).bind fun t126 => (if t125 = t126 then ((heraldlaw1_num.f t122).bind fun t127 => ((heraldlaw1_num.f 10).bind fun t128 => (heraldlaw1_known.j0 k t106 t107 t111 (t127 != t128)))) else (heraldlaw1_known.j0 k t106 t107 t111 true)))) else (heraldlaw1_known.j0 k t106 t107 t111 true))) = some r := H
      have A16 := Aside0.mk A160
      clear A160
      replace H := Option.bind_eq_some_iff.mp H
      obtain ⟨t124, A170, H⟩ := H
      replace H : (if t123 = t124 then ((heraldlaw1_num.f t120).bind fun t125 => ((heraldlaw1_num.f 47).bind fun t126 => (if t125 = t126 then ((heraldlaw1_num.f t122).bind fun t127 => ((heraldlaw1_num.f 10).bind fun t128 => (heraldlaw1_known.j0 k t106 t107 t111 (t127 != t128)))) else (heraldlaw1_known.j0 k t106 t107 t111 true)))) else (heraldlaw1_known.j0 k t106 t107 t111 true)) = some r := H
      have A17 := Aside0.mk A170
      clear A170
      by_cases c18 : t123 = t124
      · rw [if_pos c18] at H
        have c18b0 : (t123 == t124) = true := beq_iff_eq.mpr c18
        have c18b1 : (t123 != t124) = false := bne_eq_false_iff_eq.mpr c18
        clear c18
        (first | rw [c18b0] | (simp only [i64_w, i32_w]; rw [c18b0]) | skip)
        replace H := Option.bind_eq_some_iff.mp H
        obtain ⟨t125, A190, H⟩ := H
        replace H : ((heraldlaw1_num.f 47).bind fun t126 => (if t125 = t126 then ((heraldlaw1_num.f t122).bind fun t127 => ((heraldlaw1_num.f 10).bind fun t128 => (heraldlaw1_known.j0 k t106 t107 t111 (t127 != t128)))) else (heraldlaw1_known.j0 k t106 t107 t111 true))) = some r := H
        have A19 := Aside0.mk A190
        clear A190
        replace H := Option.bind_eq_some_iff.mp H
        obtain ⟨t126, A200, H⟩ := H
        replace H : (if t125 = t126 then ((heraldlaw1_num.f t122).bind fun t127 => ((heraldlaw1_num.f 10).bind fun t128 => (heraldlaw1_known.j0 k t106 t107 t111 (t127 != t128)))) else (heraldlaw1_known.j0 k t106 t107 t111 true)) = some r := H
        have A20 := Aside0.mk A200
        clear A200
        by_cases c21 : t125 = t126
        · rw [if_pos c21] at H
          have c21b0 : (t125 == t126) = true := beq_iff_eq.mpr c21
          have c21b1 : (t125 != t126) = false := bne_eq_false_iff_eq.mpr c21
          clear c21
          replace H := Option.bind_eq_some_iff.mp H
          obtain ⟨t127, A220, H⟩ := H
          replace H : ((heraldlaw1_num.f 10).bind fun t128 => (heraldlaw1_known.j0 k t106 t107 t111 (t127 != t128))) = some r := H
          have A22 := Aside0.mk A220
          clear A220
          replace H := Option.bind_eq_some_iff.mp H
          obtain ⟨t128, A230, H⟩ := H
          replace H : (heraldlaw1_known.j0 k t106 t107 t111 (t127 != t128)) = some r := H
          have A23 := Aside0.mk A230
          clear A230
          have H' := Aside0.mk H
          clear H
          go_wp2_with (first | ((with_reducible refine gate_callee (f := 20) rfl ?_); refine goesL_ (some 34) rfl rfl Tryd.func20 (by kernel_rfl) rfl #[.int .i64 t118] rfl (by (try simp only [List.map_toArray, List.map_cons, List.map_nil]); first | done | rfl | (simp only [List.length_drop, List.length_take]; rfl)) ?_; (with_reducible refine (heraldlaw1_num.calls t118 t123 _ A16.out).mono ?_); rintro e w' ⟨rfl, ⟨nd, rfl⟩⟩; refine ⟨_, rfl, ?_⟩) | ((with_reducible refine gate_callee (f := 20) rfl ?_); refine goesL_ (some 35) rfl rfl Tryd.func20 (by kernel_rfl) rfl #[.int .i64 2] rfl (by (try simp only [List.map_toArray, List.map_cons, List.map_nil]); first | done | rfl | (simp only [List.length_drop, List.length_take]; rfl)) ?_; (with_reducible refine (heraldlaw1_num.calls 2 t124 _ A17.out).mono ?_); rintro e w' ⟨rfl, ⟨nd, rfl⟩⟩; refine ⟨_, rfl, ?_⟩) | (go_at_call 20; (with_reducible refine (heraldlaw1_num.calls t120 t125 _ A19.out).mono ?_); rintro e w' ⟨rfl, ⟨nd, rfl⟩⟩) | (go_at_call 20; (with_reducible refine (heraldlaw1_num.calls 47 t126 _ A20.out).mono ?_); rintro e w' ⟨rfl, ⟨nd, rfl⟩⟩) | (go_at_call 20; (with_reducible refine (heraldlaw1_num.calls t122 t127 _ A22.out).mono ?_); rintro e w' ⟨rfl, ⟨nd, rfl⟩⟩) | (go_at_call 20; (with_reducible refine (heraldlaw1_num.calls 10 t128 _ A23.out).mono ?_); rintro e w' ⟨rfl, ⟨nd, rfl⟩⟩))
          go_meet
          case rel => exact ⟨_, ((t127 != t128)), (by first | rfl | (simp; done) | (simp [*]; done)), H', ⟨by first | omega | exact Nat.le_refl _⟩, ⟨by (with_reducible repeat (first | apply Kd.R_alloc | apply Kd.R_drewN | apply Kd.R_drew)); exact Kd.R_mono HO109.out (fun _ hk => trivial)⟩, ⟨by repeat (first | (with_reducible first | exact HB.out | apply below_alloc | apply pw_below_drewN | apply below_drew1) | exact HB.out)⟩⟩
        · rw [if_neg c21] at H
          have c21b0 : (t125 == t126) = false := beq_eq_false_iff_ne.mpr c21
          have c21b1 : (t125 != t126) = true := bne_iff_ne.mpr c21
          have H' := Aside0.mk H
          clear H
          go_wp2_with (first | ((with_reducible refine gate_callee (f := 20) rfl ?_); refine goesL_ (some 34) rfl rfl Tryd.func20 (by kernel_rfl) rfl #[.int .i64 t118] rfl (by (try simp only [List.map_toArray, List.map_cons, List.map_nil]); first | done | rfl | (simp only [List.length_drop, List.length_take]; rfl)) ?_; (with_reducible refine (heraldlaw1_num.calls t118 t123 _ A16.out).mono ?_); rintro e w' ⟨rfl, ⟨nd, rfl⟩⟩; refine ⟨_, rfl, ?_⟩) | ((with_reducible refine gate_callee (f := 20) rfl ?_); refine goesL_ (some 35) rfl rfl Tryd.func20 (by kernel_rfl) rfl #[.int .i64 2] rfl (by (try simp only [List.map_toArray, List.map_cons, List.map_nil]); first | done | rfl | (simp only [List.length_drop, List.length_take]; rfl)) ?_; (with_reducible refine (heraldlaw1_num.calls 2 t124 _ A17.out).mono ?_); rintro e w' ⟨rfl, ⟨nd, rfl⟩⟩; refine ⟨_, rfl, ?_⟩) | (go_at_call 20; (with_reducible refine (heraldlaw1_num.calls t120 t125 _ A19.out).mono ?_); rintro e w' ⟨rfl, ⟨nd, rfl⟩⟩) | (go_at_call 20; (with_reducible refine (heraldlaw1_num.calls 47 t126 _ A20.out).mono ?_); rintro e w' ⟨rfl, ⟨nd, rfl⟩⟩))
          go_meet
          case rel => exact ⟨_, (true), (by first | rfl | (simp; done) | (simp [*]; done)), H', ⟨by first | omega | exact Nat.le_refl _⟩, ⟨by (with_reducible repeat (first | apply Kd.R_alloc | apply Kd.R_drewN | apply Kd.R_drew)); exact Kd.R_mono HO109.out (fun _ hk => trivial)⟩, ⟨by repeat (first | (with_reducible first | exact HB.out | apply below_alloc | apply pw_below_drewN | apply below_drew1) | exact HB.out)⟩⟩
      · rw [if_neg c18] at H
        have c18b0 : (t123 == t124) = false := beq_eq_false_iff_ne.mpr c18
        have c18b1 : (t123 != t124) = true := bne_iff_ne.mpr c18
        (first | rw [c18b0] | (simp only [i64_w, i32_w]; rw [c18b0]) | skip)
        have H' := Aside0.mk H
        clear H
        go_wp2_with (first | ((with_reducible refine gate_callee (f := 20) rfl ?_); refine goesL_ (some 34) rfl rfl Tryd.func20 (by kernel_rfl) rfl #[.int .i64 t118] rfl (by (try simp only [List.map_toArray, List.map_cons, List.map_nil]); first | done | rfl | (simp only [List.length_drop, List.length_take]; rfl)) ?_; (with_reducible refine (heraldlaw1_num.calls t118 t123 _ A16.out).mono ?_); rintro e w' ⟨rfl, ⟨nd, rfl⟩⟩; refine ⟨_, rfl, ?_⟩) | ((with_reducible refine gate_callee (f := 20) rfl ?_); refine goesL_ (some 35) rfl rfl Tryd.func20 (by kernel_rfl) rfl #[.int .i64 2] rfl (by (try simp only [List.map_toArray, List.map_cons, List.map_nil]); first | done | rfl | (simp only [List.length_drop, List.length_take]; rfl)) ?_; (with_reducible refine (heraldlaw1_num.calls 2 t124 _ A17.out).mono ?_); rintro e w' ⟨rfl, ⟨nd, rfl⟩⟩; refine ⟨_, rfl, ?_⟩))
        go_meet
        case rel => exact ⟨_, (true), (by first | rfl | (simp; done) | (simp [*]; done)), H', ⟨by first | omega | exact Nat.le_refl _⟩, ⟨by (with_reducible repeat (first | apply Kd.R_alloc | apply Kd.R_drewN | apply Kd.R_drew)); exact Kd.R_mono HO109.out (fun _ hk => trivial)⟩, ⟨by repeat (first | (with_reducible first | exact HB.out | apply below_alloc | apply pw_below_drewN | apply below_drew1) | exact HB.out)⟩⟩
    case rest =>
      clear HC7
      try clear c1
      try clear hcv1
      try clear c2
      try clear p2
      try clear c3
      try clear c3b0
      try clear c3b1
      try clear hcv12
      try clear c18
      try clear c18b0
      try clear c18b1
      try clear c20
      try clear c21
      try clear c21b0
      try clear c21b1
      obtain ⟨kq, x48_6, rfl, HA, HJ6, HO_1, HB⟩ := hcut
      cases kq with
      | zero => exact absurd HA.out (by simp [heraldlaw1_known.j0])
      | succ kj6 =>
        have H := HA.out
        clear HA
        simp only [heraldlaw1_known.j0] at H
        by_cases c24 : x48_6 = true
        · subst c24
          have H1 : (some false) = some r := by rw [if_pos rfl] at H; exact H
          clear H
          have H := H1
          clear H1
          obtain rfl := Option.some.inj H
          go_wp2
          go_ret
          exact ⟨by first | rfl | (simp [errW_none, errW_some] <;> rfl) | (simp [*, errW_none, errW_some] <;> rfl), by repeat (first | (with_reducible first | exact HB.out | apply below_alloc | apply pw_below_drewN | apply below_drew1) | exact HB.out)⟩
        · replace c24 := Bool.eq_false_iff.mpr c24
          subst c24
          have H1 : ((heraldlaw1_num.f t107).bind fun t129 => (if t129 = 0 then ((heraldlaw1_num.f t111).bind fun t130 => (if t130 = 10 then ((heraldlaw1_texts.f kj6 t106 (([(⟨#[97]⟩ : ByteArray), (⟨#[98, 45, 49]⟩ : ByteArray)] : List ByteArray))).bind fun t134 => (some t134)) else (some false))) else (some false))) = some r := by rw [if_neg (show ¬ (false = true) by decide)] at H; exact H
          clear H
          have H := H1
          clear H1
          replace H := Option.bind_eq_some_iff.mp H
          obtain ⟨t129, A250, H⟩ := H
          replace H : (if t129 = 0 then ((heraldlaw1_num.f t111).bind fun t130 => (if t130 = 10 then ((heraldlaw1_texts.f kj6 t106 (([(⟨#[97]⟩ : ByteArray), (⟨#[98, 45, 49]⟩ : ByteArray)] : List ByteArray))).bind fun t134 => (some t134)) else (some false))) else (some false)) = some r := H
          have A25 := Aside0.mk A250
          clear A250
          by_cases c26 : t129 = 0
          · rw [if_pos c26] at H
            have c26b0 : (t129 == 0) = true := beq_iff_eq.mpr c26
            have c26b1 : (t129 != 0) = false := bne_eq_false_iff_eq.mpr c26
            clear c26
            replace H := Option.bind_eq_some_iff.mp H
            obtain ⟨t130, A270, H⟩ := H
            replace H : (if t130 = 10 then ((heraldlaw1_texts.f kj6 t106 (([(⟨#[97]⟩ : ByteArray), (⟨#[98, 45, 49]⟩ : ByteArray)] : List ByteArray))).bind fun t134 => (some t134)) else (some false)) = some r := H
            have A27 := Aside0.mk A270
            clear A270
            by_cases c28 : t130 = 10
            · rw [if_pos c28] at H
              have c28b0 : (t130 == 10) = true := beq_iff_eq.mpr c28
              have c28b1 : (t130 != 10) = false := bne_eq_false_iff_eq.mpr c28
              clear c28
              obtain ⟨y131, hy131⟩ : ∃ y_ : List ByteArray, y_ = (([(⟨#[97]⟩ : ByteArray), (⟨#[98, 45, 49]⟩ : ByteArray)] : List ByteArray)) := ⟨_, rfl⟩
              replace H : ((heraldlaw1_texts.f kj6 t106 y131).bind fun t134 => (some t134)) = some r := by first | (rw [hy131]; with_reducible exact H) | (have H2_ := (Option.bind_some _ _).symm.trans H; rw [hy131]; with_reducible exact H2_) | (have H2_ := (Option.bind_some _ _).symm.trans H; with_reducible exact H2_) | with_reducible exact H | (rw [hy131]; exact H) | exact H
              have Ny131 := Aside0.mk hy131
              clear hy131
              replace H := Option.bind_eq_some_iff.mp H
              obtain ⟨t134, A290, H⟩ := H
              replace H : (some t134) = some r := H
              have A29 := Aside0.mk A290
              clear A290
              obtain rfl := Option.some.inj H
              go_wp2_with (first | ((with_reducible refine gate_callee (f := 20) rfl ?_); refine goesL_ (some 50) rfl rfl Tryd.func20 (by kernel_rfl) rfl #[.int .i64 t107] rfl (by (try simp only [List.map_toArray, List.map_cons, List.map_nil]); first | done | rfl | (simp only [List.length_drop, List.length_take]; rfl)) ?_; (with_reducible refine (heraldlaw1_num.calls t107 t129 _ A25.out).mono ?_); rintro e w' ⟨rfl, ⟨nd, rfl⟩⟩; refine ⟨_, rfl, ?_⟩) | (go_at_call 20; (with_reducible refine (heraldlaw1_num.calls t111 t130 _ A27.out).mono ?_); rintro e w' ⟨rfl, ⟨nd, rfl⟩⟩) | ((with_reducible refine gate_dst (N := 59) rfl ?_); (try (refine gate_guard (by rfl) ?_; dsimp only)); refine Kd.R_lit Kd.string _ 9 ?hg (N := 59) ?hd (xs := ([(⟨#[97]⟩ : ByteArray), (⟨#[98, 45, 49]⟩ : ByteArray)] : List ByteArray)) (inner := [.string (⟨#[97]⟩ : ByteArray), .string (⟨#[98, 45, 49]⟩ : ByteArray)]) (ok := fun _ => True) (okp := fun _ => True) ?hr ?hp (fun _ hk => hk) trivial (Below.refl _ _) (Nat.le_refl _) (by simp) ?_; (case hd => rfl); (case hg => rfl); (case hr => first | (go_simp; done) | (go_simp; rfl)); (case hp => exact (Reps.one (show Kd.M Kd.string _ _ _ (⟨#[97]⟩ : ByteArray) [.string (⟨#[97]⟩ : ByteArray)] from rfl) (Reps.one (show Kd.M Kd.string _ _ _ (⟨#[98, 45, 49]⟩ : ByteArray) [.string (⟨#[98, 45, 49]⟩ : ByteArray)] from rfl) (Reps.none _ _)))); intro v132 w30 ho31 hb hg_ hnew_; clear hg_ hnew_; (first | rw [← Ny131.out] at ho31 | (simp only [Int.reduceToNat] at ho31; rw [← Ny131.out] at ho31)); have n0_ := Aside0.mk (Kd.R_elder' (by (with_reducible repeat (first | apply Kd.R_alloc | apply Kd.R_drewN | apply Kd.R_drew)); exact HO_1.out) (Kd.R_base ho31) hb); have n1_ := Aside0.mk (Kd.R_lower (Kd.R_new' ho31 (Kd.R_lt (by (with_reducible repeat (first | apply Kd.R_alloc | apply Kd.R_drewN | apply Kd.R_drew)); exact HO_1.out))) (below_size (by repeat (first | (with_reducible first | exact HB.out | apply below_alloc | apply pw_below_drewN | apply below_drew1) | exact HB.out)))); have n2_ := Aside0.mk (below_step (by repeat (first | (with_reducible first | exact HB.out | apply below_alloc | apply pw_below_drewN | apply below_drew1) | exact HB.out)) hb); clear HO_1; clear HB; have HO_1 := n0_; have HO133 := n1_; have HB := n2_; clear n0_ n1_ n2_; clear hb ho31; obtain ⟨Ao32, co32, eo32⟩ := Kd.R_slice HO_1.out; subst eo32; obtain ⟨Ao33, co33, eo33⟩ := Kd.R_slice HO133.out; subst eo33) | (go_at_call 25; (with_reducible refine (heraldlaw1_texts.calls kj6 _ _ t106 _ _ y131 t134 _ ?side1 ?side2 ?side3 ?side4 A29.out).mono ?_); (case side1 => repeat (first | exact (Kd.R_reads' HO_1.out).2.2 | (with_reducible refine Kd.C_alloc ?_ _) | (with_reducible refine Kd.C_drewN ?_ _) | (with_reducible refine Kd.C_drew ?_))); (case side2 => exact (Kd.R_reads' HO_1.out).2.1); (case side3 => repeat (first | exact (Kd.R_reads' HO133.out).2.2 | (with_reducible refine Kd.C_alloc ?_ _) | (with_reducible refine Kd.C_drewN ?_ _) | (with_reducible refine Kd.C_drew ?_))); (case side4 => exact (Kd.R_reads' HO133.out).2.1); rintro e w' ⟨rfl, ⟨nd, rfl⟩⟩))
              go_ret
              exact ⟨by first | rfl | (simp [errW_none, errW_some] <;> rfl) | (simp [*, errW_none, errW_some] <;> rfl), by repeat (first | (with_reducible first | exact HB.out | apply below_alloc | apply pw_below_drewN | apply below_drew1) | exact HB.out)⟩
            · rw [if_neg c28] at H
              have c28b0 : (t130 == 10) = false := beq_eq_false_iff_ne.mpr c28
              have c28b1 : (t130 != 10) = true := bne_iff_ne.mpr c28
              obtain rfl := Option.some.inj H
              go_wp2_with (first | ((with_reducible refine gate_callee (f := 20) rfl ?_); refine goesL_ (some 50) rfl rfl Tryd.func20 (by kernel_rfl) rfl #[.int .i64 t107] rfl (by (try simp only [List.map_toArray, List.map_cons, List.map_nil]); first | done | rfl | (simp only [List.length_drop, List.length_take]; rfl)) ?_; (with_reducible refine (heraldlaw1_num.calls t107 t129 _ A25.out).mono ?_); rintro e w' ⟨rfl, ⟨nd, rfl⟩⟩; refine ⟨_, rfl, ?_⟩) | (go_at_call 20; (with_reducible refine (heraldlaw1_num.calls t111 t130 _ A27.out).mono ?_); rintro e w' ⟨rfl, ⟨nd, rfl⟩⟩))
              go_ret
              exact ⟨by first | rfl | (simp [errW_none, errW_some] <;> rfl) | (simp [*, errW_none, errW_some] <;> rfl), by repeat (first | (with_reducible first | exact HB.out | apply below_alloc | apply pw_below_drewN | apply below_drew1) | exact HB.out)⟩
          · rw [if_neg c26] at H
            have c26b0 : (t129 == 0) = false := beq_eq_false_iff_ne.mpr c26
            have c26b1 : (t129 != 0) = true := bne_iff_ne.mpr c26
            obtain rfl := Option.some.inj H
            go_wp2_with (first | ((with_reducible refine gate_callee (f := 20) rfl ?_); refine goesL_ (some 50) rfl rfl Tryd.func20 (by kernel_rfl) rfl #[.int .i64 t107] rfl (by (try simp only [List.map_toArray, List.map_cons, List.map_nil]); first | done | rfl | (simp only [List.length_drop, List.length_take]; rfl)) ?_; (with_reducible refine (heraldlaw1_num.calls t107 t129 _ A25.out).mono ?_); rintro e w' ⟨rfl, ⟨nd, rfl⟩⟩; refine ⟨_, rfl, ?_⟩))
            go_ret
            exact ⟨by first | rfl | (simp [errW_none, errW_some] <;> rfl) | (simp [*, errW_none, errW_some] <;> rfl), by repeat (first | (with_reducible first | exact HB.out | apply below_alloc | apply pw_below_drewN | apply below_drew1) | exact HB.out)⟩
  · rw [if_neg c3] at H
    exact absurd H (by simp)

/-! ### heraldlaw1_PlaceParses: function 5 -/
def heraldlaw1_PlaceParses.f (k : Nat) (a0 : ByteArray) : Option (Bool) := (heraldref1_Parse.f a0).bind fun bt135 => ((place_Parse.f a0).bind fun bt139 => ((heraldlaw1_num.f bt139.2).bind fun t143 => (if t143 = bt135.2 then ((heraldlaw1_texts.f k bt139.1 bt135.1).bind fun t144 => (if t144 = true then ((heraldlaw1_known.f k).bind fun t145 => (some t145)) else (some false))) else (some false))))
theorem heraldlaw1_PlaceParses.mono : ∀ a0 k, LeO (heraldlaw1_PlaceParses.f k a0) (heraldlaw1_PlaceParses.f (k + 1) a0) := by
  intro a0 k
  unfold heraldlaw1_PlaceParses.f
  repeat' first
      | (with_reducible exact heraldlaw1_known.mono _)
      | (with_reducible exact heraldlaw1_texts.mono _ _ _)
      | (with_reducible exact LeO.refl _)
      | (with_reducible exact LeO.none _)
      | (with_reducible refine LeO.ite ?_ ?_)
      | (with_reducible refine LeO.bind ?_ (fun _ => ?_))
      | exact heraldlaw1_known.mono _
      | exact heraldlaw1_texts.mono _ _ _
      | exact LeO.none _
      | refine LeO.ite ?_ ?_
      | refine LeO.bind ?_ (fun _ => ?_)
set_option maxHeartbeats 8000000 in
set_option maxRecDepth 100000 in
theorem heraldlaw1_PlaceParses.calls (k : Nat) (a0 : ByteArray) (r : Bool) (w : World) (h : heraldlaw1_PlaceParses.f k a0 = some r) (HE : Env2 w) :
    Calls Tryd.prog 5 #[.string a0] w fun e w' => e = .returned (.bool r) ∧ Below w.heap.size w w' := by
  have HB := Aside0.mk (Below.refl w.heap.size w)
  have H : ((heraldref1_Parse.f a0).bind fun bt135 => ((place_Parse.f a0).bind fun bt139 => ((heraldlaw1_num.f bt139.2).bind fun t143 => (if t143 = bt135.2 then ((heraldlaw1_texts.f k bt139.1 bt135.1).bind fun t144 => (if t144 = true then ((heraldlaw1_known.f k).bind fun t145 => (some t145)) else (some false))) else (some false))))) = some r := h
  clear h
  replace H := Option.bind_eq_some_iff.mp H
  obtain ⟨⟨t135, t136⟩, A20, H⟩ := H
  replace H : ((place_Parse.f a0).bind fun bt139 => ((heraldlaw1_num.f bt139.2).bind fun t143 => (if t143 = t136 then ((heraldlaw1_texts.f k bt139.1 t135).bind fun t144 => (if t144 = true then ((heraldlaw1_known.f k).bind fun t145 => (some t145)) else (some false))) else (some false)))) = some r := H
  have A2 := Aside0.mk A20
  clear A20
  replace H := Option.bind_eq_some_iff.mp H
  obtain ⟨⟨t139, t140⟩, A30, H⟩ := H
  replace H : ((heraldlaw1_num.f t140).bind fun t143 => (if t143 = t136 then ((heraldlaw1_texts.f k t139 t135).bind fun t144 => (if t144 = true then ((heraldlaw1_known.f k).bind fun t145 => (some t145)) else (some false))) else (some false))) = some r := H
  have A3 := Aside0.mk A30
  clear A30
  replace H := Option.bind_eq_some_iff.mp H
  obtain ⟨t143, A40, H⟩ := H
  replace H : (if t143 = t136 then ((heraldlaw1_texts.f k t139 t135).bind fun t144 => (if t144 = true then ((heraldlaw1_known.f k).bind fun t145 => (some t145)) else (some false))) else (some false)) = some r := H
  have A4 := Aside0.mk A40
  clear A40
  by_cases c5 : t143 = t136
  · rw [if_pos c5] at H
    have c5b0 : (t143 == t136) = true := beq_iff_eq.mpr c5
    have c5b1 : (t143 != t136) = false := bne_eq_false_iff_eq.mpr c5
    clear c5
    replace H := Option.bind_eq_some_iff.mp H
    obtain ⟨t144, A60, H⟩ := H
    replace H : (if t144 = true then ((heraldlaw1_known.f k).bind fun t145 => (some t145)) else (some false)) = some r := H
    have A6 := Aside0.mk A60
    clear A60
    by_cases c7 : t144 = true
    · subst c7
      have H1 : ((heraldlaw1_known.f k).bind fun t145 => (some t145)) = some r := by rw [if_pos rfl] at H; exact H
      clear H
      have H := H1
      clear H1
      replace H := Option.bind_eq_some_iff.mp H
      obtain ⟨t145, A80, H⟩ := H
      replace H : (some t145) = some r := H
      have A8 := Aside0.mk A80
      clear A80
      obtain rfl := Option.some.inj H
      go_enter Tryd.func5, Tryd.ntmps5
      go_wp2_with (first | ((with_reducible refine gate_callee (f := 24) rfl ?_); refine goesL_ (some 9) rfl rfl Tryd.func24 (by kernel_rfl) rfl #[.string a0] rfl (by (try simp only [List.map_toArray, List.map_cons, List.map_nil]); first | done | rfl | (simp only [List.length_drop, List.length_take]; rfl)) ?_; (with_reducible refine (heraldref1_Parse.calls a0 t135 t136 _ A2.out).mono ?_); rintro e w9 ⟨v137, rfl, ho0, hb⟩; refine ⟨_, rfl, ?_⟩; have n0_ := Aside0.mk (Kd.R_lower ho0 (below_size (by repeat (first | (with_reducible first | exact HB.out | apply below_alloc | apply pw_below_drewN | apply below_drew1) | exact HB.out)))); have n1_ := Aside0.mk (below_step (by repeat (first | (with_reducible first | exact HB.out | apply below_alloc | apply pw_below_drewN | apply below_drew1) | exact HB.out)) hb); clear HB; have HO138 := n0_; have HB := n1_; clear n0_ n1_; (try clear hb); (try clear hb2); (try clear hk); (try clear hi); (try clear ho0)) | ((with_reducible refine gate_callee (f := 18) rfl ?_); refine goesL_ (some 14) rfl rfl Tryd.func18 (by kernel_rfl) rfl #[.string a0] rfl (by (try simp only [List.map_toArray, List.map_cons, List.map_nil]); first | done | rfl | (simp only [List.length_drop, List.length_take]; rfl)) ?_; (with_reducible refine (place_Parse.calls a0 t139 t140 _ A3.out ((HE.at_ (by repeat (first | (with_reducible first | exact HB.out | apply below_alloc | apply pw_below_drewN | apply below_drew1) | exact HB.out))).env)).mono ?_); rintro e w10 ⟨v141, rfl, ho0, hb⟩; refine ⟨_, rfl, ?_⟩; have n0_ := Aside0.mk (Kd.R_elder' (by (with_reducible repeat (first | apply Kd.R_alloc | apply Kd.R_drewN | apply Kd.R_drew)); exact HO138.out) (Kd.R_base ho0) hb); have n1_ := Aside0.mk (Kd.R_lower (Kd.R_new' ho0 (Kd.R_lt (by (with_reducible repeat (first | apply Kd.R_alloc | apply Kd.R_drewN | apply Kd.R_drew)); exact HO138.out))) (below_size (by repeat (first | (with_reducible first | exact HB.out | apply below_alloc | apply pw_below_drewN | apply below_drew1) | exact HB.out)))); have n2_ := Aside0.mk (below_step (by repeat (first | (with_reducible first | exact HB.out | apply below_alloc | apply pw_below_drewN | apply below_drew1) | exact HB.out)) hb); clear HO138; clear HB; have HO138 := n0_; have HO142 := n1_; have HB := n2_; clear n0_ n1_ n2_; (try clear hb); (try clear hb2); (try clear hk); (try clear hi); (try clear ho0)) | ((with_reducible refine gate_callee (f := 20) rfl ?_); refine goesL_ (some 18) rfl rfl Tryd.func20 (by kernel_rfl) rfl #[.int .i64 t140] rfl (by (try simp only [List.map_toArray, List.map_cons, List.map_nil]); first | done | rfl | (simp only [List.length_drop, List.length_take]; rfl)) ?_; (with_reducible refine (heraldlaw1_num.calls t140 t143 _ A4.out).mono ?_); rintro e w' ⟨rfl, ⟨nd, rfl⟩⟩; refine ⟨_, rfl, ?_⟩; obtain ⟨Ao11, co11, eo11⟩ := Kd.R_slice HO142.out; subst eo11; obtain ⟨Ao12, co12, eo12⟩ := Kd.R_slice HO138.out; subst eo12) | (go_at_call 25; (with_reducible refine (heraldlaw1_texts.calls k _ _ t139 _ _ t135 true _ ?side1 ?side2 ?side3 ?side4 A6.out).mono ?_); (case side1 => repeat (first | exact (Kd.R_reads' HO142.out).2.2 | (with_reducible refine Kd.C_alloc ?_ _) | (with_reducible refine Kd.C_drewN ?_ _) | (with_reducible refine Kd.C_drew ?_))); (case side2 => exact (Kd.R_reads' HO142.out).2.1); (case side3 => repeat (first | exact (Kd.R_reads' HO138.out).2.2 | (with_reducible refine Kd.C_alloc ?_ _) | (with_reducible refine Kd.C_drewN ?_ _) | (with_reducible refine Kd.C_drew ?_))); (case side4 => exact (Kd.R_reads' HO138.out).2.1); rintro e w' ⟨rfl, ⟨nd, rfl⟩⟩) | (go_at_call 26; (with_reducible refine (heraldlaw1_known.calls k  t145 _ A8.out (HE.at_ (by repeat (first | (with_reducible first | exact HB.out | apply below_alloc | apply pw_below_drewN | apply below_drew1) | exact HB.out)))).mono ?_); rintro e w13 ⟨rfl, hb⟩; have n0_ := Aside0.mk (Kd.R_below (by (with_reducible repeat (first | apply Kd.R_alloc | apply Kd.R_drewN | apply Kd.R_drew)); exact HO138.out) hb); have n1_ := Aside0.mk (Kd.R_below (by (with_reducible repeat (first | apply Kd.R_alloc | apply Kd.R_drewN | apply Kd.R_drew)); exact HO142.out) hb); have n2_ := Aside0.mk (below_step (by repeat (first | (with_reducible first | exact HB.out | apply below_alloc | apply pw_below_drewN | apply below_drew1) | exact HB.out)) hb); clear HO138; clear HO142; clear HB; have HO138 := n0_; have HO142 := n1_; have HB := n2_; clear n0_ n1_ n2_; (try clear hb); (try clear hb2); (try clear hk); (try clear hi)))
      go_ret
      exact ⟨by first | rfl | (simp [errW_none, errW_some] <;> rfl) | (simp [*, errW_none, errW_some] <;> rfl), by repeat (first | (with_reducible first | exact HB.out | apply below_alloc | apply pw_below_drewN | apply below_drew1) | exact HB.out)⟩
    · replace c7 := Bool.eq_false_iff.mpr c7
      subst c7
      have H1 : (some false) = some r := by rw [if_neg (show ¬ (false = true) by decide)] at H; exact H
      clear H
      have H := H1
      clear H1
      obtain rfl := Option.some.inj H
      go_enter Tryd.func5, Tryd.ntmps5
      go_wp2_with (first | ((with_reducible refine gate_callee (f := 24) rfl ?_); refine goesL_ (some 9) rfl rfl Tryd.func24 (by kernel_rfl) rfl #[.string a0] rfl (by (try simp only [List.map_toArray, List.map_cons, List.map_nil]); first | done | rfl | (simp only [List.length_drop, List.length_take]; rfl)) ?_; (with_reducible refine (heraldref1_Parse.calls a0 t135 t136 _ A2.out).mono ?_); rintro e w14 ⟨v137, rfl, ho0, hb⟩; refine ⟨_, rfl, ?_⟩; have n0_ := Aside0.mk (Kd.R_lower ho0 (below_size (by repeat (first | (with_reducible first | exact HB.out | apply below_alloc | apply pw_below_drewN | apply below_drew1) | exact HB.out)))); have n1_ := Aside0.mk (below_step (by repeat (first | (with_reducible first | exact HB.out | apply below_alloc | apply pw_below_drewN | apply below_drew1) | exact HB.out)) hb); clear HB; have HO138 := n0_; have HB := n1_; clear n0_ n1_; (try clear hb); (try clear hb2); (try clear hk); (try clear hi); (try clear ho0)) | ((with_reducible refine gate_callee (f := 18) rfl ?_); refine goesL_ (some 14) rfl rfl Tryd.func18 (by kernel_rfl) rfl #[.string a0] rfl (by (try simp only [List.map_toArray, List.map_cons, List.map_nil]); first | done | rfl | (simp only [List.length_drop, List.length_take]; rfl)) ?_; (with_reducible refine (place_Parse.calls a0 t139 t140 _ A3.out ((HE.at_ (by repeat (first | (with_reducible first | exact HB.out | apply below_alloc | apply pw_below_drewN | apply below_drew1) | exact HB.out))).env)).mono ?_); rintro e w15 ⟨v141, rfl, ho0, hb⟩; refine ⟨_, rfl, ?_⟩; have n0_ := Aside0.mk (Kd.R_elder' (by (with_reducible repeat (first | apply Kd.R_alloc | apply Kd.R_drewN | apply Kd.R_drew)); exact HO138.out) (Kd.R_base ho0) hb); have n1_ := Aside0.mk (Kd.R_lower (Kd.R_new' ho0 (Kd.R_lt (by (with_reducible repeat (first | apply Kd.R_alloc | apply Kd.R_drewN | apply Kd.R_drew)); exact HO138.out))) (below_size (by repeat (first | (with_reducible first | exact HB.out | apply below_alloc | apply pw_below_drewN | apply below_drew1) | exact HB.out)))); have n2_ := Aside0.mk (below_step (by repeat (first | (with_reducible first | exact HB.out | apply below_alloc | apply pw_below_drewN | apply below_drew1) | exact HB.out)) hb); clear HO138; clear HB; have HO138 := n0_; have HO142 := n1_; have HB := n2_; clear n0_ n1_ n2_; (try clear hb); (try clear hb2); (try clear hk); (try clear hi); (try clear ho0)) | ((with_reducible refine gate_callee (f := 20) rfl ?_); refine goesL_ (some 18) rfl rfl Tryd.func20 (by kernel_rfl) rfl #[.int .i64 t140] rfl (by (try simp only [List.map_toArray, List.map_cons, List.map_nil]); first | done | rfl | (simp only [List.length_drop, List.length_take]; rfl)) ?_; (with_reducible refine (heraldlaw1_num.calls t140 t143 _ A4.out).mono ?_); rintro e w' ⟨rfl, ⟨nd, rfl⟩⟩; refine ⟨_, rfl, ?_⟩; obtain ⟨Ao16, co16, eo16⟩ := Kd.R_slice HO142.out; subst eo16; obtain ⟨Ao17, co17, eo17⟩ := Kd.R_slice HO138.out; subst eo17) | (go_at_call 25; (with_reducible refine (heraldlaw1_texts.calls k _ _ t139 _ _ t135 false _ ?side1 ?side2 ?side3 ?side4 A6.out).mono ?_); (case side1 => repeat (first | exact (Kd.R_reads' HO142.out).2.2 | (with_reducible refine Kd.C_alloc ?_ _) | (with_reducible refine Kd.C_drewN ?_ _) | (with_reducible refine Kd.C_drew ?_))); (case side2 => exact (Kd.R_reads' HO142.out).2.1); (case side3 => repeat (first | exact (Kd.R_reads' HO138.out).2.2 | (with_reducible refine Kd.C_alloc ?_ _) | (with_reducible refine Kd.C_drewN ?_ _) | (with_reducible refine Kd.C_drew ?_))); (case side4 => exact (Kd.R_reads' HO138.out).2.1); rintro e w' ⟨rfl, ⟨nd, rfl⟩⟩))
      go_ret
      exact ⟨by first | rfl | (simp [errW_none, errW_some] <;> rfl) | (simp [*, errW_none, errW_some] <;> rfl), by repeat (first | (with_reducible first | exact HB.out | apply below_alloc | apply pw_below_drewN | apply below_drew1) | exact HB.out)⟩
  · rw [if_neg c5] at H
    have c5b0 : (t143 == t136) = false := beq_eq_false_iff_ne.mpr c5
    have c5b1 : (t143 != t136) = true := bne_iff_ne.mpr c5
    obtain rfl := Option.some.inj H
    go_enter Tryd.func5, Tryd.ntmps5
    go_wp2_with (first | ((with_reducible refine gate_callee (f := 24) rfl ?_); refine goesL_ (some 9) rfl rfl Tryd.func24 (by kernel_rfl) rfl #[.string a0] rfl (by (try simp only [List.map_toArray, List.map_cons, List.map_nil]); first | done | rfl | (simp only [List.length_drop, List.length_take]; rfl)) ?_; (with_reducible refine (heraldref1_Parse.calls a0 t135 t136 _ A2.out).mono ?_); rintro e w18 ⟨v137, rfl, ho0, hb⟩; refine ⟨_, rfl, ?_⟩; have n0_ := Aside0.mk (Kd.R_lower ho0 (below_size (by repeat (first | (with_reducible first | exact HB.out | apply below_alloc | apply pw_below_drewN | apply below_drew1) | exact HB.out)))); have n1_ := Aside0.mk (below_step (by repeat (first | (with_reducible first | exact HB.out | apply below_alloc | apply pw_below_drewN | apply below_drew1) | exact HB.out)) hb); clear HB; have HO138 := n0_; have HB := n1_; clear n0_ n1_; (try clear hb); (try clear hb2); (try clear hk); (try clear hi); (try clear ho0)) | ((with_reducible refine gate_callee (f := 18) rfl ?_); refine goesL_ (some 14) rfl rfl Tryd.func18 (by kernel_rfl) rfl #[.string a0] rfl (by (try simp only [List.map_toArray, List.map_cons, List.map_nil]); first | done | rfl | (simp only [List.length_drop, List.length_take]; rfl)) ?_; (with_reducible refine (place_Parse.calls a0 t139 t140 _ A3.out ((HE.at_ (by repeat (first | (with_reducible first | exact HB.out | apply below_alloc | apply pw_below_drewN | apply below_drew1) | exact HB.out))).env)).mono ?_); rintro e w19 ⟨v141, rfl, ho0, hb⟩; refine ⟨_, rfl, ?_⟩; have n0_ := Aside0.mk (Kd.R_elder' (by (with_reducible repeat (first | apply Kd.R_alloc | apply Kd.R_drewN | apply Kd.R_drew)); exact HO138.out) (Kd.R_base ho0) hb); have n1_ := Aside0.mk (Kd.R_lower (Kd.R_new' ho0 (Kd.R_lt (by (with_reducible repeat (first | apply Kd.R_alloc | apply Kd.R_drewN | apply Kd.R_drew)); exact HO138.out))) (below_size (by repeat (first | (with_reducible first | exact HB.out | apply below_alloc | apply pw_below_drewN | apply below_drew1) | exact HB.out)))); have n2_ := Aside0.mk (below_step (by repeat (first | (with_reducible first | exact HB.out | apply below_alloc | apply pw_below_drewN | apply below_drew1) | exact HB.out)) hb); clear HO138; clear HB; have HO138 := n0_; have HO142 := n1_; have HB := n2_; clear n0_ n1_ n2_; (try clear hb); (try clear hb2); (try clear hk); (try clear hi); (try clear ho0)) | ((with_reducible refine gate_callee (f := 20) rfl ?_); refine goesL_ (some 18) rfl rfl Tryd.func20 (by kernel_rfl) rfl #[.int .i64 t140] rfl (by (try simp only [List.map_toArray, List.map_cons, List.map_nil]); first | done | rfl | (simp only [List.length_drop, List.length_take]; rfl)) ?_; (with_reducible refine (heraldlaw1_num.calls t140 t143 _ A4.out).mono ?_); rintro e w' ⟨rfl, ⟨nd, rfl⟩⟩; refine ⟨_, rfl, ?_⟩))
    go_ret
    exact ⟨by first | rfl | (simp [errW_none, errW_some] <;> rfl) | (simp [*, errW_none, errW_some] <;> rfl), by repeat (first | (with_reducible first | exact HB.out | apply below_alloc | apply pw_below_drewN | apply below_drew1) | exact HB.out)⟩

/-- THE ONE PURE STATEMENT of heraldlaw1_PlaceParses: yours. -/
def heraldlaw1_PlaceParses.Pure : Prop := ∀ (a0 : ByteArray), a0.size ≤ 140737488351232 → ∃ k, heraldlaw1_PlaceParses.f k a0 = some true
theorem heraldlaw1_PlaceParses.walk (P : heraldlaw1_PlaceParses.Pure) (a0 : ByteArray) (w : World) (w0 : a0.size ≤ 140737488351232) (HE : Env2 w) :
    Calls Tryd.prog 5 #[.string a0] w fun e w' => e = .returned (.bool true) ∧ Below w.heap.size w w' := by
  obtain ⟨k, h⟩ := P a0 w0
  refine (heraldlaw1_PlaceParses.calls k a0 true w h HE).mono ?_
  rintro e w' ⟨rfl, hd⟩
  exact ⟨rfl, hd⟩

/-! ### heraldlaw1_PlaceCleans: function 6 -/
def heraldlaw1_PlaceCleans.f (k : Nat) (a0 : ByteArray) : Option (Bool) := (heraldref1_Clean.f a0).bind fun bt146 => ((place_Clean.f a0).bind fun bt148 => ((heraldlaw1_num.f bt148.2).bind fun t150 => (if t150 = bt146.2 then (if bt148.1.toList = bt146.1.toList then ((heraldlaw1_known.f k).bind fun t151 => (some t151)) else (some false)) else (some false))))
theorem heraldlaw1_PlaceCleans.mono : ∀ a0 k, LeO (heraldlaw1_PlaceCleans.f k a0) (heraldlaw1_PlaceCleans.f (k + 1) a0) := by
  intro a0 k
  unfold heraldlaw1_PlaceCleans.f
  repeat' first
      | (with_reducible exact heraldlaw1_known.mono _)
      | (with_reducible exact LeO.refl _)
      | (with_reducible exact LeO.none _)
      | (with_reducible refine LeO.ite ?_ ?_)
      | (with_reducible refine LeO.bind ?_ (fun _ => ?_))
      | exact heraldlaw1_known.mono _
      | exact LeO.none _
      | refine LeO.ite ?_ ?_
      | refine LeO.bind ?_ (fun _ => ?_)
set_option maxHeartbeats 8000000 in
set_option maxRecDepth 100000 in
theorem heraldlaw1_PlaceCleans.calls (k : Nat) (a0 : ByteArray) (r : Bool) (w : World) (h : heraldlaw1_PlaceCleans.f k a0 = some r) (HE : Env2 w) :
    Calls Tryd.prog 6 #[.string a0] w fun e w' => e = .returned (.bool r) ∧ Below w.heap.size w w' := by
  have HB := Aside0.mk (Below.refl w.heap.size w)
  have H : ((heraldref1_Clean.f a0).bind fun bt146 => ((place_Clean.f a0).bind fun bt148 => ((heraldlaw1_num.f bt148.2).bind fun t150 => (if t150 = bt146.2 then (if bt148.1.toList = bt146.1.toList then ((heraldlaw1_known.f k).bind fun t151 => (some t151)) else (some false)) else (some false))))) = some r := h
  clear h
  replace H := Option.bind_eq_some_iff.mp H
  obtain ⟨⟨t146, t147⟩, A20, H⟩ := H
  replace H : ((place_Clean.f a0).bind fun bt148 => ((heraldlaw1_num.f bt148.2).bind fun t150 => (if t150 = t147 then (if bt148.1.toList = t146.toList then ((heraldlaw1_known.f k).bind fun t151 => (some t151)) else (some false)) else (some false)))) = some r := H
  have A2 := Aside0.mk A20
  clear A20
  replace H := Option.bind_eq_some_iff.mp H
  obtain ⟨⟨t148, t149⟩, A30, H⟩ := H
  replace H : ((heraldlaw1_num.f t149).bind fun t150 => (if t150 = t147 then (if t148.toList = t146.toList then ((heraldlaw1_known.f k).bind fun t151 => (some t151)) else (some false)) else (some false))) = some r := H
  have A3 := Aside0.mk A30
  clear A30
  replace H := Option.bind_eq_some_iff.mp H
  obtain ⟨t150, A40, H⟩ := H
  replace H : (if t150 = t147 then (if t148.toList = t146.toList then ((heraldlaw1_known.f k).bind fun t151 => (some t151)) else (some false)) else (some false)) = some r := H
  have A4 := Aside0.mk A40
  clear A40
  by_cases c5 : t150 = t147
  · rw [if_pos c5] at H
    have c5b0 : (t150 == t147) = true := beq_iff_eq.mpr c5
    have c5b1 : (t150 != t147) = false := bne_eq_false_iff_eq.mpr c5
    clear c5
    by_cases c6 : t148.toList = t146.toList
    · rw [if_pos c6] at H
      have c6b0 : (t148.toList == t146.toList) = true := beq_iff_eq.mpr c6
      have c6b1 : (t148.toList != t146.toList) = false := bne_eq_false_iff_eq.mpr c6
      clear c6
      replace H := Option.bind_eq_some_iff.mp H
      obtain ⟨t151, A70, H⟩ := H
      replace H : (some t151) = some r := H
      have A7 := Aside0.mk A70
      clear A70
      obtain rfl := Option.some.inj H
      go_enter Tryd.func6, Tryd.ntmps6
      go_wp2_with (first | ((with_reducible refine gate_callee (f := 27) rfl ?_); refine goesL_ (some 9) rfl rfl Tryd.func27 (by kernel_rfl) rfl #[.string a0] rfl (by (try simp only [List.map_toArray, List.map_cons, List.map_nil]); first | done | rfl | (simp only [List.length_drop, List.length_take]; rfl)) ?_; (with_reducible refine (heraldref1_Clean.calls a0 t146 t147 _ A2.out).mono ?_); rintro e w8 ⟨rfl, hb⟩; refine ⟨_, rfl, ?_⟩; have n0_ := Aside0.mk (below_step (by repeat (first | (with_reducible first | exact HB.out | apply below_alloc | apply pw_below_drewN | apply below_drew1) | exact HB.out)) hb); clear HB; have HB := n0_; clear n0_; (try clear hb); (try clear hb2); (try clear hk); (try clear hi)) | ((with_reducible refine gate_callee (f := 28) rfl ?_); refine goesL_ (some 14) rfl rfl Tryd.func28 (by kernel_rfl) rfl #[.string a0] rfl (by (try simp only [List.map_toArray, List.map_cons, List.map_nil]); first | done | rfl | (simp only [List.length_drop, List.length_take]; rfl)) ?_; (with_reducible refine (place_Clean.calls a0 t148 t149 _ A3.out ((HE.at_ (by repeat (first | (with_reducible first | exact HB.out | apply below_alloc | apply pw_below_drewN | apply below_drew1) | exact HB.out))).env)).mono ?_); rintro e w9 ⟨rfl, hb⟩; refine ⟨_, rfl, ?_⟩; have n0_ := Aside0.mk (below_step (by repeat (first | (with_reducible first | exact HB.out | apply below_alloc | apply pw_below_drewN | apply below_drew1) | exact HB.out)) hb); clear HB; have HB := n0_; clear n0_; (try clear hb); (try clear hb2); (try clear hk); (try clear hi)) | ((with_reducible refine gate_callee (f := 20) rfl ?_); refine goesL_ (some 18) rfl rfl Tryd.func20 (by kernel_rfl) rfl #[.int .i64 t149] rfl (by (try simp only [List.map_toArray, List.map_cons, List.map_nil]); first | done | rfl | (simp only [List.length_drop, List.length_take]; rfl)) ?_; (with_reducible refine (heraldlaw1_num.calls t149 t150 _ A4.out).mono ?_); rintro e w' ⟨rfl, ⟨nd, rfl⟩⟩; refine ⟨_, rfl, ?_⟩) | (go_at_call 26; (with_reducible refine (heraldlaw1_known.calls k  t151 _ A7.out (HE.at_ (by repeat (first | (with_reducible first | exact HB.out | apply below_alloc | apply pw_below_drewN | apply below_drew1) | exact HB.out)))).mono ?_); rintro e w10 ⟨rfl, hb⟩; have n0_ := Aside0.mk (below_step (by repeat (first | (with_reducible first | exact HB.out | apply below_alloc | apply pw_below_drewN | apply below_drew1) | exact HB.out)) hb); clear HB; have HB := n0_; clear n0_; (try clear hb); (try clear hb2); (try clear hk); (try clear hi)))
      go_ret
      exact ⟨by first | rfl | (simp [errW_none, errW_some] <;> rfl) | (simp [*, errW_none, errW_some] <;> rfl), by repeat (first | (with_reducible first | exact HB.out | apply below_alloc | apply pw_below_drewN | apply below_drew1) | exact HB.out)⟩
    · rw [if_neg c6] at H
      have c6b0 : (t148.toList == t146.toList) = false := beq_eq_false_iff_ne.mpr c6
      have c6b1 : (t148.toList != t146.toList) = true := bne_iff_ne.mpr c6
      obtain rfl := Option.some.inj H
      go_enter Tryd.func6, Tryd.ntmps6
      go_wp2_with (first | ((with_reducible refine gate_callee (f := 27) rfl ?_); refine goesL_ (some 9) rfl rfl Tryd.func27 (by kernel_rfl) rfl #[.string a0] rfl (by (try simp only [List.map_toArray, List.map_cons, List.map_nil]); first | done | rfl | (simp only [List.length_drop, List.length_take]; rfl)) ?_; (with_reducible refine (heraldref1_Clean.calls a0 t146 t147 _ A2.out).mono ?_); rintro e w11 ⟨rfl, hb⟩; refine ⟨_, rfl, ?_⟩; have n0_ := Aside0.mk (below_step (by repeat (first | (with_reducible first | exact HB.out | apply below_alloc | apply pw_below_drewN | apply below_drew1) | exact HB.out)) hb); clear HB; have HB := n0_; clear n0_; (try clear hb); (try clear hb2); (try clear hk); (try clear hi)) | ((with_reducible refine gate_callee (f := 28) rfl ?_); refine goesL_ (some 14) rfl rfl Tryd.func28 (by kernel_rfl) rfl #[.string a0] rfl (by (try simp only [List.map_toArray, List.map_cons, List.map_nil]); first | done | rfl | (simp only [List.length_drop, List.length_take]; rfl)) ?_; (with_reducible refine (place_Clean.calls a0 t148 t149 _ A3.out ((HE.at_ (by repeat (first | (with_reducible first | exact HB.out | apply below_alloc | apply pw_below_drewN | apply below_drew1) | exact HB.out))).env)).mono ?_); rintro e w12 ⟨rfl, hb⟩; refine ⟨_, rfl, ?_⟩; have n0_ := Aside0.mk (below_step (by repeat (first | (with_reducible first | exact HB.out | apply below_alloc | apply pw_below_drewN | apply below_drew1) | exact HB.out)) hb); clear HB; have HB := n0_; clear n0_; (try clear hb); (try clear hb2); (try clear hk); (try clear hi)) | ((with_reducible refine gate_callee (f := 20) rfl ?_); refine goesL_ (some 18) rfl rfl Tryd.func20 (by kernel_rfl) rfl #[.int .i64 t149] rfl (by (try simp only [List.map_toArray, List.map_cons, List.map_nil]); first | done | rfl | (simp only [List.length_drop, List.length_take]; rfl)) ?_; (with_reducible refine (heraldlaw1_num.calls t149 t150 _ A4.out).mono ?_); rintro e w' ⟨rfl, ⟨nd, rfl⟩⟩; refine ⟨_, rfl, ?_⟩))
      go_ret
      exact ⟨by first | rfl | (simp [errW_none, errW_some] <;> rfl) | (simp [*, errW_none, errW_some] <;> rfl), by repeat (first | (with_reducible first | exact HB.out | apply below_alloc | apply pw_below_drewN | apply below_drew1) | exact HB.out)⟩
  · rw [if_neg c5] at H
    have c5b0 : (t150 == t147) = false := beq_eq_false_iff_ne.mpr c5
    have c5b1 : (t150 != t147) = true := bne_iff_ne.mpr c5
    obtain rfl := Option.some.inj H
    go_enter Tryd.func6, Tryd.ntmps6
    go_wp2_with (first | ((with_reducible refine gate_callee (f := 27) rfl ?_); refine goesL_ (some 9) rfl rfl Tryd.func27 (by kernel_rfl) rfl #[.string a0] rfl (by (try simp only [List.map_toArray, List.map_cons, List.map_nil]); first | done | rfl | (simp only [List.length_drop, List.length_take]; rfl)) ?_; (with_reducible refine (heraldref1_Clean.calls a0 t146 t147 _ A2.out).mono ?_); rintro e w13 ⟨rfl, hb⟩; refine ⟨_, rfl, ?_⟩; have n0_ := Aside0.mk (below_step (by repeat (first | (with_reducible first | exact HB.out | apply below_alloc | apply pw_below_drewN | apply below_drew1) | exact HB.out)) hb); clear HB; have HB := n0_; clear n0_; (try clear hb); (try clear hb2); (try clear hk); (try clear hi)) | ((with_reducible refine gate_callee (f := 28) rfl ?_); refine goesL_ (some 14) rfl rfl Tryd.func28 (by kernel_rfl) rfl #[.string a0] rfl (by (try simp only [List.map_toArray, List.map_cons, List.map_nil]); first | done | rfl | (simp only [List.length_drop, List.length_take]; rfl)) ?_; (with_reducible refine (place_Clean.calls a0 t148 t149 _ A3.out ((HE.at_ (by repeat (first | (with_reducible first | exact HB.out | apply below_alloc | apply pw_below_drewN | apply below_drew1) | exact HB.out))).env)).mono ?_); rintro e w14 ⟨rfl, hb⟩; refine ⟨_, rfl, ?_⟩; have n0_ := Aside0.mk (below_step (by repeat (first | (with_reducible first | exact HB.out | apply below_alloc | apply pw_below_drewN | apply below_drew1) | exact HB.out)) hb); clear HB; have HB := n0_; clear n0_; (try clear hb); (try clear hb2); (try clear hk); (try clear hi)) | ((with_reducible refine gate_callee (f := 20) rfl ?_); refine goesL_ (some 18) rfl rfl Tryd.func20 (by kernel_rfl) rfl #[.int .i64 t149] rfl (by (try simp only [List.map_toArray, List.map_cons, List.map_nil]); first | done | rfl | (simp only [List.length_drop, List.length_take]; rfl)) ?_; (with_reducible refine (heraldlaw1_num.calls t149 t150 _ A4.out).mono ?_); rintro e w' ⟨rfl, ⟨nd, rfl⟩⟩; refine ⟨_, rfl, ?_⟩))
    go_ret
    exact ⟨by first | rfl | (simp [errW_none, errW_some] <;> rfl) | (simp [*, errW_none, errW_some] <;> rfl), by repeat (first | (with_reducible first | exact HB.out | apply below_alloc | apply pw_below_drewN | apply below_drew1) | exact HB.out)⟩

/-- THE ONE PURE STATEMENT of heraldlaw1_PlaceCleans: yours. -/
def heraldlaw1_PlaceCleans.Pure : Prop := ∀ (a0 : ByteArray), a0.size ≤ 140737488351232 → ∃ k, heraldlaw1_PlaceCleans.f k a0 = some true
theorem heraldlaw1_PlaceCleans.walk (P : heraldlaw1_PlaceCleans.Pure) (a0 : ByteArray) (w : World) (w0 : a0.size ≤ 140737488351232) (HE : Env2 w) :
    Calls Tryd.prog 6 #[.string a0] w fun e w' => e = .returned (.bool true) ∧ Below w.heap.size w w' := by
  obtain ⟨k, h⟩ := P a0 w0
  refine (heraldlaw1_PlaceCleans.calls k a0 true w h HE).mono ?_
  rintro e w' ⟨rfl, hd⟩
  exact ⟨rfl, hd⟩

/-! ### heraldlaw1_PlaceCounts: function 7 -/
def heraldlaw1_PlaceCounts.f (k : Nat) (a0 : ByteArray) (a1 : Int) : Option (Bool) := (heraldref1_Counted.f a0 a1).bind fun bt152 => ((place_Counted.f a0 a1).bind fun bt154 => ((heraldlaw1_num.f bt154.2).bind fun t156 => (if t156 = bt152.2 then (if bt154.1.toList = bt152.1.toList then ((heraldlaw1_known.f k).bind fun t157 => (some t157)) else (some false)) else (some false))))
theorem heraldlaw1_PlaceCounts.mono : ∀ a0 a1 k, LeO (heraldlaw1_PlaceCounts.f k a0 a1) (heraldlaw1_PlaceCounts.f (k + 1) a0 a1) := by
  intro a0 a1 k
  unfold heraldlaw1_PlaceCounts.f
  repeat' first
      | (with_reducible exact heraldlaw1_known.mono _)
      | (with_reducible exact LeO.refl _)
      | (with_reducible exact LeO.none _)
      | (with_reducible refine LeO.ite ?_ ?_)
      | (with_reducible refine LeO.bind ?_ (fun _ => ?_))
      | exact heraldlaw1_known.mono _
      | exact LeO.none _
      | refine LeO.ite ?_ ?_
      | refine LeO.bind ?_ (fun _ => ?_)
set_option maxHeartbeats 8000000 in
set_option maxRecDepth 100000 in
theorem heraldlaw1_PlaceCounts.calls (k : Nat) (a0 : ByteArray) (a1 : Int) (r : Bool) (w : World) (h : heraldlaw1_PlaceCounts.f k a0 a1 = some r) (HE : Env2 w) :
    Calls Tryd.prog 7 #[.string a0, .int .i64 a1] w fun e w' => e = .returned (.bool r) ∧ Below w.heap.size w w' := by
  have HB := Aside0.mk (Below.refl w.heap.size w)
  have H : ((heraldref1_Counted.f a0 a1).bind fun bt152 => ((place_Counted.f a0 a1).bind fun bt154 => ((heraldlaw1_num.f bt154.2).bind fun t156 => (if t156 = bt152.2 then (if bt154.1.toList = bt152.1.toList then ((heraldlaw1_known.f k).bind fun t157 => (some t157)) else (some false)) else (some false))))) = some r := h
  clear h
  replace H := Option.bind_eq_some_iff.mp H
  obtain ⟨⟨t152, t153⟩, A30, H⟩ := H
  replace H : ((place_Counted.f a0 a1).bind fun bt154 => ((heraldlaw1_num.f bt154.2).bind fun t156 => (if t156 = t153 then (if bt154.1.toList = t152.toList then ((heraldlaw1_known.f k).bind fun t157 => (some t157)) else (some false)) else (some false)))) = some r := H
  have A3 := Aside0.mk A30
  clear A30
  replace H := Option.bind_eq_some_iff.mp H
  obtain ⟨⟨t154, t155⟩, A40, H⟩ := H
  replace H : ((heraldlaw1_num.f t155).bind fun t156 => (if t156 = t153 then (if t154.toList = t152.toList then ((heraldlaw1_known.f k).bind fun t157 => (some t157)) else (some false)) else (some false))) = some r := H
  have A4 := Aside0.mk A40
  clear A40
  replace H := Option.bind_eq_some_iff.mp H
  obtain ⟨t156, A50, H⟩ := H
  replace H : (if t156 = t153 then (if t154.toList = t152.toList then ((heraldlaw1_known.f k).bind fun t157 => (some t157)) else (some false)) else (some false)) = some r := H
  have A5 := Aside0.mk A50
  clear A50
  by_cases c6 : t156 = t153
  · rw [if_pos c6] at H
    have c6b0 : (t156 == t153) = true := beq_iff_eq.mpr c6
    have c6b1 : (t156 != t153) = false := bne_eq_false_iff_eq.mpr c6
    clear c6
    by_cases c7 : t154.toList = t152.toList
    · rw [if_pos c7] at H
      have c7b0 : (t154.toList == t152.toList) = true := beq_iff_eq.mpr c7
      have c7b1 : (t154.toList != t152.toList) = false := bne_eq_false_iff_eq.mpr c7
      clear c7
      replace H := Option.bind_eq_some_iff.mp H
      obtain ⟨t157, A80, H⟩ := H
      replace H : (some t157) = some r := H
      have A8 := Aside0.mk A80
      clear A80
      obtain rfl := Option.some.inj H
      go_enter Tryd.func7, Tryd.ntmps7
      go_wp2_with (first | ((with_reducible refine gate_callee (f := 29) rfl ?_); refine goesL_ (some 12) rfl rfl Tryd.func29 (by kernel_rfl) rfl #[.string a0, .int .i64 a1] rfl (by (try simp only [List.map_toArray, List.map_cons, List.map_nil]); first | done | rfl | (simp only [List.length_drop, List.length_take]; rfl)) ?_; (with_reducible refine (heraldref1_Counted.calls a0 a1 t152 t153 _ A3.out).mono ?_); rintro e w9 ⟨rfl, hb⟩; refine ⟨_, rfl, ?_⟩; have n0_ := Aside0.mk (below_step (by repeat (first | (with_reducible first | exact HB.out | apply below_alloc | apply pw_below_drewN | apply below_drew1) | exact HB.out)) hb); clear HB; have HB := n0_; clear n0_; (try clear hb); (try clear hb2); (try clear hk); (try clear hi)) | ((with_reducible refine gate_callee (f := 30) rfl ?_); refine goesL_ (some 18) rfl rfl Tryd.func30 (by kernel_rfl) rfl #[.string a0, .int .i64 a1] rfl (by (try simp only [List.map_toArray, List.map_cons, List.map_nil]); first | done | rfl | (simp only [List.length_drop, List.length_take]; rfl)) ?_; (with_reducible refine (place_Counted.calls a0 a1 t154 t155 _ A4.out (HE.at_ (by repeat (first | (with_reducible first | exact HB.out | apply below_alloc | apply pw_below_drewN | apply below_drew1) | exact HB.out)))).mono ?_); rintro e w10 ⟨rfl, hb⟩; refine ⟨_, rfl, ?_⟩; have n0_ := Aside0.mk (below_step (by repeat (first | (with_reducible first | exact HB.out | apply below_alloc | apply pw_below_drewN | apply below_drew1) | exact HB.out)) hb); clear HB; have HB := n0_; clear n0_; (try clear hb); (try clear hb2); (try clear hk); (try clear hi)) | ((with_reducible refine gate_callee (f := 20) rfl ?_); refine goesL_ (some 22) rfl rfl Tryd.func20 (by kernel_rfl) rfl #[.int .i64 t155] rfl (by (try simp only [List.map_toArray, List.map_cons, List.map_nil]); first | done | rfl | (simp only [List.length_drop, List.length_take]; rfl)) ?_; (with_reducible refine (heraldlaw1_num.calls t155 t156 _ A5.out).mono ?_); rintro e w' ⟨rfl, ⟨nd, rfl⟩⟩; refine ⟨_, rfl, ?_⟩) | (go_at_call 26; (with_reducible refine (heraldlaw1_known.calls k  t157 _ A8.out (HE.at_ (by repeat (first | (with_reducible first | exact HB.out | apply below_alloc | apply pw_below_drewN | apply below_drew1) | exact HB.out)))).mono ?_); rintro e w11 ⟨rfl, hb⟩; have n0_ := Aside0.mk (below_step (by repeat (first | (with_reducible first | exact HB.out | apply below_alloc | apply pw_below_drewN | apply below_drew1) | exact HB.out)) hb); clear HB; have HB := n0_; clear n0_; (try clear hb); (try clear hb2); (try clear hk); (try clear hi)))
      go_ret
      exact ⟨by first | rfl | (simp [errW_none, errW_some] <;> rfl) | (simp [*, errW_none, errW_some] <;> rfl), by repeat (first | (with_reducible first | exact HB.out | apply below_alloc | apply pw_below_drewN | apply below_drew1) | exact HB.out)⟩
    · rw [if_neg c7] at H
      have c7b0 : (t154.toList == t152.toList) = false := beq_eq_false_iff_ne.mpr c7
      have c7b1 : (t154.toList != t152.toList) = true := bne_iff_ne.mpr c7
      obtain rfl := Option.some.inj H
      go_enter Tryd.func7, Tryd.ntmps7
      go_wp2_with (first | ((with_reducible refine gate_callee (f := 29) rfl ?_); refine goesL_ (some 12) rfl rfl Tryd.func29 (by kernel_rfl) rfl #[.string a0, .int .i64 a1] rfl (by (try simp only [List.map_toArray, List.map_cons, List.map_nil]); first | done | rfl | (simp only [List.length_drop, List.length_take]; rfl)) ?_; (with_reducible refine (heraldref1_Counted.calls a0 a1 t152 t153 _ A3.out).mono ?_); rintro e w12 ⟨rfl, hb⟩; refine ⟨_, rfl, ?_⟩; have n0_ := Aside0.mk (below_step (by repeat (first | (with_reducible first | exact HB.out | apply below_alloc | apply pw_below_drewN | apply below_drew1) | exact HB.out)) hb); clear HB; have HB := n0_; clear n0_; (try clear hb); (try clear hb2); (try clear hk); (try clear hi)) | ((with_reducible refine gate_callee (f := 30) rfl ?_); refine goesL_ (some 18) rfl rfl Tryd.func30 (by kernel_rfl) rfl #[.string a0, .int .i64 a1] rfl (by (try simp only [List.map_toArray, List.map_cons, List.map_nil]); first | done | rfl | (simp only [List.length_drop, List.length_take]; rfl)) ?_; (with_reducible refine (place_Counted.calls a0 a1 t154 t155 _ A4.out (HE.at_ (by repeat (first | (with_reducible first | exact HB.out | apply below_alloc | apply pw_below_drewN | apply below_drew1) | exact HB.out)))).mono ?_); rintro e w13 ⟨rfl, hb⟩; refine ⟨_, rfl, ?_⟩; have n0_ := Aside0.mk (below_step (by repeat (first | (with_reducible first | exact HB.out | apply below_alloc | apply pw_below_drewN | apply below_drew1) | exact HB.out)) hb); clear HB; have HB := n0_; clear n0_; (try clear hb); (try clear hb2); (try clear hk); (try clear hi)) | ((with_reducible refine gate_callee (f := 20) rfl ?_); refine goesL_ (some 22) rfl rfl Tryd.func20 (by kernel_rfl) rfl #[.int .i64 t155] rfl (by (try simp only [List.map_toArray, List.map_cons, List.map_nil]); first | done | rfl | (simp only [List.length_drop, List.length_take]; rfl)) ?_; (with_reducible refine (heraldlaw1_num.calls t155 t156 _ A5.out).mono ?_); rintro e w' ⟨rfl, ⟨nd, rfl⟩⟩; refine ⟨_, rfl, ?_⟩))
      go_ret
      exact ⟨by first | rfl | (simp [errW_none, errW_some] <;> rfl) | (simp [*, errW_none, errW_some] <;> rfl), by repeat (first | (with_reducible first | exact HB.out | apply below_alloc | apply pw_below_drewN | apply below_drew1) | exact HB.out)⟩
  · rw [if_neg c6] at H
    have c6b0 : (t156 == t153) = false := beq_eq_false_iff_ne.mpr c6
    have c6b1 : (t156 != t153) = true := bne_iff_ne.mpr c6
    obtain rfl := Option.some.inj H
    go_enter Tryd.func7, Tryd.ntmps7
    go_wp2_with (first | ((with_reducible refine gate_callee (f := 29) rfl ?_); refine goesL_ (some 12) rfl rfl Tryd.func29 (by kernel_rfl) rfl #[.string a0, .int .i64 a1] rfl (by (try simp only [List.map_toArray, List.map_cons, List.map_nil]); first | done | rfl | (simp only [List.length_drop, List.length_take]; rfl)) ?_; (with_reducible refine (heraldref1_Counted.calls a0 a1 t152 t153 _ A3.out).mono ?_); rintro e w14 ⟨rfl, hb⟩; refine ⟨_, rfl, ?_⟩; have n0_ := Aside0.mk (below_step (by repeat (first | (with_reducible first | exact HB.out | apply below_alloc | apply pw_below_drewN | apply below_drew1) | exact HB.out)) hb); clear HB; have HB := n0_; clear n0_; (try clear hb); (try clear hb2); (try clear hk); (try clear hi)) | ((with_reducible refine gate_callee (f := 30) rfl ?_); refine goesL_ (some 18) rfl rfl Tryd.func30 (by kernel_rfl) rfl #[.string a0, .int .i64 a1] rfl (by (try simp only [List.map_toArray, List.map_cons, List.map_nil]); first | done | rfl | (simp only [List.length_drop, List.length_take]; rfl)) ?_; (with_reducible refine (place_Counted.calls a0 a1 t154 t155 _ A4.out (HE.at_ (by repeat (first | (with_reducible first | exact HB.out | apply below_alloc | apply pw_below_drewN | apply below_drew1) | exact HB.out)))).mono ?_); rintro e w15 ⟨rfl, hb⟩; refine ⟨_, rfl, ?_⟩; have n0_ := Aside0.mk (below_step (by repeat (first | (with_reducible first | exact HB.out | apply below_alloc | apply pw_below_drewN | apply below_drew1) | exact HB.out)) hb); clear HB; have HB := n0_; clear n0_; (try clear hb); (try clear hb2); (try clear hk); (try clear hi)) | ((with_reducible refine gate_callee (f := 20) rfl ?_); refine goesL_ (some 22) rfl rfl Tryd.func20 (by kernel_rfl) rfl #[.int .i64 t155] rfl (by (try simp only [List.map_toArray, List.map_cons, List.map_nil]); first | done | rfl | (simp only [List.length_drop, List.length_take]; rfl)) ?_; (with_reducible refine (heraldlaw1_num.calls t155 t156 _ A5.out).mono ?_); rintro e w' ⟨rfl, ⟨nd, rfl⟩⟩; refine ⟨_, rfl, ?_⟩))
    go_ret
    exact ⟨by first | rfl | (simp [errW_none, errW_some] <;> rfl) | (simp [*, errW_none, errW_some] <;> rfl), by repeat (first | (with_reducible first | exact HB.out | apply below_alloc | apply pw_below_drewN | apply below_drew1) | exact HB.out)⟩

/-- THE ONE PURE STATEMENT of heraldlaw1_PlaceCounts: yours. -/
def heraldlaw1_PlaceCounts.Pure : Prop := ∀ (a0 : ByteArray) (a1 : Int), a0.size ≤ 140737488351232 → (Lit.int .i64 a1).wf = true → ∃ k, heraldlaw1_PlaceCounts.f k a0 a1 = some true
theorem heraldlaw1_PlaceCounts.walk (P : heraldlaw1_PlaceCounts.Pure) (a0 : ByteArray) (a1 : Int) (w : World) (w0 : a0.size ≤ 140737488351232) (w1 : (Lit.int .i64 a1).wf = true) (HE : Env2 w) :
    Calls Tryd.prog 7 #[.string a0, .int .i64 a1] w fun e w' => e = .returned (.bool true) ∧ Below w.heap.size w w' := by
  obtain ⟨k, h⟩ := P a0 a1 w0 w1
  refine (heraldlaw1_PlaceCounts.calls k a0 a1 true w h HE).mono ?_
  rintro e w' ⟨rfl, hd⟩
  exact ⟨rfl, hd⟩

end Go.Proofs.YtfdinkofcjcahaaDoor.PPl
