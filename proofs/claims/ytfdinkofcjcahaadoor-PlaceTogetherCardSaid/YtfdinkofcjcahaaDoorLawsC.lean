/- The law PlaceTogether in plain Lean: what lies at or below a place stands together in the order of texts. -/
import Derived.Test.YtfdinkofcjcahaaDoorLawsA
import Derived.Test.YtfdinkofcjcahaaDoorPPlx4
namespace Go.Proofs.YtfdinkofcjcahaaDoor.Law
open Go.RowKit Go.Proofs.YtfdinkofcjcahaaDoor.Ext Go.Proofs.YtfdinkofcjcahaaDoor.PPl Go.Proofs.YtfdinkofcjcahaaDoor.Pl Go.Proofs.YtfdinkofcjcahaaDoor.Ord Go.Proofs.YtfdinkofcjcahaaDoorW.PrintWords Go.Proofs.YtfdinkofcjcahaaDoor.Name

theorem ord_prefix : ∀ p r : List UInt8, ordL p (p ++ r) ≤ 0
  | [], [] => by simp [ordL]
  | [], _ :: _ => by simp [ordL]
  | c :: p, r => by
    rw [List.cons_append, ordL, if_neg (by omega), if_neg (by omega)]
    exact ord_prefix p r
theorem ord_between : ∀ p b x : List UInt8, ordL p b ≤ 0 → ordL b (p ++ x) ≤ 0 → ∃ y, b = p ++ y ∧ ordL y x ≤ 0
  | [], b, x, _, h => ⟨b, rfl, h⟩
  | c :: p, [], x, h, _ => by simp [ordL] at h
  | c :: p, d :: b, x, h1, h2 => by
    rw [ordL] at h1
    rw [List.cons_append, ordL] at h2
    by_cases e1 : wt c < wt d
    · rw [if_neg (by omega), if_pos (by omega)] at h2; omega
    · by_cases e2 : wt c > wt d
      · rw [if_neg e1, if_pos e2] at h1; omega
      · rw [if_neg e1, if_neg e2] at h1
        rw [if_neg (by omega), if_neg (by omega)] at h2
        obtain ⟨y, rfl, hy⟩ := ord_between p b x h1 h2
        have : c = d := wt_inj (by omega)
        subst this
        exact ⟨y, rfl, hy⟩
/-- Empty, or a slash first. -/
def Sl (x : List UInt8) : Prop := x = [] ∨ ∃ r, x = 47 :: r
theorem ord_slash {y x : List UInt8} (h : ordL y x ≤ 0) (hx : Sl x) : Sl y := by
  cases y with
  | nil => exact .inl rfl
  | cons d y =>
    rcases hx with rfl | ⟨r, rfl⟩
    · simp [ordL] at h
    · rw [ordL] at h
      have h1 := wt_range d
      have h2 : wt 47 = -1 := by decide
      by_cases e : wt d > wt 47
      · rw [if_neg (by omega), if_pos e] at h; omega
      · have : d = 47 := wt_inj (by omega)
        subst this
        exact .inr ⟨y, rfl⟩
theorem glue_sl (l : List (List UInt8)) : Sl (glue l) := by
  cases l with
  | nil => exact .inl rfl
  | cons p r => exact .inr ⟨_, by simp [glue]; rfl⟩
theorem glue_append (l m : List (List UInt8)) : glue (l ++ m) = glue l ++ glue m := by
  induction l with
  | nil => rfl
  | cons p r ih => simp only [List.cons_append, glue, ih]; simp
theorem head_eq : ∀ (p q R R' : List UInt8), 47 ∉ p → 47 ∉ q → Sl R → Sl R' → q ++ R = p ++ R' → q = p ∧ R = R'
  | [], [], _, _, _, _, _, _, h => ⟨rfl, h⟩
  | [], d :: q, R, R', _, hq, _, hR', h => by
    rcases hR' with rfl | ⟨r, rfl⟩
    · simp at h
    · simp only [List.cons_append, List.nil_append, List.cons.injEq] at h
      exact absurd h.1 (fun e => hq (by simp [e]))
  | c :: p, [], R, R', hp, _, hR, _, h => by
    rcases hR with rfl | ⟨r, rfl⟩
    · simp at h
    · simp only [List.cons_append, List.nil_append, List.cons.injEq] at h
      exact absurd h.1 (fun e => hp (by simp [e]))
  | c :: p, d :: q, R, R', hp, hq, hR, hR', h => by
    simp only [List.cons_append, List.cons.injEq] at h
    obtain ⟨rfl, e⟩ := head_eq p q R R' (fun hm => hp (by simp [hm])) (fun hm => hq (by simp [hm])) hR hR' h.2
    exact ⟨by rw [h.1], e⟩
theorem Sl.append {a b : List UInt8} (ha : Sl a) (hb : Sl b) : Sl (a ++ b) := by
  rcases ha with rfl | ⟨r, rfl⟩
  · exact hb
  · exact .inr ⟨r ++ b, rfl⟩
theorem glue_prefix : ∀ (la lb : List (List UInt8)) (y : List UInt8), (∀ p ∈ la, 47 ∉ p) → (∀ p ∈ lb, 47 ∉ p) → Sl y → glue lb = glue la ++ y → la <+: lb
  | [], _, _, _, _, _, _ => List.nil_prefix
  | p :: r, [], y, _, _, _, h => by simp [glue] at h
  | p :: r, q :: s, y, ha, hb, hy, h => by
    simp only [glue, List.cons_append, List.append_assoc, List.cons.injEq, true_and] at h
    obtain ⟨rfl, e⟩ := head_eq p q (glue s) (glue r ++ y) (ha p (by simp)) (hb q (by simp)) (glue_sl s) ((glue_sl r).append hy) h
    exact List.cons_prefix_cons.2 ⟨rfl, glue_prefix r s y (fun x hx => ha x (by simp [hx])) (fun x hx => hb x (by simp [hx])) hy e⟩
theorem plc_pos {l : List (List UInt8)} (h : l ≠ []) : plc l = glue l := if_neg h
theorem plc_sl (l : List (List UInt8)) : ∃ r, plc l = 47 :: r := by
  cases l with
  | nil => exact ⟨[], rfl⟩
  | cons p r => exact ⟨_, by rw [plc_pos (by simp)]; simp [glue]; rfl⟩
/-- A place stands ahead of all that is below it. -/
theorem ord_below {la lc : List (List UInt8)} (h : la <+: lc) : ordL (plc la) (plc lc) ≤ 0 := by
  by_cases e : la = []
  · subst e
    obtain ⟨r, hr⟩ := plc_sl lc
    rw [hr]
    exact ord_prefix [47] r
  · obtain ⟨m, rfl⟩ := h
    rw [plc_pos e, plc_pos (by simp [e]), glue_append]
    exact ord_prefix _ _
/-- Whatever place stands between a place and one below it is below it. -/
theorem ord_together {la lb lc : List (List UInt8)} (hGa : Pl.Good la) (hGb : Pl.Good lb) (h : la <+: lc) (h1 : ordL (plc la) (plc lb) ≤ 0) (h2 : ordL (plc lb) (plc lc) ≤ 0) : la <+: lb := by
  by_cases e : la = []
  · subst e; exact List.nil_prefix
  · obtain ⟨m, rfl⟩ := h
    rw [plc_pos e] at h1
    rw [plc_pos (l := la ++ m) (by simp [e]), glue_append] at h2
    obtain ⟨y, hy, ho⟩ := ord_between _ _ _ h1 h2
    have hS := ord_slash ho (glue_sl m)
    have hne : lb ≠ [] := by
      intro e2
      subst e2
      have h3 := congrArg List.length hy
      cases la with
      | nil => exact e rfl
      | cons p r =>
        have := (okN_len (hGa.ok (show p ∈ p :: r by simp))).1
        rw [show plc ([] : List (List UInt8)) = [47] from rfl] at h3
        simp only [glue, List.length_cons, List.length_append, List.length_nil] at h3
        omega
    rw [plc_pos hne] at hy
    exact glue_prefix la lb y (fun p hp => okN_slash (hGa.ok hp)) (fun p hp => okN_slash (hGb.ok hp)) hS hy
theorem covers_three {w c : List UInt8} (hw : (parseL w).2 = 0) (hc : (parseL c).2 = 0) : coversL 3 w 1 c = decide ((parseL w).1 <+: (parseL c).1) := by
  unfold coversL
  by_cases h : (parseL w).1 <+: (parseL c).1
  · rw [if_pos ⟨hw, hc, by omega, by omega, h⟩, decide_eq_true h]; rfl
  · rw [if_neg (fun x => h x.2.2.2.2), decide_eq_false h]
theorem PlaceTogether : heraldlaw1_PlaceTogether.Pure := by
  intro a b c ha hb hc
  refine ⟨12, ?_⟩
  have bad : heraldlaw1_PlaceTogether.j0 12 a b c true = some true := by
    simp only [heraldlaw1_PlaceTogether.j0]
    rw [if_pos trivial, known_tells 11 (by omega), in_tells, in_tells]
    kernel_rfl
  unfold heraldlaw1_PlaceTogether.f
  rw [in_tells, in_tells, in_tells]
  simp only [Option.bind_some]
  by_cases pa : (parseL (tx a)).2 = 0
  · by_cases pb : (parseL (tx b)).2 = 0
    · by_cases pc : (parseL (tx c)).2 = 0
      · rw [if_pos (decide_eq_true pa), if_pos (decide_eq_true pb), decide_eq_true pc]
        simp only [Bool.not_true, heraldlaw1_PlaceTogether.j0, place_Covers.f]
        rw [if_neg (by simp), covers_three pa pc]
        simp only [Option.bind_some]
        have ga := parse_good (tx a)
        have gb := parse_good (tx b)
        have eab : ordL (tx a) (tx b) = ordL (plc (parseL (tx a)).1) (plc (parseL (tx b)).1) := by rw [← parse_back pa, ← parse_back pb]
        have ebc : ordL (tx b) (tx c) = ordL (plc (parseL (tx b)).1) (plc (parseL (tx c)).1) := by rw [← parse_back pb, ← parse_back pc]
        have eac : ordL (tx a) (tx c) = ordL (plc (parseL (tx a)).1) (plc (parseL (tx c)).1) := by rw [← parse_back pa, ← parse_back pc]
        by_cases hu : (parseL (tx a)).1 <+: (parseL (tx c)).1
        · have h1 := ord_below hu
          rw [← eac] at h1
          rw [if_pos (decide_eq_true hu), order_tells ha hc]
          simp only [Option.bind_some]
          rw [decide_eq_false (by omega : ¬ ordL (tx a) (tx c) > 0), decide_eq_true hu]
          simp only [heraldlaw1_PlaceTogether.j1]
          rw [if_neg (by simp), if_pos trivial, order_tells ha hb]
          simp only [Option.bind_some]
          rw [known_tells 10 (by omega)]
          by_cases h2 : ordL (tx a) (tx b) ≤ 0
          · rw [if_pos h2, order_tells hb hc]
            simp only [Option.bind_some]
            by_cases h3 : ordL (tx b) (tx c) ≤ 0
            · have h4 := ord_together ga gb hu (eab ▸ h2) (ebc ▸ h3)
              simp only [place_Covers.f]
              rw [if_pos h3, covers_three pa pb, decide_eq_true h4]
              rfl
            · rw [if_neg h3]
          · rw [if_neg h2]
            rfl
        · rw [if_neg (by simp [hu]), decide_eq_false hu]
          simp only [heraldlaw1_PlaceTogether.j1]
          rw [if_neg (by simp), if_neg (by simp), known_tells 10 (by omega)]
          rfl
      · rw [if_pos (decide_eq_true pa), if_pos (decide_eq_true pb), decide_eq_false pc]
        exact bad
    · rw [if_pos (decide_eq_true pa), if_neg (by simp [pb])]
      exact bad
  · rw [if_neg (by simp [pa])]
    exact bad
end Go.Proofs.YtfdinkofcjcahaaDoor.Law
