/- The law PlaceKinds in plain Lean: what a change is one for, by Parent alone. -/
import Derived.Test.YtfdinkofcjcahaaDoorLawsA
import Derived.Test.YtfdinkofcjcahaaDoorPPlx3
namespace Go.Proofs.YtfdinkofcjcahaaDoor.Law
open Go.RowKit Go.Proofs.YtfdinkofcjcahaaDoor.Ext Go.Proofs.YtfdinkofcjcahaaDoor.PPl Go.Proofs.YtfdinkofcjcahaaDoor.Pl Go.Proofs.YtfdinkofcjcahaaDoor.Ord Go.Proofs.YtfdinkofcjcahaaDoorW.PrintWords Go.Proofs.YtfdinkofcjcahaaDoor.Name

theorem covers_none {kind ch : Int} {w c : List UInt8} (h : ¬ ((parseL w).2 = 0 ∧ (parseL c).2 = 0 ∧ 1 ≤ ch ∧ ch ≤ 3)) : coversL kind w ch c = false := by
  unfold coversL
  rw [if_neg (fun x => h ⟨x.1, x.2.1, x.2.2.1, x.2.2.2.1⟩)]
theorem covers_some {kind ch : Int} {w c : List UInt8} (hw : (parseL w).2 = 0) (hc : (parseL c).2 = 0) (h1 : 1 ≤ ch) (h3 : ch ≤ 3) :
    coversL kind w ch c = if (parseL w).1 <+: (parseL c).1 then (if kind = 1 then decide ((parseL c).1.length = (parseL w).1.length) else if kind = 2 then decide (ch ≠ 2 ∧ (parseL c).1.length ≤ (parseL w).1.length + 1) else decide (kind = 3)) else false := by
  unfold coversL
  by_cases h : (parseL w).1 <+: (parseL c).1
  · rw [if_pos ⟨hw, hc, h1, h3, h⟩, if_pos h]
  · rw [if_neg (fun x => h x.2.2.2.2), if_neg h]
theorem good_take {l : List (List UInt8)} (h : Pl.Good l) (m : Nat) : Pl.Good (l.take m) :=
  ⟨by rw [List.length_take]; have := h.1; omega, by rw [List.all_eq_true]; exact fun x hx => h.ok (List.mem_of_mem_take hx)⟩
theorem dropLast_take' {l : List (List UInt8)} {m : Nat} (h : m + 1 ≤ l.length) : (l.take (m + 1)).dropLast = l.take m := by
  rw [List.dropLast_eq_take, List.take_take, List.length_take, show min (min (m + 1) l.length - 1) (m + 1) = m by omega]
theorem same_place {l m : List (List UInt8)} (hl : Pl.Good l) (hm : Pl.Good m) {s t : ByteArray} (hs : tx s = plc l) (ht : tx t = plc m) : (s.toList == t.toList) = decide (l = m) := by
  rw [toList_tx, toList_tx, hs, ht]
  by_cases e : l = m
  · subst e; rw [decide_eq_true rfl]; exact beq_self_eq_true _
  · rw [decide_eq_false e, beq_eq_false_iff_ne]
    exact fun h => e (plc_inj hl hm h)
theorem kinds_loop (a0 a2 : ByteArray) (a1 : Int) (lw lc : List (List UInt8)) (hw : Pl.Good lw) (hc : Pl.Good lc) (h0 : tx a0 = plc lw) (k : Nat) : ∀ (m i : Nat), i + m = lc.length →
    heraldlaw1_PlaceKinds.l0 (m + 1 + k) a0 a1 a2 (bs (plc (lc.take m))) (decide (lw <+: lc ∧ m ≤ lw.length)) (i : Int) = heraldlaw1_PlaceKinds.j2 k a0 a1 a2 (bs [47]) (decide (lw <+: lc))
  | 0, i, hi => by
    have e0 : decide (lw <+: lc ∧ 0 ≤ lw.length) = decide (lw <+: lc) := by simp
    rw [e0, show 0 + 1 + k = k + 1 by omega]
    simp only [heraldlaw1_PlaceKinds.l0, place_Parent.f, heraldlaw1_num.f]
    rw [List.take_zero, show plc ([] : List (List UInt8)) = [47] from rfl]
    have e1 : parentB (bs [47]) = (bs [], 47) := parent_plc good_nil
    rw [e1]
    simp only [Option.bind_some]
    rw [if_neg (by decide : ¬ (47 : Int) = 0)]
    exact ite_self _
  | m + 1, i, hi => by
    have h6 := hc.1
    rw [show m + 1 + 1 + k = (m + 1 + k) + 1 by omega]
    simp only [heraldlaw1_PlaceKinds.l0, place_Parent.f, heraldlaw1_num.f]
    have hne : lc.take (m + 1) ≠ [] := by
      intro e
      have := congrArg List.length e
      rw [List.length_take, List.length_nil] at this
      omega
    rw [if_pos (by omega), parent_plc (good_take hc _), if_neg hne, dropLast_take' (by omega)]
    simp only [Option.bind_some]
    rw [if_pos trivial, wrap_next (by omega : i < 6) (by omega)]
    have ih := kinds_loop a0 a2 a1 lw lc hw hc h0 k m (i + 1) (by omega)
    by_cases h8 : lw <+: lc ∧ m + 1 ≤ lw.length
    · rw [if_pos (decide_eq_true h8), ← ih, decide_eq_true (⟨h8.1, by omega⟩ : lw <+: lc ∧ m ≤ lw.length)]
    · rw [if_neg (by rw [decide_eq_false h8]; simp), ← ih, same_place (good_take hc m) hw (tx_bs _) h0]
      congr 1
      by_cases e : lc.take m = lw
      · have hl := congrArg List.length e
        rw [List.length_take] at hl
        rw [decide_eq_true e, decide_eq_true]
        exact ⟨⟨lc.drop m, by rw [← e]; exact List.take_append_drop m lc⟩, by omega⟩
      · rw [decide_eq_false e, decide_eq_false]
        rintro ⟨hp, hm⟩
        apply e
        have : lw.length = m := by
          rcases Nat.lt_or_ge lw.length (m + 1) with h | h
          · omega
          · exact absurd ⟨hp, h⟩ h8
        rw [List.prefix_iff_eq_take.1 hp, this]
theorem kinds_end (a0 a2 : ByteArray) (a1 : Int) (lw lc : List (List UInt8)) (hw : Pl.Good lw) (hc : Pl.Good lc) (h0 : tx a0 = plc lw) (h2 : tx a2 = plc lc) (h1 : 1 ≤ a1) (h3 : a1 ≤ 3) (k : Nat) (hk : 8 < k) :
    heraldlaw1_PlaceKinds.j2 k a0 a1 a2 (bs [47]) (decide (lw <+: lc)) = some true := by
  obtain ⟨k, rfl⟩ : ∃ m, k = m + 3 := ⟨k - 3, by omega⟩
  have p0 : parseL (tx a0) = (lw, 0) := by rw [h0, parse_plc hw]
  have p2 : parseL (tx a2) = (lc, 0) := by rw [h2, parse_plc hc]
  have hcov : ∀ kind, place_Covers.f kind a0 a1 a2 = some (if lw <+: lc then (if kind = 1 then decide (lc.length = lw.length) else if kind = 2 then decide (a1 ≠ 2 ∧ lc.length ≤ lw.length + 1) else decide (kind = 3)) else false) := by
    intro kind
    unfold place_Covers.f
    rw [covers_some (by rw [p0]) (by rw [p2]) h1 h3, p0, p2]
  have hkid : heraldlaw1_PlaceKinds.j2 (k + 3) a0 a1 a2 (bs [47]) (decide (lw <+: lc)) = heraldlaw1_PlaceKinds.j3 (k + 2) a0 a1 a2 (bs [47]) (decide (lw <+: lc)) (decide (lc ≠ [] ∧ lc.dropLast = lw)) := by
    simp only [heraldlaw1_PlaceKinds.j2, place_Parent.f, heraldlaw1_num.f]
    have hb : a2 = bs (plc lc) := by rw [← h2, bs_tx]
    rw [show parentB a2 = parentB (bs (plc lc)) by rw [← hb], parent_plc hc]
    by_cases e : lc = []
    · rw [if_pos e]
      simp only [Option.bind_some]
      rw [if_neg (by decide), show decide (lc ≠ [] ∧ lc.dropLast = lw) = false from decide_eq_false (fun h => h.1 e)]
    · rw [if_neg e]
      simp only [Option.bind_some]
      rw [if_pos trivial, same_place (good_dropLast hc) hw (tx_bs _) h0]
      congr 1
      by_cases e2 : lc.dropLast = lw
      · rw [decide_eq_true e2, decide_eq_true ⟨e, e2⟩]
      · rw [decide_eq_false e2, decide_eq_false (fun h => e2 h.2)]
  rw [hkid]
  simp only [heraldlaw1_PlaceKinds.j3]
  have hsame : (a2.toList == a0.toList) = decide (lc = lw) := same_place hc hw h2 h0
  have e1 : (if lw <+: lc then (if (1 : Int) = 1 then decide (lc.length = lw.length) else if (1 : Int) = 2 then decide (a1 ≠ 2 ∧ lc.length ≤ lw.length + 1) else decide ((1 : Int) = 3)) else false) = decide (lc = lw) := by
    by_cases hp : lw <+: lc
    · rw [if_pos hp, if_pos rfl]
      by_cases e : lc = lw
      · subst e; simp
      · rw [decide_eq_false e, decide_eq_false]
        exact fun hl => e (hp.eq_of_length hl.symm).symm
    · rw [if_neg hp, decide_eq_false]
      rintro rfl
      exact hp (List.prefix_refl _)
  have e3 : (if lw <+: lc then (if (3 : Int) = 1 then decide (lc.length = lw.length) else if (3 : Int) = 2 then decide (a1 ≠ 2 ∧ lc.length ≤ lw.length + 1) else decide ((3 : Int) = 3)) else false) = decide (lw <+: lc) := by
    by_cases hp : lw <+: lc
    · rw [if_pos hp, decide_eq_true hp]; rfl
    · rw [if_neg hp, decide_eq_false hp]
  rw [hcov 1, hcov 3, e1, e3, hsame]
  simp only [Option.bind_some]
  rw [if_neg (by simp), bne_self_eq_false]
  simp only [heraldlaw1_PlaceKinds.j4]
  obtain ⟨v, hv, hv'⟩ : ∃ v, place_Covers.f 2 a0 a1 a2 = some v ∧ v = decide (lw <+: lc ∧ a1 ≠ 2 ∧ lc.length ≤ lw.length + 1) := by
    refine ⟨_, hcov 2, ?_⟩
    by_cases hp : lw <+: lc
    · rw [if_pos hp, if_neg (by decide), if_pos rfl]
      by_cases h : a1 ≠ 2 ∧ lc.length ≤ lw.length + 1
      · rw [decide_eq_true h, decide_eq_true ⟨hp, h⟩]
      · rw [decide_eq_false h, decide_eq_false (fun x => h x.2)]
    · rw [if_neg hp, decide_eq_false (fun x => hp x.1)]
  rw [if_neg (by simp), hv, known_tells k (by omega)]
  simp only [Option.bind_some]
  have e47 : (bs [47]).toList = [47] := by rw [toList_tx, tx_bs]
  rw [e47]
  clear hv
  by_cases c2 : a1 = 2
  · have : v = false := by rw [hv', decide_eq_false (fun x => x.2.1 c2)]
    subst this
    rw [if_pos c2]
    rfl
  · rw [if_neg c2]
    by_cases e : lc = lw
    · have : v = true := by
        rw [hv', decide_eq_true]
        subst e
        exact ⟨List.prefix_refl _, c2, by omega⟩
      subst this
      rw [if_pos (by rw [toList_tx, toList_tx, h0, h2, e])]
      rfl
    · rw [if_neg (by rw [toList_tx, toList_tx, h0, h2]; exact fun h => e (plc_inj hc hw h))]
      have : v = decide (lc ≠ [] ∧ lc.dropLast = lw) := by
        rw [hv']
        by_cases h : lc ≠ [] ∧ lc.dropLast = lw
        · rw [decide_eq_true h, decide_eq_true]
          have hl := congrArg List.length h.2
          rw [List.length_dropLast] at hl
          exact ⟨h.2 ▸ List.dropLast_prefix lc, c2, by omega⟩
        · rw [decide_eq_false h, decide_eq_false]
          rintro ⟨hp, _, hl⟩
          apply h
          have hlt : lw.length < lc.length := by
            have := hp.length_le
            rcases Nat.lt_or_ge lw.length lc.length with h | h
            · exact h
            · exact absurd (hp.eq_of_length (by omega)).symm e
          refine ⟨by rintro rfl; simp at hlt, ?_⟩
          rw [List.dropLast_eq_take, show lc.length - 1 = lw.length by omega, ← List.prefix_iff_eq_take.1 hp]
      rw [← this, beq_self_eq_true]
      rfl
theorem PlaceKinds : heraldlaw1_PlaceKinds.Pure := by
  intro a0 a1 a2 _ _ _
  refine ⟨40, ?_⟩
  have bad : ¬ ((parseL (tx a0)).2 = 0 ∧ (parseL (tx a2)).2 = 0 ∧ 1 ≤ a1 ∧ a1 ≤ 3) → heraldlaw1_PlaceKinds.j0 40 a0 a1 a2 true = some true := by
    intro h
    simp only [heraldlaw1_PlaceKinds.j0, place_Covers.f]
    rw [covers_none h, covers_none h, covers_none h, known_tells 39 (by omega)]
    rfl
  unfold heraldlaw1_PlaceKinds.f
  rw [in_tells, in_tells]
  simp only [Option.bind_some]
  by_cases p0 : (parseL (tx a0)).2 = 0
  · by_cases p2 : (parseL (tx a2)).2 = 0
    · rw [if_pos (decide_eq_true p0), if_pos (decide_eq_true p2)]
      by_cases h1 : a1 < 1
      · rw [if_pos h1]; exact bad (fun h => by omega)
      · rw [if_neg h1]
        by_cases h3 : a1 > 3
        · rw [decide_eq_true h3]; exact bad (fun h => by omega)
        · rw [decide_eq_false h3]
          have hw := parse_good (tx a0)
          have hc := parse_good (tx a2)
          have e0 := parse_back p0
          have e2 := parse_back p2
          have hl := hc.1
          simp only [heraldlaw1_PlaceKinds.j0]
          rw [if_neg (by simp), same_place hc hw e2 e0]
          have hloop := kinds_loop a0 a2 a1 _ _ hw hc e0 (39 - ((parseL (tx a2)).1.length + 1)) (parseL (tx a2)).1.length 0 (by omega)
          rw [show (parseL (tx a2)).1.length + 1 + (39 - ((parseL (tx a2)).1.length + 1)) = 39 by omega, List.take_length, ← e2, bs_tx] at hloop
          have e8 : decide ((parseL (tx a2)).1 = (parseL (tx a0)).1) = decide ((parseL (tx a0)).1 <+: (parseL (tx a2)).1 ∧ (parseL (tx a2)).1.length ≤ (parseL (tx a0)).1.length) := by
            by_cases e : (parseL (tx a2)).1 = (parseL (tx a0)).1
            · rw [decide_eq_true e, decide_eq_true]
              rw [e]
              exact ⟨List.prefix_refl _, Nat.le_refl _⟩
            · rw [decide_eq_false e, decide_eq_false]
              rintro ⟨hp, hle⟩
              exact e (hp.eq_of_length (Nat.le_antisymm hp.length_le hle)).symm
          rw [e8, show (0 : Int) = ((0 : Nat) : Int) from rfl, hloop]
          exact kinds_end a0 a2 a1 _ _ hw hc e0 e2 (by omega) (by omega) _ (by omega)
    · rw [if_pos (decide_eq_true p0), if_neg (by simp [p2])]
      exact bad (fun h => p2 h.2.1)
  · rw [if_neg (by simp [p0])]
    exact bad (fun h => p0 h.1)
end Go.Proofs.YtfdinkofcjcahaaDoor.Law
