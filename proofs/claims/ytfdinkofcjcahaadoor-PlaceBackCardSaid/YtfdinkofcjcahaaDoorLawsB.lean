/- The law PlaceLoose in plain Lean: what loose writes is cleaned to the names themselves; Clean of what Clean answers is that. -/
import Derived.Test.YtfdinkofcjcahaaDoorLawsA
namespace Go.Proofs.YtfdinkofcjcahaaDoor.Law
open Go.RowKit Go.Proofs.YtfdinkofcjcahaaDoor.Ext Go.Proofs.YtfdinkofcjcahaaDoor.PPl Go.Proofs.YtfdinkofcjcahaaDoor.Pl Go.Proofs.YtfdinkofcjcahaaDoor.Ord Go.Proofs.YtfdinkofcjcahaaDoorW.PrintWords Go.Proofs.YtfdinkofcjcahaaDoor.Name

/-- What a mark leaves behind its first byte. -/
def mtail (m : Int) : List UInt8 := (Pl.mark m).tail
theorem mark_eq (m : Int) : Pl.mark m = 47 :: mtail m := by unfold mtail Pl.mark; rfl
theorem clean_skip (acc : List (List UInt8)) (r : List (List UInt8)) : clean acc ([] :: r) = clean acc r := by rw [clean, if_pos rfl]
theorem clean_dot (acc : List (List UInt8)) (r : List (List UInt8)) : clean acc ([46] :: r) = clean acc r := by rw [clean, if_neg (by simp), if_pos rfl]
theorem clean_up (acc : List (List UInt8)) (p : List UInt8) (r : List (List UInt8)) : clean (acc ++ [p]) ([46, 46] :: r) = clean acc r := by
  rw [clean, if_neg (by simp), if_neg (by simp), if_pos rfl, if_neg (by simp), List.dropLast_concat]
theorem clean_name (acc : List (List UInt8)) {p : List UInt8} (h : okN p = true) (r : List (List UInt8)) : clean acc (p :: r) = clean (acc ++ [p]) r := by
  have hd := okN_dots h
  rw [clean, if_neg hd.1, if_neg hd.2.1, if_neg hd.2.2, if_pos h]
theorem clean_names (l : List (List UInt8)) (h : l.all okN = true) : ∀ acc, clean acc l = some (acc ++ l) := by
  induction l with
  | nil => intro acc; rw [clean, List.append_nil]
  | cons p r ih =>
    intro acc
    rw [List.all_cons, Bool.and_eq_true] at h
    rw [clean_name acc h.1, ih h.2]
    simp
theorem pcs_cut (p : List UInt8) (hp : 47 ∉ p) (r t : List UInt8) (h : t = p ++ 47 :: r) : pcs t = p :: pcs r := by rw [h, pcs_append p hp]
theorem cut_skip (acc : List (List UInt8)) (r t : List UInt8) (h : t = 47 :: r) : clean acc (pcs t) = clean acc (pcs r) := by rw [pcs_cut [] (by simp) r t h, clean_skip]
theorem cut_dot (acc : List (List UInt8)) (r t : List UInt8) (h : t = 46 :: 47 :: r) : clean acc (pcs t) = clean acc (pcs r) := by rw [pcs_cut [46] (by simp) r t h, clean_dot]
theorem cut_up (acc : List (List UInt8)) (p : List UInt8) (r t : List UInt8) (h : t = 46 :: 46 :: 47 :: r) : clean (acc ++ [p]) (pcs t) = clean acc (pcs r) := by rw [pcs_cut [46, 46] (by simp) r t h, clean_up]
theorem cut_name (acc : List (List UInt8)) (p : List UInt8) (hp : okN p = true) (r t : List UInt8) (h : t = p ++ 47 :: r) : clean acc (pcs t) = clean (acc ++ [p]) (pcs r) := by rw [pcs_cut p (okN_slash hp) r t h, clean_name acc hp]
theorem clean_mtail (acc : List (List UInt8)) (m : Int) (r : List UInt8) : clean acc (pcs (mtail m ++ r)) = clean acc (pcs r) := by
  unfold mtail Pl.mark
  rw [List.tail_cons]
  split
  · exact cut_skip acc r _ rfl
  · split
    · exact cut_dot acc r _ rfl
    · split
      · exact (cut_name acc [103, 111, 110, 101] (by decide) ([46, 46, 47] ++ r) _ rfl).trans (cut_up acc _ r _ rfl)
      · split
        · exact (cut_name acc [103] (by decide) ([46, 47, 47, 104, 47, 46, 46, 47, 46, 47, 46, 46, 47] ++ r) _ rfl).trans <|
            (cut_dot _ ([47, 104, 47, 46, 46, 47, 46, 47, 46, 46, 47] ++ r) _ rfl).trans <| (cut_skip _ ([104, 47, 46, 46, 47, 46, 47, 46, 46, 47] ++ r) _ rfl).trans <|
            (cut_name _ [104] (by decide) ([46, 46, 47, 46, 47, 46, 46, 47] ++ r) _ rfl).trans <| (cut_up _ _ ([46, 47, 46, 46, 47] ++ r) _ rfl).trans <|
            (cut_dot _ ([46, 46, 47] ++ r) _ rfl).trans (cut_up _ _ r _ rfl)
        · rfl
theorem loose_head (l : List (List UInt8)) (ms : List Int) : looseL l ms = 47 :: (looseL l ms).tail := by
  cases l with
  | nil => rw [looseL, mark_eq]; rfl
  | cons p r => rw [looseL, mark_eq]; rfl
theorem clean_loose (l : List (List UInt8)) : ∀ (ms : List Int) (acc : List (List UInt8)), l.all okN = true → clean acc (pcs (looseL l ms).tail) = some (acc ++ l) := by
  induction l with
  | nil =>
    intro ms acc _
    have := clean_mtail acc (ms.headD 0) []
    rw [List.append_nil] at this
    rw [looseL, mark_eq, List.tail_cons, this, pcs, clean_skip, clean, List.append_nil]
  | cons p r ih =>
    intro ms acc h
    rw [List.all_cons, Bool.and_eq_true] at h
    rw [looseL, mark_eq, List.cons_append, List.cons_append, List.tail_cons, List.append_assoc, clean_mtail, loose_head r, pcs_append p (okN_slash h.1), clean_name acc h.1, ih ms.tail _ h.2]
    simp
theorem loose_len (l : List (List UInt8)) : ∀ (ms : List Int), l.all okN = true → (looseL l ms).length ≤ 32 * (l.length + 1) := by
  induction l with
  | nil => intro ms _; have := mark_len (ms.headD 0); rw [looseL, List.length_nil]; omega
  | cons p r ih =>
    intro ms h
    rw [List.all_cons, Bool.and_eq_true] at h
    have h1 := mark_len (ms.headD 0)
    have h2 := (okN_len h.1).2
    have h3 := ih ms.tail h.2
    rw [looseL, List.length_append, List.length_append, List.length_cons]
    omega
theorem cleanL_loose (l : List (List UInt8)) (ms : List Int) (h : Pl.Good l) : cleanL (looseL l ms) = (plc l, 0) := by
  have h1 := loose_len l ms h.2
  have h2 := h.1
  unfold cleanL
  rw [if_neg (by omega), if_pos (by rw [loose_head l ms]; rfl), clean_loose l ms [] h.2, List.nil_append, cleanEnd, if_neg (by omega)]
theorem clean_ok (ps : List (List UInt8)) : ∀ acc l, acc.all okN = true → clean acc ps = some l → l.all okN = true := by
  induction ps with
  | nil => intro acc l h e; rw [clean] at e; cases e; exact h
  | cons p r ih =>
    intro acc l h e
    rw [clean] at e
    split at e
    · exact ih _ _ h e
    · split at e
      · exact ih _ _ h e
      · split at e
        · split at e
          · cases e
          · refine ih _ _ ?_ e
            rw [List.all_eq_true] at h ⊢
            exact fun x hx => h x (List.dropLast_subset _ hx)
        · split at e
          · refine ih _ _ ?_ e
            rw [List.all_append, h]
            simp_all
          · cases e
/-- What Clean answers: a place, or nothing. -/
theorem cleanL_cases (t : List UInt8) : (∃ l, Pl.Good l ∧ cleanL t = (plc l, 0)) ∨ ((cleanL t).1 = [] ∧ (cleanL t).2 ≠ 0) := by
  unfold cleanL
  split
  · exact .inr ⟨rfl, by decide⟩
  · split
    · cases hc : clean [] (pcs t.tail) with
      | none => exact .inr ⟨rfl, by decide⟩
      | some l =>
        by_cases h6 : l.length > 6
        · rw [cleanEnd, if_pos h6]; exact .inr ⟨rfl, by decide⟩
        · rw [cleanEnd, if_neg h6]; exact .inl ⟨l, ⟨by omega, clean_ok _ _ _ rfl hc⟩, rfl⟩
    · exact .inr ⟨rfl, by decide⟩
theorem cleanL_plc {l : List (List UInt8)} (h : Pl.Good l) : cleanL (plc l) = (plc l, 0) := by
  have hlen := plc_length h
  have h6 := h.1
  by_cases hl : l = []
  · subst hl; decide
  · have hp : plc l = glue l := if_neg hl
    unfold cleanL
    rw [if_neg (by omega), hp]
    have hh : (glue l).head? = some 47 := by
      cases l with
      | nil => exact absurd rfl hl
      | cons p r => simp [glue]
    rw [if_pos hh, pcs_glue l hl (fun x hx => okN_slash (h.ok hx)), clean_names l h.2, List.nil_append, cleanEnd, if_neg (by omega), hp]
theorem loose_tail (k : Nat) (hk : 8 < k) (a2 : ByteArray) (h2 : a2.size ≤ 140737488351232) : heraldlaw1_PlaceLoose.j0 k a2 = some true := by
  obtain ⟨k, rfl⟩ : ∃ m, k = m + 1 := ⟨k - 1, by omega⟩
  simp only [heraldlaw1_PlaceLoose.j0, place_Clean.f, place_Parse.f, heraldlaw1_num.f]
  rw [if_pos (by unfold maxLen; omega)]
  simp only [Option.bind_some]
  rcases cleanL_cases (tx a2) with ⟨l, hG, hc⟩ | ⟨hc1, hc2⟩
  · have hlen := plc_length hG
    have e1 : cleanB a2 = (bs (plc l), 0) := by unfold cleanB; rw [hc]
    have e2 : cleanB (bs (plc l)) = (bs (plc l), 0) := by unfold cleanB; rw [tx_bs, cleanL_plc hG]
    have e3 : parseB (bs (plc l)) = (l.map bs, 0) := by unfold parseB; rw [tx_bs, parse_plc hG]
    rw [e1, e2, e3]
    simp only
    have h6 := hG.1
    rw [if_pos trivial, if_pos (by rw [bs_size]; unfold maxLen; omega), known_tells k (by omega)]
    simp only [Option.bind_some]
    rw [if_pos trivial, if_pos trivial, if_pos trivial, if_pos (by rw [List.length_map]; omega)]
  · have e1 : cleanB a2 = (bs [], (cleanL (tx a2)).2) := by unfold cleanB; rw [hc1]
    rw [e1]
    simp only
    rw [if_neg hc2, if_pos (by kernel_rfl), known_tells k (by omega)]
    rfl
theorem PlaceLoose : heraldlaw1_PlaceLoose.Pure := by
  intro a0 l1 a2 h0 _ _ _ h2
  refine ⟨9, ?_⟩
  unfold heraldlaw1_PlaceLoose.f place_Parse.f
  simp only [Option.bind_some, heraldlaw1_num.f]
  have ht := loose_tail 9 (by omega) a2 h2
  by_cases hp : (parseL (tx a0)).2 = 0
  · have hG := parse_good (tx a0)
    have e0 : parseB a0 = (((parseL (tx a0)).1).map bs, 0) := by unfold parseB; rw [hp]
    have e1 : heraldlaw1_loose.f (((parseL (tx a0)).1).map bs) l1 = some (bs (looseL (parseL (tx a0)).1 l1)) := by
      unfold heraldlaw1_loose.f
      rw [show ((parseL (tx a0)).1.map bs).map tx = (parseL (tx a0)).1 by rw [List.map_map]; conv => rhs; rw [← List.map_id (parseL (tx a0)).1]
                                                                          exact List.map_congr_left fun x _ => tx_bs x]
      rw [if_pos ⟨hG.1, hG.2⟩]
    have hl := loose_len (parseL (tx a0)).1 l1 hG.2
    have h6 := hG.1
    have e2 : cleanB (bs (looseL (parseL (tx a0)).1 l1)) = (a0, 0) := by
      unfold cleanB
      rw [tx_bs, cleanL_loose _ _ hG, ← parse_back hp, bs_tx]
    rw [e0]
    simp only
    rw [if_pos trivial, e1]
    simp only [Option.bind_some, place_Clean.f]
    rw [if_pos (by rw [bs_size]; unfold maxLen; omega)]
    simp only [Option.bind_some]
    rw [e2]
    simp only
    rw [if_pos trivial, if_pos trivial, ht]
  · have e0 : (parseB a0).2 ≠ 0 := hp
    rw [if_neg e0, ht]
end Go.Proofs.YtfdinkofcjcahaaDoor.Law
