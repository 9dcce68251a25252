/- What the printed functions of place answer is what the plain functions of ApiSpec answer. No walk in sight. -/
import Derived.Test.YtfdinkofcjcahaaDoorPPax2
import Derived.Test.YtfdinkofcjcahaaDoorSplit
namespace Go.Proofs.YtfdinkofcjcahaaDoor.Pl
open Go.RowKit Go.Proofs.YtfdinkofcjcahaaDoor.Ord Go.Proofs.YtfdinkofcjcahaaDoor.Name Go.Proofs.YtfdinkofcjcahaaDoor.Ext Go.Proofs.YtfdinkofcjcahaaDoor.PPa Go.Proofs.YtfdinkofcjcahaaDoorW.PrintWords

theorem toList_tx (s : ByteArray) : s.toList = tx s := ByteArray.toList_eq s
theorem rdOf_map (l : List (List UInt8)) (i : Nat) (h : i < l.length) : rdOf ByteArray.empty (l.map bs) (i : Int) = bs (l[i]'h) := by
  unfold rdOf
  rw [Int.toNat_natCast, List.getD_eq_getElem?_getD, List.getElem?_map, List.getElem?_eq_getElem h]
  rfl
theorem isName_bs (p : List UInt8) : place_isName.f (bs p) = some (okN p) := by unfold place_isName.f; rw [tx_bs]
theorem all_drop {l : List (List UInt8)} {i : Nat} (h : i < l.length) : (l.drop i).all okN = (okN (l[i]'h) && (l.drop (i + 1)).all okN) := by
  rw [List.drop_eq_getElem_cons h, List.all_cons]
theorem wrap_next {i n : Nat} (h : i < n) (hn : n ≤ 9223372036854775807) : wrap64 ((i : Int) + 1) = ((i + 1 : Nat) : Int) := by
  unfold wrap64
  omega
theorem wrap_pred {n : Nat} (h : 1 ≤ n) (hn : n ≤ 9223372036854775807) : wrap64 ((n : Int) - 1) = ((n - 1 : Nat) : Int) := by
  unfold wrap64
  omega

theorem parse_loop (l : List (List UInt8)) (hl : l.length ≤ 6) (d : Nat) : ∀ (k i : Nat), i ≤ l.length → l.length - i = d → d < k →
    place_Parse.l0 k (l.map bs) (l.map bs) (l.length : Int) (i : Int) = some (if (l.drop i).all okN = true then (l.map bs, 0) else ([], 10)) := by
  induction d with
  | zero =>
    intro k i hi hd hk
    obtain ⟨k, rfl⟩ : ∃ m, k = m + 1 := ⟨k - 1, by omega⟩
    simp only [place_Parse.l0]
    rw [if_neg (by omega), List.drop_eq_nil_of_le (by omega)]
    rfl
  | succ d ih =>
    intro k i hi hd hk
    obtain ⟨k, rfl⟩ : ∃ m, k = m + 1 := ⟨k - 1, by omega⟩
    have hlt : i < l.length := by omega
    simp only [place_Parse.l0]
    rw [if_pos (by omega), if_pos (by omega), if_pos (by rw [List.length_map]; omega), rdOf_map l i hlt, isName_bs]
    simp only [Option.bind_some]
    rw [all_drop hlt]
    by_cases c : okN (l[i]'hlt) = true
    · rw [if_pos c, wrap_next hlt (by omega), ih k (i + 1) (by omega) (by omega) (by omega), c, Bool.true_and]
    · rw [if_neg c, Bool.eq_false_iff.2 c]
      rfl
/-- The answer of Parse. -/
def parseB (s : ByteArray) : List ByteArray × Int := ((parseL (tx s)).1.map bs, (parseL (tx s)).2)
theorem prefix_slash (s : ByteArray) : Lib.hasPrefix s.data.toList [47] = decide ((tx s).head? = some 47) := by
  show Lib.hasPrefix (tx s) [47] = _
  cases tx s with
  | nil => rfl
  | cons c r =>
    by_cases h : c = 47
    · subst h; simp [Lib.hasPrefix, List.isPrefixOf]
    · simp [Lib.hasPrefix, List.isPrefixOf, h, Ne.symm h]
theorem parseL_long {t : List UInt8} (h : t.length > 102) : parseL t = ([], 2) := if_pos h
theorem parseL_root {t : List UInt8} (h2 : t = [47]) : parseL t = ([], 0) := by subst h2; rfl
theorem parseL_other {t : List UInt8} (h1 : ¬ t.length > 102) (h2 : ¬ t = [47]) (h3 : ¬ t.head? = some 47) : parseL t = ([], 10) := by
  unfold parseL
  rw [if_neg h1, if_neg h2, if_neg h3]
theorem parseL_names {t : List UInt8} (h1 : ¬ t.length > 102) (h2 : ¬ t = [47]) (h3 : t.head? = some 47) :
    parseL t = if (pcs t.tail).length > 6 then ([], 10) else if (pcs t.tail).all okN = true then (pcs t.tail, 0) else ([], 10) := by
  unfold parseL
  rw [if_neg h1, if_neg h2, if_pos h3]
theorem parse_tells (s : ByteArray) (k : Nat) (hk : 7 < k) : place_Parse.f k s = some (parseB s) := by
  unfold place_Parse.f parseB
  rw [toList_tx]
  have hs := tx_length s
  by_cases h1 : (tx s).length > 102
  · rw [parseL_long h1, if_pos (by omega)]; rfl
  · rw [if_neg (show ¬ ((s.size : Int) > 102) by omega)]
    by_cases h2 : tx s = [47]
    · rw [if_pos h2, parseL_root h2]; rfl
    · rw [if_neg h2]
      unfold strings_HasPrefix.f
      rw [show ((⟨#[47]⟩ : ByteArray).data.toList) = [47] from rfl, prefix_slash]
      simp only [Option.bind_some]
      by_cases h3 : (tx s).head? = some 47
      · have hpos : 1 ≤ s.size := by
          rw [← hs]
          cases hh : tx s with
          | nil => rw [hh] at h3; simp at h3
          | cons c r => simp
        have he : tx (s.extract 1 s.size) = (tx s).tail := by
          show (s.extract 1 s.size).data.toList = _
          rw [Lib.extract_to_end]
          show (tx s).drop 1 = _
          rw [List.drop_one]
        have hsz : (s.extract 1 s.size).size < 4294967281 := by rw [ByteArray.size_extract]; omega
        rw [decide_eq_true h3, if_pos rfl, if_pos (show 1 ≤ (s.size : Int) by omega), split_slash _ hsz, he, parseL_names h1 h2 h3]
        simp only [Option.bind_some, List.length_map]
        generalize pcs (tx s).tail = l
        by_cases h4 : l.length > 6
        · rw [if_pos (show (l.length : Int) > 6 by omega), if_pos h4]; rfl
        · rw [if_neg (show ¬ (l.length : Int) > 6 by omega), if_neg h4]
          have := parse_loop l (by omega) _ k 0 (Nat.zero_le _) rfl (by omega)
          rw [show ((0 : Nat) : Int) = 0 from rfl, List.drop_zero] at this
          rw [this]
          by_cases h5 : l.all okN = true
          · rw [if_pos h5, if_pos h5]
          · rw [if_neg h5, if_neg h5]; rfl
      · rw [decide_eq_false h3, parseL_other h1 h2 h3]
        rfl

theorem placed_tells (l : List (List UInt8)) (h : Good l) : place_placed.f (l.map bs) = some (bs (plc l)) := by
  have hp := plc_length h
  have hj : joined (l.map bs) ⟨#[47]⟩ = bs (Lib.join l [47]) := by
    unfold joined bs
    rw [List.map_map]
    congr 2
    conv => rhs; rw [← List.map_id l]
    congr 1
  have hl : (Lib.join l [47]).length + 1 = (plc l).length := by rw [← join_plc]; simp
  unfold place_placed.f strings_Join.f
  rw [List.length_map, hj, bs_size, if_pos (by have := h.1; omega), if_pos (by omega)]
  simp only [Option.bind_some]
  rw [bs_size, if_pos (by omega), ← join_plc]
  rfl

theorem join_loop (m : List (List UInt8)) (hm : m.length ≤ 140737488351232) (d : Nat) : ∀ (k i : Nat) (l : List (List UInt8)), Good l → i ≤ m.length → m.length - i = d → d < k →
    place_Join.l0 k (l.map bs) (m.map bs) (m.length : Int) (i : Int) = some (if (m.drop i).all okN = true ∧ l.length + (m.drop i).length ≤ 6 then (bs (plc (l ++ m.drop i)), 0) else (bs [], 10)) := by
  induction d with
  | zero =>
    intro k i l hg hi hd hk
    obtain ⟨k, rfl⟩ : ∃ m, k = m + 1 := ⟨k - 1, by omega⟩
    simp only [place_Join.l0]
    rw [if_neg (by omega), List.drop_eq_nil_of_le (by omega), placed_tells l hg, if_pos ⟨rfl, by simpa using hg.1⟩]
    simp
  | succ d ih =>
    intro k i l hg hi hd hk
    obtain ⟨k, rfl⟩ : ∃ m, k = m + 1 := ⟨k - 1, by omega⟩
    have hlt : i < m.length := by omega
    simp only [place_Join.l0]
    rw [if_pos (by omega), if_pos (by omega), if_pos (by rw [List.length_map]; omega), rdOf_map m i hlt, isName_bs]
    simp only [Option.bind_some]
    rw [all_drop hlt, List.drop_eq_getElem_cons hlt]
    by_cases c : okN (m[i]'hlt) = true
    · rw [if_pos c]
      by_cases c6 : l.length = 6
      · rw [if_pos (by rw [List.length_map]; omega), if_neg (by simp only [List.length_cons]; omega)]
        rfl
      · have hg1 := hg.1
        rw [if_neg (by rw [List.length_map]; omega), if_pos (by rw [List.length_map]; omega), wrap_next hlt (by omega)]
        have hg' : Good (l ++ [m[i]'hlt]) := good_append hg (by simp [c]) (by simp; omega)
        have := ih k (i + 1) _ hg' (by omega) (by omega) (by omega)
        rw [List.map_append, List.map_cons, List.map_nil] at this
        rw [this, c, Bool.true_and]
        simp only [List.append_assoc, List.singleton_append, List.length_append, List.length_cons, List.length_nil]
        congr 1
        by_cases c7 : (List.drop (i + 1) m).all okN = true ∧ l.length + ((List.drop (i + 1) m).length + 1) ≤ 6
        · rw [if_pos ⟨c7.1, by omega⟩, if_pos c7]
        · rw [if_neg (fun h => c7 ⟨h.1, by omega⟩), if_neg c7]
    · rw [if_neg c, if_neg (fun h => by rw [Bool.eq_false_iff.2 c] at h; simp at h)]
      rfl
def joinB (s : ByteArray) (m : List (List UInt8)) : ByteArray × Int := (bs (joinL (tx s) m).1, (joinL (tx s) m).2)
theorem joinB_tells (s : ByteArray) (m : List (List UInt8)) (hm : m.length ≤ 140737488351232) (k : Nat) (hk : m.length + 8 < k) : place_Join.f k s (m.map bs) = some (joinB s m) := by
  unfold place_Join.f
  rw [parse_tells s k (by omega)]
  simp only [Option.bind_some, parseB]
  unfold joinB joinL
  by_cases h : (parseL (tx s)).2 = 0
  · rw [if_pos h, if_pos h, List.length_map]
    have := join_loop m hm _ k 0 _ (parse_good (tx s)) (Nat.zero_le _) rfl (by omega)
    rw [show ((0 : Nat) : Int) = 0 from rfl, List.drop_zero] at this
    rw [this]
    by_cases c : m.all okN = true ∧ (parseL (tx s)).1.length + m.length ≤ 6
    · rw [if_pos c, if_pos c]
    · rw [if_neg c, if_neg c]
  · rw [if_neg h, if_neg h]
    rfl
def parentB (s : ByteArray) : ByteArray × Int := (bs (parentL (tx s)).1, (parentL (tx s)).2)
theorem parent_tells (s : ByteArray) (k : Nat) (hk : 8 < k) : place_Parent.f k s = some (parentB s) := by
  unfold place_Parent.f
  rw [parse_tells s k (by omega)]
  simp only [Option.bind_some, parseB]
  unfold parentB parentL
  have hg := parse_good (tx s)
  by_cases h : (parseL (tx s)).2 = 0
  · rw [if_pos h, if_pos h, List.length_map]
    by_cases h0 : (parseL (tx s)).1 = []
    · rw [if_pos h0, h0]; rfl
    · have hpos : 1 ≤ (parseL (tx s)).1.length := by
        cases hh : (parseL (tx s)).1 with
        | nil => exact absurd hh h0
        | cons a b => simp
      have h6 := hg.1
      rw [if_neg (by omega), if_neg h0, wrap_pred hpos (by omega), if_pos (by omega), if_pos (by omega), Int.toNat_natCast, ← List.map_take, ← List.dropLast_eq_take, placed_tells _ (good_dropLast hg)]
      rfl
  · rw [if_neg h, if_neg h]
    rfl
def nameB (s : ByteArray) : ByteArray × Int := (bs (nameL (tx s)).1, (nameL (tx s)).2)
theorem last_at (l : List (List UInt8)) (h : 1 ≤ l.length) : l[l.length - 1]'(by omega) = lastL l := by
  unfold lastL
  rw [List.getLast?_eq_getElem?, List.getElem?_eq_getElem (by omega)]
  rfl
theorem name_tells (s : ByteArray) (k : Nat) (hk : 8 < k) : place_Name.f k s = some (nameB s) := by
  unfold place_Name.f
  rw [parse_tells s k (by omega)]
  simp only [Option.bind_some, parseB]
  unfold nameB nameL
  have hg := parse_good (tx s)
  by_cases h : (parseL (tx s)).2 = 0
  · rw [if_pos h, if_pos h, List.length_map]
    by_cases h0 : (parseL (tx s)).1 = []
    · rw [h0, h]; rfl
    · have hpos : 1 ≤ (parseL (tx s)).1.length := by
        cases hh : (parseL (tx s)).1 with
        | nil => exact absurd hh h0
        | cons a b => simp
      have h6 := hg.1
      rw [if_neg (by omega), wrap_pred hpos (by omega), if_pos (by omega), if_pos (by omega), rdOf_map _ _ (by omega), last_at _ hpos]
      have hle : (lastL (parseL (tx s)).1).length ≤ 16 := by
        rw [← last_at _ hpos]
        exact (okN_len (hg.ok (List.getElem_mem _))).2
      unfold strings_Clone.f stringslite_Clone.f
      rw [bs_size, if_pos (by omega)]
      rfl
  · rw [if_neg h, if_neg h]
    rfl
theorem begins_loop (l m : List (List UInt8)) (hlen : m.length ≤ l.length) (hl : l.length ≤ 6) (d : Nat) : ∀ (k i : Nat), i ≤ m.length → m.length - i = d → d < k →
    place_begins.l0 k (l.map bs) (m.map bs) (m.length : Int) (i : Int) = some (decide (m.drop i <+: l.drop i)) := by
  induction d with
  | zero =>
    intro k i hi hd hk
    obtain ⟨k, rfl⟩ : ∃ m, k = m + 1 := ⟨k - 1, by omega⟩
    simp only [place_begins.l0]
    rw [if_neg (by omega), List.drop_eq_nil_of_le (show m.length ≤ i by omega)]
    simp
  | succ d ih =>
    intro k i hi hd hk
    obtain ⟨k, rfl⟩ : ∃ m, k = m + 1 := ⟨k - 1, by omega⟩
    have hlt : i < m.length := by omega
    have hlt' : i < l.length := by omega
    simp only [place_begins.l0]
    rw [if_pos (by omega), if_pos (by omega), if_pos (by rw [List.length_map]; omega), if_pos (by rw [List.length_map]; omega), rdOf_map l i hlt', rdOf_map m i hlt, toList_tx, toList_tx, tx_bs, tx_bs,
      List.drop_eq_getElem_cons hlt, List.drop_eq_getElem_cons hlt', wrap_next hlt (by omega), ih k (i + 1) (by omega) (by omega) (by omega)]
    by_cases c : l[i]'hlt' = m[i]'hlt
    · rw [if_pos c, ← c]
      congr 1
      rw [decide_eq_decide, List.cons_prefix_cons]
      exact ⟨fun h => ⟨rfl, h⟩, fun h => h.2⟩
    · rw [if_neg c, decide_eq_false]
      intro hp
      rw [List.cons_prefix_cons] at hp
      exact c hp.1.symm
theorem begins_tells (l m : List (List UInt8)) (hl : l.length ≤ 6) (hm : m.length ≤ 6) (k : Nat) (hk : 8 < k) : place_begins.f k (l.map bs) (m.map bs) = some (decide (m <+: l)) := by
  unfold place_begins.f
  rw [List.length_map, List.length_map]
  by_cases h : l.length < m.length
  · rw [if_pos (by omega), decide_eq_false]
    intro hp
    have := hp.length_le
    omega
  · rw [if_neg (by omega)]
    have := begins_loop l m (by omega) hl _ k 0 (Nat.zero_le _) rfl (by omega)
    simpa using this
theorem covers_tells (kind : Int) (w : ByteArray) (ch : Int) (c : ByteArray) (k : Nat) (hk : 9 < k) : place_Covers.f k kind w ch c = some (coversL kind (tx w) ch (tx c)) := by
  obtain ⟨k, rfl⟩ : ∃ m, k = m + 1 := ⟨k - 1, by omega⟩
  unfold place_Covers.f
  rw [parse_tells w _ (by omega), parse_tells c _ (by omega)]
  simp only [Option.bind_some, parseB]
  have hgw := parse_good (tx w)
  have hgc := parse_good (tx c)
  unfold coversL
  generalize (parseL (tx w)).1 = lw at hgw ⊢
  generalize (parseL (tx w)).2 = ew
  generalize (parseL (tx c)).1 = lc at hgc ⊢
  generalize (parseL (tx c)).2 = ec
  have hw6 := hgw.1
  have hc6 := hgc.1
  have no : place_Covers.j0 (k + 1) kind ch (lw.map bs) (lc.map bs) true = some false := by simp only [place_Covers.j0]; rw [if_pos trivial]
  by_cases h1 : ew = 0
  · rw [if_pos h1]
    by_cases h2 : ec = 0
    · rw [if_pos h2]
      by_cases h3 : ch < 1
      · rw [if_pos h3, no, if_neg (by omega)]
      · rw [if_neg h3]
        by_cases h4 : ch > 3
        · rw [if_pos h4, no, if_neg (by omega)]
        · rw [if_neg h4, begins_tells lc lw hc6 hw6 _ (by omega)]
          simp only [Option.bind_some]
          by_cases h5 : lw <+: lc
          · rw [decide_eq_true h5, if_pos ⟨h1, h2, by omega, by omega, h5⟩]
            simp only [place_Covers.j0, List.length_map, Bool.not_true]
            rw [if_neg (by simp)]
            by_cases k1 : kind = 1
            · rw [if_pos k1, if_pos k1]
              congr 1
              rw [Bool.eq_iff_iff, beq_iff_eq, decide_eq_true_eq]
              omega
            · rw [if_neg k1, if_neg k1]
              by_cases k2 : kind = 2
              · rw [if_pos k2, if_pos k2]
                by_cases c2 : ch = 2
                · rw [if_pos c2]; simp [c2]
                · rw [if_neg c2]
                  congr 1
                  have : wrap64 ((lw.length : Int) + 1) = (lw.length : Int) + 1 := by unfold wrap64; omega
                  rw [this, Bool.eq_iff_iff, decide_eq_true_eq, decide_eq_true_eq]
                  omega
              · rw [if_neg k2, if_neg k2]
                by_cases k3 : kind = 3
                · rw [if_pos k3, decide_eq_true k3]
                · rw [if_neg k3, decide_eq_false k3]
          · rw [decide_eq_false h5, Bool.not_false, no, if_neg (fun h => h5 h.2.2.2.2)]
    · rw [if_neg h2, no, if_neg (fun h => h2 h.2.1)]
  · rw [if_neg h1, no, if_neg (fun h => h1 h.1)]
end Go.Proofs.YtfdinkofcjcahaaDoor.Pl
