/- What the printed functions of the document's package heraldref1 answer is what the plain functions of ApiSpec answer. No walk in sight. -/
import Derived.Test.YtfdinkofcjcahaaDoorPRex1
import Derived.Test.YtfdinkofcjcahaaDoorPRex5
import Derived.Test.YtfdinkofcjcahaaDoorPaPure
namespace Go.Proofs.YtfdinkofcjcahaaDoor.Pl
open Go.RowKit Go.Proofs.YtfdinkofcjcahaaDoor.Ord Go.Proofs.YtfdinkofcjcahaaDoor.Name Go.Proofs.YtfdinkofcjcahaaDoor.Ext Go.Proofs.YtfdinkofcjcahaaDoor.PRe Go.Proofs.YtfdinkofcjcahaaDoorW.PrintWords

theorem bt_nat (s : ByteArray) (i : Nat) (h : i < s.size) : bt s (i : Int) = ((s[i]'h).toNat : Int) := by
  unfold bt
  rw [dif_pos (by simpa using h)]
  simp
theorem okB_iff (c : UInt8) : okB c = true ↔ (97 ≤ (c.toNat : Int) ∧ (c.toNat : Int) ≤ 122) ∨ (65 ≤ (c.toNat : Int) ∧ (c.toNat : Int) ≤ 90) ∨ (48 ≤ (c.toNat : Int) ∧ (c.toNat : Int) ≤ 57) ∨ (c.toNat : Int) = 95 ∨ (c.toNat : Int) = 45 ∨ (c.toNat : Int) = 46 := by
  unfold okB
  simp only [Bool.or_eq_true, Bool.and_eq_true, decide_eq_true_eq, beq_iff_eq, UInt8.le_iff_toNat_le, ← UInt8.toNat_inj]
  simp
  omega
theorem name_step (s : ByteArray) (k i : Nat) (h : i < s.size) (hs : s.size ≤ 16) : heraldref1_NameOf.l0 (k + 1) s (i : Int) = if okB (s[i]'h) = true then heraldref1_NameOf.l0 k s ((i + 1 : Nat) : Int) else some false := by
  have hv := bt_range s (i : Int)
  have hi := okB_iff (s[i]'h)
  rw [← bt_nat s i h] at hi
  simp only [heraldref1_NameOf.l0]
  rw [if_pos (by omega), if_pos (by omega), wrap_next h (by omega)]
  generalize bt s (i : Int) = v at hv hi
  by_cases c : okB (s[i]'h) = true
  · rw [if_pos c]
    have := hi.1 c
    repeat' split
    all_goals first | rfl | omega
  · rw [if_neg c]
    have := (not_congr hi).1 c
    repeat' split
    all_goals first | rfl | omega
theorem name_loop (s : ByteArray) (hs : s.size ≤ 16) (d : Nat) : ∀ (k i : Nat), i ≤ s.size → s.size - i = d → d < k → heraldref1_NameOf.l0 k s (i : Int) = some (((tx s).drop i).all okB) := by
  induction d with
  | zero =>
    intro k i hi hd hk
    obtain ⟨k, rfl⟩ : ∃ m, k = m + 1 := ⟨k - 1, by omega⟩
    simp only [heraldref1_NameOf.l0]
    rw [if_neg (by omega), drop_end s i (by omega)]
    rfl
  | succ d ih =>
    intro k i hi hd hk
    obtain ⟨k, rfl⟩ : ∃ m, k = m + 1 := ⟨k - 1, by omega⟩
    have hlt : i < s.size := by omega
    rw [name_step s k i hlt hs, drop_cons s i hlt, List.all_cons, ih k (i + 1) (by omega) (by omega) (by omega)]
    by_cases c : okB (s[i]'hlt) = true
    · rw [if_pos c, c, Bool.true_and]
    · rw [if_neg c, Bool.eq_false_iff.2 c, Bool.false_and]
theorem nameOf_tells (s : ByteArray) (k : Nat) (hk : 20 < k) : heraldref1_NameOf.f k s = some (okN (tx s)) := by
  obtain ⟨k, rfl⟩ : ∃ m, k = m + 1 := ⟨k - 1, by omega⟩
  have hl := tx_length s
  have no : heraldref1_NameOf.j0 (k + 1) s true = some false := by simp only [heraldref1_NameOf.j0]; rw [if_pos trivial]
  unfold heraldref1_NameOf.f okN
  rw [toList_tx]
  by_cases h1 : s.size < 1
  · rw [if_pos (by omega), no, decide_eq_false (p := 1 ≤ (tx s).length) (by omega)]
    rfl
  · rw [if_neg (by omega), decide_eq_true (p := 1 ≤ (tx s).length) (by omega)]
    by_cases h2 : s.size > 16
    · rw [if_pos (by omega), no, decide_eq_false (p := (tx s).length ≤ 16) (by omega)]
      rfl
    · rw [if_neg (by omega), decide_eq_true (p := (tx s).length ≤ 16) (by omega)]
      by_cases h3 : tx s = [46]
      · rw [if_pos h3, no, beq_iff_eq.2 h3]
        rfl
      · rw [if_neg h3, beq_eq_false_iff_ne.2 h3]
        by_cases h4 : tx s = [46, 46]
        · rw [beq_iff_eq.2 h4, no]
          rfl
        · rw [beq_eq_false_iff_ne.2 h4]
          simp only [heraldref1_NameOf.j0]
          rw [if_neg (by simp)]
          have := name_loop s (by omega) s.size k 0 (Nat.zero_le _) rfl (by omega)
          rw [show ((0 : Nat) : Int) = 0 from rfl, List.drop_zero] at this
          rw [this]
          rfl
theorem nameOf_bs (p : List UInt8) (k : Nat) (hk : 20 < k) : heraldref1_NameOf.f k (bs p) = some (okN p) := by rw [nameOf_tells _ k hk, tx_bs]

/-- A piece that has begun, and what follows. -/
def pre (p : List UInt8) (l : List UInt8) : List (List UInt8) := match pcs l with
  | [] => [p]
  | q :: qs => (p ++ q) :: qs
theorem pre_nil_left (l : List UInt8) : pre [] l = pcs l := by
  unfold pre
  split
  · rename_i h; exact absurd h (pcs_ne l)
  · rename_i h; rw [h]; rfl
theorem pre_end (p : List UInt8) : pre p [] = [p] := by simp [pre, pcs]
theorem pre_slash (p l : List UInt8) : pre p (47 :: l) = p :: pcs l := by simp [pre, pcs]
theorem pre_other (p l : List UInt8) (c : UInt8) (h : c ≠ 47) : pre p (c :: l) = pre (p ++ [c]) l := by
  unfold pre
  rw [pcs, if_neg h]
  cases hh : pcs l with
  | nil => exact absurd hh (pcs_ne l)
  | cons q qs => simp
theorem pcs_len : ∀ l : List UInt8, (pcs l).length ≤ l.length + 1
  | [] => by simp [pcs]
  | c :: r => by
    have := pcs_len r
    unfold pcs
    split
    · simp only [List.length_cons]; omega
    · split
      · simp
      · rename_i h; rw [h] at this; simp only [List.length_cons] at this ⊢; omega
def cut (s : ByteArray) (a b : Nat) : List UInt8 := ((tx s).take b).drop a
theorem cut_extract (s : ByteArray) (a b : Nat) : s.extract a b = bs (cut s a b) := by
  rw [← bs_tx (s.extract a b)]
  congr 1
  show (s.extract a b).data.toList = _
  unfold cut tx
  rw [List.drop_take]
  simp [ByteArray.extract, ByteArray.copySlice]
theorem cut_next (s : ByteArray) (a b : Nat) (h : b < s.size) (hab : a ≤ b) : cut s a (b + 1) = cut s a b ++ [s[b]'h] := by
  unfold cut
  rw [List.take_succ_eq_append_getElem (by rw [tx_length]; exact h), List.drop_append_of_le_length (by rw [List.length_take, tx_length]; omega)]
  rfl
theorem cut_empty (s : ByteArray) (a : Nat) : cut s a a = [] := by
  unfold cut
  exact List.drop_eq_nil_of_le (by rw [List.length_take]; omega)
theorem pieces_loop (s : ByteArray) (hs : s.size ≤ 70000) (d : Nat) : ∀ (k a i : Nat) (acc : List ByteArray), a ≤ i → i ≤ s.size → s.size - i = d → acc.length ≤ i → d + 1 < k →
    heraldref1_pieces.l0 k s acc (a : Int) (i : Int) = some (acc ++ (pre (cut s a i) ((tx s).drop i)).map bs) := by
  induction d with
  | zero =>
    intro k a i acc ha hi hd hacc hk
    obtain ⟨k, rfl⟩ : ∃ m, k = m + 2 := ⟨k - 2, by omega⟩
    obtain rfl : i = s.size := by omega
    simp only [heraldref1_pieces.l0]
    rw [if_pos (by omega), if_pos trivial, if_pos (by omega), if_pos (by omega), if_pos (by omega)]
    have hw : wrap64 ((s.size : Int) + 1) = (s.size : Int) + 1 := by unfold wrap64; omega
    rw [hw, if_neg (by omega), drop_end s _ (Nat.le_refl _), pre_end]
    simp only [Int.toNat_natCast, List.map_cons, List.map_nil, cut_extract]
  | succ d ih =>
    intro k a i acc ha hi hd hacc hk
    obtain ⟨k, rfl⟩ : ∃ m, k = m + 1 := ⟨k - 1, by omega⟩
    have hlt : i < s.size := by omega
    simp only [heraldref1_pieces.l0]
    rw [if_pos (by omega), if_neg (by omega), if_pos (by omega), if_pos (by omega), bt_nat s i hlt, drop_cons s i hlt, wrap_next hlt (by omega)]
    by_cases c : (s[i]'hlt) = 47
    · rw [if_pos (by rw [c]; rfl), if_pos (by omega), if_pos (by omega), if_pos (by omega), ih k (i + 1) (i + 1) _ (Nat.le_refl _) (by omega) (by omega) (by simp; omega) (by omega), cut_empty, pre_nil_left, c, pre_slash]
      simp only [Int.toNat_natCast, cut_extract, List.append_assoc, List.singleton_append, List.map_cons]
    · have c' : ¬ (((s[i]'hlt).toNat : Int) = 47) := fun e => c (UInt8.toNat_inj.1 (by simpa using (by omega : (s[i]'hlt).toNat = 47)))
      rw [if_neg c', ih k a (i + 1) acc (by omega) (by omega) (by omega) (by omega) (by omega), cut_next s a i hlt ha, pre_other _ _ _ c]
theorem pieces_tells (s : ByteArray) (hs : s.size ≤ 70000) (h1 : 1 ≤ s.size) (k : Nat) (hk : s.size + 2 < k) : heraldref1_pieces.f k s = some ((pcs (tx s).tail).map bs) := by
  have := pieces_loop s hs (s.size - 1) k 1 1 [] (Nat.le_refl _) h1 rfl (by simp) (by omega)
  rw [cut_empty, pre_nil_left, List.nil_append, List.drop_one] at this
  exact this

theorem refparse_loop (l : List (List UInt8)) (hl : l.length ≤ 6) (d : Nat) : ∀ (k i : Nat), i ≤ l.length → l.length - i = d → d + 21 < k →
    heraldref1_Parse.l0 k (l.map bs) (i : Int) = some (if (l.drop i).all okN = true then (l.map bs, 0) else ([], 10)) := by
  induction d with
  | zero =>
    intro k i hi hd hk
    obtain ⟨k, rfl⟩ : ∃ m, k = m + 1 := ⟨k - 1, by omega⟩
    simp only [heraldref1_Parse.l0]
    rw [if_neg (by rw [List.length_map]; omega), List.drop_eq_nil_of_le (by omega)]
    rfl
  | succ d ih =>
    intro k i hi hd hk
    obtain ⟨k, rfl⟩ : ∃ m, k = m + 1 := ⟨k - 1, by omega⟩
    have hlt : i < l.length := by omega
    simp only [heraldref1_Parse.l0]
    rw [if_pos (by rw [List.length_map]; omega), if_pos (by omega), rdOf_map l i hlt, nameOf_bs _ _ (by omega)]
    simp only [Option.bind_some]
    rw [all_drop hlt]
    by_cases c : okN (l[i]'hlt) = true
    · rw [if_pos c, wrap_next hlt (by omega), ih k (i + 1) (by omega) (by omega) (by omega), c, Bool.true_and]
    · rw [if_neg c, Bool.eq_false_iff.2 c]
      rfl
theorem refparse_tells (s : ByteArray) (k : Nat) (hk : 140 < k) : heraldref1_Parse.f k s = some (parseB s) := by
  obtain ⟨k, rfl⟩ : ∃ m, k = m + 1 := ⟨k - 1, by omega⟩
  have no : heraldref1_Parse.j0 (k + 1) s true = some ([], 10) := by simp only [heraldref1_Parse.j0]; rw [if_pos trivial]
  unfold heraldref1_Parse.f parseB
  rw [toList_tx]
  have hs := tx_length s
  by_cases h1 : (tx s).length > 102
  · rw [parseL_long h1, if_pos (by omega)]; rfl
  · rw [if_neg (show ¬ ((s.size : Int) > 102) by omega)]
    by_cases h2 : tx s = [47]
    · rw [if_pos h2, parseL_root h2]; rfl
    · rw [if_neg h2]
      by_cases h0 : tx s = []
      · rw [if_pos h0, no, parseL_other h1 h2 (by rw [h0]; simp)]
        rfl
      · rw [if_neg h0]
        have hpos : 1 ≤ s.size := by
          rw [← hs]
          cases hh : tx s with
          | nil => exact absurd hh h0
          | cons c r => simp
        have hbt : bt s 0 = ((s[0]'hpos).toNat : Int) := bt_nat s 0 hpos
        have hhd : (tx s).head? = some (s[0]'hpos) := by
          have := drop_cons s 0 hpos
          rw [List.drop_zero] at this
          rw [this]
          rfl
        rw [if_pos (by omega), hbt]
        by_cases h3 : (s[0]'hpos) = 47
        · have h3' : (tx s).head? = some 47 := by rw [hhd, h3]
          rw [h3, parseL_names h1 h2 h3', show ((((47 : UInt8).toNat : Nat) : Int) != 47) = false from rfl]
          simp only [heraldref1_Parse.j0]
          rw [if_neg (by simp), pieces_tells s (by omega) hpos k (by omega)]
          simp only [Option.bind_some, List.length_map]
          generalize pcs (tx s).tail = l
          by_cases h4 : l.length > 6
          · rw [if_pos (show (l.length : Int) > 6 by omega), if_pos h4]; rfl
          · rw [if_neg (show ¬ (l.length : Int) > 6 by omega), if_neg h4]
            have := refparse_loop l (by omega) _ k 0 (Nat.zero_le _) rfl (by omega)
            rw [show ((0 : Nat) : Int) = 0 from rfl, List.drop_zero] at this
            rw [this]
            by_cases h5 : l.all okN = true
            · rw [if_pos h5, if_pos h5]
            · rw [if_neg h5, if_neg h5]; rfl
        · have c' : (((s[0]'hpos).toNat : Int) != 47) = true := by
            rw [bne_iff_ne]
            exact fun e => h3 (UInt8.toNat_inj.1 (by simpa using (by omega : (s[0]'hpos).toNat = 47)))
          rw [c', no, parseL_other h1 h2 (by rw [hhd]; intro e; exact h3 (Option.some.inj e))]
          rfl

theorem of_loop (l : List (List UInt8)) (hl : l.length ≤ 9223372036854775806) (d : Nat) : ∀ (k i : Nat) (acc : ByteArray), i ≤ l.length → l.length - i = d → (tx acc).length + (glue (l.drop i)).length ≤ 9223372036854775807 → d < k →
    heraldref1_Of.l0 k (l.map bs) acc (i : Int) = some (if tx acc ++ glue (l.drop i) = [] then bs [47] else bs (tx acc ++ glue (l.drop i))) := by
  induction d with
  | zero =>
    intro k i acc hi hd hsz hk
    obtain ⟨k, rfl⟩ : ∃ m, k = m + 1 := ⟨k - 1, by omega⟩
    simp only [heraldref1_Of.l0]
    rw [if_neg (by rw [List.length_map]; omega), List.drop_eq_nil_of_le (by omega), toList_tx]
    simp only [glue, List.append_nil]
    by_cases h : tx acc = []
    · rw [if_pos h, if_pos h]; rfl
    · rw [if_neg h, if_neg h, bs_tx]
  | succ d ih =>
    intro k i acc hi hd hsz hk
    obtain ⟨k, rfl⟩ : ∃ m, k = m + 1 := ⟨k - 1, by omega⟩
    have hlt : i < l.length := by omega
    have e1 : glue (l.drop i) = 47 :: ((l[i]'hlt) ++ glue (l.drop (i + 1))) := by rw [List.drop_eq_getElem_cons hlt]; rfl
    rw [e1] at hsz
    simp only [List.length_cons, List.length_append, tx_length] at hsz
    have e2 : acc ++ (⟨#[47]⟩ : ByteArray) = bs (tx acc ++ [47]) := by
      rw [← bs_tx (acc ++ (⟨#[47]⟩ : ByteArray))]
      congr 1
      all_goals simp [tx]
    have e3 : bs (tx acc ++ [47]) ++ bs (l[i]'hlt) = bs (tx acc ++ 47 :: (l[i]'hlt)) := by
      rw [← bs_tx (bs (tx acc ++ [47]) ++ bs (l[i]'hlt))]
      congr 1
      all_goals simp [tx, bs]
    simp only [heraldref1_Of.l0]
    rw [if_pos (by rw [List.length_map]; omega), if_pos (by omega), if_pos (by omega), rdOf_map l i hlt, e2, bs_size, bs_size, if_pos (by simp only [List.length_append, List.length_cons, List.length_nil, tx_length]; omega), e3, wrap_next hlt (by omega),
      ih k (i + 1) _ (by omega) (by omega) (by rw [tx_bs]; simp only [List.length_append, List.length_cons, tx_length]; omega) (by omega), tx_bs, e1]
    simp only [List.append_assoc, List.cons_append]
theorem of_tells (l : List (List UInt8)) (h : Good l) (k : Nat) (hk : 7 < k) : heraldref1_Of.f k (l.map bs) = some (bs (plc l)) := by
  have h6 := h.1
  have hlen := plc_length h
  have hg := glue_length l (fun p hp => (okN_len (h.ok hp)).2)
  have he : tx (⟨#[]⟩ : ByteArray) = [] := rfl
  have := of_loop l (by omega) l.length k 0 ⟨#[]⟩ (Nat.zero_le _) rfl (by rw [he, List.drop_zero]; simp only [List.length_nil]; omega) (by omega)
  rw [he, List.nil_append, List.drop_zero] at this
  unfold heraldref1_Of.f
  refine this.trans ?_
  unfold plc
  cases l with
  | nil => rfl
  | cons p r => rw [if_neg (by simp [glue]), if_neg (by simp)]
theorem refparent_tells (s : ByteArray) (k : Nat) (hk : 141 < k) : heraldref1_Parent.f k s = some (parentB s) := by
  unfold heraldref1_Parent.f
  rw [refparse_tells s k (by omega)]
  simp only [Option.bind_some, parseB]
  unfold parentB parentL
  have hg := parse_good (tx s)
  by_cases h : (parseL (tx s)).2 = 0
  · rw [if_pos h, if_pos h, List.length_map]
    by_cases h0 : (parseL (tx s)).1 = []
    · rw [if_pos h0, h0]; rfl
    · have hpos : 1 ≤ (parseL (tx s)).1.length := by
        cases hh : (parseL (tx s)).1 with
        | nil => exact absurd hh h0
        | cons a b => simp
      have h6 := hg.1
      rw [if_neg (by omega), if_neg h0, wrap_pred hpos (by omega), if_pos (by omega), if_pos (by omega), Int.toNat_natCast, ← List.map_take, ← List.dropLast_eq_take, of_tells _ (good_dropLast hg) k (by omega)]
      rfl
  · rw [if_neg h, if_neg h]
    rfl
theorem refname_tells (s : ByteArray) (k : Nat) (hk : 141 < k) : heraldref1_Name.f k s = some (nameB s) := by
  unfold heraldref1_Name.f
  rw [refparse_tells s k (by omega)]
  simp only [Option.bind_some, parseB]
  unfold nameB nameL
  have hg := parse_good (tx s)
  by_cases h : (parseL (tx s)).2 = 0
  · rw [if_pos h, if_pos h, List.length_map]
    by_cases h0 : (parseL (tx s)).1 = []
    · rw [h0]; rfl
    · have hpos : 1 ≤ (parseL (tx s)).1.length := by
        cases hh : (parseL (tx s)).1 with
        | nil => exact absurd hh h0
        | cons a b => simp
      have h6 := hg.1
      rw [if_neg (by omega), wrap_pred hpos (by omega), if_pos (by omega), if_pos (by omega), rdOf_map _ _ (by omega), last_at _ hpos]
  · rw [if_neg h, if_neg h]
    rfl
theorem is_tells (s : ByteArray) (k : Nat) (hk : 141 < k) : heraldref1_Is.f k s = some ((parseL (tx s)).2 == 0) := by
  unfold heraldref1_Is.f
  rw [refparse_tells s k (by omega)]
  rfl
theorem below_loop (l m : List (List UInt8)) (hlen : m.length ≤ l.length) (hl : l.length ≤ 6) (d : Nat) : ∀ (k i : Nat), i ≤ m.length → m.length - i = d → d < k →
    heraldref1_Below.l0 k (l.map bs) (m.map bs) (i : Int) = some (decide (m.drop i <+: l.drop i)) := by
  induction d with
  | zero =>
    intro k i hi hd hk
    obtain ⟨k, rfl⟩ : ∃ m, k = m + 1 := ⟨k - 1, by omega⟩
    simp only [heraldref1_Below.l0]
    rw [if_neg (by rw [List.length_map]; omega), List.drop_eq_nil_of_le (show m.length ≤ i by omega)]
    simp
  | succ d ih =>
    intro k i hi hd hk
    obtain ⟨k, rfl⟩ : ∃ m, k = m + 1 := ⟨k - 1, by omega⟩
    have hlt : i < m.length := by omega
    have hlt' : i < l.length := by omega
    simp only [heraldref1_Below.l0]
    rw [if_pos (by rw [List.length_map]; omega), if_pos (by omega), if_pos (by rw [List.length_map]; omega), rdOf_map l i hlt', rdOf_map m i hlt, toList_tx, toList_tx, tx_bs, tx_bs,
      List.drop_eq_getElem_cons hlt, List.drop_eq_getElem_cons hlt', wrap_next hlt (by omega), ih k (i + 1) (by omega) (by omega) (by omega)]
    by_cases c : l[i]'hlt' = m[i]'hlt
    · rw [if_pos c, ← c]
      congr 1
      rw [decide_eq_decide, List.cons_prefix_cons]
      exact ⟨fun h => ⟨rfl, h⟩, fun h => h.2⟩
    · rw [if_neg c, decide_eq_false]
      intro hp
      rw [List.cons_prefix_cons] at hp
      exact c hp.1.symm
theorem below_tells (s a : ByteArray) (k : Nat) (hk : 150 < k) : heraldref1_Below.f k s a = some (decide ((parseL (tx a)).1.length < (parseL (tx s)).1.length ∧ (parseL (tx a)).1 <+: (parseL (tx s)).1)) := by
  unfold heraldref1_Below.f
  rw [refparse_tells s k (by omega), refparse_tells a k (by omega)]
  simp only [Option.bind_some, parseB, List.length_map]
  have h1 := (parse_good (tx s)).1
  generalize (parseL (tx s)).1 = l at h1 ⊢
  generalize (parseL (tx a)).1 = m
  by_cases h : l.length ≤ m.length
  · rw [if_pos (by omega), decide_eq_false (by omega)]
  · rw [if_neg (by omega)]
    have := below_loop l m (by omega) h1 _ k 0 (Nat.zero_le _) rfl (by omega)
    rw [show ((0 : Nat) : Int) = 0 from rfl, List.drop_zero, List.drop_zero] at this
    rw [this]
    congr 1
    rw [decide_eq_decide]
    exact ⟨fun hh => ⟨by omega, hh⟩, fun hh => hh.2⟩
theorem refcovers_tells (kind : Int) (w : ByteArray) (ch : Int) (c : ByteArray) (k : Nat) (hk : 200 < k) : heraldref1_Covers.f k kind w ch c = some (coversL kind (tx w) ch (tx c)) := by
  obtain ⟨k, rfl⟩ : ∃ m, k = m + 4 := ⟨k - 4, by omega⟩
  unfold heraldref1_Covers.f
  rw [is_tells w _ (by omega), is_tells c _ (by omega)]
  simp only [Option.bind_some]
  have hgw := parse_good (tx w)
  have hgc := parse_good (tx c)
  have no1 : heraldref1_Covers.j0 (k + 4) kind w ch c false = some false := by
    simp only [heraldref1_Covers.j0, heraldref1_Covers.j1]
    rw [if_neg (by simp), if_pos trivial]
  by_cases h1 : (parseL (tx w)).2 = 0
  · rw [beq_iff_eq.2 h1, if_pos rfl]
    by_cases h2 : (parseL (tx c)).2 = 0
    · rw [beq_iff_eq.2 h2]
      have bw := parse_back h1
      have bc := parse_back h2
      simp only [heraldref1_Covers.j0]
      rw [if_pos trivial]
      by_cases h3 : ch < 1 ∨ ch > 3
      · have e : (if ch < 1 then heraldref1_Covers.j1 (k + 3) kind w ch c true else heraldref1_Covers.j1 (k + 3) kind w ch c (decide (ch > 3))) = some false := by
          rcases h3 with h3 | h3
          · rw [if_pos h3]; simp only [heraldref1_Covers.j1]; rw [if_pos trivial]
          · rw [if_neg (by omega), decide_eq_true h3]; simp only [heraldref1_Covers.j1]; rw [if_pos trivial]
        rw [e]
        unfold coversL
        rw [if_neg (by omega)]
      · rw [if_neg (by omega), decide_eq_false (by omega)]
        simp only [heraldref1_Covers.j1]
        rw [if_neg (by simp)]
        by_cases h4 : kind < 1 ∨ kind > 3
        · have e : (if kind < 1 then heraldref1_Covers.j2 (k + 2) kind w ch c true else heraldref1_Covers.j2 (k + 2) kind w ch c (decide (kind > 3))) = some false := by
            rcases h4 with h4 | h4
            · rw [if_pos h4]; simp only [heraldref1_Covers.j2]; rw [if_pos trivial]
            · rw [if_neg (by omega), decide_eq_true h4]; simp only [heraldref1_Covers.j2]; rw [if_pos trivial]
          rw [e]
          unfold coversL
          rw [if_neg (show ¬ kind = 1 by omega), if_neg (show ¬ kind = 2 by omega), decide_eq_false (show ¬ kind = 3 by omega)]
          simp
        · rw [if_neg (by omega), decide_eq_false (by omega)]
          simp only [heraldref1_Covers.j2]
          rw [if_neg (by simp), toList_tx, toList_tx, below_tells c w _ (by omega)]
          simp only [Option.bind_some]
          have hp : parentL (tx c) = if (parseL (tx c)).1 = [] then ([], 47) else (plc (parseL (tx c)).1.dropLast, 0) := by unfold parentL; rw [if_pos h2]
          have hj3 : ∀ b, heraldref1_Covers.j3 (k + 1) kind w ch c b = if b = true then some false else if kind = 3 then some true else if ch = 2 then some false else some ((parentL (tx c)).1 == tx w) := by
            intro b
            cases b with
            | true => simp [heraldref1_Covers.j3]
            | false =>
              simp only [heraldref1_Covers.j3, Bool.false_eq_true, if_false]
              by_cases k3 : kind = 3
              · rw [if_pos k3, if_pos k3]
              · rw [if_neg k3, if_neg k3, refparent_tells c k (by omega)]
                simp only [Option.bind_some, parentB, toList_tx, tx_bs]
          rw [hj3, hj3]
          unfold coversL
          rw [hp]
          generalize (parseL (tx w)).1 = lw at hgw bw ⊢
          generalize (parseL (tx c)).1 = lc at hgc bc ⊢
          have same : tx c = tx w ↔ lc = lw := by rw [bw, bc]; exact ⟨plc_inj hgc hgw, fun h => by rw [h]⟩
          by_cases e : lc = lw
          · subst e
            have hP : (parseL (tx w)).2 = 0 ∧ (parseL (tx c)).2 = 0 ∧ 1 ≤ ch ∧ ch ≤ 3 ∧ lc <+: lc := ⟨h1, h2, by omega, by omega, List.prefix_refl _⟩
            rw [if_pos (same.2 rfl), if_pos hP]
            by_cases k1 : kind = 1
            · rw [if_neg (show ¬ kind = 2 by omega), if_pos k1]; simp
            · rw [if_neg k1]
              by_cases k2 : kind = 2
              · rw [if_pos k2, if_pos k2]
                congr 1
                rw [Bool.eq_iff_iff, bne_iff_ne, decide_eq_true_eq]
                exact ⟨fun h => ⟨h, by omega⟩, fun h => h.1⟩
              · rw [if_neg k2, if_neg k2, decide_eq_true (show kind = 3 by omega)]
          · rw [if_neg (fun h => e (same.1 h))]
            by_cases hpre : lw <+: lc
            · have hlt : lw.length < lc.length := by
                have := hpre.length_le
                rcases Nat.lt_or_ge lw.length lc.length with h | h
                · exact h
                · exact absurd (hpre.eq_of_length (by omega)).symm e
              have hP : (parseL (tx w)).2 = 0 ∧ (parseL (tx c)).2 = 0 ∧ 1 ≤ ch ∧ ch ≤ 3 ∧ lw <+: lc := ⟨h1, h2, by omega, by omega, hpre⟩
              rw [decide_eq_true (show lw.length < lc.length ∧ lw <+: lc from ⟨hlt, hpre⟩), if_pos rfl, if_pos hP]
              by_cases k1 : kind = 1
              · rw [if_pos k1, beq_iff_eq.2 k1, if_pos rfl, decide_eq_false (by omega)]
              · rw [if_neg k1, beq_eq_false_iff_ne.2 k1, if_neg Bool.false_ne_true]
                by_cases k3 : kind = 3
                · rw [if_pos k3, if_neg (show ¬ kind = 2 by omega), decide_eq_true k3]
                · rw [if_neg k3, if_pos (show kind = 2 by omega)]
                  by_cases c2 : ch = 2
                  · rw [if_pos c2, decide_eq_false (fun h => h.1 c2)]
                  · rw [if_neg c2, if_neg (show ¬ lc = [] by intro h; subst h; simp at hlt)]
                    congr 1
                    rw [Bool.eq_iff_iff, beq_iff_eq, decide_eq_true_eq, bw]
                    constructor
                    · intro h
                      have := plc_inj (good_dropLast hgc) hgw h
                      refine ⟨c2, ?_⟩
                      rw [← this, List.length_dropLast]
                      omega
                    · intro h
                      have : lc.dropLast = lw := by
                        rw [List.dropLast_eq_take]
                        obtain ⟨t, rfl⟩ := hpre
                        rw [List.length_append] at h hlt ⊢
                        rw [show lw.length + t.length - 1 = lw.length by omega, List.take_left']
                        rfl
                      rw [this]
            · rw [decide_eq_false (show ¬ (lw.length < lc.length ∧ lw <+: lc) from fun h => hpre h.2), if_neg Bool.false_ne_true, if_pos rfl, if_neg (fun h => hpre h.2.2.2.2)]
    · rw [beq_eq_false_iff_ne.2 h2, no1]
      unfold coversL
      rw [if_neg (fun h => h2 h.2.1)]
  · rw [beq_eq_false_iff_ne.2 h1, if_neg (by simp), no1]
    unfold coversL
    rw [if_neg (fun h => h1 h.1)]
end Go.Proofs.YtfdinkofcjcahaaDoor.Pl
