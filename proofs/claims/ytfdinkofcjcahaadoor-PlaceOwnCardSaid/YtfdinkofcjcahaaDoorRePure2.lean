/- The document's Join and Counted: what the printed functions answer. No walk in sight. -/
import Derived.Test.YtfdinkofcjcahaaDoorRePure
namespace Go.Proofs.YtfdinkofcjcahaaDoor.Pl
open Go.RowKit Go.Proofs.YtfdinkofcjcahaaDoor.Ord Go.Proofs.YtfdinkofcjcahaaDoor.Name Go.Proofs.YtfdinkofcjcahaaDoor.Ext Go.Proofs.YtfdinkofcjcahaaDoor.PRe Go.Proofs.YtfdinkofcjcahaaDoorW.PrintWords

theorem refjoin_names (m : List (List UInt8)) (hm : m.length ≤ 140737488351232) (d : Nat) : ∀ (k i : Nat) (l : List (List UInt8)), Good l → i ≤ m.length → m.length - i = d → d + 22 < k →
    heraldref1_Join.l1 k (m.map bs) (l.map bs) (i : Int) = some (if (m.drop i).all okN = true ∧ l.length + (m.drop i).length ≤ 6 then (bs (plc (l ++ m.drop i)), 0) else (bs [], 10)) := by
  induction d with
  | zero =>
    intro k i l hg hi hd hk
    obtain ⟨k, rfl⟩ : ∃ m, k = m + 1 := ⟨k - 1, by omega⟩
    simp only [heraldref1_Join.l1]
    rw [if_neg (by rw [List.length_map]; omega), List.drop_eq_nil_of_le (by omega), of_tells l hg k (by omega), if_pos ⟨rfl, by simpa using hg.1⟩]
    simp
  | succ d ih =>
    intro k i l hg hi hd hk
    obtain ⟨k, rfl⟩ : ∃ m, k = m + 1 := ⟨k - 1, by omega⟩
    have hlt : i < m.length := by omega
    have hg1 := hg.1
    simp only [heraldref1_Join.l1]
    rw [if_pos (by rw [List.length_map]; omega), if_pos (by omega), rdOf_map m i hlt, nameOf_bs _ k (by omega)]
    simp only [Option.bind_some]
    rw [all_drop hlt, List.drop_eq_getElem_cons hlt]
    by_cases c : okN (m[i]'hlt) = true
    · rw [if_pos c, if_pos (by rw [List.length_map]; omega)]
      by_cases c6 : l.length = 6
      · rw [if_pos (by rw [List.length_append, List.length_map]; simp; omega), if_neg (by simp only [List.length_cons]; omega)]
        rfl
      · rw [if_neg (by rw [List.length_append, List.length_map]; simp; omega), wrap_next hlt (by omega)]
        have hg' : Good (l ++ [m[i]'hlt]) := good_append hg (by simp [c]) (by simp; omega)
        have := ih k (i + 1) _ hg' (by omega) (by omega) (by omega)
        rw [List.map_append, List.map_cons, List.map_nil] at this
        rw [this, c, Bool.true_and]
        simp only [List.append_assoc, List.singleton_append, List.length_append, List.length_cons, List.length_nil]
        congr 1
        by_cases c7 : (List.drop (i + 1) m).all okN = true ∧ l.length + ((List.drop (i + 1) m).length + 1) ≤ 6
        · rw [if_pos ⟨c7.1, by omega⟩, if_pos c7]
        · rw [if_neg (fun h => c7 ⟨h.1, by omega⟩), if_neg c7]
    · rw [if_neg c, if_neg (fun h => by rw [Bool.eq_false_iff.2 c] at h; simp at h)]
      rfl
theorem refjoin_copy (m l : List (List UInt8)) (hm : m.length ≤ 140737488351232) (hg : Good l) (d : Nat) : ∀ (k i : Nat), i ≤ l.length → l.length - i = d → d + m.length + 24 < k →
    heraldref1_Join.l0 k (m.map bs) (l.map bs) ((l.take i).map bs) (i : Int) = some (if m.all okN = true ∧ l.length + m.length ≤ 6 then (bs (plc (l ++ m)), 0) else (bs [], 10)) := by
  induction d with
  | zero =>
    intro k i hi hd hk
    obtain ⟨k, rfl⟩ : ∃ m, k = m + 1 := ⟨k - 1, by omega⟩
    simp only [heraldref1_Join.l0]
    rw [if_neg (by rw [List.length_map]; omega), List.take_of_length_le (by omega)]
    have := refjoin_names m hm _ k 0 l hg (Nat.zero_le _) rfl (by omega)
    rw [show ((0 : Nat) : Int) = 0 from rfl, List.drop_zero] at this
    exact this
  | succ d ih =>
    intro k i hi hd hk
    obtain ⟨k, rfl⟩ : ∃ m, k = m + 1 := ⟨k - 1, by omega⟩
    have hlt : i < l.length := by omega
    have h6 := hg.1
    simp only [heraldref1_Join.l0]
    rw [if_pos (by rw [List.length_map]; omega), if_pos (by omega), if_pos (by rw [List.length_map, List.length_take]; omega), rdOf_map l i hlt, wrap_next hlt (by omega)]
    have := ih k (i + 1) (by omega) (by omega) (by omega)
    rw [List.take_succ_eq_append_getElem hlt, List.map_append] at this
    exact this
theorem refjoinB_tells (s : ByteArray) (m : List (List UInt8)) (hm : m.length ≤ 140737488351232) (k : Nat) (hk : m.length + 200 < k) : heraldref1_Join.f k s (m.map bs) = some (joinB s m) := by
  unfold heraldref1_Join.f
  rw [refparse_tells s k (by omega)]
  simp only [Option.bind_some, parseB]
  unfold joinB joinL
  have hg := parse_good (tx s)
  by_cases h : (parseL (tx s)).2 = 0
  · rw [if_pos h, if_pos h]
    have := refjoin_copy m _ hm hg _ k 0 (Nat.zero_le _) rfl (by have := hg.1; omega)
    rw [show ((0 : Nat) : Int) = 0 from rfl, List.take_zero] at this
    refine this.trans ?_
    by_cases c : m.all okN = true ∧ (parseL (tx s)).1.length + m.length ≤ 6
    · rw [if_pos c, if_pos c]
    · rw [if_neg c, if_neg c]
  · rw [if_neg h, if_neg h]
    rfl

def countedB (s : ByteArray) (n : Int) : ByteArray × Int := (bs (countedL (tx s) n).1, (countedL (tx s) n).2)
theorem wrap_ident (q : Nat) (h : q ≤ 99999) : wrap64 (q : Int) = q := by unfold wrap64; omega
theorem wrap_digit (q : Nat) (h : q < 10) : wrap64 (48 + (q : Int)) % 256 = ((48 + q : Nat) : Int) := by unfold wrap64; omega
theorem tdiv_nat (n b : Nat) : Int.tdiv (n : Int) (b : Int) = ((n / b : Nat) : Int) := by
  rw [Int.tdiv_eq_ediv_of_nonneg (Int.natCast_nonneg _), Int.natCast_ediv]
theorem tmod_ten (n : Nat) : Int.tmod (n : Int) 10 = ((n % 10 : Nat) : Int) := by
  rw [Int.tmod_eq_emod_of_nonneg (Int.natCast_nonneg _), Int.natCast_emod]; rfl
theorem str_one (q : Nat) : strOfNums [(q : Int)] = bs [UInt8.ofNat q] := by simp [strOfNums, bs]
theorem bs_append (a b : List UInt8) : bs a ++ bs b = bs (a ++ b) := by
  rw [← bs_tx (bs a ++ bs b)]
  congr 1
  all_goals simp [tx, bs]
theorem digit_round (s : List UInt8) (n b : Nat) (hb : 1 ≤ b) (hs : s.length ≤ 1000) (k : Nat) (d : Nat) (hd : n / b = d) (hd9 : d ≤ 99999) (hb2 : b / 10 ≤ 99999) :
    heraldref1_Counted.l0 (k + 1) (n : Int) (bs s) (b : Int) = heraldref1_Counted.l0 k (n : Int) (bs (s ++ [UInt8.ofNat (48 + d % 10)])) ((b / 10 : Nat) : Int) := by
  have hm : d % 10 < 10 := Nat.mod_lt _ (by omega)
  have b0 : (b : Int) > 0 := by omega
  have b1 : ¬ (b : Int) = 0 := by omega
  have e1 : Int.tdiv (b : Int) 10 = ((b / 10 : Nat) : Int) := tdiv_nat b 10
  simp only [heraldref1_Counted.l0]
  rw [if_pos b0, if_neg b1, tdiv_nat, hd, wrap_ident d hd9, tmod_ten, wrap_digit _ hm, e1, wrap_ident _ hb2, Option.bind_some, str_one, bs_append, bs_size, bs_size,
    if_pos (show s.length + [UInt8.ofNat (48 + d % 10)].length ≤ 9223372036854775807 by simp; omega)]
theorem digit_step (s : ByteArray) (n b : Nat) (hn : n ≤ 99999) (hb : 1 ≤ b) (hb2 : b ≤ 10000) (hs : s.size ≤ 1000) (k : Nat) :
    heraldref1_Counted.l0 (k + 1) (n : Int) s (b : Int) = heraldref1_Counted.l0 k (n : Int) (bs (tx s ++ [UInt8.ofNat (48 + n / b % 10)])) ((b / 10 : Nat) : Int) := by
  have := digit_round (tx s) n b hb (by rw [tx_length]; exact hs) k (n / b) rfl (Nat.le_trans (Nat.div_le_self _ _) hn) (by omega)
  rwa [bs_tx] at this
theorem refcounted_tells (s : ByteArray) (n : Int) (k : Nat) (hk : 200 < k) : heraldref1_Counted.f k s n = some (countedB s n) := by
  obtain ⟨k, rfl⟩ : ∃ m, k = m + 7 := ⟨k - 7, by omega⟩
  unfold heraldref1_Counted.f
  rw [refparse_tells s _ (by omega)]
  simp only [Option.bind_some, parseB]
  unfold countedB countedL
  have hg := parse_good (tx s)
  have no : heraldref1_Counted.j0 (k + 7) s n true = some (bs [], 1) := by simp only [heraldref1_Counted.j0]; rw [if_pos trivial]; rfl
  by_cases h : (parseL (tx s)).2 = 0
  · have hlen := plc_length hg
    rw [← parse_back h, tx_length] at hlen
    rw [if_pos h, if_pos h, List.length_map]
    by_cases h0 : (parseL (tx s)).1 = []
    · rw [if_pos h0, h0]; rfl
    · have hpos : 1 ≤ (parseL (tx s)).1.length := by
        cases hh : (parseL (tx s)).1 with
        | nil => exact absurd hh h0
        | cons a b => simp
      have h6 := hg.1
      rw [if_neg (by omega), if_neg h0, wrap_pred hpos (by omega), if_pos (by omega), if_pos (by omega), rdOf_map _ _ (by omega), last_at _ hpos, bs_size]
      by_cases h11 : (lastL (parseL (tx s)).1).length > 11
      · rw [if_pos (by omega), if_pos h11]; rfl
      · rw [if_neg (by omega), if_neg h11]
        by_cases hn : n < 0 ∨ n > 99999
        · rw [if_pos hn]
          rcases hn with hn | hn
          · rw [if_pos hn, no]
          · rw [if_neg (by omega), decide_eq_true hn, no]
        · rw [if_neg hn, if_neg (by omega), decide_eq_false (by omega)]
          obtain ⟨m, rfl⟩ := Int.eq_ofNat_of_zero_le (show 0 ≤ n by omega)
          rw [Int.toNat_natCast]
          simp only [heraldref1_Counted.j0]
          rw [if_neg (by simp)]
          have z := fun (t : ByteArray) (ht : t.size ≤ 1000) b hb hb2 k => digit_step t m b (by omega) hb hb2 ht k
          have l1 : ∀ (t : List UInt8) (c : UInt8), t.length ≤ 200 → (bs (t ++ [c])).size ≤ 1000 := by intro t c ht; rw [bs_size]; simp; omega
          have hts := tx_length s
          rw [show (10000 : Int) = ((10000 : Nat) : Int) from rfl, z s (by omega) 10000 (by omega) (by omega)]
          rw [show 10000 / 10 = 1000 from rfl, z _ (l1 _ _ (by omega)) 1000 (by omega) (by omega), tx_bs]
          rw [show 1000 / 10 = 100 from rfl, z _ (l1 _ _ (by simp; omega)) 100 (by omega) (by omega), tx_bs]
          rw [show 100 / 10 = 10 from rfl, z _ (l1 _ _ (by simp; omega)) 10 (by omega) (by omega), tx_bs]
          rw [show 10 / 10 = 1 from rfl, z _ (l1 _ _ (by simp; omega)) 1 (by omega) (by omega), tx_bs]
          simp only [heraldref1_Counted.l0, dig5, Nat.div_one]
          rw [if_neg (by simp)]
          simp
  · rw [if_neg h, if_neg h]
    rfl
end Go.Proofs.YtfdinkofcjcahaaDoor.Pl
