/- Counted places in plain Lean: five digits more make a place, ordered as the counters are. -/
import Derived.Test.YtfdinkofcjcahaaDoorLawsA
namespace Go.Proofs.YtfdinkofcjcahaaDoor.Law
open Go.RowKit Go.Proofs.YtfdinkofcjcahaaDoor.Ext Go.Proofs.YtfdinkofcjcahaaDoor.PPl Go.Proofs.YtfdinkofcjcahaaDoor.Pl Go.Proofs.YtfdinkofcjcahaaDoor.Ord Go.Proofs.YtfdinkofcjcahaaDoorW.PrintWords Go.Proofs.YtfdinkofcjcahaaDoor.Name

theorem ord_same (t : List UInt8) (x y : List UInt8) : ordL (t ++ x) (t ++ y) = ordL x y := by
  induction t with
  | nil => rfl
  | cons c t ih => rw [List.cons_append, List.cons_append, ordL, if_neg (by omega), if_neg (by omega), ih]
theorem wt_digit {d : Nat} (h : d < 10) : wt (UInt8.ofNat (48 + d)) = ((48 + d : Nat) : Int) := by
  have h1 : (UInt8.ofNat (48 + d)).toNat = 48 + d := by
    rw [UInt8.toNat_ofNat']
    omega
  unfold wt
  rw [if_neg, h1]
  intro e
  have := congrArg UInt8.toNat e
  rw [h1] at this
  have h2 : (47 : UInt8).toNat = 47 := rfl
  omega
theorem ord_digit {x y : Nat} (hx : x < 10) (hy : y < 10) (r s : List UInt8) : ordL (UInt8.ofNat (48 + x) :: r) (UInt8.ofNat (48 + y) :: s) = if x < y then -1 else if x > y then 1 else ordL r s := by
  rw [ordL, wt_digit hx, wt_digit hy]
  by_cases h1 : x < y
  · rw [if_pos (by omega), if_pos h1]
  · rw [if_neg (by omega), if_neg h1]
    by_cases h2 : x > y
    · rw [if_pos (by omega), if_pos h2]
    · rw [if_neg (by omega), if_neg h2]
theorem ord_five {x1 x2 x3 x4 x5 y1 y2 y3 y4 y5 : Nat} (h1 : x1 < 10) (h2 : x2 < 10) (h3 : x3 < 10) (h4 : x4 < 10) (h5 : x5 < 10) (g1 : y1 < 10) (g2 : y2 < 10) (g3 : y3 < 10) (g4 : y4 < 10) (g5 : y5 < 10) :
    ordL [UInt8.ofNat (48 + x1), UInt8.ofNat (48 + x2), UInt8.ofNat (48 + x3), UInt8.ofNat (48 + x4), UInt8.ofNat (48 + x5)] [UInt8.ofNat (48 + y1), UInt8.ofNat (48 + y2), UInt8.ofNat (48 + y3), UInt8.ofNat (48 + y4), UInt8.ofNat (48 + y5)] =
      if x1 * 10000 + x2 * 1000 + x3 * 100 + x4 * 10 + x5 < y1 * 10000 + y2 * 1000 + y3 * 100 + y4 * 10 + y5 then -1 else if x1 * 10000 + x2 * 1000 + x3 * 100 + x4 * 10 + x5 = y1 * 10000 + y2 * 1000 + y3 * 100 + y4 * 10 + y5 then 0 else 1 := by
  rw [ord_digit h1 g1, ord_digit h2 g2, ord_digit h3 g3, ord_digit h4 g4, ord_digit h5 g5, ordL]
  repeat' split
  all_goals omega
theorem five_digits (n : Nat) (h : n ≤ 99999) : n / 10000 % 10 * 10000 + n / 1000 % 10 * 1000 + n / 100 % 10 * 100 + n / 10 % 10 * 10 + n % 10 = n := by omega
theorem ord_dig5 {a b : Nat} (ha : a ≤ 99999) (hb : b ≤ 99999) : ordL (dig5 a) (dig5 b) = if a < b then -1 else if a = b then 0 else 1 := by
  unfold dig5
  rw [ord_five (by omega) (by omega) (by omega) (by omega) (by omega) (by omega) (by omega) (by omega) (by omega) (by omega), five_digits a ha, five_digits b hb]
theorem dig_ok (n : Nat) : (dig5 n).all okB = true := by
  have h : ∀ d, d < 10 → okB (UInt8.ofNat (48 + d)) = true := by decide
  unfold dig5
  rw [List.all_cons, List.all_cons, List.all_cons, List.all_cons, List.all_cons, List.all_nil, h _ (by omega), h _ (by omega), h _ (by omega), h _ (by omega), h _ (by omega)]
  rfl
theorem okN_dig {q : List UInt8} (h : okN q = true) (hl : q.length ≤ 11) (n : Nat) : okN (q ++ dig5 n) = true := by
  have h1 := okN_len h
  have h2 : (dig5 n).length = 5 := rfl
  have h3 : q.all okB = true := by
    unfold okN at h
    simp only [Bool.and_eq_true] at h
    exact h.2
  unfold okN
  rw [List.all_append, h3, dig_ok]
  have h4 : (q ++ dig5 n).length = q.length + 5 := by rw [List.length_append, h2]
  rw [h4, decide_eq_true (by omega : 1 ≤ q.length + 5), decide_eq_true (by omega : q.length + 5 ≤ 16)]
  have h5 : (q ++ dig5 n == [46]) = false := beq_eq_false_iff_ne.2 (fun e => by have := congrArg List.length e; rw [h4] at this; simp at this)
  have h6 : (q ++ dig5 n == [46, 46]) = false := beq_eq_false_iff_ne.2 (fun e => by have := congrArg List.length e; rw [h4] at this; simp at this)
  rw [h5, h6]
  rfl
theorem glue_snoc (l : List (List UInt8)) (q : List UInt8) : glue (l ++ [q]) = glue l ++ 47 :: q := by
  induction l with
  | nil => simp [glue]
  | cons p r ih => simp only [List.cons_append, glue, ih]; simp
/-- What is known where Counted succeeds. -/
structure Cnt (t : List UInt8) (n : Int) : Prop where mk ::
  place : (parseL t).2 = 0
  some_ : (parseL t).1 ≠ []
  last : (lastL (parseL t).1).length ≤ 11
  lo : 0 ≤ n
  hi : n ≤ 99999
theorem counted_cases (t : List UInt8) (n : Int) : (Cnt t n ∧ countedL t n = (t ++ dig5 n.toNat, 0)) ∨ ((countedL t n).2 ≠ 0 ∧ (countedL t n).1 = []) := by
  unfold countedL
  by_cases h1 : (parseL t).2 = 0
  · rw [if_pos h1]
    by_cases h2 : (parseL t).1 = []
    · rw [if_pos h2]; exact .inr ⟨by simp, rfl⟩
    · rw [if_neg h2]
      by_cases h3 : (lastL (parseL t).1).length > 11
      · rw [if_pos h3]; exact .inr ⟨by simp, rfl⟩
      · rw [if_neg h3]
        by_cases h4 : n < 0 ∨ n > 99999
        · rw [if_pos h4]; exact .inr ⟨by simp, rfl⟩
        · rw [if_neg h4]; exact .inl ⟨⟨h1, h2, by omega, by omega, by omega⟩, rfl⟩
  · rw [if_neg h1]; exact .inr ⟨h1, rfl⟩
theorem counted_parse {t : List UInt8} {n : Int} (h : Cnt t n) : ∃ l q, (parseL t).1 = l ++ [q] ∧ parseL (t ++ dig5 n.toNat) = (l ++ [q ++ dig5 n.toNat], 0) := by
  obtain ⟨l, q, hl⟩ : ∃ l q, (parseL t).1 = l ++ [q] := ⟨_, _, (List.dropLast_concat_getLast h.some_).symm⟩
  refine ⟨l, q, hl, ?_⟩
  have hG := parse_good t
  have hb := parse_back h.place
  have hq : q.length ≤ 11 := by
    have := h.last
    rw [hl] at this
    simpa [lastL] using this
  rw [hl] at hG hb
  have hok : okN q = true := hG.ok (by simp)
  have hG' : Pl.Good (l ++ [q ++ dig5 n.toNat]) := by
    refine ⟨by have := hG.1; simpa using this, ?_⟩
    have := hG.2
    rw [List.all_append, Bool.and_eq_true] at this ⊢
    refine ⟨this.1, ?_⟩
    simp [okN_dig hok hq]
  have he : t ++ dig5 n.toNat = plc (l ++ [q ++ dig5 n.toNat]) := by
    rw [hb, show plc (l ++ [q]) = glue (l ++ [q]) from if_neg (by simp), show plc (l ++ [q ++ dig5 n.toNat]) = glue (l ++ [q ++ dig5 n.toNat]) from if_neg (by simp), glue_snoc, glue_snoc]
    simp
  rw [he, parse_plc hG']
theorem counted_parent {t : List UInt8} {n : Int} (h : Cnt t n) : parentL (t ++ dig5 n.toNat) = parentL t ∧ (parentL t).2 = 0 := by
  obtain ⟨l, q, hl, hp⟩ := counted_parse h
  unfold parentL
  rw [hp, if_pos h.place, if_neg h.some_, hl]
  simp
end Go.Proofs.YtfdinkofcjcahaaDoor.Law
