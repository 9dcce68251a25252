/- The order of texts byte by byte, the slash lowest: a line. Plain Lean, no program in sight. -/
import Derived.RowKit
namespace Go.Proofs.YtfdinkofcjcahaaDoor.Ord
open Go.RowKit

def wt (c : UInt8) : Int := if c = 47 then -1 else (c.toNat : Int)

def ordL : List UInt8 → List UInt8 → Int
  | [], [] => 0
  | [], _ :: _ => -1
  | _ :: _, [] => 1
  | x :: xs, y :: ys => if wt x < wt y then -1 else if wt x > wt y then 1 else ordL xs ys

theorem wt_inj {x y : UInt8} (h : wt x = wt y) : x = y := by
  unfold wt at h
  split at h <;> split at h
  · simp_all
  · omega
  · omega
  · exact UInt8.toNat_inj.1 (by omega)

theorem wt_range (x : UInt8) : -1 ≤ wt x ∧ wt x ≤ 255 := by
  have := x.toNat_lt
  unfold wt
  split <;> omega

theorem ordL_range : ∀ a b : List UInt8, ordL a b = -1 ∨ ordL a b = 0 ∨ ordL a b = 1
  | [], [] => by simp [ordL]
  | [], _ :: _ => by simp [ordL]
  | _ :: _, [] => by simp [ordL]
  | x :: xs, y :: ys => by
    unfold ordL
    split
    · simp
    · split
      · simp
      · exact ordL_range xs ys

theorem ordL_swap : ∀ a b : List UInt8, ordL b a = -ordL a b
  | [], [] => by simp [ordL]
  | [], _ :: _ => by simp [ordL]
  | _ :: _, [] => by simp [ordL]
  | x :: xs, y :: ys => by
    unfold ordL
    by_cases h1 : wt x < wt y
    · rw [if_neg (by omega), if_pos (by omega), if_pos h1]; simp
    · by_cases h2 : wt x > wt y
      · rw [if_pos (by omega), if_neg h1, if_pos h2]
      · rw [if_neg (by omega), if_neg (by omega), if_neg h1, if_neg h2]
        exact ordL_swap xs ys

theorem ordL_self : ∀ a : List UInt8, ordL a a = 0
  | [] => by simp [ordL]
  | x :: xs => by
    unfold ordL
    rw [if_neg (by omega), if_neg (by omega)]
    exact ordL_self xs

theorem ordL_zero : ∀ a b : List UInt8, ordL a b = 0 ↔ a = b
  | [], [] => by simp [ordL]
  | [], _ :: _ => by simp [ordL]
  | _ :: _, [] => by simp [ordL]
  | x :: xs, y :: ys => by
    unfold ordL
    by_cases h1 : wt x < wt y
    · rw [if_pos h1]
      constructor
      · intro h; omega
      · intro h; injection h with h _; subst h; omega
    · by_cases h2 : wt x > wt y
      · rw [if_neg h1, if_pos h2]
        constructor
        · intro h; omega
        · intro h; injection h with h _; subst h; omega
      · rw [if_neg h1, if_neg h2, ordL_zero xs ys]
        have : x = y := wt_inj (by omega)
        subst this
        simp

/-- Two steps that do not go up do not go up together; if one goes down, so do both together. -/
theorem ordL_trans : ∀ a b c : List UInt8, ordL a b ≤ 0 → ordL b c ≤ 0 → ordL a c ≤ 0 ∧ (ordL a b < 0 ∨ ordL b c < 0 → ordL a c < 0)
  | [], [], [] => by simp [ordL]
  | [], [], _ :: _ => by simp [ordL]
  | [], _ :: _, [] => by simp [ordL]
  | [], _ :: _, _ :: _ => by simp [ordL]
  | _ :: _, [], _ => by simp [ordL]
  | _ :: _, _ :: _, [] => by simp [ordL]
  | x :: xs, y :: ys, z :: zs => by
    intro h1 h2
    unfold ordL at h1 h2 ⊢
    have ih := ordL_trans xs ys zs
    repeat' (split at h1) <;> repeat' (split at h2)
    all_goals first
      | omega
      | (rw [if_pos (by omega)]; simp)
      | (rw [if_neg (by omega), if_neg (by omega)]
         have := ih h1 h2
         rw [if_neg (by omega), if_neg (by omega), if_neg (by omega), if_neg (by omega)]
         exact this)

/-- The byte-wise text of a ByteArray. -/
def tx (s : ByteArray) : List UInt8 := s.data.toList
theorem tx_length (s : ByteArray) : (tx s).length = s.size := by simp [tx]
theorem tx_inj {a b : ByteArray} : tx a = tx b ↔ a = b := by
  constructor
  · intro h
    cases a; cases b
    simp only [tx] at h
    congr
    exact Array.toList_inj.1 h
  · intro h; rw [h]
theorem drop_cons (s : ByteArray) (i : Nat) (h : i < s.size) : (tx s).drop i = (s[i]'h) :: (tx s).drop (i + 1) := by
  rw [List.drop_eq_getElem_cons (by rw [tx_length]; exact h)]
  rfl
theorem drop_end (s : ByteArray) (i : Nat) (h : s.size ≤ i) : (tx s).drop i = [] := List.drop_eq_nil_of_le (by rw [tx_length]; exact h)
theorem wrap_small {i : Int} (h0 : -9223372036854775808 ≤ i) (h1 : i ≤ 9223372036854775807) : wrap64 i = i := by
  unfold wrap64
  omega
end Go.Proofs.YtfdinkofcjcahaaDoor.Ord
