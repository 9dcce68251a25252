/- What a name is, in plain Lean: bytes, lists of bytes. No program in sight. -/
import Derived.Test.YtfdinkofcjcahaaDoorOrd
namespace Go.Proofs.YtfdinkofcjcahaaDoor.Name
open Go.RowKit Go.Proofs.YtfdinkofcjcahaaDoor.Ord

/-- A byte that may stand in a name. -/
def okB (c : UInt8) : Bool := (97 ≤ c && c ≤ 122) || (65 ≤ c && c ≤ 90) || (48 ≤ c && c ≤ 57) || c == 95 || c == 45 || c == 46
def okN (l : List UInt8) : Bool := decide (1 ≤ l.length) && decide (l.length ≤ 16) && !(l == [46]) && !(l == [46, 46]) && l.all okB
/-- The table's entry. -/
def tab (i : Nat) : Int := if okB (UInt8.ofNat i) then 1 else 0
theorem tab_of (c : UInt8) : tab c.toNat = if okB c then 1 else 0 := by
  unfold tab
  rw [UInt8.ofNat_toNat]
theorem okB_small (c : UInt8) (h : 128 ≤ c.toNat) : okB c = false := by
  unfold okB
  have h1 : ¬ c ≤ 122 := by rw [UInt8.le_iff_toNat_le]; simp; omega
  have h2 : ¬ c ≤ 90 := by rw [UInt8.le_iff_toNat_le]; simp; omega
  have h3 : ¬ c ≤ 57 := by rw [UInt8.le_iff_toNat_le]; simp; omega
  have h4 : c ≠ 95 := by rintro rfl; simp at h
  have h5 : c ≠ 45 := by rintro rfl; simp at h
  have h6 : c ≠ 46 := by rintro rfl; simp at h
  simp [h1, h2, h3, h4, h5, h6]
theorem all_snoc (s : ByteArray) (i : Nat) (h : i < s.size) : ((tx s).take (i + 1)).all okB = (((tx s).take i).all okB && okB (s[i]'h)) := by
  rw [List.take_succ_eq_append_getElem (by rw [tx_length]; exact h), List.all_append]
  simp [tx]
  rfl
theorem all_false (s : ByteArray) (i : Nat) (h : i < s.size) (hc : okB (s[i]'h) = false) : (tx s).all okB = false := by
  rw [List.all_eq_false]
  exact ⟨s[i]'h, List.getElem_mem (l := tx s) (by rw [tx_length]; exact h), by simp [hc]⟩
end Go.Proofs.YtfdinkofcjcahaaDoor.Name
