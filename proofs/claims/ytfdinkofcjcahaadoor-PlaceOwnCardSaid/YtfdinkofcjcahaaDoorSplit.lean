/- strings.Split at a slash is the list of pieces; strings.Join with slashes and one ahead is the place. Plain Lean. -/
import Derived.Test.YtfdinkofcjcahaaDoorApiSpec
import Derived.Test.YtfdinkofcjcahaaDoorShelfed
namespace Go.Proofs.YtfdinkofcjcahaaDoor.Pl
open Go.RowKit Go.Proofs.YtfdinkofcjcahaaDoor.Ord Go.Proofs.YtfdinkofcjcahaaDoor.Name Go.Proofs.YtfdinkofcjcahaaDoor.Ext

theorem splitK_pcs : ∀ l : List UInt8, Lib.splitK [47] 0 (Lib.count l [47]) l = pcs l
  | [] => by rw [Lib.count_one]; rfl
  | b :: l => by
    have ih := splitK_pcs l
    by_cases hb : b = 47
    · subst hb
      have hix : Lib.index (47 :: l) [47] = 0 := by rw [Lib.index]; simp [List.isPrefixOf]
      rw [Lib.count_cons_eq, Nat.add_comm, Lib.splitK, hix, pcs, if_pos rfl]
      simp [ih]
    · rw [Lib.count_cons_ne b 47 l hb, pcs, if_neg hb]
      have hp : ([47] : List UInt8).isPrefixOf (b :: l) = false := by simp [List.isPrefixOf, Ne.symm hb]
      have hix : Lib.index (b :: l) [47] = if Lib.index l [47] == -1 then -1 else Lib.index l [47] + 1 := by rw [Lib.index, hp]; simp
      cases hc : Lib.count l [47] with
      | zero =>
        rw [hc] at ih
        rw [← ih]
        rfl
      | succ k =>
        rw [hc] at ih
        have hne : Lib.index l [47] ≠ -1 := by intro e; rw [Lib.count_miss e] at hc; omega
        have hge := Lib.index_ge l [47]
        have hm : ¬ ((Lib.index l [47] == -1) = true) := fun e => hne (beq_iff_eq.1 e)
        rw [Lib.splitK, if_neg hm] at ih
        rw [Lib.splitK, hix, if_neg hm, if_neg (by rw [beq_iff_eq]; omega), ← ih]
        have e1 : (Lib.index l [47] + 1).toNat = (Lib.index l [47]).toNat + 1 := by omega
        rw [e1]
        simp [List.take_succ_cons]
theorem split_slash (s : ByteArray) (h : s.size < 4294967281) : strings_Split.f s (⟨#[47]⟩ : ByteArray) = some ((pcs (tx s)).map bs) := by
  unfold strings_Split.f
  rw [if_pos h, if_pos (by decide)]
  congr 1
  have := Lib.splitB_data (⟨#[47]⟩ : ByteArray) 0 (Lib.countB s ⟨#[47]⟩) s
  have e : (Lib.splitB (⟨#[47]⟩ : ByteArray) 0 (Lib.countB s ⟨#[47]⟩) s).map (·.data.toList) = pcs (tx s) := by rw [this]; exact splitK_pcs _
  rw [← e, List.map_map]
  conv => lhs; rw [← List.map_id (Lib.splitB _ _ _ _)]
  exact List.map_congr_left fun x _ => (bs_tx x).symm
theorem join_glue : ∀ l : List (List UInt8), l ≠ [] → 47 :: Lib.join l [47] = glue l
  | [], h => absurd rfl h
  | [p], _ => by simp [Lib.join, glue, List.intercalate, List.intersperse]
  | p :: q :: r, _ => by
    have ih := join_glue (q :: r) (by simp)
    have e : Lib.join (p :: q :: r) [47] = p ++ 47 :: Lib.join (q :: r) [47] := by
      simp [Lib.join, List.intercalate, List.intersperse]
    rw [e, ih]
    rfl
theorem join_plc (l : List (List UInt8)) : 47 :: Lib.join l [47] = plc l := by
  unfold plc
  split
  · rename_i h; subst h; rfl
  · rename_i h; exact join_glue l h
end Go.Proofs.YtfdinkofcjcahaaDoor.Pl
