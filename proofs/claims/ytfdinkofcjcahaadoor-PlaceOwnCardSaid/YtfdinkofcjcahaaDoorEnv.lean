/- What the walks know of the package-level variables: the table of names' bytes, and the library's own numbers; carried from world to world. -/
import Derived.Test.YtfdinkofcjcahaaDoorName
import Derived.Test.YtfdinkofcjcahaaDoorWMore
import Derived.Test.YtfdinkofcjcahaaDoorShelf
import Derived.HandedShaped
import Derived.Lib.LaidTab
import Derived.Lib.Hide
namespace Go.Proofs.YtfdinkofcjcahaaDoor.Ext
open Go.RowKit Go.Proofs.YtfdinkofcjcahaaDoorW.PrintWords

structure Env (w : World) : Prop where
  maxLen : ∃ m, w.cell? ⟨1, 0, none⟩ = some (.int .i64 m)
  named : ∀ i, i < 128 → w.cell? ⟨0, i, none⟩ = some (.int .u8 (Name.tab i))
structure Env2 (w : World) : Prop where
  env : Env w
  pow10 : Lib.TabIs Tryd.prog w "internal/strconv.uint64pow10" .u64 Lib.pow10Tab

theorem Env.at_ {w w' : World} (h : Env w) (hb : Below w.heap.size w w') : Env w' := by
  obtain ⟨m, hm⟩ := h.maxLen
  exact ⟨⟨m, pw_cell_below hb hm⟩, fun i hi => pw_cell_below hb (h.named i hi)⟩
theorem tabIs_below {P : Program} {w w' : World} {n : String} {k : IntKind} {zs : List Int} (h : Lib.TabIs P w n k zs) (hb : Below w.heap.size w w') : Lib.TabIs P w' n k zs := by
  unfold Lib.TabIs at h ⊢
  unfold World.var? at h ⊢
  cases hg : P.globalNamed n with
  | none => rw [hg] at h; simp at h
  | some g =>
    rw [hg] at h
    simp only [Option.bind_some] at h ⊢
    have : g < w.heap.size := by
      rcases Nat.lt_or_ge g w.heap.size with hc | hc
      · exact hc
      · rw [Array.getElem?_eq_none hc] at h
        simp at h
    rw [hb.block g this]
    exact h
theorem Env2.at_ {w w' : World} (h : Env2 w) (hb : Below w.heap.size w w') : Env2 w' := ⟨h.env.at_ hb, tabIs_below h.pow10 hb⟩
end Go.Proofs.YtfdinkofcjcahaaDoor.Ext
