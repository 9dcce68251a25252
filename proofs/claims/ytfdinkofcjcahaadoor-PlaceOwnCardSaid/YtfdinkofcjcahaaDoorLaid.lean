/- What the rows' list of package-level variables gives the walks (Env, Env2), and a world that holds what is listed, for the rows' witnesses. -/
import Derived.Test.YtfdinkofcjcahaaDoorCards
import Derived.Test.YtfdinkofcjcahaaDoorTie
import Derived.Test.YtfdinkofcjcahaaDoorEnv
import Derived.WalkKit
import Derived.ProofKit
import Derived.OpenShut
import Derived.Deep.DeepHandedRow
import Derived.Shelf.Vars
namespace Go.Proofs.YtfdinkofcjcahaaDoor.Ext
open Go.RowKit

theorem laidMet_tail {P : Program} {W : World} {x : String × DataW Unit} {l : List (String × DataW Unit)} (h : laidMet P (x :: l) W) : laidMet P l W := by
  obtain ⟨ps, ⟨g, t, cs, fuel, p, q, _, _, _, _, hq, rfl⟩, hnd, hc⟩ := h
  exact ⟨q, hq, (List.nodup_append.1 hnd).2.1, fun b off hb => hc b off (List.mem_append_right _ hb)⟩
def namedTab : List Int := (List.range 128).map fun i => Name.tab i
theorem named_data : Rows.laid_herald_place_named = Lib.tabData (H := Unit) .u8 namedTab := by kernel_rfl
theorem pow10_data : Rows.laid_internal_strconv_uint64pow10 = Lib.tabData (H := Unit) .u64 Lib.pow10Tab := by kernel_rfl
theorem gNamed : Tryd.prog.globalNamed "herald/place.named" = some 0 := by kernel_rfl
theorem gMaxLen : Tryd.prog.globalNamed "internal/bytealg.MaxLen" = some 1 := by kernel_rfl
theorem gPow : Tryd.prog.globalNamed "internal/strconv.uint64pow10" = some 4 := by kernel_rfl
theorem gNamedType : (Tryd.prog.globals[0]?).map (·.type) = some 73 := by kernel_rfl
theorem gPowType : (Tryd.prog.globals[4]?).map (·.type) = some 116 := by kernel_rfl
theorem cNamed : Tryd.prog.cellsOf 73 = 128 := by kernel_rfl
theorem cByte : Tryd.prog.cellsOf 5 = 1 := by kernel_rfl
theorem cPow : Tryd.prog.cellsOf 116 = 20 := by kernel_rfl
theorem cWord : Tryd.prog.cellsOf 96 = 1 := by kernel_rfl
theorem namedTab_at (i : Nat) (h : i < 128) : namedTab.getD i 0 = Name.tab i := by
  simp [namedTab, h]
theorem maxLen_of {W : World} (hS : W.ShapedOpen Tryd.prog) : ∃ m, W.cell? ⟨1, 0, none⟩ = some (.int .i64 m) :=
  Go.Proofs.cell_of_shapedOpen_int (zero := #[.int .i64 0]) (t := 3) hS (of_decide_eq_true (by kernel_rfl)) (by kernel_rfl) rfl (by kernel_rfl) (by kernel_rfl) Tryd.underlying3
theorem env_of_tab {W : World} {rest : List (String × DataW Unit)} (hS : W.ShapedOpen Tryd.prog) (h : laidMet Tryd.prog (("herald/place.named", Lib.tabData .u8 namedTab) :: rest) W) : Env W := by
  refine ⟨maxLen_of hS, fun i hi => ?_⟩
  have hT := Lib.tabIs_of_head gNamed gNamedType Tryd.underlying73 Tryd.underlying5 cByte cNamed h
  have := hT.cell gNamed i (by simp [namedTab]; exact hi)
  rw [namedTab_at i hi] at this
  exact this
theorem pow_of_tab {W : World} {rest : List (String × DataW Unit)} (h : laidMet Tryd.prog (("internal/strconv.uint64pow10", Lib.tabData .u64 Lib.pow10Tab) :: rest) W) : Lib.TabIs Tryd.prog W "internal/strconv.uint64pow10" .u64 Lib.pow10Tab :=
  Lib.tabIs_of_head gPow gPowType Tryd.underlying116 Tryd.underlying96 cWord cPow h
/-- The two lists of the rows. -/
theorem env_short {W : World} (hS : W.ShapedOpen Tryd.prog) (h : laidMetH Tryd.prog [("unicode/utf8.acceptRanges", Rows.laid_unicode_utf8_acceptRanges), ("herald/place.named", Rows.laid_herald_place_named), ("unicode/utf8.first", Rows.laid_unicode_utf8_first)] W) : Env W := by
  have h' : laidMet Tryd.prog [("unicode/utf8.acceptRanges", Rows.laid_unicode_utf8_acceptRanges), ("herald/place.named", Rows.laid_herald_place_named), ("unicode/utf8.first", Rows.laid_unicode_utf8_first)] W := h
  rw [named_data] at h'
  exact env_of_tab hS (laidMet_tail h')
theorem env_long {W : World} (hS : W.ShapedOpen Tryd.prog) (h : laidMetH Tryd.prog [("math/bits.deBruijn32tab", Rows.laid_math_bits_deBruijn32tab), ("math/bits.deBruijn64tab", Rows.laid_math_bits_deBruijn64tab), ("internal/strconv.uint64pow10", Rows.laid_internal_strconv_uint64pow10), ("unicode/utf8.acceptRanges", Rows.laid_unicode_utf8_acceptRanges), ("herald/place.named", Rows.laid_herald_place_named), ("unicode/utf8.first", Rows.laid_unicode_utf8_first)] W) : Env2 W := by
  have h' : laidMet Tryd.prog [("math/bits.deBruijn32tab", Rows.laid_math_bits_deBruijn32tab), ("math/bits.deBruijn64tab", Rows.laid_math_bits_deBruijn64tab), ("internal/strconv.uint64pow10", Rows.laid_internal_strconv_uint64pow10), ("unicode/utf8.acceptRanges", Rows.laid_unicode_utf8_acceptRanges), ("herald/place.named", Rows.laid_herald_place_named), ("unicode/utf8.first", Rows.laid_unicode_utf8_first)] W := h
  rw [named_data, pow10_data] at h'
  have h2 := laidMet_tail (laidMet_tail h')
  exact ⟨env_of_tab hS (laidMet_tail (laidMet_tail h2)), pow_of_tab h2⟩

/-- The scalars of a datum, in order. -/
def flat : Nat → DataW Unit → List Value
  | n + 1, .agg l => l.flatMap (flat n)
  | _, .lit (.int k z) => [.int k z]
  | _, _ => []
/-- A WORLD FOR THE WITNESSES: the settled one, each listed table (by its block) holding what its initialiser lays. -/
noncomputable def laidWorld (os : Os) : World :=
  let lay (d : DataW Unit) (h : Array Obj) (b : Nat) : Array Obj := h.modify b fun
    | .cells _ t frozen => .cells (flat 4 d).toArray t frozen
    | o => o
  let w := World.holding Tryd.prog os ⟨#[], #[], []⟩
  { w with heap := lay Rows.laid_math_bits_deBruijn64tab (lay Rows.laid_math_bits_deBruijn32tab (lay Rows.laid_internal_strconv_uint64pow10 (lay Rows.laid_unicode_utf8_acceptRanges (lay Rows.laid_unicode_utf8_first (lay Rows.laid_herald_place_named w.heap 0) 2) 3) 4) 5) 6 }
end Go.Proofs.YtfdinkofcjcahaaDoor.Ext
