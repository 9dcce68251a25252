/- Texts of the proof, joined. -/
import Derived.ArgAppend
import Derived.Below
import Derived.BigQuiet
import Derived.Deep.AppendLies
import Derived.Deep.CutBlock
import Derived.Deep.DeepCutAuto
import Derived.Deep.DeepHandedRow
import Derived.Deep.Draws
import Derived.Deep.LoopGhost
import Derived.Deep.OwnRows
import Derived.Deep.QuietTactic
import Derived.Deep.RegionHeld3
import Derived.Deep.WholeRow
import Derived.HandedShaped
import Derived.KernelRfl
import Derived.Laws.BitsLemmas
import Derived.Laws.BytesArg
import Derived.Laws.EntriesVeiled
import Derived.Laws.IdiomCopy
import Derived.Laws.MakeOwn
import Derived.Laws.OwnMore
import Derived.Laws.Rows
import Derived.Laws.Slices
import Derived.Laws.Tables
import Derived.Lib.AppendStr
import Derived.Lib.ConvBytes
import Derived.Lib.Hide
import Derived.Lib.LaidTab
import Derived.Maps.AppendAt
import Derived.OpenShut
import Derived.OrdersHeld
import Derived.OwnWalk
import Derived.ProofKit
import Derived.RowKit
import Derived.RowKit3
import Derived.Shelf.LaysM
import Derived.Shelf.Strings.Count
import Derived.Shelf.Strings.Explode
import Derived.Shelf.Strings.Prefix
import Derived.Shelf.Strings.RuneCount
import Derived.Shelf.Strings.Search1
import Derived.Shelf.Strings.Search2
import Derived.Shelf.Strings.Search3
import Derived.Shelf.Strings.Shaped
import Derived.Shelf.Strings.Split
import Derived.Shelf.Strings.SplitShaped
import Derived.Shelf.Unicode.Decode
import Derived.Shelf.Unicode.DecodeSlow
import Derived.Shelf.Utf8.RuneCount
import Derived.Shelf.Vars
import Derived.Tactics
import Derived.Test.YtmneemhplffemaaGreatDoorRRCards
import Derived.Test.YtmneemhplffemaaGreatDoorRRProg
import Derived.Test.YtmneemhplffemaaGreatDoorRRTie
import Derived.WalkKit
import Derived.WalkLawsBesides
import Derived.WideLaws
import Derived.Test.YtmneemhplffemaaGreatDoorRRJEa
set_option linter.unusedVariables false
set_option linter.unusedSimpArgs false
namespace Go.Proofs
open Go.Shelf
def Tryz.lays99_ren : Go.Shelf.Ren := ⟨fun | 99 => 264 | 206 => 287 | n => n, fun | 9 => 9 | 4 => 4 | 3 => 3 | n => n, fun | n => n⟩
theorem Tryz.lays99 : Go.Proofs.Lays.n99 Tryz.prog Tryz.lays99_ren := {
 mixed := by kernel_rfl
 f99 := Tryz.func264.trans (congrArg some (by kernel_rfl))
 f206 := Tryz.func287.trans (congrArg some (by kernel_rfl))
 t3 := Tryz.underlying3
 a3 := Tryz.isAgg3
 z3 := Tryz.sizeOf3
 v3 := Tryz.zeroValue3
 t4 := Tryz.underlying4
 a4 := Tryz.isAgg4
 z4 := Tryz.sizeOf4
 v4 := Tryz.zeroValue4
 t9 := Tryz.underlying9
 a9 := Tryz.isAgg9
 z9 := Tryz.sizeOf9
 v9 := Tryz.zeroValue9 }
open Go.RowKit Go.Lib in
theorem Tryz.strings_HasPrefix (s p : ByteArray) (w : World) :
 Calls Tryz.prog 264 #[.string s, .string p] w fun e w' => e = .returned (.bool (Lib.hasPrefix s.data.toList p.data.toList)) ∧ w' = w := Any.strings_HasPrefix Tryz.lays99 s p w
def Tryz.lays146_ren : Go.Shelf.Ren := ⟨fun | 146 => 265 | 221 => 288 | 268 => 297 | 138 => 298 | 143 => 299 | 195 => 303 | 197 => 304 | 218 => 305 | 219 => 306 | 260 => 307 | 217 => 308 | 225 => 309 | 224 => 310 | 267 => 311 | 266 => 312 | 314 => 313 | n => n, fun | 9 => 9 | 31 => 79 | 3 => 3 | 4 => 4 | 0 => 0 | 105 => 300 | 21 => 21 | 5 => 5 | 46 => 210 | 119 => 303 | 139 => 306 | 138 => 305 | 146 => 307 | 51 => 194 | n => n, fun | 1 => 3 | 3 => 4 | 4 => 5 | n => n⟩
theorem Tryz.lays146 : Go.Proofs.Lays.n146 Tryz.prog Tryz.lays146_ren := {
 mixed := by kernel_rfl
 f138 := Tryz.func298.trans (congrArg some (by kernel_rfl))
 f143 := Tryz.func299.trans (congrArg some (by kernel_rfl))
 f146 := Tryz.func265.trans (congrArg some (by kernel_rfl))
 f195 := Tryz.func303.trans (congrArg some (by kernel_rfl))
 f197 := Tryz.func304.trans (congrArg some (by kernel_rfl))
 f217 := Tryz.func308.trans (congrArg some (by kernel_rfl))
 f218 := Tryz.func305.trans (congrArg some (by kernel_rfl))
 f219 := Tryz.func306.trans (congrArg some (by kernel_rfl))
 f221 := Tryz.func288.trans (congrArg some (by kernel_rfl))
 f224 := Tryz.func310.trans (congrArg some (by kernel_rfl))
 f225 := Tryz.func309.trans (congrArg some (by kernel_rfl))
 f260 := Tryz.func307.trans (congrArg some (by kernel_rfl))
 f266 := Tryz.func312.trans (congrArg some (by kernel_rfl))
 f267 := Tryz.func311.trans (congrArg some (by kernel_rfl))
 f268 := Tryz.func297.trans (congrArg some (by kernel_rfl))
 f314 := Tryz.func313.trans (congrArg some (by kernel_rfl))
 t0 := Tryz.underlying0
 a0 := Tryz.isAgg0
 z0 := Tryz.sizeOf0
 v0 := Tryz.zeroValue0
 t3 := Tryz.underlying3
 a3 := Tryz.isAgg3
 z3 := Tryz.sizeOf3
 v3 := Tryz.zeroValue3
 t4 := Tryz.underlying4
 a4 := Tryz.isAgg4
 z4 := Tryz.sizeOf4
 v4 := Tryz.zeroValue4
 t5 := Tryz.underlying5
 a5 := Tryz.isAgg5
 z5 := Tryz.sizeOf5
 v5 := Tryz.zeroValue5
 t9 := Tryz.underlying9
 a9 := Tryz.isAgg9
 z9 := Tryz.sizeOf9
 v9 := Tryz.zeroValue9
 t21 := Tryz.underlying21
 a21 := Tryz.isAgg21
 z21 := Tryz.sizeOf21
 v21 := Tryz.zeroValue21
 t31 := Tryz.underlying79
 a31 := Tryz.isAgg79
 z31 := Tryz.sizeOf79
 v31 := Tryz.zeroValue79
 t46 := Tryz.underlying210
 a46 := Tryz.isAgg210
 z46 := Tryz.sizeOf210
 v46 := Tryz.zeroValue210
 t51 := Tryz.underlying194
 a51 := Tryz.isAgg194
 z51 := Tryz.sizeOf194
 v51 := Tryz.zeroValue194
 t105 := Tryz.underlying300
 a105 := Tryz.isAgg300
 z105 := Tryz.sizeOf300
 v105 := Tryz.zeroValue300
 t119 := Tryz.underlying303
 a119 := Tryz.isAgg303
 z119 := Tryz.sizeOf303
 t138 := Tryz.underlying305
 a138 := Tryz.isAgg305
 z138 := Tryz.sizeOf305
 v138 := Tryz.zeroValue305
 t139 := Tryz.underlying306
 a139 := Tryz.isAgg306
 z139 := Tryz.sizeOf306
 v139 := Tryz.zeroValue306
 t146 := Tryz.underlying307
 a146 := Tryz.isAgg307
 z146 := Tryz.sizeOf307
 v146 := Tryz.zeroValue307
 g1 := by kernel_rfl
 g3 := by kernel_rfl
 g4 := by kernel_rfl }
open Go.RowKit Go.Lib in
theorem Tryz.strings_Split (s sep : ByteArray) (m : Int) (w : World) (hs : s.size < 4294967281) (hm : w.cell? ⟨3, 0, none⟩ = some (.int .i64 m)) (h1 : 1 ≤ sep.size) :
 Calls Tryz.prog 265 #[.string s, .string sep] w fun e w' =>
  e = .returned (.slice (some ⟨w.heap.size, 0, none⟩) (Lib.countB s sep + 1) (Lib.countB s sep + 1)) ∧ w' = w.alloc (.cells ((Lib.splitB sep 0 (Lib.countB s sep) s).map Value.string).toArray 9) := Any.strings_Split Tryz.lays146 (by kernel_rfl) s sep m w hs hm h1
end Go.Proofs
namespace Go.Proofs.YtmneemhplffemaaGreatDoorRR.Ext
open Go.RowKit Go.Proofs.YtmneemhplffemaaGreatDoorRRW.PrintWords
structure Env (w : World) : Prop where
 maxLen : ∃ m, w.cell? ⟨3, 0, none⟩ = some (.int .i64 m)
 named : ∀ i, i < 128 → w.cell? ⟨2, i, none⟩ = some (.int .u8 (Name.tab i))
theorem Env.at_ {w w' : World} (h : Env w) (hb : Below w.heap.size w w') : Env w' := by
 obtain ⟨m, hm⟩ := h.maxLen
 exact ⟨⟨m, pw_cell_below hb hm⟩, fun i hi => pw_cell_below hb (h.named i hi)⟩
end Go.Proofs.YtmneemhplffemaaGreatDoorRR.Ext
namespace Go.Proofs.YtmneemhplffemaaGreatDoorRR.Chk
open Go.RowKit Go.Proofs.YtmneemhplffemaaGreatDoorRR.Ext Go.Proofs.YtmneemhplffemaaGreatDoorRRW.PrintWords
def wordList : List ByteArray := [⟨#[45]⟩, ⟨#[115]⟩, ⟨#[115, 114, 111]⟩, ⟨#[115]⟩, ⟨#[115, 99]⟩, ⟨#[115, 99, 116, 119]⟩, ⟨#[115, 99, 119]⟩, ⟨#[115, 99, 119]⟩, ⟨#[115, 99, 116]⟩, ⟨#[110, 115, 101]⟩, ⟨#[110, 115, 114, 82]⟩, ⟨#[110, 115]⟩, ⟨#[110, 115, 99, 116, 101]⟩, ⟨#[110, 115, 99, 116, 101, 112]⟩, ⟨#[110, 115, 99, 119, 105]⟩, ⟨#[118]⟩, ⟨#[110, 116, 102]⟩, ⟨#[110, 116, 102, 69, 109]⟩, ⟨#[110, 116]⟩, ⟨#[110, 116, 102, 83]⟩, ⟨#[110]⟩, ⟨#[]⟩, ⟨#[118]⟩, ⟨#[110]⟩, ⟨#[110, 115, 99, 119]⟩]
def hasList : List ByteArray := [⟨#[]⟩, ⟨#[115]⟩, ⟨#[115, 114, 111]⟩, ⟨#[115]⟩, ⟨#[115, 99]⟩, ⟨#[115, 99, 116, 87]⟩, ⟨#[115, 99, 119]⟩, ⟨#[115, 99, 100]⟩, ⟨#[115, 99, 116]⟩, ⟨#[110, 115, 101]⟩, ⟨#[110, 115, 114, 121]⟩, ⟨#[110, 115]⟩, ⟨#[110, 115, 99, 116, 101]⟩, ⟨#[110, 115, 99, 116, 101, 80]⟩, ⟨#[110, 115, 99, 68, 73]⟩, ⟨#[118]⟩, ⟨#[110, 116, 102]⟩, ⟨#[110, 116, 102, 69, 109]⟩, ⟨#[110, 116]⟩, ⟨#[110, 116, 102, 97]⟩, ⟨#[110]⟩, ⟨#[]⟩, ⟨#[118]⟩, ⟨#[110]⟩, ⟨#[110, 115, 99, 100]⟩]
def wordTab (n : Nat) : ByteArray := wordList.getD n ByteArray.empty
def hasTab (n : Nat) : ByteArray := hasList.getD n ByteArray.empty
structure EnvN (w : World) : Prop where
 env : Env w
 has : ∀ i, i < 25 → w.cell? ⟨0, i, none⟩ = some (.string (hasTab i))
theorem EnvN.at_ {w w' : World} (h : EnvN w) (hb : Below w.heap.size w w') : EnvN w' := ⟨h.env.at_ hb, fun i hi => pw_cell_below hb (h.has i hi)⟩
structure EnvR (w : World) : Prop where
 envN : EnvN w
 words : ∀ i, i < 25 → w.cell? ⟨1, i, none⟩ = some (.string (wordTab i))
theorem EnvR.at_ {w w' : World} (h : EnvR w) (hb : Below w.heap.size w w') : EnvR w' := ⟨h.envN.at_ hb, fun i hi => pw_cell_below hb (h.words i hi)⟩
end Go.Proofs.YtmneemhplffemaaGreatDoorRR.Chk
namespace Go.Proofs.YtmneemhplffemaaGreatDoorRR.Ext
open Go.RowKit Go.Proofs.YtmneemhplffemaaGreatDoorRR.Chk Go.Proofs.YtmneemhplffemaaGreatDoorRRW.PrintWords
theorem laidMet_tail {P : Program} {W : World} {x : String × DataW Unit} {l : List (String × DataW Unit)} (h : laidMet P (x :: l) W) : laidMet P l W := by
 obtain ⟨ps, ⟨g, t, cs, fuel, p, q, _, _, _, _, hq, rfl⟩, hnd, hc⟩ := h
 exact ⟨q, hq, (List.nodup_append.1 hnd).2.1, fun b off hb => hc b off (List.mem_append_right _ hb)⟩
def strData {H : Type} (l : List ByteArray) : DataW H := .agg (l.map fun s => .lit (.string s.data.toList))
theorem cells_of_strs {H : Type} {enc : TypeId × Value → H} {P : Program} {w : World} {base : Nat} {sp : Nat → Bool} {held : Bool} {fuel : Nat} {t e : TypeId} {n : Nat} {cs : List Value} {zs : List ByteArray} {p : List MemPlace}
   (ht : P.underlying t = some (.array n e)) (he : P.underlying e = some .string) (hce : P.cellsOf e = 1) (hct : P.cellsOf t = n)
   (h : DataW.trod enc P w base sp held fuel t cs = some (strData zs, p)) : cs = zs.map Value.string := by
 cases fuel with
 | zero => simp [DataW.trod] at h
 | succ fuel =>
   simp only [DataW.trod, ht, hce, hct, Nat.mul_one] at h
   split at h
   · rename_i hl
     obtain ⟨xs, hm, hx⟩ := Option.map_eq_some_iff.1 h
     have hxs : xs.map (·.1) = zs.map fun z => (DataW.lit (.string z.data.toList) : DataW H) := by
       have := congrArg Prod.fst hx
       simpa [strData] using this
     have hxl : xs.length = n := by simpa using Lib.mapM_length hm
     have hzl : zs.length = n := by
       have := congrArg List.length hxs
       simp at this
       omega
     apply List.ext_getElem?
     intro i
     by_cases hi : i < n
     · obtain ⟨b, hb, hf⟩ := Lib.mapM_at hm i i (by simp [hi])
       obtain ⟨z, hc, rfl, _⟩ := DataW.trod_string he hf
       have h1 : cs[i]? = some (.string z) := by
        have := congrArg (·[0]?) hc
        simpa [List.getElem?_take, List.getElem?_drop] using this
       have h2 : (xs.map (·.1))[i]? = some (DataW.lit (.string z.data.toList) : DataW H) := by simp [hb]
       rw [hxs] at h2
       simp only [List.getElem?_map, Option.map_eq_some_iff, DataW.lit.injEq, Lit.string.injEq] at h2
       obtain ⟨z', hz', he'⟩ := h2
       have : z' = z := by
        cases z; cases z'; simp_all
       subst this
       simp [h1, hz']
     · rw [List.getElem?_eq_none (by omega), List.getElem?_eq_none (by simp; omega)]
   · cases h
theorem strs_of_head {P : Program} {W : World} {name : String} {zs : List ByteArray} {rest : List (String × DataW Unit)} {g : Nat} {t e : TypeId} {n : Nat}
  (hg : P.globalNamed name = some g) (hty : (P.globals[g]?).map (·.type) = some t) (ht : P.underlying t = some (.array n e)) (he : P.underlying e = some .string) (hce : P.cellsOf e = 1) (hct : P.cellsOf t = n)
  (h : laidMet P ((name, strData zs) :: rest) W) (i : Nat) (hi : i < zs.length) : W.cell? ⟨g, i, none⟩ = some (.string (zs.getD i ByteArray.empty)) := by
 obtain ⟨ps, ⟨g', t', cs, fuel, p, q, hg', ht', hvar, hd, _, _⟩, _⟩ := h
 obtain rfl := Option.some.inj (hg.symm.trans hg')
 obtain rfl := Option.some.inj (hty.symm.trans ht')
 have hcs := cells_of_strs ht he hce hct hd
 have h2 := World.var?_cell hg hvar i
 rw [h2, ← Array.getElem?_toList, hcs, List.getElem?_map, List.getElem?_eq_getElem hi, List.getD_eq_getElem?_getD, List.getElem?_eq_getElem hi]
 rfl
def namedTab : List Int := (List.range 128).map fun i => Name.tab i
theorem named_data : Rows.laid_herald_place_named = Lib.tabData (H := Unit) .u8 namedTab := by kernel_rfl
theorem has_data : Rows.laid_herald_note_has = strData (H := Unit) hasList := by kernel_rfl
theorem gNamed : Tryz.prog.globalNamed "herald/place.named" = some 2 := by kernel_rfl
theorem gHas : Tryz.prog.globalNamed "herald/note.has" = some 0 := by kernel_rfl
theorem gNamedType : (Tryz.prog.globals[2]?).map (·.type) = some 288 := by kernel_rfl
theorem gHasType : (Tryz.prog.globals[0]?).map (·.type) = some 158 := by kernel_rfl
theorem cNamed : Tryz.prog.cellsOf 288 = 128 := by kernel_rfl
theorem cHas : Tryz.prog.cellsOf 158 = 25 := by kernel_rfl
theorem cByte : Tryz.prog.cellsOf 5 = 1 := by kernel_rfl
theorem cStr : Tryz.prog.cellsOf 9 = 1 := by kernel_rfl
theorem namedTab_at (i : Nat) (h : i < 128) : namedTab.getD i 0 = Name.tab i := by
 simp [namedTab, h]
theorem maxLen_of {W : World} (hS : W.ShapedOpen Tryz.prog) : ∃ m, W.cell? ⟨3, 0, none⟩ = some (.int .i64 m) :=
 Go.Proofs.cell_of_shapedOpen_int (zero := #[.int .i64 0]) (t := 3) hS (of_decide_eq_true (by kernel_rfl)) (by kernel_rfl) rfl (by kernel_rfl) (by kernel_rfl) Tryz.underlying3
theorem env_of_tab {W : World} {rest : List (String × DataW Unit)} (hS : W.ShapedOpen Tryz.prog) (h : laidMet Tryz.prog (("herald/place.named", Lib.tabData .u8 namedTab) :: rest) W) : Env W := by
 refine ⟨maxLen_of hS, fun i hi => ?_⟩
 have hT := Lib.tabIs_of_head gNamed gNamedType Tryz.underlying288 Tryz.underlying5 cByte cNamed h
 have := hT.cell gNamed i (by simp [namedTab]; exact hi)
 rw [namedTab_at i hi] at this
 exact this
theorem env_note {W : World} (hS : W.ShapedOpen Tryz.prog) (h : laidMetH Tryz.prog [("unicode/utf8.acceptRanges", Rows.laid_unicode_utf8_acceptRanges), ("herald/place.named", Rows.laid_herald_place_named), ("herald/note.has", Rows.laid_herald_note_has), ("unicode/utf8.first", Rows.laid_unicode_utf8_first)] W) : EnvN W := by
 have h' : laidMet Tryz.prog [("unicode/utf8.acceptRanges", Rows.laid_unicode_utf8_acceptRanges), ("herald/place.named", Rows.laid_herald_place_named), ("herald/note.has", Rows.laid_herald_note_has), ("unicode/utf8.first", Rows.laid_unicode_utf8_first)] W := h
 rw [named_data, has_data] at h'
 have h2 := laidMet_tail h'
 exact ⟨env_of_tab hS h2, fun i hi => strs_of_head gHas gHasType Tryz.underlying158 Tryz.underlying9 cStr cHas (laidMet_tail h2) i hi⟩
def flat : Nat → DataW Unit → List Value
 | n + 1, .agg l => l.flatMap (flat n)
 | _, .lit (.int k z) => [.int k z]
 | _, .lit (.string s) => [.string ⟨s.toArray⟩]
 | _, _ => []
noncomputable def laidWorld (os : Os) : World :=
 let lay (d : DataW Unit) (h : Array Obj) (b : Nat) : Array Obj := h.modify b fun
  | .cells _ t frozen => .cells (flat 4 d).toArray t frozen
  | o => o
 let w := World.holding Tryz.prog os ⟨#[], #[], []⟩
 { w with heap := lay Rows.laid_unicode_utf8_acceptRanges (lay Rows.laid_unicode_utf8_first (lay Rows.laid_herald_note_has (lay Rows.laid_herald_place_named w.heap 2) 0) 4) 5 }
theorem bytes_of {W : World} {A : Option Addr} {len cap : Nat} {zs : List Int} (h : (A = none ∧ len = 0 ∧ cap = 0 ∧ zs = []) ∨ ∃ x, A = some x ∧ len ≤ cap ∧ cap ≤ maxLen ∧ zs.length = cap ∧ (∀ i, i < zs.length → W.cell? (x.add i) = some (.int .u8 (zs.getD i 0))) ∧ ∀ n ∈ zs, (Lit.int .u8 n).wf = true) :
   ∃ xs : List Int, xs.length = len ∧ len ≤ cap ∧ (Kd.int .u8).C W A xs.length xs ∧ (∀ b ∈ xs, 0 ≤ b ∧ b < 256) := by
 rcases h with ⟨rfl, rfl, rfl, rfl⟩ | ⟨x, rfl, hl, hm, hz, hc, hw⟩
 · exact ⟨[], rfl, Nat.le_refl _, Kd.C_of_reads (d := 0) ⟨rfl, Nat.zero_le _, fun h => absurd h (by simp)⟩, by simp⟩
 · have hlen : (zs.take len).length = len := by rw [List.length_take]; omega
   refine ⟨zs.take len, hlen, hl, Kd.C_of_reads (d := 0) ⟨rfl, by rw [hlen]; simp only [maxLen] at hm; omega, fun _ => ⟨x, rfl, fun j hj => ?_⟩⟩, fun b hb => ?_⟩
   · rw [hlen] at hj
     rw [hc j (by omega), List.getD_eq_getElem?_getD, List.getD_eq_getElem?_getD, List.getElem?_take, if_pos hj]
   · have h1 := hw b (List.mem_of_mem_take hb)
     have e1 : IntKind.u8.min = 0 := by kernel_rfl
     have e2 : IntKind.u8.max = 255 := by kernel_rfl
     simp [Lit.wf, e1, e2] at h1
     omega
end Go.Proofs.YtmneemhplffemaaGreatDoorRR.Ext
namespace Go.Proofs.YtmneemhplffemaaGreatDoorRR.Wire
open Go.RowKit Go.Proofs.YtmneemhplffemaaGreatDoorRR.Ext Go.Proofs.YtmneemhplffemaaGreatDoorRRW.PrintWords
theorem info5 : (Tryz.prog.info? 5).map (fun i => (i.zero, i.size, i.bytes)) = some (some (.int .u8 0), 1, 1) := by kernel_rfl
def encN : Nat → Nat → List Int
 | 0, v => [(v : Int)]
 | f + 1, v => if v < 128 then [(v : Int)] else ((v % 128 + 128 : Nat) : Int) :: encN f (v / 128)
def encNum (v : Int) : List Int := encN 4 v.toNat
theorem encN_len (f v : Nat) : 1 ≤ (encN f v).length ∧ (encN f v).length ≤ f + 1 := by
 induction f generalizing v with
 | zero => simp [encN]
 | succ f ih =>
   have := ih (v / 128)
   unfold encN
   split <;> simp <;> omega
theorem encNum_len (v : Int) : 1 ≤ (encNum v).length ∧ (encNum v).length ≤ 5 := encN_len 4 _
theorem encN_small {f v : Nat} (h : v < 128) : encN f v = [(v : Int)] := by
 cases f with
 | zero => rfl
 | succ f => unfold encN; rw [if_pos h]
theorem encN_large {f v : Nat} (h : 128 ≤ v) : encN (f + 1) v = ((v % 128 + 128 : Nat) : Int) :: encN f (v / 128) := by
 rw [encN, if_neg (by omega)]
theorem byte_or (u : Nat) : Go.bits .or .u8 ((u : Int) % 256) 128 = ((u % 128 + 128 : Nat) : Int) := by
 have key : ∀ x : Fin 256, Go.bits .or .u8 (x.val : Int) 128 = ((x.val % 128 + 128 : Nat) : Int) := by decide +kernel
 have h := key ⟨u % 256, by omega⟩
 rw [show ((u : Int) % 256) = ((u % 256 : Nat) : Int) by omega, h]
 congr 1
 show u % 256 % 128 + 128 = u % 128 + 128
 omega
abbrev BRow (w : World) (base : Nat) (v : Value) (xs : List Int) : Prop := (Kd.int .u8).R 5 w base (fun _ => True) v xs
set_option maxRecDepth 100000 in
set_option maxHeartbeats 1000000 in
theorem number_any (v : Nat) (hv : v ≤ 2147483647) (w : World) :
  Calls Tryz.prog 101 #[.int .i64 v] w fun e w' => ∃ bv : Value, e = .returned (.tuple #[bv, .int .i64 0]) ∧ BRow w' w.heap.size bv (encNum v) ∧ Below w.heap.size w w' := by
 have hd0 : decide ((v : Int) < 0) = false := by simp
 have hd1 : decide ((2147483647 : Int) < v) = false := by simp; omega
 have HE := Aside0.mk (show encNum v = encN 4 v from rfl)
 go_enter Tryz.func101, Tryz.ntmps101
 go_wp2_with fail
 go_loopw [0, 4] (fun v0 v4 W => ∃ (f u : Nat) (acc : List Int), v0 = .int .i64 u ∧ u ≤ 2147483647 ∧ Aside0 (u < 128 ^ (f + 1)) ∧ Aside0 (acc ++ encN f u = encN 4 v) ∧ Aside0 (acc.length + f ≤ 4) ∧ Aside0 (BRow W w.heap.size v4 acc) ∧ Aside0 (Below w.heap.size w W)) (fun v0 _ _ => (intOf v0).toNat)
 case atStart => exact ⟨4, v, [], rfl, hv, ⟨by omega⟩, ⟨rfl⟩, ⟨Nat.le_refl _⟩, ⟨Kd.R_nil _ _ _ _ _⟩, ⟨Below.refl _ _⟩⟩
 case round =>
  clear hd0 hd1
  obtain ⟨f, u, acc, rfl, hu, HP, HA, HL, HO, HB⟩ := hrel
  by_cases hc : 128 ≤ u
  · obtain ⟨f, rfl⟩ : ∃ m, f = m + 1 := by
     cases f with
     | zero => have := HP.out; omega
     | succ m => exact ⟨m, rfl⟩
    have hcd : decide ((128 : Int) ≤ u) = true := by simp; omega
    have HA2 := Aside0.mk (show (acc ++ [((u % 128 + 128 : Nat) : Int)]) ++ encN f (u / 128) = encN 4 v by rw [← HA.out, encN_large hc]; simp)
    have HOR := byte_or u
    go_wp2_with ((with_reducible refine gate_builtin (b := .append) (xs := #[.tmp 15, .tmp 19]) rfl ?_); at_builtin; refine Kd.R_append (Kd.int .u8) (w0 := w) w.heap.size rfl (.tmp 15) (.tmp 19) 41 5 (.int .u8 0) 1 rfl Tryz.underlying41 info5 rfl (by decide) (by omega) u4 acc _ [.int .u8 ((u % 128 + 128 : Nat) : Int)] (fun _ => True) (fun _ => False) rfl rfl rfl (fun _ hk => hk.elim) (fun _ _ => trivial) HO.out HB.out (below_size HB.out) (by have := HL.out; omega) ?_; intro v1 W1 ho hb _ _; have HO1 := Aside0.mk ho; have HB1 := Aside0.mk hb; clear ho hb)
    go_roundw
    case rel => exact ⟨f, u / 128, acc ++ [((u % 128 + 128 : Nat) : Int)], by go_num, by omega, ⟨by have := HP.out; rw [Nat.pow_succ] at this; omega⟩, HA2, ⟨by have := HL.out; simp; omega⟩, HO1, HB1⟩
    case measure => simp [intOf]; omega
  · have hcd : decide ((128 : Int) ≤ u) = false := by simp; omega
    have HA2 := Aside0.mk (show acc ++ [(u : Int)] = encN 4 v by rw [← HA.out, encN_small (by omega)])
    go_wp2_with ((with_reducible refine gate_builtin (b := .append) (xs := #[.tmp 21, .tmp 24]) rfl ?_); at_builtin; refine Kd.R_append (Kd.int .u8) (w0 := w) w.heap.size rfl (.tmp 21) (.tmp 24) 41 5 (.int .u8 0) 1 rfl Tryz.underlying41 info5 rfl (by decide) (by omega) u4 acc _ [.int .u8 (u : Int)] (fun _ => True) (fun _ => False) rfl rfl rfl (fun _ hk => hk.elim) (fun _ _ => trivial) HO.out HB.out (below_size HB.out) (by have := HL.out; omega) ?_; intro v1 W1 ho hb _ _; have HO1 := Aside0.mk ho; have HB1 := Aside0.mk hb; clear ho hb)
    go_ret2
    exact ⟨_, rfl, by rw [HE.out, ← HA2.out]; exact HO1.out, HB1.out⟩
set_option maxRecDepth 100000 in
set_option maxHeartbeats 1000000 in
theorem refNumber_any (v : Nat) (hv : v ≤ 2147483647) (w : World) :
  Calls Tryz.prog 102 #[.int .i64 v] w fun e w' => ∃ bv : Value, e = .returned (.tuple #[bv, .int .i64 0]) ∧ BRow w' w.heap.size bv (encNum v) ∧ Below w.heap.size w w' := by
 have hd0 : decide ((v : Int) < 0) = false := by simp
 have hd1 : decide ((2147483647 : Int) < v) = false := by simp; omega
 have HE := Aside0.mk (show encNum v = encN 4 v from rfl)
 go_enter Tryz.func102, Tryz.ntmps102
 go_wp2_with fail
 go_loopw [0, 4] (fun v0 v4 W => ∃ (f u : Nat) (acc : List Int), v0 = .int .i64 u ∧ u ≤ 2147483647 ∧ Aside0 (u < 128 ^ (f + 1)) ∧ Aside0 (acc ++ encN f u = encN 4 v) ∧ Aside0 (acc.length + f ≤ 4) ∧ Aside0 (BRow W w.heap.size v4 acc) ∧ Aside0 (Below w.heap.size w W)) (fun v0 _ _ => (intOf v0).toNat)
 case atStart => exact ⟨4, v, [], rfl, hv, ⟨by omega⟩, ⟨rfl⟩, ⟨Nat.le_refl _⟩, ⟨Kd.R_nil _ _ _ _ _⟩, ⟨Below.refl _ _⟩⟩
 case round =>
  clear hd0 hd1
  obtain ⟨f, u, acc, rfl, hu, HP, HA, HL, HO, HB⟩ := hrel
  by_cases hc : 128 ≤ u
  · obtain ⟨f, rfl⟩ : ∃ m, f = m + 1 := by
     cases f with
     | zero => have := HP.out; omega
     | succ m => exact ⟨m, rfl⟩
    have hcd : decide ((127 : Int) < u) = true := by simp; omega
    have HA2 := Aside0.mk (show (acc ++ [((u % 128 + 128 : Nat) : Int)]) ++ encN f (u / 128) = encN 4 v by rw [← HA.out, encN_large hc]; simp)
    have HOR : ((u : Int) % 128 + 128) % 256 = (u : Int) % 128 + 128 := by omega
    go_wp2_with ((with_reducible refine gate_builtin (b := .append) (xs := #[.tmp 13, .tmp 18]) rfl ?_); at_builtin; refine Kd.R_append (Kd.int .u8) (w0 := w) w.heap.size rfl (.tmp 13) (.tmp 18) 41 5 (.int .u8 0) 1 rfl Tryz.underlying41 info5 rfl (by decide) (by omega) u4 acc _ [.int .u8 ((u % 128 + 128 : Nat) : Int)] (fun _ => True) (fun _ => False) rfl rfl rfl (fun _ hk => hk.elim) (fun _ _ => trivial) HO.out HB.out (below_size HB.out) (by have := HL.out; omega) ?_; intro v1 W1 ho hb _ _; have HO1 := Aside0.mk ho; have HB1 := Aside0.mk hb; clear ho hb)
    go_roundw
    case rel => exact ⟨f, u / 128, acc ++ [((u % 128 + 128 : Nat) : Int)], by go_num, by omega, ⟨by have := HP.out; rw [Nat.pow_succ] at this; omega⟩, HA2, ⟨by have := HL.out; simp; omega⟩, HO1, HB1⟩
    case measure => simp [intOf]; omega
  · have hcd : decide ((127 : Int) < u) = false := by simp; omega
    have HA2 := Aside0.mk (show acc ++ [(u : Int)] = encN 4 v by rw [← HA.out, encN_small (by omega)])
    go_wp2_with ((with_reducible refine gate_builtin (b := .append) (xs := #[.tmp 22, .tmp 25]) rfl ?_); at_builtin; refine Kd.R_append (Kd.int .u8) (w0 := w) w.heap.size rfl (.tmp 22) (.tmp 25) 41 5 (.int .u8 0) 1 rfl Tryz.underlying41 info5 rfl (by decide) (by omega) u4 acc _ [.int .u8 (u : Int)] (fun _ => True) (fun _ => False) rfl rfl rfl (fun _ hk => hk.elim) (fun _ _ => trivial) HO.out HB.out (below_size HB.out) (by have := HL.out; omega) ?_; intro v1 W1 ho hb _ _; have HO1 := Aside0.mk ho; have HB1 := Aside0.mk hb; clear ho hb)
    go_ret2
    exact ⟨_, rfl, by rw [HE.out, ← HA2.out]; exact HO1.out, HB1.out⟩
def encTxt (s : ByteArray) : List Int := encNum (s.size : Int) ++ bytesOf s
set_option maxRecDepth 100000 in
theorem text_any (s : ByteArray) (hs : s.size ≤ 262144) (w : World) :
  Calls Tryz.prog 226 #[.string s] w fun e w' => ∃ bv : Value, e = .returned (.tuple #[bv, .int .i64 0]) ∧ BRow w' w.heap.size bv (encTxt s) ∧ Below w.heap.size w w' := by
 have hd : decide ((262144 : Int) < s.size) = false := by simp; omega
 go_enter Tryz.func226, Tryz.ntmps226
 go_wp2_with (first | (go_at_call 101; (with_reducible refine (number_any s.size (by omega) _).mono ?_); rintro e w1 ⟨bv, rfl, ho, hb⟩; have HO := Aside0.mk ho; have HB := Aside0.mk hb; clear ho hb) | (at_builtin; refine print_append_str (w0 := w) w.heap.size rfl (.tmp 15) (.tmp 16) 41 9 5 rfl Tryz.underlying41 Tryz.underlying9 info5 bv (encNum (s.size : Int)) s rfl rfl (Kd.own_of_R HO.out) HB.out (below_size HB.out) (by have := encNum_len (s.size : Int); omega) ?_; intro v1 W1 ho hb _; have HO1 := Aside0.mk ho; have HB1 := Aside0.mk hb; clear ho hb))
 go_ret2
 exact ⟨_, rfl, Kd.R_of_own HO1.out (fun _ _ => trivial), HB1.out⟩
set_option maxRecDepth 100000 in
theorem refText_any (s : ByteArray) (hs : s.size ≤ 262144) (w : World) :
  Calls Tryz.prog 157 #[.string s] w fun e w' => ∃ bv : Value, e = .returned (.tuple #[bv, .int .i64 0]) ∧ BRow w' w.heap.size bv (encTxt s) ∧ Below w.heap.size w w' := by
 have hd : decide ((262144 : Int) < s.size) = false := by simp; omega
 go_enter Tryz.func157, Tryz.ntmps157
 go_wp2_with (first | (go_at_call 102; (with_reducible refine (refNumber_any s.size (by omega) _).mono ?_); rintro e w1 ⟨bv, rfl, ho, hb⟩; have HO := Aside0.mk ho; have HB := Aside0.mk hb; clear ho hb) | (at_builtin; refine print_append_str (w0 := w) w.heap.size rfl (.tmp 15) (.tmp 16) 41 9 5 rfl Tryz.underlying41 Tryz.underlying9 info5 bv (encNum (s.size : Int)) s rfl rfl (Kd.own_of_R HO.out) HB.out (below_size HB.out) (by have := encNum_len (s.size : Int); omega) ?_; intro v1 W1 ho hb _; have HO1 := Aside0.mk ho; have HB1 := Aside0.mk hb; clear ho hb))
 go_ret2
 exact ⟨_, rfl, Kd.R_of_own HO1.out (fun _ _ => trivial), HB1.out⟩
end Go.Proofs.YtmneemhplffemaaGreatDoorRR.Wire
namespace Go.Proofs.YtmneemhplffemaaGreatDoorRR.Wire
open Go.RowKit Go.Proofs.YtmneemhplffemaaGreatDoorRR.Ext Go.Proofs.YtmneemhplffemaaGreatDoorRRW.PrintWords
def rdGo (xs : List Int) (a : Nat) : Nat → Nat → Int → Int × Int × Int
 | 0, _, _ => (0, 0, 20)
 | f + 1, k, v =>
   if a + k < xs.length then
    (if xs.getD (a + k) 0 < 128 then (if (xs.getD (a + k) 0 = 0 ∧ 0 < k) ∨ 2147483647 < v + xs.getD (a + k) 0 % 128 * 128 ^ k then (0, 0, 20) else (v + xs.getD (a + k) 0 % 128 * 128 ^ k, ((a + k + 1 : Nat) : Int), 0))
     else rdGo xs a f (k + 1) (v + xs.getD (a + k) 0 % 128 * 128 ^ k))
   else (0, 0, 21)
def rdNum (xs : List Int) (a : Nat) : Int × Int × Int := rdGo xs a 5 0 0
def Bytes (xs : List Int) : Prop := ∀ b ∈ xs, 0 ≤ b ∧ b < 256
theorem Bytes.at_ {xs : List Int} (h : Bytes xs) (i : Nat) : 0 ≤ xs.getD i 0 ∧ xs.getD i 0 < 256 := by
 rw [List.getD_eq_getElem?_getD]
 cases hx : xs[i]? with
 | none => simp
 | some b => exact h b (List.mem_of_getElem? hx)
theorem ret3 {a b c : Int} {p : Int × Int × Int} (h : p = (a, b, c)) : Ending.returned (.tuple #[.int .i64 a, .int .i64 b, .int .i64 c]) = Ending.returned (.tuple #[.int .i64 p.1, .int .i64 p.2.1, .int .i64 p.2.2]) := by rw [h]
theorem and_127 (b : Int) (h0 : 0 ≤ b) (h1 : b < 256) : Go.bits .and .u8 b 127 = b % 128 := by
 have key : ∀ x : Fin 256, Go.bits .and .u8 (x.val : Int) 127 = (x.val : Int) % 128 := by decide +kernel
 obtain ⟨n, rfl⟩ := Int.eq_ofNat_of_zero_le h0
 exact key ⟨n, by omega⟩
theorem or_fit (i : Nat) (v c : Int) (h0 : 0 ≤ v) (h1 : v < 2 ^ i) (h2 : 0 ≤ c) (h3 : v + c * 2 ^ i ≤ 9223372036854775807) : Go.bits .or .i64 v (c * 2 ^ i) = v + c * 2 ^ i := by
  obtain ⟨n, rfl⟩ := Int.eq_ofNat_of_zero_le h0
  obtain ⟨m, rfl⟩ := Int.eq_ofNat_of_zero_le h2
  have e1 : ((m : Int) * 2 ^ i) = ((2 ^ i * m : Nat) : Int) := by simp [Int.mul_comm]
  have hn : n < 2 ^ i := by have : ((n : Int)) < ((2 ^ i : Nat) : Int) := by simpa using h1
                            omega
  rw [e1] at h3 ⊢
  have hle : n + 2 ^ i * m ≤ 9223372036854775807 := by omega
  unfold Go.bits
  rw [BitVec.ofInt_natCast, BitVec.ofInt_natCast]
  show IntKind.i64.wrap ((BitVec.ofNat 64 n ||| BitVec.ofNat 64 (2 ^ i * m)).toNat : Int) = _
  rw [BitVec.toNat_or, BitVec.toNat_ofNat, BitVec.toNat_ofNat, Nat.mod_eq_of_lt (by omega), Nat.mod_eq_of_lt (by omega), Nat.or_comm, ← Nat.two_pow_add_eq_or_of_lt hn, IntWalk.i64_in _ (by omega)]
  omega
theorem rdGo_more {xs : List Int} {a k : Nat} {v b : Int} (hk : k < 5) (h : a + k < xs.length) (hb : b = xs.getD (a + k) 0) (hc : ¬ b < 128) : rdGo xs a (5 - k) k v = rdGo xs a (5 - (k + 1)) (k + 1) (v + b % 128 * 128 ^ k) := by
 rw [show 5 - k = (5 - (k + 1)) + 1 by omega, rdGo, if_pos h, ← hb, if_neg hc]
theorem rdGo_bad {xs : List Int} {a k : Nat} {v b : Int} (hk : k < 5) (h : a + k < xs.length) (hb : b = xs.getD (a + k) 0) (hc : b < 128) (hz : (b = 0 ∧ 0 < k) ∨ 2147483647 < v + b % 128 * 128 ^ k) : rdGo xs a (5 - k) k v = (0, 0, 20) := by
 rw [show 5 - k = (5 - (k + 1)) + 1 by omega, rdGo, if_pos h, ← hb, if_pos hc, if_pos hz]
theorem rdGo_good {xs : List Int} {a k : Nat} {v b : Int} (hk : k < 5) (h : a + k < xs.length) (hb : b = xs.getD (a + k) 0) (hc : b < 128) (hz : ¬ ((b = 0 ∧ 0 < k) ∨ 2147483647 < v + b % 128 * 128 ^ k)) : rdGo xs a (5 - k) k v = (v + b % 128 * 128 ^ k, ((a + k + 1 : Nat) : Int), 0) := by
 rw [show 5 - k = (5 - (k + 1)) + 1 by omega, rdGo, if_pos h, ← hb, if_pos hc, if_neg hz]
theorem rdGo_short {xs : List Int} {a k : Nat} {v : Int} (hk : k < 5) (h : ¬ a + k < xs.length) : rdGo xs a (5 - k) k v = (0, 0, 21) := by
 rw [show 5 - k = (5 - (k + 1)) + 1 by omega, rdGo, if_neg h]
theorem ret3e {a b c x y z : Int} {p : Int × Int × Int} (h : p = (a, b, c)) (hx : x = a) (hy : y = b) (hz : z = c) : Ending.returned (.tuple #[.int .i64 x, .int .i64 y, .int .i64 z]) = Ending.returned (.tuple #[.int .i64 p.1, .int .i64 p.2.1, .int .i64 p.2.2]) := by rw [h, hx, hy, hz]
set_option maxRecDepth 100000 in
set_option maxHeartbeats 2000000 in
theorem readNumber_any (A : Option Addr) (c : Nat) (xs : List Int) (a : Nat) (hB : Bytes xs) (ha : a ≤ xs.length) (w : World) (hr : (Kd.int .u8).C w A xs.length xs) (hc : xs.length ≤ c) :
  Calls Tryz.prog 110 #[.slice A xs.length c, .int .i64 a] w fun e w' => e = .returned (.tuple #[.int .i64 (rdNum xs a).1, .int .i64 (rdNum xs a).2.1, .int .i64 (rdNum xs a).2.2]) ∧ w = w' := by
 have hm : xs.length ≤ 9223372036854775807 := hr.2.1
 obtain ⟨i0, hi, hz0, hz1, hz2⟩ := info_parts info5
 obtain ⟨A', hrun, hrd, hle⟩ := print_drop_of (P := Tryz.prog) (Value.int .u8) (0 : Int) 41 5 .i64 Tryz.underlying41 hi hz1 A c xs (a : Int) (by omega) (by omega) hc
 simp only [Int.toNat_natCast] at hrun hrd hle
 have hl : (xs.drop a).length = xs.length - a := List.length_drop
 have HR := Aside0.mk (hrd w (Kd.reads_of_C hr))
 have HS := Aside0.mk (show rdGo xs a 5 0 0 = rdNum xs a from rfl)
 have HBY := Aside0.mk hB
 have hd0 : decide ((a : Int) < 0) = false := by simp
 have hd1 : decide ((xs.length : Int) < a) = false := by simp; omega
 rw [hl] at hrun
 have hd2 : decide (xs.length < a) = false := by simp; omega
 clear hr hrd hB hi hz0 hz1 hz2 hle
 clear hl
 go_enter Tryz.func110, Tryz.ntmps110
 go_wp2_with fail
 go_loop [7, 22] (fun v7 v22 => ∃ (k : Nat) (v : Int), v7 = .int .i64 v ∧ v22 = .int .i64 k ∧ k ≤ 5 ∧ k ≤ xs.length - a ∧ 0 ≤ v ∧ Aside0 (v < 128 ^ k) ∧ Aside0 (rdGo xs a (5 - k) k v = rdNum xs a)) (fun _ v22 => 5 - (intOf v22).toNat)
 case atStart => exact ⟨0, 0, rfl, rfl, by omega, by omega, by omega, ⟨by decide⟩, ⟨HS.out⟩⟩
 case round =>
  obtain ⟨k, v, rfl, rfl, hk, hkl, hv0, HV, HG⟩ := hrel
  clear hd0 hd1 hd2
  by_cases h5 : k = 5
  · subst h5
    have HG2 := Aside0.mk (show rdNum xs a = (0, 0, 20) from HG.out.symm)
    have hge : decide (5 ≤ (xs.length : Int) - a) = true := by simp; omega
    by_cases hlt : 5 < xs.length - a
    · obtain ⟨ad, rfl, hx⟩ := ReadsInt.at_ HR.out (5 : Int) (by omega) (by rw [List.length_drop]; omega)
      simp [Addr.add] at hx
      go_wp2_with fail
      go_ret3
      exact ⟨ret3 HG2.out, rfl⟩
    · go_wp2_with fail
      go_ret3
      exact ⟨ret3 HG2.out, rfl⟩
  · by_cases hlt : k < xs.length - a
    · obtain ⟨ad, rfl, hx⟩ := ReadsInt.at_ HR.out (k : Int) (by omega) (by rw [List.length_drop]; omega)
      rw [Int.toNat_natCast] at hx
      obtain ⟨b, hbe⟩ : ∃ b, b = xs.getD (a + k) 0 := ⟨_, rfl⟩
      rw [show rd (xs.drop a) (k : Int) = b by rw [hbe]; unfold rd; rw [Int.toNat_natCast]; simp [List.getD_eq_getElem?_getD]] at hx
      have hb0 : 0 ≤ b := by rw [hbe]; exact (HBY.out.at_ _).1
      have hb1 : b < 256 := by rw [hbe]; exact (HBY.out.at_ _).2
      have hand := and_127 b hb0 hb1
      have hvk : v < 2 ^ (7 * k) := by rw [Int.pow_mul]; exact HV.out
      have hor : Go.bits .or .i64 v (b % 128 * 2 ^ (7 * k)) = v + b % 128 * 2 ^ (7 * k) := by
        obtain rfl | rfl | rfl | rfl | rfl : k = 0 ∨ k = 1 ∨ k = 2 ∨ k = 3 ∨ k = 4 := by omega
        all_goals exact or_fit _ v (b % 128) hv0 hvk (by omega) (by simp at hvk ⊢; omega)
      have HV2 : Aside0 (v + b % 128 * 128 ^ k < 128 ^ (k + 1)) := ⟨by
        have := HV.out
        have h128 : b % 128 * 128 ^ k ≤ 127 * 128 ^ k := Int.mul_le_mul_of_nonneg_right (by omega) (Int.pow_nonneg (by omega))
        rw [Int.pow_succ]
        omega⟩
      have hvb := HV.out
      by_cases hc : b < 128
      · have hcd : decide (128 ≤ b) = false := by simp; omega
        by_cases hz : (b = 0 ∧ 0 < k) ∨ 2147483647 < v + b % 128 * 128 ^ k
        · have HG2 := Aside0.mk (HG.out.symm.trans (rdGo_bad (by omega) (by omega) hbe hc hz))
          by_cases hz0 : b = 0
          · have hz1 : (b == 0) = true := by simp [hz0]
            have hz2 : 0 < k := by
             rcases hz with hz | hz
             · exact hz.2
             · subst hz0
               obtain rfl | rfl | rfl | rfl | rfl : k = 0 ∨ k = 1 ∨ k = 2 ∨ k = 3 ∨ k = 4 := by omega
               all_goals (simp at hz hvb; omega)
            clear hbe hz hz0
            obtain rfl | rfl | rfl | rfl : k = 1 ∨ k = 2 ∨ k = 3 ∨ k = 4 := by omega
            all_goals
             simp [Addr.add] at hx hor hvb
             go_wp2_with fail
             go_ret3
             exact ⟨ret3 HG2.out, rfl⟩
          · have hz1 : (b == 0) = false := by simp [hz0]
            have hz2 : 2147483647 < v + b % 128 * 128 ^ k := hz.resolve_left (fun h => hz0 h.1)
            obtain rfl : k = 4 := by
             obtain rfl | rfl | rfl | rfl | rfl : k = 0 ∨ k = 1 ∨ k = 2 ∨ k = 3 ∨ k = 4 := by omega
             all_goals (simp at hz2 hvb; omega)
            clear hbe hz hz0
            simp [Addr.add] at hx hor hz2 hvb
            go_wp2_with fail
            go_ret3
            exact ⟨ret3 HG2.out, rfl⟩
        · have HG2 := Aside0.mk (HG.out.symm.trans (rdGo_good (by omega) (by omega) hbe hc hz))
          have hz2 : v + b % 128 * 128 ^ k ≤ 2147483647 := by omega
          by_cases hz0 : b = 0
          · have hz1 : (b == 0) = true := by simp [hz0]
            obtain rfl : k = 0 := by omega
            clear hbe hz hz0
            simp [Addr.add] at hx hor hz2 hvb
            go_wp2_with fail
            go_ret3
            exact ⟨ret3e HG2.out (by simp) (by omega) rfl, rfl⟩
          · have hz1 : (b == 0) = false := by simp [hz0]
            clear hbe hz hz0
            obtain rfl | rfl | rfl | rfl | rfl : k = 0 ∨ k = 1 ∨ k = 2 ∨ k = 3 ∨ k = 4 := by omega
            all_goals
             simp [Addr.add] at hx hor hz2 hvb
             go_wp2_with fail
             go_ret3
             exact ⟨ret3e HG2.out (by simp) (by omega) rfl, rfl⟩
      · have hcd : decide (128 ≤ b) = true := by simp; omega
        have HG2 := Aside0.mk ((rdGo_more (by omega) (by omega) hbe hc).symm.trans HG.out)
        clear hbe
        obtain rfl | rfl | rfl | rfl | rfl : k = 0 ∨ k = 1 ∨ k = 2 ∨ k = 3 ∨ k = 4 := by omega
        all_goals
          simp [Addr.add] at hx hor hvb
          go_wp2_with fail
          go_round
          case rel => first | exact ⟨1, _, rfl, rfl, by omega, by omega, by omega, ⟨by have := HV2.out; simpa using this⟩, ⟨by have := HG2.out; simpa using this⟩⟩ | exact ⟨2, _, rfl, rfl, by omega, by omega, by omega, ⟨by have := HV2.out; simpa using this⟩, ⟨by have := HG2.out; simpa using this⟩⟩ | exact ⟨3, _, rfl, rfl, by omega, by omega, by omega, ⟨by have := HV2.out; simpa using this⟩, ⟨by have := HG2.out; simpa using this⟩⟩ | exact ⟨4, _, rfl, rfl, by omega, by omega, by omega, ⟨by have := HV2.out; simpa using this⟩, ⟨by have := HG2.out; simpa using this⟩⟩ | exact ⟨5, _, rfl, rfl, by omega, by omega, by omega, ⟨by have := HV2.out; simpa using this⟩, ⟨by have := HG2.out; simpa using this⟩⟩
          case measure => simp [intOf]
    · have HG2 := Aside0.mk (HG.out.symm.trans (rdGo_short (by omega) (by omega)))
      have hge : decide (5 ≤ (xs.length : Int) - a) = false := by simp; omega
      go_wp2_with fail
      go_ret3
      exact ⟨ret3 HG2.out, rfl⟩
set_option maxRecDepth 100000 in
set_option maxHeartbeats 2000000 in
theorem refReadNumber_any (A : Option Addr) (c : Nat) (xs : List Int) (a : Nat) (hB : Bytes xs) (ha : a ≤ xs.length) (hm : xs.length ≤ 4611686018427387904) (w : World) (hr : (Kd.int .u8).C w A xs.length xs) (hc : xs.length ≤ c) :
  Calls Tryz.prog 111 #[.slice A xs.length c, .int .i64 a] w fun e w' => e = .returned (.tuple #[.int .i64 (rdNum xs a).1, .int .i64 (rdNum xs a).2.1, .int .i64 (rdNum xs a).2.2]) ∧ w = w' := by
 have HR := Aside0.mk (Kd.reads_of_C (d := (0 : Int)) hr)
 have HS := Aside0.mk (show rdGo xs a 5 0 0 = rdNum xs a from rfl)
 have HBY := Aside0.mk hB
 have hd0 : decide ((a : Int) < 0) = false := by simp
 have hd1 : decide ((xs.length : Int) < a) = false := by simp; omega
 have hd2 : decide (xs.length < a) = false := by simp; omega
 clear hr hB
 go_enter Tryz.func111, Tryz.ntmps111
 go_wp2_with fail
 go_loop [7, 8, 9] (fun v7 v8 v9 => ∃ (k : Nat) (v : Int), v7 = .int .i64 v ∧ v8 = .int .i64 (128 ^ k) ∧ v9 = .int .i64 k ∧ k ≤ 5 ∧ a + k ≤ xs.length ∧ 0 ≤ v ∧ Aside0 (v < 128 ^ k) ∧ Aside0 (rdGo xs a (5 - k) k v = rdNum xs a)) (fun _ _ v9 => 5 - (intOf v9).toNat)
 case atStart => exact ⟨0, 0, rfl, rfl, rfl, by omega, by omega, by omega, ⟨by decide⟩, ⟨HS.out⟩⟩
 case round =>
  obtain ⟨k, v, rfl, rfl, rfl, hk, hkl, hv0, HV, HG⟩ := hrel
  clear hd0 hd1 hd2
  by_cases h5 : k = 5
  · subst h5
    have HG2 := Aside0.mk (show rdNum xs a = (0, 0, 20) from HG.out.symm)
    go_wp2_with fail
    go_ret3
    exact ⟨ret3 HG2.out, rfl⟩
  · by_cases hlt : a + k < xs.length
    · obtain ⟨ad, rfl, hx⟩ := ReadsInt.at_ HR.out ((a + k : Nat) : Int) (by omega) (by omega)
      rw [Int.toNat_natCast] at hx
      obtain ⟨b, hbe⟩ : ∃ b, b = xs.getD (a + k) 0 := ⟨_, rfl⟩
      rw [show rd xs ((a + k : Nat) : Int) = b by rw [hbe]; unfold rd; rw [Int.toNat_natCast]] at hx
      have hb0 : 0 ≤ b := by rw [hbe]; exact (HBY.out.at_ _).1
      have hb1 : b < 256 := by rw [hbe]; exact (HBY.out.at_ _).2
      have HV2 : Aside0 (v + b % 128 * 128 ^ k < 128 ^ (k + 1)) := ⟨by
        have := HV.out
        have h128 : b % 128 * 128 ^ k ≤ 127 * 128 ^ k := Int.mul_le_mul_of_nonneg_right (by omega) (Int.pow_nonneg (by omega))
        rw [Int.pow_succ]
        omega⟩
      have hvb := HV.out
      have hge : decide ((xs.length : Int) ≤ (a : Int) + k) = false := by simp; omega
      by_cases hc : b < 128
      · have hcd : decide (b < 128) = true := by simp; omega
        by_cases hz : (b = 0 ∧ 0 < k) ∨ 2147483647 < v + b % 128 * 128 ^ k
        · have HG2 := Aside0.mk (HG.out.symm.trans (rdGo_bad (by omega) (by omega) hbe hc hz))
          by_cases hz0 : b = 0
          · have hz1 : (b == 0) = true := by simp [hz0]
            have hz2 : 0 < k := by
             rcases hz with hz | hz
             · exact hz.2
             · subst hz0
               obtain rfl | rfl | rfl | rfl | rfl : k = 0 ∨ k = 1 ∨ k = 2 ∨ k = 3 ∨ k = 4 := by omega
               all_goals (simp at hz hvb; omega)
            clear hbe hz hz0
            obtain rfl | rfl | rfl | rfl : k = 1 ∨ k = 2 ∨ k = 3 ∨ k = 4 := by omega
            all_goals
             (first | simp only [Nat.add_zero] at hx | simp [Addr.add] at hx)
             simp at hvb hge
             go_wp2_with fail
             go_ret3
             exact ⟨ret3 HG2.out, rfl⟩
          · have hz1 : (b == 0) = false := by simp [hz0]
            have hz2 : 2147483647 < v + b % 128 * 128 ^ k := hz.resolve_left (fun h => hz0 h.1)
            obtain rfl : k = 4 := by
             obtain rfl | rfl | rfl | rfl | rfl : k = 0 ∨ k = 1 ∨ k = 2 ∨ k = 3 ∨ k = 4 := by omega
             all_goals (simp at hz2 hvb; omega)
            clear hbe hz hz0
            (first | simp only [Nat.add_zero] at hx | simp [Addr.add] at hx)
            simp at hz2 hvb hge
            go_wp2_with fail
            go_ret3
            exact ⟨ret3 HG2.out, rfl⟩
        · have HG2 := Aside0.mk (HG.out.symm.trans (rdGo_good (by omega) (by omega) hbe hc hz))
          have hz2 : v + b % 128 * 128 ^ k ≤ 2147483647 := by omega
          by_cases hz0 : b = 0
          · have hz1 : (b == 0) = true := by simp [hz0]
            obtain rfl : k = 0 := by omega
            clear hbe hz hz0
            (first | simp only [Nat.add_zero] at hx | simp [Addr.add] at hx)
            simp at hz2 hvb hge
            go_wp2_with fail
            go_ret3
            exact ⟨ret3e HG2.out (by simp) (by omega) rfl, rfl⟩
          · have hz1 : (b == 0) = false := by simp [hz0]
            clear hbe hz hz0
            obtain rfl | rfl | rfl | rfl | rfl : k = 0 ∨ k = 1 ∨ k = 2 ∨ k = 3 ∨ k = 4 := by omega
            all_goals
             (first | simp only [Nat.add_zero] at hx | simp [Addr.add] at hx)
             simp at hz2 hvb hge
             go_wp2_with fail
             go_ret3
             exact ⟨ret3e HG2.out (by simp) (by omega) rfl, rfl⟩
      · have hcd : decide (b < 128) = false := by simp; omega
        have HG2 := Aside0.mk ((rdGo_more (by omega) (by omega) hbe hc).symm.trans HG.out)
        clear hbe
        obtain rfl | rfl | rfl | rfl | rfl : k = 0 ∨ k = 1 ∨ k = 2 ∨ k = 3 ∨ k = 4 := by omega
        all_goals
          (first | simp only [Nat.add_zero] at hx | simp [Addr.add] at hx)
          simp at hvb hge
          go_wp2_with fail
          go_round
          case rel => first | exact ⟨1, _, rfl, rfl, rfl, by omega, by omega, by omega, ⟨by have := HV2.out; simpa using this⟩, ⟨by have := HG2.out; simpa using this⟩⟩ | exact ⟨2, _, rfl, rfl, rfl, by omega, by omega, by omega, ⟨by have := HV2.out; simpa using this⟩, ⟨by have := HG2.out; simpa using this⟩⟩ | exact ⟨3, _, rfl, rfl, rfl, by omega, by omega, by omega, ⟨by have := HV2.out; simpa using this⟩, ⟨by have := HG2.out; simpa using this⟩⟩ | exact ⟨4, _, rfl, rfl, rfl, by omega, by omega, by omega, ⟨by have := HV2.out; simpa using this⟩, ⟨by have := HG2.out; simpa using this⟩⟩ | exact ⟨5, _, rfl, rfl, rfl, by omega, by omega, by omega, ⟨by have := HV2.out; simpa using this⟩, ⟨by have := HG2.out; simpa using this⟩⟩
          case measure => simp [intOf]
    · have HG2 := Aside0.mk (HG.out.symm.trans (rdGo_short (by omega) (by omega)))
      have hge : decide ((xs.length : Int) ≤ (a : Int) + k) = true := by simp; omega
      go_wp2_with fail
      go_ret3
      exact ⟨ret3 HG2.out, rfl⟩
end Go.Proofs.YtmneemhplffemaaGreatDoorRR.Wire
namespace Go.Proofs.YtmneemhplffemaaGreatDoorRR.Wire
open Go.RowKit Go.Proofs.YtmneemhplffemaaGreatDoorRR.Ext Go.Proofs.YtmneemhplffemaaGreatDoorRRW.PrintWords
theorem drop_cons {xs : List Int} {i : Nat} (h : i < xs.length) : xs.drop i = xs.getD i 0 :: xs.drop (i + 1) := by
 rw [List.drop_eq_getElem_cons h, List.getD_eq_getElem?_getD, List.getElem?_eq_getElem h]
 rfl
theorem slice_cons {xs : List Int} {i q : Nat} (h : i < q) (hq : q ≤ xs.length) : (xs.take q).drop i = xs.getD i 0 :: (xs.take q).drop (i + 1) := by
 have hl : i < (xs.take q).length := by rw [List.length_take]; omega
 rw [List.drop_eq_getElem_cons hl, List.getElem_take, List.getD_eq_getElem?_getD, List.getElem?_eq_getElem (by omega)]
 rfl
theorem rdGo_says {xs : List Int} {a : Nat} (hB : Bytes xs) (f : Nat) : ∀ (k : Nat) (v r p : Int), rdGo xs a f k v = (r, p, 0) →
   ∃ u q : Nat, r = v + (u : Int) * 128 ^ k ∧ p = q ∧ a + k < q ∧ q ≤ xs.length ∧ (xs.take q).drop (a + k) = encN (f - 1) u ∧ (0 < k → 0 < u) ∧ r ≤ 2147483647 := by
 induction f with
 | zero => intro k v r p h; simp [rdGo] at h
 | succ f ih =>
   intro k v r p h
   rw [rdGo] at h
   obtain ⟨hb0, hb1⟩ := hB.at_ (a + k)
   obtain ⟨b, hb⟩ : ∃ b, b = xs.getD (a + k) 0 := ⟨_, rfl⟩
   rw [← hb] at h hb0 hb1
   split at h
   · rename_i hl
     split at h
     · rename_i hc
       split at h
       · simp at h
       · rename_i hz
         obtain ⟨n, rfl⟩ := Int.eq_ofNat_of_zero_le hb0
         simp only [Prod.mk.injEq, and_true] at h
         have hmod : (n : Int) % 128 = n := by omega
         rw [hmod] at h hz
         refine ⟨n, a + k + 1, h.1.symm, h.2.symm, by omega, by omega, ?_, fun hk => ?_, by omega⟩
         · rw [slice_cons (by omega) (by omega), ← hb, List.drop_eq_nil_of_le (by rw [List.length_take]; omega)]
           exact (encN_small (by omega)).symm
         · rcases Nat.eq_zero_or_pos n with h0 | h0
           · exact absurd (.inl ⟨by omega, hk⟩) hz
           · exact h0
     · rename_i hc
       obtain ⟨u, q, h1, h2, h3, h4, h5, h6, h7⟩ := ih _ _ _ _ h
       have hu := h6 (by omega)
       obtain ⟨n, rfl⟩ := Int.eq_ofNat_of_zero_le hb0
       cases f with
       | zero => simp [rdGo] at h
       | succ f =>
         refine ⟨n % 128 + 128 * u, q, ?_, h2, by omega, h4, ?_, fun _ => by omega, h7⟩
         · rw [h1, Int.pow_succ]
           have e : ((n % 128 + 128 * u : Nat) : Int) = (n : Int) % 128 + 128 * u := by omega
           rw [e, Int.add_mul, Int.add_assoc]
           congr 2
           rw [Int.mul_comm (128 : Int) u, Int.mul_assoc, Int.mul_comm (128 : Int)]
         · rw [slice_cons (by omega) h4, ← hb, show a + k + 1 = a + (k + 1) by omega, h5, show f + 1 + 1 - 1 = f + 1 by omega, encN_large (by omega), show (n % 128 + 128 * u) / 128 = u by omega]
           congr 1
           omega
   · simp at h
theorem rdNum_says {xs : List Int} {a : Nat} (hB : Bytes xs) (h : (rdNum xs a).2.2 = 0) :
  ∃ (v : Int) (q : Nat), rdNum xs a = (v, (q : Int), 0) ∧ 0 ≤ v ∧ v ≤ 2147483647 ∧ a < q ∧ q ≤ xs.length ∧ (xs.take q).drop a = encNum v := by
 obtain ⟨⟨r, p, e⟩, hx⟩ : ∃ x, x = rdNum xs a := ⟨_, rfl⟩
 rw [← hx] at h ⊢
 obtain rfl : e = 0 := h
 obtain ⟨u, q, h1, h2, h3, h4, h5, _, h7⟩ := rdGo_says hB 5 0 0 r p hx.symm
 simp only [Int.pow_zero, Int.mul_one, Int.zero_add, Nat.add_zero] at h1 h3 h5
 subst h1 h2
 exact ⟨u, q, rfl, by omega, h7, h3, h4, by rw [h5]; rfl⟩
theorem no_bad {u k : Nat} {v : Int} (hk : 0 < k → 0 < u) (hm : v + (u : Int) * 128 ^ k ≤ 2147483647) : ¬ (((u : Int) = 0 ∧ 0 < k) ∨ 2147483647 < v + (u : Int) * 128 ^ k) := by
 rintro (⟨h1, h2⟩ | h1)
 · have := hk h2
   omega
 · omega
theorem rdGo_of {xs : List Int} {a : Nat} (g : Nat) : ∀ (f k u : Nat) (v : Int) (rest : List Int), g < f → u < 128 ^ (g + 1) → xs.drop (a + k) = encN g u ++ rest → (0 < k → 0 < u) → v + (u : Int) * 128 ^ k ≤ 2147483647 → 0 ≤ v →
   rdGo xs a f k v = (v + (u : Int) * 128 ^ k, ((a + k + (encN g u).length : Nat) : Int), 0) := by
 induction g with
 | zero =>
   intro f k u v rest hf hu hd hk hm hv
   obtain ⟨f, rfl⟩ : ∃ m, f = m + 1 := ⟨f - 1, by omega⟩
   have hl : a + k < xs.length := by
     rcases Nat.lt_or_ge (a + k) xs.length with h | h
     · exact h
     · rw [List.drop_eq_nil_of_le h] at hd
       simp [encN] at hd
   rw [drop_cons hl] at hd
   simp only [encN, List.cons_append, List.nil_append, List.cons.injEq] at hd
   have hmod : (u : Int) % 128 = u := by omega
   rw [rdGo, if_pos hl, hd.1, if_pos (by omega), hmod, if_neg (no_bad hk hm)]
   rfl
 | succ g ih =>
   intro f k u v rest hf hu hd hk hm hv
   obtain ⟨f, rfl⟩ : ∃ m, f = m + 1 := ⟨f - 1, by omega⟩
   have hne := (encN_len (g + 1) u).1
   have hl : a + k < xs.length := by
     rcases Nat.lt_or_ge (a + k) xs.length with h | h
     · exact h
     · rw [List.drop_eq_nil_of_le h] at hd
       have := congrArg List.length hd
       simp at this
       omega
   rw [drop_cons hl] at hd
   by_cases hc : u < 128
   · rw [encN_small hc] at hd ⊢
     simp only [List.cons_append, List.nil_append, List.cons.injEq] at hd
     have hmod : (u : Int) % 128 = u := by omega
     rw [rdGo, if_pos hl, hd.1, if_pos (by omega), hmod, if_neg (no_bad hk hm)]
     rfl
   · rw [encN_large (by omega)] at hd ⊢
     simp only [List.cons_append, List.cons.injEq] at hd
     have hmod : ((u % 128 + 128 : Nat) : Int) % 128 = (u % 128 : Nat) := by omega
     rw [rdGo, if_pos hl, hd.1, if_neg (by omega), hmod]
     have e : v + ((u % 128 : Nat) : Int) * 128 ^ k + ((u / 128 : Nat) : Int) * 128 ^ (k + 1) = v + (u : Int) * 128 ^ k := by
       rw [Int.pow_succ, Int.add_assoc]
       congr 1
       rw [← Int.mul_assoc, Int.mul_right_comm, ← Int.add_mul]
       congr 1
       omega
     have hp : (0 : Int) ≤ 128 ^ k := Int.pow_nonneg (by omega)
     rw [ih f (k + 1) (u / 128) _ rest (by omega) (by rw [Nat.pow_succ] at hu; omega) (by rw [show a + (k + 1) = a + k + 1 by omega]; exact hd.2) (fun _ => by omega) (by rw [e]; exact hm) (Int.add_nonneg hv (Int.mul_nonneg (by omega) hp)), e]
     simp only [List.length_cons]
     congr 2
     omega
theorem rdNum_of {xs rest : List Int} {a : Nat} {v : Int} (h0 : 0 ≤ v) (h1 : v ≤ 2147483647) (h : xs.drop a = encNum v ++ rest) : rdNum xs a = (v, ((a + (encNum v).length : Nat) : Int), 0) := by
 obtain ⟨n, rfl⟩ := Int.eq_ofNat_of_zero_le h0
 have := rdGo_of (xs := xs) (a := a) 4 5 0 n 0 rest (by omega) (by omega) h (by omega) (by simp; omega) (by omega)
 simp only [Int.pow_zero, Int.mul_one, Int.zero_add, Nat.add_zero] at this
 exact this
end Go.Proofs.YtmneemhplffemaaGreatDoorRR.Wire
namespace Go.Proofs.YtmneemhplffemaaGreatDoorRR.Wire
open Go.RowKit Go.Proofs.YtmneemhplffemaaGreatDoorRR.Ext Go.Proofs.YtmneemhplffemaaGreatDoorRRW.PrintWords
def rdTxt (xs : List Int) (a : Nat) : ByteArray × Int × Int :=
 if (rdNum xs a).2.2 = 0 then
  (if 262144 < (rdNum xs a).1 then (⟨#[]⟩, 0, 2)
   else if (xs.length : Int) - (rdNum xs a).2.1 < (rdNum xs a).1 then (⟨#[]⟩, 0, 21)
   else (strOfNums ((xs.take ((rdNum xs a).2.1 + (rdNum xs a).1).toNat).drop (rdNum xs a).2.1.toNat), (rdNum xs a).2.1 + (rdNum xs a).1, 0))
 else (⟨#[]⟩, 0, (rdNum xs a).2.2)
theorem rett {s x : ByteArray} {a c y z : Int} {p : ByteArray × Int × Int} (h : p = (s, a, c)) (hx : x = s) (hy : y = a) (hz : z = c) : Ending.returned (.tuple #[.string x, .int .i64 y, .int .i64 z]) = Ending.returned (.tuple #[.string p.1, .int .i64 p.2.1, .int .i64 p.2.2]) := by rw [h, hx, hy, hz]
set_option maxRecDepth 100000 in
set_option maxHeartbeats 1000000 in
theorem readText_any (A : Option Addr) (c : Nat) (xs : List Int) (a : Nat) (hB : Bytes xs) (ha : a ≤ xs.length) (hm : xs.length ≤ 4611686018427387904) (w : World) (hr : (Kd.int .u8).C w A xs.length xs) (hc : xs.length ≤ c) :
   Calls Tryz.prog 227 #[.slice A xs.length c, .int .i64 a] w fun e w' => e = .returned (.tuple #[.string (rdTxt xs a).1, .int .i64 (rdTxt xs a).2.1, .int .i64 (rdTxt xs a).2.2]) ∧ w = w' := by
 have HN := Aside0.mk (readNumber_any A c xs a hB ha w hr hc)
 by_cases h0 : (rdNum xs a).2.2 = 0
 · obtain ⟨v, q, hn, hv0, hv1, hq0, hq1, _⟩ := rdNum_says hB h0
   rw [hn] at HN
   by_cases h1 : 262144 < v
   · have hd1 : decide ((262144 : Int) < v) = true := by simp; omega
     have HE := Aside0.mk (show rdTxt xs a = (⟨#[]⟩, 0, 2) by unfold rdTxt; rw [hn]; rw [if_pos rfl, if_pos h1])
     clear h0 hr hB hn
     go_enter Tryz.func227, Tryz.ntmps227
     go_wp2_with (go_at_call 110; (with_reducible refine HN.out.mono ?_); rintro e w1 ⟨rfl, rfl⟩)
     go_ret3
     exact ⟨rett HE.out rfl rfl rfl, rfl⟩
   · have hd1 : decide ((262144 : Int) < v) = false := by simp; omega
     by_cases h2 : (xs.length : Int) - q < v
     · have hd2 : decide ((xs.length : Int) - q < v) = true := by simp; omega
       have HE := Aside0.mk (show rdTxt xs a = (⟨#[]⟩, 0, 21) by unfold rdTxt; rw [hn]; rw [if_pos rfl, if_neg h1, if_pos h2])
       clear h0 hr hB hn
       go_enter Tryz.func227, Tryz.ntmps227
       go_wp2_with (go_at_call 110; (with_reducible refine HN.out.mono ?_); rintro e w1 ⟨rfl, rfl⟩)
       go_ret3
       exact ⟨rett HE.out rfl rfl rfl, rfl⟩
     · have hd2 : decide ((xs.length : Int) - q < v) = false := by simp; omega
       have HE := Aside0.mk (show rdTxt xs a = (strOfNums ((xs.take ((q : Int) + v).toNat).drop q), (q : Int) + v, 0) by unfold rdTxt; rw [hn]; rw [if_pos rfl, if_neg h1, if_neg h2]; rfl)
       obtain ⟨i0, hi, hz0, hz1, hz2⟩ := info_parts info5
       obtain ⟨A', hrun, hrd, hle⟩ := print_mid_of (P := Tryz.prog) (Value.int .u8) (0 : Int) 41 5 .i64 .i64 Tryz.underlying41 hi hz1 A c xs (q : Int) ((q : Int) + v) (by omega) (by omega) (by omega) hc
       simp only [Int.toNat_natCast] at hrun hrd hle
       have hcv := string_of_reads (P := Tryz.prog) (src := 41) (dst := 9) (c := c - q) Tryz.underlying41 Tryz.underlying5 Tryz.underlying9 (hrd w (Kd.reads_of_C hr))
       obtain ⟨L, hL⟩ : ∃ L, L = ((xs.take ((q : Int) + v).toNat).drop q).length := ⟨_, rfl⟩
       rw [← hL] at hrun hcv
       clear hL
       have HQ : (q : Int) + v ≤ 4611686018427387904 := by omega
       clear hle
       clear h0 hr hB hn hi hz0 hz1 hz2 hrd h1 h2
       go_enter Tryz.func227, Tryz.ntmps227
       go_wp2_with (go_at_call 110; (with_reducible refine HN.out.mono ?_); rintro e w1 ⟨rfl, rfl⟩)
       go_ret3
       exact ⟨rett HE.out rfl rfl rfl, rfl⟩
 · have hd0 : ((rdNum xs a).2.2 != 0) = true := by simp [h0]
   have HE := Aside0.mk (show rdTxt xs a = (⟨#[]⟩, 0, (rdNum xs a).2.2) by unfold rdTxt; rw [if_neg h0])
   clear h0 hr hB
   go_enter Tryz.func227, Tryz.ntmps227
   go_wp2_with (go_at_call 110; (with_reducible refine HN.out.mono ?_); rintro e w1 ⟨rfl, rfl⟩)
   go_ret3
   exact ⟨rett HE.out rfl rfl rfl, rfl⟩
set_option maxRecDepth 100000 in
set_option maxHeartbeats 1000000 in
theorem refReadText_any (A : Option Addr) (c : Nat) (xs : List Int) (a : Nat) (hB : Bytes xs) (ha : a ≤ xs.length) (hm : xs.length ≤ 4611686018427387904) (w : World) (hr : (Kd.int .u8).C w A xs.length xs) (hc : xs.length ≤ c) :
   Calls Tryz.prog 162 #[.slice A xs.length c, .int .i64 a] w fun e w' => e = .returned (.tuple #[.string (rdTxt xs a).1, .int .i64 (rdTxt xs a).2.1, .int .i64 (rdTxt xs a).2.2]) ∧ w = w' := by
 have HN := Aside0.mk (refReadNumber_any A c xs a hB ha hm w hr hc)
 by_cases h0 : (rdNum xs a).2.2 = 0
 · obtain ⟨v, q, hn, hv0, hv1, hq0, hq1, _⟩ := rdNum_says hB h0
   rw [hn] at HN
   by_cases h1 : 262144 < v
   · have hd1 : decide ((262144 : Int) < v) = true := by simp; omega
     have HE := Aside0.mk (show rdTxt xs a = (⟨#[]⟩, 0, 2) by unfold rdTxt; rw [hn]; rw [if_pos rfl, if_pos h1])
     clear h0 hr hB hn
     go_enter Tryz.func162, Tryz.ntmps162
     go_wp2_with (go_at_call 111; (with_reducible refine HN.out.mono ?_); rintro e w1 ⟨rfl, rfl⟩)
     go_ret3
     exact ⟨rett HE.out rfl rfl rfl, rfl⟩
   · have hd1 : decide ((262144 : Int) < v) = false := by simp; omega
     by_cases h2 : (xs.length : Int) - q < v
     · have hd2 : decide ((xs.length : Int) - q < v) = true := by simp; omega
       have HE := Aside0.mk (show rdTxt xs a = (⟨#[]⟩, 0, 21) by unfold rdTxt; rw [hn]; rw [if_pos rfl, if_neg h1, if_pos h2])
       clear h0 hr hB hn
       go_enter Tryz.func162, Tryz.ntmps162
       go_wp2_with (go_at_call 111; (with_reducible refine HN.out.mono ?_); rintro e w1 ⟨rfl, rfl⟩)
       go_ret3
       exact ⟨rett HE.out rfl rfl rfl, rfl⟩
     · have hd2 : decide ((xs.length : Int) - q < v) = false := by simp; omega
       have HE := Aside0.mk (show rdTxt xs a = (strOfNums ((xs.take ((q : Int) + v).toNat).drop q), (q : Int) + v, 0) by unfold rdTxt; rw [hn]; rw [if_pos rfl, if_neg h1, if_neg h2]; rfl)
       obtain ⟨i0, hi, hz0, hz1, hz2⟩ := info_parts info5
       obtain ⟨A', hrun, hrd, hle⟩ := print_mid_of (P := Tryz.prog) (Value.int .u8) (0 : Int) 41 5 .i64 .i64 Tryz.underlying41 hi hz1 A c xs (q : Int) ((q : Int) + v) (by omega) (by omega) (by omega) hc
       simp only [Int.toNat_natCast] at hrun hrd hle
       have hcv := string_of_reads (P := Tryz.prog) (src := 41) (dst := 9) (c := c - q) Tryz.underlying41 Tryz.underlying5 Tryz.underlying9 (hrd w (Kd.reads_of_C hr))
       obtain ⟨L, hL⟩ : ∃ L, L = ((xs.take ((q : Int) + v).toNat).drop q).length := ⟨_, rfl⟩
       rw [← hL] at hrun hcv
       clear hL
       have HQ : (q : Int) + v ≤ 4611686018427387904 := by omega
       clear hle
       clear h0 hr hB hn hi hz0 hz1 hz2 hrd h1 h2
       go_enter Tryz.func162, Tryz.ntmps162
       go_wp2_with (go_at_call 111; (with_reducible refine HN.out.mono ?_); rintro e w1 ⟨rfl, rfl⟩)
       go_ret3
       exact ⟨rett HE.out rfl rfl rfl, rfl⟩
 · have hd0 : ((rdNum xs a).2.2 != 0) = true := by simp [h0]
   have HE := Aside0.mk (show rdTxt xs a = (⟨#[]⟩, 0, (rdNum xs a).2.2) by unfold rdTxt; rw [if_neg h0])
   clear h0 hr hB
   go_enter Tryz.func162, Tryz.ntmps162
   go_wp2_with (go_at_call 111; (with_reducible refine HN.out.mono ?_); rintro e w1 ⟨rfl, rfl⟩)
   go_ret3
   exact ⟨rett HE.out rfl rfl rfl, rfl⟩
end Go.Proofs.YtmneemhplffemaaGreatDoorRR.Wire
namespace Go.Proofs.YtmneemhplffemaaGreatDoorRR.Mem
open Go.RowKit Go.Proofs.YtmneemhplffemaaGreatDoorRR.Ext Go.Proofs.YtmneemhplffemaaGreatDoorRR.Wire Go.Proofs.YtmneemhplffemaaGreatDoorRRW.PrintWords
structure Moved (w W : World) (S : Nat → Prop) : Prop where mk ::
 os : W.os = w.os
 tape : W.tape = w.tape
 output : W.output = w.output
 size : w.heap.size ≤ W.heap.size
 block : ∀ k, k < w.heap.size → ¬ S k → W.heap[k]? = w.heap[k]?
theorem Moved.refl (w : World) (S : Nat → Prop) : Moved w w S := ⟨rfl, rfl, rfl, Nat.le_refl _, fun _ _ _ => rfl⟩
theorem Moved.of_below {w W : World} (h : Below w.heap.size w W) (S : Nat → Prop) : Moved w W S := ⟨h.os, h.tape, h.output, h.size, fun k hk _ => h.block k hk⟩
theorem Moved.of_grown {w W : World} {row : Option Nat} (h : w.grownBy W row) : Moved w W (fun k => row = some k) := ⟨h.os, h.tape, h.output, h.size, fun k hk hn => h.block k hk (fun he => hn he.symm)⟩
theorem Moved.mono {w W : World} {S S' : Nat → Prop} (h : Moved w W S) (hs : ∀ k, k < w.heap.size → S k → S' k) : Moved w W S' := ⟨h.os, h.tape, h.output, h.size, fun k hk hn => h.block k hk (fun he => hn (hs k hk he))⟩
theorem Moved.trans {w W W2 : World} {S S2 : Nat → Prop} (h : Moved w W S) (k : Moved W W2 S2) (hs : ∀ k, k < w.heap.size → S2 k → S k) : Moved w W2 S :=
 ⟨k.os.trans h.os, k.tape.trans h.tape, k.output.trans h.output, Nat.le_trans h.size k.size, fun i hi hn => (k.block i (Nat.lt_of_lt_of_le hi h.size) (fun he => hn (hs i hi he))).trans (h.block i hi hn)⟩
theorem Moved.below {w W : World} {S : Nat → Prop} (h : Moved w W S) (hs : ∀ k, k < w.heap.size → ¬ S k) : Below w.heap.size w W := ⟨h.os, h.tape, h.output, h.size, fun k hk => h.block k hk (hs k hk)⟩
theorem Moved.above {w0 w W : World} {S : Nat → Prop} (h : Moved w W S) (hb : Below w0.heap.size w0 w) (hs : ∀ k, S k → w0.heap.size ≤ k) : Below w0.heap.size w0 W :=
 ⟨h.os.trans hb.os, h.tape.trans hb.tape, h.output.trans hb.output, Nat.le_trans hb.size h.size, fun k hk => (h.block k (Nat.lt_of_lt_of_le hk hb.size) (fun he => by have := hs k he; omega)).trans (hb.block k hk)⟩
theorem Moved.set_ {w W : World} {S : Nat → Prop} (h : Moved w W S) {p : Addr} (hp : S p.block ∨ w.heap.size ≤ p.block) (u : Value) : Moved w (W.setCell p u) S := by
 refine ⟨?_, ?_, ?_, ?_, fun k hk hn => ?_⟩
 · exact (Below.setCell (B := 0) (Below.refl 0 W) (Nat.zero_le _) u).os.trans h.os
 · exact (Below.setCell (B := 0) (Below.refl 0 W) (Nat.zero_le _) u).tape.trans h.tape
 · exact (Below.setCell (B := 0) (Below.refl 0 W) (Nat.zero_le _) u).output.trans h.output
 · exact Nat.le_trans h.size (Below.setCell (B := 0) (Below.refl 0 W) (Nat.zero_le _) u).size
 · refine (Below.heap_setCell W p u k ?_).trans (h.block k hk hn)
   rintro rfl
   rcases hp with hp | hp
   · exact hn hp
   · omega
theorem Moved.step {w W W2 : World} {S : Nat → Prop} (h : Moved w W S) (hb : Below W.heap.size W W2) : Moved w W2 S := h.trans (Moved.of_below hb (fun _ => False)) (fun _ _ hk => hk.elim)
theorem Moved.alloc {w W : World} {S : Nat → Prop} (h : Moved w W S) (o : Obj) : Moved w (W.alloc o) S := h.step (below_alloc (Below.refl _ _) o)
theorem Moved.blk {w W : World} {S : Nat → Prop} (h : Moved w W S) {k : Nat} {o : Obj} (hk : w.heap[k]? = some o) (hn : ¬ S k) : W.heap[k]? = some o := (h.block k (blk_lt hk) hn).trans hk
theorem blk_alloc {W : World} (o : Obj) : (W.alloc o).heap[W.heap.size]? = some o := heap_alloc_new W o
theorem blk_below {w W : World} {k : Nat} {o : Obj} (h : Below w.heap.size w W) (hk : w.heap[k]? = some o) : W.heap[k]? = some o := (h.block k (blk_lt hk)).trans hk
structure Pen (T : Nat) (W : World) (base g : Nat) (v : Value) (bs : List Int) : Prop where mk ::
 blk : W.heap[g]? = some (.cells #[v] T (0, 0))
 own : W.ownsRow base 5 1 v bs.length (nums .u8 bs)
 hg : base ≤ g
 ht : T ≠ 5
def pens (g : Nat) (v : Value) (k : Nat) : Prop := k = g ∨ v.ownBlock = some k
def Wrote (T : Nat) (W W' : World) (base g : Nat) (v : Value) (bs : List Int) : Prop :=
 ∃ v', Pen T W' base g v' bs ∧ Moved W W' (pens g v) ∧ ∀ k, pens g v' k → pens g v k ∨ W.heap.size ≤ k
theorem Pen.below {T : Nat} {W W' : World} {base g : Nat} {v : Value} {bs : List Int} (h : Pen T W base g v bs) (hb : Below W.heap.size W W') : Pen T W' base g v bs :=
 ⟨blk_below hb h.blk, pw_own_below h.own hb, h.hg, h.ht⟩
theorem Pen.alloc {T : Nat} {W : World} {base g : Nat} {v : Value} {bs : List Int} (h : Pen T W base g v bs) (o : Obj) : Pen T (W.alloc o) base g v bs := h.below (below_alloc (Below.refl _ _) o)
theorem Pen.lt {T : Nat} {W : World} {base g : Nat} {v : Value} {bs : List Int} (h : Pen T W base g v bs) (k : Nat) (hk : pens g v k) : k < W.heap.size := by
 rcases hk with rfl | hk
 · exact blk_lt h.blk
 · exact own_lt h.own k hk
theorem Pen.base_le {T : Nat} {W : World} {base g : Nat} {v : Value} {bs : List Int} (h : Pen T W base g v bs) (k : Nat) (hk : pens g v k) : base ≤ k := by
 rcases hk with rfl | hk
 · exact h.hg
 · exact own_base h.own k hk
theorem Pen.size {T : Nat} {W : World} {base g : Nat} {v : Value} {bs : List Int} (h : Pen T W base g v bs) : base ≤ W.heap.size := Nat.le_of_lt (Nat.lt_of_le_of_lt h.hg (blk_lt h.blk))
theorem Pen.ne {T : Nat} {W : World} {base g : Nat} {v : Value} {bs : List Int} (h : Pen T W base g v bs) : some g ≠ v.ownBlock := own_ne h.own h.blk (Ne.symm h.ht)
theorem Pen.cell {T : Nat} {W : World} {base g : Nat} {v : Value} {bs : List Int} (h : Pen T W base g v bs) : W.cell? ⟨g, 0, none⟩ = some v := blk_cell h.blk 0
theorem Pen.free {T : Nat} {W : World} {base g : Nat} {v : Value} {bs : List Int} (h : Pen T W base g v bs) : W.frozen? ⟨g, 0, none⟩ = false := blk_frozen h.blk 0
theorem Wrote.trans {T : Nat} {W W1 W2 : World} {base g : Nat} {v v1 : Value} {bs : List Int} (hm : Moved W W1 (pens g v)) (hk : ∀ k, pens g v1 k → pens g v k ∨ W.heap.size ≤ k) (h : Wrote T W1 W2 base g v1 bs) : Wrote T W W2 base g v bs := by
 obtain ⟨v2, hp, hm2, hk2⟩ := h
 refine ⟨v2, hp, hm.trans hm2 (fun k hl hs => (hk k hs).resolve_right (by omega)), fun k hs => ?_⟩
 rcases hk2 k hs with h1 | h1
 · exact hk k h1
 · exact .inr (Nat.le_trans hm.size h1)
theorem Wrote.of {T : Nat} {W W1 : World} {base g : Nat} {v v1 : Value} {bs : List Int} (hp : Pen T W1 base g v1 bs) (hm : Moved W W1 (pens g v)) (hk : ∀ k, pens g v1 k → pens g v k ∨ W.heap.size ≤ k) : Wrote T W W1 base g v bs := ⟨v1, hp, hm, hk⟩
theorem Wrote.put {T : Nat} {W w1 w2 : World} {base g : Nat} {v v2 : Value} {bs cs : List Int} (h : Pen T W base g v bs) (hb : Below W.heap.size W w1) (ho : w2.ownsRow base 5 1 v2 (bs ++ cs).length (nums .u8 (bs ++ cs))) (hg : w1.grownBy w2 v.ownBlock) (hat : v2.ownBlock = v.ownBlock ∨ ∃ b, v2.ownBlock = some b ∧ w1.heap.size ≤ b) :
   Wrote T W (w2.setCell ⟨g, 0, none⟩ v2) base g v (bs ++ cs) := by
 have hp := h.below hb
 have hb2 : w2.heap[g]? = some (.cells #[v] T (0, 0)) := blk_grown hp.blk hg h.ne
 have hm : Moved W w2 (pens g v) := (Moved.of_below hb (pens g v)).trans (Moved.of_grown hg) (fun k _ hk => .inr hk)
 refine ⟨v2, ⟨by have := blk_set hb2 0 v2; simpa using this, own_setCell ho (own_ne ho hb2 (Ne.symm h.ht)) _, h.hg, h.ht⟩, hm.set_ (.inl (.inl rfl)) _, fun k hk => ?_⟩
 rcases hk with rfl | hk
 · exact .inl (.inl rfl)
 · rcases hat with hat | ⟨b, hat, hle⟩
   · exact .inl (.inr (hat ▸ hk))
   · rw [hat] at hk
     obtain rfl := Option.some.inj hk
     exact .inr (Nat.le_trans hb.size hle)
end Go.Proofs.YtmneemhplffemaaGreatDoorRR.Mem
namespace Go.Proofs.YtmneemhplffemaaGreatDoorRR.Get
open Go.RowKit Go.Proofs.YtmneemhplffemaaGreatDoorRR.Ext Go.Proofs.YtmneemhplffemaaGreatDoorRR.Wire Go.Proofs.YtmneemhplffemaaGreatDoorRR.Mem Go.Proofs.YtmneemhplffemaaGreatDoorRRW.PrintWords

def dNum (xs : List Int) (a : Nat) : Option (Int × Nat) := if (rdNum xs a).2.2 = 0 then some ((rdNum xs a).1, (rdNum xs a).2.1.toNat) else none
def dTxt (xs : List Int) (a : Nat) : Option (ByteArray × Nat) := if (rdTxt xs a).2.2 = 0 then some ((rdTxt xs a).1, (rdTxt xs a).2.1.toNat) else none
theorem dNum_some {xs : List Int} {a a' : Nat} {v : Int} (hB : Bytes xs) (h : dNum xs a = some (v, a')) : rdNum xs a = (v, (a' : Int), 0) ∧ 0 ≤ v ∧ v ≤ 2147483647 ∧ a < a' ∧ a' ≤ xs.length ∧ (xs.take a').drop a = encNum v := by
 unfold dNum at h
 split at h
 · rename_i h0
   obtain ⟨v', q, h1, h2⟩ := rdNum_says hB h0
   rw [h1] at h ⊢
   simp only [Int.toNat_natCast, Option.some.injEq, Prod.mk.injEq] at h
   obtain ⟨rfl, rfl⟩ := h
   exact ⟨rfl, h2⟩
 · simp at h
theorem dNum_none {xs : List Int} {a : Nat} (h : dNum xs a = none) : ((rdNum xs a).2.2 != 0) = true := by
 unfold dNum at h
 split at h
 · simp at h
 · rename_i h0
   simp [h0]
theorem dTxt_none {xs : List Int} {a : Nat} (h : dTxt xs a = none) : ((rdTxt xs a).2.2 != 0) = true := by
 unfold dTxt at h
 split at h
 · simp at h
 · rename_i h0
   simp [h0]
theorem bytes_str {xs : List Int} (h : Bytes xs) : bytesOf (strOfNums xs) = xs := by
 unfold bytesOf strOfNums
 simp only [List.map_map]
 conv => rhs; rw [← List.map_id xs]
 refine List.map_congr_left (fun b hb => ?_)
 obtain ⟨h0, h1⟩ := h b hb
 simp only [Function.comp, UInt8.toNat_ofNat', id]
 omega
theorem cut_two {xs : List Int} {a q r : Nat} (h1 : a ≤ q) (h2 : q ≤ r) (_h3 : r ≤ xs.length) : (xs.take r).drop a = (xs.take q).drop a ++ (xs.take r).drop q := by
 have e : xs.take q = (xs.take r).take q := by rw [List.take_take]; congr 1; omega
 rw [e]
 generalize xs.take r = l
 have h := List.take_append_drop q l
 conv => lhs; rw [← h]
 rw [List.drop_append]
 rcases Nat.lt_or_ge q l.length with hq | hq
 · rw [show a - (l.take q).length = 0 by rw [List.length_take]; omega, List.drop_zero]
 · rw [List.drop_eq_nil_of_le hq]; simp
theorem dTxt_some {xs : List Int} {a a' : Nat} {s : ByteArray} (hB : Bytes xs) (h : dTxt xs a = some (s, a')) : rdTxt xs a = (s, (a' : Int), 0) ∧ s.size ≤ 262144 ∧ a < a' ∧ a' ≤ xs.length ∧ (xs.take a').drop a = encTxt s := by
 unfold dTxt at h
 split at h
 · rename_i h0
   have hn : (rdNum xs a).2.2 = 0 := by
     unfold rdTxt at h0
     by_cases h1 : (rdNum xs a).2.2 = 0
     · exact h1
     · rw [if_neg h1] at h0
       exact h0
   obtain ⟨v, q, h1, h2, h3, h4, h5, h6⟩ := rdNum_says hB hn
   unfold rdTxt at h0 h ⊢
   rw [h1] at h0 h ⊢
   simp only [if_true] at h0 h ⊢
   by_cases c1 : 262144 < v
   · rw [if_pos c1] at h0
     simp at h0
   · by_cases c2 : (xs.length : Int) - q < v
     · rw [if_neg c1, if_pos c2] at h0
       simp at h0
     · rw [if_neg c1, if_neg c2] at h ⊢
       simp only [Option.some.injEq, Prod.mk.injEq] at h
       obtain ⟨rfl, rfl⟩ := h
       obtain ⟨n, rfl⟩ := Int.eq_ofNat_of_zero_le h2
       have e : ((q : Int) + n).toNat = q + n := by omega
       rw [e, Int.toNat_natCast]
       have hl : ((xs.take (q + n)).drop q).length = n := by rw [List.length_drop, List.length_take]; omega
       have hs : (strOfNums ((xs.take (q + n)).drop q)).size = n := by
        show (((xs.take (q + n)).drop q).map _).toArray.size = n
        rw [List.size_toArray, List.length_map, hl]
       refine ⟨by simp, by rw [hs]; omega, by omega, by omega, ?_⟩
       unfold encTxt
       rw [hs, ← h6, bytes_str (fun b hb => hB b (List.mem_of_mem_take (List.mem_of_mem_drop hb)))]
       exact cut_two (by omega) (by omega) (by omega)
 · simp at h
def flaw : List PanicEntry := [{ v := .iface 139 (.agg #[]), recovered := false }]
structure Data (w0 : World) (A : Option Addr) (c : Nat) (xs : List Int) : Prop where mk ::
 reads : (Kd.int .u8).C w0 A xs.length xs
 bytes : Bytes xs
 cap : xs.length ≤ c
 len : xs.length ≤ 1000000000
def Eye (W : World) (g : Nat) (A : Option Addr) (n c a : Nat) : Prop := W.heap[g]? = some (.cells #[.slice A n c, .int .i64 (a : Int)] 136 (0, 0))
structure Got {β : Type} (W W' : World) (g : Nat) (A : Option Addr) (n c : Nat) (r : Option (β × Nat)) (rep : Value → β → Prop) (e : Ending) : Prop where mk ::
 mov : Moved W W' (fun k => k = g)
 bad : r = none → e = .panicked flaw
 good : ∀ x a', r = some (x, a') → ∃ v, e = .returned v ∧ rep v x ∧ Eye W' g A n c a'
theorem moved_drewN (w : World) (n : Nat) (S : Nat → Prop) : Moved w (w.drewN n) S := Moved.of_below (pw_below_drewN (Below.refl _ _) n) S
set_option maxRecDepth 100000 in
theorem rnum (w0 W : World) (g : Nat) (A : Option Addr) (c a : Nat) (xs : List Int) (hD : Data w0 A c xs) (ha : a ≤ xs.length) (hb : Below w0.heap.size w0 W) (hg : w0.heap.size ≤ g) (hE : Eye W g A xs.length c a) :
   Calls Tryz.prog 67 #[.pointer (some ⟨g, 0, none⟩)] W fun e W' => Got W W' g A xs.length c (dNum xs a) (fun v x => v = .int .i64 x) e := by
 have hc0 : W.cell? ⟨g, 0, none⟩ = some (.slice A xs.length c) := blk_cell hE 0
 have hc1 : W.cell? ⟨g, 1, none⟩ = some (.int .i64 (a : Int)) := blk_cell hE 1
 have hf : W.frozen? ⟨g, 1, none⟩ = false := blk_frozen hE 1
 have HN := Aside0.mk (fun n => (readNumber_any A c xs a hD.bytes ha (W.drewN n) (Kd.C_below hD.reads (pw_below_drewN hb n)) hD.cap).mono (fun _ _ h => And.intro h.1 h.2.symm))
 have HE := Aside0.mk hE
 have HBY := Aside0.mk hD.bytes
 cases hr : dNum xs a with
 | none =>
   have hd := dNum_none hr
   clear hb hE hD hr
   go_enter Tryz.func67, Tryz.ntmps67
   go_wp2_with fail
   go_quiet ((go_at_call 110; exact Calls.quiet_of_same (HN.out _)))
   go_wp2_with fail
   exact ⟨rfl, moved_drewN _ _ _, fun _ => rfl, fun x a' h => by cases h⟩
 | some p =>
   obtain ⟨v, a'⟩ := p
   obtain ⟨hn, hv0, hv1, ha0, ha1, _⟩ := dNum_some hD.bytes hr
   rw [hn] at HN
   clear hb hE hD hr hn
   go_enter Tryz.func67, Tryz.ntmps67
   go_wp2_with fail
   go_quiet ((go_at_call 110; exact Calls.quiet_of_same (HN.out _)))
   go_wp2_with fail
   go_ret
   refine ⟨(moved_drewN _ _ (fun k => k = g)).set_ (.inl rfl) _, (fun h => by cases h), fun x b h => ?_⟩
   simp only [Option.some.injEq, Prod.mk.injEq] at h
   obtain ⟨rfl, rfl⟩ := h
   exact ⟨_, rfl, rfl, by have h := blk_set HE.out 1 (.int .i64 (a' : Int)); simp at h; exact h⟩
set_option maxRecDepth 100000 in
theorem rtxt (w0 W : World) (g : Nat) (A : Option Addr) (c a : Nat) (xs : List Int) (hD : Data w0 A c xs) (ha : a ≤ xs.length) (hb : Below w0.heap.size w0 W) (hg : w0.heap.size ≤ g) (hE : Eye W g A xs.length c a) :
   Calls Tryz.prog 166 #[.pointer (some ⟨g, 0, none⟩)] W fun e W' => Got W W' g A xs.length c (dTxt xs a) (fun v x => v = .string x) e := by
 have hc0 : W.cell? ⟨g, 0, none⟩ = some (.slice A xs.length c) := blk_cell hE 0
 have hc1 : W.cell? ⟨g, 1, none⟩ = some (.int .i64 (a : Int)) := blk_cell hE 1
 have hf : W.frozen? ⟨g, 1, none⟩ = false := blk_frozen hE 1
 have hl := hD.len
 have HN := Aside0.mk (fun n => (readText_any A c xs a hD.bytes ha (by omega) (W.drewN n) (Kd.C_below hD.reads (pw_below_drewN hb n)) hD.cap).mono (fun _ _ h => And.intro h.1 h.2.symm))
 have HE := Aside0.mk hE
 cases hr : dTxt xs a with
 | none =>
   have hd := dTxt_none hr
   clear hb hE hD hr
   go_enter Tryz.func166, Tryz.ntmps166
   go_wp2_with fail
   go_quiet ((go_at_call 227; exact Calls.quiet_of_same (HN.out _)))
   go_wp2_with fail
   exact ⟨rfl, moved_drewN _ _ _, fun _ => rfl, fun x a' h => by cases h⟩
 | some p =>
   obtain ⟨v, a'⟩ := p
   obtain ⟨hn, hv0, ha0, ha1, _⟩ := dTxt_some hD.bytes hr
   rw [hn] at HN
   clear hb hE hD hr hn
   go_enter Tryz.func166, Tryz.ntmps166
   go_wp2_with fail
   go_quiet ((go_at_call 227; exact Calls.quiet_of_same (HN.out _)))
   go_wp2_with fail
   go_ret
   refine ⟨(moved_drewN _ _ (fun k => k = g)).set_ (.inl rfl) _, (fun h => by cases h), fun x b h => ?_⟩
   simp only [Option.some.injEq, Prod.mk.injEq] at h
   obtain ⟨rfl, rfl⟩ := h
   exact ⟨_, rfl, rfl, by have h := blk_set HE.out 1 (.int .i64 (a' : Int)); simp at h; exact h⟩
def dTru (xs : List Int) (a : Nat) : Option (Bool × Nat) :=
 match dNum xs a with
 | none => none
 | some (v, b) => if 1 < v then none else some (v == 1, b)
set_option maxRecDepth 100000 in
theorem rtru (w0 W : World) (g : Nat) (A : Option Addr) (c a : Nat) (xs : List Int) (hD : Data w0 A c xs) (ha : a ≤ xs.length) (hb : Below w0.heap.size w0 W) (hg : w0.heap.size ≤ g) (hE : Eye W g A xs.length c a) :
   Calls Tryz.prog 167 #[.pointer (some ⟨g, 0, none⟩)] W fun e W' => Got W W' g A xs.length c (dTru xs a) (fun v x => v = .bool x) e := by
 have HN := Aside0.mk (rnum w0 W g A c a xs hD ha hb hg hE)
 cases hr : dNum xs a with
 | none =>
   have HR := Aside0.mk (show dTru xs a = none by unfold dTru; rw [hr])
   rw [hr] at HN
   clear hb hE hD hr
   go_enter Tryz.func167, Tryz.ntmps167
   go_wp2_with fail
   refine HN.out.mono ?_
   rintro e w1 ⟨hm, h1, _⟩
   obtain rfl := h1 rfl
   exact ⟨rfl, hm, (fun _ => rfl), fun x a' h => by rw [HR.out] at h; cases h⟩
 | some p =>
   obtain ⟨v, a'⟩ := p
   rw [hr] at HN
   by_cases hv : 1 < v
   · have hvd : decide (1 < v) = true := by simp [hv]
     have HR := Aside0.mk (show dTru xs a = none by unfold dTru; rw [hr]; exact if_pos hv)
     clear hb hE hD hr hv
     go_enter Tryz.func167, Tryz.ntmps167
     go_wp2_with fail
     refine HN.out.mono ?_
     rintro e w1 ⟨hm, _, h2⟩
     obtain ⟨v1, rfl, rfl, hE1⟩ := h2 _ _ rfl
     have HM := Aside0.mk hm
     clear hm h2 hE1
     go_wp2_with fail
     exact ⟨rfl, HM.out, (fun _ => rfl), fun x a' h => by rw [HR.out] at h; cases h⟩
   · have hvd : decide (1 < v) = false := by simp; omega
     have HR := Aside0.mk (show dTru xs a = some (v == 1, a') by unfold dTru; rw [hr]; exact if_neg hv)
     clear hb hE hD hr hv
     go_enter Tryz.func167, Tryz.ntmps167
     go_wp2_with fail
     refine HN.out.mono ?_
     rintro e w1 ⟨hm, _, h2⟩
     obtain ⟨v1, rfl, rfl, hE1⟩ := h2 _ _ rfl
     have HM := Aside0.mk hm
     have HE1 := Aside0.mk hE1
     clear hm h2 hE1
     go_wp2_with fail
     go_ret
     refine ⟨HM.out, (fun h => by rw [HR.out] at h; cases h), fun x b h => ?_⟩
     rw [HR.out] at h
     simp only [Option.some.injEq, Prod.mk.injEq] at h
     obtain ⟨rfl, rfl⟩ := h
     exact ⟨_, rfl, rfl, HE1.out⟩
set_option maxRecDepth 100000 in
theorem rend (W : World) (g : Nat) (A : Option Addr) (n c a : Nat) (hE : Eye W g A n c a) :
   Calls Tryz.prog 69 #[.pointer (some ⟨g, 0, none⟩)] W fun e W' => Moved W W' (fun k => k = g) ∧ e = if a = n then .returned (.tuple #[]) else .panicked flaw := by
 have hc0 : W.cell? ⟨g, 0, none⟩ = some (.slice A n c) := blk_cell hE 0
 have hc1 : W.cell? ⟨g, 1, none⟩ = some (.int .i64 (a : Int)) := blk_cell hE 1
 clear hE
 by_cases h : a = n
 · have hd : ((a : Int) != n) = false := by simp [h]
   rw [if_pos h]
   clear h
   go_enter Tryz.func69, Tryz.ntmps69
   go_wp2_with fail
   go_quiet (fail)
   go_wp2_with fail
   go_end0
   exact ⟨moved_drewN _ _ _, rfl⟩
 · have hd : ((a : Int) != n) = true := by simp; omega
   rw [if_neg h]
   clear h
   go_enter Tryz.func69, Tryz.ntmps69
   go_wp2_with fail
   go_quiet (fail)
   go_wp2_with fail
   exact ⟨rfl, moved_drewN _ _ _, rfl⟩
end Go.Proofs.YtmneemhplffemaaGreatDoorRR.Get
namespace Go.Proofs.YtmneemhplffemaaGreatDoorRR.Ki
open Go.RowKit Go.Proofs.YtmneemhplffemaaGreatDoorRRW.PrintWords


structure S78 where
 f0 : Int
 f1 : ByteArray
 f2 : ByteArray
 f3 : Int
 f4 : Int
def z78 : S78 := ⟨(0 : Int), (⟨#[]⟩ : ByteArray), (⟨#[]⟩ : ByteArray), (0 : Int), (0 : Int)⟩
def k78 : Kd S78 := Kd.iso (Kd.pair (Kd.int .i64) (Kd.pair Kd.string (Kd.pair Kd.string (Kd.pair (Kd.int .i64) (Kd.int .i64))))) (fun x : S78 => (x.f0, x.f1, x.f2, x.f3, x.f4))
theorem k78_open {w : World} {x : S78} {cs : List Value} (h : k78.K w x cs) : cs = [.int .i64 x.f0, .string x.f1, .string x.f2, .int .i64 x.f3, .int .i64 x.f4] := by
 obtain ⟨_, _, rfl, rfl, ⟨_, _, rfl, rfl, ⟨_, _, rfl, rfl, ⟨_, _, rfl, rfl, rfl⟩⟩⟩⟩ := h
 exact rfl
theorem k78_openM {w : World} {base : Nat} {ok : Nat → Prop} {x : S78} {cs : List Value} (h : k78.M w base ok x cs) : cs = [.int .i64 x.f0, .string x.f1, .string x.f2, .int .i64 x.f3, .int .i64 x.f4] := by
 obtain ⟨_, _, rfl, rfl, ⟨_, _, rfl, rfl, ⟨_, _, rfl, rfl, ⟨_, _, rfl, rfl, rfl⟩⟩⟩⟩ := h
 exact rfl
theorem k78_mk (w : World) (x : S78)  : k78.K w x [.int .i64 x.f0, .string x.f1, .string x.f2, .int .i64 x.f3, .int .i64 x.f4] := ⟨[.int .i64 x.f0], [.string x.f1, .string x.f2, .int .i64 x.f3, .int .i64 x.f4], rfl, rfl, ⟨[.string x.f1], [.string x.f2, .int .i64 x.f3, .int .i64 x.f4], rfl, rfl, ⟨[.string x.f2], [.int .i64 x.f3, .int .i64 x.f4], rfl, rfl, ⟨[.int .i64 x.f3], [.int .i64 x.f4], rfl, rfl, rfl⟩⟩⟩⟩
theorem k78_mkM (w : World) (base : Nat) (ok : Nat → Prop) (x : S78)  : k78.M w base ok x [.int .i64 x.f0, .string x.f1, .string x.f2, .int .i64 x.f3, .int .i64 x.f4] := ⟨[.int .i64 x.f0], [.string x.f1, .string x.f2, .int .i64 x.f3, .int .i64 x.f4], rfl, rfl, ⟨[.string x.f1], [.string x.f2, .int .i64 x.f3, .int .i64 x.f4], rfl, rfl, ⟨[.string x.f2], [.int .i64 x.f3, .int .i64 x.f4], rfl, rfl, ⟨[.int .i64 x.f3], [.int .i64 x.f4], rfl, rfl, rfl⟩⟩⟩⟩
def rd_T78 (xs : List S78) (i : Int) : S78 := xs.getD i.toNat z78
theorem at_T78 {w : World} {A : Option Addr} {n : Nat} {xs : List S78} (h : Kd.C k78 w A n xs) (i : Int) (h0 : 0 ≤ i) (h1 : i < n) : ∃ ad , A = some ad ∧ w.cell? (ad.add (i.toNat * 5)) = some (.int .i64 (rd_T78 xs i).f0) ∧ w.cell? ⟨(ad.add (i.toNat * 5)).block, (ad.add (i.toNat * 5)).off + 1, none⟩ = some (.string (rd_T78 xs i).f1) ∧ w.cell? ⟨(ad.add (i.toNat * 5)).block, (ad.add (i.toNat * 5)).off + 2, none⟩ = some (.string (rd_T78 xs i).f2) ∧ w.cell? ⟨(ad.add (i.toNat * 5)).block, (ad.add (i.toNat * 5)).off + 3, none⟩ = some (.int .i64 (rd_T78 xs i).f3) ∧ w.cell? ⟨(ad.add (i.toNat * 5)).block, (ad.add (i.toNat * 5)).off + 4, none⟩ = some (.int .i64 (rd_T78 xs i).f4) := by
 obtain ⟨ad, c, e, _, hK, hc0⟩ := Kd.C_get h z78 i h0 h1
 have hc : ∀ j u, c[j]? = some u → w.cell? (ad.add (i.toNat * 5 + j)) = some u := hc0
 obtain rfl := k78_open hK
 exact ⟨ad, e, hc 0 _ rfl, by rw [← add_field _ _ 1 (by omega)]; exact hc 1 _ rfl, by rw [← add_field _ _ 2 (by omega)]; exact hc 2 _ rfl, by rw [← add_field _ _ 3 (by omega)]; exact hc 3 _ rfl, by rw [← add_field _ _ 4 (by omega)]; exact hc 4 _ rfl⟩
structure S55 where
 f0 : Int
 f1 : Int
 f2 : Int
 f3 : Int
 f4 : Int
 f5 : (List S78)
def z55 : S55 := ⟨(0 : Int), (0 : Int), (0 : Int), (0 : Int), (0 : Int), ([] : List S78)⟩
def k55 : Kd S55 := Kd.iso (Kd.pair (Kd.int .i64) (Kd.pair (Kd.int .i64) (Kd.pair (Kd.int .i64) (Kd.pair (Kd.int .i64) (Kd.pair (Kd.int .i64) (Kd.slice 78 k78)))))) (fun x : S55 => (x.f0, x.f1, x.f2, x.f3, x.f4, x.f5))
theorem k55_open {w : World} {x : S55} {cs : List Value} (h : k55.K w x cs) : ∃ A5 c5, cs = [.int .i64 x.f0, .int .i64 x.f1, .int .i64 x.f2, .int .i64 x.f3, .int .i64 x.f4, .slice A5 x.f5.length c5] ∧ x.f5.length ≤ c5 ∧ k78.C w A5 x.f5.length x.f5 := by
 obtain ⟨_, _, rfl, rfl, ⟨_, _, rfl, rfl, ⟨_, _, rfl, rfl, ⟨_, _, rfl, rfl, ⟨_, _, rfl, rfl, ⟨A5, c5, rfl, l5, g5⟩⟩⟩⟩⟩⟩ := h
 exact ⟨A5, c5, rfl, l5, g5⟩
theorem k55_openM {w : World} {base : Nat} {ok : Nat → Prop} {x : S55} {cs : List Value} (h : k55.M w base ok x cs) : ∃ v5, cs = [.int .i64 x.f0, .int .i64 x.f1, .int .i64 x.f2, .int .i64 x.f3, .int .i64 x.f4, v5] ∧ k78.R 78 w base ok v5 x.f5 := by
 obtain ⟨_, _, rfl, rfl, ⟨_, _, rfl, rfl, ⟨_, _, rfl, rfl, ⟨_, _, rfl, rfl, ⟨_, _, rfl, rfl, ⟨v5, rfl, g5⟩⟩⟩⟩⟩⟩ := h
 exact ⟨v5, rfl, g5⟩
theorem k55_mk (w : World) (x : S55) {A5 : Option Addr} {c5 : Nat} (l5 : x.f5.length ≤ c5) (g5 : k78.C w A5 x.f5.length x.f5) : k55.K w x [.int .i64 x.f0, .int .i64 x.f1, .int .i64 x.f2, .int .i64 x.f3, .int .i64 x.f4, .slice A5 x.f5.length c5] := ⟨[.int .i64 x.f0], [.int .i64 x.f1, .int .i64 x.f2, .int .i64 x.f3, .int .i64 x.f4, .slice A5 x.f5.length c5], rfl, rfl, ⟨[.int .i64 x.f1], [.int .i64 x.f2, .int .i64 x.f3, .int .i64 x.f4, .slice A5 x.f5.length c5], rfl, rfl, ⟨[.int .i64 x.f2], [.int .i64 x.f3, .int .i64 x.f4, .slice A5 x.f5.length c5], rfl, rfl, ⟨[.int .i64 x.f3], [.int .i64 x.f4, .slice A5 x.f5.length c5], rfl, rfl, ⟨[.int .i64 x.f4], [.slice A5 x.f5.length c5], rfl, rfl, ⟨A5, c5, rfl, l5, g5⟩⟩⟩⟩⟩⟩
theorem k55_mkM (w : World) (base : Nat) (ok : Nat → Prop) (x : S55) {v5 : Value} (g5 : k78.R 78 w base ok v5 x.f5) : k55.M w base ok x [.int .i64 x.f0, .int .i64 x.f1, .int .i64 x.f2, .int .i64 x.f3, .int .i64 x.f4, v5] := ⟨[.int .i64 x.f0], [.int .i64 x.f1, .int .i64 x.f2, .int .i64 x.f3, .int .i64 x.f4, v5], rfl, rfl, ⟨[.int .i64 x.f1], [.int .i64 x.f2, .int .i64 x.f3, .int .i64 x.f4, v5], rfl, rfl, ⟨[.int .i64 x.f2], [.int .i64 x.f3, .int .i64 x.f4, v5], rfl, rfl, ⟨[.int .i64 x.f3], [.int .i64 x.f4, v5], rfl, rfl, ⟨[.int .i64 x.f4], [v5], rfl, rfl, ⟨v5, rfl, g5⟩⟩⟩⟩⟩⟩
def rd_T55 (xs : List S55) (i : Int) : S55 := xs.getD i.toNat z55
theorem at_T55 {w : World} {A : Option Addr} {n : Nat} {xs : List S55} (h : Kd.C k55 w A n xs) (i : Int) (h0 : 0 ≤ i) (h1 : i < n) : ∃ ad A5 c5, A = some ad ∧ w.cell? (ad.add (i.toNat * 6)) = some (.int .i64 (rd_T55 xs i).f0) ∧ w.cell? ⟨(ad.add (i.toNat * 6)).block, (ad.add (i.toNat * 6)).off + 1, none⟩ = some (.int .i64 (rd_T55 xs i).f1) ∧ w.cell? ⟨(ad.add (i.toNat * 6)).block, (ad.add (i.toNat * 6)).off + 2, none⟩ = some (.int .i64 (rd_T55 xs i).f2) ∧ w.cell? ⟨(ad.add (i.toNat * 6)).block, (ad.add (i.toNat * 6)).off + 3, none⟩ = some (.int .i64 (rd_T55 xs i).f3) ∧ w.cell? ⟨(ad.add (i.toNat * 6)).block, (ad.add (i.toNat * 6)).off + 4, none⟩ = some (.int .i64 (rd_T55 xs i).f4) ∧ w.cell? ⟨(ad.add (i.toNat * 6)).block, (ad.add (i.toNat * 6)).off + 5, none⟩ = some (.slice A5 (rd_T55 xs i).f5.length c5) ∧ (rd_T55 xs i).f5.length ≤ c5 ∧ k78.C w A5 (rd_T55 xs i).f5.length (rd_T55 xs i).f5 := by
 obtain ⟨ad, c, e, _, hK, hc0⟩ := Kd.C_get h z55 i h0 h1
 have hc : ∀ j u, c[j]? = some u → w.cell? (ad.add (i.toNat * 6 + j)) = some u := hc0
 obtain ⟨A5, c5, rfl, l5, g5⟩ := k55_open hK
 exact ⟨ad, A5, c5, e, hc 0 _ rfl, by rw [← add_field _ _ 1 (by omega)]; exact hc 1 _ rfl, by rw [← add_field _ _ 2 (by omega)]; exact hc 2 _ rfl, by rw [← add_field _ _ 3 (by omega)]; exact hc 3 _ rfl, by rw [← add_field _ _ 4 (by omega)]; exact hc 4 _ rfl, by rw [← add_field _ _ 5 (by omega)]; exact hc 5 _ rfl, l5, g5⟩
structure S81 where
 f0 : ByteArray
 f1 : ByteArray
 f2 : Int
 f3 : Int
 f4 : Int
 f5 : Int
 f6 : (List ByteArray)
def z81 : S81 := ⟨(⟨#[]⟩ : ByteArray), (⟨#[]⟩ : ByteArray), (0 : Int), (0 : Int), (0 : Int), (0 : Int), ([] : List ByteArray)⟩
def k81 : Kd S81 := Kd.iso (Kd.pair Kd.string (Kd.pair Kd.string (Kd.pair (Kd.int .i64) (Kd.pair (Kd.int .i64) (Kd.pair (Kd.int .i64) (Kd.pair (Kd.int .i64) (Kd.slice 9 Kd.string))))))) (fun x : S81 => (x.f0, x.f1, x.f2, x.f3, x.f4, x.f5, x.f6))
theorem k81_open {w : World} {x : S81} {cs : List Value} (h : k81.K w x cs) : ∃ A6 c6, cs = [.string x.f0, .string x.f1, .int .i64 x.f2, .int .i64 x.f3, .int .i64 x.f4, .int .i64 x.f5, .slice A6 x.f6.length c6] ∧ x.f6.length ≤ c6 ∧ Kd.string.C w A6 x.f6.length x.f6 := by
 obtain ⟨_, _, rfl, rfl, ⟨_, _, rfl, rfl, ⟨_, _, rfl, rfl, ⟨_, _, rfl, rfl, ⟨_, _, rfl, rfl, ⟨_, _, rfl, rfl, ⟨A6, c6, rfl, l6, g6⟩⟩⟩⟩⟩⟩⟩ := h
 exact ⟨A6, c6, rfl, l6, g6⟩
theorem k81_openM {w : World} {base : Nat} {ok : Nat → Prop} {x : S81} {cs : List Value} (h : k81.M w base ok x cs) : ∃ v6, cs = [.string x.f0, .string x.f1, .int .i64 x.f2, .int .i64 x.f3, .int .i64 x.f4, .int .i64 x.f5, v6] ∧ Kd.string.R 9 w base ok v6 x.f6 := by
 obtain ⟨_, _, rfl, rfl, ⟨_, _, rfl, rfl, ⟨_, _, rfl, rfl, ⟨_, _, rfl, rfl, ⟨_, _, rfl, rfl, ⟨_, _, rfl, rfl, ⟨v6, rfl, g6⟩⟩⟩⟩⟩⟩⟩ := h
 exact ⟨v6, rfl, g6⟩
theorem k81_mk (w : World) (x : S81) {A6 : Option Addr} {c6 : Nat} (l6 : x.f6.length ≤ c6) (g6 : Kd.string.C w A6 x.f6.length x.f6) : k81.K w x [.string x.f0, .string x.f1, .int .i64 x.f2, .int .i64 x.f3, .int .i64 x.f4, .int .i64 x.f5, .slice A6 x.f6.length c6] := ⟨[.string x.f0], [.string x.f1, .int .i64 x.f2, .int .i64 x.f3, .int .i64 x.f4, .int .i64 x.f5, .slice A6 x.f6.length c6], rfl, rfl, ⟨[.string x.f1], [.int .i64 x.f2, .int .i64 x.f3, .int .i64 x.f4, .int .i64 x.f5, .slice A6 x.f6.length c6], rfl, rfl, ⟨[.int .i64 x.f2], [.int .i64 x.f3, .int .i64 x.f4, .int .i64 x.f5, .slice A6 x.f6.length c6], rfl, rfl, ⟨[.int .i64 x.f3], [.int .i64 x.f4, .int .i64 x.f5, .slice A6 x.f6.length c6], rfl, rfl, ⟨[.int .i64 x.f4], [.int .i64 x.f5, .slice A6 x.f6.length c6], rfl, rfl, ⟨[.int .i64 x.f5], [.slice A6 x.f6.length c6], rfl, rfl, ⟨A6, c6, rfl, l6, g6⟩⟩⟩⟩⟩⟩⟩
theorem k81_mkM (w : World) (base : Nat) (ok : Nat → Prop) (x : S81) {v6 : Value} (g6 : Kd.string.R 9 w base ok v6 x.f6) : k81.M w base ok x [.string x.f0, .string x.f1, .int .i64 x.f2, .int .i64 x.f3, .int .i64 x.f4, .int .i64 x.f5, v6] := ⟨[.string x.f0], [.string x.f1, .int .i64 x.f2, .int .i64 x.f3, .int .i64 x.f4, .int .i64 x.f5, v6], rfl, rfl, ⟨[.string x.f1], [.int .i64 x.f2, .int .i64 x.f3, .int .i64 x.f4, .int .i64 x.f5, v6], rfl, rfl, ⟨[.int .i64 x.f2], [.int .i64 x.f3, .int .i64 x.f4, .int .i64 x.f5, v6], rfl, rfl, ⟨[.int .i64 x.f3], [.int .i64 x.f4, .int .i64 x.f5, v6], rfl, rfl, ⟨[.int .i64 x.f4], [.int .i64 x.f5, v6], rfl, rfl, ⟨[.int .i64 x.f5], [v6], rfl, rfl, ⟨v6, rfl, g6⟩⟩⟩⟩⟩⟩⟩
def rd_T81 (xs : List S81) (i : Int) : S81 := xs.getD i.toNat z81
theorem at_T81 {w : World} {A : Option Addr} {n : Nat} {xs : List S81} (h : Kd.C k81 w A n xs) (i : Int) (h0 : 0 ≤ i) (h1 : i < n) : ∃ ad A6 c6, A = some ad ∧ w.cell? (ad.add (i.toNat * 7)) = some (.string (rd_T81 xs i).f0) ∧ w.cell? ⟨(ad.add (i.toNat * 7)).block, (ad.add (i.toNat * 7)).off + 1, none⟩ = some (.string (rd_T81 xs i).f1) ∧ w.cell? ⟨(ad.add (i.toNat * 7)).block, (ad.add (i.toNat * 7)).off + 2, none⟩ = some (.int .i64 (rd_T81 xs i).f2) ∧ w.cell? ⟨(ad.add (i.toNat * 7)).block, (ad.add (i.toNat * 7)).off + 3, none⟩ = some (.int .i64 (rd_T81 xs i).f3) ∧ w.cell? ⟨(ad.add (i.toNat * 7)).block, (ad.add (i.toNat * 7)).off + 4, none⟩ = some (.int .i64 (rd_T81 xs i).f4) ∧ w.cell? ⟨(ad.add (i.toNat * 7)).block, (ad.add (i.toNat * 7)).off + 5, none⟩ = some (.int .i64 (rd_T81 xs i).f5) ∧ w.cell? ⟨(ad.add (i.toNat * 7)).block, (ad.add (i.toNat * 7)).off + 6, none⟩ = some (.slice A6 (rd_T81 xs i).f6.length c6) ∧ (rd_T81 xs i).f6.length ≤ c6 ∧ Kd.string.C w A6 (rd_T81 xs i).f6.length (rd_T81 xs i).f6 := by
 obtain ⟨ad, c, e, _, hK, hc0⟩ := Kd.C_get h z81 i h0 h1
 have hc : ∀ j u, c[j]? = some u → w.cell? (ad.add (i.toNat * 7 + j)) = some u := hc0
 obtain ⟨A6, c6, rfl, l6, g6⟩ := k81_open hK
 exact ⟨ad, A6, c6, e, hc 0 _ rfl, by rw [← add_field _ _ 1 (by omega)]; exact hc 1 _ rfl, by rw [← add_field _ _ 2 (by omega)]; exact hc 2 _ rfl, by rw [← add_field _ _ 3 (by omega)]; exact hc 3 _ rfl, by rw [← add_field _ _ 4 (by omega)]; exact hc 4 _ rfl, by rw [← add_field _ _ 5 (by omega)]; exact hc 5 _ rfl, by rw [← add_field _ _ 6 (by omega)]; exact hc 6 _ rfl, l6, g6⟩
structure S29 where
 f0 : Int
 f1 : Int
 f2 : Int
 f3 : (List S81)
def k29 : Kd S29 := Kd.iso (Kd.pair (Kd.int .i64) (Kd.pair (Kd.int .i64) (Kd.pair (Kd.int .i64) (Kd.slice 81 k81)))) (fun x : S29 => (x.f0, x.f1, x.f2, x.f3))
theorem k29_open {w : World} {x : S29} {cs : List Value} (h : k29.K w x cs) : ∃ A3 c3, cs = [.int .i64 x.f0, .int .i64 x.f1, .int .i64 x.f2, .slice A3 x.f3.length c3] ∧ x.f3.length ≤ c3 ∧ k81.C w A3 x.f3.length x.f3 := by
 obtain ⟨_, _, rfl, rfl, ⟨_, _, rfl, rfl, ⟨_, _, rfl, rfl, ⟨A3, c3, rfl, l3, g3⟩⟩⟩⟩ := h
 exact ⟨A3, c3, rfl, l3, g3⟩
theorem k29_openM {w : World} {base : Nat} {ok : Nat → Prop} {x : S29} {cs : List Value} (h : k29.M w base ok x cs) : ∃ v3, cs = [.int .i64 x.f0, .int .i64 x.f1, .int .i64 x.f2, v3] ∧ k81.R 81 w base ok v3 x.f3 := by
 obtain ⟨_, _, rfl, rfl, ⟨_, _, rfl, rfl, ⟨_, _, rfl, rfl, ⟨v3, rfl, g3⟩⟩⟩⟩ := h
 exact ⟨v3, rfl, g3⟩
theorem k29_mk (w : World) (x : S29) {A3 : Option Addr} {c3 : Nat} (l3 : x.f3.length ≤ c3) (g3 : k81.C w A3 x.f3.length x.f3) : k29.K w x [.int .i64 x.f0, .int .i64 x.f1, .int .i64 x.f2, .slice A3 x.f3.length c3] := ⟨[.int .i64 x.f0], [.int .i64 x.f1, .int .i64 x.f2, .slice A3 x.f3.length c3], rfl, rfl, ⟨[.int .i64 x.f1], [.int .i64 x.f2, .slice A3 x.f3.length c3], rfl, rfl, ⟨[.int .i64 x.f2], [.slice A3 x.f3.length c3], rfl, rfl, ⟨A3, c3, rfl, l3, g3⟩⟩⟩⟩
theorem k29_mkM (w : World) (base : Nat) (ok : Nat → Prop) (x : S29) {v3 : Value} (g3 : k81.R 81 w base ok v3 x.f3) : k29.M w base ok x [.int .i64 x.f0, .int .i64 x.f1, .int .i64 x.f2, v3] := ⟨[.int .i64 x.f0], [.int .i64 x.f1, .int .i64 x.f2, v3], rfl, rfl, ⟨[.int .i64 x.f1], [.int .i64 x.f2, v3], rfl, rfl, ⟨[.int .i64 x.f2], [v3], rfl, rfl, ⟨v3, rfl, g3⟩⟩⟩⟩
structure S96 where
 f0 : Int
 f1 : ByteArray
 f2 : Int
 f3 : Int
def z96 : S96 := ⟨(0 : Int), (⟨#[]⟩ : ByteArray), (0 : Int), (0 : Int)⟩
def k96 : Kd S96 := Kd.iso (Kd.pair (Kd.int .i64) (Kd.pair Kd.string (Kd.pair (Kd.int .i64) (Kd.int .i64)))) (fun x : S96 => (x.f0, x.f1, x.f2, x.f3))
theorem k96_open {w : World} {x : S96} {cs : List Value} (h : k96.K w x cs) : cs = [.int .i64 x.f0, .string x.f1, .int .i64 x.f2, .int .i64 x.f3] := by
 obtain ⟨_, _, rfl, rfl, ⟨_, _, rfl, rfl, ⟨_, _, rfl, rfl, rfl⟩⟩⟩ := h
 exact rfl
theorem k96_openM {w : World} {base : Nat} {ok : Nat → Prop} {x : S96} {cs : List Value} (h : k96.M w base ok x cs) : cs = [.int .i64 x.f0, .string x.f1, .int .i64 x.f2, .int .i64 x.f3] := by
 obtain ⟨_, _, rfl, rfl, ⟨_, _, rfl, rfl, ⟨_, _, rfl, rfl, rfl⟩⟩⟩ := h
 exact rfl
theorem k96_mk (w : World) (x : S96)  : k96.K w x [.int .i64 x.f0, .string x.f1, .int .i64 x.f2, .int .i64 x.f3] := ⟨[.int .i64 x.f0], [.string x.f1, .int .i64 x.f2, .int .i64 x.f3], rfl, rfl, ⟨[.string x.f1], [.int .i64 x.f2, .int .i64 x.f3], rfl, rfl, ⟨[.int .i64 x.f2], [.int .i64 x.f3], rfl, rfl, rfl⟩⟩⟩
theorem k96_mkM (w : World) (base : Nat) (ok : Nat → Prop) (x : S96)  : k96.M w base ok x [.int .i64 x.f0, .string x.f1, .int .i64 x.f2, .int .i64 x.f3] := ⟨[.int .i64 x.f0], [.string x.f1, .int .i64 x.f2, .int .i64 x.f3], rfl, rfl, ⟨[.string x.f1], [.int .i64 x.f2, .int .i64 x.f3], rfl, rfl, ⟨[.int .i64 x.f2], [.int .i64 x.f3], rfl, rfl, rfl⟩⟩⟩
def rd_T96 (xs : List S96) (i : Int) : S96 := xs.getD i.toNat z96
theorem at_T96 {w : World} {A : Option Addr} {n : Nat} {xs : List S96} (h : Kd.C k96 w A n xs) (i : Int) (h0 : 0 ≤ i) (h1 : i < n) : ∃ ad , A = some ad ∧ w.cell? (ad.add (i.toNat * 4)) = some (.int .i64 (rd_T96 xs i).f0) ∧ w.cell? ⟨(ad.add (i.toNat * 4)).block, (ad.add (i.toNat * 4)).off + 1, none⟩ = some (.string (rd_T96 xs i).f1) ∧ w.cell? ⟨(ad.add (i.toNat * 4)).block, (ad.add (i.toNat * 4)).off + 2, none⟩ = some (.int .i64 (rd_T96 xs i).f2) ∧ w.cell? ⟨(ad.add (i.toNat * 4)).block, (ad.add (i.toNat * 4)).off + 3, none⟩ = some (.int .i64 (rd_T96 xs i).f3) := by
 obtain ⟨ad, c, e, _, hK, hc0⟩ := Kd.C_get h z96 i h0 h1
 have hc : ∀ j u, c[j]? = some u → w.cell? (ad.add (i.toNat * 4 + j)) = some u := hc0
 obtain rfl := k96_open hK
 exact ⟨ad, e, hc 0 _ rfl, by rw [← add_field _ _ 1 (by omega)]; exact hc 1 _ rfl, by rw [← add_field _ _ 2 (by omega)]; exact hc 2 _ rfl, by rw [← add_field _ _ 3 (by omega)]; exact hc 3 _ rfl⟩
structure S88 where
 f0 : ByteArray
 f1 : ByteArray
 f2 : Int
def z88 : S88 := ⟨(⟨#[]⟩ : ByteArray), (⟨#[]⟩ : ByteArray), (0 : Int)⟩
def k88 : Kd S88 := Kd.iso (Kd.pair Kd.string (Kd.pair Kd.string (Kd.int .i64))) (fun x : S88 => (x.f0, x.f1, x.f2))
theorem k88_open {w : World} {x : S88} {cs : List Value} (h : k88.K w x cs) : cs = [.string x.f0, .string x.f1, .int .i64 x.f2] := by
 obtain ⟨_, _, rfl, rfl, ⟨_, _, rfl, rfl, rfl⟩⟩ := h
 exact rfl
theorem k88_openM {w : World} {base : Nat} {ok : Nat → Prop} {x : S88} {cs : List Value} (h : k88.M w base ok x cs) : cs = [.string x.f0, .string x.f1, .int .i64 x.f2] := by
 obtain ⟨_, _, rfl, rfl, ⟨_, _, rfl, rfl, rfl⟩⟩ := h
 exact rfl
theorem k88_mk (w : World) (x : S88)  : k88.K w x [.string x.f0, .string x.f1, .int .i64 x.f2] := ⟨[.string x.f0], [.string x.f1, .int .i64 x.f2], rfl, rfl, ⟨[.string x.f1], [.int .i64 x.f2], rfl, rfl, rfl⟩⟩
theorem k88_mkM (w : World) (base : Nat) (ok : Nat → Prop) (x : S88)  : k88.M w base ok x [.string x.f0, .string x.f1, .int .i64 x.f2] := ⟨[.string x.f0], [.string x.f1, .int .i64 x.f2], rfl, rfl, ⟨[.string x.f1], [.int .i64 x.f2], rfl, rfl, rfl⟩⟩
def rd_T88 (xs : List S88) (i : Int) : S88 := xs.getD i.toNat z88
theorem at_T88 {w : World} {A : Option Addr} {n : Nat} {xs : List S88} (h : Kd.C k88 w A n xs) (i : Int) (h0 : 0 ≤ i) (h1 : i < n) : ∃ ad , A = some ad ∧ w.cell? (ad.add (i.toNat * 3)) = some (.string (rd_T88 xs i).f0) ∧ w.cell? ⟨(ad.add (i.toNat * 3)).block, (ad.add (i.toNat * 3)).off + 1, none⟩ = some (.string (rd_T88 xs i).f1) ∧ w.cell? ⟨(ad.add (i.toNat * 3)).block, (ad.add (i.toNat * 3)).off + 2, none⟩ = some (.int .i64 (rd_T88 xs i).f2) := by
 obtain ⟨ad, c, e, _, hK, hc0⟩ := Kd.C_get h z88 i h0 h1
 have hc : ∀ j u, c[j]? = some u → w.cell? (ad.add (i.toNat * 3 + j)) = some u := hc0
 obtain rfl := k88_open hK
 exact ⟨ad, e, hc 0 _ rfl, by rw [← add_field _ _ 1 (by omega)]; exact hc 1 _ rfl, by rw [← add_field _ _ 2 (by omega)]; exact hc 2 _ rfl⟩
structure S84 where
 f0 : Int
 f1 : ByteArray
 f2 : Int
 f3 : (List S88)
def z84 : S84 := ⟨(0 : Int), (⟨#[]⟩ : ByteArray), (0 : Int), ([] : List S88)⟩
def k84 : Kd S84 := Kd.iso (Kd.pair (Kd.int .i64) (Kd.pair Kd.string (Kd.pair (Kd.int .i64) (Kd.slice 88 k88)))) (fun x : S84 => (x.f0, x.f1, x.f2, x.f3))
theorem k84_open {w : World} {x : S84} {cs : List Value} (h : k84.K w x cs) : ∃ A3 c3, cs = [.int .i64 x.f0, .string x.f1, .int .i64 x.f2, .slice A3 x.f3.length c3] ∧ x.f3.length ≤ c3 ∧ k88.C w A3 x.f3.length x.f3 := by
 obtain ⟨_, _, rfl, rfl, ⟨_, _, rfl, rfl, ⟨_, _, rfl, rfl, ⟨A3, c3, rfl, l3, g3⟩⟩⟩⟩ := h
 exact ⟨A3, c3, rfl, l3, g3⟩
theorem k84_openM {w : World} {base : Nat} {ok : Nat → Prop} {x : S84} {cs : List Value} (h : k84.M w base ok x cs) : ∃ v3, cs = [.int .i64 x.f0, .string x.f1, .int .i64 x.f2, v3] ∧ k88.R 88 w base ok v3 x.f3 := by
 obtain ⟨_, _, rfl, rfl, ⟨_, _, rfl, rfl, ⟨_, _, rfl, rfl, ⟨v3, rfl, g3⟩⟩⟩⟩ := h
 exact ⟨v3, rfl, g3⟩
theorem k84_mk (w : World) (x : S84) {A3 : Option Addr} {c3 : Nat} (l3 : x.f3.length ≤ c3) (g3 : k88.C w A3 x.f3.length x.f3) : k84.K w x [.int .i64 x.f0, .string x.f1, .int .i64 x.f2, .slice A3 x.f3.length c3] := ⟨[.int .i64 x.f0], [.string x.f1, .int .i64 x.f2, .slice A3 x.f3.length c3], rfl, rfl, ⟨[.string x.f1], [.int .i64 x.f2, .slice A3 x.f3.length c3], rfl, rfl, ⟨[.int .i64 x.f2], [.slice A3 x.f3.length c3], rfl, rfl, ⟨A3, c3, rfl, l3, g3⟩⟩⟩⟩
theorem k84_mkM (w : World) (base : Nat) (ok : Nat → Prop) (x : S84) {v3 : Value} (g3 : k88.R 88 w base ok v3 x.f3) : k84.M w base ok x [.int .i64 x.f0, .string x.f1, .int .i64 x.f2, v3] := ⟨[.int .i64 x.f0], [.string x.f1, .int .i64 x.f2, v3], rfl, rfl, ⟨[.string x.f1], [.int .i64 x.f2, v3], rfl, rfl, ⟨[.int .i64 x.f2], [v3], rfl, rfl, ⟨v3, rfl, g3⟩⟩⟩⟩
structure S86 where
 f0 : Int
 f1 : S84
def z86 : S86 := ⟨(0 : Int), z84⟩
def k86 : Kd S86 := Kd.iso (Kd.pair (Kd.int .i64) k84) (fun x : S86 => (x.f0, x.f1))
theorem k86_open {w : World} {x : S86} {cs : List Value} (h : k86.K w x cs) : ∃ A4 c4, cs = [.int .i64 x.f0, .int .i64 x.f1.f0, .string x.f1.f1, .int .i64 x.f1.f2, .slice A4 x.f1.f3.length c4] ∧ x.f1.f3.length ≤ c4 ∧ k88.C w A4 x.f1.f3.length x.f1.f3 := by
 obtain ⟨_, _, rfl, rfl, s1⟩ := h
 obtain ⟨A4, c4, rfl, l4, g4⟩ := k84_open s1
 exact ⟨A4, c4, rfl, l4, g4⟩
theorem k86_openM {w : World} {base : Nat} {ok : Nat → Prop} {x : S86} {cs : List Value} (h : k86.M w base ok x cs) : ∃ v4, cs = [.int .i64 x.f0, .int .i64 x.f1.f0, .string x.f1.f1, .int .i64 x.f1.f2, v4] ∧ k88.R 88 w base ok v4 x.f1.f3 := by
 obtain ⟨_, _, rfl, rfl, s1⟩ := h
 obtain ⟨v4, rfl, g4⟩ := k84_openM s1
 exact ⟨v4, rfl, g4⟩
theorem k86_mk (w : World) (x : S86) {A4 : Option Addr} {c4 : Nat} (l4 : x.f1.f3.length ≤ c4) (g4 : k88.C w A4 x.f1.f3.length x.f1.f3) : k86.K w x [.int .i64 x.f0, .int .i64 x.f1.f0, .string x.f1.f1, .int .i64 x.f1.f2, .slice A4 x.f1.f3.length c4] := ⟨[.int .i64 x.f0], [.int .i64 x.f1.f0, .string x.f1.f1, .int .i64 x.f1.f2, .slice A4 x.f1.f3.length c4], rfl, rfl, (k84_mk w x.f1 l4 g4)⟩
theorem k86_mkM (w : World) (base : Nat) (ok : Nat → Prop) (x : S86) {v4 : Value} (g4 : k88.R 88 w base ok v4 x.f1.f3) : k86.M w base ok x [.int .i64 x.f0, .int .i64 x.f1.f0, .string x.f1.f1, .int .i64 x.f1.f2, v4] := ⟨[.int .i64 x.f0], [.int .i64 x.f1.f0, .string x.f1.f1, .int .i64 x.f1.f2, v4], rfl, rfl, (k84_mkM w base ok x.f1 g4)⟩
def rd_T86 (xs : List S86) (i : Int) : S86 := xs.getD i.toNat z86
theorem at_T86 {w : World} {A : Option Addr} {n : Nat} {xs : List S86} (h : Kd.C k86 w A n xs) (i : Int) (h0 : 0 ≤ i) (h1 : i < n) : ∃ ad A4 c4, A = some ad ∧ w.cell? (ad.add (i.toNat * 5)) = some (.int .i64 (rd_T86 xs i).f0) ∧ w.cell? ⟨(ad.add (i.toNat * 5)).block, (ad.add (i.toNat * 5)).off + 1, none⟩ = some (.int .i64 (rd_T86 xs i).f1.f0) ∧ w.cell? ⟨(ad.add (i.toNat * 5)).block, (ad.add (i.toNat * 5)).off + 2, none⟩ = some (.string (rd_T86 xs i).f1.f1) ∧ w.cell? ⟨(ad.add (i.toNat * 5)).block, (ad.add (i.toNat * 5)).off + 3, none⟩ = some (.int .i64 (rd_T86 xs i).f1.f2) ∧ w.cell? ⟨(ad.add (i.toNat * 5)).block, (ad.add (i.toNat * 5)).off + 4, none⟩ = some (.slice A4 (rd_T86 xs i).f1.f3.length c4) ∧ (rd_T86 xs i).f1.f3.length ≤ c4 ∧ k88.C w A4 (rd_T86 xs i).f1.f3.length (rd_T86 xs i).f1.f3 := by
 obtain ⟨ad, c, e, _, hK, hc0⟩ := Kd.C_get h z86 i h0 h1
 have hc : ∀ j u, c[j]? = some u → w.cell? (ad.add (i.toNat * 5 + j)) = some u := hc0
 obtain ⟨A4, c4, rfl, l4, g4⟩ := k86_open hK
 exact ⟨ad, A4, c4, e, hc 0 _ rfl, by rw [← add_field _ _ 1 (by omega)]; exact hc 1 _ rfl, by rw [← add_field _ _ 2 (by omega)]; exact hc 2 _ rfl, by rw [← add_field _ _ 3 (by omega)]; exact hc 3 _ rfl, by rw [← add_field _ _ 4 (by omega)]; exact hc 4 _ rfl, l4, g4⟩
structure S145 where
 f0 : Int
 f1 : ByteArray
 f2 : ByteArray
 f3 : Int
def z145 : S145 := ⟨(0 : Int), (⟨#[]⟩ : ByteArray), (⟨#[]⟩ : ByteArray), (0 : Int)⟩
def k145 : Kd S145 := Kd.iso (Kd.pair (Kd.int .i64) (Kd.pair Kd.string (Kd.pair Kd.string (Kd.int .i64)))) (fun x : S145 => (x.f0, x.f1, x.f2, x.f3))
theorem k145_open {w : World} {x : S145} {cs : List Value} (h : k145.K w x cs) : cs = [.int .i64 x.f0, .string x.f1, .string x.f2, .int .i64 x.f3] := by
 obtain ⟨_, _, rfl, rfl, ⟨_, _, rfl, rfl, ⟨_, _, rfl, rfl, rfl⟩⟩⟩ := h
 exact rfl
theorem k145_openM {w : World} {base : Nat} {ok : Nat → Prop} {x : S145} {cs : List Value} (h : k145.M w base ok x cs) : cs = [.int .i64 x.f0, .string x.f1, .string x.f2, .int .i64 x.f3] := by
 obtain ⟨_, _, rfl, rfl, ⟨_, _, rfl, rfl, ⟨_, _, rfl, rfl, rfl⟩⟩⟩ := h
 exact rfl
theorem k145_mk (w : World) (x : S145)  : k145.K w x [.int .i64 x.f0, .string x.f1, .string x.f2, .int .i64 x.f3] := ⟨[.int .i64 x.f0], [.string x.f1, .string x.f2, .int .i64 x.f3], rfl, rfl, ⟨[.string x.f1], [.string x.f2, .int .i64 x.f3], rfl, rfl, ⟨[.string x.f2], [.int .i64 x.f3], rfl, rfl, rfl⟩⟩⟩
theorem k145_mkM (w : World) (base : Nat) (ok : Nat → Prop) (x : S145)  : k145.M w base ok x [.int .i64 x.f0, .string x.f1, .string x.f2, .int .i64 x.f3] := ⟨[.int .i64 x.f0], [.string x.f1, .string x.f2, .int .i64 x.f3], rfl, rfl, ⟨[.string x.f1], [.string x.f2, .int .i64 x.f3], rfl, rfl, ⟨[.string x.f2], [.int .i64 x.f3], rfl, rfl, rfl⟩⟩⟩
structure S148 where
 f0 : S145
 f1 : (List Int)
def z148 : S148 := ⟨z145, ([] : List Int)⟩
def k148 : Kd S148 := Kd.iso (Kd.pair k145 (Kd.slice 3 (Kd.int .i64))) (fun x : S148 => (x.f0, x.f1))
theorem k148_open {w : World} {x : S148} {cs : List Value} (h : k148.K w x cs) : ∃ A4 c4, cs = [.int .i64 x.f0.f0, .string x.f0.f1, .string x.f0.f2, .int .i64 x.f0.f3, .slice A4 x.f1.length c4] ∧ x.f1.length ≤ c4 ∧ (Kd.int .i64).C w A4 x.f1.length x.f1 := by
 obtain ⟨_, _, rfl, s0, ⟨A4, c4, rfl, l4, g4⟩⟩ := h
 obtain rfl := k145_open s0
 exact ⟨A4, c4, rfl, l4, g4⟩
theorem k148_openM {w : World} {base : Nat} {ok : Nat → Prop} {x : S148} {cs : List Value} (h : k148.M w base ok x cs) : ∃ v4, cs = [.int .i64 x.f0.f0, .string x.f0.f1, .string x.f0.f2, .int .i64 x.f0.f3, v4] ∧ (Kd.int .i64).R 3 w base ok v4 x.f1 := by
 obtain ⟨_, _, rfl, s0, ⟨v4, rfl, g4⟩⟩ := h
 obtain rfl := k145_openM s0
 exact ⟨v4, rfl, g4⟩
theorem k148_mk (w : World) (x : S148) {A4 : Option Addr} {c4 : Nat} (l4 : x.f1.length ≤ c4) (g4 : (Kd.int .i64).C w A4 x.f1.length x.f1) : k148.K w x [.int .i64 x.f0.f0, .string x.f0.f1, .string x.f0.f2, .int .i64 x.f0.f3, .slice A4 x.f1.length c4] := ⟨[.int .i64 x.f0.f0, .string x.f0.f1, .string x.f0.f2, .int .i64 x.f0.f3], [.slice A4 x.f1.length c4], rfl, (k145_mk w x.f0 ), ⟨A4, c4, rfl, l4, g4⟩⟩
theorem k148_mkM (w : World) (base : Nat) (ok : Nat → Prop) (x : S148) {v4 : Value} (g4 : (Kd.int .i64).R 3 w base ok v4 x.f1) : k148.M w base ok x [.int .i64 x.f0.f0, .string x.f0.f1, .string x.f0.f2, .int .i64 x.f0.f3, v4] := ⟨[.int .i64 x.f0.f0, .string x.f0.f1, .string x.f0.f2, .int .i64 x.f0.f3], [v4], rfl, (k145_mkM w base ok x.f0 ), ⟨v4, rfl, g4⟩⟩
def rd_T148 (xs : List S148) (i : Int) : S148 := xs.getD i.toNat z148
theorem at_T148 {w : World} {A : Option Addr} {n : Nat} {xs : List S148} (h : Kd.C k148 w A n xs) (i : Int) (h0 : 0 ≤ i) (h1 : i < n) : ∃ ad A4 c4, A = some ad ∧ w.cell? (ad.add (i.toNat * 5)) = some (.int .i64 (rd_T148 xs i).f0.f0) ∧ w.cell? ⟨(ad.add (i.toNat * 5)).block, (ad.add (i.toNat * 5)).off + 1, none⟩ = some (.string (rd_T148 xs i).f0.f1) ∧ w.cell? ⟨(ad.add (i.toNat * 5)).block, (ad.add (i.toNat * 5)).off + 2, none⟩ = some (.string (rd_T148 xs i).f0.f2) ∧ w.cell? ⟨(ad.add (i.toNat * 5)).block, (ad.add (i.toNat * 5)).off + 3, none⟩ = some (.int .i64 (rd_T148 xs i).f0.f3) ∧ w.cell? ⟨(ad.add (i.toNat * 5)).block, (ad.add (i.toNat * 5)).off + 4, none⟩ = some (.slice A4 (rd_T148 xs i).f1.length c4) ∧ (rd_T148 xs i).f1.length ≤ c4 ∧ (Kd.int .i64).C w A4 (rd_T148 xs i).f1.length (rd_T148 xs i).f1 := by
 obtain ⟨ad, c, e, _, hK, hc0⟩ := Kd.C_get h z148 i h0 h1
 have hc : ∀ j u, c[j]? = some u → w.cell? (ad.add (i.toNat * 5 + j)) = some u := hc0
 obtain ⟨A4, c4, rfl, l4, g4⟩ := k148_open hK
 exact ⟨ad, A4, c4, e, hc 0 _ rfl, by rw [← add_field _ _ 1 (by omega)]; exact hc 1 _ rfl, by rw [← add_field _ _ 2 (by omega)]; exact hc 2 _ rfl, by rw [← add_field _ _ 3 (by omega)]; exact hc 3 _ rfl, by rw [← add_field _ _ 4 (by omega)]; exact hc 4 _ rfl, l4, g4⟩
structure S91 where
 f0 : Int
 f1 : Int
 f2 : Bool
 f3 : (List S148)
 f4 : (List S86)
def z91 : S91 := ⟨(0 : Int), (0 : Int), false, ([] : List S148), ([] : List S86)⟩
def k91 : Kd S91 := Kd.iso (Kd.pair (Kd.int .i64) (Kd.pair (Kd.int .i64) (Kd.pair Kd.bool (Kd.pair (Kd.slice 148 k148) (Kd.slice 86 k86))))) (fun x : S91 => (x.f0, x.f1, x.f2, x.f3, x.f4))
theorem k91_open {w : World} {x : S91} {cs : List Value} (h : k91.K w x cs) : ∃ A3 c3 A4 c4, cs = [.int .i64 x.f0, .int .i64 x.f1, .bool x.f2, .slice A3 x.f3.length c3, .slice A4 x.f4.length c4] ∧ x.f3.length ≤ c3 ∧ k148.C w A3 x.f3.length x.f3 ∧ x.f4.length ≤ c4 ∧ k86.C w A4 x.f4.length x.f4 := by
 obtain ⟨_, _, rfl, rfl, ⟨_, _, rfl, rfl, ⟨_, _, rfl, rfl, ⟨_, _, rfl, ⟨A3, c3, rfl, l3, g3⟩, ⟨A4, c4, rfl, l4, g4⟩⟩⟩⟩⟩ := h
 exact ⟨A3, c3, A4, c4, rfl, l3, g3, l4, g4⟩
theorem k91_openM {w : World} {base : Nat} {ok : Nat → Prop} {x : S91} {cs : List Value} (h : k91.M w base ok x cs) : ∃ v3 v4, cs = [.int .i64 x.f0, .int .i64 x.f1, .bool x.f2, v3, v4] ∧ k148.R 148 w base ok v3 x.f3 ∧ k86.R 86 w base ok v4 x.f4 := by
 obtain ⟨_, _, rfl, rfl, ⟨_, _, rfl, rfl, ⟨_, _, rfl, rfl, ⟨_, _, rfl, ⟨v3, rfl, g3⟩, ⟨v4, rfl, g4⟩⟩⟩⟩⟩ := h
 exact ⟨v3, v4, rfl, g3, g4⟩
theorem k91_mk (w : World) (x : S91) {A3 : Option Addr} {c3 : Nat} (l3 : x.f3.length ≤ c3) (g3 : k148.C w A3 x.f3.length x.f3) {A4 : Option Addr} {c4 : Nat} (l4 : x.f4.length ≤ c4) (g4 : k86.C w A4 x.f4.length x.f4) : k91.K w x [.int .i64 x.f0, .int .i64 x.f1, .bool x.f2, .slice A3 x.f3.length c3, .slice A4 x.f4.length c4] := ⟨[.int .i64 x.f0], [.int .i64 x.f1, .bool x.f2, .slice A3 x.f3.length c3, .slice A4 x.f4.length c4], rfl, rfl, ⟨[.int .i64 x.f1], [.bool x.f2, .slice A3 x.f3.length c3, .slice A4 x.f4.length c4], rfl, rfl, ⟨[.bool x.f2], [.slice A3 x.f3.length c3, .slice A4 x.f4.length c4], rfl, rfl, ⟨[.slice A3 x.f3.length c3], [.slice A4 x.f4.length c4], rfl, ⟨A3, c3, rfl, l3, g3⟩, ⟨A4, c4, rfl, l4, g4⟩⟩⟩⟩⟩
theorem k91_mkM (w : World) (base : Nat) (ok : Nat → Prop) (x : S91) {v3 : Value} (g3 : k148.R 148 w base ok v3 x.f3) {v4 : Value} (g4 : k86.R 86 w base ok v4 x.f4) : k91.M w base ok x [.int .i64 x.f0, .int .i64 x.f1, .bool x.f2, v3, v4] := ⟨[.int .i64 x.f0], [.int .i64 x.f1, .bool x.f2, v3, v4], rfl, rfl, ⟨[.int .i64 x.f1], [.bool x.f2, v3, v4], rfl, rfl, ⟨[.bool x.f2], [v3, v4], rfl, rfl, ⟨[v3], [v4], rfl, ⟨v3, rfl, g3⟩, ⟨v4, rfl, g4⟩⟩⟩⟩⟩
def rd_T91 (xs : List S91) (i : Int) : S91 := xs.getD i.toNat z91
theorem at_T91 {w : World} {A : Option Addr} {n : Nat} {xs : List S91} (h : Kd.C k91 w A n xs) (i : Int) (h0 : 0 ≤ i) (h1 : i < n) : ∃ ad A3 c3 A4 c4, A = some ad ∧ w.cell? (ad.add (i.toNat * 5)) = some (.int .i64 (rd_T91 xs i).f0) ∧ w.cell? ⟨(ad.add (i.toNat * 5)).block, (ad.add (i.toNat * 5)).off + 1, none⟩ = some (.int .i64 (rd_T91 xs i).f1) ∧ w.cell? ⟨(ad.add (i.toNat * 5)).block, (ad.add (i.toNat * 5)).off + 2, none⟩ = some (.bool (rd_T91 xs i).f2) ∧ w.cell? ⟨(ad.add (i.toNat * 5)).block, (ad.add (i.toNat * 5)).off + 3, none⟩ = some (.slice A3 (rd_T91 xs i).f3.length c3) ∧ w.cell? ⟨(ad.add (i.toNat * 5)).block, (ad.add (i.toNat * 5)).off + 4, none⟩ = some (.slice A4 (rd_T91 xs i).f4.length c4) ∧ (rd_T91 xs i).f3.length ≤ c3 ∧ k148.C w A3 (rd_T91 xs i).f3.length (rd_T91 xs i).f3 ∧ (rd_T91 xs i).f4.length ≤ c4 ∧ k86.C w A4 (rd_T91 xs i).f4.length (rd_T91 xs i).f4 := by
 obtain ⟨ad, c, e, _, hK, hc0⟩ := Kd.C_get h z91 i h0 h1
 have hc : ∀ j u, c[j]? = some u → w.cell? (ad.add (i.toNat * 5 + j)) = some u := hc0
 obtain ⟨A3, c3, A4, c4, rfl, l3, g3, l4, g4⟩ := k91_open hK
 exact ⟨ad, A3, c3, A4, c4, e, hc 0 _ rfl, by rw [← add_field _ _ 1 (by omega)]; exact hc 1 _ rfl, by rw [← add_field _ _ 2 (by omega)]; exact hc 2 _ rfl, by rw [← add_field _ _ 3 (by omega)]; exact hc 3 _ rfl, by rw [← add_field _ _ 4 (by omega)]; exact hc 4 _ rfl, l3, g3, l4, g4⟩
structure S23 where
 f0 : Int
 f1 : Int
 f2 : Int
def k23 : Kd S23 := Kd.iso (Kd.pair (Kd.int .i64) (Kd.pair (Kd.int .i64) (Kd.int .i64))) (fun x : S23 => (x.f0, x.f1, x.f2))
theorem k23_open {w : World} {x : S23} {cs : List Value} (h : k23.K w x cs) : cs = [.int .i64 x.f0, .int .i64 x.f1, .int .i64 x.f2] := by
 obtain ⟨_, _, rfl, rfl, ⟨_, _, rfl, rfl, rfl⟩⟩ := h
 exact rfl
theorem k23_openM {w : World} {base : Nat} {ok : Nat → Prop} {x : S23} {cs : List Value} (h : k23.M w base ok x cs) : cs = [.int .i64 x.f0, .int .i64 x.f1, .int .i64 x.f2] := by
 obtain ⟨_, _, rfl, rfl, ⟨_, _, rfl, rfl, rfl⟩⟩ := h
 exact rfl
theorem k23_mk (w : World) (x : S23)  : k23.K w x [.int .i64 x.f0, .int .i64 x.f1, .int .i64 x.f2] := ⟨[.int .i64 x.f0], [.int .i64 x.f1, .int .i64 x.f2], rfl, rfl, ⟨[.int .i64 x.f1], [.int .i64 x.f2], rfl, rfl, rfl⟩⟩
theorem k23_mkM (w : World) (base : Nat) (ok : Nat → Prop) (x : S23)  : k23.M w base ok x [.int .i64 x.f0, .int .i64 x.f1, .int .i64 x.f2] := ⟨[.int .i64 x.f0], [.int .i64 x.f1, .int .i64 x.f2], rfl, rfl, ⟨[.int .i64 x.f1], [.int .i64 x.f2], rfl, rfl, rfl⟩⟩
structure S34 where
 f0 : Int
 f1 : S23
 f2 : Int
 f3 : Int
 f4 : Int
 f5 : Int
 f6 : Int
 f7 : Int
 f8 : Int
 f9 : (List S78)
 f10 : (List S55)
 f11 : S29
 f12 : (List S96)
 f13 : (List S86)
 f14 : (List S91)
 f15 : ByteArray
def k34 : Kd S34 := Kd.iso (Kd.pair (Kd.int .i64) (Kd.pair k23 (Kd.pair (Kd.int .i64) (Kd.pair (Kd.int .i64) (Kd.pair (Kd.int .i64) (Kd.pair (Kd.int .i64) (Kd.pair (Kd.int .i64) (Kd.pair (Kd.int .i64) (Kd.pair (Kd.int .i64) (Kd.pair (Kd.slice 78 k78) (Kd.pair (Kd.slice 55 k55) (Kd.pair k29 (Kd.pair (Kd.slice 96 k96) (Kd.pair (Kd.slice 86 k86) (Kd.pair (Kd.slice 91 k91) Kd.string))))))))))))))) (fun x : S34 => (x.f0, x.f1, x.f2, x.f3, x.f4, x.f5, x.f6, x.f7, x.f8, x.f9, x.f10, x.f11, x.f12, x.f13, x.f14, x.f15))
theorem k34_open {w : World} {x : S34} {cs : List Value} (h : k34.K w x cs) : ∃ A11 c11 A12 c12 A16 c16 A17 c17 A18 c18 A19 c19, cs = [.int .i64 x.f0, .int .i64 x.f1.f0, .int .i64 x.f1.f1, .int .i64 x.f1.f2, .int .i64 x.f2, .int .i64 x.f3, .int .i64 x.f4, .int .i64 x.f5, .int .i64 x.f6, .int .i64 x.f7, .int .i64 x.f8, .slice A11 x.f9.length c11, .slice A12 x.f10.length c12, .int .i64 x.f11.f0, .int .i64 x.f11.f1, .int .i64 x.f11.f2, .slice A16 x.f11.f3.length c16, .slice A17 x.f12.length c17, .slice A18 x.f13.length c18, .slice A19 x.f14.length c19, .string x.f15] ∧ x.f9.length ≤ c11 ∧ k78.C w A11 x.f9.length x.f9 ∧ x.f10.length ≤ c12 ∧ k55.C w A12 x.f10.length x.f10 ∧ x.f11.f3.length ≤ c16 ∧ k81.C w A16 x.f11.f3.length x.f11.f3 ∧ x.f12.length ≤ c17 ∧ k96.C w A17 x.f12.length x.f12 ∧ x.f13.length ≤ c18 ∧ k86.C w A18 x.f13.length x.f13 ∧ x.f14.length ≤ c19 ∧ k91.C w A19 x.f14.length x.f14 := by
 obtain ⟨_, _, rfl, rfl, ⟨_, _, rfl, s1, ⟨_, _, rfl, rfl, ⟨_, _, rfl, rfl, ⟨_, _, rfl, rfl, ⟨_, _, rfl, rfl, ⟨_, _, rfl, rfl, ⟨_, _, rfl, rfl, ⟨_, _, rfl, rfl, ⟨_, _, rfl, ⟨A11, c11, rfl, l11, g11⟩, ⟨_, _, rfl, ⟨A12, c12, rfl, l12, g12⟩, ⟨_, _, rfl, s13, ⟨_, _, rfl, ⟨A17, c17, rfl, l17, g17⟩, ⟨_, _, rfl, ⟨A18, c18, rfl, l18, g18⟩, ⟨_, _, rfl, ⟨A19, c19, rfl, l19, g19⟩, rfl⟩⟩⟩⟩⟩⟩⟩⟩⟩⟩⟩⟩⟩⟩⟩ := h
 obtain rfl := k23_open s1
 obtain ⟨A16, c16, rfl, l16, g16⟩ := k29_open s13
 exact ⟨A11, c11, A12, c12, A16, c16, A17, c17, A18, c18, A19, c19, rfl, l11, g11, l12, g12, l16, g16, l17, g17, l18, g18, l19, g19⟩
theorem k34_openM {w : World} {base : Nat} {ok : Nat → Prop} {x : S34} {cs : List Value} (h : k34.M w base ok x cs) : ∃ v11 v12 v16 v17 v18 v19, cs = [.int .i64 x.f0, .int .i64 x.f1.f0, .int .i64 x.f1.f1, .int .i64 x.f1.f2, .int .i64 x.f2, .int .i64 x.f3, .int .i64 x.f4, .int .i64 x.f5, .int .i64 x.f6, .int .i64 x.f7, .int .i64 x.f8, v11, v12, .int .i64 x.f11.f0, .int .i64 x.f11.f1, .int .i64 x.f11.f2, v16, v17, v18, v19, .string x.f15] ∧ k78.R 78 w base ok v11 x.f9 ∧ k55.R 55 w base ok v12 x.f10 ∧ k81.R 81 w base ok v16 x.f11.f3 ∧ k96.R 96 w base ok v17 x.f12 ∧ k86.R 86 w base ok v18 x.f13 ∧ k91.R 91 w base ok v19 x.f14 := by
 obtain ⟨_, _, rfl, rfl, ⟨_, _, rfl, s1, ⟨_, _, rfl, rfl, ⟨_, _, rfl, rfl, ⟨_, _, rfl, rfl, ⟨_, _, rfl, rfl, ⟨_, _, rfl, rfl, ⟨_, _, rfl, rfl, ⟨_, _, rfl, rfl, ⟨_, _, rfl, ⟨v11, rfl, g11⟩, ⟨_, _, rfl, ⟨v12, rfl, g12⟩, ⟨_, _, rfl, s13, ⟨_, _, rfl, ⟨v17, rfl, g17⟩, ⟨_, _, rfl, ⟨v18, rfl, g18⟩, ⟨_, _, rfl, ⟨v19, rfl, g19⟩, rfl⟩⟩⟩⟩⟩⟩⟩⟩⟩⟩⟩⟩⟩⟩⟩ := h
 obtain rfl := k23_openM s1
 obtain ⟨v16, rfl, g16⟩ := k29_openM s13
 exact ⟨v11, v12, v16, v17, v18, v19, rfl, g11, g12, g16, g17, g18, g19⟩
theorem k34_mk (w : World) (x : S34) {A11 : Option Addr} {c11 : Nat} (l11 : x.f9.length ≤ c11) (g11 : k78.C w A11 x.f9.length x.f9) {A12 : Option Addr} {c12 : Nat} (l12 : x.f10.length ≤ c12) (g12 : k55.C w A12 x.f10.length x.f10) {A16 : Option Addr} {c16 : Nat} (l16 : x.f11.f3.length ≤ c16) (g16 : k81.C w A16 x.f11.f3.length x.f11.f3) {A17 : Option Addr} {c17 : Nat} (l17 : x.f12.length ≤ c17) (g17 : k96.C w A17 x.f12.length x.f12) {A18 : Option Addr} {c18 : Nat} (l18 : x.f13.length ≤ c18) (g18 : k86.C w A18 x.f13.length x.f13) {A19 : Option Addr} {c19 : Nat} (l19 : x.f14.length ≤ c19) (g19 : k91.C w A19 x.f14.length x.f14) : k34.K w x [.int .i64 x.f0, .int .i64 x.f1.f0, .int .i64 x.f1.f1, .int .i64 x.f1.f2, .int .i64 x.f2, .int .i64 x.f3, .int .i64 x.f4, .int .i64 x.f5, .int .i64 x.f6, .int .i64 x.f7, .int .i64 x.f8, .slice A11 x.f9.length c11, .slice A12 x.f10.length c12, .int .i64 x.f11.f0, .int .i64 x.f11.f1, .int .i64 x.f11.f2, .slice A16 x.f11.f3.length c16, .slice A17 x.f12.length c17, .slice A18 x.f13.length c18, .slice A19 x.f14.length c19, .string x.f15] := ⟨[.int .i64 x.f0], [.int .i64 x.f1.f0, .int .i64 x.f1.f1, .int .i64 x.f1.f2, .int .i64 x.f2, .int .i64 x.f3, .int .i64 x.f4, .int .i64 x.f5, .int .i64 x.f6, .int .i64 x.f7, .int .i64 x.f8, .slice A11 x.f9.length c11, .slice A12 x.f10.length c12, .int .i64 x.f11.f0, .int .i64 x.f11.f1, .int .i64 x.f11.f2, .slice A16 x.f11.f3.length c16, .slice A17 x.f12.length c17, .slice A18 x.f13.length c18, .slice A19 x.f14.length c19, .string x.f15], rfl, rfl, ⟨[.int .i64 x.f1.f0, .int .i64 x.f1.f1, .int .i64 x.f1.f2], [.int .i64 x.f2, .int .i64 x.f3, .int .i64 x.f4, .int .i64 x.f5, .int .i64 x.f6, .int .i64 x.f7, .int .i64 x.f8, .slice A11 x.f9.length c11, .slice A12 x.f10.length c12, .int .i64 x.f11.f0, .int .i64 x.f11.f1, .int .i64 x.f11.f2, .slice A16 x.f11.f3.length c16, .slice A17 x.f12.length c17, .slice A18 x.f13.length c18, .slice A19 x.f14.length c19, .string x.f15], rfl, (k23_mk w x.f1 ), ⟨[.int .i64 x.f2], [.int .i64 x.f3, .int .i64 x.f4, .int .i64 x.f5, .int .i64 x.f6, .int .i64 x.f7, .int .i64 x.f8, .slice A11 x.f9.length c11, .slice A12 x.f10.length c12, .int .i64 x.f11.f0, .int .i64 x.f11.f1, .int .i64 x.f11.f2, .slice A16 x.f11.f3.length c16, .slice A17 x.f12.length c17, .slice A18 x.f13.length c18, .slice A19 x.f14.length c19, .string x.f15], rfl, rfl, ⟨[.int .i64 x.f3], [.int .i64 x.f4, .int .i64 x.f5, .int .i64 x.f6, .int .i64 x.f7, .int .i64 x.f8, .slice A11 x.f9.length c11, .slice A12 x.f10.length c12, .int .i64 x.f11.f0, .int .i64 x.f11.f1, .int .i64 x.f11.f2, .slice A16 x.f11.f3.length c16, .slice A17 x.f12.length c17, .slice A18 x.f13.length c18, .slice A19 x.f14.length c19, .string x.f15], rfl, rfl, ⟨[.int .i64 x.f4], [.int .i64 x.f5, .int .i64 x.f6, .int .i64 x.f7, .int .i64 x.f8, .slice A11 x.f9.length c11, .slice A12 x.f10.length c12, .int .i64 x.f11.f0, .int .i64 x.f11.f1, .int .i64 x.f11.f2, .slice A16 x.f11.f3.length c16, .slice A17 x.f12.length c17, .slice A18 x.f13.length c18, .slice A19 x.f14.length c19, .string x.f15], rfl, rfl, ⟨[.int .i64 x.f5], [.int .i64 x.f6, .int .i64 x.f7, .int .i64 x.f8, .slice A11 x.f9.length c11, .slice A12 x.f10.length c12, .int .i64 x.f11.f0, .int .i64 x.f11.f1, .int .i64 x.f11.f2, .slice A16 x.f11.f3.length c16, .slice A17 x.f12.length c17, .slice A18 x.f13.length c18, .slice A19 x.f14.length c19, .string x.f15], rfl, rfl, ⟨[.int .i64 x.f6], [.int .i64 x.f7, .int .i64 x.f8, .slice A11 x.f9.length c11, .slice A12 x.f10.length c12, .int .i64 x.f11.f0, .int .i64 x.f11.f1, .int .i64 x.f11.f2, .slice A16 x.f11.f3.length c16, .slice A17 x.f12.length c17, .slice A18 x.f13.length c18, .slice A19 x.f14.length c19, .string x.f15], rfl, rfl, ⟨[.int .i64 x.f7], [.int .i64 x.f8, .slice A11 x.f9.length c11, .slice A12 x.f10.length c12, .int .i64 x.f11.f0, .int .i64 x.f11.f1, .int .i64 x.f11.f2, .slice A16 x.f11.f3.length c16, .slice A17 x.f12.length c17, .slice A18 x.f13.length c18, .slice A19 x.f14.length c19, .string x.f15], rfl, rfl, ⟨[.int .i64 x.f8], [.slice A11 x.f9.length c11, .slice A12 x.f10.length c12, .int .i64 x.f11.f0, .int .i64 x.f11.f1, .int .i64 x.f11.f2, .slice A16 x.f11.f3.length c16, .slice A17 x.f12.length c17, .slice A18 x.f13.length c18, .slice A19 x.f14.length c19, .string x.f15], rfl, rfl, ⟨[.slice A11 x.f9.length c11], [.slice A12 x.f10.length c12, .int .i64 x.f11.f0, .int .i64 x.f11.f1, .int .i64 x.f11.f2, .slice A16 x.f11.f3.length c16, .slice A17 x.f12.length c17, .slice A18 x.f13.length c18, .slice A19 x.f14.length c19, .string x.f15], rfl, ⟨A11, c11, rfl, l11, g11⟩, ⟨[.slice A12 x.f10.length c12], [.int .i64 x.f11.f0, .int .i64 x.f11.f1, .int .i64 x.f11.f2, .slice A16 x.f11.f3.length c16, .slice A17 x.f12.length c17, .slice A18 x.f13.length c18, .slice A19 x.f14.length c19, .string x.f15], rfl, ⟨A12, c12, rfl, l12, g12⟩, ⟨[.int .i64 x.f11.f0, .int .i64 x.f11.f1, .int .i64 x.f11.f2, .slice A16 x.f11.f3.length c16], [.slice A17 x.f12.length c17, .slice A18 x.f13.length c18, .slice A19 x.f14.length c19, .string x.f15], rfl, (k29_mk w x.f11 l16 g16), ⟨[.slice A17 x.f12.length c17], [.slice A18 x.f13.length c18, .slice A19 x.f14.length c19, .string x.f15], rfl, ⟨A17, c17, rfl, l17, g17⟩, ⟨[.slice A18 x.f13.length c18], [.slice A19 x.f14.length c19, .string x.f15], rfl, ⟨A18, c18, rfl, l18, g18⟩, ⟨[.slice A19 x.f14.length c19], [.string x.f15], rfl, ⟨A19, c19, rfl, l19, g19⟩, rfl⟩⟩⟩⟩⟩⟩⟩⟩⟩⟩⟩⟩⟩⟩⟩
theorem k34_mkM (w : World) (base : Nat) (ok : Nat → Prop) (x : S34) {v11 : Value} (g11 : k78.R 78 w base ok v11 x.f9) {v12 : Value} (g12 : k55.R 55 w base ok v12 x.f10) {v16 : Value} (g16 : k81.R 81 w base ok v16 x.f11.f3) {v17 : Value} (g17 : k96.R 96 w base ok v17 x.f12) {v18 : Value} (g18 : k86.R 86 w base ok v18 x.f13) {v19 : Value} (g19 : k91.R 91 w base ok v19 x.f14) : k34.M w base ok x [.int .i64 x.f0, .int .i64 x.f1.f0, .int .i64 x.f1.f1, .int .i64 x.f1.f2, .int .i64 x.f2, .int .i64 x.f3, .int .i64 x.f4, .int .i64 x.f5, .int .i64 x.f6, .int .i64 x.f7, .int .i64 x.f8, v11, v12, .int .i64 x.f11.f0, .int .i64 x.f11.f1, .int .i64 x.f11.f2, v16, v17, v18, v19, .string x.f15] := ⟨[.int .i64 x.f0], [.int .i64 x.f1.f0, .int .i64 x.f1.f1, .int .i64 x.f1.f2, .int .i64 x.f2, .int .i64 x.f3, .int .i64 x.f4, .int .i64 x.f5, .int .i64 x.f6, .int .i64 x.f7, .int .i64 x.f8, v11, v12, .int .i64 x.f11.f0, .int .i64 x.f11.f1, .int .i64 x.f11.f2, v16, v17, v18, v19, .string x.f15], rfl, rfl, ⟨[.int .i64 x.f1.f0, .int .i64 x.f1.f1, .int .i64 x.f1.f2], [.int .i64 x.f2, .int .i64 x.f3, .int .i64 x.f4, .int .i64 x.f5, .int .i64 x.f6, .int .i64 x.f7, .int .i64 x.f8, v11, v12, .int .i64 x.f11.f0, .int .i64 x.f11.f1, .int .i64 x.f11.f2, v16, v17, v18, v19, .string x.f15], rfl, (k23_mkM w base ok x.f1 ), ⟨[.int .i64 x.f2], [.int .i64 x.f3, .int .i64 x.f4, .int .i64 x.f5, .int .i64 x.f6, .int .i64 x.f7, .int .i64 x.f8, v11, v12, .int .i64 x.f11.f0, .int .i64 x.f11.f1, .int .i64 x.f11.f2, v16, v17, v18, v19, .string x.f15], rfl, rfl, ⟨[.int .i64 x.f3], [.int .i64 x.f4, .int .i64 x.f5, .int .i64 x.f6, .int .i64 x.f7, .int .i64 x.f8, v11, v12, .int .i64 x.f11.f0, .int .i64 x.f11.f1, .int .i64 x.f11.f2, v16, v17, v18, v19, .string x.f15], rfl, rfl, ⟨[.int .i64 x.f4], [.int .i64 x.f5, .int .i64 x.f6, .int .i64 x.f7, .int .i64 x.f8, v11, v12, .int .i64 x.f11.f0, .int .i64 x.f11.f1, .int .i64 x.f11.f2, v16, v17, v18, v19, .string x.f15], rfl, rfl, ⟨[.int .i64 x.f5], [.int .i64 x.f6, .int .i64 x.f7, .int .i64 x.f8, v11, v12, .int .i64 x.f11.f0, .int .i64 x.f11.f1, .int .i64 x.f11.f2, v16, v17, v18, v19, .string x.f15], rfl, rfl, ⟨[.int .i64 x.f6], [.int .i64 x.f7, .int .i64 x.f8, v11, v12, .int .i64 x.f11.f0, .int .i64 x.f11.f1, .int .i64 x.f11.f2, v16, v17, v18, v19, .string x.f15], rfl, rfl, ⟨[.int .i64 x.f7], [.int .i64 x.f8, v11, v12, .int .i64 x.f11.f0, .int .i64 x.f11.f1, .int .i64 x.f11.f2, v16, v17, v18, v19, .string x.f15], rfl, rfl, ⟨[.int .i64 x.f8], [v11, v12, .int .i64 x.f11.f0, .int .i64 x.f11.f1, .int .i64 x.f11.f2, v16, v17, v18, v19, .string x.f15], rfl, rfl, ⟨[v11], [v12, .int .i64 x.f11.f0, .int .i64 x.f11.f1, .int .i64 x.f11.f2, v16, v17, v18, v19, .string x.f15], rfl, ⟨v11, rfl, g11⟩, ⟨[v12], [.int .i64 x.f11.f0, .int .i64 x.f11.f1, .int .i64 x.f11.f2, v16, v17, v18, v19, .string x.f15], rfl, ⟨v12, rfl, g12⟩, ⟨[.int .i64 x.f11.f0, .int .i64 x.f11.f1, .int .i64 x.f11.f2, v16], [v17, v18, v19, .string x.f15], rfl, (k29_mkM w base ok x.f11 g16), ⟨[v17], [v18, v19, .string x.f15], rfl, ⟨v17, rfl, g17⟩, ⟨[v18], [v19, .string x.f15], rfl, ⟨v18, rfl, g18⟩, ⟨[v19], [.string x.f15], rfl, ⟨v19, rfl, g19⟩, rfl⟩⟩⟩⟩⟩⟩⟩⟩⟩⟩⟩⟩⟩⟩⟩
end Go.Proofs.YtmneemhplffemaaGreatDoorRR.Ki
namespace Go.Proofs.YtmneemhplffemaaGreatDoorRR.Get
open Go.RowKit Go.Proofs.YtmneemhplffemaaGreatDoorRR.Ext Go.Proofs.YtmneemhplffemaaGreatDoorRR.Wire Go.Proofs.YtmneemhplffemaaGreatDoorRR.Mem Go.Proofs.YtmneemhplffemaaGreatDoorRR.Ki Go.Proofs.YtmneemhplffemaaGreatDoorRRW.PrintWords

def dRep {β : Type} (d : List Int → Nat → Option (β × Nat)) (xs : List Int) : Nat → Nat → Option (List β × Nat)
 | 0, a => some ([], a)
 | n + 1, a => match d xs a with
   | none => none
   | some (x, b) => match dRep d xs n b with
     | none => none
     | some (l, z) => some (x :: l, z)
def dLst {β : Type} (d : List Int → Nat → Option (β × Nat)) (xs : List Int) (a : Nat) : Option (List β × Nat) :=
 match dNum xs a with
 | none => none
 | some (n, b) => dRep d xs n.toNat b
def Goes {β : Type} (d : List Int → Nat → Option (β × Nat)) (xs : List Int) : Prop := ∀ a x b, a ≤ xs.length → d xs a = some (x, b) → b ≤ xs.length
theorem goes_num {xs : List Int} (hB : Bytes xs) : Goes dNum xs := fun a x b _ h => (dNum_some hB h).2.2.2.2.1
theorem goes_txt {xs : List Int} (hB : Bytes xs) : Goes dTxt xs := fun a x b _ h => (dTxt_some hB h).2.2.2.1
theorem goes_tru {xs : List Int} (hB : Bytes xs) : Goes dTru xs := by
 intro a x b _ h
 unfold dTru at h
 cases hr : dNum xs a with
 | none => rw [hr] at h; cases h
 | some p =>
   obtain ⟨v, b'⟩ := p
   rw [hr] at h
   simp only at h
   split at h
   · cases h
   · simp only [Option.some.injEq, Prod.mk.injEq] at h
     obtain ⟨_, rfl⟩ := h
     exact (dNum_some hB hr).2.2.2.2.1
theorem goes_rep {β : Type} {d : List Int → Nat → Option (β × Nat)} {xs : List Int} (h : Goes d xs) (n : Nat) : ∀ a l z, a ≤ xs.length → dRep d xs n a = some (l, z) → z ≤ xs.length := by
 induction n with
 | zero =>
   intro a l z ha he
   simp only [dRep, Option.some.injEq, Prod.mk.injEq] at he
   omega
 | succ n ih =>
   intro a l z ha he
   rw [dRep] at he
   cases hr : d xs a with
   | none => rw [hr] at he; cases he
   | some p =>
     obtain ⟨x, b⟩ := p
     rw [hr] at he
     simp only at he
     cases hr2 : dRep d xs n b with
     | none => rw [hr2] at he; cases he
     | some p2 =>
       obtain ⟨l2, z2⟩ := p2
       rw [hr2] at he
       simp only [Option.some.injEq, Prod.mk.injEq] at he
       obtain ⟨_, rfl⟩ := he
       exact ih b l2 z2 (h a x b ha hr) hr2
theorem goes_lst {β : Type} {d : List Int → Nat → Option (β × Nat)} {xs : List Int} (hB : Bytes xs) (h : Goes d xs) : Goes (dLst d) xs := by
 intro a l z ha he
 unfold dLst at he
 cases hr : dNum xs a with
 | none => rw [hr] at he; cases he
 | some p =>
   obtain ⟨n, b⟩ := p
   rw [hr] at he
   exact goes_rep h _ b l z (goes_num hB a n b ha hr) he
def left_ {β : Type} (l : List β) : Option (List β × Nat) → Option (List β × Nat)
 | none => none
 | some (r, z) => some (l ++ r, z)
theorem left_bad {β : Type} {d : List Int → Nat → Option (β × Nat)} {xs : List Int} {l : List β} {n a : Nat} (h : d xs a = none) : left_ l (dRep d xs (n + 1) a) = none := by rw [dRep, h]; rfl
theorem left_step {β : Type} {d : List Int → Nat → Option (β × Nat)} {xs : List Int} {l : List β} {n a b : Nat} {x : β} (h : d xs a = some (x, b)) : left_ l (dRep d xs (n + 1) a) = left_ (l ++ [x]) (dRep d xs n b) := by
 rw [dRep, h]
 simp only
 cases dRep d xs n b with
 | none => rfl
 | some p => simp [left_]
theorem R_moved {α : Type} {d : Kd α} {e : Nat} {w w1 : World} {base g : Nat} {v : Value} {xs : List α} {t : Nat} {cs : Array Value} (h : d.R e w base (fun _ => True) v xs) (hb : w.heap[g]? = some (.cells cs t (0, 0))) (ht : ∀ q, q ∈ e :: d.E → q ≠ t) (hm : Moved w w1 (fun k => k = g)) : d.R e w1 base (fun _ => True) v xs :=
 Kd.R_mono (Kd.R_step (Kd.R_types h hb ht) (fun k hk hl => hm.block k hl hk.2)) (fun _ _ => trivial)
theorem M_moved {α : Type} {d : Kd α} {w w1 : World} {base g : Nat} {x : α} {cs : List Value} {t : Nat} {cells : Array Value} (h : d.M w base (fun _ => True) x cs) (hb : w.heap[g]? = some (.cells cells t (0, 0))) (ht : ∀ q, q ∈ d.E → q ≠ t) (hm : Moved w w1 (fun k => k = g)) : d.M w1 base (fun _ => True) x cs :=
 d.M_mono (fun _ _ => trivial) (Kd.M_step (Kd.M_types h hb ht) (fun k hk hl => hm.block k hl hk.2))
theorem grew {α : Type} {d : Kd α} {e g : Nat} {W w2 w3 : World} {ok : Nat → Prop} {v : Value} {l : List α} (h : Moved W w2 (fun k => k = g)) (ho : d.R e w2 W.heap.size ok v l) (hg : w2.grownBy w3 v.ownBlock) : Moved W w3 (fun k => k = g) := by
 obtain ⟨inner, hown⟩ := Kd.R_own ho
 exact h.trans (Moved.of_grown hg) (fun k hk hs => by have := own_base hown k hs; omega)
theorem eye_grown {α : Type} {d : Kd α} {e base g n c b : Nat} {A : Option Addr} {w2 w3 : World} {ok : Nat → Prop} {v : Value} {l : List α} (hE : Eye w2 g A n c b) (ho : d.R e w2 base ok v l) (hg : w2.grownBy w3 v.ownBlock) (ht : e ≠ 136) : Eye w3 g A n c b :=
 blk_grown hE hg (Kd.R_ne ho hE ht)
theorem M_apart {α β : Type} {d : Kd α} {d' : Kd β} {e : Nat} {w : World} {base base' : Nat} {ok : Nat → Prop} {x : α} {cs : List Value} {v : Value} {xs : List β} (h : d.M w base (fun _ => True) x cs) (ho : d'.R e w base' ok v xs) (ht : ∀ q, q ∈ d.E → q ≠ e) : d.M w base (fun k => some k ≠ v.ownBlock) x cs := by
 obtain ⟨inner, hown⟩ := Kd.R_own ho
 cases hv : v.ownBlock with
 | none => exact d.M_mono (fun k _ => by simp) h
 | some b =>
   obtain ⟨cells, hc⟩ := own_typed hown b hv
   exact d.M_mono (fun k hk => by simp only [Option.some.injEq, ne_eq]; exact hk.2) (Kd.M_types h hc ht)
theorem infoOp : (Tryz.prog.info? 78).map (fun i => (i.zero, i.size, i.bytes)) = some (some (.agg #[.int .i64 0, .string ⟨#[]⟩, .string ⟨#[]⟩, .int .i64 0, .int .i64 0]), 5, 56) := by kernel_rfl
def GetOp (K : FuncId) (d : List Int → Nat → Option (S78 × Nat)) (w0 : World) (A : Option Addr) (c : Nat) (xs : List Int) : Prop :=
 ∀ (W : World) (g a : Nat), a ≤ xs.length → Below w0.heap.size w0 W → w0.heap.size ≤ g → Eye W g A xs.length c a →
  Calls Tryz.prog K #[.pointer (some ⟨g, 0, none⟩)] W fun e W' => Got W W' g A xs.length c (d xs a) (fun v x => ∃ cs : List Value, v = .agg cs.toArray ∧ k78.M W' W.heap.size (fun _ => True) x cs) e
set_option maxRecDepth 100000 in
set_option maxHeartbeats 1000000 in
theorem getList_Op (K : FuncId) (hK : ∀ (args : Array Value) (w : World), (callFunc K args).run Tryz.prog w = .ok (.enter K args) w) (d : List Int → Nat → Option (S78 × Nat)) (w0 W : World) (g : Nat) (A : Option Addr) (c a : Nat) (xs : List Int) (hG : GetOp K d w0 A c xs) (hd : Goes d xs) (hD : Data w0 A c xs) (ha : a ≤ xs.length) (hb : Below w0.heap.size w0 W) (hg : w0.heap.size ≤ g) (hE : Eye W g A xs.length c a) :
   Calls Tryz.prog 122 #[.pointer (some ⟨g, 0, none⟩), .func (.func K) #[] #[]] W fun e W' => Got W W' g A xs.length c (dLst d xs a) (fun v l => k78.R 78 W' W.heap.size (fun _ => True) v l) e := by
 have HN := Aside0.mk (rnum w0 W g A c a xs hD ha hb hg hE)
 cases hr : dNum xs a with
 | none =>
   have HR := Aside0.mk (show dLst d xs a = none by unfold dLst; rw [hr])
   rw [hr] at HN
   clear hb hE hD hr hG hd
   go_enter Tryz.func122, Tryz.ntmps122
   go_wp2_with fail
   refine HN.out.mono ?_
   rintro e w1 ⟨hm, h1, _⟩
   obtain rfl := h1 rfl
   exact ⟨rfl, hm, (fun _ => rfl), fun x a' h => by rw [HR.out] at h; cases h⟩
 | some p =>
   obtain ⟨n, b⟩ := p
   rw [hr] at HN
   obtain ⟨_, hn0, hn1, _, hb1, _⟩ := dNum_some hD.bytes hr
   obtain ⟨m, rfl⟩ := Int.eq_ofNat_of_zero_le hn0
   have HR := Aside0.mk (show dLst d xs a = left_ [] (dRep d xs (m - 0) b) by unfold dLst; rw [hr]; simp only [Int.toNat_natCast, Nat.sub_zero]; cases dRep d xs m b <;> rfl)
   have HG := Aside0.mk hG
   have HGO := Aside0.mk hd
   have HB := Aside0.mk hb
   clear hb hE hD hr hG hd
   go_enter Tryz.func122, Tryz.ntmps122
   go_wp2_with fail
   refine HN.out.mono ?_
   rintro e w1 ⟨hm, _, h2⟩
   obtain ⟨v1, rfl, rfl, hE1⟩ := h2 _ _ rfl
   have HM1 := Aside0.mk hm
   have HE1 := Aside0.mk hE1
   clear hm h2 hE1
   go_wp2_with fail
   go_loopw [5, 8] (fun v5 v8 wr => ∃ (k a1 : Nat) (l : List S78), v8 = .int .i64 k ∧ k ≤ m ∧ l.length ≤ k ∧ a1 ≤ xs.length ∧ Aside0 (k78.R 78 wr W.heap.size (fun _ => True) v5 l) ∧ Aside0 (Eye wr g A xs.length c a1) ∧ Aside0 (Moved W wr (fun k => k = g)) ∧ Aside0 (dLst d xs a = left_ l (dRep d xs (m - k) a1))) (fun _ v8 _ => m - (intOf v8).toNat)
   case atStart => exact ⟨0, b, [], rfl, Nat.zero_le _, Nat.le_refl _, hb1, ⟨Kd.R_nil _ _ _ _ _⟩, HE1, HM1, HR⟩
   case round =>
    obtain ⟨k, a1, l, rfl, hk, hl, ha1, HO, HE2, HM2, HR2⟩ := hrel
    have HBR := Aside0.mk (HM2.out.above HB.out (fun k hk => by omega))
    by_cases hlt : k < m
    · cases hs : d xs a1 with
      | none =>
        have HR3 := Aside0.mk (HR2.out.trans (show left_ l (dRep d xs (m - k) a1) = none by rw [show m - k = (m - (k + 1)) + 1 by omega]; exact left_bad hs))
        have HQ := HG.out wr g a1 ha1 HBR.out hg HE2.out
        rw [hs] at HQ
        have HQ := Aside0.mk HQ
        clear hs
        go_wp2_with fail
        refine HQ.out.mono ?_
        rintro e w2 ⟨hm, h1, _⟩
        obtain rfl := h1 rfl
        exact ⟨rfl, HM2.out.trans hm (fun _ _ h => h), (fun _ => rfl), fun x a' h => by rw [HR3.out] at h; cases h⟩
      | some p =>
        obtain ⟨y, b2⟩ := p
        have HR3 := Aside0.mk (HR2.out.trans (show left_ l (dRep d xs (m - k) a1) = left_ (l ++ [y]) (dRep d xs (m - (k + 1)) b2) by rw [show m - k = (m - (k + 1)) + 1 by omega]; exact left_step hs))
        have hb2 := HGO.out a1 y b2 ha1 hs
        have HQ := HG.out wr g a1 ha1 HBR.out hg HE2.out
        rw [hs] at HQ
        have HQ := Aside0.mk HQ
        clear hs
        go_wp2_with fail
        refine HQ.out.mono ?_
        rintro e w2 ⟨hm, _, h2⟩
        obtain ⟨v2, rfl, ⟨cs, rfl, hM⟩, hE3⟩ := h2 _ _ rfl
        have hM2 := hM
        obtain rfl := k78_openM hM2
        have HMM := Aside0.mk (k78.M_lower HM2.out.size hM)
        clear hM
        have HO2 := Aside0.mk (R_moved HO.out HE2.out (by decide) hm)
        have HM3 := Aside0.mk (HM2.out.trans hm (fun _ _ h => h))
        have HE3 := Aside0.mk hE3
        clear hm h2 hE3
        go_wp2_with ((with_reducible refine gate_builtin (b := .append) (xs := #[.tmp 10, .tmp 14]) rfl ?_); at_builtin; refine Kd.R_append k78 (w0 := w2) W.heap.size rfl (.tmp 10) (.tmp 14) 25 78 _ 56 rfl Tryz.underlying25 infoOp rfl (by decide) (by omega) _ l y [.int .i64 y.f0, .string y.f1, .string y.f2, .int .i64 y.f3, .int .i64 y.f4] (fun _ => True) (fun k => some k ≠ u5.ownBlock) rfl rfl (M_apart HMM.out HO2.out (by decide)) (fun _ hk => ⟨trivial, hk⟩) (fun _ _ => trivial) HO2.out (Below.refl _ _) HM3.out.size (by omega) ?_; intro v3 w3 ho3 hb3 hg3 hat3; have HO3 := Aside0.mk ho3; have HM4 := Aside0.mk (grew HM3.out HO2.out hg3); have HE4 := Aside0.mk (eye_grown HE3.out HO2.out hg3 (by decide)); clear ho3 hb3 hg3 hat3)
        go_roundw
        case rel => exact ⟨k + 1, b2, l ++ [y], by go_num, by omega, by simp only [List.length_append, List.length_singleton]; omega, hb2, HO3, HE4, HM4, HR3⟩
        case measure => simp [intOf]; omega
    · have HR3 := Aside0.mk (HR2.out.trans (show left_ l (dRep d xs (m - k) a1) = some (l, a1) by rw [show m - k = 0 by omega]; simp [dRep, left_]))
      go_wp2_with fail
      go_ret
      refine ⟨HM2.out, (fun h => by rw [HR3.out] at h; cases h), fun x z h => ?_⟩
      rw [HR3.out] at h
      simp only [Option.some.injEq, Prod.mk.injEq] at h
      obtain ⟨rfl, rfl⟩ := h
      exact ⟨_, rfl, HO.out, HE2.out⟩
theorem infoWatch : (Tryz.prog.info? 96).map (fun i => (i.zero, i.size, i.bytes)) = some (some (.agg #[.int .i64 0, .string ⟨#[]⟩, .int .i64 0, .int .i64 0]), 4, 40) := by kernel_rfl
def GetWatch (K : FuncId) (d : List Int → Nat → Option (S96 × Nat)) (w0 : World) (A : Option Addr) (c : Nat) (xs : List Int) : Prop :=
 ∀ (W : World) (g a : Nat), a ≤ xs.length → Below w0.heap.size w0 W → w0.heap.size ≤ g → Eye W g A xs.length c a →
  Calls Tryz.prog K #[.pointer (some ⟨g, 0, none⟩)] W fun e W' => Got W W' g A xs.length c (d xs a) (fun v x => ∃ cs : List Value, v = .agg cs.toArray ∧ k96.M W' W.heap.size (fun _ => True) x cs) e
set_option maxRecDepth 100000 in
set_option maxHeartbeats 1000000 in
theorem getList_Watch (K : FuncId) (hK : ∀ (args : Array Value) (w : World), (callFunc K args).run Tryz.prog w = .ok (.enter K args) w) (d : List Int → Nat → Option (S96 × Nat)) (w0 W : World) (g : Nat) (A : Option Addr) (c a : Nat) (xs : List Int) (hG : GetWatch K d w0 A c xs) (hd : Goes d xs) (hD : Data w0 A c xs) (ha : a ≤ xs.length) (hb : Below w0.heap.size w0 W) (hg : w0.heap.size ≤ g) (hE : Eye W g A xs.length c a) :
   Calls Tryz.prog 231 #[.pointer (some ⟨g, 0, none⟩), .func (.func K) #[] #[]] W fun e W' => Got W W' g A xs.length c (dLst d xs a) (fun v l => k96.R 96 W' W.heap.size (fun _ => True) v l) e := by
 have HN := Aside0.mk (rnum w0 W g A c a xs hD ha hb hg hE)
 cases hr : dNum xs a with
 | none =>
   have HR := Aside0.mk (show dLst d xs a = none by unfold dLst; rw [hr])
   rw [hr] at HN
   clear hb hE hD hr hG hd
   go_enter Tryz.func231, Tryz.ntmps231
   go_wp2_with fail
   refine HN.out.mono ?_
   rintro e w1 ⟨hm, h1, _⟩
   obtain rfl := h1 rfl
   exact ⟨rfl, hm, (fun _ => rfl), fun x a' h => by rw [HR.out] at h; cases h⟩
 | some p =>
   obtain ⟨n, b⟩ := p
   rw [hr] at HN
   obtain ⟨_, hn0, hn1, _, hb1, _⟩ := dNum_some hD.bytes hr
   obtain ⟨m, rfl⟩ := Int.eq_ofNat_of_zero_le hn0
   have HR := Aside0.mk (show dLst d xs a = left_ [] (dRep d xs (m - 0) b) by unfold dLst; rw [hr]; simp only [Int.toNat_natCast, Nat.sub_zero]; cases dRep d xs m b <;> rfl)
   have HG := Aside0.mk hG
   have HGO := Aside0.mk hd
   have HB := Aside0.mk hb
   clear hb hE hD hr hG hd
   go_enter Tryz.func231, Tryz.ntmps231
   go_wp2_with fail
   refine HN.out.mono ?_
   rintro e w1 ⟨hm, _, h2⟩
   obtain ⟨v1, rfl, rfl, hE1⟩ := h2 _ _ rfl
   have HM1 := Aside0.mk hm
   have HE1 := Aside0.mk hE1
   clear hm h2 hE1
   go_wp2_with fail
   go_loopw [5, 8] (fun v5 v8 wr => ∃ (k a1 : Nat) (l : List S96), v8 = .int .i64 k ∧ k ≤ m ∧ l.length ≤ k ∧ a1 ≤ xs.length ∧ Aside0 (k96.R 96 wr W.heap.size (fun _ => True) v5 l) ∧ Aside0 (Eye wr g A xs.length c a1) ∧ Aside0 (Moved W wr (fun k => k = g)) ∧ Aside0 (dLst d xs a = left_ l (dRep d xs (m - k) a1))) (fun _ v8 _ => m - (intOf v8).toNat)
   case atStart => exact ⟨0, b, [], rfl, Nat.zero_le _, Nat.le_refl _, hb1, ⟨Kd.R_nil _ _ _ _ _⟩, HE1, HM1, HR⟩
   case round =>
    obtain ⟨k, a1, l, rfl, hk, hl, ha1, HO, HE2, HM2, HR2⟩ := hrel
    have HBR := Aside0.mk (HM2.out.above HB.out (fun k hk => by omega))
    by_cases hlt : k < m
    · cases hs : d xs a1 with
      | none =>
        have HR3 := Aside0.mk (HR2.out.trans (show left_ l (dRep d xs (m - k) a1) = none by rw [show m - k = (m - (k + 1)) + 1 by omega]; exact left_bad hs))
        have HQ := HG.out wr g a1 ha1 HBR.out hg HE2.out
        rw [hs] at HQ
        have HQ := Aside0.mk HQ
        clear hs
        go_wp2_with fail
        refine HQ.out.mono ?_
        rintro e w2 ⟨hm, h1, _⟩
        obtain rfl := h1 rfl
        exact ⟨rfl, HM2.out.trans hm (fun _ _ h => h), (fun _ => rfl), fun x a' h => by rw [HR3.out] at h; cases h⟩
      | some p =>
        obtain ⟨y, b2⟩ := p
        have HR3 := Aside0.mk (HR2.out.trans (show left_ l (dRep d xs (m - k) a1) = left_ (l ++ [y]) (dRep d xs (m - (k + 1)) b2) by rw [show m - k = (m - (k + 1)) + 1 by omega]; exact left_step hs))
        have hb2 := HGO.out a1 y b2 ha1 hs
        have HQ := HG.out wr g a1 ha1 HBR.out hg HE2.out
        rw [hs] at HQ
        have HQ := Aside0.mk HQ
        clear hs
        go_wp2_with fail
        refine HQ.out.mono ?_
        rintro e w2 ⟨hm, _, h2⟩
        obtain ⟨v2, rfl, ⟨cs, rfl, hM⟩, hE3⟩ := h2 _ _ rfl
        have hM2 := hM
        obtain rfl := k96_openM hM2
        have HMM := Aside0.mk (k96.M_lower HM2.out.size hM)
        clear hM
        have HO2 := Aside0.mk (R_moved HO.out HE2.out (by decide) hm)
        have HM3 := Aside0.mk (HM2.out.trans hm (fun _ _ h => h))
        have HE3 := Aside0.mk hE3
        clear hm h2 hE3
        go_wp2_with ((with_reducible refine gate_builtin (b := .append) (xs := #[.tmp 10, .tmp 14]) rfl ?_); at_builtin; refine Kd.R_append k96 (w0 := w2) W.heap.size rfl (.tmp 10) (.tmp 14) 30 96 _ 40 rfl Tryz.underlying30 infoWatch rfl (by decide) (by omega) _ l y [.int .i64 y.f0, .string y.f1, .int .i64 y.f2, .int .i64 y.f3] (fun _ => True) (fun k => some k ≠ u5.ownBlock) rfl rfl (M_apart HMM.out HO2.out (by decide)) (fun _ hk => ⟨trivial, hk⟩) (fun _ _ => trivial) HO2.out (Below.refl _ _) HM3.out.size (by omega) ?_; intro v3 w3 ho3 hb3 hg3 hat3; have HO3 := Aside0.mk ho3; have HM4 := Aside0.mk (grew HM3.out HO2.out hg3); have HE4 := Aside0.mk (eye_grown HE3.out HO2.out hg3 (by decide)); clear ho3 hb3 hg3 hat3)
        go_roundw
        case rel => exact ⟨k + 1, b2, l ++ [y], by go_num, by omega, by simp only [List.length_append, List.length_singleton]; omega, hb2, HO3, HE4, HM4, HR3⟩
        case measure => simp [intOf]; omega
    · have HR3 := Aside0.mk (HR2.out.trans (show left_ l (dRep d xs (m - k) a1) = some (l, a1) by rw [show m - k = 0 by omega]; simp [dRep, left_]))
      go_wp2_with fail
      go_ret
      refine ⟨HM2.out, (fun h => by rw [HR3.out] at h; cases h), fun x z h => ?_⟩
      rw [HR3.out] at h
      simp only [Option.some.injEq, Prod.mk.injEq] at h
      obtain ⟨rfl, rfl⟩ := h
      exact ⟨_, rfl, HO.out, HE2.out⟩
theorem infoSeen : (Tryz.prog.info? 88).map (fun i => (i.zero, i.size, i.bytes)) = some (some (.agg #[.string ⟨#[]⟩, .string ⟨#[]⟩, .int .i64 0]), 3, 40) := by kernel_rfl
def GetSeen (K : FuncId) (d : List Int → Nat → Option (S88 × Nat)) (w0 : World) (A : Option Addr) (c : Nat) (xs : List Int) : Prop :=
 ∀ (W : World) (g a : Nat), a ≤ xs.length → Below w0.heap.size w0 W → w0.heap.size ≤ g → Eye W g A xs.length c a →
  Calls Tryz.prog K #[.pointer (some ⟨g, 0, none⟩)] W fun e W' => Got W W' g A xs.length c (d xs a) (fun v x => ∃ cs : List Value, v = .agg cs.toArray ∧ k88.M W' W.heap.size (fun _ => True) x cs) e
set_option maxRecDepth 100000 in
set_option maxHeartbeats 1000000 in
theorem getList_Seen (K : FuncId) (hK : ∀ (args : Array Value) (w : World), (callFunc K args).run Tryz.prog w = .ok (.enter K args) w) (d : List Int → Nat → Option (S88 × Nat)) (w0 W : World) (g : Nat) (A : Option Addr) (c a : Nat) (xs : List Int) (hG : GetSeen K d w0 A c xs) (hd : Goes d xs) (hD : Data w0 A c xs) (ha : a ≤ xs.length) (hb : Below w0.heap.size w0 W) (hg : w0.heap.size ≤ g) (hE : Eye W g A xs.length c a) :
   Calls Tryz.prog 259 #[.pointer (some ⟨g, 0, none⟩), .func (.func K) #[] #[]] W fun e W' => Got W W' g A xs.length c (dLst d xs a) (fun v l => k88.R 88 W' W.heap.size (fun _ => True) v l) e := by
 have HN := Aside0.mk (rnum w0 W g A c a xs hD ha hb hg hE)
 cases hr : dNum xs a with
 | none =>
   have HR := Aside0.mk (show dLst d xs a = none by unfold dLst; rw [hr])
   rw [hr] at HN
   clear hb hE hD hr hG hd
   go_enter Tryz.func259, Tryz.ntmps259
   go_wp2_with fail
   refine HN.out.mono ?_
   rintro e w1 ⟨hm, h1, _⟩
   obtain rfl := h1 rfl
   exact ⟨rfl, hm, (fun _ => rfl), fun x a' h => by rw [HR.out] at h; cases h⟩
 | some p =>
   obtain ⟨n, b⟩ := p
   rw [hr] at HN
   obtain ⟨_, hn0, hn1, _, hb1, _⟩ := dNum_some hD.bytes hr
   obtain ⟨m, rfl⟩ := Int.eq_ofNat_of_zero_le hn0
   have HR := Aside0.mk (show dLst d xs a = left_ [] (dRep d xs (m - 0) b) by unfold dLst; rw [hr]; simp only [Int.toNat_natCast, Nat.sub_zero]; cases dRep d xs m b <;> rfl)
   have HG := Aside0.mk hG
   have HGO := Aside0.mk hd
   have HB := Aside0.mk hb
   clear hb hE hD hr hG hd
   go_enter Tryz.func259, Tryz.ntmps259
   go_wp2_with fail
   refine HN.out.mono ?_
   rintro e w1 ⟨hm, _, h2⟩
   obtain ⟨v1, rfl, rfl, hE1⟩ := h2 _ _ rfl
   have HM1 := Aside0.mk hm
   have HE1 := Aside0.mk hE1
   clear hm h2 hE1
   go_wp2_with fail
   go_loopw [5, 8] (fun v5 v8 wr => ∃ (k a1 : Nat) (l : List S88), v8 = .int .i64 k ∧ k ≤ m ∧ l.length ≤ k ∧ a1 ≤ xs.length ∧ Aside0 (k88.R 88 wr W.heap.size (fun _ => True) v5 l) ∧ Aside0 (Eye wr g A xs.length c a1) ∧ Aside0 (Moved W wr (fun k => k = g)) ∧ Aside0 (dLst d xs a = left_ l (dRep d xs (m - k) a1))) (fun _ v8 _ => m - (intOf v8).toNat)
   case atStart => exact ⟨0, b, [], rfl, Nat.zero_le _, Nat.le_refl _, hb1, ⟨Kd.R_nil _ _ _ _ _⟩, HE1, HM1, HR⟩
   case round =>
    obtain ⟨k, a1, l, rfl, hk, hl, ha1, HO, HE2, HM2, HR2⟩ := hrel
    have HBR := Aside0.mk (HM2.out.above HB.out (fun k hk => by omega))
    by_cases hlt : k < m
    · cases hs : d xs a1 with
      | none =>
        have HR3 := Aside0.mk (HR2.out.trans (show left_ l (dRep d xs (m - k) a1) = none by rw [show m - k = (m - (k + 1)) + 1 by omega]; exact left_bad hs))
        have HQ := HG.out wr g a1 ha1 HBR.out hg HE2.out
        rw [hs] at HQ
        have HQ := Aside0.mk HQ
        clear hs
        go_wp2_with fail
        refine HQ.out.mono ?_
        rintro e w2 ⟨hm, h1, _⟩
        obtain rfl := h1 rfl
        exact ⟨rfl, HM2.out.trans hm (fun _ _ h => h), (fun _ => rfl), fun x a' h => by rw [HR3.out] at h; cases h⟩
      | some p =>
        obtain ⟨y, b2⟩ := p
        have HR3 := Aside0.mk (HR2.out.trans (show left_ l (dRep d xs (m - k) a1) = left_ (l ++ [y]) (dRep d xs (m - (k + 1)) b2) by rw [show m - k = (m - (k + 1)) + 1 by omega]; exact left_step hs))
        have hb2 := HGO.out a1 y b2 ha1 hs
        have HQ := HG.out wr g a1 ha1 HBR.out hg HE2.out
        rw [hs] at HQ
        have HQ := Aside0.mk HQ
        clear hs
        go_wp2_with fail
        refine HQ.out.mono ?_
        rintro e w2 ⟨hm, _, h2⟩
        obtain ⟨v2, rfl, ⟨cs, rfl, hM⟩, hE3⟩ := h2 _ _ rfl
        have hM2 := hM
        obtain rfl := k88_openM hM2
        have HMM := Aside0.mk (k88.M_lower HM2.out.size hM)
        clear hM
        have HO2 := Aside0.mk (R_moved HO.out HE2.out (by decide) hm)
        have HM3 := Aside0.mk (HM2.out.trans hm (fun _ _ h => h))
        have HE3 := Aside0.mk hE3
        clear hm h2 hE3
        go_wp2_with ((with_reducible refine gate_builtin (b := .append) (xs := #[.tmp 10, .tmp 14]) rfl ?_); at_builtin; refine Kd.R_append k88 (w0 := w2) W.heap.size rfl (.tmp 10) (.tmp 14) 82 88 _ 40 rfl Tryz.underlying82 infoSeen rfl (by decide) (by omega) _ l y [.string y.f0, .string y.f1, .int .i64 y.f2] (fun _ => True) (fun k => some k ≠ u5.ownBlock) rfl rfl (M_apart HMM.out HO2.out (by decide)) (fun _ hk => ⟨trivial, hk⟩) (fun _ _ => trivial) HO2.out (Below.refl _ _) HM3.out.size (by omega) ?_; intro v3 w3 ho3 hb3 hg3 hat3; have HO3 := Aside0.mk ho3; have HM4 := Aside0.mk (grew HM3.out HO2.out hg3); have HE4 := Aside0.mk (eye_grown HE3.out HO2.out hg3 (by decide)); clear ho3 hb3 hg3 hat3)
        go_roundw
        case rel => exact ⟨k + 1, b2, l ++ [y], by go_num, by omega, by simp only [List.length_append, List.length_singleton]; omega, hb2, HO3, HE4, HM4, HR3⟩
        case measure => simp [intOf]; omega
    · have HR3 := Aside0.mk (HR2.out.trans (show left_ l (dRep d xs (m - k) a1) = some (l, a1) by rw [show m - k = 0 by omega]; simp [dRep, left_]))
      go_wp2_with fail
      go_ret
      refine ⟨HM2.out, (fun h => by rw [HR3.out] at h; cases h), fun x z h => ?_⟩
      rw [HR3.out] at h
      simp only [Option.some.injEq, Prod.mk.injEq] at h
      obtain ⟨rfl, rfl⟩ := h
      exact ⟨_, rfl, HO.out, HE2.out⟩
theorem infoEntry : (Tryz.prog.info? 55).map (fun i => (i.zero, i.size, i.bytes)) = some (some (.agg #[.int .i64 0, .int .i64 0, .int .i64 0, .int .i64 0, .int .i64 0, .slice none 0 0]), 6, 64) := by kernel_rfl
def GetEntry (K : FuncId) (d : List Int → Nat → Option (S55 × Nat)) (w0 : World) (A : Option Addr) (c : Nat) (xs : List Int) : Prop :=
 ∀ (W : World) (g a : Nat), a ≤ xs.length → Below w0.heap.size w0 W → w0.heap.size ≤ g → Eye W g A xs.length c a →
  Calls Tryz.prog K #[.pointer (some ⟨g, 0, none⟩)] W fun e W' => Got W W' g A xs.length c (d xs a) (fun v x => ∃ cs : List Value, v = .agg cs.toArray ∧ k55.M W' W.heap.size (fun _ => True) x cs) e
set_option maxRecDepth 100000 in
set_option maxHeartbeats 1000000 in
theorem getList_Entry (K : FuncId) (hK : ∀ (args : Array Value) (w : World), (callFunc K args).run Tryz.prog w = .ok (.enter K args) w) (d : List Int → Nat → Option (S55 × Nat)) (w0 W : World) (g : Nat) (A : Option Addr) (c a : Nat) (xs : List Int) (hG : GetEntry K d w0 A c xs) (hd : Goes d xs) (hD : Data w0 A c xs) (ha : a ≤ xs.length) (hb : Below w0.heap.size w0 W) (hg : w0.heap.size ≤ g) (hE : Eye W g A xs.length c a) :
   Calls Tryz.prog 198 #[.pointer (some ⟨g, 0, none⟩), .func (.func K) #[] #[]] W fun e W' => Got W W' g A xs.length c (dLst d xs a) (fun v l => k55.R 55 W' W.heap.size (fun _ => True) v l) e := by
 have HN := Aside0.mk (rnum w0 W g A c a xs hD ha hb hg hE)
 cases hr : dNum xs a with
 | none =>
   have HR := Aside0.mk (show dLst d xs a = none by unfold dLst; rw [hr])
   rw [hr] at HN
   clear hb hE hD hr hG hd
   go_enter Tryz.func198, Tryz.ntmps198
   go_wp2_with fail
   refine HN.out.mono ?_
   rintro e w1 ⟨hm, h1, _⟩
   obtain rfl := h1 rfl
   exact ⟨rfl, hm, (fun _ => rfl), fun x a' h => by rw [HR.out] at h; cases h⟩
 | some p =>
   obtain ⟨n, b⟩ := p
   rw [hr] at HN
   obtain ⟨_, hn0, hn1, _, hb1, _⟩ := dNum_some hD.bytes hr
   obtain ⟨m, rfl⟩ := Int.eq_ofNat_of_zero_le hn0
   have HR := Aside0.mk (show dLst d xs a = left_ [] (dRep d xs (m - 0) b) by unfold dLst; rw [hr]; simp only [Int.toNat_natCast, Nat.sub_zero]; cases dRep d xs m b <;> rfl)
   have HG := Aside0.mk hG
   have HGO := Aside0.mk hd
   have HB := Aside0.mk hb
   clear hb hE hD hr hG hd
   go_enter Tryz.func198, Tryz.ntmps198
   go_wp2_with fail
   refine HN.out.mono ?_
   rintro e w1 ⟨hm, _, h2⟩
   obtain ⟨v1, rfl, rfl, hE1⟩ := h2 _ _ rfl
   have HM1 := Aside0.mk hm
   have HE1 := Aside0.mk hE1
   clear hm h2 hE1
   go_wp2_with fail
   go_loopw [5, 8] (fun v5 v8 wr => ∃ (k a1 : Nat) (l : List S55), v8 = .int .i64 k ∧ k ≤ m ∧ l.length ≤ k ∧ a1 ≤ xs.length ∧ Aside0 (k55.R 55 wr W.heap.size (fun _ => True) v5 l) ∧ Aside0 (Eye wr g A xs.length c a1) ∧ Aside0 (Moved W wr (fun k => k = g)) ∧ Aside0 (dLst d xs a = left_ l (dRep d xs (m - k) a1))) (fun _ v8 _ => m - (intOf v8).toNat)
   case atStart => exact ⟨0, b, [], rfl, Nat.zero_le _, Nat.le_refl _, hb1, ⟨Kd.R_nil _ _ _ _ _⟩, HE1, HM1, HR⟩
   case round =>
    obtain ⟨k, a1, l, rfl, hk, hl, ha1, HO, HE2, HM2, HR2⟩ := hrel
    have HBR := Aside0.mk (HM2.out.above HB.out (fun k hk => by omega))
    by_cases hlt : k < m
    · cases hs : d xs a1 with
      | none =>
        have HR3 := Aside0.mk (HR2.out.trans (show left_ l (dRep d xs (m - k) a1) = none by rw [show m - k = (m - (k + 1)) + 1 by omega]; exact left_bad hs))
        have HQ := HG.out wr g a1 ha1 HBR.out hg HE2.out
        rw [hs] at HQ
        have HQ := Aside0.mk HQ
        clear hs
        go_wp2_with fail
        refine HQ.out.mono ?_
        rintro e w2 ⟨hm, h1, _⟩
        obtain rfl := h1 rfl
        exact ⟨rfl, HM2.out.trans hm (fun _ _ h => h), (fun _ => rfl), fun x a' h => by rw [HR3.out] at h; cases h⟩
      | some p =>
        obtain ⟨y, b2⟩ := p
        have HR3 := Aside0.mk (HR2.out.trans (show left_ l (dRep d xs (m - k) a1) = left_ (l ++ [y]) (dRep d xs (m - (k + 1)) b2) by rw [show m - k = (m - (k + 1)) + 1 by omega]; exact left_step hs))
        have hb2 := HGO.out a1 y b2 ha1 hs
        have HQ := HG.out wr g a1 ha1 HBR.out hg HE2.out
        rw [hs] at HQ
        have HQ := Aside0.mk HQ
        clear hs
        go_wp2_with fail
        refine HQ.out.mono ?_
        rintro e w2 ⟨hm, _, h2⟩
        obtain ⟨v2, rfl, ⟨cs, rfl, hM⟩, hE3⟩ := h2 _ _ rfl
        have hM2 := hM
        obtain ⟨q5, rfl, gq5⟩ := k55_openM hM2
        have HMM := Aside0.mk (k55.M_lower HM2.out.size hM)
        obtain ⟨Aq5, cq5, rfl, _, _⟩ := Kd.R_reads gq5
        clear gq5
        clear hM
        have HO2 := Aside0.mk (R_moved HO.out HE2.out (by decide) hm)
        have HM3 := Aside0.mk (HM2.out.trans hm (fun _ _ h => h))
        have HE3 := Aside0.mk hE3
        clear hm h2 hE3
        go_wp2_with ((with_reducible refine gate_builtin (b := .append) (xs := #[.tmp 10, .tmp 14]) rfl ?_); at_builtin; refine Kd.R_append k55 (w0 := w2) W.heap.size rfl (.tmp 10) (.tmp 14) 26 55 _ 64 rfl Tryz.underlying26 infoEntry rfl (by decide) (by omega) _ l y [.int .i64 y.f0, .int .i64 y.f1, .int .i64 y.f2, .int .i64 y.f3, .int .i64 y.f4, .slice Aq5 y.f5.length cq5] (fun _ => True) (fun k => some k ≠ u5.ownBlock) rfl rfl (M_apart HMM.out HO2.out (by decide)) (fun _ hk => ⟨trivial, hk⟩) (fun _ _ => trivial) HO2.out (Below.refl _ _) HM3.out.size (by omega) ?_; intro v3 w3 ho3 hb3 hg3 hat3; have HO3 := Aside0.mk ho3; have HM4 := Aside0.mk (grew HM3.out HO2.out hg3); have HE4 := Aside0.mk (eye_grown HE3.out HO2.out hg3 (by decide)); clear ho3 hb3 hg3 hat3)
        go_roundw
        case rel => exact ⟨k + 1, b2, l ++ [y], by go_num, by omega, by simp only [List.length_append, List.length_singleton]; omega, hb2, HO3, HE4, HM4, HR3⟩
        case measure => simp [intOf]; omega
    · have HR3 := Aside0.mk (HR2.out.trans (show left_ l (dRep d xs (m - k) a1) = some (l, a1) by rw [show m - k = 0 by omega]; simp [dRep, left_]))
      go_wp2_with fail
      go_ret
      refine ⟨HM2.out, (fun h => by rw [HR3.out] at h; cases h), fun x z h => ?_⟩
      rw [HR3.out] at h
      simp only [Option.some.injEq, Prod.mk.injEq] at h
      obtain ⟨rfl, rfl⟩ := h
      exact ⟨_, rfl, HO.out, HE2.out⟩
theorem infoS : (Tryz.prog.info? 9).map (fun i => (i.zero, i.size, i.bytes)) = some (some (.string ⟨#[]⟩), 1, 16) := by kernel_rfl
def Getstring (K : FuncId) (d : List Int → Nat → Option (ByteArray × Nat)) (w0 : World) (A : Option Addr) (c : Nat) (xs : List Int) : Prop :=
 ∀ (W : World) (g a : Nat), a ≤ xs.length → Below w0.heap.size w0 W → w0.heap.size ≤ g → Eye W g A xs.length c a →
  Calls Tryz.prog K #[.pointer (some ⟨g, 0, none⟩)] W fun e W' => Got W W' g A xs.length c (d xs a) (fun v x => v = .string x) e
set_option maxRecDepth 100000 in
set_option maxHeartbeats 1000000 in
theorem getList_string (K : FuncId) (hK : ∀ (args : Array Value) (w : World), (callFunc K args).run Tryz.prog w = .ok (.enter K args) w) (d : List Int → Nat → Option (ByteArray × Nat)) (w0 W : World) (g : Nat) (A : Option Addr) (c a : Nat) (xs : List Int) (hG : Getstring K d w0 A c xs) (hd : Goes d xs) (hD : Data w0 A c xs) (ha : a ≤ xs.length) (hb : Below w0.heap.size w0 W) (hg : w0.heap.size ≤ g) (hE : Eye W g A xs.length c a) :
   Calls Tryz.prog 269 #[.pointer (some ⟨g, 0, none⟩), .func (.func K) #[] #[]] W fun e W' => Got W W' g A xs.length c (dLst d xs a) (fun v l => Kd.string.R 9 W' W.heap.size (fun _ => True) v l) e := by
 have HN := Aside0.mk (rnum w0 W g A c a xs hD ha hb hg hE)
 cases hr : dNum xs a with
 | none =>
   have HR := Aside0.mk (show dLst d xs a = none by unfold dLst; rw [hr])
   rw [hr] at HN
   clear hb hE hD hr hG hd
   go_enter Tryz.func269, Tryz.ntmps269
   go_wp2_with fail
   refine HN.out.mono ?_
   rintro e w1 ⟨hm, h1, _⟩
   obtain rfl := h1 rfl
   exact ⟨rfl, hm, (fun _ => rfl), fun x a' h => by rw [HR.out] at h; cases h⟩
 | some p =>
   obtain ⟨n, b⟩ := p
   rw [hr] at HN
   obtain ⟨_, hn0, hn1, _, hb1, _⟩ := dNum_some hD.bytes hr
   obtain ⟨m, rfl⟩ := Int.eq_ofNat_of_zero_le hn0
   have HR := Aside0.mk (show dLst d xs a = left_ [] (dRep d xs (m - 0) b) by unfold dLst; rw [hr]; simp only [Int.toNat_natCast, Nat.sub_zero]; cases dRep d xs m b <;> rfl)
   have HG := Aside0.mk hG
   have HGO := Aside0.mk hd
   have HB := Aside0.mk hb
   clear hb hE hD hr hG hd
   go_enter Tryz.func269, Tryz.ntmps269
   go_wp2_with fail
   refine HN.out.mono ?_
   rintro e w1 ⟨hm, _, h2⟩
   obtain ⟨v1, rfl, rfl, hE1⟩ := h2 _ _ rfl
   have HM1 := Aside0.mk hm
   have HE1 := Aside0.mk hE1
   clear hm h2 hE1
   go_wp2_with fail
   go_loopw [5, 8] (fun v5 v8 wr => ∃ (k a1 : Nat) (l : List ByteArray), v8 = .int .i64 k ∧ k ≤ m ∧ l.length ≤ k ∧ a1 ≤ xs.length ∧ Aside0 (Kd.string.R 9 wr W.heap.size (fun _ => True) v5 l) ∧ Aside0 (Eye wr g A xs.length c a1) ∧ Aside0 (Moved W wr (fun k => k = g)) ∧ Aside0 (dLst d xs a = left_ l (dRep d xs (m - k) a1))) (fun _ v8 _ => m - (intOf v8).toNat)
   case atStart => exact ⟨0, b, [], rfl, Nat.zero_le _, Nat.le_refl _, hb1, ⟨Kd.R_nil _ _ _ _ _⟩, HE1, HM1, HR⟩
   case round =>
    obtain ⟨k, a1, l, rfl, hk, hl, ha1, HO, HE2, HM2, HR2⟩ := hrel
    have HBR := Aside0.mk (HM2.out.above HB.out (fun k hk => by omega))
    by_cases hlt : k < m
    · cases hs : d xs a1 with
      | none =>
        have HR3 := Aside0.mk (HR2.out.trans (show left_ l (dRep d xs (m - k) a1) = none by rw [show m - k = (m - (k + 1)) + 1 by omega]; exact left_bad hs))
        have HQ := HG.out wr g a1 ha1 HBR.out hg HE2.out
        rw [hs] at HQ
        have HQ := Aside0.mk HQ
        clear hs
        go_wp2_with fail
        refine HQ.out.mono ?_
        rintro e w2 ⟨hm, h1, _⟩
        obtain rfl := h1 rfl
        exact ⟨rfl, HM2.out.trans hm (fun _ _ h => h), (fun _ => rfl), fun x a' h => by rw [HR3.out] at h; cases h⟩
      | some p =>
        obtain ⟨y, b2⟩ := p
        have HR3 := Aside0.mk (HR2.out.trans (show left_ l (dRep d xs (m - k) a1) = left_ (l ++ [y]) (dRep d xs (m - (k + 1)) b2) by rw [show m - k = (m - (k + 1)) + 1 by omega]; exact left_step hs))
        have hb2 := HGO.out a1 y b2 ha1 hs
        have HQ := HG.out wr g a1 ha1 HBR.out hg HE2.out
        rw [hs] at HQ
        have HQ := Aside0.mk HQ
        clear hs
        go_wp2_with fail
        refine HQ.out.mono ?_
        rintro e w2 ⟨hm, _, h2⟩
        obtain ⟨v2, rfl, rfl, hE3⟩ := h2 _ _ rfl
        have HMM : Aside0 (Kd.string.M w2 W.heap.size (fun _ => True) y [.string y]) := ⟨rfl⟩
        have HO2 := Aside0.mk (R_moved HO.out HE2.out (by decide) hm)
        have HM3 := Aside0.mk (HM2.out.trans hm (fun _ _ h => h))
        have HE3 := Aside0.mk hE3
        clear hm h2 hE3
        go_wp2_with ((with_reducible refine gate_builtin (b := .append) (xs := #[.tmp 10, .tmp 14]) rfl ?_); at_builtin; refine Kd.R_append Kd.string (w0 := w2) W.heap.size rfl (.tmp 10) (.tmp 14) 79 9 _ 16 rfl Tryz.underlying79 infoS rfl (by decide) (by omega) _ l y [.string y] (fun _ => True) (fun k => some k ≠ u5.ownBlock) rfl rfl (M_apart HMM.out HO2.out (by decide)) (fun _ hk => ⟨trivial, hk⟩) (fun _ _ => trivial) HO2.out (Below.refl _ _) HM3.out.size (by omega) ?_; intro v3 w3 ho3 hb3 hg3 hat3; have HO3 := Aside0.mk ho3; have HM4 := Aside0.mk (grew HM3.out HO2.out hg3); have HE4 := Aside0.mk (eye_grown HE3.out HO2.out hg3 (by decide)); clear ho3 hb3 hg3 hat3)
        go_roundw
        case rel => exact ⟨k + 1, b2, l ++ [y], by go_num, by omega, by simp only [List.length_append, List.length_singleton]; omega, hb2, HO3, HE4, HM4, HR3⟩
        case measure => simp [intOf]; omega
    · have HR3 := Aside0.mk (HR2.out.trans (show left_ l (dRep d xs (m - k) a1) = some (l, a1) by rw [show m - k = 0 by omega]; simp [dRep, left_]))
      go_wp2_with fail
      go_ret
      refine ⟨HM2.out, (fun h => by rw [HR3.out] at h; cases h), fun x z h => ?_⟩
      rw [HR3.out] at h
      simp only [Option.some.injEq, Prod.mk.injEq] at h
      obtain ⟨rfl, rfl⟩ := h
      exact ⟨_, rfl, HO.out, HE2.out⟩
theorem infoI : (Tryz.prog.info? 3).map (fun i => (i.zero, i.size, i.bytes)) = some (some (.int .i64 0), 1, 8) := by kernel_rfl
def Getint (K : FuncId) (d : List Int → Nat → Option (Int × Nat)) (w0 : World) (A : Option Addr) (c : Nat) (xs : List Int) : Prop :=
 ∀ (W : World) (g a : Nat), a ≤ xs.length → Below w0.heap.size w0 W → w0.heap.size ≤ g → Eye W g A xs.length c a →
  Calls Tryz.prog K #[.pointer (some ⟨g, 0, none⟩)] W fun e W' => Got W W' g A xs.length c (d xs a) (fun v x => v = .int .i64 x) e
set_option maxRecDepth 100000 in
set_option maxHeartbeats 1000000 in
theorem getList_int (K : FuncId) (hK : ∀ (args : Array Value) (w : World), (callFunc K args).run Tryz.prog w = .ok (.enter K args) w) (d : List Int → Nat → Option (Int × Nat)) (w0 W : World) (g : Nat) (A : Option Addr) (c a : Nat) (xs : List Int) (hG : Getint K d w0 A c xs) (hd : Goes d xs) (hD : Data w0 A c xs) (ha : a ≤ xs.length) (hb : Below w0.heap.size w0 W) (hg : w0.heap.size ≤ g) (hE : Eye W g A xs.length c a) :
   Calls Tryz.prog 278 #[.pointer (some ⟨g, 0, none⟩), .func (.func K) #[] #[]] W fun e W' => Got W W' g A xs.length c (dLst d xs a) (fun v l => (Kd.int .i64).R 3 W' W.heap.size (fun _ => True) v l) e := by
 have HN := Aside0.mk (rnum w0 W g A c a xs hD ha hb hg hE)
 cases hr : dNum xs a with
 | none =>
   have HR := Aside0.mk (show dLst d xs a = none by unfold dLst; rw [hr])
   rw [hr] at HN
   clear hb hE hD hr hG hd
   go_enter Tryz.func278, Tryz.ntmps278
   go_wp2_with fail
   refine HN.out.mono ?_
   rintro e w1 ⟨hm, h1, _⟩
   obtain rfl := h1 rfl
   exact ⟨rfl, hm, (fun _ => rfl), fun x a' h => by rw [HR.out] at h; cases h⟩
 | some p =>
   obtain ⟨n, b⟩ := p
   rw [hr] at HN
   obtain ⟨_, hn0, hn1, _, hb1, _⟩ := dNum_some hD.bytes hr
   obtain ⟨m, rfl⟩ := Int.eq_ofNat_of_zero_le hn0
   have HR := Aside0.mk (show dLst d xs a = left_ [] (dRep d xs (m - 0) b) by unfold dLst; rw [hr]; simp only [Int.toNat_natCast, Nat.sub_zero]; cases dRep d xs m b <;> rfl)
   have HG := Aside0.mk hG
   have HGO := Aside0.mk hd
   have HB := Aside0.mk hb
   clear hb hE hD hr hG hd
   go_enter Tryz.func278, Tryz.ntmps278
   go_wp2_with fail
   refine HN.out.mono ?_
   rintro e w1 ⟨hm, _, h2⟩
   obtain ⟨v1, rfl, rfl, hE1⟩ := h2 _ _ rfl
   have HM1 := Aside0.mk hm
   have HE1 := Aside0.mk hE1
   clear hm h2 hE1
   go_wp2_with fail
   go_loopw [5, 8] (fun v5 v8 wr => ∃ (k a1 : Nat) (l : List Int), v8 = .int .i64 k ∧ k ≤ m ∧ l.length ≤ k ∧ a1 ≤ xs.length ∧ Aside0 ((Kd.int .i64).R 3 wr W.heap.size (fun _ => True) v5 l) ∧ Aside0 (Eye wr g A xs.length c a1) ∧ Aside0 (Moved W wr (fun k => k = g)) ∧ Aside0 (dLst d xs a = left_ l (dRep d xs (m - k) a1))) (fun _ v8 _ => m - (intOf v8).toNat)
   case atStart => exact ⟨0, b, [], rfl, Nat.zero_le _, Nat.le_refl _, hb1, ⟨Kd.R_nil _ _ _ _ _⟩, HE1, HM1, HR⟩
   case round =>
    obtain ⟨k, a1, l, rfl, hk, hl, ha1, HO, HE2, HM2, HR2⟩ := hrel
    have HBR := Aside0.mk (HM2.out.above HB.out (fun k hk => by omega))
    by_cases hlt : k < m
    · cases hs : d xs a1 with
      | none =>
        have HR3 := Aside0.mk (HR2.out.trans (show left_ l (dRep d xs (m - k) a1) = none by rw [show m - k = (m - (k + 1)) + 1 by omega]; exact left_bad hs))
        have HQ := HG.out wr g a1 ha1 HBR.out hg HE2.out
        rw [hs] at HQ
        have HQ := Aside0.mk HQ
        clear hs
        go_wp2_with fail
        refine HQ.out.mono ?_
        rintro e w2 ⟨hm, h1, _⟩
        obtain rfl := h1 rfl
        exact ⟨rfl, HM2.out.trans hm (fun _ _ h => h), (fun _ => rfl), fun x a' h => by rw [HR3.out] at h; cases h⟩
      | some p =>
        obtain ⟨y, b2⟩ := p
        have HR3 := Aside0.mk (HR2.out.trans (show left_ l (dRep d xs (m - k) a1) = left_ (l ++ [y]) (dRep d xs (m - (k + 1)) b2) by rw [show m - k = (m - (k + 1)) + 1 by omega]; exact left_step hs))
        have hb2 := HGO.out a1 y b2 ha1 hs
        have HQ := HG.out wr g a1 ha1 HBR.out hg HE2.out
        rw [hs] at HQ
        have HQ := Aside0.mk HQ
        clear hs
        go_wp2_with fail
        refine HQ.out.mono ?_
        rintro e w2 ⟨hm, _, h2⟩
        obtain ⟨v2, rfl, rfl, hE3⟩ := h2 _ _ rfl
        have HMM : Aside0 ((Kd.int .i64).M w2 W.heap.size (fun _ => True) y [.int .i64 y]) := ⟨rfl⟩
        have HO2 := Aside0.mk (R_moved HO.out HE2.out (by decide) hm)
        have HM3 := Aside0.mk (HM2.out.trans hm (fun _ _ h => h))
        have HE3 := Aside0.mk hE3
        clear hm h2 hE3
        go_wp2_with ((with_reducible refine gate_builtin (b := .append) (xs := #[.tmp 10, .tmp 14]) rfl ?_); at_builtin; refine Kd.R_append (Kd.int .i64) (w0 := w2) W.heap.size rfl (.tmp 10) (.tmp 14) 146 3 _ 8 rfl Tryz.underlying146 infoI rfl (by decide) (by omega) _ l y [.int .i64 y] (fun _ => True) (fun k => some k ≠ u5.ownBlock) rfl rfl (M_apart HMM.out HO2.out (by decide)) (fun _ hk => ⟨trivial, hk⟩) (fun _ _ => trivial) HO2.out (Below.refl _ _) HM3.out.size (by omega) ?_; intro v3 w3 ho3 hb3 hg3 hat3; have HO3 := Aside0.mk ho3; have HM4 := Aside0.mk (grew HM3.out HO2.out hg3); have HE4 := Aside0.mk (eye_grown HE3.out HO2.out hg3 (by decide)); clear ho3 hb3 hg3 hat3)
        go_roundw
        case rel => exact ⟨k + 1, b2, l ++ [y], by go_num, by omega, by simp only [List.length_append, List.length_singleton]; omega, hb2, HO3, HE4, HM4, HR3⟩
        case measure => simp [intOf]; omega
    · have HR3 := Aside0.mk (HR2.out.trans (show left_ l (dRep d xs (m - k) a1) = some (l, a1) by rw [show m - k = 0 by omega]; simp [dRep, left_]))
      go_wp2_with fail
      go_ret
      refine ⟨HM2.out, (fun h => by rw [HR3.out] at h; cases h), fun x z h => ?_⟩
      rw [HR3.out] at h
      simp only [Option.some.injEq, Prod.mk.injEq] at h
      obtain ⟨rfl, rfl⟩ := h
      exact ⟨_, rfl, HO.out, HE2.out⟩
end Go.Proofs.YtmneemhplffemaaGreatDoorRR.Get
namespace Go.Proofs.YtmneemhplffemaaGreatDoorRR.Get
open Go.RowKit Go.Proofs.YtmneemhplffemaaGreatDoorRR.Ext Go.Proofs.YtmneemhplffemaaGreatDoorRR.Wire Go.Proofs.YtmneemhplffemaaGreatDoorRR.Mem Go.Proofs.YtmneemhplffemaaGreatDoorRR.Ki Go.Proofs.YtmneemhplffemaaGreatDoorRRW.PrintWords

theorem infoResult : (Tryz.prog.info? 81).map (fun i => (i.zero, i.size, i.bytes)) = some (some (.agg #[.string ⟨#[]⟩, .string ⟨#[]⟩, .int .i64 0, .int .i64 0, .int .i64 0, .int .i64 0, .slice none 0 0]), 7, 88) := by kernel_rfl
def GetResult (K : FuncId) (d : List Int → Nat → Option (S81 × Nat)) (w0 : World) (A : Option Addr) (c : Nat) (xs : List Int) : Prop :=
 ∀ (W : World) (g a : Nat), a ≤ xs.length → Below w0.heap.size w0 W → w0.heap.size ≤ g → Eye W g A xs.length c a →
  Calls Tryz.prog K #[.pointer (some ⟨g, 0, none⟩)] W fun e W' => Got W W' g A xs.length c (d xs a) (fun v x => ∃ cs : List Value, v = .agg cs.toArray ∧ k81.M W' W.heap.size (fun _ => True) x cs) e
set_option maxRecDepth 100000 in
set_option maxHeartbeats 1000000 in
theorem getList_Result (K : FuncId) (hK : ∀ (args : Array Value) (w : World), (callFunc K args).run Tryz.prog w = .ok (.enter K args) w) (d : List Int → Nat → Option (S81 × Nat)) (w0 W : World) (g : Nat) (A : Option Addr) (c a : Nat) (xs : List Int) (hG : GetResult K d w0 A c xs) (hd : Goes d xs) (hD : Data w0 A c xs) (ha : a ≤ xs.length) (hb : Below w0.heap.size w0 W) (hg : w0.heap.size ≤ g) (hE : Eye W g A xs.length c a) :
   Calls Tryz.prog 245 #[.pointer (some ⟨g, 0, none⟩), .func (.func K) #[] #[]] W fun e W' => Got W W' g A xs.length c (dLst d xs a) (fun v l => k81.R 81 W' W.heap.size (fun _ => True) v l) e := by
 have HN := Aside0.mk (rnum w0 W g A c a xs hD ha hb hg hE)
 cases hr : dNum xs a with
 | none =>
   have HR := Aside0.mk (show dLst d xs a = none by unfold dLst; rw [hr])
   rw [hr] at HN
   clear hb hE hD hr hG hd
   go_enter Tryz.func245, Tryz.ntmps245
   go_wp2_with fail
   refine HN.out.mono ?_
   rintro e w1 ⟨hm, h1, _⟩
   obtain rfl := h1 rfl
   exact ⟨rfl, hm, (fun _ => rfl), fun x a' h => by rw [HR.out] at h; cases h⟩
 | some p =>
   obtain ⟨n, b⟩ := p
   rw [hr] at HN
   obtain ⟨_, hn0, hn1, _, hb1, _⟩ := dNum_some hD.bytes hr
   obtain ⟨m, rfl⟩ := Int.eq_ofNat_of_zero_le hn0
   have HR := Aside0.mk (show dLst d xs a = left_ [] (dRep d xs (m - 0) b) by unfold dLst; rw [hr]; simp only [Int.toNat_natCast, Nat.sub_zero]; cases dRep d xs m b <;> rfl)
   have HG := Aside0.mk hG
   have HGO := Aside0.mk hd
   have HB := Aside0.mk hb
   clear hb hE hD hr hG hd
   go_enter Tryz.func245, Tryz.ntmps245
   go_wp2_with fail
   refine HN.out.mono ?_
   rintro e w1 ⟨hm, _, h2⟩
   obtain ⟨v1, rfl, rfl, hE1⟩ := h2 _ _ rfl
   have HM1 := Aside0.mk hm
   have HE1 := Aside0.mk hE1
   clear hm h2 hE1
   go_wp2_with fail
   go_loopw [5, 8] (fun v5 v8 wr => ∃ (k a1 : Nat) (l : List S81), v8 = .int .i64 k ∧ k ≤ m ∧ l.length ≤ k ∧ a1 ≤ xs.length ∧ Aside0 (k81.R 81 wr W.heap.size (fun _ => True) v5 l) ∧ Aside0 (Eye wr g A xs.length c a1) ∧ Aside0 (Moved W wr (fun k => k = g)) ∧ Aside0 (dLst d xs a = left_ l (dRep d xs (m - k) a1))) (fun _ v8 _ => m - (intOf v8).toNat)
   case atStart => exact ⟨0, b, [], rfl, Nat.zero_le _, Nat.le_refl _, hb1, ⟨Kd.R_nil _ _ _ _ _⟩, HE1, HM1, HR⟩
   case round =>
    obtain ⟨k, a1, l, rfl, hk, hl, ha1, HO, HE2, HM2, HR2⟩ := hrel
    have HBR := Aside0.mk (HM2.out.above HB.out (fun k hk => by omega))
    by_cases hlt : k < m
    · cases hs : d xs a1 with
      | none =>
        have HR3 := Aside0.mk (HR2.out.trans (show left_ l (dRep d xs (m - k) a1) = none by rw [show m - k = (m - (k + 1)) + 1 by omega]; exact left_bad hs))
        have HQ := HG.out wr g a1 ha1 HBR.out hg HE2.out
        rw [hs] at HQ
        have HQ := Aside0.mk HQ
        clear hs
        go_wp2_with fail
        refine HQ.out.mono ?_
        rintro e w2 ⟨hm, h1, _⟩
        obtain rfl := h1 rfl
        exact ⟨rfl, HM2.out.trans hm (fun _ _ h => h), (fun _ => rfl), fun x a' h => by rw [HR3.out] at h; cases h⟩
      | some p =>
        obtain ⟨y, b2⟩ := p
        have HR3 := Aside0.mk (HR2.out.trans (show left_ l (dRep d xs (m - k) a1) = left_ (l ++ [y]) (dRep d xs (m - (k + 1)) b2) by rw [show m - k = (m - (k + 1)) + 1 by omega]; exact left_step hs))
        have hb2 := HGO.out a1 y b2 ha1 hs
        have HQ := HG.out wr g a1 ha1 HBR.out hg HE2.out
        rw [hs] at HQ
        have HQ := Aside0.mk HQ
        clear hs
        go_wp2_with fail
        refine HQ.out.mono ?_
        rintro e w2 ⟨hm, _, h2⟩
        obtain ⟨v2, rfl, ⟨cs, rfl, hM⟩, hE3⟩ := h2 _ _ rfl
        have hM2 := hM
        obtain ⟨q6, rfl, gq6⟩ := k81_openM hM2
        have HMM := Aside0.mk (k81.M_lower HM2.out.size hM)
        obtain ⟨Aq6, cq6, rfl, _, _⟩ := Kd.R_reads gq6
        clear gq6
        clear hM
        have HO2 := Aside0.mk (R_moved HO.out HE2.out (by decide) hm)
        have HM3 := Aside0.mk (HM2.out.trans hm (fun _ _ h => h))
        have HE3 := Aside0.mk hE3
        clear hm h2 hE3
        go_wp2_with ((with_reducible refine gate_builtin (b := .append) (xs := #[.tmp 10, .tmp 14]) rfl ?_); at_builtin; refine Kd.R_append k81 (w0 := w2) W.heap.size rfl (.tmp 10) (.tmp 14) 27 81 _ 88 rfl Tryz.underlying27 infoResult rfl (by decide) (by omega) _ l y [.string y.f0, .string y.f1, .int .i64 y.f2, .int .i64 y.f3, .int .i64 y.f4, .int .i64 y.f5, .slice Aq6 y.f6.length cq6] (fun _ => True) (fun k => some k ≠ u5.ownBlock) rfl rfl (M_apart HMM.out HO2.out (by decide)) (fun _ hk => ⟨trivial, hk⟩) (fun _ _ => trivial) HO2.out (Below.refl _ _) HM3.out.size (by omega) ?_; intro v3 w3 ho3 hb3 hg3 hat3; have HO3 := Aside0.mk ho3; have HM4 := Aside0.mk (grew HM3.out HO2.out hg3); have HE4 := Aside0.mk (eye_grown HE3.out HO2.out hg3 (by decide)); clear ho3 hb3 hg3 hat3)
        go_roundw
        case rel => exact ⟨k + 1, b2, l ++ [y], by go_num, by omega, by simp only [List.length_append, List.length_singleton]; omega, hb2, HO3, HE4, HM4, HR3⟩
        case measure => simp [intOf]; omega
    · have HR3 := Aside0.mk (HR2.out.trans (show left_ l (dRep d xs (m - k) a1) = some (l, a1) by rw [show m - k = 0 by omega]; simp [dRep, left_]))
      go_wp2_with fail
      go_ret
      refine ⟨HM2.out, (fun h => by rw [HR3.out] at h; cases h), fun x z h => ?_⟩
      rw [HR3.out] at h
      simp only [Option.some.injEq, Prod.mk.injEq] at h
      obtain ⟨rfl, rfl⟩ := h
      exact ⟨_, rfl, HO.out, HE2.out⟩
theorem infoPart : (Tryz.prog.info? 86).map (fun i => (i.zero, i.size, i.bytes)) = some (some (.agg #[.int .i64 0, .int .i64 0, .string ⟨#[]⟩, .int .i64 0, .slice none 0 0]), 5, 64) := by kernel_rfl
def GetPart (K : FuncId) (d : List Int → Nat → Option (S86 × Nat)) (w0 : World) (A : Option Addr) (c : Nat) (xs : List Int) : Prop :=
 ∀ (W : World) (g a : Nat), a ≤ xs.length → Below w0.heap.size w0 W → w0.heap.size ≤ g → Eye W g A xs.length c a →
  Calls Tryz.prog K #[.pointer (some ⟨g, 0, none⟩)] W fun e W' => Got W W' g A xs.length c (d xs a) (fun v x => ∃ cs : List Value, v = .agg cs.toArray ∧ k86.M W' W.heap.size (fun _ => True) x cs) e
set_option maxRecDepth 100000 in
set_option maxHeartbeats 1000000 in
theorem getList_Part (K : FuncId) (hK : ∀ (args : Array Value) (w : World), (callFunc K args).run Tryz.prog w = .ok (.enter K args) w) (d : List Int → Nat → Option (S86 × Nat)) (w0 W : World) (g : Nat) (A : Option Addr) (c a : Nat) (xs : List Int) (hG : GetPart K d w0 A c xs) (hd : Goes d xs) (hD : Data w0 A c xs) (ha : a ≤ xs.length) (hb : Below w0.heap.size w0 W) (hg : w0.heap.size ≤ g) (hE : Eye W g A xs.length c a) :
   Calls Tryz.prog 215 #[.pointer (some ⟨g, 0, none⟩), .func (.func K) #[] #[]] W fun e W' => Got W W' g A xs.length c (dLst d xs a) (fun v l => k86.R 86 W' W.heap.size (fun _ => True) v l) e := by
 have HN := Aside0.mk (rnum w0 W g A c a xs hD ha hb hg hE)
 cases hr : dNum xs a with
 | none =>
   have HR := Aside0.mk (show dLst d xs a = none by unfold dLst; rw [hr])
   rw [hr] at HN
   clear hb hE hD hr hG hd
   go_enter Tryz.func215, Tryz.ntmps215
   go_wp2_with fail
   refine HN.out.mono ?_
   rintro e w1 ⟨hm, h1, _⟩
   obtain rfl := h1 rfl
   exact ⟨rfl, hm, (fun _ => rfl), fun x a' h => by rw [HR.out] at h; cases h⟩
 | some p =>
   obtain ⟨n, b⟩ := p
   rw [hr] at HN
   obtain ⟨_, hn0, hn1, _, hb1, _⟩ := dNum_some hD.bytes hr
   obtain ⟨m, rfl⟩ := Int.eq_ofNat_of_zero_le hn0
   have HR := Aside0.mk (show dLst d xs a = left_ [] (dRep d xs (m - 0) b) by unfold dLst; rw [hr]; simp only [Int.toNat_natCast, Nat.sub_zero]; cases dRep d xs m b <;> rfl)
   have HG := Aside0.mk hG
   have HGO := Aside0.mk hd
   have HB := Aside0.mk hb
   clear hb hE hD hr hG hd
   go_enter Tryz.func215, Tryz.ntmps215
   go_wp2_with fail
   refine HN.out.mono ?_
   rintro e w1 ⟨hm, _, h2⟩
   obtain ⟨v1, rfl, rfl, hE1⟩ := h2 _ _ rfl
   have HM1 := Aside0.mk hm
   have HE1 := Aside0.mk hE1
   clear hm h2 hE1
   go_wp2_with fail
   go_loopw [5, 8] (fun v5 v8 wr => ∃ (k a1 : Nat) (l : List S86), v8 = .int .i64 k ∧ k ≤ m ∧ l.length ≤ k ∧ a1 ≤ xs.length ∧ Aside0 (k86.R 86 wr W.heap.size (fun _ => True) v5 l) ∧ Aside0 (Eye wr g A xs.length c a1) ∧ Aside0 (Moved W wr (fun k => k = g)) ∧ Aside0 (dLst d xs a = left_ l (dRep d xs (m - k) a1))) (fun _ v8 _ => m - (intOf v8).toNat)
   case atStart => exact ⟨0, b, [], rfl, Nat.zero_le _, Nat.le_refl _, hb1, ⟨Kd.R_nil _ _ _ _ _⟩, HE1, HM1, HR⟩
   case round =>
    obtain ⟨k, a1, l, rfl, hk, hl, ha1, HO, HE2, HM2, HR2⟩ := hrel
    have HBR := Aside0.mk (HM2.out.above HB.out (fun k hk => by omega))
    by_cases hlt : k < m
    · cases hs : d xs a1 with
      | none =>
        have HR3 := Aside0.mk (HR2.out.trans (show left_ l (dRep d xs (m - k) a1) = none by rw [show m - k = (m - (k + 1)) + 1 by omega]; exact left_bad hs))
        have HQ := HG.out wr g a1 ha1 HBR.out hg HE2.out
        rw [hs] at HQ
        have HQ := Aside0.mk HQ
        clear hs
        go_wp2_with fail
        refine HQ.out.mono ?_
        rintro e w2 ⟨hm, h1, _⟩
        obtain rfl := h1 rfl
        exact ⟨rfl, HM2.out.trans hm (fun _ _ h => h), (fun _ => rfl), fun x a' h => by rw [HR3.out] at h; cases h⟩
      | some p =>
        obtain ⟨y, b2⟩ := p
        have HR3 := Aside0.mk (HR2.out.trans (show left_ l (dRep d xs (m - k) a1) = left_ (l ++ [y]) (dRep d xs (m - (k + 1)) b2) by rw [show m - k = (m - (k + 1)) + 1 by omega]; exact left_step hs))
        have hb2 := HGO.out a1 y b2 ha1 hs
        have HQ := HG.out wr g a1 ha1 HBR.out hg HE2.out
        rw [hs] at HQ
        have HQ := Aside0.mk HQ
        clear hs
        go_wp2_with fail
        refine HQ.out.mono ?_
        rintro e w2 ⟨hm, _, h2⟩
        obtain ⟨v2, rfl, ⟨cs, rfl, hM⟩, hE3⟩ := h2 _ _ rfl
        have hM2 := hM
        obtain ⟨q4, rfl, gq4⟩ := k86_openM hM2
        have HMM := Aside0.mk (k86.M_lower HM2.out.size hM)
        obtain ⟨Aq4, cq4, rfl, _, _⟩ := Kd.R_reads gq4
        clear gq4
        clear hM
        have HO2 := Aside0.mk (R_moved HO.out HE2.out (by decide) hm)
        have HM3 := Aside0.mk (HM2.out.trans hm (fun _ _ h => h))
        have HE3 := Aside0.mk hE3
        clear hm h2 hE3
        go_wp2_with ((with_reducible refine gate_builtin (b := .append) (xs := #[.tmp 10, .tmp 14]) rfl ?_); at_builtin; refine Kd.R_append k86 (w0 := w2) W.heap.size rfl (.tmp 10) (.tmp 14) 31 86 _ 64 rfl Tryz.underlying31 infoPart rfl (by decide) (by omega) _ l y [.int .i64 y.f0, .int .i64 y.f1.f0, .string y.f1.f1, .int .i64 y.f1.f2, .slice Aq4 y.f1.f3.length cq4] (fun _ => True) (fun k => some k ≠ u5.ownBlock) rfl rfl (M_apart HMM.out HO2.out (by decide)) (fun _ hk => ⟨trivial, hk⟩) (fun _ _ => trivial) HO2.out (Below.refl _ _) HM3.out.size (by omega) ?_; intro v3 w3 ho3 hb3 hg3 hat3; have HO3 := Aside0.mk ho3; have HM4 := Aside0.mk (grew HM3.out HO2.out hg3); have HE4 := Aside0.mk (eye_grown HE3.out HO2.out hg3 (by decide)); clear ho3 hb3 hg3 hat3)
        go_roundw
        case rel => exact ⟨k + 1, b2, l ++ [y], by go_num, by omega, by simp only [List.length_append, List.length_singleton]; omega, hb2, HO3, HE4, HM4, HR3⟩
        case measure => simp [intOf]; omega
    · have HR3 := Aside0.mk (HR2.out.trans (show left_ l (dRep d xs (m - k) a1) = some (l, a1) by rw [show m - k = 0 by omega]; simp [dRep, left_]))
      go_wp2_with fail
      go_ret
      refine ⟨HM2.out, (fun h => by rw [HR3.out] at h; cases h), fun x z h => ?_⟩
      rw [HR3.out] at h
      simp only [Option.some.injEq, Prod.mk.injEq] at h
      obtain ⟨rfl, rfl⟩ := h
      exact ⟨_, rfl, HO.out, HE2.out⟩
theorem infoTagged : (Tryz.prog.info? 148).map (fun i => (i.zero, i.size, i.bytes)) = some (some (.agg #[.int .i64 0, .string ⟨#[]⟩, .string ⟨#[]⟩, .int .i64 0, .slice none 0 0]), 5, 72) := by kernel_rfl
def GetTagged (K : FuncId) (d : List Int → Nat → Option (S148 × Nat)) (w0 : World) (A : Option Addr) (c : Nat) (xs : List Int) : Prop :=
 ∀ (W : World) (g a : Nat), a ≤ xs.length → Below w0.heap.size w0 W → w0.heap.size ≤ g → Eye W g A xs.length c a →
  Calls Tryz.prog K #[.pointer (some ⟨g, 0, none⟩)] W fun e W' => Got W W' g A xs.length c (d xs a) (fun v x => ∃ cs : List Value, v = .agg cs.toArray ∧ k148.M W' W.heap.size (fun _ => True) x cs) e
set_option maxRecDepth 100000 in
set_option maxHeartbeats 1000000 in
theorem getList_Tagged (K : FuncId) (hK : ∀ (args : Array Value) (w : World), (callFunc K args).run Tryz.prog w = .ok (.enter K args) w) (d : List Int → Nat → Option (S148 × Nat)) (w0 W : World) (g : Nat) (A : Option Addr) (c a : Nat) (xs : List Int) (hG : GetTagged K d w0 A c xs) (hd : Goes d xs) (hD : Data w0 A c xs) (ha : a ≤ xs.length) (hb : Below w0.heap.size w0 W) (hg : w0.heap.size ≤ g) (hE : Eye W g A xs.length c a) :
   Calls Tryz.prog 253 #[.pointer (some ⟨g, 0, none⟩), .func (.func K) #[] #[]] W fun e W' => Got W W' g A xs.length c (dLst d xs a) (fun v l => k148.R 148 W' W.heap.size (fun _ => True) v l) e := by
 have HN := Aside0.mk (rnum w0 W g A c a xs hD ha hb hg hE)
 cases hr : dNum xs a with
 | none =>
   have HR := Aside0.mk (show dLst d xs a = none by unfold dLst; rw [hr])
   rw [hr] at HN
   clear hb hE hD hr hG hd
   go_enter Tryz.func253, Tryz.ntmps253
   go_wp2_with fail
   refine HN.out.mono ?_
   rintro e w1 ⟨hm, h1, _⟩
   obtain rfl := h1 rfl
   exact ⟨rfl, hm, (fun _ => rfl), fun x a' h => by rw [HR.out] at h; cases h⟩
 | some p =>
   obtain ⟨n, b⟩ := p
   rw [hr] at HN
   obtain ⟨_, hn0, hn1, _, hb1, _⟩ := dNum_some hD.bytes hr
   obtain ⟨m, rfl⟩ := Int.eq_ofNat_of_zero_le hn0
   have HR := Aside0.mk (show dLst d xs a = left_ [] (dRep d xs (m - 0) b) by unfold dLst; rw [hr]; simp only [Int.toNat_natCast, Nat.sub_zero]; cases dRep d xs m b <;> rfl)
   have HG := Aside0.mk hG
   have HGO := Aside0.mk hd
   have HB := Aside0.mk hb
   clear hb hE hD hr hG hd
   go_enter Tryz.func253, Tryz.ntmps253
   go_wp2_with fail
   refine HN.out.mono ?_
   rintro e w1 ⟨hm, _, h2⟩
   obtain ⟨v1, rfl, rfl, hE1⟩ := h2 _ _ rfl
   have HM1 := Aside0.mk hm
   have HE1 := Aside0.mk hE1
   clear hm h2 hE1
   go_wp2_with fail
   go_loopw [5, 8] (fun v5 v8 wr => ∃ (k a1 : Nat) (l : List S148), v8 = .int .i64 k ∧ k ≤ m ∧ l.length ≤ k ∧ a1 ≤ xs.length ∧ Aside0 (k148.R 148 wr W.heap.size (fun _ => True) v5 l) ∧ Aside0 (Eye wr g A xs.length c a1) ∧ Aside0 (Moved W wr (fun k => k = g)) ∧ Aside0 (dLst d xs a = left_ l (dRep d xs (m - k) a1))) (fun _ v8 _ => m - (intOf v8).toNat)
   case atStart => exact ⟨0, b, [], rfl, Nat.zero_le _, Nat.le_refl _, hb1, ⟨Kd.R_nil _ _ _ _ _⟩, HE1, HM1, HR⟩
   case round =>
    obtain ⟨k, a1, l, rfl, hk, hl, ha1, HO, HE2, HM2, HR2⟩ := hrel
    have HBR := Aside0.mk (HM2.out.above HB.out (fun k hk => by omega))
    by_cases hlt : k < m
    · cases hs : d xs a1 with
      | none =>
        have HR3 := Aside0.mk (HR2.out.trans (show left_ l (dRep d xs (m - k) a1) = none by rw [show m - k = (m - (k + 1)) + 1 by omega]; exact left_bad hs))
        have HQ := HG.out wr g a1 ha1 HBR.out hg HE2.out
        rw [hs] at HQ
        have HQ := Aside0.mk HQ
        clear hs
        go_wp2_with fail
        refine HQ.out.mono ?_
        rintro e w2 ⟨hm, h1, _⟩
        obtain rfl := h1 rfl
        exact ⟨rfl, HM2.out.trans hm (fun _ _ h => h), (fun _ => rfl), fun x a' h => by rw [HR3.out] at h; cases h⟩
      | some p =>
        obtain ⟨y, b2⟩ := p
        have HR3 := Aside0.mk (HR2.out.trans (show left_ l (dRep d xs (m - k) a1) = left_ (l ++ [y]) (dRep d xs (m - (k + 1)) b2) by rw [show m - k = (m - (k + 1)) + 1 by omega]; exact left_step hs))
        have hb2 := HGO.out a1 y b2 ha1 hs
        have HQ := HG.out wr g a1 ha1 HBR.out hg HE2.out
        rw [hs] at HQ
        have HQ := Aside0.mk HQ
        clear hs
        go_wp2_with fail
        refine HQ.out.mono ?_
        rintro e w2 ⟨hm, _, h2⟩
        obtain ⟨v2, rfl, ⟨cs, rfl, hM⟩, hE3⟩ := h2 _ _ rfl
        have hM2 := hM
        obtain ⟨q4, rfl, gq4⟩ := k148_openM hM2
        have HMM := Aside0.mk (k148.M_lower HM2.out.size hM)
        obtain ⟨Aq4, cq4, rfl, _, _⟩ := Kd.R_reads gq4
        clear gq4
        clear hM
        have HO2 := Aside0.mk (R_moved HO.out HE2.out (by decide) hm)
        have HM3 := Aside0.mk (HM2.out.trans hm (fun _ _ h => h))
        have HE3 := Aside0.mk hE3
        clear hm h2 hE3
        go_wp2_with ((with_reducible refine gate_builtin (b := .append) (xs := #[.tmp 10, .tmp 14]) rfl ?_); at_builtin; refine Kd.R_append k148 (w0 := w2) W.heap.size rfl (.tmp 10) (.tmp 14) 89 148 _ 72 rfl Tryz.underlying89 infoTagged rfl (by decide) (by omega) _ l y [.int .i64 y.f0.f0, .string y.f0.f1, .string y.f0.f2, .int .i64 y.f0.f3, .slice Aq4 y.f1.length cq4] (fun _ => True) (fun k => some k ≠ u5.ownBlock) rfl rfl (M_apart HMM.out HO2.out (by decide)) (fun _ hk => ⟨trivial, hk⟩) (fun _ _ => trivial) HO2.out (Below.refl _ _) HM3.out.size (by omega) ?_; intro v3 w3 ho3 hb3 hg3 hat3; have HO3 := Aside0.mk ho3; have HM4 := Aside0.mk (grew HM3.out HO2.out hg3); have HE4 := Aside0.mk (eye_grown HE3.out HO2.out hg3 (by decide)); clear ho3 hb3 hg3 hat3)
        go_roundw
        case rel => exact ⟨k + 1, b2, l ++ [y], by go_num, by omega, by simp only [List.length_append, List.length_singleton]; omega, hb2, HO3, HE4, HM4, HR3⟩
        case measure => simp [intOf]; omega
    · have HR3 := Aside0.mk (HR2.out.trans (show left_ l (dRep d xs (m - k) a1) = some (l, a1) by rw [show m - k = 0 by omega]; simp [dRep, left_]))
      go_wp2_with fail
      go_ret
      refine ⟨HM2.out, (fun h => by rw [HR3.out] at h; cases h), fun x z h => ?_⟩
      rw [HR3.out] at h
      simp only [Option.some.injEq, Prod.mk.injEq] at h
      obtain ⟨rfl, rfl⟩ := h
      exact ⟨_, rfl, HO.out, HE2.out⟩
theorem infoItem : (Tryz.prog.info? 91).map (fun i => (i.zero, i.size, i.bytes)) = some (some (.agg #[.int .i64 0, .int .i64 0, .bool false, .slice none 0 0, .slice none 0 0]), 5, 72) := by kernel_rfl
def GetItem (K : FuncId) (d : List Int → Nat → Option (S91 × Nat)) (w0 : World) (A : Option Addr) (c : Nat) (xs : List Int) : Prop :=
 ∀ (W : World) (g a : Nat), a ≤ xs.length → Below w0.heap.size w0 W → w0.heap.size ≤ g → Eye W g A xs.length c a →
  Calls Tryz.prog K #[.pointer (some ⟨g, 0, none⟩)] W fun e W' => Got W W' g A xs.length c (d xs a) (fun v x => ∃ cs : List Value, v = .agg cs.toArray ∧ k91.M W' W.heap.size (fun _ => True) x cs) e
set_option maxRecDepth 100000 in
set_option maxHeartbeats 1000000 in
theorem getList_Item (K : FuncId) (hK : ∀ (args : Array Value) (w : World), (callFunc K args).run Tryz.prog w = .ok (.enter K args) w) (d : List Int → Nat → Option (S91 × Nat)) (w0 W : World) (g : Nat) (A : Option Addr) (c a : Nat) (xs : List Int) (hG : GetItem K d w0 A c xs) (hd : Goes d xs) (hD : Data w0 A c xs) (ha : a ≤ xs.length) (hb : Below w0.heap.size w0 W) (hg : w0.heap.size ≤ g) (hE : Eye W g A xs.length c a) :
   Calls Tryz.prog 206 #[.pointer (some ⟨g, 0, none⟩), .func (.func K) #[] #[]] W fun e W' => Got W W' g A xs.length c (dLst d xs a) (fun v l => k91.R 91 W' W.heap.size (fun _ => True) v l) e := by
 have HN := Aside0.mk (rnum w0 W g A c a xs hD ha hb hg hE)
 cases hr : dNum xs a with
 | none =>
   have HR := Aside0.mk (show dLst d xs a = none by unfold dLst; rw [hr])
   rw [hr] at HN
   clear hb hE hD hr hG hd
   go_enter Tryz.func206, Tryz.ntmps206
   go_wp2_with fail
   refine HN.out.mono ?_
   rintro e w1 ⟨hm, h1, _⟩
   obtain rfl := h1 rfl
   exact ⟨rfl, hm, (fun _ => rfl), fun x a' h => by rw [HR.out] at h; cases h⟩
 | some p =>
   obtain ⟨n, b⟩ := p
   rw [hr] at HN
   obtain ⟨_, hn0, hn1, _, hb1, _⟩ := dNum_some hD.bytes hr
   obtain ⟨m, rfl⟩ := Int.eq_ofNat_of_zero_le hn0
   have HR := Aside0.mk (show dLst d xs a = left_ [] (dRep d xs (m - 0) b) by unfold dLst; rw [hr]; simp only [Int.toNat_natCast, Nat.sub_zero]; cases dRep d xs m b <;> rfl)
   have HG := Aside0.mk hG
   have HGO := Aside0.mk hd
   have HB := Aside0.mk hb
   clear hb hE hD hr hG hd
   go_enter Tryz.func206, Tryz.ntmps206
   go_wp2_with fail
   refine HN.out.mono ?_
   rintro e w1 ⟨hm, _, h2⟩
   obtain ⟨v1, rfl, rfl, hE1⟩ := h2 _ _ rfl
   have HM1 := Aside0.mk hm
   have HE1 := Aside0.mk hE1
   clear hm h2 hE1
   go_wp2_with fail
   go_loopw [5, 8] (fun v5 v8 wr => ∃ (k a1 : Nat) (l : List S91), v8 = .int .i64 k ∧ k ≤ m ∧ l.length ≤ k ∧ a1 ≤ xs.length ∧ Aside0 (k91.R 91 wr W.heap.size (fun _ => True) v5 l) ∧ Aside0 (Eye wr g A xs.length c a1) ∧ Aside0 (Moved W wr (fun k => k = g)) ∧ Aside0 (dLst d xs a = left_ l (dRep d xs (m - k) a1))) (fun _ v8 _ => m - (intOf v8).toNat)
   case atStart => exact ⟨0, b, [], rfl, Nat.zero_le _, Nat.le_refl _, hb1, ⟨Kd.R_nil _ _ _ _ _⟩, HE1, HM1, HR⟩
   case round =>
    obtain ⟨k, a1, l, rfl, hk, hl, ha1, HO, HE2, HM2, HR2⟩ := hrel
    have HBR := Aside0.mk (HM2.out.above HB.out (fun k hk => by omega))
    by_cases hlt : k < m
    · cases hs : d xs a1 with
      | none =>
        have HR3 := Aside0.mk (HR2.out.trans (show left_ l (dRep d xs (m - k) a1) = none by rw [show m - k = (m - (k + 1)) + 1 by omega]; exact left_bad hs))
        have HQ := HG.out wr g a1 ha1 HBR.out hg HE2.out
        rw [hs] at HQ
        have HQ := Aside0.mk HQ
        clear hs
        go_wp2_with fail
        refine HQ.out.mono ?_
        rintro e w2 ⟨hm, h1, _⟩
        obtain rfl := h1 rfl
        exact ⟨rfl, HM2.out.trans hm (fun _ _ h => h), (fun _ => rfl), fun x a' h => by rw [HR3.out] at h; cases h⟩
      | some p =>
        obtain ⟨y, b2⟩ := p
        have HR3 := Aside0.mk (HR2.out.trans (show left_ l (dRep d xs (m - k) a1) = left_ (l ++ [y]) (dRep d xs (m - (k + 1)) b2) by rw [show m - k = (m - (k + 1)) + 1 by omega]; exact left_step hs))
        have hb2 := HGO.out a1 y b2 ha1 hs
        have HQ := HG.out wr g a1 ha1 HBR.out hg HE2.out
        rw [hs] at HQ
        have HQ := Aside0.mk HQ
        clear hs
        go_wp2_with fail
        refine HQ.out.mono ?_
        rintro e w2 ⟨hm, _, h2⟩
        obtain ⟨v2, rfl, ⟨cs, rfl, hM⟩, hE3⟩ := h2 _ _ rfl
        have hM2 := hM
        obtain ⟨q3, q4, rfl, gq3, gq4⟩ := k91_openM hM2
        have HMM := Aside0.mk (k91.M_lower HM2.out.size hM)
        obtain ⟨Aq3, cq3, rfl, _, _⟩ := Kd.R_reads gq3
        clear gq3
        obtain ⟨Aq4, cq4, rfl, _, _⟩ := Kd.R_reads gq4
        clear gq4
        clear hM
        have HO2 := Aside0.mk (R_moved HO.out HE2.out (by decide) hm)
        have HM3 := Aside0.mk (HM2.out.trans hm (fun _ _ h => h))
        have HE3 := Aside0.mk hE3
        clear hm h2 hE3
        go_wp2_with ((with_reducible refine gate_builtin (b := .append) (xs := #[.tmp 10, .tmp 14]) rfl ?_); at_builtin; refine Kd.R_append k91 (w0 := w2) W.heap.size rfl (.tmp 10) (.tmp 14) 32 91 _ 72 rfl Tryz.underlying32 infoItem rfl (by decide) (by omega) _ l y [.int .i64 y.f0, .int .i64 y.f1, .bool y.f2, .slice Aq3 y.f3.length cq3, .slice Aq4 y.f4.length cq4] (fun _ => True) (fun k => some k ≠ u5.ownBlock) rfl rfl (M_apart HMM.out HO2.out (by decide)) (fun _ hk => ⟨trivial, hk⟩) (fun _ _ => trivial) HO2.out (Below.refl _ _) HM3.out.size (by omega) ?_; intro v3 w3 ho3 hb3 hg3 hat3; have HO3 := Aside0.mk ho3; have HM4 := Aside0.mk (grew HM3.out HO2.out hg3); have HE4 := Aside0.mk (eye_grown HE3.out HO2.out hg3 (by decide)); clear ho3 hb3 hg3 hat3)
        go_roundw
        case rel => exact ⟨k + 1, b2, l ++ [y], by go_num, by omega, by simp only [List.length_append, List.length_singleton]; omega, hb2, HO3, HE4, HM4, HR3⟩
        case measure => simp [intOf]; omega
    · have HR3 := Aside0.mk (HR2.out.trans (show left_ l (dRep d xs (m - k) a1) = some (l, a1) by rw [show m - k = 0 by omega]; simp [dRep, left_]))
      go_wp2_with fail
      go_ret
      refine ⟨HM2.out, (fun h => by rw [HR3.out] at h; cases h), fun x z h => ?_⟩
      rw [HR3.out] at h
      simp only [Option.some.injEq, Prod.mk.injEq] at h
      obtain ⟨rfl, rfl⟩ := h
      exact ⟨_, rfl, HO.out, HE2.out⟩
end Go.Proofs.YtmneemhplffemaaGreatDoorRR.Get
namespace Go.Proofs.YtmneemhplffemaaGreatDoorRRW.PrintWords
open Go.RowKit
section
variable {P : Program} {ops : Array Oper} {rest : List Oper} {o : Oper} {a : Act} {Q : Exit → Act → World → Prop} {W : World}
theorem gate_guard (hw : Region.wanted o (yielded ops a.tmps) = true) (h : wpList P ops Q ({ o with guard := none } :: rest) a W) : wpList P ops Q (o :: rest) a W := by
 have h1 : Region.wanted { o with guard := none } (yielded ops a.tmps) = true := rfl
 unfold wpList at h ⊢
 rw [if_pos h1] at h
 rw [if_pos hw]
 exact h
end
end Go.Proofs.YtmneemhplffemaaGreatDoorRRW.PrintWords
namespace Go.Proofs.YtmneemhplffemaaGreatDoorRR.Row
open Go.RowKit Go.Proofs.YtmneemhplffemaaGreatDoorRR.Mem Go.Proofs.YtmneemhplffemaaGreatDoorRRW.PrintWords
section
variable {P : Program} {all : Array Oper} {rest : List Oper} {o : Oper} {a : Act} {Q : Exit → Act → World → Prop} {W : World}
theorem gate_load {t : TypeId} {p : Operand} (_ho : o.op = .load t p) (h : wpList P all Q (o :: rest) a W) : wpList P all Q (o :: rest) a W := h
theorem gate_store2 {t : TypeId} {p v : Operand} (_ho : o.op = .store t p v) (h : wpList P all Q (o :: rest) a W) : wpList P all Q (o :: rest) a W := h
theorem gate_box {t : TypeId} {p : Operand} (_ho : o.op = .box t p) (h : wpList P all Q (o :: rest) a W) : wpList P all Q (o :: rest) a W := h
theorem load_row {t t' : TypeId} {s : Operand} (hgd : o.guard = none) (ho : o.op = .load t s) {d : TypeDesc} (hu : P.underlying t = some d) (hd : (match d with | .struct _ | .array _ _ => true | _ => false) = true) {g : Nat} {cs : Array Value} (hb : W.heap[g]? = some (.cells cs t' (0, 0))) (hs : a.eval s = .pointer (some ⟨g, 0, none⟩)) (hi : (P.info? t).map (·.size) = some cs.size)
  (h : wpList P all Q rest (a.put o.dst (.agg cs)) W) : wpList P all Q (o :: rest) a W :=
 Kd.event_run hgd (by simp [execOp, ho, hs, Instr.loadAt, Instr.sureAddr, run_loadVar_row (P := P) W g t' t cs (0, 0) d hb hu hd hi]) h
theorem moved_setRow {w : World} {g : Nat} {t : TypeId} {old cells : Array Value} (hg : w.heap[g]? = some (.cells old t (0, 0))) : Moved w (w.setRow g cells) (fun k => k = g) ∧ (w.setRow g cells).heap[g]? = some (.cells cells t (0, 0)) := by
 refine ⟨⟨rfl, rfl, rfl, ?_, fun k _ hn => ?_⟩, setRow_heap w g old cells t (0, 0) hg⟩
 · show w.heap.size ≤ (w.heap.modify g _).size
   rw [Array.size_modify]
   exact Nat.le_refl _
 · show (w.heap.modify g _)[k]? = _
   rw [Array.getElem?_modify, if_neg (fun h => hn h.symm)]
theorem store_row {t t' : TypeId} {s v : Operand} (hgd : o.guard = none) (ho : o.op = .store t s v) (hN : o.dst = none) {g : Nat} {old cs : Array Value} (hb : W.heap[g]? = some (.cells old t' (0, 0))) (hs : a.eval s = .pointer (some ⟨g, 0, none⟩)) (hv : a.eval v = .agg cs) (hi : (P.info? t).map (·.size) = some cs.size) (hl : old.size = cs.size) (h1 : ∀ u ∈ cs.toList, u.oneCell' = true)
  (h : ∀ w1, Moved W w1 (fun k => k = g) → w1.heap[g]? = some (.cells cs t' (0, 0)) → wpList P all Q rest a w1) : wpList P all Q (o :: rest) a W := by
 refine wpList_plain hgd fun K hK => ?_
 refine wp_store_row t s v ho g cs hs hv t' old hb hi hl (Array.all_eq_true_iff_forall_mem.2 (fun x hx => h1 x (by simpa using hx))) ?_
 rw [hN]
 have hm := moved_setRow (w := W) (cells := cs) hb
 exact hK _ _ (h _ hm.1 hm.2)
theorem box_row {t : TypeId} {s : Operand} (hgd : o.guard = none) (ho : o.op = .box t s) {cs : Array Value} (hs : a.eval s = .agg cs)
  (h : ∀ g, g = W.heap.size → ∀ w1, w1.heap[g]? = some (.cells cs t (0, 0)) → Below W.heap.size W w1 → wpList P all Q rest (a.put o.dst (.pointer (some ⟨g, 0, none⟩))) w1) : wpList P all Q (o :: rest) a W :=
 Kd.event_run hgd (show (execOp a.eval o).run P W = .ok (.value (.pointer (some ⟨W.heap.size, 0, none⟩))) (W.alloc (.cells cs t (0, 0))) by simp only [execOp, ho, hs]; simp [go_sem]) (h _ rfl _ (blk_alloc _) (below_alloc (Below.refl _ _) _))
theorem results_c {fn : Func} {p : Tmp} {ty : TypeId} (h : fn.results = #[.cell p ty]) (tmps : Array Value) (w : World) (g : Nat) (t : TypeId) (cs : Array Value) (fr : Nat × Nat) (d : TypeDesc)
  (hp : tmps.getD p undef = .pointer (some ⟨g, 0, none⟩)) (hg : w.heap[g]? = some (.cells cs t fr))
  (hu : P.underlying ty = some d) (hd : (match d with | .struct _ | .array _ _ => true | _ => false) = true) (hi : (P.info? ty).map (·.size) = some cs.size) :
  (results fn tmps).run P w = .ok (.agg cs) w := by
 have hp' : tmps[p]?.getD undef = .pointer (some ⟨g, 0, none⟩) := by simpa using hp
 simp [results, h, hp', asAddr, run_loadVar_row w g t ty cs fr d hg hu hd hi]
end
end Go.Proofs.YtmneemhplffemaaGreatDoorRR.Row
namespace Go.Proofs.YtmneemhplffemaaGreatDoorRR.Cop
open Go.RowKit Go.Proofs.YtmneemhplffemaaGreatDoorRR.Ext Go.Proofs.YtmneemhplffemaaGreatDoorRR.Wire Go.Proofs.YtmneemhplffemaaGreatDoorRR.Mem Go.Proofs.YtmneemhplffemaaGreatDoorRR.Row Go.Proofs.YtmneemhplffemaaGreatDoorRR.Ki Go.Proofs.YtmneemhplffemaaGreatDoorRR.Get Go.Proofs.YtmneemhplffemaaGreatDoorRRW.PrintWords


theorem R_lit0 {α : Type} (d : Kd α) (e : Nat) (W : World) : d.R e (W.alloc (Obj.cells #[] e (0, 0))) W.heap.size (fun _ => True) (.slice (some ⟨W.heap.size, 0, none⟩) 0 0) [] := by
 refine ⟨fun _ _ => trivial, [], ⟨by simp, .inr ⟨W.heap.size, 0, _, rfl, Nat.le_refl _, blk_alloc _, Nat.le_refl _, Nat.zero_le _, ?_, ?_⟩⟩, ⟨by simp, fun j p hj => by simp at hj⟩⟩
 · simp
 · simp
theorem op_KM {w W : World} {base : Nat} {ok : Nat → Prop} (x : S78) (cs : List Value) (h : k78.K w x cs) : k78.M W base ok x cs := by
 obtain rfl := k78_open h
 exact k78_mkM W base ok x
theorem size_of {t : TypeId} {z : Value} {n b : Nat} (h : (Tryz.prog.info? t).map (fun i => (i.zero, i.size, i.bytes)) = some (some z, n, b)) : (Tryz.prog.info? t).map (·.size) = some n := by
 obtain ⟨i, hi, he⟩ := Option.map_eq_some_iff.1 h
 simp only [Prod.mk.injEq] at he
 rw [hi]
 simp [he.2.1]
end Go.Proofs.YtmneemhplffemaaGreatDoorRR.Cop
namespace Go.Proofs.YtmneemhplffemaaGreatDoorRR.Mem
open Go.RowKit Go.Proofs.YtmneemhplffemaaGreatDoorRR.Ext Go.Proofs.YtmneemhplffemaaGreatDoorRR.Wire Go.Proofs.YtmneemhplffemaaGreatDoorRRW.PrintWords
theorem below_le {B : Nat} {w W : World} (h : Below w.heap.size w W) (hB : B ≤ w.heap.size) : Below B w W := h.mono hB
set_option maxRecDepth 100000 in
theorem wnum (x : Int) (h0 : 0 ≤ x) (h1 : x ≤ 2147483647) (W : World) (base g : Nat) (v : Value) (bs : List Int) (hp : Pen 127 W base g v bs) (hl : bs.length + 5 ≤ 140737488355328) :
  Calls Tryz.prog 61 #[.pointer (some ⟨g, 0, none⟩), .int .i64 x] W fun e W' => e = .returned (.tuple #[]) ∧ Wrote 127 W W' base g v (bs ++ encNum x) := by
 obtain ⟨n, rfl⟩ := Int.eq_ofNat_of_zero_le h0
 have HP := Aside0.mk hp
 have hcell := hp.cell
 have hfree := hp.free
 clear hp
 go_enter Tryz.func61, Tryz.ntmps61
 go_wp2_with (first | (go_at_call 101; (with_reducible refine (number_any n (by omega) _).mono ?_); rintro e w1 ⟨bv, rfl, ho, hb⟩; have HO := Aside0.mk ho; have HB := Aside0.mk hb; have hc1 := (HP.out.below hb).cell; have hf1 := (HP.out.below hb).free; obtain ⟨A1, c1, rfl, hr1⟩ := own_reads (Kd.own_of_R ho); have HR := Aside0.mk hr1; clear ho hb hr1 hcell hfree) | ((with_reducible refine gate_builtin (b := .append) (xs := #[.tmp 19, .tmp 20]) rfl ?_); at_builtin; refine print_append_row (w0 := W) base rfl (.tmp 19) (.tmp 20) 41 5 .u8 1 rfl Tryz.underlying41 info5 (by decide) v bs _ A1 _ c1 rfl rfl (HP.out.below HB.out).own HR.out ?aB ?aS ?aL ?_; (case aB => exact below_le HB.out HP.out.size); (case aS => exact (HP.out.below HB.out).size); (case aL => have := encNum_len (n : Int); omega); intro v2 w2 ho2 _ hg2 hat2; obtain ⟨A2, c2, rfl⟩ := own_slice ho2; have hc2 : w2.cell? ⟨g, 0, none⟩ = some v := blk_cell (blk_grown (HP.out.below HB.out).blk hg2 HP.out.ne) 0; have hf2 := blk_frozen (blk_grown (HP.out.below HB.out).blk hg2 HP.out.ne) 0; have HW := Aside0.mk (Wrote.put HP.out HB.out ho2 hg2 hat2); clear ho2 hg2 hat2 hc1 hf1))
 go_end0
 exact ⟨rfl, by simpa only [List.length_append] using HW.out⟩
set_option maxRecDepth 100000 in
theorem wtxt (s : ByteArray) (h0 : s.size ≤ 262144) (W : World) (base g : Nat) (v : Value) (bs : List Int) (hp : Pen 127 W base g v bs) (hl : bs.length + (s.size + 5) ≤ 140737488355328) :
  Calls Tryz.prog 165 #[.pointer (some ⟨g, 0, none⟩), .string s] W fun e W' => e = .returned (.tuple #[]) ∧ Wrote 127 W W' base g v (bs ++ encTxt s) := by
 have HP := Aside0.mk hp
 have hcell := hp.cell
 have hfree := hp.free
 clear hp
 go_enter Tryz.func165, Tryz.ntmps165
 go_wp2_with (first | (go_at_call 226; (with_reducible refine (text_any s h0 _).mono ?_); rintro e w1 ⟨bv, rfl, ho, hb⟩; have HO := Aside0.mk ho; have HB := Aside0.mk hb; have hc1 := (HP.out.below hb).cell; have hf1 := (HP.out.below hb).free; obtain ⟨A1, c1, rfl, hr1⟩ := own_reads (Kd.own_of_R ho); have HR := Aside0.mk hr1; clear ho hb hr1 hcell hfree) | ((with_reducible refine gate_builtin (b := .append) (xs := #[.tmp 19, .tmp 20]) rfl ?_); at_builtin; refine print_append_row (w0 := W) base rfl (.tmp 19) (.tmp 20) 41 5 .u8 1 rfl Tryz.underlying41 info5 (by decide) v bs _ A1 _ c1 rfl rfl (HP.out.below HB.out).own HR.out ?aB ?aS ?aL ?_; (case aB => exact below_le HB.out HP.out.size); (case aS => exact (HP.out.below HB.out).size); (case aL => have := encNum_len (s.size : Int); simp only [encTxt, List.length_append, bytesOf_length]; omega); intro v2 w2 ho2 _ hg2 hat2; obtain ⟨A2, c2, rfl⟩ := own_slice ho2; have hc2 : w2.cell? ⟨g, 0, none⟩ = some v := blk_cell (blk_grown (HP.out.below HB.out).blk hg2 HP.out.ne) 0; have hf2 := blk_frozen (blk_grown (HP.out.below HB.out).blk hg2 HP.out.ne) 0; have HW := Aside0.mk (Wrote.put HP.out HB.out ho2 hg2 hat2); clear ho2 hg2 hat2 hc1 hf1))
 go_end0
 exact ⟨rfl, by simpa only [List.length_append] using HW.out⟩
set_option maxRecDepth 100000 in
theorem pnum (x : Int) (h0 : 0 ≤ x) (h1 : x ≤ 2147483647) (W : World) (base g : Nat) (v : Value) (bs : List Int) (hp : Pen 131 W base g v bs) (hl : bs.length + 5 ≤ 140737488355328) :
  Calls Tryz.prog 63 #[.pointer (some ⟨g, 0, none⟩), .int .i64 x] W fun e W' => e = .returned (.tuple #[]) ∧ Wrote 131 W W' base g v (bs ++ encNum x) := by
 obtain ⟨n, rfl⟩ := Int.eq_ofNat_of_zero_le h0
 have HP := Aside0.mk hp
 have hcell := hp.cell
 have hfree := hp.free
 clear hp
 go_enter Tryz.func63, Tryz.ntmps63
 go_wp2_with (first | (go_at_call 102; (with_reducible refine (refNumber_any n (by omega) _).mono ?_); rintro e w1 ⟨bv, rfl, ho, hb⟩; have HO := Aside0.mk ho; have HB := Aside0.mk hb; have hc1 := (HP.out.below hb).cell; have hf1 := (HP.out.below hb).free; obtain ⟨A1, c1, rfl, hr1⟩ := own_reads (Kd.own_of_R ho); have HR := Aside0.mk hr1; clear ho hb hr1 hcell hfree) | ((with_reducible refine gate_builtin (b := .append) (xs := #[.tmp 15, .tmp 16]) rfl ?_); at_builtin; refine print_append_row (w0 := W) base rfl (.tmp 15) (.tmp 16) 41 5 .u8 1 rfl Tryz.underlying41 info5 (by decide) v bs _ A1 _ c1 rfl rfl (HP.out.below HB.out).own HR.out ?aB ?aS ?aL ?_; (case aB => exact below_le HB.out HP.out.size); (case aS => exact (HP.out.below HB.out).size); (case aL => have := encNum_len (n : Int); omega); intro v2 w2 ho2 _ hg2 hat2; obtain ⟨A2, c2, rfl⟩ := own_slice ho2; have hc2 : w2.cell? ⟨g, 0, none⟩ = some v := blk_cell (blk_grown (HP.out.below HB.out).blk hg2 HP.out.ne) 0; have hf2 := blk_frozen (blk_grown (HP.out.below HB.out).blk hg2 HP.out.ne) 0; have HW := Aside0.mk (Wrote.put HP.out HB.out ho2 hg2 hat2); clear ho2 hg2 hat2 hc1 hf1))
 go_end0
 exact ⟨rfl, by simpa only [List.length_append] using HW.out⟩
set_option maxRecDepth 100000 in
theorem ptxt (s : ByteArray) (h0 : s.size ≤ 262144) (W : World) (base g : Nat) (v : Value) (bs : List Int) (hp : Pen 131 W base g v bs) (hl : bs.length + (s.size + 5) ≤ 140737488355328) :
  Calls Tryz.prog 108 #[.pointer (some ⟨g, 0, none⟩), .string s] W fun e W' => e = .returned (.tuple #[]) ∧ Wrote 131 W W' base g v (bs ++ encTxt s) := by
 have HP := Aside0.mk hp
 have hcell := hp.cell
 have hfree := hp.free
 clear hp
 go_enter Tryz.func108, Tryz.ntmps108
 go_wp2_with (first | (go_at_call 157; (with_reducible refine (refText_any s h0 _).mono ?_); rintro e w1 ⟨bv, rfl, ho, hb⟩; have HO := Aside0.mk ho; have HB := Aside0.mk hb; have hc1 := (HP.out.below hb).cell; have hf1 := (HP.out.below hb).free; obtain ⟨A1, c1, rfl, hr1⟩ := own_reads (Kd.own_of_R ho); have HR := Aside0.mk hr1; clear ho hb hr1 hcell hfree) | ((with_reducible refine gate_builtin (b := .append) (xs := #[.tmp 15, .tmp 16]) rfl ?_); at_builtin; refine print_append_row (w0 := W) base rfl (.tmp 15) (.tmp 16) 41 5 .u8 1 rfl Tryz.underlying41 info5 (by decide) v bs _ A1 _ c1 rfl rfl (HP.out.below HB.out).own HR.out ?aB ?aS ?aL ?_; (case aB => exact below_le HB.out HP.out.size); (case aS => exact (HP.out.below HB.out).size); (case aL => have := encNum_len (s.size : Int); simp only [encTxt, List.length_append, bytesOf_length]; omega); intro v2 w2 ho2 _ hg2 hat2; obtain ⟨A2, c2, rfl⟩ := own_slice ho2; have hc2 : w2.cell? ⟨g, 0, none⟩ = some v := blk_cell (blk_grown (HP.out.below HB.out).blk hg2 HP.out.ne) 0; have hf2 := blk_frozen (blk_grown (HP.out.below HB.out).blk hg2 HP.out.ne) 0; have HW := Aside0.mk (Wrote.put HP.out HB.out ho2 hg2 hat2); clear ho2 hg2 hat2 hc1 hf1))
 go_end0
 exact ⟨rfl, by simpa only [List.length_append] using HW.out⟩
structure Pend (T : Nat) (W0 W : World) (base g : Nat) (v0 v : Value) (bs : List Int) (B : Nat → Obj → Prop) : Prop where mk ::
 pen : Pen T W base g v bs
 mov : Moved W0 W (pens g v0)
 keep : ∀ k, pens g v k → pens g v0 k ∨ W0.heap.size ≤ k
 box : ∀ k o, B k o → W.heap[k]? = some o ∧ ¬ pens g v k
theorem Pend.begin_ {T : Nat} {W : World} {base g : Nat} {v : Value} {bs : List Int} (h : Pen T W base g v bs) : Pend T W W base g v v bs (fun _ _ => False) :=
 ⟨h, Moved.refl _ _, fun _ hk => .inl hk, fun _ _ hk => hk.elim⟩
theorem Pend.lay {T : Nat} {W0 W : World} {base g : Nat} {v0 v : Value} {bs : List Int} {B : Nat → Obj → Prop} (h : Pend T W0 W base g v0 v bs B) (o : Obj) : Pend T W0 (W.alloc o) base g v0 v bs (fun k o' => B k o' ∨ (k = W.heap.size ∧ o' = o)) := by
 refine ⟨h.pen.alloc o, h.mov.alloc o, h.keep, fun k o' hk => ?_⟩
 rcases hk with hk | ⟨rfl, rfl⟩
 · have h1 := h.box k o' hk
   exact ⟨blk_below (below_alloc (Below.refl _ _) o) h1.1, h1.2⟩
 · exact ⟨blk_alloc _, fun hp => by have := h.pen.lt _ hp; omega⟩
theorem Pend.less {T : Nat} {W0 W : World} {base g : Nat} {v0 v : Value} {bs : List Int} {B B' : Nat → Obj → Prop} (h : Pend T W0 W base g v0 v bs B) (hB : ∀ k o, B' k o → B k o) : Pend T W0 W base g v0 v bs B' := ⟨h.pen, h.mov, h.keep, fun k o hk => h.box k o (hB k o hk)⟩
theorem Pend.step {T : Nat} {W0 W W1 : World} {base g : Nat} {v0 v : Value} {bs bs1 : List Int} {B : Nat → Obj → Prop} (h : Pend T W0 W base g v0 v bs B) (hw : Wrote T W W1 base g v bs1) : ∃ v1, Pend T W0 W1 base g v0 v1 bs1 B := by
 obtain ⟨v1, hp, hm, hk⟩ := hw
 refine ⟨v1, hp, h.mov.trans hm (fun k hl hs => (h.keep k hs).resolve_right (by omega)), fun k hs => ?_, fun k o hB => ?_⟩
 · rcases hk k hs with h1 | h1
   · exact h.keep k h1
   · exact .inr (Nat.le_trans h.mov.size h1)
 · obtain ⟨h1, h2⟩ := h.box k o hB
   refine ⟨hm.blk h1 h2, fun hs => ?_⟩
   rcases hk k hs with h3 | h3
   · exact h2 h3
   · have := blk_lt h1
     omega
theorem Pend.wrote {T : Nat} {W0 W : World} {base g : Nat} {v0 v : Value} {bs : List Int} {B : Nat → Obj → Prop} (h : Pend T W0 W base g v0 v bs B) : Wrote T W0 W base g v0 bs := ⟨v, h.pen, h.mov, h.keep⟩
theorem Pend.cells {T : Nat} {W0 W : World} {base g : Nat} {v0 v : Value} {bs : List Int} {B : Nat → Obj → Prop} (h : Pend T W0 W base g v0 v bs B) {k t : Nat} {cs : Array Value} (hB : B k (.cells cs t (0, 0))) (i : Nat) : W.cell? ⟨k, i, none⟩ = cs[i]? := blk_cell (h.box _ _ hB).1 i
theorem Pend.above {bs0 : List Int} {T : Nat} {w0 W0 W : World} {base g : Nat} {v0 v : Value} {bs : List Int} {B : Nat → Obj → Prop} (h : Pend T W0 W base g v0 v bs B) (h0 : Pen T W0 base g v0 bs0) (hb : Below w0.heap.size w0 W0) (hbase : w0.heap.size ≤ base) : Below w0.heap.size w0 W :=
 h.mov.above hb (fun k hk => Nat.le_trans hbase (h0.base_le k hk))
end Go.Proofs.YtmneemhplffemaaGreatDoorRR.Mem
namespace Go.Proofs.YtmneemhplffemaaGreatDoorRR.Put
open Go.RowKit Go.Proofs.YtmneemhplffemaaGreatDoorRR.Ext Go.Proofs.YtmneemhplffemaaGreatDoorRR.Wire Go.Proofs.YtmneemhplffemaaGreatDoorRR.Mem Go.Proofs.YtmneemhplffemaaGreatDoorRR.Ki Go.Proofs.YtmneemhplffemaaGreatDoorRRW.PrintWords
def isN (v : Int) : Prop := 0 ≤ v ∧ v ≤ 2147483647
theorem num_le (v : Int) : (encNum v).length ≤ 5 := (encNum_len v).2
theorem txt_le (s : ByteArray) : (encTxt s).length ≤ s.size + 5 := by
 have := encNum_len (s.size : Int)
 simp only [encTxt, List.length_append, bytesOf_length]
 omega
section
variable {W0 W : World} {base g : Nat} {v0 v : Value} {bs : List Int} {B : Nat → Obj → Prop}
theorem Pend.num (h : Pend 127 W0 W base g v0 v bs B) (x : Int) (hx : isN x) (hl : bs.length + 5 ≤ 140737488355328) :
  Calls Tryz.prog 61 #[.pointer (some ⟨g, 0, none⟩), .int .i64 x] W fun e W' => e = .returned (.tuple #[]) ∧ ∃ v', Pend 127 W0 W' base g v0 v' (bs ++ encNum x) B :=
 (wnum x hx.1 hx.2 W base g v bs h.pen hl).mono fun _ _ ⟨he, hw⟩ => ⟨he, h.step hw⟩
theorem Pend.txt (h : Pend 127 W0 W base g v0 v bs B) (s : ByteArray) (hs : s.size ≤ 262144) (hl : bs.length + (s.size + 5) ≤ 140737488355328) :
  Calls Tryz.prog 165 #[.pointer (some ⟨g, 0, none⟩), .string s] W fun e W' => e = .returned (.tuple #[]) ∧ ∃ v', Pend 127 W0 W' base g v0 v' (bs ++ encTxt s) B :=
 (wtxt s hs W base g v bs h.pen hl).mono fun _ _ ⟨he, hw⟩ => ⟨he, h.step hw⟩
end
abbrev Op := S78
def encOp (o : Op) : List Int := encNum o.f0 ++ encTxt o.f1 ++ encTxt o.f2 ++ (if o.f3 = -1 then encNum 0 else encNum 1 ++ encNum o.f3) ++ encNum o.f4
structure OpOk (o : Op) : Prop where
 n0 : isN o.f0
 t1 : o.f1.size ≤ 256
 t2 : o.f2.size ≤ 256
 n3 : o.f3 = -1 ∨ isN o.f3
 n4 : isN o.f4
set_option maxRecDepth 100000 in
theorem putOp_any (x : Op) (hx : OpOk x) (cs : List Value) (w0 W : World) (hk : k78.K w0 x cs) (_hb : Below w0.heap.size w0 W) (base g : Nat) (v : Value) (bs : List Int) (hp : Pen 127 W base g v bs) (hl : bs.length + 2000 ≤ 140737488355328) :
   Calls Tryz.prog 121 #[.pointer (some ⟨g, 0, none⟩), .agg cs.toArray] W fun e W' => e = .returned (.tuple #[]) ∧ Wrote 127 W W' base g v (bs ++ encOp x) := by
 obtain rfl := k78_open hk
 have HX := Aside0.mk hx
 have HS0 := Aside0.mk ((Pend.begin_ hp).lay (.cells #[.int .i64 x.f0, .string x.f1, .string x.f2, .int .i64 x.f3, .int .i64 x.f4] 78 (0, 0)))
 have e0 := num_le x.f0
 have e1 := txt_le x.f1
 have e2 := txt_le x.f2
 have e3 := num_le x.f3
 have e5 := num_le 0
 have e6 := num_le 1
 have h1 := hx.t1
 have h2 := hx.t2
 clear hk hp
 by_cases hv : x.f3 = -1
 · have hvd : (x.f3 == -1) = true := by simp [hv]
   have HE := Aside0.mk (show encOp x = encNum x.f0 ++ encTxt x.f1 ++ encTxt x.f2 ++ encNum 0 ++ encNum x.f4 by unfold encOp; rw [if_pos hv])
   clear hv hx
   go_enter Tryz.func121, Tryz.ntmps121
   go_wp2_with fail
   refine (Pend.num HS0.out x.f0 HX.out.n0 (by first | omega | (simp only [List.length_append]; omega))).mono ?_
   rintro e w1 ⟨rfl, v1, hs1⟩
   have hc1 := hs1.cells (k := W.heap.size) (.inr ⟨rfl, rfl⟩)
   have HS1 := Aside0.mk hs1
   clear hs1
   go_wp2_with fail
   refine (Pend.txt HS1.out x.f1 (by omega) (by first | omega | (simp only [List.length_append]; omega))).mono ?_
   rintro e w2 ⟨rfl, v2, hs2⟩
   have hc2 := hs2.cells (k := W.heap.size) (.inr ⟨rfl, rfl⟩)
   have HS2 := Aside0.mk hs2
   clear hs2 hc1
   go_wp2_with fail
   refine (Pend.txt HS2.out x.f2 (by omega) (by first | omega | (simp only [List.length_append]; omega))).mono ?_
   rintro e w3 ⟨rfl, v3, hs3⟩
   have hc3 := hs3.cells (k := W.heap.size) (.inr ⟨rfl, rfl⟩)
   have HS3 := Aside0.mk hs3
   clear hs3 hc2
   go_wp2_with fail
   refine (Pend.num HS3.out 0 ⟨by omega, by omega⟩ (by first | omega | (simp only [List.length_append]; omega))).mono ?_
   rintro e w4 ⟨rfl, v4, hs4⟩
   have hc4 := hs4.cells (k := W.heap.size) (.inr ⟨rfl, rfl⟩)
   have HS4 := Aside0.mk hs4
   clear hs4 hc3
   go_wp2_with fail
   refine (Pend.num HS4.out x.f4 HX.out.n4 (by first | omega | (simp only [List.length_append]; omega))).mono ?_
   rintro e w5 ⟨rfl, v5, hs5⟩
   have hc5 := hs5.cells (k := W.heap.size) (.inr ⟨rfl, rfl⟩)
   have HS5 := Aside0.mk hs5
   clear hs5 hc4
   go_wp2_with fail
   go_end0
   exact ⟨rfl, by rw [HE.out]; simpa only [List.append_assoc] using HS5.out.wrote⟩
 · have hvd : (x.f3 == -1) = false := by simp [hv]
   have HN := Aside0.mk (hx.n3.resolve_left hv)
   have HE := Aside0.mk (show encOp x = encNum x.f0 ++ encTxt x.f1 ++ encTxt x.f2 ++ encNum 1 ++ encNum x.f3 ++ encNum x.f4 by unfold encOp; rw [if_neg hv]; simp only [List.append_assoc])
   clear hv hx
   go_enter Tryz.func121, Tryz.ntmps121
   go_wp2_with fail
   refine (Pend.num HS0.out x.f0 HX.out.n0 (by first | omega | (simp only [List.length_append]; omega))).mono ?_
   rintro e w1 ⟨rfl, v1, hs1⟩
   have hc1 := hs1.cells (k := W.heap.size) (.inr ⟨rfl, rfl⟩)
   have HS1 := Aside0.mk hs1
   clear hs1
   go_wp2_with fail
   refine (Pend.txt HS1.out x.f1 (by omega) (by first | omega | (simp only [List.length_append]; omega))).mono ?_
   rintro e w2 ⟨rfl, v2, hs2⟩
   have hc2 := hs2.cells (k := W.heap.size) (.inr ⟨rfl, rfl⟩)
   have HS2 := Aside0.mk hs2
   clear hs2 hc1
   go_wp2_with fail
   refine (Pend.txt HS2.out x.f2 (by omega) (by first | omega | (simp only [List.length_append]; omega))).mono ?_
   rintro e w3 ⟨rfl, v3, hs3⟩
   have hc3 := hs3.cells (k := W.heap.size) (.inr ⟨rfl, rfl⟩)
   have HS3 := Aside0.mk hs3
   clear hs3 hc2
   go_wp2_with fail
   refine (Pend.num HS3.out 1 ⟨by omega, by omega⟩ (by first | omega | (simp only [List.length_append]; omega))).mono ?_
   rintro e w4 ⟨rfl, v4, hs4⟩
   have hc4 := hs4.cells (k := W.heap.size) (.inr ⟨rfl, rfl⟩)
   have HS4 := Aside0.mk hs4
   clear hs4 hc3
   go_wp2_with fail
   refine (Pend.num HS4.out x.f3 HN.out (by first | omega | (simp only [List.length_append]; omega))).mono ?_
   rintro e w5 ⟨rfl, v5, hs5⟩
   have hc5 := hs5.cells (k := W.heap.size) (.inr ⟨rfl, rfl⟩)
   have HS5 := Aside0.mk hs5
   clear hs5 hc4
   go_wp2_with fail
   refine (Pend.num HS5.out x.f4 HX.out.n4 (by first | omega | (simp only [List.length_append]; omega))).mono ?_
   rintro e w6 ⟨rfl, v6, hs6⟩
   have hc6 := hs6.cells (k := W.heap.size) (.inr ⟨rfl, rfl⟩)
   have HS6 := Aside0.mk hs6
   clear hs6 hc5
   go_wp2_with fail
   go_end0
   exact ⟨rfl, by rw [HE.out]; simpa only [List.append_assoc] using HS6.out.wrote⟩
end Go.Proofs.YtmneemhplffemaaGreatDoorRR.Put
namespace Go.Proofs.YtmneemhplffemaaGreatDoorRR.Put
open Go.RowKit Go.Proofs.YtmneemhplffemaaGreatDoorRR.Ext Go.Proofs.YtmneemhplffemaaGreatDoorRR.Wire Go.Proofs.YtmneemhplffemaaGreatDoorRR.Mem Go.Proofs.YtmneemhplffemaaGreatDoorRR.Ki Go.Proofs.YtmneemhplffemaaGreatDoorRRW.PrintWords
def encList {α : Type} (enc : α → List Int) (xs : List α) : List Int := encNum (xs.length : Int) ++ xs.flatMap enc
theorem flat_le {α : Type} {enc : α → List Int} {n : Nat} {xs : List α} (h : ∀ x ∈ xs, (enc x).length ≤ n) : (xs.flatMap enc).length ≤ xs.length * n := by
 induction xs with
 | nil => simp
 | cons x xs ih =>
   have h1 := h x List.mem_cons_self
   have h2 := ih (fun y hy => h y (List.mem_cons_of_mem _ hy))
   simp only [List.flatMap_cons, List.length_append, List.length_cons, Nat.succ_mul]
   omega
theorem flat_take {α : Type} {enc : α → List Int} {ok : α → Prop} {n : Nat} {xs : List α} (k : Nat) (h : ∀ x, ok x → (enc x).length ≤ n) (ha : ∀ x ∈ xs, ok x) : ((xs.take k).flatMap enc).length ≤ xs.length * n := by
 refine Nat.le_trans (flat_le (fun x hx => h x (ha x (List.mem_of_mem_take hx)))) (Nat.mul_le_mul_right _ ?_)
 rw [List.length_take]
 omega
theorem flat_snoc {α : Type} {enc : α → List Int} {xs : List α} {k : Nat} {x : α} (h : xs[k]? = some x) : (xs.take (k + 1)).flatMap enc = (xs.take k).flatMap enc ++ enc x := by
 obtain ⟨hl, he⟩ := List.getElem?_eq_some_iff.1 h
 rw [List.take_succ_eq_append_getElem hl, he]
 simp
def PutOp (K : FuncId) (enc : S78 → List Int) (ok : S78 → Prop) (n : Nat) : Prop :=
 ∀ (x : S78) (cs : List Value) (w0 W : World), ok x → k78.K w0 x cs → Below w0.heap.size w0 W → ∀ (base g : Nat) (v : Value) (bs : List Int), w0.heap.size ≤ base → Pen 127 W base g v bs → bs.length + n ≤ 140737488355328 →
  Calls Tryz.prog K #[.pointer (some ⟨g, 0, none⟩), .agg cs.toArray] W fun e W' => e = .returned (.tuple #[]) ∧ Wrote 127 W W' base g v (bs ++ enc x)
set_option maxRecDepth 100000 in
set_option maxHeartbeats 1000000 in
theorem putList_Op (K : FuncId) (hK : ∀ (args : Array Value) (w : World), (callFunc K args).run Tryz.prog w = .ok (.enter K args) w) (enc : S78 → List Int) (ok : S78 → Prop) (n : Nat) (hE : PutOp K enc ok n) (hn : ∀ x, ok x → (enc x).length ≤ n)
  (A : Option Addr) (c : Nat) (xs : List S78) (w0 W : World) (hC : k78.C w0 A xs.length xs) (hall : ∀ x ∈ xs, ok x) (hb : Below w0.heap.size w0 W) (base g : Nat) (v : Value) (bs : List Int) (hbase : w0.heap.size ≤ base) (hp : Pen 127 W base g v bs) (hlen : xs.length ≤ 1000) (hl : bs.length + 5 + xs.length * n + n ≤ 140737488355328) :
  Calls Tryz.prog 120 #[.pointer (some ⟨g, 0, none⟩), .slice A xs.length c, .func (.func K) #[] #[]] W fun e W' => e = .returned (.tuple #[]) ∧ Wrote 127 W W' base g v (bs ++ encList enc xs) := by
 have HS0 := Aside0.mk (Pend.begin_ hp)
 have HP := Aside0.mk hp
 have HE := Aside0.mk hE
 have HN := Aside0.mk (fun k => flat_take k hn hall)
 have HC := Aside0.mk hC
 have HA := Aside0.mk hall
 have HB := Aside0.mk hb
 have HL := Aside0.mk hl
 have e0 := num_le (xs.length : Int)
 clear hp hE hn hC hall hb hl
 go_enter Tryz.func120, Tryz.ntmps120
 go_wp2_with fail
 refine (Pend.num HS0.out (xs.length : Int) ⟨by omega, by omega⟩ (by have := HL.out; omega)).mono ?_
 rintro e w1 ⟨rfl, v1, hs1⟩
 have HS1 := Aside0.mk hs1
 clear hs1
 go_wp2_with fail
 go_loopw [14] (fun v14 wr => ∃ k : Nat, v14 = .int .i64 k ∧ k ≤ xs.length ∧ ∃ v' : Value, Aside0 (Pend 127 W wr base g v v' (bs ++ encNum (xs.length : Int) ++ (xs.take k).flatMap enc) (fun _ _ => False))) (fun v14 _ => xs.length - (intOf v14).toNat)
 case atStart => exact ⟨0, rfl, Nat.zero_le _, v1, ⟨by simpa using HS1.out⟩⟩
 case round =>
  obtain ⟨k, rfl, hk, v', HS⟩ := hrel
  by_cases hlt : k < xs.length
  · obtain ⟨x, hxe⟩ : ∃ x, xs[k]? = some x := ⟨_, List.getElem?_eq_getElem hlt⟩
    have HX := Aside0.mk hxe
    have HBR := Aside0.mk (HS.out.above HP.out HB.out hbase)
    have hat := at_T78 HC.out (k : Int) (by omega) (by omega)
    rw [show rd_T78 xs (k : Int) = x by unfold rd_T78; rw [Int.toNat_natCast, List.getD_eq_getElem?_getD, hxe]; rfl, Int.toNat_natCast] at hat
    clear hxe
    obtain ⟨ad, rfl, h0, h1, h2, h3, h4⟩ := hat
    have HK0 := Aside0.mk (k78_mk w0 x )
    replace h0 := pw_cell_below HBR.out h0
    replace h1 := pw_cell_below HBR.out h1
    replace h2 := pw_cell_below HBR.out h2
    replace h3 := pw_cell_below HBR.out h3
    replace h4 := pw_cell_below HBR.out h4
    go_wp2_with fail
    refine (HE.out x _ w0 _ (HA.out x (List.mem_of_getElem? HX.out)) HK0.out (below_alloc HBR.out _) base g v' _ hbase (HS.out.pen.alloc _) (by have := HN.out k; have := HL.out; simp only [List.length_append]; omega)).mono ?_
    rintro e w2 ⟨rfl, hw⟩
    obtain ⟨v2, hs2⟩ := (HS.out.lay _).step hw
    have HS2 := Aside0.mk (hs2.less (B' := fun _ _ => False) (fun _ _ h => h.elim))
    clear hs2 hw h0 h1 h2 h3 h4
    go_wp2_with fail
    go_roundw
    case rel => exact ⟨k + 1, by go_num, by omega, v2, ⟨by rw [flat_snoc HX.out, ← List.append_assoc]; exact HS2.out⟩⟩
    case measure => simp [intOf]; omega
  · go_wp2_with fail
    go_end0
    exact ⟨rfl, by have h := HS.out.wrote; rw [List.take_of_length_le (by omega)] at h; unfold encList; rw [← List.append_assoc]; exact h⟩
def PutWatch (K : FuncId) (enc : S96 → List Int) (ok : S96 → Prop) (n : Nat) : Prop :=
 ∀ (x : S96) (cs : List Value) (w0 W : World), ok x → k96.K w0 x cs → Below w0.heap.size w0 W → ∀ (base g : Nat) (v : Value) (bs : List Int), w0.heap.size ≤ base → Pen 127 W base g v bs → bs.length + n ≤ 140737488355328 →
  Calls Tryz.prog K #[.pointer (some ⟨g, 0, none⟩), .agg cs.toArray] W fun e W' => e = .returned (.tuple #[]) ∧ Wrote 127 W W' base g v (bs ++ enc x)
set_option maxRecDepth 100000 in
set_option maxHeartbeats 1000000 in
theorem putList_Watch (K : FuncId) (hK : ∀ (args : Array Value) (w : World), (callFunc K args).run Tryz.prog w = .ok (.enter K args) w) (enc : S96 → List Int) (ok : S96 → Prop) (n : Nat) (hE : PutWatch K enc ok n) (hn : ∀ x, ok x → (enc x).length ≤ n)
  (A : Option Addr) (c : Nat) (xs : List S96) (w0 W : World) (hC : k96.C w0 A xs.length xs) (hall : ∀ x ∈ xs, ok x) (hb : Below w0.heap.size w0 W) (base g : Nat) (v : Value) (bs : List Int) (hbase : w0.heap.size ≤ base) (hp : Pen 127 W base g v bs) (hlen : xs.length ≤ 1000) (hl : bs.length + 5 + xs.length * n + n ≤ 140737488355328) :
  Calls Tryz.prog 229 #[.pointer (some ⟨g, 0, none⟩), .slice A xs.length c, .func (.func K) #[] #[]] W fun e W' => e = .returned (.tuple #[]) ∧ Wrote 127 W W' base g v (bs ++ encList enc xs) := by
 have HS0 := Aside0.mk (Pend.begin_ hp)
 have HP := Aside0.mk hp
 have HE := Aside0.mk hE
 have HN := Aside0.mk (fun k => flat_take k hn hall)
 have HC := Aside0.mk hC
 have HA := Aside0.mk hall
 have HB := Aside0.mk hb
 have HL := Aside0.mk hl
 have e0 := num_le (xs.length : Int)
 clear hp hE hn hC hall hb hl
 go_enter Tryz.func229, Tryz.ntmps229
 go_wp2_with fail
 refine (Pend.num HS0.out (xs.length : Int) ⟨by omega, by omega⟩ (by have := HL.out; omega)).mono ?_
 rintro e w1 ⟨rfl, v1, hs1⟩
 have HS1 := Aside0.mk hs1
 clear hs1
 go_wp2_with fail
 go_loopw [14] (fun v14 wr => ∃ k : Nat, v14 = .int .i64 k ∧ k ≤ xs.length ∧ ∃ v' : Value, Aside0 (Pend 127 W wr base g v v' (bs ++ encNum (xs.length : Int) ++ (xs.take k).flatMap enc) (fun _ _ => False))) (fun v14 _ => xs.length - (intOf v14).toNat)
 case atStart => exact ⟨0, rfl, Nat.zero_le _, v1, ⟨by simpa using HS1.out⟩⟩
 case round =>
  obtain ⟨k, rfl, hk, v', HS⟩ := hrel
  by_cases hlt : k < xs.length
  · obtain ⟨x, hxe⟩ : ∃ x, xs[k]? = some x := ⟨_, List.getElem?_eq_getElem hlt⟩
    have HX := Aside0.mk hxe
    have HBR := Aside0.mk (HS.out.above HP.out HB.out hbase)
    have hat := at_T96 HC.out (k : Int) (by omega) (by omega)
    rw [show rd_T96 xs (k : Int) = x by unfold rd_T96; rw [Int.toNat_natCast, List.getD_eq_getElem?_getD, hxe]; rfl, Int.toNat_natCast] at hat
    clear hxe
    obtain ⟨ad, rfl, h0, h1, h2, h3⟩ := hat
    have HK0 := Aside0.mk (k96_mk w0 x )
    replace h0 := pw_cell_below HBR.out h0
    replace h1 := pw_cell_below HBR.out h1
    replace h2 := pw_cell_below HBR.out h2
    replace h3 := pw_cell_below HBR.out h3
    go_wp2_with fail
    refine (HE.out x _ w0 _ (HA.out x (List.mem_of_getElem? HX.out)) HK0.out (below_alloc HBR.out _) base g v' _ hbase (HS.out.pen.alloc _) (by have := HN.out k; have := HL.out; simp only [List.length_append]; omega)).mono ?_
    rintro e w2 ⟨rfl, hw⟩
    obtain ⟨v2, hs2⟩ := (HS.out.lay _).step hw
    have HS2 := Aside0.mk (hs2.less (B' := fun _ _ => False) (fun _ _ h => h.elim))
    clear hs2 hw h0 h1 h2 h3
    go_wp2_with fail
    go_roundw
    case rel => exact ⟨k + 1, by go_num, by omega, v2, ⟨by rw [flat_snoc HX.out, ← List.append_assoc]; exact HS2.out⟩⟩
    case measure => simp [intOf]; omega
  · go_wp2_with fail
    go_end0
    exact ⟨rfl, by have h := HS.out.wrote; rw [List.take_of_length_le (by omega)] at h; unfold encList; rw [← List.append_assoc]; exact h⟩
def PutSeen (K : FuncId) (enc : S88 → List Int) (ok : S88 → Prop) (n : Nat) : Prop :=
 ∀ (x : S88) (cs : List Value) (w0 W : World), ok x → k88.K w0 x cs → Below w0.heap.size w0 W → ∀ (base g : Nat) (v : Value) (bs : List Int), w0.heap.size ≤ base → Pen 127 W base g v bs → bs.length + n ≤ 140737488355328 →
  Calls Tryz.prog K #[.pointer (some ⟨g, 0, none⟩), .agg cs.toArray] W fun e W' => e = .returned (.tuple #[]) ∧ Wrote 127 W W' base g v (bs ++ enc x)
set_option maxRecDepth 100000 in
set_option maxHeartbeats 1000000 in
theorem putList_Seen (K : FuncId) (hK : ∀ (args : Array Value) (w : World), (callFunc K args).run Tryz.prog w = .ok (.enter K args) w) (enc : S88 → List Int) (ok : S88 → Prop) (n : Nat) (hE : PutSeen K enc ok n) (hn : ∀ x, ok x → (enc x).length ≤ n)
  (A : Option Addr) (c : Nat) (xs : List S88) (w0 W : World) (hC : k88.C w0 A xs.length xs) (hall : ∀ x ∈ xs, ok x) (hb : Below w0.heap.size w0 W) (base g : Nat) (v : Value) (bs : List Int) (hbase : w0.heap.size ≤ base) (hp : Pen 127 W base g v bs) (hlen : xs.length ≤ 1000) (hl : bs.length + 5 + xs.length * n + n ≤ 140737488355328) :
  Calls Tryz.prog 257 #[.pointer (some ⟨g, 0, none⟩), .slice A xs.length c, .func (.func K) #[] #[]] W fun e W' => e = .returned (.tuple #[]) ∧ Wrote 127 W W' base g v (bs ++ encList enc xs) := by
 have HS0 := Aside0.mk (Pend.begin_ hp)
 have HP := Aside0.mk hp
 have HE := Aside0.mk hE
 have HN := Aside0.mk (fun k => flat_take k hn hall)
 have HC := Aside0.mk hC
 have HA := Aside0.mk hall
 have HB := Aside0.mk hb
 have HL := Aside0.mk hl
 have e0 := num_le (xs.length : Int)
 clear hp hE hn hC hall hb hl
 go_enter Tryz.func257, Tryz.ntmps257
 go_wp2_with fail
 refine (Pend.num HS0.out (xs.length : Int) ⟨by omega, by omega⟩ (by have := HL.out; omega)).mono ?_
 rintro e w1 ⟨rfl, v1, hs1⟩
 have HS1 := Aside0.mk hs1
 clear hs1
 go_wp2_with fail
 go_loopw [14] (fun v14 wr => ∃ k : Nat, v14 = .int .i64 k ∧ k ≤ xs.length ∧ ∃ v' : Value, Aside0 (Pend 127 W wr base g v v' (bs ++ encNum (xs.length : Int) ++ (xs.take k).flatMap enc) (fun _ _ => False))) (fun v14 _ => xs.length - (intOf v14).toNat)
 case atStart => exact ⟨0, rfl, Nat.zero_le _, v1, ⟨by simpa using HS1.out⟩⟩
 case round =>
  obtain ⟨k, rfl, hk, v', HS⟩ := hrel
  by_cases hlt : k < xs.length
  · obtain ⟨x, hxe⟩ : ∃ x, xs[k]? = some x := ⟨_, List.getElem?_eq_getElem hlt⟩
    have HX := Aside0.mk hxe
    have HBR := Aside0.mk (HS.out.above HP.out HB.out hbase)
    have hat := at_T88 HC.out (k : Int) (by omega) (by omega)
    rw [show rd_T88 xs (k : Int) = x by unfold rd_T88; rw [Int.toNat_natCast, List.getD_eq_getElem?_getD, hxe]; rfl, Int.toNat_natCast] at hat
    clear hxe
    obtain ⟨ad, rfl, h0, h1, h2⟩ := hat
    have HK0 := Aside0.mk (k88_mk w0 x )
    replace h0 := pw_cell_below HBR.out h0
    replace h1 := pw_cell_below HBR.out h1
    replace h2 := pw_cell_below HBR.out h2
    go_wp2_with fail
    refine (HE.out x _ w0 _ (HA.out x (List.mem_of_getElem? HX.out)) HK0.out (below_alloc HBR.out _) base g v' _ hbase (HS.out.pen.alloc _) (by have := HN.out k; have := HL.out; simp only [List.length_append]; omega)).mono ?_
    rintro e w2 ⟨rfl, hw⟩
    obtain ⟨v2, hs2⟩ := (HS.out.lay _).step hw
    have HS2 := Aside0.mk (hs2.less (B' := fun _ _ => False) (fun _ _ h => h.elim))
    clear hs2 hw h0 h1 h2
    go_wp2_with fail
    go_roundw
    case rel => exact ⟨k + 1, by go_num, by omega, v2, ⟨by rw [flat_snoc HX.out, ← List.append_assoc]; exact HS2.out⟩⟩
    case measure => simp [intOf]; omega
  · go_wp2_with fail
    go_end0
    exact ⟨rfl, by have h := HS.out.wrote; rw [List.take_of_length_le (by omega)] at h; unfold encList; rw [← List.append_assoc]; exact h⟩
def PutEntry (K : FuncId) (enc : S55 → List Int) (ok : S55 → Prop) (n : Nat) : Prop :=
 ∀ (x : S55) (cs : List Value) (w0 W : World), ok x → k55.K w0 x cs → Below w0.heap.size w0 W → ∀ (base g : Nat) (v : Value) (bs : List Int), w0.heap.size ≤ base → Pen 127 W base g v bs → bs.length + n ≤ 140737488355328 →
  Calls Tryz.prog K #[.pointer (some ⟨g, 0, none⟩), .agg cs.toArray] W fun e W' => e = .returned (.tuple #[]) ∧ Wrote 127 W W' base g v (bs ++ enc x)
set_option maxRecDepth 100000 in
set_option maxHeartbeats 1000000 in
theorem putList_Entry (K : FuncId) (hK : ∀ (args : Array Value) (w : World), (callFunc K args).run Tryz.prog w = .ok (.enter K args) w) (enc : S55 → List Int) (ok : S55 → Prop) (n : Nat) (hE : PutEntry K enc ok n) (hn : ∀ x, ok x → (enc x).length ≤ n)
  (A : Option Addr) (c : Nat) (xs : List S55) (w0 W : World) (hC : k55.C w0 A xs.length xs) (hall : ∀ x ∈ xs, ok x) (hb : Below w0.heap.size w0 W) (base g : Nat) (v : Value) (bs : List Int) (hbase : w0.heap.size ≤ base) (hp : Pen 127 W base g v bs) (hlen : xs.length ≤ 1000) (hl : bs.length + 5 + xs.length * n + n ≤ 140737488355328) :
  Calls Tryz.prog 196 #[.pointer (some ⟨g, 0, none⟩), .slice A xs.length c, .func (.func K) #[] #[]] W fun e W' => e = .returned (.tuple #[]) ∧ Wrote 127 W W' base g v (bs ++ encList enc xs) := by
 have HS0 := Aside0.mk (Pend.begin_ hp)
 have HP := Aside0.mk hp
 have HE := Aside0.mk hE
 have HN := Aside0.mk (fun k => flat_take k hn hall)
 have HC := Aside0.mk hC
 have HA := Aside0.mk hall
 have HB := Aside0.mk hb
 have HL := Aside0.mk hl
 have e0 := num_le (xs.length : Int)
 clear hp hE hn hC hall hb hl
 go_enter Tryz.func196, Tryz.ntmps196
 go_wp2_with fail
 refine (Pend.num HS0.out (xs.length : Int) ⟨by omega, by omega⟩ (by have := HL.out; omega)).mono ?_
 rintro e w1 ⟨rfl, v1, hs1⟩
 have HS1 := Aside0.mk hs1
 clear hs1
 go_wp2_with fail
 go_loopw [14] (fun v14 wr => ∃ k : Nat, v14 = .int .i64 k ∧ k ≤ xs.length ∧ ∃ v' : Value, Aside0 (Pend 127 W wr base g v v' (bs ++ encNum (xs.length : Int) ++ (xs.take k).flatMap enc) (fun _ _ => False))) (fun v14 _ => xs.length - (intOf v14).toNat)
 case atStart => exact ⟨0, rfl, Nat.zero_le _, v1, ⟨by simpa using HS1.out⟩⟩
 case round =>
  obtain ⟨k, rfl, hk, v', HS⟩ := hrel
  by_cases hlt : k < xs.length
  · obtain ⟨x, hxe⟩ : ∃ x, xs[k]? = some x := ⟨_, List.getElem?_eq_getElem hlt⟩
    have HX := Aside0.mk hxe
    have HBR := Aside0.mk (HS.out.above HP.out HB.out hbase)
    have hat := at_T55 HC.out (k : Int) (by omega) (by omega)
    rw [show rd_T55 xs (k : Int) = x by unfold rd_T55; rw [Int.toNat_natCast, List.getD_eq_getElem?_getD, hxe]; rfl, Int.toNat_natCast] at hat
    clear hxe
    obtain ⟨ad, A5, c5, rfl, h0, h1, h2, h3, h4, h5, l5, g5⟩ := hat
    have HK0 := Aside0.mk (k55_mk w0 x l5 g5)
    replace h0 := pw_cell_below HBR.out h0
    replace h1 := pw_cell_below HBR.out h1
    replace h2 := pw_cell_below HBR.out h2
    replace h3 := pw_cell_below HBR.out h3
    replace h4 := pw_cell_below HBR.out h4
    replace h5 := pw_cell_below HBR.out h5
    clear l5 g5
    go_wp2_with fail
    refine (HE.out x _ w0 _ (HA.out x (List.mem_of_getElem? HX.out)) HK0.out (below_alloc HBR.out _) base g v' _ hbase (HS.out.pen.alloc _) (by have := HN.out k; have := HL.out; simp only [List.length_append]; omega)).mono ?_
    rintro e w2 ⟨rfl, hw⟩
    obtain ⟨v2, hs2⟩ := (HS.out.lay _).step hw
    have HS2 := Aside0.mk (hs2.less (B' := fun _ _ => False) (fun _ _ h => h.elim))
    clear hs2 hw h0 h1 h2 h3 h4 h5
    go_wp2_with fail
    go_roundw
    case rel => exact ⟨k + 1, by go_num, by omega, v2, ⟨by rw [flat_snoc HX.out, ← List.append_assoc]; exact HS2.out⟩⟩
    case measure => simp [intOf]; omega
  · go_wp2_with fail
    go_end0
    exact ⟨rfl, by have h := HS.out.wrote; rw [List.take_of_length_le (by omega)] at h; unfold encList; rw [← List.append_assoc]; exact h⟩
def Putstring (K : FuncId) (enc : ByteArray → List Int) (ok : ByteArray → Prop) (n : Nat) : Prop :=
 ∀ (x : ByteArray) (W : World), ok x → ∀ (base g : Nat) (v : Value) (bs : List Int), Pen 127 W base g v bs → bs.length + n ≤ 140737488355328 →
  Calls Tryz.prog K #[.pointer (some ⟨g, 0, none⟩), .string x] W fun e W' => e = .returned (.tuple #[]) ∧ Wrote 127 W W' base g v (bs ++ enc x)
set_option maxRecDepth 100000 in
set_option maxHeartbeats 1000000 in
theorem putList_string (K : FuncId) (hK : ∀ (args : Array Value) (w : World), (callFunc K args).run Tryz.prog w = .ok (.enter K args) w) (enc : ByteArray → List Int) (ok : ByteArray → Prop) (n : Nat) (hE : Putstring K enc ok n) (hn : ∀ x, ok x → (enc x).length ≤ n)
  (A : Option Addr) (c : Nat) (xs : List ByteArray) (w0 W : World) (hC : Kd.string.C w0 A xs.length xs) (hall : ∀ x ∈ xs, ok x) (hb : Below w0.heap.size w0 W) (base g : Nat) (v : Value) (bs : List Int) (hbase : w0.heap.size ≤ base) (hp : Pen 127 W base g v bs) (hlen : xs.length ≤ 1000) (hl : bs.length + 5 + xs.length * n + n ≤ 140737488355328) :
  Calls Tryz.prog 267 #[.pointer (some ⟨g, 0, none⟩), .slice A xs.length c, .func (.func K) #[] #[]] W fun e W' => e = .returned (.tuple #[]) ∧ Wrote 127 W W' base g v (bs ++ encList enc xs) := by
 have HS0 := Aside0.mk (Pend.begin_ hp)
 have HP := Aside0.mk hp
 have HE := Aside0.mk hE
 have HN := Aside0.mk (fun k => flat_take k hn hall)
 have HC := Aside0.mk hC
 have HA := Aside0.mk hall
 have HB := Aside0.mk hb
 have HL := Aside0.mk hl
 have e0 := num_le (xs.length : Int)
 clear hp hE hn hC hall hb hl
 go_enter Tryz.func267, Tryz.ntmps267
 go_wp2_with fail
 refine (Pend.num HS0.out (xs.length : Int) ⟨by omega, by omega⟩ (by have := HL.out; omega)).mono ?_
 rintro e w1 ⟨rfl, v1, hs1⟩
 have HS1 := Aside0.mk hs1
 clear hs1
 go_wp2_with fail
 go_loopw [14] (fun v14 wr => ∃ k : Nat, v14 = .int .i64 k ∧ k ≤ xs.length ∧ ∃ v' : Value, Aside0 (Pend 127 W wr base g v v' (bs ++ encNum (xs.length : Int) ++ (xs.take k).flatMap enc) (fun _ _ => False))) (fun v14 _ => xs.length - (intOf v14).toNat)
 case atStart => exact ⟨0, rfl, Nat.zero_le _, v1, ⟨by simpa using HS1.out⟩⟩
 case round =>
  obtain ⟨k, rfl, hk, v', HS⟩ := hrel
  by_cases hlt : k < xs.length
  · obtain ⟨x, hxe⟩ : ∃ x, xs[k]? = some x := ⟨_, List.getElem?_eq_getElem hlt⟩
    have HX := Aside0.mk hxe
    have HBR := Aside0.mk (HS.out.above HP.out HB.out hbase)
    obtain ⟨ad, rfl, h0⟩ := Kd.at_string HC.out (k : Int) (by omega) (by omega)
    rw [show rdOf ByteArray.empty xs (k : Int) = x by unfold rdOf; rw [Int.toNat_natCast, List.getD_eq_getElem?_getD, hxe]; rfl, Int.toNat_natCast] at h0
    clear hxe
    replace h0 := pw_cell_below HBR.out h0
    go_wp2_with fail
    refine (HE.out x _ (HA.out x (List.mem_of_getElem? HX.out)) base g v' _ HS.out.pen (by have := HN.out k; have := HL.out; simp only [List.length_append]; omega)).mono ?_
    rintro e w2 ⟨rfl, hw⟩
    obtain ⟨v2, hs2⟩ := HS.out.step hw
    have HS2 := Aside0.mk (hs2.less (B' := fun _ _ => False) (fun _ _ h => h.elim))
    clear hs2 hw h0
    go_wp2_with fail
    go_roundw
    case rel => exact ⟨k + 1, by go_num, by omega, v2, ⟨by rw [flat_snoc HX.out, ← List.append_assoc]; exact HS2.out⟩⟩
    case measure => simp [intOf]; omega
  · go_wp2_with fail
    go_end0
    exact ⟨rfl, by have h := HS.out.wrote; rw [List.take_of_length_le (by omega)] at h; unfold encList; rw [← List.append_assoc]; exact h⟩
def Putint (K : FuncId) (enc : Int → List Int) (ok : Int → Prop) (n : Nat) : Prop :=
 ∀ (x : Int) (W : World), ok x → ∀ (base g : Nat) (v : Value) (bs : List Int), Pen 127 W base g v bs → bs.length + n ≤ 140737488355328 →
  Calls Tryz.prog K #[.pointer (some ⟨g, 0, none⟩), .int .i64 x] W fun e W' => e = .returned (.tuple #[]) ∧ Wrote 127 W W' base g v (bs ++ enc x)
set_option maxRecDepth 100000 in
set_option maxHeartbeats 1000000 in
theorem putList_int (K : FuncId) (hK : ∀ (args : Array Value) (w : World), (callFunc K args).run Tryz.prog w = .ok (.enter K args) w) (enc : Int → List Int) (ok : Int → Prop) (n : Nat) (hE : Putint K enc ok n) (hn : ∀ x, ok x → (enc x).length ≤ n)
  (A : Option Addr) (c : Nat) (xs : List Int) (w0 W : World) (hC : (Kd.int .i64).C w0 A xs.length xs) (hall : ∀ x ∈ xs, ok x) (hb : Below w0.heap.size w0 W) (base g : Nat) (v : Value) (bs : List Int) (hbase : w0.heap.size ≤ base) (hp : Pen 127 W base g v bs) (hlen : xs.length ≤ 1000) (hl : bs.length + 5 + xs.length * n + n ≤ 140737488355328) :
  Calls Tryz.prog 276 #[.pointer (some ⟨g, 0, none⟩), .slice A xs.length c, .func (.func K) #[] #[]] W fun e W' => e = .returned (.tuple #[]) ∧ Wrote 127 W W' base g v (bs ++ encList enc xs) := by
 have HS0 := Aside0.mk (Pend.begin_ hp)
 have HP := Aside0.mk hp
 have HE := Aside0.mk hE
 have HN := Aside0.mk (fun k => flat_take k hn hall)
 have HC := Aside0.mk hC
 have HA := Aside0.mk hall
 have HB := Aside0.mk hb
 have HL := Aside0.mk hl
 have e0 := num_le (xs.length : Int)
 clear hp hE hn hC hall hb hl
 go_enter Tryz.func276, Tryz.ntmps276
 go_wp2_with fail
 refine (Pend.num HS0.out (xs.length : Int) ⟨by omega, by omega⟩ (by have := HL.out; omega)).mono ?_
 rintro e w1 ⟨rfl, v1, hs1⟩
 have HS1 := Aside0.mk hs1
 clear hs1
 go_wp2_with fail
 go_loopw [14] (fun v14 wr => ∃ k : Nat, v14 = .int .i64 k ∧ k ≤ xs.length ∧ ∃ v' : Value, Aside0 (Pend 127 W wr base g v v' (bs ++ encNum (xs.length : Int) ++ (xs.take k).flatMap enc) (fun _ _ => False))) (fun v14 _ => xs.length - (intOf v14).toNat)
 case atStart => exact ⟨0, rfl, Nat.zero_le _, v1, ⟨by simpa using HS1.out⟩⟩
 case round =>
  obtain ⟨k, rfl, hk, v', HS⟩ := hrel
  by_cases hlt : k < xs.length
  · obtain ⟨x, hxe⟩ : ∃ x, xs[k]? = some x := ⟨_, List.getElem?_eq_getElem hlt⟩
    have HX := Aside0.mk hxe
    have HBR := Aside0.mk (HS.out.above HP.out HB.out hbase)
    obtain ⟨ad, rfl, h0⟩ := Kd.at_int HC.out (k : Int) (by omega) (by omega)
    rw [show rd xs (k : Int) = x by unfold rd; rw [Int.toNat_natCast, List.getD_eq_getElem?_getD, hxe]; rfl, Int.toNat_natCast] at h0
    clear hxe
    replace h0 := pw_cell_below HBR.out h0
    go_wp2_with fail
    refine (HE.out x _ (HA.out x (List.mem_of_getElem? HX.out)) base g v' _ HS.out.pen (by have := HN.out k; have := HL.out; simp only [List.length_append]; omega)).mono ?_
    rintro e w2 ⟨rfl, hw⟩
    obtain ⟨v2, hs2⟩ := HS.out.step hw
    have HS2 := Aside0.mk (hs2.less (B' := fun _ _ => False) (fun _ _ h => h.elim))
    clear hs2 hw h0
    go_wp2_with fail
    go_roundw
    case rel => exact ⟨k + 1, by go_num, by omega, v2, ⟨by rw [flat_snoc HX.out, ← List.append_assoc]; exact HS2.out⟩⟩
    case measure => simp [intOf]; omega
  · go_wp2_with fail
    go_end0
    exact ⟨rfl, by have h := HS.out.wrote; rw [List.take_of_length_le (by omega)] at h; unfold encList; rw [← List.append_assoc]; exact h⟩
end Go.Proofs.YtmneemhplffemaaGreatDoorRR.Put
namespace Go.Proofs.YtmneemhplffemaaGreatDoorRR.Put
open Go.RowKit Go.Proofs.YtmneemhplffemaaGreatDoorRR.Ext Go.Proofs.YtmneemhplffemaaGreatDoorRR.Wire Go.Proofs.YtmneemhplffemaaGreatDoorRR.Mem Go.Proofs.YtmneemhplffemaaGreatDoorRR.Ki Go.Proofs.YtmneemhplffemaaGreatDoorRRW.PrintWords
def PutResult (K : FuncId) (enc : S81 → List Int) (ok : S81 → Prop) (n : Nat) : Prop :=
 ∀ (x : S81) (cs : List Value) (w0 W : World), ok x → k81.K w0 x cs → Below w0.heap.size w0 W → ∀ (base g : Nat) (v : Value) (bs : List Int), w0.heap.size ≤ base → Pen 127 W base g v bs → bs.length + n ≤ 140737488355328 →
  Calls Tryz.prog K #[.pointer (some ⟨g, 0, none⟩), .agg cs.toArray] W fun e W' => e = .returned (.tuple #[]) ∧ Wrote 127 W W' base g v (bs ++ enc x)
set_option maxRecDepth 100000 in
set_option maxHeartbeats 1000000 in
theorem putList_Result (K : FuncId) (hK : ∀ (args : Array Value) (w : World), (callFunc K args).run Tryz.prog w = .ok (.enter K args) w) (enc : S81 → List Int) (ok : S81 → Prop) (n : Nat) (hE : PutResult K enc ok n) (hn : ∀ x, ok x → (enc x).length ≤ n)
  (A : Option Addr) (c : Nat) (xs : List S81) (w0 W : World) (hC : k81.C w0 A xs.length xs) (hall : ∀ x ∈ xs, ok x) (hb : Below w0.heap.size w0 W) (base g : Nat) (v : Value) (bs : List Int) (hbase : w0.heap.size ≤ base) (hp : Pen 127 W base g v bs) (hlen : xs.length ≤ 1000) (hl : bs.length + 5 + xs.length * n + n ≤ 140737488355328) :
  Calls Tryz.prog 243 #[.pointer (some ⟨g, 0, none⟩), .slice A xs.length c, .func (.func K) #[] #[]] W fun e W' => e = .returned (.tuple #[]) ∧ Wrote 127 W W' base g v (bs ++ encList enc xs) := by
 have HS0 := Aside0.mk (Pend.begin_ hp)
 have HP := Aside0.mk hp
 have HE := Aside0.mk hE
 have HN := Aside0.mk (fun k => flat_take k hn hall)
 have HC := Aside0.mk hC
 have HA := Aside0.mk hall
 have HB := Aside0.mk hb
 have HL := Aside0.mk hl
 have e0 := num_le (xs.length : Int)
 clear hp hE hn hC hall hb hl
 go_enter Tryz.func243, Tryz.ntmps243
 go_wp2_with fail
 refine (Pend.num HS0.out (xs.length : Int) ⟨by omega, by omega⟩ (by have := HL.out; omega)).mono ?_
 rintro e w1 ⟨rfl, v1, hs1⟩
 have HS1 := Aside0.mk hs1
 clear hs1
 go_wp2_with fail
 go_loopw [14] (fun v14 wr => ∃ k : Nat, v14 = .int .i64 k ∧ k ≤ xs.length ∧ ∃ v' : Value, Aside0 (Pend 127 W wr base g v v' (bs ++ encNum (xs.length : Int) ++ (xs.take k).flatMap enc) (fun _ _ => False))) (fun v14 _ => xs.length - (intOf v14).toNat)
 case atStart => exact ⟨0, rfl, Nat.zero_le _, v1, ⟨by simpa using HS1.out⟩⟩
 case round =>
  obtain ⟨k, rfl, hk, v', HS⟩ := hrel
  by_cases hlt : k < xs.length
  · obtain ⟨x, hxe⟩ : ∃ x, xs[k]? = some x := ⟨_, List.getElem?_eq_getElem hlt⟩
    have HX := Aside0.mk hxe
    have HBR := Aside0.mk (HS.out.above HP.out HB.out hbase)
    have hat := at_T81 HC.out (k : Int) (by omega) (by omega)
    rw [show rd_T81 xs (k : Int) = x by unfold rd_T81; rw [Int.toNat_natCast, List.getD_eq_getElem?_getD, hxe]; rfl, Int.toNat_natCast] at hat
    clear hxe
    obtain ⟨ad, A6, c6, rfl, h0, h1, h2, h3, h4, h5, h6, l6, g6⟩ := hat
    have HK0 := Aside0.mk (k81_mk w0 x l6 g6)
    replace h0 := pw_cell_below HBR.out h0
    replace h1 := pw_cell_below HBR.out h1
    replace h2 := pw_cell_below HBR.out h2
    replace h3 := pw_cell_below HBR.out h3
    replace h4 := pw_cell_below HBR.out h4
    replace h5 := pw_cell_below HBR.out h5
    replace h6 := pw_cell_below HBR.out h6
    clear l6 g6
    go_wp2_with fail
    refine (HE.out x _ w0 _ (HA.out x (List.mem_of_getElem? HX.out)) HK0.out (below_alloc HBR.out _) base g v' _ hbase (HS.out.pen.alloc _) (by have := HN.out k; have := HL.out; simp only [List.length_append]; omega)).mono ?_
    rintro e w2 ⟨rfl, hw⟩
    obtain ⟨v2, hs2⟩ := (HS.out.lay _).step hw
    have HS2 := Aside0.mk (hs2.less (B' := fun _ _ => False) (fun _ _ h => h.elim))
    clear hs2 hw h0 h1 h2 h3 h4 h5 h6
    go_wp2_with fail
    go_roundw
    case rel => exact ⟨k + 1, by go_num, by omega, v2, ⟨by rw [flat_snoc HX.out, ← List.append_assoc]; exact HS2.out⟩⟩
    case measure => simp [intOf]; omega
  · go_wp2_with fail
    go_end0
    exact ⟨rfl, by have h := HS.out.wrote; rw [List.take_of_length_le (by omega)] at h; unfold encList; rw [← List.append_assoc]; exact h⟩
def PutPart (K : FuncId) (enc : S86 → List Int) (ok : S86 → Prop) (n : Nat) : Prop :=
 ∀ (x : S86) (cs : List Value) (w0 W : World), ok x → k86.K w0 x cs → Below w0.heap.size w0 W → ∀ (base g : Nat) (v : Value) (bs : List Int), w0.heap.size ≤ base → Pen 127 W base g v bs → bs.length + n ≤ 140737488355328 →
  Calls Tryz.prog K #[.pointer (some ⟨g, 0, none⟩), .agg cs.toArray] W fun e W' => e = .returned (.tuple #[]) ∧ Wrote 127 W W' base g v (bs ++ enc x)
set_option maxRecDepth 100000 in
set_option maxHeartbeats 1000000 in
theorem putList_Part (K : FuncId) (hK : ∀ (args : Array Value) (w : World), (callFunc K args).run Tryz.prog w = .ok (.enter K args) w) (enc : S86 → List Int) (ok : S86 → Prop) (n : Nat) (hE : PutPart K enc ok n) (hn : ∀ x, ok x → (enc x).length ≤ n)
  (A : Option Addr) (c : Nat) (xs : List S86) (w0 W : World) (hC : k86.C w0 A xs.length xs) (hall : ∀ x ∈ xs, ok x) (hb : Below w0.heap.size w0 W) (base g : Nat) (v : Value) (bs : List Int) (hbase : w0.heap.size ≤ base) (hp : Pen 127 W base g v bs) (hlen : xs.length ≤ 1000) (hl : bs.length + 5 + xs.length * n + n ≤ 140737488355328) :
  Calls Tryz.prog 212 #[.pointer (some ⟨g, 0, none⟩), .slice A xs.length c, .func (.func K) #[] #[]] W fun e W' => e = .returned (.tuple #[]) ∧ Wrote 127 W W' base g v (bs ++ encList enc xs) := by
 have HS0 := Aside0.mk (Pend.begin_ hp)
 have HP := Aside0.mk hp
 have HE := Aside0.mk hE
 have HN := Aside0.mk (fun k => flat_take k hn hall)
 have HC := Aside0.mk hC
 have HA := Aside0.mk hall
 have HB := Aside0.mk hb
 have HL := Aside0.mk hl
 have e0 := num_le (xs.length : Int)
 clear hp hE hn hC hall hb hl
 go_enter Tryz.func212, Tryz.ntmps212
 go_wp2_with fail
 refine (Pend.num HS0.out (xs.length : Int) ⟨by omega, by omega⟩ (by have := HL.out; omega)).mono ?_
 rintro e w1 ⟨rfl, v1, hs1⟩
 have HS1 := Aside0.mk hs1
 clear hs1
 go_wp2_with fail
 go_loopw [14] (fun v14 wr => ∃ k : Nat, v14 = .int .i64 k ∧ k ≤ xs.length ∧ ∃ v' : Value, Aside0 (Pend 127 W wr base g v v' (bs ++ encNum (xs.length : Int) ++ (xs.take k).flatMap enc) (fun _ _ => False))) (fun v14 _ => xs.length - (intOf v14).toNat)
 case atStart => exact ⟨0, rfl, Nat.zero_le _, v1, ⟨by simpa using HS1.out⟩⟩
 case round =>
  obtain ⟨k, rfl, hk, v', HS⟩ := hrel
  by_cases hlt : k < xs.length
  · obtain ⟨x, hxe⟩ : ∃ x, xs[k]? = some x := ⟨_, List.getElem?_eq_getElem hlt⟩
    have HX := Aside0.mk hxe
    have HBR := Aside0.mk (HS.out.above HP.out HB.out hbase)
    have hat := at_T86 HC.out (k : Int) (by omega) (by omega)
    rw [show rd_T86 xs (k : Int) = x by unfold rd_T86; rw [Int.toNat_natCast, List.getD_eq_getElem?_getD, hxe]; rfl, Int.toNat_natCast] at hat
    clear hxe
    obtain ⟨ad, A4, c4, rfl, h0, h1, h2, h3, h4, l4, g4⟩ := hat
    have HK0 := Aside0.mk (k86_mk w0 x l4 g4)
    replace h0 := pw_cell_below HBR.out h0
    replace h1 := pw_cell_below HBR.out h1
    replace h2 := pw_cell_below HBR.out h2
    replace h3 := pw_cell_below HBR.out h3
    replace h4 := pw_cell_below HBR.out h4
    clear l4 g4
    go_wp2_with fail
    refine (HE.out x _ w0 _ (HA.out x (List.mem_of_getElem? HX.out)) HK0.out (below_alloc HBR.out _) base g v' _ hbase (HS.out.pen.alloc _) (by have := HN.out k; have := HL.out; simp only [List.length_append]; omega)).mono ?_
    rintro e w2 ⟨rfl, hw⟩
    obtain ⟨v2, hs2⟩ := (HS.out.lay _).step hw
    have HS2 := Aside0.mk (hs2.less (B' := fun _ _ => False) (fun _ _ h => h.elim))
    clear hs2 hw h0 h1 h2 h3 h4
    go_wp2_with fail
    go_roundw
    case rel => exact ⟨k + 1, by go_num, by omega, v2, ⟨by rw [flat_snoc HX.out, ← List.append_assoc]; exact HS2.out⟩⟩
    case measure => simp [intOf]; omega
  · go_wp2_with fail
    go_end0
    exact ⟨rfl, by have h := HS.out.wrote; rw [List.take_of_length_le (by omega)] at h; unfold encList; rw [← List.append_assoc]; exact h⟩
def PutTagged (K : FuncId) (enc : S148 → List Int) (ok : S148 → Prop) (n : Nat) : Prop :=
 ∀ (x : S148) (cs : List Value) (w0 W : World), ok x → k148.K w0 x cs → Below w0.heap.size w0 W → ∀ (base g : Nat) (v : Value) (bs : List Int), w0.heap.size ≤ base → Pen 127 W base g v bs → bs.length + n ≤ 140737488355328 →
  Calls Tryz.prog K #[.pointer (some ⟨g, 0, none⟩), .agg cs.toArray] W fun e W' => e = .returned (.tuple #[]) ∧ Wrote 127 W W' base g v (bs ++ enc x)
set_option maxRecDepth 100000 in
set_option maxHeartbeats 1000000 in
theorem putList_Tagged (K : FuncId) (hK : ∀ (args : Array Value) (w : World), (callFunc K args).run Tryz.prog w = .ok (.enter K args) w) (enc : S148 → List Int) (ok : S148 → Prop) (n : Nat) (hE : PutTagged K enc ok n) (hn : ∀ x, ok x → (enc x).length ≤ n)
  (A : Option Addr) (c : Nat) (xs : List S148) (w0 W : World) (hC : k148.C w0 A xs.length xs) (hall : ∀ x ∈ xs, ok x) (hb : Below w0.heap.size w0 W) (base g : Nat) (v : Value) (bs : List Int) (hbase : w0.heap.size ≤ base) (hp : Pen 127 W base g v bs) (hlen : xs.length ≤ 1000) (hl : bs.length + 5 + xs.length * n + n ≤ 140737488355328) :
  Calls Tryz.prog 251 #[.pointer (some ⟨g, 0, none⟩), .slice A xs.length c, .func (.func K) #[] #[]] W fun e W' => e = .returned (.tuple #[]) ∧ Wrote 127 W W' base g v (bs ++ encList enc xs) := by
 have HS0 := Aside0.mk (Pend.begin_ hp)
 have HP := Aside0.mk hp
 have HE := Aside0.mk hE
 have HN := Aside0.mk (fun k => flat_take k hn hall)
 have HC := Aside0.mk hC
 have HA := Aside0.mk hall
 have HB := Aside0.mk hb
 have HL := Aside0.mk hl
 have e0 := num_le (xs.length : Int)
 clear hp hE hn hC hall hb hl
 go_enter Tryz.func251, Tryz.ntmps251
 go_wp2_with fail
 refine (Pend.num HS0.out (xs.length : Int) ⟨by omega, by omega⟩ (by have := HL.out; omega)).mono ?_
 rintro e w1 ⟨rfl, v1, hs1⟩
 have HS1 := Aside0.mk hs1
 clear hs1
 go_wp2_with fail
 go_loopw [14] (fun v14 wr => ∃ k : Nat, v14 = .int .i64 k ∧ k ≤ xs.length ∧ ∃ v' : Value, Aside0 (Pend 127 W wr base g v v' (bs ++ encNum (xs.length : Int) ++ (xs.take k).flatMap enc) (fun _ _ => False))) (fun v14 _ => xs.length - (intOf v14).toNat)
 case atStart => exact ⟨0, rfl, Nat.zero_le _, v1, ⟨by simpa using HS1.out⟩⟩
 case round =>
  obtain ⟨k, rfl, hk, v', HS⟩ := hrel
  by_cases hlt : k < xs.length
  · obtain ⟨x, hxe⟩ : ∃ x, xs[k]? = some x := ⟨_, List.getElem?_eq_getElem hlt⟩
    have HX := Aside0.mk hxe
    have HBR := Aside0.mk (HS.out.above HP.out HB.out hbase)
    have hat := at_T148 HC.out (k : Int) (by omega) (by omega)
    rw [show rd_T148 xs (k : Int) = x by unfold rd_T148; rw [Int.toNat_natCast, List.getD_eq_getElem?_getD, hxe]; rfl, Int.toNat_natCast] at hat
    clear hxe
    obtain ⟨ad, A4, c4, rfl, h0, h1, h2, h3, h4, l4, g4⟩ := hat
    have HK0 := Aside0.mk (k148_mk w0 x l4 g4)
    replace h0 := pw_cell_below HBR.out h0
    replace h1 := pw_cell_below HBR.out h1
    replace h2 := pw_cell_below HBR.out h2
    replace h3 := pw_cell_below HBR.out h3
    replace h4 := pw_cell_below HBR.out h4
    clear l4 g4
    go_wp2_with fail
    refine (HE.out x _ w0 _ (HA.out x (List.mem_of_getElem? HX.out)) HK0.out (below_alloc HBR.out _) base g v' _ hbase (HS.out.pen.alloc _) (by have := HN.out k; have := HL.out; simp only [List.length_append]; omega)).mono ?_
    rintro e w2 ⟨rfl, hw⟩
    obtain ⟨v2, hs2⟩ := (HS.out.lay _).step hw
    have HS2 := Aside0.mk (hs2.less (B' := fun _ _ => False) (fun _ _ h => h.elim))
    clear hs2 hw h0 h1 h2 h3 h4
    go_wp2_with fail
    go_roundw
    case rel => exact ⟨k + 1, by go_num, by omega, v2, ⟨by rw [flat_snoc HX.out, ← List.append_assoc]; exact HS2.out⟩⟩
    case measure => simp [intOf]; omega
  · go_wp2_with fail
    go_end0
    exact ⟨rfl, by have h := HS.out.wrote; rw [List.take_of_length_le (by omega)] at h; unfold encList; rw [← List.append_assoc]; exact h⟩
def PutItem (K : FuncId) (enc : S91 → List Int) (ok : S91 → Prop) (n : Nat) : Prop :=
 ∀ (x : S91) (cs : List Value) (w0 W : World), ok x → k91.K w0 x cs → Below w0.heap.size w0 W → ∀ (base g : Nat) (v : Value) (bs : List Int), w0.heap.size ≤ base → Pen 127 W base g v bs → bs.length + n ≤ 140737488355328 →
  Calls Tryz.prog K #[.pointer (some ⟨g, 0, none⟩), .agg cs.toArray] W fun e W' => e = .returned (.tuple #[]) ∧ Wrote 127 W W' base g v (bs ++ enc x)
set_option maxRecDepth 100000 in
set_option maxHeartbeats 1000000 in
theorem putList_Item (K : FuncId) (hK : ∀ (args : Array Value) (w : World), (callFunc K args).run Tryz.prog w = .ok (.enter K args) w) (enc : S91 → List Int) (ok : S91 → Prop) (n : Nat) (hE : PutItem K enc ok n) (hn : ∀ x, ok x → (enc x).length ≤ n)
  (A : Option Addr) (c : Nat) (xs : List S91) (w0 W : World) (hC : k91.C w0 A xs.length xs) (hall : ∀ x ∈ xs, ok x) (hb : Below w0.heap.size w0 W) (base g : Nat) (v : Value) (bs : List Int) (hbase : w0.heap.size ≤ base) (hp : Pen 127 W base g v bs) (hlen : xs.length ≤ 1000) (hl : bs.length + 5 + xs.length * n + n ≤ 140737488355328) :
  Calls Tryz.prog 203 #[.pointer (some ⟨g, 0, none⟩), .slice A xs.length c, .func (.func K) #[] #[]] W fun e W' => e = .returned (.tuple #[]) ∧ Wrote 127 W W' base g v (bs ++ encList enc xs) := by
 have HS0 := Aside0.mk (Pend.begin_ hp)
 have HP := Aside0.mk hp
 have HE := Aside0.mk hE
 have HN := Aside0.mk (fun k => flat_take k hn hall)
 have HC := Aside0.mk hC
 have HA := Aside0.mk hall
 have HB := Aside0.mk hb
 have HL := Aside0.mk hl
 have e0 := num_le (xs.length : Int)
 clear hp hE hn hC hall hb hl
 go_enter Tryz.func203, Tryz.ntmps203
 go_wp2_with fail
 refine (Pend.num HS0.out (xs.length : Int) ⟨by omega, by omega⟩ (by have := HL.out; omega)).mono ?_
 rintro e w1 ⟨rfl, v1, hs1⟩
 have HS1 := Aside0.mk hs1
 clear hs1
 go_wp2_with fail
 go_loopw [14] (fun v14 wr => ∃ k : Nat, v14 = .int .i64 k ∧ k ≤ xs.length ∧ ∃ v' : Value, Aside0 (Pend 127 W wr base g v v' (bs ++ encNum (xs.length : Int) ++ (xs.take k).flatMap enc) (fun _ _ => False))) (fun v14 _ => xs.length - (intOf v14).toNat)
 case atStart => exact ⟨0, rfl, Nat.zero_le _, v1, ⟨by simpa using HS1.out⟩⟩
 case round =>
  obtain ⟨k, rfl, hk, v', HS⟩ := hrel
  by_cases hlt : k < xs.length
  · obtain ⟨x, hxe⟩ : ∃ x, xs[k]? = some x := ⟨_, List.getElem?_eq_getElem hlt⟩
    have HX := Aside0.mk hxe
    have HBR := Aside0.mk (HS.out.above HP.out HB.out hbase)
    have hat := at_T91 HC.out (k : Int) (by omega) (by omega)
    rw [show rd_T91 xs (k : Int) = x by unfold rd_T91; rw [Int.toNat_natCast, List.getD_eq_getElem?_getD, hxe]; rfl, Int.toNat_natCast] at hat
    clear hxe
    obtain ⟨ad, A3, c3, A4, c4, rfl, h0, h1, h2, h3, h4, l3, g3, l4, g4⟩ := hat
    have HK0 := Aside0.mk (k91_mk w0 x l3 g3 l4 g4)
    replace h0 := pw_cell_below HBR.out h0
    replace h1 := pw_cell_below HBR.out h1
    replace h2 := pw_cell_below HBR.out h2
    replace h3 := pw_cell_below HBR.out h3
    replace h4 := pw_cell_below HBR.out h4
    clear l3 g3 l4 g4
    go_wp2_with fail
    refine (HE.out x _ w0 _ (HA.out x (List.mem_of_getElem? HX.out)) HK0.out (below_alloc HBR.out _) base g v' _ hbase (HS.out.pen.alloc _) (by have := HN.out k; have := HL.out; simp only [List.length_append]; omega)).mono ?_
    rintro e w2 ⟨rfl, hw⟩
    obtain ⟨v2, hs2⟩ := (HS.out.lay _).step hw
    have HS2 := Aside0.mk (hs2.less (B' := fun _ _ => False) (fun _ _ h => h.elim))
    clear hs2 hw h0 h1 h2 h3 h4
    go_wp2_with fail
    go_roundw
    case rel => exact ⟨k + 1, by go_num, by omega, v2, ⟨by rw [flat_snoc HX.out, ← List.append_assoc]; exact HS2.out⟩⟩
    case measure => simp [intOf]; omega
  · go_wp2_with fail
    go_end0
    exact ⟨rfl, by have h := HS.out.wrote; rw [List.take_of_length_le (by omega)] at h; unfold encList; rw [← List.append_assoc]; exact h⟩
end Go.Proofs.YtmneemhplffemaaGreatDoorRR.Put
namespace Go.Proofs.YtmneemhplffemaaGreatDoorRR.Put
open Go.RowKit Go.Proofs.YtmneemhplffemaaGreatDoorRR.Ext Go.Proofs.YtmneemhplffemaaGreatDoorRR.Wire Go.Proofs.YtmneemhplffemaaGreatDoorRR.Mem Go.Proofs.YtmneemhplffemaaGreatDoorRR.Ki Go.Proofs.YtmneemhplffemaaGreatDoorRRW.PrintWords

theorem list_le {α : Type} {enc : α → List Int} {ok : α → Prop} {n : Nat} {xs : List α} (h : ∀ x, ok x → (enc x).length ≤ n) (ha : ∀ x ∈ xs, ok x) : (encList enc xs).length ≤ 5 + xs.length * n := by
 have h1 := num_le (xs.length : Int)
 have h2 := flat_le (fun x hx => h x (ha x hx))
 simp only [encList, List.length_append]
 omega
def TxtOk (s : ByteArray) : Prop := s.size ≤ 256
theorem len_string (s : ByteArray) (h : TxtOk s) : (encTxt s).length ≤ 300 := by
 have := txt_le s
 unfold TxtOk at h
 omega
theorem len_int (v : Int) (_h : isN v) : (encNum v).length ≤ 5 := num_le v
theorem put_int : Putint 277 encNum isN 5 := by
 intro x W hx base g v bs hp hl
 have HP := Aside0.mk (Pend.begin_ hp)
 have HX := Aside0.mk hx
 clear hp hx
 go_enter Tryz.func277, Tryz.ntmps277
 go_wp2_with fail
 refine (Pend.num HP.out x HX.out hl).mono ?_
 rintro e w1 ⟨rfl, v1, hs1⟩
 have HS1 := Aside0.mk hs1
 clear hs1
 go_wp2_with fail
 go_end0
 exact ⟨rfl, HS1.out.wrote⟩
theorem put_string : Putstring 268 encTxt TxtOk 300 := by
 intro x W hx base g v bs hp hl
 have HP := Aside0.mk (Pend.begin_ hp)
 have HX : x.size ≤ 256 := hx
 clear hp hx
 go_enter Tryz.func268, Tryz.ntmps268
 go_wp2_with fail
 refine (Pend.txt HP.out x (by omega) (by omega)).mono ?_
 rintro e w1 ⟨rfl, v1, hs1⟩
 have HS1 := Aside0.mk hs1
 clear hs1
 go_wp2_with fail
 go_end0
 exact ⟨rfl, HS1.out.wrote⟩
theorem put_Op : PutOp 121 encOp OpOk 2000 := fun x cs w0 W hx hk hb base g v bs _ hp hl => putOp_any x hx cs w0 W hk hb base g v bs hp hl
theorem len_Op (x : Op) (hx : OpOk x) : (encOp x).length ≤ 2000 := by
 have e0 := num_le x.f0
 have e1 := txt_le x.f1
 have e2 := txt_le x.f2
 have e3 := num_le x.f3
 have e4 := num_le x.f4
 have e90 := num_le 0
 have e91 := num_le 1
 have h1 := hx.t1
 have h2 := hx.t2
 unfold encOp
 split <;> simp only [List.length_append] <;> omega
structure WatchOk (x : S96) : Prop where
 n0 : isN x.f0
 n2 : isN x.f2
 n3 : isN x.f3
 t1 : x.f1.size ≤ 256
def encWatch (x : S96) : List Int := encNum x.f0 ++ encTxt x.f1 ++ encNum x.f2 ++ encNum x.f3
theorem len_Watch (x : S96) (hx : WatchOk x) : (encWatch x).length ≤ 300 := by
 have e0 := num_le x.f0
 have e1 := txt_le x.f1
 have h1 := hx.t1
 have e2 := num_le x.f2
 have e3 := num_le x.f3
 have e90 := num_le 0
 have e91 := num_le 1
 simp only [encWatch, List.length_append]
 omega
set_option maxRecDepth 100000 in
set_option maxHeartbeats 1000000 in
theorem putWatch_any (x : S96) (hx : WatchOk x) (cs : List Value) (w0 W : World) (hk : k96.K w0 x cs) (hb : Below w0.heap.size w0 W) (base g : Nat) (v : Value) (bs : List Int) (hbase : w0.heap.size ≤ base) (hp : Pen 127 W base g v bs) (hl : bs.length + 300 ≤ 140737488355328) :
  Calls Tryz.prog 230 #[.pointer (some ⟨g, 0, none⟩), .agg cs.toArray] W fun e W' => e = .returned (.tuple #[]) ∧ Wrote 127 W W' base g v (bs ++ encWatch x) := by
 obtain rfl := k96_open hk
 have HX := Aside0.mk hx
 have HP := Aside0.mk hp
 have HB := Aside0.mk hb
 have e0 := num_le x.f0
 have e1 := txt_le x.f1
 have h1 := hx.t1
 have e2 := num_le x.f2
 have e3 := num_le x.f3
 have e90 := num_le 0
 have e91 := num_le 1
 have HS0 := Aside0.mk ((Pend.begin_ HP.out).lay (.cells #[.int .i64 x.f0, .string x.f1, .int .i64 x.f2, .int .i64 x.f3] 96 (0, 0)))
 clear hk hp hb hx
 go_enter Tryz.func230, Tryz.ntmps230
 go_wp2_with fail
 refine (Pend.num HS0.out x.f0 HX.out.n0 (by first | omega | (simp only [List.length_append]; omega))).mono ?_
 rintro e w1 ⟨rfl, v1, hs1⟩
 have hc1 := hs1.cells (k := W.heap.size) (.inr ⟨rfl, rfl⟩)
 have HS1 := Aside0.mk hs1
 clear hs1
 go_wp2_with fail
 refine (Pend.txt HS1.out x.f1 (by have := HX.out.t1; omega) (by first | omega | (simp only [List.length_append]; omega))).mono ?_
 rintro e w2 ⟨rfl, v2, hs2⟩
 have hc2 := hs2.cells (k := W.heap.size) (.inr ⟨rfl, rfl⟩)
 have HS2 := Aside0.mk hs2
 clear hs2 hc1
 go_wp2_with fail
 refine (Pend.num HS2.out x.f2 HX.out.n2 (by first | omega | (simp only [List.length_append]; omega))).mono ?_
 rintro e w3 ⟨rfl, v3, hs3⟩
 have hc3 := hs3.cells (k := W.heap.size) (.inr ⟨rfl, rfl⟩)
 have HS3 := Aside0.mk hs3
 clear hs3 hc2
 go_wp2_with fail
 refine (Pend.num HS3.out x.f3 HX.out.n3 (by first | omega | (simp only [List.length_append]; omega))).mono ?_
 rintro e w4 ⟨rfl, v4, hs4⟩
 have hc4 := hs4.cells (k := W.heap.size) (.inr ⟨rfl, rfl⟩)
 have HS4 := Aside0.mk hs4
 clear hs4 hc3
 go_wp2_with fail
 first | go_end0 | refine bodyPost_ret (results_none rfl _ _ _) rfl ?_
 exact ⟨rfl, by unfold encWatch; simpa only [List.append_assoc] using HS4.out.wrote⟩
theorem put_Watch : PutWatch 230 encWatch WatchOk 300 := fun x cs w0 W hx hk hb base g v bs hbase hp hl => putWatch_any x hx cs w0 W hk hb base g v bs hbase hp hl
structure SeenOk (x : S88) : Prop where
 n2 : isN x.f2
 t0 : x.f0.size ≤ 256
 t1 : x.f1.size ≤ 256
def encSeen (x : S88) : List Int := encTxt x.f0 ++ encTxt x.f1 ++ encNum x.f2
theorem len_Seen (x : S88) (hx : SeenOk x) : (encSeen x).length ≤ 600 := by
 have e0 := txt_le x.f0
 have h0 := hx.t0
 have e1 := txt_le x.f1
 have h1 := hx.t1
 have e2 := num_le x.f2
 have e90 := num_le 0
 have e91 := num_le 1
 simp only [encSeen, List.length_append]
 omega
set_option maxRecDepth 100000 in
set_option maxHeartbeats 1000000 in
theorem putSeen_any (x : S88) (hx : SeenOk x) (cs : List Value) (w0 W : World) (hk : k88.K w0 x cs) (hb : Below w0.heap.size w0 W) (base g : Nat) (v : Value) (bs : List Int) (hbase : w0.heap.size ≤ base) (hp : Pen 127 W base g v bs) (hl : bs.length + 600 ≤ 140737488355328) :
  Calls Tryz.prog 258 #[.pointer (some ⟨g, 0, none⟩), .agg cs.toArray] W fun e W' => e = .returned (.tuple #[]) ∧ Wrote 127 W W' base g v (bs ++ encSeen x) := by
 obtain rfl := k88_open hk
 have HX := Aside0.mk hx
 have HP := Aside0.mk hp
 have HB := Aside0.mk hb
 have e0 := txt_le x.f0
 have h0 := hx.t0
 have e1 := txt_le x.f1
 have h1 := hx.t1
 have e2 := num_le x.f2
 have e90 := num_le 0
 have e91 := num_le 1
 have HS0 := Aside0.mk ((Pend.begin_ HP.out).lay (.cells #[.string x.f0, .string x.f1, .int .i64 x.f2] 88 (0, 0)))
 clear hk hp hb hx
 go_enter Tryz.func258, Tryz.ntmps258
 go_wp2_with fail
 refine (Pend.txt HS0.out x.f0 (by have := HX.out.t0; omega) (by first | omega | (simp only [List.length_append]; omega))).mono ?_
 rintro e w1 ⟨rfl, v1, hs1⟩
 have hc1 := hs1.cells (k := W.heap.size) (.inr ⟨rfl, rfl⟩)
 have HS1 := Aside0.mk hs1
 clear hs1
 go_wp2_with fail
 refine (Pend.txt HS1.out x.f1 (by have := HX.out.t1; omega) (by first | omega | (simp only [List.length_append]; omega))).mono ?_
 rintro e w2 ⟨rfl, v2, hs2⟩
 have hc2 := hs2.cells (k := W.heap.size) (.inr ⟨rfl, rfl⟩)
 have HS2 := Aside0.mk hs2
 clear hs2 hc1
 go_wp2_with fail
 refine (Pend.num HS2.out x.f2 HX.out.n2 (by first | omega | (simp only [List.length_append]; omega))).mono ?_
 rintro e w3 ⟨rfl, v3, hs3⟩
 have hc3 := hs3.cells (k := W.heap.size) (.inr ⟨rfl, rfl⟩)
 have HS3 := Aside0.mk hs3
 clear hs3 hc2
 go_wp2_with fail
 first | go_end0 | refine bodyPost_ret (results_none rfl _ _ _) rfl ?_
 exact ⟨rfl, by unfold encSeen; simpa only [List.append_assoc] using HS3.out.wrote⟩
theorem put_Seen : PutSeen 258 encSeen SeenOk 600 := fun x cs w0 W hx hk hb base g v bs hbase hp hl => putSeen_any x hx cs w0 W hk hb base g v bs hbase hp hl
structure PartOk (x : S86) : Prop where
 n0 : isN x.f0
 n1_0 : isN x.f1.f0
 n1_2 : isN x.f1.f2
 t1_1 : x.f1.f1.size ≤ 256
 m4 : x.f1.f3.length ≤ 64
 l4 : ∀ y ∈ x.f1.f3, SeenOk y
def encPart (x : S86) : List Int := encNum x.f0 ++ encNum x.f1.f0 ++ encTxt x.f1.f1 ++ encNum x.f1.f2 ++ encList encSeen x.f1.f3
theorem len_Part (x : S86) (hx : PartOk x) : (encPart x).length ≤ 50000 := by
 have e0 := num_le x.f0
 have e1_0 := num_le x.f1.f0
 have e1_1 := txt_le x.f1.f1
 have h1_1 := hx.t1_1
 have e1_2 := num_le x.f1.f2
 have m4 := hx.m4
 have q4 := list_le len_Seen hx.l4
 have e90 := num_le 0
 have e91 := num_le 1
 simp only [encPart, List.length_append]
 omega
set_option maxRecDepth 100000 in
set_option maxHeartbeats 1000000 in
theorem putPart_any (x : S86) (hx : PartOk x) (cs : List Value) (w0 W : World) (hk : k86.K w0 x cs) (hb : Below w0.heap.size w0 W) (base g : Nat) (v : Value) (bs : List Int) (hbase : w0.heap.size ≤ base) (hp : Pen 127 W base g v bs) (hl : bs.length + 50000 ≤ 140737488355328) :
  Calls Tryz.prog 213 #[.pointer (some ⟨g, 0, none⟩), .agg cs.toArray] W fun e W' => e = .returned (.tuple #[]) ∧ Wrote 127 W W' base g v (bs ++ encPart x) := by
 obtain ⟨A4, c4, rfl, l4, g4⟩ := k86_open hk
 have HX := Aside0.mk hx
 have HP := Aside0.mk hp
 have HB := Aside0.mk hb
 have G4 := Aside0.mk g4
 have m4 := hx.m4
 have e0 := num_le x.f0
 have e1_0 := num_le x.f1.f0
 have e1_1 := txt_le x.f1.f1
 have h1_1 := hx.t1_1
 have e1_2 := num_le x.f1.f2
 have e90 := num_le 0
 have e91 := num_le 1
 have HS0 := Aside0.mk ((Pend.begin_ HP.out).lay (.cells #[.int .i64 x.f0, .int .i64 x.f1.f0, .string x.f1.f1, .int .i64 x.f1.f2, .slice A4 x.f1.f3.length c4] 86 (0, 0)))
 clear hk hp hb hx g4
 go_enter Tryz.func213, Tryz.ntmps213
 go_wp2_with fail
 refine (Pend.num HS0.out x.f0 HX.out.n0 (by first | omega | (simp only [List.length_append]; omega))).mono ?_
 rintro e w1 ⟨rfl, v1, hs1⟩
 have hc1 := hs1.cells (k := W.heap.size) (.inr ⟨rfl, rfl⟩)
 have HS1 := Aside0.mk hs1
 clear hs1
 go_wp2_with fail
 refine (Pend.num HS1.out x.f1.f0 HX.out.n1_0 (by first | omega | (simp only [List.length_append]; omega))).mono ?_
 rintro e w2 ⟨rfl, v2, hs2⟩
 have hc2 := hs2.cells (k := W.heap.size) (.inr ⟨rfl, rfl⟩)
 have HS2 := Aside0.mk hs2
 clear hs2 hc1
 go_wp2_with fail
 refine (Pend.txt HS2.out x.f1.f1 (by have := HX.out.t1_1; omega) (by first | omega | (simp only [List.length_append]; omega))).mono ?_
 rintro e w3 ⟨rfl, v3, hs3⟩
 have hc3 := hs3.cells (k := W.heap.size) (.inr ⟨rfl, rfl⟩)
 have HS3 := Aside0.mk hs3
 clear hs3 hc2
 go_wp2_with fail
 refine (Pend.num HS3.out x.f1.f2 HX.out.n1_2 (by first | omega | (simp only [List.length_append]; omega))).mono ?_
 rintro e w4 ⟨rfl, v4, hs4⟩
 have hc4 := hs4.cells (k := W.heap.size) (.inr ⟨rfl, rfl⟩)
 have HS4 := Aside0.mk hs4
 clear hs4 hc3
 go_wp2_with fail
 refine (putList_Seen 258 (fun args w => by kernel_rfl) encSeen SeenOk 600 put_Seen len_Seen A4 c4 x.f1.f3 w0 _ G4.out HX.out.l4 (HS4.out.above HP.out HB.out hbase) base g _ _ hbase HS4.out.pen (by omega) (by first | omega | (simp only [List.length_append]; omega))).mono ?_
 rintro e w5 ⟨rfl, hw5⟩
 obtain ⟨v5, hs5⟩ := HS4.out.step hw5
 have hc5 := hs5.cells (k := W.heap.size) (.inr ⟨rfl, rfl⟩)
 have HS5 := Aside0.mk hs5
 clear hs5 hw5 hc4
 go_wp2_with fail
 first | go_end0 | refine bodyPost_ret (results_none rfl _ _ _) rfl ?_
 exact ⟨rfl, by unfold encPart; simpa only [List.append_assoc] using HS5.out.wrote⟩
theorem put_Part : PutPart 213 encPart PartOk 50000 := fun x cs w0 W hx hk hb base g v bs hbase hp hl => putPart_any x hx cs w0 W hk hb base g v bs hbase hp hl
structure TaggedOk (x : S148) : Prop where
 n0_0 : isN x.f0.f0
 n0_3 : isN x.f0.f3
 t0_1 : x.f0.f1.size ≤ 256
 t0_2 : x.f0.f2.size ≤ 256
 m4 : x.f1.length ≤ 4
 l4 : ∀ y ∈ x.f1, isN y
def encTagged (x : S148) : List Int := encNum x.f0.f0 ++ encTxt x.f0.f1 ++ encTxt x.f0.f2 ++ encNum x.f0.f3 ++ encList encNum x.f1
theorem len_Tagged (x : S148) (hx : TaggedOk x) : (encTagged x).length ≤ 1000 := by
 have e0_0 := num_le x.f0.f0
 have e0_1 := txt_le x.f0.f1
 have h0_1 := hx.t0_1
 have e0_2 := txt_le x.f0.f2
 have h0_2 := hx.t0_2
 have e0_3 := num_le x.f0.f3
 have m4 := hx.m4
 have q4 := list_le len_int hx.l4
 have e90 := num_le 0
 have e91 := num_le 1
 simp only [encTagged, List.length_append]
 omega
set_option maxRecDepth 100000 in
set_option maxHeartbeats 1000000 in
theorem putTagged_any (x : S148) (hx : TaggedOk x) (cs : List Value) (w0 W : World) (hk : k148.K w0 x cs) (hb : Below w0.heap.size w0 W) (base g : Nat) (v : Value) (bs : List Int) (hbase : w0.heap.size ≤ base) (hp : Pen 127 W base g v bs) (hl : bs.length + 1000 ≤ 140737488355328) :
  Calls Tryz.prog 252 #[.pointer (some ⟨g, 0, none⟩), .agg cs.toArray] W fun e W' => e = .returned (.tuple #[]) ∧ Wrote 127 W W' base g v (bs ++ encTagged x) := by
 obtain ⟨A4, c4, rfl, l4, g4⟩ := k148_open hk
 have HX := Aside0.mk hx
 have HP := Aside0.mk hp
 have HB := Aside0.mk hb
 have G4 := Aside0.mk g4
 have m4 := hx.m4
 have e0_0 := num_le x.f0.f0
 have e0_1 := txt_le x.f0.f1
 have h0_1 := hx.t0_1
 have e0_2 := txt_le x.f0.f2
 have h0_2 := hx.t0_2
 have e0_3 := num_le x.f0.f3
 have e90 := num_le 0
 have e91 := num_le 1
 have HS0 := Aside0.mk ((Pend.begin_ HP.out).lay (.cells #[.int .i64 x.f0.f0, .string x.f0.f1, .string x.f0.f2, .int .i64 x.f0.f3, .slice A4 x.f1.length c4] 148 (0, 0)))
 clear hk hp hb hx g4
 go_enter Tryz.func252, Tryz.ntmps252
 go_wp2_with fail
 refine (Pend.num HS0.out x.f0.f0 HX.out.n0_0 (by first | omega | (simp only [List.length_append]; omega))).mono ?_
 rintro e w1 ⟨rfl, v1, hs1⟩
 have hc1 := hs1.cells (k := W.heap.size) (.inr ⟨rfl, rfl⟩)
 have HS1 := Aside0.mk hs1
 clear hs1
 go_wp2_with fail
 refine (Pend.txt HS1.out x.f0.f1 (by have := HX.out.t0_1; omega) (by first | omega | (simp only [List.length_append]; omega))).mono ?_
 rintro e w2 ⟨rfl, v2, hs2⟩
 have hc2 := hs2.cells (k := W.heap.size) (.inr ⟨rfl, rfl⟩)
 have HS2 := Aside0.mk hs2
 clear hs2 hc1
 go_wp2_with fail
 refine (Pend.txt HS2.out x.f0.f2 (by have := HX.out.t0_2; omega) (by first | omega | (simp only [List.length_append]; omega))).mono ?_
 rintro e w3 ⟨rfl, v3, hs3⟩
 have hc3 := hs3.cells (k := W.heap.size) (.inr ⟨rfl, rfl⟩)
 have HS3 := Aside0.mk hs3
 clear hs3 hc2
 go_wp2_with fail
 refine (Pend.num HS3.out x.f0.f3 HX.out.n0_3 (by first | omega | (simp only [List.length_append]; omega))).mono ?_
 rintro e w4 ⟨rfl, v4, hs4⟩
 have hc4 := hs4.cells (k := W.heap.size) (.inr ⟨rfl, rfl⟩)
 have HS4 := Aside0.mk hs4
 clear hs4 hc3
 go_wp2_with fail
 refine (putList_int 277 (fun args w => by kernel_rfl) encNum isN 5 put_int len_int A4 c4 x.f1 w0 _ G4.out HX.out.l4 (HS4.out.above HP.out HB.out hbase) base g _ _ hbase HS4.out.pen (by omega) (by first | omega | (simp only [List.length_append]; omega))).mono ?_
 rintro e w5 ⟨rfl, hw5⟩
 obtain ⟨v5, hs5⟩ := HS4.out.step hw5
 have hc5 := hs5.cells (k := W.heap.size) (.inr ⟨rfl, rfl⟩)
 have HS5 := Aside0.mk hs5
 clear hs5 hw5 hc4
 go_wp2_with fail
 first | go_end0 | refine bodyPost_ret (results_none rfl _ _ _) rfl ?_
 exact ⟨rfl, by unfold encTagged; simpa only [List.append_assoc] using HS5.out.wrote⟩
theorem put_Tagged : PutTagged 252 encTagged TaggedOk 1000 := fun x cs w0 W hx hk hb base g v bs hbase hp hl => putTagged_any x hx cs w0 W hk hb base g v bs hbase hp hl
structure ItemOk (x : S91) : Prop where
 n0 : isN x.f0
 n1 : isN x.f1
 m3 : x.f3.length ≤ 64
 l3 : ∀ y ∈ x.f3, TaggedOk y
 m4 : x.f4.length ≤ 4
 l4 : ∀ y ∈ x.f4, PartOk y
def encItem (x : S91) : List Int := encNum x.f0 ++ encNum x.f1 ++ (if x.f2 = true then encNum 1 ++ encList encPart x.f4 else encNum 0 ++ encList encTagged x.f3)
theorem len_Item (x : S91) (hx : ItemOk x) : (encItem x).length ≤ 300000 := by
 have e0 := num_le x.f0
 have e1 := num_le x.f1
 have m3 := hx.m3
 have m4 := hx.m4
 have q3 := list_le len_Tagged hx.l3
 have q4 := list_le len_Part hx.l4
 have e90 := num_le 0
 have e91 := num_le 1
 unfold encItem
 split <;> simp only [List.length_append] <;> omega
set_option maxRecDepth 100000 in
set_option maxHeartbeats 1000000 in
theorem putItem_any (x : S91) (hx : ItemOk x) (cs : List Value) (w0 W : World) (hk : k91.K w0 x cs) (hb : Below w0.heap.size w0 W) (base g : Nat) (v : Value) (bs : List Int) (hbase : w0.heap.size ≤ base) (hp : Pen 127 W base g v bs) (hl : bs.length + 300000 ≤ 140737488355328) :
   Calls Tryz.prog 204 #[.pointer (some ⟨g, 0, none⟩), .agg cs.toArray] W fun e W' => e = .returned (.tuple #[]) ∧ Wrote 127 W W' base g v (bs ++ encItem x) := by
 obtain ⟨A3, c3, A4, c4, rfl, l3, g3, l4, g4⟩ := k91_open hk
 have HX := Aside0.mk hx
 have HP := Aside0.mk hp
 have HB := Aside0.mk hb
 have G3 := Aside0.mk g3
 have m3 := hx.m3
 have G4 := Aside0.mk g4
 have m4 := hx.m4
 have e0 := num_le x.f0
 have e1 := num_le x.f1
 have e90 := num_le 0
 have e91 := num_le 1
 cases hv : x.f2 with
 | true =>
   have HE := Aside0.mk (show encItem x = encNum x.f0 ++ encNum x.f1 ++ encNum 1 ++ encList encPart x.f4 by unfold encItem; rw [hv]; simp [List.append_assoc])
   have HS0 := Aside0.mk ((Pend.begin_ HP.out).lay (.cells #[.int .i64 x.f0, .int .i64 x.f1, .bool true, .slice A3 x.f3.length c3, .slice A4 x.f4.length c4] 91 (0, 0)))
   clear hk hp hb hx g3 g4 hv
   go_enter Tryz.func204, Tryz.ntmps204
   go_wp2_with fail
   refine (Pend.num HS0.out x.f0 HX.out.n0 (by first | omega | (simp only [List.length_append]; omega))).mono ?_
   rintro e w1 ⟨rfl, v1, hs1⟩
   have hc1 := hs1.cells (k := W.heap.size) (.inr ⟨rfl, rfl⟩)
   have HS1 := Aside0.mk hs1
   clear hs1
   go_wp2_with fail
   refine (Pend.num HS1.out x.f1 HX.out.n1 (by first | omega | (simp only [List.length_append]; omega))).mono ?_
   rintro e w2 ⟨rfl, v2, hs2⟩
   have hc2 := hs2.cells (k := W.heap.size) (.inr ⟨rfl, rfl⟩)
   have HS2 := Aside0.mk hs2
   clear hs2 hc1
   go_wp2_with fail
   refine (Pend.num HS2.out 1 ⟨by omega, by omega⟩ (by first | omega | (simp only [List.length_append]; omega))).mono ?_
   rintro e w3 ⟨rfl, v3, hs3⟩
   have hc3 := hs3.cells (k := W.heap.size) (.inr ⟨rfl, rfl⟩)
   have HS3 := Aside0.mk hs3
   clear hs3 hc2
   go_wp2_with fail
   refine (putList_Part 213 (fun args w => by kernel_rfl) encPart PartOk 50000 put_Part len_Part A4 c4 x.f4 w0 _ G4.out HX.out.l4 (HS3.out.above HP.out HB.out hbase) base g _ _ hbase HS3.out.pen (by omega) (by first | omega | (simp only [List.length_append]; omega))).mono ?_
   rintro e w4 ⟨rfl, hw4⟩
   obtain ⟨v4, hs4⟩ := HS3.out.step hw4
   have hc4 := hs4.cells (k := W.heap.size) (.inr ⟨rfl, rfl⟩)
   have HS4 := Aside0.mk hs4
   clear hs4 hw4 hc3
   go_wp2_with fail
   first | go_end0 | refine bodyPost_ret (results_none rfl _ _ _) rfl ?_
   exact ⟨rfl, by rw [HE.out]; simpa only [List.append_assoc] using HS4.out.wrote⟩
 | false =>
   have HE := Aside0.mk (show encItem x = encNum x.f0 ++ encNum x.f1 ++ encNum 0 ++ encList encTagged x.f3 by unfold encItem; rw [hv]; simp [List.append_assoc])
   have HS0 := Aside0.mk ((Pend.begin_ HP.out).lay (.cells #[.int .i64 x.f0, .int .i64 x.f1, .bool false, .slice A3 x.f3.length c3, .slice A4 x.f4.length c4] 91 (0, 0)))
   clear hk hp hb hx g3 g4 hv
   go_enter Tryz.func204, Tryz.ntmps204
   go_wp2_with fail
   refine (Pend.num HS0.out x.f0 HX.out.n0 (by first | omega | (simp only [List.length_append]; omega))).mono ?_
   rintro e w1 ⟨rfl, v1, hs1⟩
   have hc1 := hs1.cells (k := W.heap.size) (.inr ⟨rfl, rfl⟩)
   have HS1 := Aside0.mk hs1
   clear hs1
   go_wp2_with fail
   refine (Pend.num HS1.out x.f1 HX.out.n1 (by first | omega | (simp only [List.length_append]; omega))).mono ?_
   rintro e w2 ⟨rfl, v2, hs2⟩
   have hc2 := hs2.cells (k := W.heap.size) (.inr ⟨rfl, rfl⟩)
   have HS2 := Aside0.mk hs2
   clear hs2 hc1
   go_wp2_with fail
   refine (Pend.num HS2.out 0 ⟨by omega, by omega⟩ (by first | omega | (simp only [List.length_append]; omega))).mono ?_
   rintro e w3 ⟨rfl, v3, hs3⟩
   have hc3 := hs3.cells (k := W.heap.size) (.inr ⟨rfl, rfl⟩)
   have HS3 := Aside0.mk hs3
   clear hs3 hc2
   go_wp2_with fail
   refine (putList_Tagged 252 (fun args w => by kernel_rfl) encTagged TaggedOk 1000 put_Tagged len_Tagged A3 c3 x.f3 w0 _ G3.out HX.out.l3 (HS3.out.above HP.out HB.out hbase) base g _ _ hbase HS3.out.pen (by omega) (by first | omega | (simp only [List.length_append]; omega))).mono ?_
   rintro e w4 ⟨rfl, hw4⟩
   obtain ⟨v4, hs4⟩ := HS3.out.step hw4
   have hc4 := hs4.cells (k := W.heap.size) (.inr ⟨rfl, rfl⟩)
   have HS4 := Aside0.mk hs4
   clear hs4 hw4 hc3
   go_wp2_with fail
   first | go_end0 | refine bodyPost_ret (results_none rfl _ _ _) rfl ?_
   exact ⟨rfl, by rw [HE.out]; simpa only [List.append_assoc] using HS4.out.wrote⟩
theorem put_Item : PutItem 204 encItem ItemOk 300000 := fun x cs w0 W hx hk hb base g v bs hbase hp hl => putItem_any x hx cs w0 W hk hb base g v bs hbase hp hl
end Go.Proofs.YtmneemhplffemaaGreatDoorRR.Put
