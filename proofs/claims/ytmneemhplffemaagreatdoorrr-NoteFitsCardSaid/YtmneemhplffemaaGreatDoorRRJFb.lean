/- Texts of the proof, joined. -/
import Derived.ArgAppend
import Derived.Below
import Derived.BigQuiet
import Derived.Deep.AppendLies
import Derived.Deep.CutBlock
import Derived.Deep.DeepCutAuto
import Derived.Deep.DeepHandedRow
import Derived.Deep.Draws
import Derived.Deep.LoopGhost
import Derived.Deep.OwnRows
import Derived.Deep.QuietTactic
import Derived.Deep.RegionHeld3
import Derived.Deep.WholeRow
import Derived.HandedShaped
import Derived.KernelRfl
import Derived.Laws.BitsAllLaws
import Derived.Laws.BitsLemmas
import Derived.Laws.BytesArg
import Derived.Laws.EntriesVeiled
import Derived.Laws.IdiomCopy
import Derived.Laws.MakeOwn
import Derived.Laws.OwnMore
import Derived.Laws.Rows
import Derived.Laws.Slices
import Derived.Laws.Tables
import Derived.Lib.AppendStr
import Derived.Lib.ConvBytes
import Derived.Lib.Hide
import Derived.Lib.LaidTab
import Derived.Maps.AppendAt
import Derived.OpenShut
import Derived.OrdersHeld
import Derived.OwnWalk
import Derived.ProofKit
import Derived.RowKit
import Derived.RowKit3
import Derived.Shelf.LaysM
import Derived.Shelf.Strings.Count
import Derived.Shelf.Strings.Explode
import Derived.Shelf.Strings.Prefix
import Derived.Shelf.Strings.RuneCount
import Derived.Shelf.Strings.Search1
import Derived.Shelf.Strings.Search2
import Derived.Shelf.Strings.Search3
import Derived.Shelf.Strings.Shaped
import Derived.Shelf.Strings.Split
import Derived.Shelf.Strings.SplitShaped
import Derived.Shelf.Unicode.Decode
import Derived.Shelf.Unicode.DecodeSlow
import Derived.Shelf.Utf8.RuneCount
import Derived.Shelf.Vars
import Derived.Tactics
import Derived.Test.YtmneemhplffemaaGreatDoorRRCards
import Derived.Test.YtmneemhplffemaaGreatDoorRRProg
import Derived.Test.YtmneemhplffemaaGreatDoorRRTie
import Derived.WalkKit
import Derived.WideLaws
import Derived.Test.YtmneemhplffemaaGreatDoorRRJFa
set_option linter.unusedVariables false
set_option linter.unusedSimpArgs false
namespace Go.Proofs
open Go.Shelf
def Tryz.lays99_ren : Go.Shelf.Ren := ⟨fun | 99 => 264 | 206 => 287 | n => n, fun | 9 => 9 | 4 => 4 | 3 => 3 | n => n, fun | n => n⟩
theorem Tryz.lays99 : Go.Proofs.Lays.n99 Tryz.prog Tryz.lays99_ren := {
 mixed := by kernel_rfl
 f99 := Tryz.func264.trans (congrArg some (by kernel_rfl))
 f206 := Tryz.func287.trans (congrArg some (by kernel_rfl))
 t3 := Tryz.underlying3
 a3 := Tryz.isAgg3
 z3 := Tryz.sizeOf3
 v3 := Tryz.zeroValue3
 t4 := Tryz.underlying4
 a4 := Tryz.isAgg4
 z4 := Tryz.sizeOf4
 v4 := Tryz.zeroValue4
 t9 := Tryz.underlying9
 a9 := Tryz.isAgg9
 z9 := Tryz.sizeOf9
 v9 := Tryz.zeroValue9 }
open Go.RowKit Go.Lib in
theorem Tryz.strings_HasPrefix (s p : ByteArray) (w : World) :
 Calls Tryz.prog 264 #[.string s, .string p] w fun e w' => e = .returned (.bool (Lib.hasPrefix s.data.toList p.data.toList)) ∧ w' = w := Any.strings_HasPrefix Tryz.lays99 s p w
def Tryz.lays146_ren : Go.Shelf.Ren := ⟨fun | 146 => 265 | 221 => 288 | 268 => 297 | 138 => 298 | 143 => 299 | 195 => 303 | 197 => 304 | 218 => 305 | 219 => 306 | 260 => 307 | 217 => 308 | 225 => 309 | 224 => 310 | 267 => 311 | 266 => 312 | 314 => 313 | n => n, fun | 9 => 9 | 31 => 79 | 3 => 3 | 4 => 4 | 0 => 0 | 105 => 300 | 21 => 21 | 5 => 5 | 46 => 210 | 119 => 303 | 139 => 306 | 138 => 305 | 146 => 307 | 51 => 194 | n => n, fun | 1 => 3 | 3 => 4 | 4 => 5 | n => n⟩
theorem Tryz.lays146 : Go.Proofs.Lays.n146 Tryz.prog Tryz.lays146_ren := {
 mixed := by kernel_rfl
 f138 := Tryz.func298.trans (congrArg some (by kernel_rfl))
 f143 := Tryz.func299.trans (congrArg some (by kernel_rfl))
 f146 := Tryz.func265.trans (congrArg some (by kernel_rfl))
 f195 := Tryz.func303.trans (congrArg some (by kernel_rfl))
 f197 := Tryz.func304.trans (congrArg some (by kernel_rfl))
 f217 := Tryz.func308.trans (congrArg some (by kernel_rfl))
 f218 := Tryz.func305.trans (congrArg some (by kernel_rfl))
 f219 := Tryz.func306.trans (congrArg some (by kernel_rfl))
 f221 := Tryz.func288.trans (congrArg some (by kernel_rfl))
 f224 := Tryz.func310.trans (congrArg some (by kernel_rfl))
 f225 := Tryz.func309.trans (congrArg some (by kernel_rfl))
 f260 := Tryz.func307.trans (congrArg some (by kernel_rfl))
 f266 := Tryz.func312.trans (congrArg some (by kernel_rfl))
 f267 := Tryz.func311.trans (congrArg some (by kernel_rfl))
 f268 := Tryz.func297.trans (congrArg some (by kernel_rfl))
 f314 := Tryz.func313.trans (congrArg some (by kernel_rfl))
 t0 := Tryz.underlying0
 a0 := Tryz.isAgg0
 z0 := Tryz.sizeOf0
 v0 := Tryz.zeroValue0
 t3 := Tryz.underlying3
 a3 := Tryz.isAgg3
 z3 := Tryz.sizeOf3
 v3 := Tryz.zeroValue3
 t4 := Tryz.underlying4
 a4 := Tryz.isAgg4
 z4 := Tryz.sizeOf4
 v4 := Tryz.zeroValue4
 t5 := Tryz.underlying5
 a5 := Tryz.isAgg5
 z5 := Tryz.sizeOf5
 v5 := Tryz.zeroValue5
 t9 := Tryz.underlying9
 a9 := Tryz.isAgg9
 z9 := Tryz.sizeOf9
 v9 := Tryz.zeroValue9
 t21 := Tryz.underlying21
 a21 := Tryz.isAgg21
 z21 := Tryz.sizeOf21
 v21 := Tryz.zeroValue21
 t31 := Tryz.underlying79
 a31 := Tryz.isAgg79
 z31 := Tryz.sizeOf79
 v31 := Tryz.zeroValue79
 t46 := Tryz.underlying210
 a46 := Tryz.isAgg210
 z46 := Tryz.sizeOf210
 v46 := Tryz.zeroValue210
 t51 := Tryz.underlying194
 a51 := Tryz.isAgg194
 z51 := Tryz.sizeOf194
 v51 := Tryz.zeroValue194
 t105 := Tryz.underlying300
 a105 := Tryz.isAgg300
 z105 := Tryz.sizeOf300
 v105 := Tryz.zeroValue300
 t119 := Tryz.underlying303
 a119 := Tryz.isAgg303
 z119 := Tryz.sizeOf303
 t138 := Tryz.underlying305
 a138 := Tryz.isAgg305
 z138 := Tryz.sizeOf305
 v138 := Tryz.zeroValue305
 t139 := Tryz.underlying306
 a139 := Tryz.isAgg306
 z139 := Tryz.sizeOf306
 v139 := Tryz.zeroValue306
 t146 := Tryz.underlying307
 a146 := Tryz.isAgg307
 z146 := Tryz.sizeOf307
 v146 := Tryz.zeroValue307
 g1 := by kernel_rfl
 g3 := by kernel_rfl
 g4 := by kernel_rfl }
open Go.RowKit Go.Lib in
theorem Tryz.strings_Split (s sep : ByteArray) (m : Int) (w : World) (hs : s.size < 4294967281) (hm : w.cell? ⟨3, 0, none⟩ = some (.int .i64 m)) (h1 : 1 ≤ sep.size) :
 Calls Tryz.prog 265 #[.string s, .string sep] w fun e w' =>
  e = .returned (.slice (some ⟨w.heap.size, 0, none⟩) (Lib.countB s sep + 1) (Lib.countB s sep + 1)) ∧ w' = w.alloc (.cells ((Lib.splitB sep 0 (Lib.countB s sep) s).map Value.string).toArray 9) := Any.strings_Split Tryz.lays146 (by kernel_rfl) s sep m w hs hm h1
end Go.Proofs
namespace Go.Proofs.YtmneemhplffemaaGreatDoorRR.Ext
open Go.RowKit Go.Proofs.YtmneemhplffemaaGreatDoorRRW.PrintWords
structure Env (w : World) : Prop where
 maxLen : ∃ m, w.cell? ⟨3, 0, none⟩ = some (.int .i64 m)
 named : ∀ i, i < 128 → w.cell? ⟨2, i, none⟩ = some (.int .u8 (Name.tab i))
theorem Env.at_ {w w' : World} (h : Env w) (hb : Below w.heap.size w w') : Env w' := by
 obtain ⟨m, hm⟩ := h.maxLen
 exact ⟨⟨m, pw_cell_below hb hm⟩, fun i hi => pw_cell_below hb (h.named i hi)⟩
end Go.Proofs.YtmneemhplffemaaGreatDoorRR.Ext
namespace Go.Proofs.YtmneemhplffemaaGreatDoorRR.Chk
open Go.RowKit Go.Proofs.YtmneemhplffemaaGreatDoorRR.Ext Go.Proofs.YtmneemhplffemaaGreatDoorRRW.PrintWords
def wordList : List ByteArray := [⟨#[45]⟩, ⟨#[115]⟩, ⟨#[115, 114, 111]⟩, ⟨#[115]⟩, ⟨#[115, 99]⟩, ⟨#[115, 99, 116, 119]⟩, ⟨#[115, 99, 119]⟩, ⟨#[115, 99, 119]⟩, ⟨#[115, 99, 116]⟩, ⟨#[110, 115, 101]⟩, ⟨#[110, 115, 114, 82]⟩, ⟨#[110, 115]⟩, ⟨#[110, 115, 99, 116, 101]⟩, ⟨#[110, 115, 99, 116, 101, 112]⟩, ⟨#[110, 115, 99, 119, 105]⟩, ⟨#[118]⟩, ⟨#[110, 116, 102]⟩, ⟨#[110, 116, 102, 69, 109]⟩, ⟨#[110, 116]⟩, ⟨#[110, 116, 102, 83]⟩, ⟨#[110]⟩, ⟨#[]⟩, ⟨#[118]⟩, ⟨#[110]⟩, ⟨#[110, 115, 99, 119]⟩]
def hasList : List ByteArray := [⟨#[]⟩, ⟨#[115]⟩, ⟨#[115, 114, 111]⟩, ⟨#[115]⟩, ⟨#[115, 99]⟩, ⟨#[115, 99, 116, 87]⟩, ⟨#[115, 99, 119]⟩, ⟨#[115, 99, 100]⟩, ⟨#[115, 99, 116]⟩, ⟨#[110, 115, 101]⟩, ⟨#[110, 115, 114, 121]⟩, ⟨#[110, 115]⟩, ⟨#[110, 115, 99, 116, 101]⟩, ⟨#[110, 115, 99, 116, 101, 80]⟩, ⟨#[110, 115, 99, 68, 73]⟩, ⟨#[118]⟩, ⟨#[110, 116, 102]⟩, ⟨#[110, 116, 102, 69, 109]⟩, ⟨#[110, 116]⟩, ⟨#[110, 116, 102, 97]⟩, ⟨#[110]⟩, ⟨#[]⟩, ⟨#[118]⟩, ⟨#[110]⟩, ⟨#[110, 115, 99, 100]⟩]
def wordTab (n : Nat) : ByteArray := wordList.getD n ByteArray.empty
def hasTab (n : Nat) : ByteArray := hasList.getD n ByteArray.empty
structure EnvN (w : World) : Prop where
 env : Env w
 has : ∀ i, i < 25 → w.cell? ⟨0, i, none⟩ = some (.string (hasTab i))
theorem EnvN.at_ {w w' : World} (h : EnvN w) (hb : Below w.heap.size w w') : EnvN w' := ⟨h.env.at_ hb, fun i hi => pw_cell_below hb (h.has i hi)⟩
structure EnvR (w : World) : Prop where
 envN : EnvN w
 words : ∀ i, i < 25 → w.cell? ⟨1, i, none⟩ = some (.string (wordTab i))
theorem EnvR.at_ {w w' : World} (h : EnvR w) (hb : Below w.heap.size w w') : EnvR w' := ⟨h.envN.at_ hb, fun i hi => pw_cell_below hb (h.words i hi)⟩
end Go.Proofs.YtmneemhplffemaaGreatDoorRR.Chk
namespace Go.Proofs.YtmneemhplffemaaGreatDoorRR.Ext
open Go.RowKit Go.Proofs.YtmneemhplffemaaGreatDoorRR.Chk Go.Proofs.YtmneemhplffemaaGreatDoorRRW.PrintWords
theorem laidMet_tail {P : Program} {W : World} {x : String × DataW Unit} {l : List (String × DataW Unit)} (h : laidMet P (x :: l) W) : laidMet P l W := by
 obtain ⟨ps, ⟨g, t, cs, fuel, p, q, _, _, _, _, hq, rfl⟩, hnd, hc⟩ := h
 exact ⟨q, hq, (List.nodup_append.1 hnd).2.1, fun b off hb => hc b off (List.mem_append_right _ hb)⟩
def strData {H : Type} (l : List ByteArray) : DataW H := .agg (l.map fun s => .lit (.string s.data.toList))
theorem cells_of_strs {H : Type} {enc : TypeId × Value → H} {P : Program} {w : World} {base : Nat} {sp : Nat → Bool} {held : Bool} {fuel : Nat} {t e : TypeId} {n : Nat} {cs : List Value} {zs : List ByteArray} {p : List MemPlace}
   (ht : P.underlying t = some (.array n e)) (he : P.underlying e = some .string) (hce : P.cellsOf e = 1) (hct : P.cellsOf t = n)
   (h : DataW.trod enc P w base sp held fuel t cs = some (strData zs, p)) : cs = zs.map Value.string := by
 cases fuel with
 | zero => simp [DataW.trod] at h
 | succ fuel =>
   simp only [DataW.trod, ht, hce, hct, Nat.mul_one] at h
   split at h
   · rename_i hl
     obtain ⟨xs, hm, hx⟩ := Option.map_eq_some_iff.1 h
     have hxs : xs.map (·.1) = zs.map fun z => (DataW.lit (.string z.data.toList) : DataW H) := by
       have := congrArg Prod.fst hx
       simpa [strData] using this
     have hxl : xs.length = n := by simpa using Lib.mapM_length hm
     have hzl : zs.length = n := by
       have := congrArg List.length hxs
       simp at this
       omega
     apply List.ext_getElem?
     intro i
     by_cases hi : i < n
     · obtain ⟨b, hb, hf⟩ := Lib.mapM_at hm i i (by simp [hi])
       obtain ⟨z, hc, rfl, _⟩ := DataW.trod_string he hf
       have h1 : cs[i]? = some (.string z) := by
        have := congrArg (·[0]?) hc
        simpa [List.getElem?_take, List.getElem?_drop] using this
       have h2 : (xs.map (·.1))[i]? = some (DataW.lit (.string z.data.toList) : DataW H) := by simp [hb]
       rw [hxs] at h2
       simp only [List.getElem?_map, Option.map_eq_some_iff, DataW.lit.injEq, Lit.string.injEq] at h2
       obtain ⟨z', hz', he'⟩ := h2
       have : z' = z := by
        cases z; cases z'; simp_all
       subst this
       simp [h1, hz']
     · rw [List.getElem?_eq_none (by omega), List.getElem?_eq_none (by simp; omega)]
   · cases h
theorem strs_of_head {P : Program} {W : World} {name : String} {zs : List ByteArray} {rest : List (String × DataW Unit)} {g : Nat} {t e : TypeId} {n : Nat}
  (hg : P.globalNamed name = some g) (hty : (P.globals[g]?).map (·.type) = some t) (ht : P.underlying t = some (.array n e)) (he : P.underlying e = some .string) (hce : P.cellsOf e = 1) (hct : P.cellsOf t = n)
  (h : laidMet P ((name, strData zs) :: rest) W) (i : Nat) (hi : i < zs.length) : W.cell? ⟨g, i, none⟩ = some (.string (zs.getD i ByteArray.empty)) := by
 obtain ⟨ps, ⟨g', t', cs, fuel, p, q, hg', ht', hvar, hd, _, _⟩, _⟩ := h
 obtain rfl := Option.some.inj (hg.symm.trans hg')
 obtain rfl := Option.some.inj (hty.symm.trans ht')
 have hcs := cells_of_strs ht he hce hct hd
 have h2 := World.var?_cell hg hvar i
 rw [h2, ← Array.getElem?_toList, hcs, List.getElem?_map, List.getElem?_eq_getElem hi, List.getD_eq_getElem?_getD, List.getElem?_eq_getElem hi]
 rfl
def namedTab : List Int := (List.range 128).map fun i => Name.tab i
theorem named_data : Rows.laid_herald_place_named = Lib.tabData (H := Unit) .u8 namedTab := by kernel_rfl
theorem has_data : Rows.laid_herald_note_has = strData (H := Unit) hasList := by kernel_rfl
theorem gNamed : Tryz.prog.globalNamed "herald/place.named" = some 2 := by kernel_rfl
theorem gHas : Tryz.prog.globalNamed "herald/note.has" = some 0 := by kernel_rfl
theorem gNamedType : (Tryz.prog.globals[2]?).map (·.type) = some 288 := by kernel_rfl
theorem gHasType : (Tryz.prog.globals[0]?).map (·.type) = some 158 := by kernel_rfl
theorem cNamed : Tryz.prog.cellsOf 288 = 128 := by kernel_rfl
theorem cHas : Tryz.prog.cellsOf 158 = 25 := by kernel_rfl
theorem cByte : Tryz.prog.cellsOf 5 = 1 := by kernel_rfl
theorem cStr : Tryz.prog.cellsOf 9 = 1 := by kernel_rfl
theorem namedTab_at (i : Nat) (h : i < 128) : namedTab.getD i 0 = Name.tab i := by
 simp [namedTab, h]
theorem maxLen_of {W : World} (hS : W.ShapedOpen Tryz.prog) : ∃ m, W.cell? ⟨3, 0, none⟩ = some (.int .i64 m) :=
 Go.Proofs.cell_of_shapedOpen_int (zero := #[.int .i64 0]) (t := 3) hS (of_decide_eq_true (by kernel_rfl)) (by kernel_rfl) rfl (by kernel_rfl) (by kernel_rfl) Tryz.underlying3
theorem env_of_tab {W : World} {rest : List (String × DataW Unit)} (hS : W.ShapedOpen Tryz.prog) (h : laidMet Tryz.prog (("herald/place.named", Lib.tabData .u8 namedTab) :: rest) W) : Env W := by
 refine ⟨maxLen_of hS, fun i hi => ?_⟩
 have hT := Lib.tabIs_of_head gNamed gNamedType Tryz.underlying288 Tryz.underlying5 cByte cNamed h
 have := hT.cell gNamed i (by simp [namedTab]; exact hi)
 rw [namedTab_at i hi] at this
 exact this
theorem env_note {W : World} (hS : W.ShapedOpen Tryz.prog) (h : laidMetH Tryz.prog [("unicode/utf8.acceptRanges", Rows.laid_unicode_utf8_acceptRanges), ("herald/place.named", Rows.laid_herald_place_named), ("herald/note.has", Rows.laid_herald_note_has), ("unicode/utf8.first", Rows.laid_unicode_utf8_first)] W) : EnvN W := by
 have h' : laidMet Tryz.prog [("unicode/utf8.acceptRanges", Rows.laid_unicode_utf8_acceptRanges), ("herald/place.named", Rows.laid_herald_place_named), ("herald/note.has", Rows.laid_herald_note_has), ("unicode/utf8.first", Rows.laid_unicode_utf8_first)] W := h
 rw [named_data, has_data] at h'
 have h2 := laidMet_tail h'
 exact ⟨env_of_tab hS h2, fun i hi => strs_of_head gHas gHasType Tryz.underlying158 Tryz.underlying9 cStr cHas (laidMet_tail h2) i hi⟩
def flat : Nat → DataW Unit → List Value
 | n + 1, .agg l => l.flatMap (flat n)
 | _, .lit (.int k z) => [.int k z]
 | _, .lit (.string s) => [.string ⟨s.toArray⟩]
 | _, _ => []
noncomputable def laidWorld (os : Os) : World :=
 let lay (d : DataW Unit) (h : Array Obj) (b : Nat) : Array Obj := h.modify b fun
  | .cells _ t frozen => .cells (flat 4 d).toArray t frozen
  | o => o
 let w := World.holding Tryz.prog os ⟨#[], #[], []⟩
 { w with heap := lay Rows.laid_unicode_utf8_acceptRanges (lay Rows.laid_unicode_utf8_first (lay Rows.laid_herald_note_has (lay Rows.laid_herald_place_named w.heap 2) 0) 4) 5 }
end Go.Proofs.YtmneemhplffemaaGreatDoorRR.Ext
namespace Go.Proofs.YtmneemhplffemaaGreatDoorRR.Wire
open Go.RowKit Go.Proofs.YtmneemhplffemaaGreatDoorRR.Ext Go.Proofs.YtmneemhplffemaaGreatDoorRRW.PrintWords
theorem info5 : (Tryz.prog.info? 5).map (fun i => (i.zero, i.size, i.bytes)) = some (some (.int .u8 0), 1, 1) := by kernel_rfl
def encN : Nat → Nat → List Int
 | 0, v => [(v : Int)]
 | f + 1, v => if v < 128 then [(v : Int)] else ((v % 128 + 128 : Nat) : Int) :: encN f (v / 128)
def encNum (v : Int) : List Int := encN 4 v.toNat
theorem encN_len (f v : Nat) : 1 ≤ (encN f v).length ∧ (encN f v).length ≤ f + 1 := by
 induction f generalizing v with
 | zero => simp [encN]
 | succ f ih =>
   have := ih (v / 128)
   unfold encN
   split <;> simp <;> omega
theorem encNum_len (v : Int) : 1 ≤ (encNum v).length ∧ (encNum v).length ≤ 5 := encN_len 4 _
theorem encN_small {f v : Nat} (h : v < 128) : encN f v = [(v : Int)] := by
 cases f with
 | zero => rfl
 | succ f => unfold encN; rw [if_pos h]
theorem encN_large {f v : Nat} (h : 128 ≤ v) : encN (f + 1) v = ((v % 128 + 128 : Nat) : Int) :: encN f (v / 128) := by
 rw [encN, if_neg (by omega)]
theorem byte_or (u : Nat) : Go.bits .or .u8 ((u : Int) % 256) 128 = ((u % 128 + 128 : Nat) : Int) := by
 have key : ∀ x : Fin 256, Go.bits .or .u8 (x.val : Int) 128 = ((x.val % 128 + 128 : Nat) : Int) := by decide +kernel
 have h := key ⟨u % 256, by omega⟩
 rw [show ((u : Int) % 256) = ((u % 256 : Nat) : Int) by omega, h]
 congr 1
 show u % 256 % 128 + 128 = u % 128 + 128
 omega
abbrev BRow (w : World) (base : Nat) (v : Value) (xs : List Int) : Prop := (Kd.int .u8).R 5 w base (fun _ => True) v xs
set_option maxRecDepth 100000 in
set_option maxHeartbeats 1000000 in
theorem number_any (v : Nat) (hv : v ≤ 2147483647) (w : World) :
  Calls Tryz.prog 101 #[.int .i64 v] w fun e w' => ∃ bv : Value, e = .returned (.tuple #[bv, .int .i64 0]) ∧ BRow w' w.heap.size bv (encNum v) ∧ Below w.heap.size w w' := by
 have hd0 : decide ((v : Int) < 0) = false := by simp
 have hd1 : decide ((2147483647 : Int) < v) = false := by simp; omega
 have HE := Aside0.mk (show encNum v = encN 4 v from rfl)
 go_enter Tryz.func101, Tryz.ntmps101
 go_wp2_with fail
 go_loopw [0, 4] (fun v0 v4 W => ∃ (f u : Nat) (acc : List Int), v0 = .int .i64 u ∧ u ≤ 2147483647 ∧ Aside0 (u < 128 ^ (f + 1)) ∧ Aside0 (acc ++ encN f u = encN 4 v) ∧ Aside0 (acc.length + f ≤ 4) ∧ Aside0 (BRow W w.heap.size v4 acc) ∧ Aside0 (Below w.heap.size w W)) (fun v0 _ _ => (intOf v0).toNat)
 case atStart => exact ⟨4, v, [], rfl, hv, ⟨by omega⟩, ⟨rfl⟩, ⟨Nat.le_refl _⟩, ⟨Kd.R_nil _ _ _ _ _⟩, ⟨Below.refl _ _⟩⟩
 case round =>
  clear hd0 hd1
  obtain ⟨f, u, acc, rfl, hu, HP, HA, HL, HO, HB⟩ := hrel
  by_cases hc : 128 ≤ u
  · obtain ⟨f, rfl⟩ : ∃ m, f = m + 1 := by
     cases f with
     | zero => have := HP.out; omega
     | succ m => exact ⟨m, rfl⟩
    have hcd : decide ((128 : Int) ≤ u) = true := by simp; omega
    have HA2 := Aside0.mk (show (acc ++ [((u % 128 + 128 : Nat) : Int)]) ++ encN f (u / 128) = encN 4 v by rw [← HA.out, encN_large hc]; simp)
    have HOR := byte_or u
    go_wp2_with ((with_reducible refine gate_builtin (b := .append) (xs := #[.tmp 15, .tmp 19]) rfl ?_); at_builtin; refine Kd.R_append (Kd.int .u8) (w0 := w) w.heap.size rfl (.tmp 15) (.tmp 19) 41 5 (.int .u8 0) 1 rfl Tryz.underlying41 info5 rfl (by decide) (by omega) u4 acc _ [.int .u8 ((u % 128 + 128 : Nat) : Int)] (fun _ => True) (fun _ => False) rfl rfl rfl (fun _ hk => hk.elim) (fun _ _ => trivial) HO.out HB.out (below_size HB.out) (by have := HL.out; omega) ?_; intro v1 W1 ho hb _ _; have HO1 := Aside0.mk ho; have HB1 := Aside0.mk hb; clear ho hb)
    go_roundw
    case rel => exact ⟨f, u / 128, acc ++ [((u % 128 + 128 : Nat) : Int)], by go_num, by omega, ⟨by have := HP.out; rw [Nat.pow_succ] at this; omega⟩, HA2, ⟨by have := HL.out; simp; omega⟩, HO1, HB1⟩
    case measure => simp [intOf]; omega
  · have hcd : decide ((128 : Int) ≤ u) = false := by simp; omega
    have HA2 := Aside0.mk (show acc ++ [(u : Int)] = encN 4 v by rw [← HA.out, encN_small (by omega)])
    go_wp2_with ((with_reducible refine gate_builtin (b := .append) (xs := #[.tmp 21, .tmp 24]) rfl ?_); at_builtin; refine Kd.R_append (Kd.int .u8) (w0 := w) w.heap.size rfl (.tmp 21) (.tmp 24) 41 5 (.int .u8 0) 1 rfl Tryz.underlying41 info5 rfl (by decide) (by omega) u4 acc _ [.int .u8 (u : Int)] (fun _ => True) (fun _ => False) rfl rfl rfl (fun _ hk => hk.elim) (fun _ _ => trivial) HO.out HB.out (below_size HB.out) (by have := HL.out; omega) ?_; intro v1 W1 ho hb _ _; have HO1 := Aside0.mk ho; have HB1 := Aside0.mk hb; clear ho hb)
    go_ret2
    exact ⟨_, rfl, by rw [HE.out, ← HA2.out]; exact HO1.out, HB1.out⟩
def encTxt (s : ByteArray) : List Int := encNum (s.size : Int) ++ bytesOf s
set_option maxRecDepth 100000 in
theorem text_any (s : ByteArray) (hs : s.size ≤ 262144) (w : World) :
  Calls Tryz.prog 226 #[.string s] w fun e w' => ∃ bv : Value, e = .returned (.tuple #[bv, .int .i64 0]) ∧ BRow w' w.heap.size bv (encTxt s) ∧ Below w.heap.size w w' := by
 have hd : decide ((262144 : Int) < s.size) = false := by simp; omega
 go_enter Tryz.func226, Tryz.ntmps226
 go_wp2_with (first | (go_at_call 101; (with_reducible refine (number_any s.size (by omega) _).mono ?_); rintro e w1 ⟨bv, rfl, ho, hb⟩; have HO := Aside0.mk ho; have HB := Aside0.mk hb; clear ho hb) | (at_builtin; refine print_append_str (w0 := w) w.heap.size rfl (.tmp 15) (.tmp 16) 41 9 5 rfl Tryz.underlying41 Tryz.underlying9 info5 bv (encNum (s.size : Int)) s rfl rfl (Kd.own_of_R HO.out) HB.out (below_size HB.out) (by have := encNum_len (s.size : Int); omega) ?_; intro v1 W1 ho hb _; have HO1 := Aside0.mk ho; have HB1 := Aside0.mk hb; clear ho hb))
 go_ret2
 exact ⟨_, rfl, Kd.R_of_own HO1.out (fun _ _ => trivial), HB1.out⟩
end Go.Proofs.YtmneemhplffemaaGreatDoorRR.Wire
namespace Go.Proofs.YtmneemhplffemaaGreatDoorRR.Mem
open Go.RowKit Go.Proofs.YtmneemhplffemaaGreatDoorRR.Ext Go.Proofs.YtmneemhplffemaaGreatDoorRR.Wire Go.Proofs.YtmneemhplffemaaGreatDoorRRW.PrintWords
structure Moved (w W : World) (S : Nat → Prop) : Prop where mk ::
 os : W.os = w.os
 tape : W.tape = w.tape
 output : W.output = w.output
 size : w.heap.size ≤ W.heap.size
 block : ∀ k, k < w.heap.size → ¬ S k → W.heap[k]? = w.heap[k]?
theorem Moved.refl (w : World) (S : Nat → Prop) : Moved w w S := ⟨rfl, rfl, rfl, Nat.le_refl _, fun _ _ _ => rfl⟩
theorem Moved.of_below {w W : World} (h : Below w.heap.size w W) (S : Nat → Prop) : Moved w W S := ⟨h.os, h.tape, h.output, h.size, fun k hk _ => h.block k hk⟩
theorem Moved.of_grown {w W : World} {row : Option Nat} (h : w.grownBy W row) : Moved w W (fun k => row = some k) := ⟨h.os, h.tape, h.output, h.size, fun k hk hn => h.block k hk (fun he => hn he.symm)⟩
theorem Moved.mono {w W : World} {S S' : Nat → Prop} (h : Moved w W S) (hs : ∀ k, k < w.heap.size → S k → S' k) : Moved w W S' := ⟨h.os, h.tape, h.output, h.size, fun k hk hn => h.block k hk (fun he => hn (hs k hk he))⟩
theorem Moved.trans {w W W2 : World} {S S2 : Nat → Prop} (h : Moved w W S) (k : Moved W W2 S2) (hs : ∀ k, k < w.heap.size → S2 k → S k) : Moved w W2 S :=
 ⟨k.os.trans h.os, k.tape.trans h.tape, k.output.trans h.output, Nat.le_trans h.size k.size, fun i hi hn => (k.block i (Nat.lt_of_lt_of_le hi h.size) (fun he => hn (hs i hi he))).trans (h.block i hi hn)⟩
theorem Moved.below {w W : World} {S : Nat → Prop} (h : Moved w W S) (hs : ∀ k, k < w.heap.size → ¬ S k) : Below w.heap.size w W := ⟨h.os, h.tape, h.output, h.size, fun k hk => h.block k hk (hs k hk)⟩
theorem Moved.above {w0 w W : World} {S : Nat → Prop} (h : Moved w W S) (hb : Below w0.heap.size w0 w) (hs : ∀ k, S k → w0.heap.size ≤ k) : Below w0.heap.size w0 W :=
 ⟨h.os.trans hb.os, h.tape.trans hb.tape, h.output.trans hb.output, Nat.le_trans hb.size h.size, fun k hk => (h.block k (Nat.lt_of_lt_of_le hk hb.size) (fun he => by have := hs k he; omega)).trans (hb.block k hk)⟩
theorem Moved.set_ {w W : World} {S : Nat → Prop} (h : Moved w W S) {p : Addr} (hp : S p.block ∨ w.heap.size ≤ p.block) (u : Value) : Moved w (W.setCell p u) S := by
 refine ⟨?_, ?_, ?_, ?_, fun k hk hn => ?_⟩
 · exact (Below.setCell (B := 0) (Below.refl 0 W) (Nat.zero_le _) u).os.trans h.os
 · exact (Below.setCell (B := 0) (Below.refl 0 W) (Nat.zero_le _) u).tape.trans h.tape
 · exact (Below.setCell (B := 0) (Below.refl 0 W) (Nat.zero_le _) u).output.trans h.output
 · exact Nat.le_trans h.size (Below.setCell (B := 0) (Below.refl 0 W) (Nat.zero_le _) u).size
 · refine (Below.heap_setCell W p u k ?_).trans (h.block k hk hn)
   rintro rfl
   rcases hp with hp | hp
   · exact hn hp
   · omega
theorem Moved.step {w W W2 : World} {S : Nat → Prop} (h : Moved w W S) (hb : Below W.heap.size W W2) : Moved w W2 S := h.trans (Moved.of_below hb (fun _ => False)) (fun _ _ hk => hk.elim)
theorem Moved.alloc {w W : World} {S : Nat → Prop} (h : Moved w W S) (o : Obj) : Moved w (W.alloc o) S := h.step (below_alloc (Below.refl _ _) o)
theorem Moved.blk {w W : World} {S : Nat → Prop} (h : Moved w W S) {k : Nat} {o : Obj} (hk : w.heap[k]? = some o) (hn : ¬ S k) : W.heap[k]? = some o := (h.block k (blk_lt hk) hn).trans hk
theorem blk_alloc {W : World} (o : Obj) : (W.alloc o).heap[W.heap.size]? = some o := heap_alloc_new W o
theorem blk_below {w W : World} {k : Nat} {o : Obj} (h : Below w.heap.size w W) (hk : w.heap[k]? = some o) : W.heap[k]? = some o := (h.block k (blk_lt hk)).trans hk
structure Pen (T : Nat) (W : World) (base g : Nat) (v : Value) (bs : List Int) : Prop where mk ::
 blk : W.heap[g]? = some (.cells #[v] T (0, 0))
 own : W.ownsRow base 5 1 v bs.length (nums .u8 bs)
 hg : base ≤ g
 ht : T ≠ 5
def pens (g : Nat) (v : Value) (k : Nat) : Prop := k = g ∨ v.ownBlock = some k
def Wrote (T : Nat) (W W' : World) (base g : Nat) (v : Value) (bs : List Int) : Prop :=
 ∃ v', Pen T W' base g v' bs ∧ Moved W W' (pens g v) ∧ ∀ k, pens g v' k → pens g v k ∨ W.heap.size ≤ k
theorem Pen.below {T : Nat} {W W' : World} {base g : Nat} {v : Value} {bs : List Int} (h : Pen T W base g v bs) (hb : Below W.heap.size W W') : Pen T W' base g v bs :=
 ⟨blk_below hb h.blk, pw_own_below h.own hb, h.hg, h.ht⟩
theorem Pen.alloc {T : Nat} {W : World} {base g : Nat} {v : Value} {bs : List Int} (h : Pen T W base g v bs) (o : Obj) : Pen T (W.alloc o) base g v bs := h.below (below_alloc (Below.refl _ _) o)
theorem Pen.lt {T : Nat} {W : World} {base g : Nat} {v : Value} {bs : List Int} (h : Pen T W base g v bs) (k : Nat) (hk : pens g v k) : k < W.heap.size := by
 rcases hk with rfl | hk
 · exact blk_lt h.blk
 · exact own_lt h.own k hk
theorem Pen.base_le {T : Nat} {W : World} {base g : Nat} {v : Value} {bs : List Int} (h : Pen T W base g v bs) (k : Nat) (hk : pens g v k) : base ≤ k := by
 rcases hk with rfl | hk
 · exact h.hg
 · exact own_base h.own k hk
theorem Pen.size {T : Nat} {W : World} {base g : Nat} {v : Value} {bs : List Int} (h : Pen T W base g v bs) : base ≤ W.heap.size := Nat.le_of_lt (Nat.lt_of_le_of_lt h.hg (blk_lt h.blk))
theorem Pen.ne {T : Nat} {W : World} {base g : Nat} {v : Value} {bs : List Int} (h : Pen T W base g v bs) : some g ≠ v.ownBlock := own_ne h.own h.blk (Ne.symm h.ht)
theorem Pen.cell {T : Nat} {W : World} {base g : Nat} {v : Value} {bs : List Int} (h : Pen T W base g v bs) : W.cell? ⟨g, 0, none⟩ = some v := blk_cell h.blk 0
theorem Pen.free {T : Nat} {W : World} {base g : Nat} {v : Value} {bs : List Int} (h : Pen T W base g v bs) : W.frozen? ⟨g, 0, none⟩ = false := blk_frozen h.blk 0
theorem Wrote.trans {T : Nat} {W W1 W2 : World} {base g : Nat} {v v1 : Value} {bs : List Int} (hm : Moved W W1 (pens g v)) (hk : ∀ k, pens g v1 k → pens g v k ∨ W.heap.size ≤ k) (h : Wrote T W1 W2 base g v1 bs) : Wrote T W W2 base g v bs := by
 obtain ⟨v2, hp, hm2, hk2⟩ := h
 refine ⟨v2, hp, hm.trans hm2 (fun k hl hs => (hk k hs).resolve_right (by omega)), fun k hs => ?_⟩
 rcases hk2 k hs with h1 | h1
 · exact hk k h1
 · exact .inr (Nat.le_trans hm.size h1)
theorem Wrote.of {T : Nat} {W W1 : World} {base g : Nat} {v v1 : Value} {bs : List Int} (hp : Pen T W1 base g v1 bs) (hm : Moved W W1 (pens g v)) (hk : ∀ k, pens g v1 k → pens g v k ∨ W.heap.size ≤ k) : Wrote T W W1 base g v bs := ⟨v1, hp, hm, hk⟩
theorem Wrote.put {T : Nat} {W w1 w2 : World} {base g : Nat} {v v2 : Value} {bs cs : List Int} (h : Pen T W base g v bs) (hb : Below W.heap.size W w1) (ho : w2.ownsRow base 5 1 v2 (bs ++ cs).length (nums .u8 (bs ++ cs))) (hg : w1.grownBy w2 v.ownBlock) (hat : v2.ownBlock = v.ownBlock ∨ ∃ b, v2.ownBlock = some b ∧ w1.heap.size ≤ b) :
   Wrote T W (w2.setCell ⟨g, 0, none⟩ v2) base g v (bs ++ cs) := by
 have hp := h.below hb
 have hb2 : w2.heap[g]? = some (.cells #[v] T (0, 0)) := blk_grown hp.blk hg h.ne
 have hm : Moved W w2 (pens g v) := (Moved.of_below hb (pens g v)).trans (Moved.of_grown hg) (fun k _ hk => .inr hk)
 refine ⟨v2, ⟨by have := blk_set hb2 0 v2; simpa using this, own_setCell ho (own_ne ho hb2 (Ne.symm h.ht)) _, h.hg, h.ht⟩, hm.set_ (.inl (.inl rfl)) _, fun k hk => ?_⟩
 rcases hk with rfl | hk
 · exact .inl (.inl rfl)
 · rcases hat with hat | ⟨b, hat, hle⟩
   · exact .inl (.inr (hat ▸ hk))
   · rw [hat] at hk
     obtain rfl := Option.some.inj hk
     exact .inr (Nat.le_trans hb.size hle)
end Go.Proofs.YtmneemhplffemaaGreatDoorRR.Mem
namespace Go.Proofs.YtmneemhplffemaaGreatDoorRRW.PrintWords
open Go.RowKit
section
variable {P : Program} {ops : Array Oper} {rest : List Oper} {o : Oper} {a : Act} {Q : Exit → Act → World → Prop} {W : World}
theorem gate_guard (hw : Region.wanted o (yielded ops a.tmps) = true) (h : wpList P ops Q ({ o with guard := none } :: rest) a W) : wpList P ops Q (o :: rest) a W := by
 have h1 : Region.wanted { o with guard := none } (yielded ops a.tmps) = true := rfl
 unfold wpList at h ⊢
 rw [if_pos h1] at h
 rw [if_pos hw]
 exact h
end
end Go.Proofs.YtmneemhplffemaaGreatDoorRRW.PrintWords
namespace Go.Proofs.YtmneemhplffemaaGreatDoorRR.Row
open Go.RowKit Go.Proofs.YtmneemhplffemaaGreatDoorRR.Mem Go.Proofs.YtmneemhplffemaaGreatDoorRRW.PrintWords
section
variable {P : Program} {all : Array Oper} {rest : List Oper} {o : Oper} {a : Act} {Q : Exit → Act → World → Prop} {W : World}
theorem gate_load {t : TypeId} {p : Operand} (_ho : o.op = .load t p) (h : wpList P all Q (o :: rest) a W) : wpList P all Q (o :: rest) a W := h
theorem gate_store2 {t : TypeId} {p v : Operand} (_ho : o.op = .store t p v) (h : wpList P all Q (o :: rest) a W) : wpList P all Q (o :: rest) a W := h
theorem gate_box {t : TypeId} {p : Operand} (_ho : o.op = .box t p) (h : wpList P all Q (o :: rest) a W) : wpList P all Q (o :: rest) a W := h
theorem load_row {t t' : TypeId} {s : Operand} (hgd : o.guard = none) (ho : o.op = .load t s) {d : TypeDesc} (hu : P.underlying t = some d) (hd : (match d with | .struct _ | .array _ _ => true | _ => false) = true) {g : Nat} {cs : Array Value} (hb : W.heap[g]? = some (.cells cs t' (0, 0))) (hs : a.eval s = .pointer (some ⟨g, 0, none⟩)) (hi : (P.info? t).map (·.size) = some cs.size)
  (h : wpList P all Q rest (a.put o.dst (.agg cs)) W) : wpList P all Q (o :: rest) a W :=
 Kd.event_run hgd (by simp [execOp, ho, hs, Instr.loadAt, Instr.sureAddr, run_loadVar_row (P := P) W g t' t cs (0, 0) d hb hu hd hi]) h
theorem moved_setRow {w : World} {g : Nat} {t : TypeId} {old cells : Array Value} (hg : w.heap[g]? = some (.cells old t (0, 0))) : Moved w (w.setRow g cells) (fun k => k = g) ∧ (w.setRow g cells).heap[g]? = some (.cells cells t (0, 0)) := by
 refine ⟨⟨rfl, rfl, rfl, ?_, fun k _ hn => ?_⟩, setRow_heap w g old cells t (0, 0) hg⟩
 · show w.heap.size ≤ (w.heap.modify g _).size
   rw [Array.size_modify]
   exact Nat.le_refl _
 · show (w.heap.modify g _)[k]? = _
   rw [Array.getElem?_modify, if_neg (fun h => hn h.symm)]
theorem store_row {t t' : TypeId} {s v : Operand} (hgd : o.guard = none) (ho : o.op = .store t s v) (hN : o.dst = none) {g : Nat} {old cs : Array Value} (hb : W.heap[g]? = some (.cells old t' (0, 0))) (hs : a.eval s = .pointer (some ⟨g, 0, none⟩)) (hv : a.eval v = .agg cs) (hi : (P.info? t).map (·.size) = some cs.size) (hl : old.size = cs.size) (h1 : ∀ u ∈ cs.toList, u.oneCell' = true)
  (h : ∀ w1, Moved W w1 (fun k => k = g) → w1.heap[g]? = some (.cells cs t' (0, 0)) → wpList P all Q rest a w1) : wpList P all Q (o :: rest) a W := by
 refine wpList_plain hgd fun K hK => ?_
 refine wp_store_row t s v ho g cs hs hv t' old hb hi hl (Array.all_eq_true_iff_forall_mem.2 (fun x hx => h1 x (by simpa using hx))) ?_
 rw [hN]
 have hm := moved_setRow (w := W) (cells := cs) hb
 exact hK _ _ (h _ hm.1 hm.2)
theorem box_row {t : TypeId} {s : Operand} (hgd : o.guard = none) (ho : o.op = .box t s) {cs : Array Value} (hs : a.eval s = .agg cs)
  (h : ∀ g, g = W.heap.size → ∀ w1, w1.heap[g]? = some (.cells cs t (0, 0)) → Below W.heap.size W w1 → wpList P all Q rest (a.put o.dst (.pointer (some ⟨g, 0, none⟩))) w1) : wpList P all Q (o :: rest) a W :=
 Kd.event_run hgd (show (execOp a.eval o).run P W = .ok (.value (.pointer (some ⟨W.heap.size, 0, none⟩))) (W.alloc (.cells cs t (0, 0))) by simp only [execOp, ho, hs]; simp [go_sem]) (h _ rfl _ (blk_alloc _) (below_alloc (Below.refl _ _) _))
theorem results_c {fn : Func} {p : Tmp} {ty : TypeId} (h : fn.results = #[.cell p ty]) (tmps : Array Value) (w : World) (g : Nat) (t : TypeId) (cs : Array Value) (fr : Nat × Nat) (d : TypeDesc)
  (hp : tmps.getD p undef = .pointer (some ⟨g, 0, none⟩)) (hg : w.heap[g]? = some (.cells cs t fr))
  (hu : P.underlying ty = some d) (hd : (match d with | .struct _ | .array _ _ => true | _ => false) = true) (hi : (P.info? ty).map (·.size) = some cs.size) :
  (results fn tmps).run P w = .ok (.agg cs) w := by
 have hp' : tmps[p]?.getD undef = .pointer (some ⟨g, 0, none⟩) := by simpa using hp
 simp [results, h, hp', asAddr, run_loadVar_row w g t ty cs fr d hg hu hd hi]
end
end Go.Proofs.YtmneemhplffemaaGreatDoorRR.Row
namespace Go.Proofs.YtmneemhplffemaaGreatDoorRR.Wire
open Go.RowKit Go.Proofs.YtmneemhplffemaaGreatDoorRR.Ext Go.Proofs.YtmneemhplffemaaGreatDoorRRW.PrintWords
def rdGo (xs : List Int) (a : Nat) : Nat → Nat → Int → Int × Int × Int
 | 0, _, _ => (0, 0, 20)
 | f + 1, k, v =>
   if a + k < xs.length then
    (if xs.getD (a + k) 0 < 128 then (if (xs.getD (a + k) 0 = 0 ∧ 0 < k) ∨ 2147483647 < v + xs.getD (a + k) 0 % 128 * 128 ^ k then (0, 0, 20) else (v + xs.getD (a + k) 0 % 128 * 128 ^ k, ((a + k + 1 : Nat) : Int), 0))
     else rdGo xs a f (k + 1) (v + xs.getD (a + k) 0 % 128 * 128 ^ k))
   else (0, 0, 21)
def rdNum (xs : List Int) (a : Nat) : Int × Int × Int := rdGo xs a 5 0 0
def Bytes (xs : List Int) : Prop := ∀ b ∈ xs, 0 ≤ b ∧ b < 256
theorem Bytes.at_ {xs : List Int} (h : Bytes xs) (i : Nat) : 0 ≤ xs.getD i 0 ∧ xs.getD i 0 < 256 := by
 rw [List.getD_eq_getElem?_getD]
 cases hx : xs[i]? with
 | none => simp
 | some b => exact h b (List.mem_of_getElem? hx)
theorem ret3 {a b c : Int} {p : Int × Int × Int} (h : p = (a, b, c)) : Ending.returned (.tuple #[.int .i64 a, .int .i64 b, .int .i64 c]) = Ending.returned (.tuple #[.int .i64 p.1, .int .i64 p.2.1, .int .i64 p.2.2]) := by rw [h]
theorem and_127 (b : Int) (h0 : 0 ≤ b) (h1 : b < 256) : Go.bits .and .u8 b 127 = b % 128 := by
 have key : ∀ x : Fin 256, Go.bits .and .u8 (x.val : Int) 127 = (x.val : Int) % 128 := by decide +kernel
 obtain ⟨n, rfl⟩ := Int.eq_ofNat_of_zero_le h0
 exact key ⟨n, by omega⟩
theorem or_fit (i : Nat) (v c : Int) (h0 : 0 ≤ v) (h1 : v < 2 ^ i) (h2 : 0 ≤ c) (h3 : v + c * 2 ^ i ≤ 9223372036854775807) : Go.bits .or .i64 v (c * 2 ^ i) = v + c * 2 ^ i := by
  obtain ⟨n, rfl⟩ := Int.eq_ofNat_of_zero_le h0
  obtain ⟨m, rfl⟩ := Int.eq_ofNat_of_zero_le h2
  have e1 : ((m : Int) * 2 ^ i) = ((2 ^ i * m : Nat) : Int) := by simp [Int.mul_comm]
  have hn : n < 2 ^ i := by have : ((n : Int)) < ((2 ^ i : Nat) : Int) := by simpa using h1
                            omega
  rw [e1] at h3 ⊢
  have hle : n + 2 ^ i * m ≤ 9223372036854775807 := by omega
  unfold Go.bits
  rw [BitVec.ofInt_natCast, BitVec.ofInt_natCast]
  show IntKind.i64.wrap ((BitVec.ofNat 64 n ||| BitVec.ofNat 64 (2 ^ i * m)).toNat : Int) = _
  rw [BitVec.toNat_or, BitVec.toNat_ofNat, BitVec.toNat_ofNat, Nat.mod_eq_of_lt (by omega), Nat.mod_eq_of_lt (by omega), Nat.or_comm, ← Nat.two_pow_add_eq_or_of_lt hn, IntWalk.i64_in _ (by omega)]
  omega
theorem rdGo_more {xs : List Int} {a k : Nat} {v b : Int} (hk : k < 5) (h : a + k < xs.length) (hb : b = xs.getD (a + k) 0) (hc : ¬ b < 128) : rdGo xs a (5 - k) k v = rdGo xs a (5 - (k + 1)) (k + 1) (v + b % 128 * 128 ^ k) := by
 rw [show 5 - k = (5 - (k + 1)) + 1 by omega, rdGo, if_pos h, ← hb, if_neg hc]
theorem rdGo_bad {xs : List Int} {a k : Nat} {v b : Int} (hk : k < 5) (h : a + k < xs.length) (hb : b = xs.getD (a + k) 0) (hc : b < 128) (hz : (b = 0 ∧ 0 < k) ∨ 2147483647 < v + b % 128 * 128 ^ k) : rdGo xs a (5 - k) k v = (0, 0, 20) := by
 rw [show 5 - k = (5 - (k + 1)) + 1 by omega, rdGo, if_pos h, ← hb, if_pos hc, if_pos hz]
theorem rdGo_good {xs : List Int} {a k : Nat} {v b : Int} (hk : k < 5) (h : a + k < xs.length) (hb : b = xs.getD (a + k) 0) (hc : b < 128) (hz : ¬ ((b = 0 ∧ 0 < k) ∨ 2147483647 < v + b % 128 * 128 ^ k)) : rdGo xs a (5 - k) k v = (v + b % 128 * 128 ^ k, ((a + k + 1 : Nat) : Int), 0) := by
 rw [show 5 - k = (5 - (k + 1)) + 1 by omega, rdGo, if_pos h, ← hb, if_pos hc, if_neg hz]
theorem rdGo_short {xs : List Int} {a k : Nat} {v : Int} (hk : k < 5) (h : ¬ a + k < xs.length) : rdGo xs a (5 - k) k v = (0, 0, 21) := by
 rw [show 5 - k = (5 - (k + 1)) + 1 by omega, rdGo, if_neg h]
theorem ret3e {a b c x y z : Int} {p : Int × Int × Int} (h : p = (a, b, c)) (hx : x = a) (hy : y = b) (hz : z = c) : Ending.returned (.tuple #[.int .i64 x, .int .i64 y, .int .i64 z]) = Ending.returned (.tuple #[.int .i64 p.1, .int .i64 p.2.1, .int .i64 p.2.2]) := by rw [h, hx, hy, hz]
set_option maxRecDepth 100000 in
set_option maxHeartbeats 2000000 in
theorem readNumber_any (A : Option Addr) (c : Nat) (xs : List Int) (a : Nat) (hB : Bytes xs) (ha : a ≤ xs.length) (w : World) (hr : (Kd.int .u8).C w A xs.length xs) (hc : xs.length ≤ c) :
  Calls Tryz.prog 110 #[.slice A xs.length c, .int .i64 a] w fun e w' => e = .returned (.tuple #[.int .i64 (rdNum xs a).1, .int .i64 (rdNum xs a).2.1, .int .i64 (rdNum xs a).2.2]) ∧ w = w' := by
 have hm : xs.length ≤ 9223372036854775807 := hr.2.1
 obtain ⟨i0, hi, hz0, hz1, hz2⟩ := info_parts info5
 obtain ⟨A', hrun, hrd, hle⟩ := print_drop_of (P := Tryz.prog) (Value.int .u8) (0 : Int) 41 5 .i64 Tryz.underlying41 hi hz1 A c xs (a : Int) (by omega) (by omega) hc
 simp only [Int.toNat_natCast] at hrun hrd hle
 have hl : (xs.drop a).length = xs.length - a := List.length_drop
 have HR := Aside0.mk (hrd w (Kd.reads_of_C hr))
 have HS := Aside0.mk (show rdGo xs a 5 0 0 = rdNum xs a from rfl)
 have HBY := Aside0.mk hB
 have hd0 : decide ((a : Int) < 0) = false := by simp
 have hd1 : decide ((xs.length : Int) < a) = false := by simp; omega
 rw [hl] at hrun
 have hd2 : decide (xs.length < a) = false := by simp; omega
 clear hr hrd hB hi hz0 hz1 hz2 hle
 clear hl
 go_enter Tryz.func110, Tryz.ntmps110
 go_wp2_with fail
 go_loop [7, 22] (fun v7 v22 => ∃ (k : Nat) (v : Int), v7 = .int .i64 v ∧ v22 = .int .i64 k ∧ k ≤ 5 ∧ k ≤ xs.length - a ∧ 0 ≤ v ∧ Aside0 (v < 128 ^ k) ∧ Aside0 (rdGo xs a (5 - k) k v = rdNum xs a)) (fun _ v22 => 5 - (intOf v22).toNat)
 case atStart => exact ⟨0, 0, rfl, rfl, by omega, by omega, by omega, ⟨by decide⟩, ⟨HS.out⟩⟩
 case round =>
  obtain ⟨k, v, rfl, rfl, hk, hkl, hv0, HV, HG⟩ := hrel
  clear hd0 hd1 hd2
  by_cases h5 : k = 5
  · subst h5
    have HG2 := Aside0.mk (show rdNum xs a = (0, 0, 20) from HG.out.symm)
    have hge : decide (5 ≤ (xs.length : Int) - a) = true := by simp; omega
    by_cases hlt : 5 < xs.length - a
    · obtain ⟨ad, rfl, hx⟩ := ReadsInt.at_ HR.out (5 : Int) (by omega) (by rw [List.length_drop]; omega)
      simp [Addr.add] at hx
      go_wp2_with fail
      go_ret3
      exact ⟨ret3 HG2.out, rfl⟩
    · go_wp2_with fail
      go_ret3
      exact ⟨ret3 HG2.out, rfl⟩
  · by_cases hlt : k < xs.length - a
    · obtain ⟨ad, rfl, hx⟩ := ReadsInt.at_ HR.out (k : Int) (by omega) (by rw [List.length_drop]; omega)
      rw [Int.toNat_natCast] at hx
      obtain ⟨b, hbe⟩ : ∃ b, b = xs.getD (a + k) 0 := ⟨_, rfl⟩
      rw [show rd (xs.drop a) (k : Int) = b by rw [hbe]; unfold rd; rw [Int.toNat_natCast]; simp [List.getD_eq_getElem?_getD]] at hx
      have hb0 : 0 ≤ b := by rw [hbe]; exact (HBY.out.at_ _).1
      have hb1 : b < 256 := by rw [hbe]; exact (HBY.out.at_ _).2
      have hand := and_127 b hb0 hb1
      have hvk : v < 2 ^ (7 * k) := by rw [Int.pow_mul]; exact HV.out
      have hor : Go.bits .or .i64 v (b % 128 * 2 ^ (7 * k)) = v + b % 128 * 2 ^ (7 * k) := by
        obtain rfl | rfl | rfl | rfl | rfl : k = 0 ∨ k = 1 ∨ k = 2 ∨ k = 3 ∨ k = 4 := by omega
        all_goals exact or_fit _ v (b % 128) hv0 hvk (by omega) (by simp at hvk ⊢; omega)
      have HV2 : Aside0 (v + b % 128 * 128 ^ k < 128 ^ (k + 1)) := ⟨by
        have := HV.out
        have h128 : b % 128 * 128 ^ k ≤ 127 * 128 ^ k := Int.mul_le_mul_of_nonneg_right (by omega) (Int.pow_nonneg (by omega))
        rw [Int.pow_succ]
        omega⟩
      have hvb := HV.out
      by_cases hc : b < 128
      · have hcd : decide (128 ≤ b) = false := by simp; omega
        by_cases hz : (b = 0 ∧ 0 < k) ∨ 2147483647 < v + b % 128 * 128 ^ k
        · have HG2 := Aside0.mk (HG.out.symm.trans (rdGo_bad (by omega) (by omega) hbe hc hz))
          by_cases hz0 : b = 0
          · have hz1 : (b == 0) = true := by simp [hz0]
            have hz2 : 0 < k := by
             rcases hz with hz | hz
             · exact hz.2
             · subst hz0
               obtain rfl | rfl | rfl | rfl | rfl : k = 0 ∨ k = 1 ∨ k = 2 ∨ k = 3 ∨ k = 4 := by omega
               all_goals (simp at hz hvb; omega)
            clear hbe hz hz0
            obtain rfl | rfl | rfl | rfl : k = 1 ∨ k = 2 ∨ k = 3 ∨ k = 4 := by omega
            all_goals
             simp [Addr.add] at hx hor hvb
             go_wp2_with fail
             go_ret3
             exact ⟨ret3 HG2.out, rfl⟩
          · have hz1 : (b == 0) = false := by simp [hz0]
            have hz2 : 2147483647 < v + b % 128 * 128 ^ k := hz.resolve_left (fun h => hz0 h.1)
            obtain rfl : k = 4 := by
             obtain rfl | rfl | rfl | rfl | rfl : k = 0 ∨ k = 1 ∨ k = 2 ∨ k = 3 ∨ k = 4 := by omega
             all_goals (simp at hz2 hvb; omega)
            clear hbe hz hz0
            simp [Addr.add] at hx hor hz2 hvb
            go_wp2_with fail
            go_ret3
            exact ⟨ret3 HG2.out, rfl⟩
        · have HG2 := Aside0.mk (HG.out.symm.trans (rdGo_good (by omega) (by omega) hbe hc hz))
          have hz2 : v + b % 128 * 128 ^ k ≤ 2147483647 := by omega
          by_cases hz0 : b = 0
          · have hz1 : (b == 0) = true := by simp [hz0]
            obtain rfl : k = 0 := by omega
            clear hbe hz hz0
            simp [Addr.add] at hx hor hz2 hvb
            go_wp2_with fail
            go_ret3
            exact ⟨ret3e HG2.out (by simp) (by omega) rfl, rfl⟩
          · have hz1 : (b == 0) = false := by simp [hz0]
            clear hbe hz hz0
            obtain rfl | rfl | rfl | rfl | rfl : k = 0 ∨ k = 1 ∨ k = 2 ∨ k = 3 ∨ k = 4 := by omega
            all_goals
             simp [Addr.add] at hx hor hz2 hvb
             go_wp2_with fail
             go_ret3
             exact ⟨ret3e HG2.out (by simp) (by omega) rfl, rfl⟩
      · have hcd : decide (128 ≤ b) = true := by simp; omega
        have HG2 := Aside0.mk ((rdGo_more (by omega) (by omega) hbe hc).symm.trans HG.out)
        clear hbe
        obtain rfl | rfl | rfl | rfl | rfl : k = 0 ∨ k = 1 ∨ k = 2 ∨ k = 3 ∨ k = 4 := by omega
        all_goals
          simp [Addr.add] at hx hor hvb
          go_wp2_with fail
          go_round
          case rel => first | exact ⟨1, _, rfl, rfl, by omega, by omega, by omega, ⟨by have := HV2.out; simpa using this⟩, ⟨by have := HG2.out; simpa using this⟩⟩ | exact ⟨2, _, rfl, rfl, by omega, by omega, by omega, ⟨by have := HV2.out; simpa using this⟩, ⟨by have := HG2.out; simpa using this⟩⟩ | exact ⟨3, _, rfl, rfl, by omega, by omega, by omega, ⟨by have := HV2.out; simpa using this⟩, ⟨by have := HG2.out; simpa using this⟩⟩ | exact ⟨4, _, rfl, rfl, by omega, by omega, by omega, ⟨by have := HV2.out; simpa using this⟩, ⟨by have := HG2.out; simpa using this⟩⟩ | exact ⟨5, _, rfl, rfl, by omega, by omega, by omega, ⟨by have := HV2.out; simpa using this⟩, ⟨by have := HG2.out; simpa using this⟩⟩
          case measure => simp [intOf]
    · have HG2 := Aside0.mk (HG.out.symm.trans (rdGo_short (by omega) (by omega)))
      have hge : decide (5 ≤ (xs.length : Int) - a) = false := by simp; omega
      go_wp2_with fail
      go_ret3
      exact ⟨ret3 HG2.out, rfl⟩
end Go.Proofs.YtmneemhplffemaaGreatDoorRR.Wire
namespace Go.Proofs.YtmneemhplffemaaGreatDoorRR.Crc
def crcTab : List Nat := [0x00000000, 0x1db71064, 0x3b6e20c8, 0x26d930ac, 0x76dc4190, 0x6b6b51f4, 0x4db26158, 0x5005713c, 0xedb88320, 0xf00f9344, 0xd6d6a3e8, 0xcb61b38c, 0x9b64c2b0, 0x86d3d2d4, 0xa00ae278, 0xbdbdf21c]
def tabAt (n : Nat) : Nat := crcTab.getD n 0
def half (r : Nat) : Nat := (r / 16) ^^^ tabAt (r % 16)
def byteStep (r b : Nat) : Nat := half (half (r ^^^ b))
def sumFrom (r : Nat) (l : List Nat) : Nat := l.foldl byteStep r
def sumN (l : List Nat) : Nat := sumFrom 0xffffffff l ^^^ 0xffffffff
theorem tabAt_lt (n : Nat) : tabAt n < 2 ^ 32 := by
 have h : ∀ m : Fin 16, tabAt m.val < 2 ^ 32 := by decide
 rcases Nat.lt_or_ge n 16 with h1 | h1
 · exact h ⟨n, h1⟩
 · unfold tabAt
   rw [List.getD_eq_getElem?_getD, List.getElem?_eq_none (by simpa [crcTab] using h1)]
   decide
theorem half_lt {r : Nat} (h : r < 2 ^ 32) : half r < 2 ^ 32 := Nat.xor_lt_two_pow (by omega) (tabAt_lt _)
theorem byteStep_lt {r b : Nat} (h : r < 2 ^ 32) (hb : b < 2 ^ 32) : byteStep r b < 2 ^ 32 := half_lt (half_lt (Nat.xor_lt_two_pow h hb))
theorem sumFrom_lt (l : List Nat) : ∀ {r : Nat}, r < 2 ^ 32 → (∀ b ∈ l, b < 256) → sumFrom r l < 2 ^ 32 := by
 induction l with
 | nil => intro r h _; exact h
 | cons b l ih => intro r h hb; exact ih (byteStep_lt h (by have := hb b List.mem_cons_self; omega)) (fun c hc => hb c (List.mem_cons_of_mem _ hc))
theorem sumN_lt {l : List Nat} (hb : ∀ b ∈ l, b < 256) : sumN l < 2 ^ 32 := Nat.xor_lt_two_pow (sumFrom_lt l (by decide) hb) (by decide)
end Go.Proofs.YtmneemhplffemaaGreatDoorRR.Crc
namespace Go.Proofs.YtmneemhplffemaaGreatDoorRR.Sum
open Go.RowKit Go.Proofs.YtmneemhplffemaaGreatDoorRR.Ext Go.Proofs.YtmneemhplffemaaGreatDoorRR.Wire Go.Proofs.YtmneemhplffemaaGreatDoorRR.Mem Go.Proofs.YtmneemhplffemaaGreatDoorRR.Row Go.Proofs.YtmneemhplffemaaGreatDoorRR.Crc Go.Proofs.YtmneemhplffemaaGreatDoorRRW.PrintWords


def nats (xs : List Int) : List Nat := xs.map Int.toNat
def stepCells : List Value := crcTab.map fun n : Nat => .int .u32 (n : Int)
theorem stepCells_at {n : Nat} (h : n < 16) : stepCells.toArray[n]? = some (.int .u32 ((tabAt n : Nat) : Int)) := by
 have hl : n < crcTab.length := h
 simp only [stepCells, tabAt, List.getElem?_toArray, List.getElem?_map, List.getD_eq_getElem?_getD, List.getElem?_eq_getElem hl, Option.map_some, Option.getD_some]
theorem infoSteps : (Tryz.prog.info? 219).map (·.size) = some 16 := by kernel_rfl
theorem stepCells_one : ∀ u ∈ stepCells.toArray.toList, u.oneCell' = true := by
 intro u hu
 simp only [stepCells, List.mem_map] at hu
 obtain ⟨n, _, rfl⟩ := hu
 rfl
theorem half_step {s : Nat} (h : s < 4294967296) : bits .and .u32 (s : Int) 15 = ((s % 16 : Nat) : Int) ∧ s % 16 < 16 ∧ bits .xor .u32 ((s : Int) / 16) ((tabAt (s % 16) : Nat) : Int) = ((half s : Nat) : Int) := by
 refine ⟨?_, Nat.mod_lt _ (by decide), ?_⟩
 · rw [show (15 : Int) = ((15 : Nat) : Int) from rfl, u32_and_nat s 15 h (by decide), Nat.and_two_pow_sub_one_eq_mod s 4]
 · rw [show (s : Int) / 16 = ((s / 16 : Nat) : Int) by omega, u32_xor_nat _ _ (by omega) (tabAt_lt _)]
   rfl
theorem not_u32 {r : Nat} (h : r < 4294967296) : bits .xor .u32 IntKind.u32.max (r : Int) = ((r ^^^ 4294967295 : Nat) : Int) := by
 have e : IntKind.u32.max = ((4294967295 : Nat) : Int) := by kernel_rfl
 rw [e, u32_xor_nat 4294967295 r (by omega) h, Nat.xor_comm]
theorem nats_snoc {xs : List Int} {k : Nat} {x : Int} (h : xs[k]? = some x) : nats (xs.take (k + 1)) = nats (xs.take k) ++ [x.toNat] := by
 unfold nats
 rw [List.take_add_one, h]
 simp
set_option maxRecDepth 100000 in
set_option maxHeartbeats 2000000 in
theorem c_sum (W : World) (A : Option Addr) (c : Nat) (xs : List Int) (hC : (Kd.int .u8).C W A xs.length xs) (hB : Bytes xs) :
  Calls Tryz.prog 125 #[.slice A xs.length c] W fun e W' => e = .returned (.int .u32 ((sumN (nats xs) : Nat) : Int)) ∧ Below W.heap.size W W' := by
 have HC := Aside0.mk hC
 have HY := Aside0.mk hB
 have hm : xs.length ≤ 9223372036854775807 := hC.2.1
 clear hC hB
 go_enter Tryz.func125, Tryz.ntmps125
 go_upto_region 3 with ((with_reducible refine gate_store2 (t := 219) rfl ?_); refine store_row (cs := stepCells.toArray) rfl rfl rfl (Mem.blk_alloc _) rfl rfl infoSteps rfl stepCells_one ?_; intro w1 hm1 hx1; have HX1 := Aside0.mk hx1; have HB1 := Aside0.mk (Moved.above (w0 := W) hm1 (below_alloc (Below.refl _ _) _) (fun k hk => by omega)); clear hm1 hx1)
 go_wp2_with fail
 go_loopw [4, 10] (fun v4 v10 wr => ∃ k r : Nat, v10 = .int .i64 k ∧ v4 = .int .u32 r ∧ k ≤ xs.length ∧ r < 4294967296 ∧ Aside0 (sumFrom 0xffffffff (nats (xs.take k)) = r) ∧ Aside0 (Below W.heap.size W wr) ∧ Aside0 (wr.heap[W.heap.size]? = some (.cells stepCells.toArray 219 (0, 0)))) (fun _ vi _ => xs.length - (intOf vi).toNat)
 case atStart => exact ⟨0, 4294967295, rfl, rfl, Nat.zero_le _, by decide, ⟨rfl⟩, HB1, HX1⟩
 case round =>
  clear HB1 HX1
  obtain ⟨k, r, rfl, rfl, hk, hr, HS, HB, HX⟩ := hrel
  by_cases hlt : k < xs.length
  · obtain ⟨x, hx⟩ : ∃ x, xs[k]? = some x := ⟨_, List.getElem?_eq_getElem hlt⟩
    have hxb := HY.out x (List.mem_of_getElem? hx)
    obtain ⟨n, rfl⟩ := Int.eq_ofNat_of_zero_le hxb.1
    have hn : n < 256 := by omega
    obtain ⟨ad, rfl, a0⟩ := Kd.at_int (Kd.C_below HC.out HB.out) (k : Int) (by omega) (by omega)
    rw [show rd xs (k : Int) = (n : Int) by unfold rd; rw [Int.toNat_natCast, List.getD_eq_getElem?_getD, hx]; rfl, Int.toNat_natCast] at a0
    have HXK := Aside0.mk hx
    clear hx hxb
    have hk1 : k + 1 ≤ xs.length := hlt
    have f1 : (n : Int) % 4294967296 = (n : Int) := by omega
    have f2 : bits .xor .u32 (r : Int) (n : Int) = ((r ^^^ n : Nat) : Int) := u32_xor_nat r n hr (by omega)
    go_upto_region 7 with fail
    obtain ⟨s, hs⟩ : ∃ s, r ^^^ n = s := ⟨_, rfl⟩
    have hsl : s < 4294967296 := by rw [← hs]; exact Nat.xor_lt_two_pow (n := 32) hr (by omega)
    have HS1 := Aside0.mk hs
    rw [hs]
    obtain ⟨f3, hm16, f4⟩ := half_step hsl
    obtain ⟨i, hi⟩ : ∃ i, s % 16 = i := ⟨_, rfl⟩
    rw [hi] at f3 hm16 f4
    obtain ⟨h, hh⟩ : ∃ h, half s = h := ⟨_, rfl⟩
    have hhl : h < 4294967296 := by rw [← hh]; exact half_lt hsl
    rw [hh] at f4
    have HS2 := Aside0.mk hh
    have t1 : wr.cell? ⟨W.heap.size, i, none⟩ = some (.int .u32 ((tabAt i : Nat) : Int)) := (blk_cell HX.out i).trans (stepCells_at hm16)
    obtain ⟨g3, gm16, g4⟩ := half_step hhl
    obtain ⟨j, hj⟩ : ∃ j, h % 16 = j := ⟨_, rfl⟩
    rw [hj] at g3 gm16 g4
    obtain ⟨q, hq⟩ : ∃ q, half h = q := ⟨_, rfl⟩
    rw [hq] at g4
    have HS3 := Aside0.mk hq
    have t2 : wr.cell? ⟨W.heap.size, j, none⟩ = some (.int .u32 ((tabAt j : Nat) : Int)) := (blk_cell HX.out j).trans (stepCells_at gm16)
    clear hs hh hq hi hj f1 f2 hn
    go_wp2_with fail
    go_roundw
    case rel => clear f3 f4 g3 g4 t1 t2; exact ⟨k + 1, q, by go_num, rfl, hk1, by rw [← HS3.out, ← HS2.out]; exact half_lt (half_lt hsl), ⟨by rw [nats_snoc HXK.out]; unfold sumFrom at HS ⊢; rw [List.foldl_append, HS.out, List.foldl_cons, List.foldl_nil, Int.toNat_natCast]; unfold byteStep; rw [HS1.out, HS2.out, HS3.out]⟩, HB, HX⟩
    case measure => clear f3 f4 g3 g4 t1 t2 hm16 gm16 hsl hhl hr; simp [intOf]; omega
  · rw [List.take_of_length_le (by omega)] at HS
    have HR := Aside0.mk (not_u32 hr)
    go_wp2_with fail
    go_ret
    refine ⟨?_, HB.out⟩
    rw [HR.out, ← HS.out]
    rfl
end Go.Proofs.YtmneemhplffemaaGreatDoorRR.Sum
namespace Go.Proofs.YtmneemhplffemaaGreatDoorRR.Sum
open Go.RowKit Go.Proofs.YtmneemhplffemaaGreatDoorRR.Ext Go.Proofs.YtmneemhplffemaaGreatDoorRR.Wire Go.Proofs.YtmneemhplffemaaGreatDoorRR.Mem Go.Proofs.YtmneemhplffemaaGreatDoorRR.Row Go.Proofs.YtmneemhplffemaaGreatDoorRR.Crc Go.Proofs.YtmneemhplffemaaGreatDoorRRW.PrintWords


def addr (v : Int) : Bool := (decide (0 ≤ v) && decide (v ≤ 5)) || (decide (100 < v) && decide (v ≤ 106))
set_option maxRecDepth 100000 in
theorem c_address (W : World) (v : Int) : Calls Tryz.prog 81 #[.int .i64 v] W fun e W' => e = .returned (.bool (addr v)) ∧ W' = W := by
 obtain ⟨b, hb⟩ : ∃ b, addr v = b := ⟨_, rfl⟩
 rw [hb]
 have HB := Aside0.mk hb
 clear hb
 go_enter Tryz.func81, Tryz.ntmps81
 cases h1 : decide (0 ≤ v) with
 | true =>
   have h1_0 : decide (v ≥ 0) = true := h1
   cases h2 : decide (v ≤ 5) with
   | true =>
     go_wp2_with fail
     go_ret
     exact ⟨by rw [← HB.out, addr, h1, h2]; rfl, rfl⟩
   | false =>
     cases h3 : decide (100 < v) with
     | true =>
       have h3_0 : decide (v > 100) = true := h3
       cases h4 : decide (v ≤ 106) with
       | true =>
         go_wp2_with fail
         go_ret
         exact ⟨by rw [← HB.out, addr, h1, h2, h3, h4]; rfl, rfl⟩
       | false =>
         go_wp2_with fail
         go_ret
         exact ⟨by rw [← HB.out, addr, h1, h2, h3, h4]; rfl, rfl⟩
     | false =>
       have h3_0 : decide (v > 100) = false := h3
       go_wp2_with fail
       go_ret
       exact ⟨by rw [← HB.out, addr, h1, h2, h3]; rfl, rfl⟩
 | false =>
   have h1_0 : decide (v ≥ 0) = false := h1
   have h3 : decide (100 < v) = false := by have := of_decide_eq_false h1; simp; omega
   have h3_0 : decide (v > 100) = false := h3
   go_wp2_with fail
   go_ret
   exact ⟨by rw [← HB.out, addr, h1, h3]; rfl, rfl⟩
def be4 (n : Nat) : List Int := [(n : Int) / 16777216, (n : Int) / 65536 % 256, (n : Int) / 256 % 256, (n : Int) % 256]
theorem below_base {base : Nat} {w0 W W1 : World} (h : Below base w0 W) (hbase : base ≤ W.heap.size) (k : Below W.heap.size W W1) : Below base w0 W1 :=
 ⟨k.os.trans h.os, k.tape.trans h.tape, k.output.trans h.output, Nat.le_trans h.size k.size, fun j hj => (k.block j (Nat.lt_of_lt_of_le hj hbase)).trans (h.block j hj)⟩
theorem lit_bytes (W : World) (xs : List Int) (hm : xs.length ≤ 9223372036854775807) : (Kd.int .u8).C (W.alloc (.cells (xs.map (Value.int .u8)).toArray 5)) (some ⟨W.heap.size, 0, none⟩) xs.length xs := by
 refine Kd.C_of_reads (d := 0) ⟨rfl, hm, fun _ => ⟨_, rfl, fun j hj => ?_⟩⟩
 have h := blk_cell (blk_alloc (W := W) (.cells (xs.map (Value.int .u8)).toArray 5)) j
 have e : (⟨W.heap.size, 0, none⟩ : Addr).add j = ⟨W.heap.size, j, none⟩ := by
  unfold Addr.add
  by_cases h0 : j = 0
  · simp [h0]
  · simp [h0]
 rw [e, h, List.getElem?_toArray, List.getElem?_map, List.getElem?_eq_getElem hj, List.getD_eq_getElem?_getD, List.getElem?_eq_getElem hj]
 rfl
set_option maxRecDepth 100000 in
set_option maxHeartbeats 2000000 in
theorem c_four (w0 W : World) (base : Nat) (v : Value) (xs : List Int) (n : Nat) (hn : n < 4294967296) (hO : BRow W base v xs) (hb : Below base w0 W) (hbase : base ≤ W.heap.size) (hl : xs.length ≤ 1000000000) :
  Calls Tryz.prog 124 #[v, .int .u32 (n : Int)] W fun e W' => ∃ v', e = .returned v' ∧ BRow W' base v' (xs ++ be4 n) ∧ Below base w0 W' := by
 have HO := Aside0.mk hO
 have HB := Aside0.mk hb
 have HL := Aside0.mk hl
 have HR := Aside0.mk (lit_bytes W (be4 n) (by show 4 ≤ _; omega))
 have hal := below_alloc (Below.refl W.heap.size W) (Obj.cells ((be4 n).map (Value.int .u8)).toArray 5 (0, 0))
 have HO1 := Aside0.mk (Kd.R_below hO hal)
 have HB1 := Aside0.mk (show Below base w0 (W.alloc (Obj.cells ((be4 n).map (Value.int .u8)).toArray 5 (0, 0))) from below_base hb hbase hal)
 have HBS := Aside0.mk (Nat.le_trans hbase hal.size)
 clear hO hb hl hal
 go_enter Tryz.func124, Tryz.ntmps124
 go_wp2_with ((with_reducible refine gate_builtin (b := .append) (xs := #[.tmp 5, .tmp 17]) rfl ?_); at_builtin; refine Kd.R_append_row (Value.int .u8) 0 (w0 := w0) base rfl (.tmp 5) (.tmp 17) 41 5 (.int .u8 0) 1 rfl Tryz.underlying41 info5 rfl (by decide) v xs (be4 n) (some ⟨W.heap.size, 0, none⟩) 4 4 (fun _ => True) rfl rfl (fun _ _ => trivial) HO1.out HR.out HB1.out HBS.out (by have := HL.out; omega) ?_; intro v1 w1 ho hb _ _; have HO2 := Aside0.mk ho; have HB2 := Aside0.mk hb; clear ho hb)
 go_ret
 exact ⟨_, rfl, HO2.out, HB2.out⟩
end Go.Proofs.YtmneemhplffemaaGreatDoorRR.Sum
namespace Go.Proofs.YtmneemhplffemaaGreatDoorRR.Sum
open Go.RowKit Go.Proofs.YtmneemhplffemaaGreatDoorRR.Ext Go.Proofs.YtmneemhplffemaaGreatDoorRR.Wire Go.Proofs.YtmneemhplffemaaGreatDoorRR.Mem Go.Proofs.YtmneemhplffemaaGreatDoorRR.Row Go.Proofs.YtmneemhplffemaaGreatDoorRR.Crc Go.Proofs.YtmneemhplffemaaGreatDoorRRW.PrintWords


def word4 (xs : List Int) : Nat := (xs.getD 0 0).toNat * 16777216 + (xs.getD 1 0).toNat * 65536 + (xs.getD 2 0).toNat * 256 + (xs.getD 3 0).toNat
theorem drewn_b {B : Nat} {a w : World} (h : Below B a w) (q : Nat) : Below B a (w.drewN q) := ⟨h.os, h.tape, h.output, h.size, h.block⟩
theorem byte_at {W : World} {ad : Addr} {xs : List Int} (hC : (Kd.int .u8).C W (some ad) xs.length xs) (hB : Bytes xs) {i : Nat} (h : i < xs.length) : ∃ b : Nat, b < 256 ∧ xs.getD i 0 = (b : Int) ∧ W.cell? (ad.add i) = some (.int .u8 (b : Int)) := by
 obtain ⟨ad', he, hc⟩ := Kd.at_int hC (i : Int) (by omega) (by omega)
 obtain rfl := Option.some.inj he
 have hm : xs.getD i 0 ∈ xs := by rw [List.getD_eq_getElem?_getD, List.getElem?_eq_getElem h]; exact List.getElem_mem h
 have hb := hB _ hm
 obtain ⟨b, hbb⟩ := Int.eq_ofNat_of_zero_le hb.1
 refine ⟨b, by omega, hbb, ?_⟩
 rw [Int.toNat_natCast] at hc
 rw [hc, show rd xs (i : Int) = xs.getD i 0 by unfold rd; rw [Int.toNat_natCast], hbb]
theorem or_add {a b : Nat} (i : Nat) (h : b < 2 ^ i) : 2 ^ i * a ||| b = 2 ^ i * a + b := (Nat.two_pow_add_eq_or_of_lt h a).symm
theorem or_word {b0 b1 b2 b3 : Nat} (l0 : b0 < 256) (l1 : b1 < 256) (l2 : b2 < 256) (l3 : b3 < 256) :
  bits .or .u32 (bits .or .u32 (bits .or .u32 ((b0 : Int) * 16777216) ((b1 : Int) * 65536)) ((b2 : Int) * 256)) (b3 : Int) = ((b0 * 16777216 + b1 * 65536 + b2 * 256 + b3 : Nat) : Int) := by
 have e1 : bits .or .u32 ((b0 : Int) * 16777216) ((b1 : Int) * 65536) = ((b0 * 16777216 + b1 * 65536 : Nat) : Int) := by
  rw [show (b0 : Int) * 16777216 = ((b0 * 16777216 : Nat) : Int) by omega, show (b1 : Int) * 65536 = ((b1 * 65536 : Nat) : Int) by omega, u32_or_nat _ _ (by omega) (by omega)]
  have := or_add (a := b0) (b := b1 * 65536) 24 (by omega)
  rw [show b0 * 16777216 = 2 ^ 24 * b0 by omega, this]
 have e2 : bits .or .u32 ((b0 * 16777216 + b1 * 65536 : Nat) : Int) ((b2 : Int) * 256) = ((b0 * 16777216 + b1 * 65536 + b2 * 256 : Nat) : Int) := by
  rw [show (b2 : Int) * 256 = ((b2 * 256 : Nat) : Int) by omega, u32_or_nat _ _ (by omega) (by omega)]
  have := or_add (a := b0 * 256 + b1) (b := b2 * 256) 16 (by omega)
  rw [show b0 * 16777216 + b1 * 65536 = 2 ^ 16 * (b0 * 256 + b1) by omega, this]
 rw [e1, e2, u32_or_nat _ _ (by omega) (by omega)]
 have := or_add (a := b0 * 65536 + b1 * 256 + b2) (b := b3) 8 (by omega)
 rw [show b0 * 16777216 + b1 * 65536 + b2 * 256 = 2 ^ 8 * (b0 * 65536 + b1 * 256 + b2) by omega, this]
set_option maxRecDepth 100000 in
set_option maxHeartbeats 2000000 in
theorem c_word (W : World) (A : Option Addr) (c : Nat) (xs : List Int) (hC : (Kd.int .u8).C W A xs.length xs) (hB : Bytes xs) (h4 : 4 ≤ xs.length) :
  Calls Tryz.prog 169 #[.slice A xs.length c] W fun e W' => e = .returned (.int .u32 ((word4 xs : Nat) : Int)) ∧ Below W.heap.size W W' := by
 obtain ⟨ad, rfl⟩ : ∃ ad, A = some ad := by obtain ⟨ad, h, _⟩ := Kd.at_int hC 0 (by omega) (by omega); exact ⟨ad, h⟩
 obtain ⟨b0, l0, e0, c0⟩ := byte_at hC hB (i := 0) (by omega)
 obtain ⟨b1, l1, e1, c1⟩ := byte_at hC hB (i := 1) (by omega)
 obtain ⟨b2, l2, e2, c2⟩ := byte_at hC hB (i := 2) (by omega)
 obtain ⟨b3, l3, e3, c3⟩ := byte_at hC hB (i := 3) (by omega)
 have hw : word4 xs = b0 * 16777216 + b1 * 65536 + b2 * 256 + b3 := by unfold word4; rw [e0, e1, e2, e3]; simp only [Int.toNat_natCast]
 rw [hw]
 have hm : xs.length ≤ 9223372036854775807 := hC.2.1
 have k0 : (0 : Int) < xs.length := by omega
 have k1 : (1 : Int) < xs.length := by omega
 have k2 : (2 : Int) < xs.length := by omega
 have k3 : (3 : Int) < xs.length := by omega
 have c0' : W.cell? ad = some (.int .u8 (b0 : Int)) := by simpa [Addr.add] using c0
 have c1' : W.cell? ⟨ad.block, ad.off + 1, none⟩ = some (.int .u8 (b1 : Int)) := by simpa [Addr.add] using c1
 have c2' : W.cell? ⟨ad.block, ad.off + 2, none⟩ = some (.int .u8 (b2 : Int)) := by simpa [Addr.add] using c2
 have c3' : W.cell? ⟨ad.block, ad.off + 3, none⟩ = some (.int .u8 (b3 : Int)) := by simpa [Addr.add] using c3
 have n0 : 0 < xs.length := by omega
 have n1 : 1 < xs.length := by omega
 have n2 : 2 < xs.length := by omega
 have n3 : 3 < xs.length := by omega
 clear hC hB e0 e1 e2 e3 hw
 go_enter Tryz.func169, Tryz.ntmps169
 go_upto_region 1 with fail
 go_quiet (fail)
 go_wp2_with fail
 go_ret
 refine ⟨?_, drewn_b (Below.refl _ _) nq⟩
 show Ending.returned (.int .u32 (bits .or .u32 (bits .or .u32 (bits .or .u32 ((b0 : Int) * 16777216) ((b1 : Int) * 65536)) ((b2 : Int) * 256)) (b3 : Int))) = _
 rw [or_word l0 l1 l2 l3]
end Go.Proofs.YtmneemhplffemaaGreatDoorRR.Sum
namespace Go.Proofs.YtmneemhplffemaaGreatDoorRR.Sum
open Go.RowKit Go.Proofs.YtmneemhplffemaaGreatDoorRR.Ext Go.Proofs.YtmneemhplffemaaGreatDoorRR.Wire Go.Proofs.YtmneemhplffemaaGreatDoorRR.Mem Go.Proofs.YtmneemhplffemaaGreatDoorRR.Row Go.Proofs.YtmneemhplffemaaGreatDoorRR.Crc Go.Proofs.YtmneemhplffemaaGreatDoorRRW.PrintWords


def headOf (n : Nat) : List Int := ([197, 58] ++ be4 n) ++ be4 (sumN (nats ([197, 58] ++ be4 n)))
def frameOf (bs : List Int) : List Int := (headOf bs.length ++ bs) ++ be4 (sumN (nats (headOf bs.length ++ bs)))
theorem be4_bytes {n : Nat} (h : n < 4294967296) : Bytes (be4 n) := by
 intro b hb
 simp only [be4, List.mem_cons, List.not_mem_nil, or_false] at hb
 rcases hb with rfl | rfl | rfl | rfl <;> omega
theorem nats_lt {xs : List Int} (h : Bytes xs) : ∀ b ∈ nats xs, b < 256 := by
 intro b hb
 simp only [nats, List.mem_map] at hb
 obtain ⟨c, hc, rfl⟩ := hb
 have := h c hc
 omega
theorem sum_lt {xs : List Int} (h : Bytes xs) : sumN (nats xs) < 4294967296 := sumN_lt (nats_lt h)
theorem bytes_app {xs ys : List Int} (h : Bytes xs) (k : Bytes ys) : Bytes (xs ++ ys) := by
 intro b hb
 rcases List.mem_append.1 hb with hb | hb
 · exact h b hb
 · exact k b hb
theorem marks_bytes : Bytes [197, 58] := by
 intro b hb
 simp at hb
 omega
theorem gate_make {P : Program} {all : Array Oper} {rest : List Oper} {o : Oper} {a : Act} {Q : Exit → Act → World → Prop} {W : World} {t : TypeId} {x y : Operand} (_ho : o.op = .makeSlice t x y) (h : wpList P all Q (o :: rest) a W) : wpList P all Q (o :: rest) a W := h
theorem make_zero {all : Array Oper} {rest : List Oper} {o : Oper} {a : Act} {Q : Exit → Act → World → Prop} {W : World} (base : Nat) (hgd : o.guard = none) (x y : Operand) (ho : o.op = .makeSlice 41 x y) (c : Nat) (hx : a.eval x = .int .i64 0) (hy : a.eval y = .int .i64 (c : Int)) (hc : c ≤ 1000000000) (hbase : base ≤ W.heap.size)
  (h : ∀ v w1, BRow w1 base v [] → Below W.heap.size W w1 → wpList Tryz.prog all Q rest (a.put o.dst v) w1) : wpList Tryz.prog all Q (o :: rest) a W := by
 obtain ⟨i0, hi, hzz⟩ := Option.map_eq_some_iff.1 info5
 simp only [Prod.mk.injEq] at hzz
 obtain ⟨hz0, hz1, hz2⟩ := hzz
 obtain ⟨w', hr, hown, hg⟩ := run_make_own (w := W) (P := Tryz.prog) base 41 5 i0 (.int .u8 0) 1 Tryz.underlying41 hi hz0 hz1 .i64 .i64 c (by rw [hz2]; omega) (by simp only [maxLen]; omega) hbase
 refine Kd.event_run hgd (by simp [execOp, ho, hx, hy, hr]) (h _ w' (Kd.R_of_own (xs := []) hown (fun _ _ => trivial)) ?_)
 exact (Moved.of_grown hg).below (fun k _ hk => by cases hk)
set_option maxRecDepth 100000 in
set_option maxHeartbeats 4000000 in
theorem c_frame (W : World) (g : Nat) (B : Option Addr) (d : Nat) (bs : List Int) (hP : W.cell? ⟨g, 0, none⟩ = some (.slice B bs.length d)) (hC : (Kd.int .u8).C W B bs.length bs) (hB : Bytes bs) (hl : bs.length ≤ 262144) :
  Calls Tryz.prog 82 #[.slice (some ⟨g, 0, none⟩) 1 1] W fun e W' => ∃ v, e = .returned (.tuple #[v, .int .i64 0]) ∧ BRow W' W.heap.size v (frameOf bs) ∧ Below W.heap.size W W' := by
 have HC := Aside0.mk hC
 have HY := Aside0.mk hB
 have HL := Aside0.mk hl
 have HP := Aside0.mk hP
 have h1 : decide ((bs.length : Int) > 262144) = false := by simp; omega
 have h1' : decide ((262144 : Int) < bs.length) = false := by simp; omega
 have w1 : wrap64 (bs.length : Int) = bs.length := by unfold wrap64; omega
 obtain ⟨fr, hfr⟩ : ∃ fr, frameOf bs = fr := ⟨_, rfl⟩
 rw [hfr]
 have HFR := Aside0.mk hfr
 have HHB := Aside0.mk (bytes_app (bytes_app marks_bytes (be4_bytes (n := bs.length) (by omega))) (be4_bytes (sum_lt (bytes_app marks_bytes (be4_bytes (n := bs.length) (by omega))))) : Bytes (headOf bs.length))
 clear hfr
 have u1 : (bs.length : Int) % 4294967296 = (bs.length : Int) := by omega
 clear hC hB hl
 go_enter Tryz.func82, Tryz.ntmps82
 go_upto_region 3 with fail
 go_loopw [4, 12] (fun v4 v12 wr => (v12 = .int .i64 0 ∧ v4 = .int .i64 0 ∧ wr = W) ∨ (v12 = .int .i64 1 ∧ v4 = .int .i64 bs.length ∧ wr = W)) (fun _ v _ => 1 - (intOf v).toNat)
 case atStart => exact .inl ⟨rfl, rfl, rfl⟩
 case round =>
  rcases hrel with ⟨rfl, rfl, rfl⟩ | ⟨rfl, rfl, rfl⟩
  · go_wp2_with fail
    exact ⟨.inr ⟨rfl, rfl, trivial⟩, by decide⟩
  · obtain ⟨W0, rfl⟩ : ∃ W0, W0 = wr := ⟨_, rfl⟩
    go_upto_region 11 with (first | ((with_reducible refine gate_make (t := 41) rfl ?_); refine make_zero W0.heap.size rfl (.const (.int .i64 0)) (.tmp 24) rfl (bs.length + 14) rfl rfl (by have := HL.out; omega) (Nat.le_refl _) ?_; intro v1 w1 ho hb; have HO1 := Aside0.mk ho; have HB1 := Aside0.mk hb; clear ho hb) | ((with_reducible refine gate_builtin (b := .append) (xs := #[.tmp 26, .tmp 27]) rfl ?_); at_builtin; have hal := below_alloc (Below.refl w1.heap.size w1) (Obj.cells (([197, 58] : List Int).map (Value.int .u8)).toArray 5 (0, 0)); refine Kd.R_append_row (Value.int .u8) 0 (w0 := W0) W0.heap.size rfl (.tmp 26) (.tmp 27) 41 5 (.int .u8 0) 1 rfl Tryz.underlying41 info5 rfl (by decide) v1 [] [197, 58] (some ⟨w1.heap.size, 0, none⟩) 2 2 (fun _ => True) rfl rfl (fun _ _ => trivial) (Kd.R_below HO1.out hal) (lit_bytes w1 [197, 58] (by decide)) (below_step HB1.out hal) (Nat.le_trans HB1.out.size hal.size) (by decide) ?_; intro v2 w2 ho hb _ _; have HO2 := Aside0.mk (show BRow w2 W0.heap.size v2 [197, 58] from ho); have HB2 := Aside0.mk hb; clear ho hb hal))
    go_upto_region 12 with (go_at_call 124; have hcf := c_four W0 w2 W0.heap.size v2 [197, 58] bs.length (by have := HL.out; omega) HO2.out HB2.out HB2.out.size (by decide); (with_reducible refine hcf.mono ?_); clear hcf; rintro e w3 ⟨v3, rfl, ho, hb⟩; have HO3 := Aside0.mk ho; have HB3 := Aside0.mk hb; clear ho hb)
    obtain ⟨hd, hhd⟩ : ∃ hd, [197, 58] ++ be4 bs.length = hd := ⟨_, rfl⟩
    rw [hhd] at HO3
    have HHD := Aside0.mk hhd
    have HDB := Aside0.mk (show Bytes hd by rw [← hhd]; exact bytes_app marks_bytes (be4_bytes (n := bs.length) (by have := HL.out; omega)))
    have HDL := Aside0.mk (show hd.length = 6 by rw [← hhd]; rfl)
    clear hhd
    obtain ⟨A3, c3, he3⟩ := Kd.R_slice HO3.out
    subst he3
    go_upto_region 13 with (first | (go_at_call 125; have hcf := c_sum w3 A3 c3 hd (Kd.R_reads' HO3.out).2.2 HDB.out; (with_reducible refine hcf.mono ?_); clear hcf; rintro e w4 ⟨rfl, hb⟩; have HO4 := Aside0.mk (Kd.R_below HO3.out hb); have HB4 := Aside0.mk (below_base HB3.out HB3.out.size hb); clear hb) | (go_at_call 124; have hcf := c_four W0 w4 W0.heap.size (.slice A3 hd.length c3) hd (sumN (nats hd)) (sum_lt HDB.out) HO4.out HB4.out HB4.out.size (by have := HDL.out; omega); (with_reducible refine hcf.mono ?_); clear hcf; rintro e w5 ⟨v5, rfl, ho, hb⟩; have HO5 := Aside0.mk ho; have HB5 := Aside0.mk hb; clear ho hb))
    obtain ⟨h2, hh2⟩ : ∃ h2, hd ++ be4 (sumN (nats hd)) = h2 := ⟨_, rfl⟩
    rw [hh2] at HO5
    have HHO := Aside0.mk (show headOf bs.length = h2 by rw [← hh2, ← HHD.out]; rfl)
    have HDL2 := Aside0.mk (show h2.length = 10 by rw [← hh2, List.length_append, HDL.out]; rfl)
    have H2B := Aside0.mk (show Bytes h2 by rw [← HHO.out]; exact HHB.out)
    clear hh2
    go_upto_region 14 with fail
    go_loopw [7, 39] (fun v7 v39 w => (v39 = .int .i64 0 ∧ Aside0 (BRow w W0.heap.size v7 h2) ∧ Aside0 (Below W0.heap.size W0 w)) ∨ (v39 = .int .i64 1 ∧ Aside0 (BRow w W0.heap.size v7 (h2 ++ bs)) ∧ Aside0 (Below W0.heap.size W0 w))) (fun _ v _ => 1 - (intOf v).toNat)
    case atStart => exact .inl ⟨rfl, HO5, HB5⟩
    case round =>
     rcases hrel with ⟨rfl, HR, HB⟩ | ⟨rfl, HR, HB⟩
     · have hp6 := (Below.cell HB.out (World.block_lt_of_cell? W0 _ hP)).trans hP
       obtain ⟨A6, c6, he6⟩ := Kd.R_slice HR.out
       subst he6
       go_wp2_with ((with_reducible refine gate_builtin (b := .append) (xs := #[.tmp 43, .tmp 44]) rfl ?_); at_builtin; refine Kd.R_append_row (Value.int .u8) 0 (w0 := W0) W0.heap.size rfl (.tmp 43) (.tmp 44) 41 5 (.int .u8 0) 1 rfl Tryz.underlying41 info5 rfl (by decide) (.slice A6 h2.length c6) h2 bs B _ d (fun _ => True) rfl rfl (fun _ _ => trivial) HR.out (Kd.C_below HC.out HB.out) HB.out HB.out.size (by have := HDL2.out; have := HL.out; omega) ?_; intro v7 w7 ho hb _ _; have HO7 := Aside0.mk ho; have HB7 := Aside0.mk hb; clear ho hb)
       exact ⟨.inr ⟨rfl, HO7, HB7⟩, by decide⟩
     · obtain ⟨fb, hfb⟩ : ∃ fb, h2 ++ bs = fb := ⟨_, rfl⟩
       rw [hfb] at HR
       have HFB := Aside0.mk (show Bytes fb by rw [← hfb]; exact bytes_app H2B.out HY.out)
       have HFL := Aside0.mk (show fb.length = 10 + bs.length by rw [← hfb, List.length_append, HDL2.out])
       have HFE := Aside0.mk (show fr = fb ++ be4 (sumN (nats fb)) by rw [← HFR.out, frameOf, HHO.out, hfb])
       clear hfb
       obtain ⟨A6, c6, he6⟩ := Kd.R_slice HR.out
       subst he6
       go_wp2_with (first | (go_at_call 125; have hcf := c_sum wr A6 c6 fb (Kd.R_reads' HR.out).2.2 HFB.out; (with_reducible refine hcf.mono ?_); clear hcf; rintro e w8 ⟨rfl, hb⟩; have HO8 := Aside0.mk (Kd.R_below HR.out hb); have HB8 := Aside0.mk (below_base HB.out HB.out.size hb); clear hb) | (go_at_call 124; have hcf := c_four W0 w8 W0.heap.size (.slice A6 fb.length c6) fb (sumN (nats fb)) (sum_lt HFB.out) HO8.out HB8.out HB8.out.size (by have := HFL.out; have := HL.out; omega); (with_reducible refine hcf.mono ?_); clear hcf; rintro e w9 ⟨v9, rfl, ho, hb⟩; have HO9 := Aside0.mk ho; have HB9 := Aside0.mk hb; clear ho hb))
       go_ret2
       exact ⟨_, rfl, by rw [HFE.out]; exact HO9.out, HB9.out⟩
end Go.Proofs.YtmneemhplffemaaGreatDoorRR.Sum
namespace Go.Proofs.YtmneemhplffemaaGreatDoorRR.Sum
open Go.RowKit Go.Proofs.YtmneemhplffemaaGreatDoorRR.Ext Go.Proofs.YtmneemhplffemaaGreatDoorRR.Wire Go.Proofs.YtmneemhplffemaaGreatDoorRR.Mem Go.Proofs.YtmneemhplffemaaGreatDoorRR.Row Go.Proofs.YtmneemhplffemaaGreatDoorRR.Crc Go.Proofs.YtmneemhplffemaaGreatDoorRRW.PrintWords


set_option maxRecDepth 100000 in
theorem drop_of {W : World} {A : Option Addr} {c : Nat} {xs : List Int} (hC : (Kd.int .u8).C W A xs.length xs) (m : Nat) (i : Int) (hi : i = (m : Int)) (hm : m ≤ xs.length) (hc : xs.length ≤ c) :
  ∃ T, (Kd.int .u8).C W T (xs.drop m).length (xs.drop m) ∧ ∀ w : World, (Instr.slice 41 (.slice A xs.length c) (some (.int .i64 i)) none none).run Tryz.prog w = .ok (.slice T (xs.drop m).length (c - m)) w := by
 refine ⟨_, Kd.C_drop hC hm hc, fun w => ?_⟩
 obtain ⟨i0, hi0, hz⟩ := Option.map_eq_some_iff.1 info5
 simp only [Prod.mk.injEq] at hz
 rw [hi, run_slice_l w _ A xs.length c Tryz.underlying41 .i64 (m : Int) (by omega) (by omega), List.length_drop]
 simp [sizeOf, Result.andThen, sliced, hi0, hz, Kd.sz, go_sem, show Tryz.prog.elem 41 = 5 from rfl]
 rfl
set_option maxRecDepth 100000 in
theorem take_of {A : Option Addr} {c : Nat} {xs : List Int} (m : Nat) (i : Int) (hi : i = (m : Int)) (hm : m ≤ xs.length) (hc : xs.length ≤ c) (w : World) :
  (Instr.slice 41 (.slice A xs.length c) none (some (.int .i64 i)) none).run Tryz.prog w = .ok (.slice A (xs.take m).length c) w := by
 obtain ⟨i0, hi0, hz⟩ := Option.map_eq_some_iff.1 info5
 simp only [Prod.mk.injEq] at hz
 have e : A.map (·.add 0) = A := by cases A with | none => rfl | some a => simp [Addr.add]
 rw [hi, run_slice_h w _ A xs.length c Tryz.underlying41 .i64 (m : Int) (by omega) (by omega), List.length_take, Nat.min_eq_left hm]
 simp [sizeOf, Result.andThen, sliced, hi0, hz, Kd.sz, go_sem, e, show Tryz.prog.elem 41 = 5 from rfl]
def endsB (xs : List Int) : Bool := ((word4 (xs.drop (xs.length - 4)) : Int) == (sumN (nats (xs.take (xs.length - 4))) : Int))
theorem bytes_drop {xs : List Int} (h : Bytes xs) (k : Nat) : Bytes (xs.drop k) := fun b hb => h b (List.mem_of_mem_drop hb)
theorem bytes_take {xs : List Int} (h : Bytes xs) (k : Nat) : Bytes (xs.take k) := fun b hb => h b (List.mem_of_mem_take hb)
set_option maxRecDepth 100000 in
set_option maxHeartbeats 4000000 in
theorem c_tail (W : World) (A : Option Addr) (c : Nat) (xs : List Int) (hC : (Kd.int .u8).C W A xs.length xs) (hB : Bytes xs) (h4 : 4 ≤ xs.length) (hc : xs.length ≤ c) :
   Calls Tryz.prog 129 #[.slice A xs.length c] W fun e W' => e = .returned (.bool (endsB xs)) ∧ Below W.heap.size W W' := by
 obtain ⟨k, hk⟩ : ∃ k, k = xs.length - 4 := ⟨_, rfl⟩
 obtain ⟨eb, heb⟩ : ∃ eb, endsB xs = eb := ⟨_, rfl⟩
 rw [heb]
 have hkx : k ≤ xs.length := by omega
 obtain ⟨T, hT, hsl⟩ := drop_of hC k k rfl hkx hc
 have hst := take_of (A := A) k k rfl hkx hc
 obtain ⟨L, hL⟩ : ∃ L, xs.drop k = L := ⟨_, rfl⟩
 obtain ⟨M, hM⟩ : ∃ M, xs.take k = M := ⟨_, rfl⟩
 have HTK := Aside0.mk (Kd.C_take hC hkx)
 have ek : wrap64 ((xs.length : Int) - 4) = (k : Int) := by have := hC.2.1; unfold wrap64; omega
 have HEB := Aside0.mk (show ((word4 (xs.drop k) : Int) == (sumN (nats (xs.take k)) : Int)) = eb by rw [← heb, endsB, ← hk])
 have HTB := Aside0.mk (bytes_drop hB k)
 have HXB := Aside0.mk (bytes_take hB k)
 have HK4 := Aside0.mk (show 4 ≤ (xs.drop k).length by rw [List.length_drop]; omega)
 have HKX := Aside0.mk hkx
 rw [hL] at hT hsl HEB HTB HK4
 rw [hM] at hst HTK HEB HXB
 have HT := Aside0.mk hT
 clear hT hC hB hk h4 heb hkx hL hM HKX
 go_enter Tryz.func129, Tryz.ntmps129
 go_upto_region 2 with fail
 refine wp_region_held_drew (S := fun W' => True) (by kernel_rfl) ?_ (fun hHeld => ?_)
 · exact trivial
 refine wpAnyH_take (i := 0) (oi := { dst := Option.some 7, op := Go.Op.move (Go.Operand.tmp 0), type := 41, pos := "wire.go:130", after := #[], guard := Option.none }) (v := ?_) rfl (by kernel_rfl) (by kernel_rfl) (by kernel_rfl) (fun _ _ _ h => h) (Or.inl ⟨by rfl, ?_⟩) (by assumption) ?_
 rotate_left
 · (intro w hSw; (try dsimp only at hSw); go_simp; try with_reducible rfl)
 try simp only [Act.put, List.setIfInBounds_toArray, List.set_cons_zero, List.set_cons_succ]
 refine wpAnyH_take (i := 1) (oi := { dst := Option.some 8, op := Go.Op.move (Go.Operand.tmp 3), type := 3, pos := "wire.go:130", after := #[], guard := Option.none }) (v := ?_) rfl (by kernel_rfl) (by kernel_rfl) (by kernel_rfl) (fun _ _ _ h => h) (Or.inl ⟨by rfl, ?_⟩) (by assumption) ?_
 rotate_left
 · (intro w hSw; (try dsimp only at hSw); go_simp; try with_reducible rfl)
 try simp only [Act.put, List.setIfInBounds_toArray, List.set_cons_zero, List.set_cons_succ]
 refine wpAnyH_take (i := 2) (oi := { dst := Option.some 9, op := Go.Op.slice 41 (Go.Operand.tmp 7) (Option.some (Go.Operand.tmp 8)) Option.none Option.none, type := 41, pos := "wire.go:130", after := #[{ on := 0, ground := Go.Ground.data }, { on := 1, ground := Go.Ground.data }], guard := Option.none }) (v := ?_) rfl (by kernel_rfl) (by kernel_rfl) (by kernel_rfl) (fun _ _ _ h => h) (Or.inl ⟨by rfl, ?_⟩) (by assumption) ?_
 rotate_left
 · (intro w hSw; (try dsimp only at hSw); go_simp; try with_reducible rfl)
 try simp only [Act.put, List.setIfInBounds_toArray, List.set_cons_zero, List.set_cons_succ]
 refine wpAnyH_take (i := 4) (oi := { dst := Option.some 11, op := Go.Op.move (Go.Operand.tmp 0), type := 41, pos := "wire.go:130", after := #[], guard := Option.none }) (v := ?_) rfl (by kernel_rfl) (by kernel_rfl) (by kernel_rfl) (fun _ _ _ h => h) (Or.inl ⟨by rfl, ?_⟩) (by assumption) ?_
 rotate_left
 · (intro w hSw; (try dsimp only at hSw); go_simp; try with_reducible rfl)
 try simp only [Act.put, List.setIfInBounds_toArray, List.set_cons_zero, List.set_cons_succ]
 refine wpAnyH_take (i := 5) (oi := { dst := Option.some 12, op := Go.Op.move (Go.Operand.tmp 3), type := 3, pos := "wire.go:130", after := #[], guard := Option.none }) (v := ?_) rfl (by kernel_rfl) (by kernel_rfl) (by kernel_rfl) (fun _ _ _ h => h) (Or.inl ⟨by rfl, ?_⟩) (by assumption) ?_
 rotate_left
 · (intro w hSw; (try dsimp only at hSw); go_simp; try with_reducible rfl)
 try simp only [Act.put, List.setIfInBounds_toArray, List.set_cons_zero, List.set_cons_succ]
 refine wpAnyH_take (i := 6) (oi := { dst := Option.some 13, op := Go.Op.slice 41 (Go.Operand.tmp 11) Option.none (Option.some (Go.Operand.tmp 12)) Option.none, type := 41, pos := "wire.go:130", after := #[{ on := 4, ground := Go.Ground.data }, { on := 5, ground := Go.Ground.data }], guard := Option.none }) (v := ?_) rfl (by kernel_rfl) (by kernel_rfl) (by kernel_rfl) (fun _ _ _ h => h) (Or.inl ⟨by rfl, ?_⟩) (by assumption) ?_
 rotate_left
 · (intro w hSw; (try dsimp only at hSw); go_simp; try with_reducible rfl)
 try simp only [Act.put, List.setIfInBounds_toArray, List.set_cons_zero, List.set_cons_succ]
 refine wpAnyH_ready (rs := [3]) (by kernel_rfl) (by simp) ?_
 refine AllReadyH.cons (o := { dst := Option.some 10, op := Go.Op.call { callee := Go.Callee.value (Go.Operand.func 169), args := #[Go.Operand.tmp 9], argTypes := #[41] }, type := 194, pos := "wire.go:130", after := #[{ on := 2, ground := Go.Ground.data }], guard := Option.none }) rfl (fun K hK => ?_) ?_
 rotate_left
 · exact AllReadyH.nil
 go_simp
 (go_at_call 169; have hcf := c_word W.drew T (c - k) L (Kd.C_below HT.out (below_drew (Below.refl _ _))) HTB.out HK4.out; (with_reducible refine hcf.mono ?_); clear hcf; rintro e w1 ⟨rfl, hb⟩; have HB1 := Aside0.mk (below_step (below_drew (Below.refl _ W)) hb); clear hb)
 refine hK.out _ _ ?_ (fun hHeld => ?_)
 · exact trivial
 clear hK K
 try simp only [Act.put, List.setIfInBounds_toArray, List.set_cons_zero, List.set_cons_succ]
 refine wpAnyH_ready (rs := [7]) (by kernel_rfl) (by simp) ?_
 refine AllReadyH.cons (o := { dst := Option.some 14, op := Go.Op.call { callee := Go.Callee.value (Go.Operand.func 125), args := #[Go.Operand.tmp 13], argTypes := #[41] }, type := 194, pos := "wire.go:130", after := #[{ on := 6, ground := Go.Ground.data }, { on := 3, ground := Go.Ground.chain }], guard := Option.none }) rfl (fun K hK => ?_) ?_
 rotate_left
 · exact AllReadyH.nil
 go_simp
 (go_at_call 125; have hcf := c_sum w1 A c M (Kd.C_below HTK.out HB1.out) HXB.out; (with_reducible refine hcf.mono ?_); clear hcf; rintro e w2 ⟨rfl, hb⟩; have HB2 := Aside0.mk (below_step HB1.out hb); clear hb)
 refine hK.out _ _ ?_ (fun hHeld => ?_)
 · exact trivial
 clear hK K
 try simp only [Act.put, List.setIfInBounds_toArray, List.set_cons_zero, List.set_cons_succ]
 refine wpAnyH_take (i := 8) (oi := { dst := Option.some 15, op := Go.Op.binOp Go.BinOp.eql 194 (Go.Operand.tmp 10) (Go.Operand.tmp 14) 194, type := 4, pos := "wire.go:130", after := #[{ on := 3, ground := Go.Ground.data }, { on := 7, ground := Go.Ground.data }], guard := Option.none }) (v := ?_) rfl (by kernel_rfl) (by kernel_rfl) (by kernel_rfl) (fun _ _ _ h => h) (Or.inl ⟨by rfl, ?_⟩) (by assumption) ?_
 rotate_left
 · (intro w hSw; (try dsimp only at hSw); go_simp; try with_reducible rfl)
 try simp only [Act.put, List.setIfInBounds_toArray, List.set_cons_zero, List.set_cons_succ]
 refine wpAnyH_take (i := 9) (oi := { dst := Option.some 2, op := Go.Op.assign (Go.Operand.tmp 15), type := 4, pos := "wire.go:130", after := #[{ on := 8, ground := Go.Ground.data }, { on := 7, ground := Go.Ground.chain }, { on := 0, ground := Go.Ground.phase }, { on := 1, ground := Go.Ground.phase }, { on := 2, ground := Go.Ground.phase }, { on := 3, ground := Go.Ground.phase }, { on := 4, ground := Go.Ground.phase }, { on := 5, ground := Go.Ground.phase }, { on := 6, ground := Go.Ground.phase }, { on := 7, ground := Go.Ground.phase }, { on := 8, ground := Go.Ground.phase }], guard := Option.none }) (v := ?_) rfl (by kernel_rfl) (by kernel_rfl) (by kernel_rfl) (fun _ _ _ h => h) (Or.inl ⟨by rfl, ?_⟩) (by assumption) ?_
 rotate_left
 · (intro w hSw; (try dsimp only at hSw); go_simp; try with_reducible rfl)
 try simp only [Act.put, List.setIfInBounds_toArray, List.set_cons_zero, List.set_cons_succ]
 refine wpAnyH_done (by kernel_rfl) ?_ _
 go_wp2_with fail
 go_ret
 exact ⟨by rw [← HEB.out]; rfl, HB2.out⟩
theorem getD_byte {xs : List Int} (h : Bytes xs) (i : Nat) : (xs.getD i 0).toNat < 256 := by
 rw [List.getD_eq_getElem?_getD]
 cases e : xs[i]? with
 | none => simp
 | some b => have := h b (List.mem_of_getElem? e); simp; omega
theorem word4_lt {xs : List Int} (h : Bytes xs) : word4 xs < 4294967296 := by
 have h0 := getD_byte h 0
 have h1 := getD_byte h 1
 have h2 := getD_byte h 2
 have h3 := getD_byte h 3
 unfold word4
 omega
def headB (xs : List Int) : Bool := (xs.getD 0 0 == 197) && (xs.getD 1 0 == 58) && decide ((word4 (xs.drop 2) : Int) ≤ 262144) && ((word4 (xs.drop 6) : Int) == (sumN (nats (xs.take 6)) : Int))
set_option maxRecDepth 100000 in
set_option maxHeartbeats 8000000 in
theorem c_head (W : World) (A : Option Addr) (c : Nat) (xs : List Int) (hC : (Kd.int .u8).C W A xs.length xs) (hB : Bytes xs) (h4 : 10 ≤ xs.length) (hc : xs.length ≤ c) :
   Calls Tryz.prog 128 #[.slice A xs.length c] W fun e W' => e = .returned (.tuple #[.int .i64 ((word4 (xs.drop 2) : Nat) : Int), .bool (headB xs)]) ∧ Below W.heap.size W W' := by
 obtain ⟨ad, rfl⟩ : ∃ ad, A = some ad := by obtain ⟨ad, h, _⟩ := Kd.at_int hC 0 (by omega) (by omega); exact ⟨ad, h⟩
 obtain ⟨b0, l0, e0, c0⟩ := byte_at hC hB (i := 0) (by omega)
 obtain ⟨b1, l1, e1, c1⟩ := byte_at hC hB (i := 1) (by omega)
 have HC0 := Aside0.mk (show W.cell? ad = some (.int .u8 (b0 : Int)) by simpa [Addr.add] using c0)
 have HC1 := Aside0.mk (show W.cell? ⟨ad.block, ad.off + 1, none⟩ = some (.int .u8 (b1 : Int)) by simpa [Addr.add] using c1)
 have HN0 := Aside0.mk (World.block_lt_of_cell? W _ HC0.out)
 obtain ⟨T, hT, hsl⟩ := drop_of hC 2 2 rfl (by omega) hc
 obtain ⟨T6, hT6, hsl6⟩ := drop_of hC 6 6 rfl (by omega) hc
 have hst := take_of (A := some ad) 6 6 rfl (by omega) hc
 have HTK := Aside0.mk (Kd.C_take (m := 6) hC (by omega))
 have HTB := Aside0.mk (bytes_drop hB 2)
 have HT6B := Aside0.mk (bytes_drop hB 6)
 have HXB := Aside0.mk (bytes_take hB 6)
 have HK2 := Aside0.mk (show 4 ≤ (xs.drop 2).length by rw [List.length_drop]; omega)
 have HK6 := Aside0.mk (show 4 ≤ (xs.drop 6).length by rw [List.length_drop]; omega)
 obtain ⟨eb, heb⟩ : ∃ eb, headB xs = eb := ⟨_, rfl⟩
 have HEB := Aside0.mk heb
 have HEB2 := Aside0.mk (show headB xs = ((xs.getD 0 0 == 197) && (xs.getD 1 0 == 58) && decide ((word4 (xs.drop 2) : Int) ≤ 262144) && ((word4 (xs.drop 6) : Int) == (sumN (nats (xs.take 6)) : Int))) from rfl)
 rw [heb]
 rw [heb, e0, e1] at HEB2
 obtain ⟨L, hL⟩ : ∃ L, xs.drop 2 = L := ⟨_, rfl⟩
 obtain ⟨L6, hL6⟩ : ∃ L6, xs.drop 6 = L6 := ⟨_, rfl⟩
 obtain ⟨M, hM⟩ : ∃ M, xs.take 6 = M := ⟨_, rfl⟩
 rw [hL]
 rw [hL] at hT hsl HTB HK2 HEB2
 rw [hL6] at hT6 hsl6 HT6B HK6 HEB2
 rw [hM] at hst HTK HXB HEB2
 have HT := Aside0.mk hT
 have HT6 := Aside0.mk hT6
 obtain ⟨n, hn⟩ : ∃ n, word4 L = n := ⟨_, rfl⟩
 have HN := Aside0.mk hn
 have wn : wrap64 (n : Int) = n := by have := word4_lt HTB.out; unfold wrap64; omega
 rw [hn] at HEB2
 rw [hn]
 have k0 : (0 : Int) < xs.length := by omega
 have k1 : (1 : Int) < xs.length := by omega
 have n0 : 0 < xs.length := by omega
 have n1 : 1 < xs.length := by omega
 clear hT hT6 hC hB h4 hc hL hL6 hM heb e0 e1 c0 c1 hn HEB
 go_enter Tryz.func128, Tryz.ntmps128
 go_upto_region 2 with (go_at_call 169; have hcf := c_word W T (c - 2) L HT.out HTB.out HK2.out; rw [HN.out] at hcf; (with_reducible refine hcf.mono ?_); clear hcf; rintro e w1 ⟨rfl, hb⟩; have HB1 := Aside0.mk hb; clear hb)
 have HD0 := Aside0.mk (show w1.drew.cell? ad = _ from (Below.cell HB1.out HN0.out).trans HC0.out)
 have HD1 := Aside0.mk (show w1.drew.cell? ⟨ad.block, ad.off + 1, none⟩ = _ from (Below.cell HB1.out (p := ⟨ad.block, ad.off + 1, none⟩) HN0.out).trans HC1.out)
 have HBD := Aside0.mk (below_drew HB1.out)
 refine wp_region_held_drew (S := fun W' => W'.cell? ad = some (.int .u8 (b0 : Int)) ∧ W'.cell? ⟨ad.block, ad.off + 1, none⟩ = some (.int .u8 (b1 : Int))) (by kernel_rfl) ?_ (fun hHeld => ?_)
 · exact ⟨HD0.out, HD1.out⟩
 refine wpAnyH_take (i := 0) (oi := { dst := Option.some 9, op := Go.Op.move (Go.Operand.tmp 0), type := 41, pos := "wire.go:123", after := #[], guard := Option.none }) (v := ?_) rfl (by kernel_rfl) (by kernel_rfl) (by kernel_rfl) (fun _ _ _ h => h) (Or.inl ⟨by rfl, ?_⟩) (by assumption) ?_
 rotate_left
 · (intro w _; go_simp; try with_reducible rfl)
 try simp only [Act.put, List.setIfInBounds_toArray, List.set_cons_zero, List.set_cons_succ]
 refine wpAnyH_take (i := 1) (oi := { dst := Option.some 10, op := Go.Op.indexAddr 41 (Go.Operand.tmp 9) (Go.Operand.const (Go.Value.int Go.IntKind.i64 0)), type := 0, pos := "wire.go:123", after := #[{ on := 0, ground := Go.Ground.data }], guard := Option.none }) (v := ?_) rfl (by kernel_rfl) (by kernel_rfl) (by kernel_rfl) (fun _ _ _ h => h) (Or.inl ⟨by rfl, ?_⟩) (by assumption) ?_
 rotate_left
 · (intro w _; go_simp; try with_reducible rfl)
 try simp only [Act.put, List.setIfInBounds_toArray, List.set_cons_zero, List.set_cons_succ]
 refine wpAnyH_take (i := 2) (oi := { dst := Option.some 11, op := Go.Op.load 5 (Go.Operand.tmp 10), type := 5, pos := "wire.go:123", after := #[{ on := 1, ground := Go.Ground.data }], guard := Option.none }) (v := ?_) rfl (by kernel_rfl) (by kernel_rfl) (by kernel_rfl) (fun _ _ _ h => h) (Or.inl ⟨by rfl, ?_⟩) (by assumption) ?_
 rotate_left
 · (intro w hSw; (try dsimp only at hSw); obtain ⟨hS0, hS1⟩ := hSw; go_simp; try with_reducible rfl)
 try simp only [Act.put, List.setIfInBounds_toArray, List.set_cons_zero, List.set_cons_succ]
 refine wpAnyH_take (i := 3) (oi := { dst := Option.some 12, op := Go.Op.binOp Go.BinOp.eql 5 (Go.Operand.tmp 11) (Go.Operand.const (Go.Value.int Go.IntKind.u8 197)) 5, type := 4, pos := "wire.go:123", after := #[{ on := 2, ground := Go.Ground.data }], guard := Option.none }) (v := ?_) rfl (by kernel_rfl) (by kernel_rfl) (by kernel_rfl) (fun _ _ _ h => h) (Or.inl ⟨by rfl, ?_⟩) (by assumption) ?_
 rotate_left
 · (intro w _; go_simp; try with_reducible rfl)
 try simp only [Act.put, List.setIfInBounds_toArray, List.set_cons_zero, List.set_cons_succ]
 refine wpAnyH_take (i := 4) (oi := { dst := Option.some 13, op := Go.Op.move (Go.Operand.tmp 12), type := 4, pos := "wire.go:123", after := #[{ on := 3, ground := Go.Ground.data }], guard := Option.none }) (v := ?_) rfl (by kernel_rfl) (by kernel_rfl) (by kernel_rfl) (fun _ _ _ h => h) (Or.inl ⟨by rfl, ?_⟩) (by assumption) ?_
 rotate_left
 · (intro w _; go_simp; try with_reducible rfl)
 try simp only [Act.put, List.setIfInBounds_toArray, List.set_cons_zero, List.set_cons_succ]
 cases h1 : ((b0 : Int) == 197) with
 | false =>
   refine wpAnyH_take (i := 5) (oi := { dst := Option.some 14, op := Go.Op.move (Go.Operand.tmp 0), type := 41, pos := "wire.go:123", after := #[{ on := 4, ground := Go.Ground.guard }], guard := Option.some (4, Bool.true) }) (v := undef) rfl (by kernel_rfl) (by kernel_rfl) (by kernel_rfl) (fun _ _ _ h => h) (Or.inr ⟨by rfl, rfl⟩) (by assumption) ?_
   try simp only [Act.put, List.setIfInBounds_toArray, List.set_cons_zero, List.set_cons_succ]
   refine wpAnyH_take (i := 6) (oi := { dst := Option.some 15, op := Go.Op.indexAddr 41 (Go.Operand.tmp 14) (Go.Operand.const (Go.Value.int Go.IntKind.i64 1)), type := 0, pos := "wire.go:123", after := #[{ on := 5, ground := Go.Ground.data }, { on := 4, ground := Go.Ground.guard }], guard := Option.some (4, Bool.true) }) (v := undef) rfl (by kernel_rfl) (by kernel_rfl) (by kernel_rfl) (fun _ _ _ h => h) (Or.inr ⟨by rfl, rfl⟩) (by assumption) ?_
   try simp only [Act.put, List.setIfInBounds_toArray, List.set_cons_zero, List.set_cons_succ]
   refine wpAnyH_take (i := 7) (oi := { dst := Option.some 16, op := Go.Op.load 5 (Go.Operand.tmp 15), type := 5, pos := "wire.go:123", after := #[{ on := 6, ground := Go.Ground.data }, { on := 4, ground := Go.Ground.guard }], guard := Option.some (4, Bool.true) }) (v := undef) rfl (by kernel_rfl) (by kernel_rfl) (by kernel_rfl) (fun _ _ _ h => h) (Or.inr ⟨by rfl, rfl⟩) (by assumption) ?_
   try simp only [Act.put, List.setIfInBounds_toArray, List.set_cons_zero, List.set_cons_succ]
   refine wpAnyH_take (i := 8) (oi := { dst := Option.some 17, op := Go.Op.binOp Go.BinOp.eql 5 (Go.Operand.tmp 16) (Go.Operand.const (Go.Value.int Go.IntKind.u8 58)) 5, type := 4, pos := "wire.go:123", after := #[{ on := 7, ground := Go.Ground.data }, { on := 4, ground := Go.Ground.guard }], guard := Option.some (4, Bool.true) }) (v := undef) rfl (by kernel_rfl) (by kernel_rfl) (by kernel_rfl) (fun _ _ _ h => h) (Or.inr ⟨by rfl, rfl⟩) (by assumption) ?_
   try simp only [Act.put, List.setIfInBounds_toArray, List.set_cons_zero, List.set_cons_succ]
   refine wpAnyH_take (i := 9) (oi := { dst := Option.some 18, op := Go.Op.pick (Go.Operand.tmp 13) (Go.Operand.tmp 17) (Go.Operand.const (Go.Value.bool Bool.false)), type := 4, pos := "wire.go:123", after := #[{ on := 4, ground := Go.Ground.data }, { on := 8, ground := Go.Ground.data }], guard := Option.none }) (v := ?_) rfl (by kernel_rfl) (by kernel_rfl) (by kernel_rfl) (fun _ _ _ h => h) (Or.inl ⟨by rfl, ?_⟩) (by assumption) ?_
   rotate_left
   · (intro w _; go_simp; try with_reducible rfl)
   try simp only [Act.put, List.setIfInBounds_toArray, List.set_cons_zero, List.set_cons_succ]
   refine wpAnyH_take (i := 10) (oi := { dst := Option.some 19, op := Go.Op.move (Go.Operand.tmp 18), type := 4, pos := "wire.go:123", after := #[{ on := 9, ground := Go.Ground.data }, { on := 4, ground := Go.Ground.chain }], guard := Option.none }) (v := ?_) rfl (by kernel_rfl) (by kernel_rfl) (by kernel_rfl) (fun _ _ _ h => h) (Or.inl ⟨by rfl, ?_⟩) (by assumption) ?_
   rotate_left
   · (intro w _; go_simp; try with_reducible rfl)
   try simp only [Act.put, List.setIfInBounds_toArray, List.set_cons_zero, List.set_cons_succ]
   refine wpAnyH_take (i := 11) (oi := { dst := Option.some 20, op := Go.Op.move (Go.Operand.tmp 4), type := 194, pos := "wire.go:123", after := #[{ on := 10, ground := Go.Ground.guard }], guard := Option.some (10, Bool.true) }) (v := undef) rfl (by kernel_rfl) (by kernel_rfl) (by kernel_rfl) (fun _ _ _ h => h) (Or.inr ⟨by rfl, rfl⟩) (by assumption) ?_
   try simp only [Act.put, List.setIfInBounds_toArray, List.set_cons_zero, List.set_cons_succ]
   refine wpAnyH_take (i := 12) (oi := { dst := Option.some 21, op := Go.Op.binOp Go.BinOp.leq 194 (Go.Operand.tmp 20) (Go.Operand.const (Go.Value.int Go.IntKind.u32 262144)) 194, type := 4, pos := "wire.go:123", after := #[{ on := 11, ground := Go.Ground.data }, { on := 10, ground := Go.Ground.guard }], guard := Option.some (10, Bool.true) }) (v := undef) rfl (by kernel_rfl) (by kernel_rfl) (by kernel_rfl) (fun _ _ _ h => h) (Or.inr ⟨by rfl, rfl⟩) (by assumption) ?_
   try simp only [Act.put, List.setIfInBounds_toArray, List.set_cons_zero, List.set_cons_succ]
   refine wpAnyH_take (i := 13) (oi := { dst := Option.some 22, op := Go.Op.pick (Go.Operand.tmp 19) (Go.Operand.tmp 21) (Go.Operand.const (Go.Value.bool Bool.false)), type := 4, pos := "wire.go:123", after := #[{ on := 10, ground := Go.Ground.data }, { on := 12, ground := Go.Ground.data }], guard := Option.none }) (v := ?_) rfl (by kernel_rfl) (by kernel_rfl) (by kernel_rfl) (fun _ _ _ h => h) (Or.inl ⟨by rfl, ?_⟩) (by assumption) ?_
   rotate_left
   · (intro w _; go_simp; try with_reducible rfl)
   try simp only [Act.put, List.setIfInBounds_toArray, List.set_cons_zero, List.set_cons_succ]
   refine wpAnyH_take (i := 14) (oi := { dst := Option.some 23, op := Go.Op.move (Go.Operand.tmp 22), type := 4, pos := "wire.go:123", after := #[{ on := 13, ground := Go.Ground.data }, { on := 10, ground := Go.Ground.chain }], guard := Option.none }) (v := ?_) rfl (by kernel_rfl) (by kernel_rfl) (by kernel_rfl) (fun _ _ _ h => h) (Or.inl ⟨by rfl, ?_⟩) (by assumption) ?_
   rotate_left
   · (intro w _; go_simp; try with_reducible rfl)
   try simp only [Act.put, List.setIfInBounds_toArray, List.set_cons_zero, List.set_cons_succ]
   refine wpAnyH_take (i := 15) (oi := { dst := Option.some 24, op := Go.Op.move (Go.Operand.tmp 0), type := 41, pos := "wire.go:123", after := #[{ on := 14, ground := Go.Ground.guard }], guard := Option.some (14, Bool.true) }) (v := undef) rfl (by kernel_rfl) (by kernel_rfl) (by kernel_rfl) (fun _ _ _ h => h) (Or.inr ⟨by rfl, rfl⟩) (by assumption) ?_
   try simp only [Act.put, List.setIfInBounds_toArray, List.set_cons_zero, List.set_cons_succ]
   refine wpAnyH_take (i := 16) (oi := { dst := Option.some 25, op := Go.Op.slice 41 (Go.Operand.tmp 24) (Option.some (Go.Operand.const (Go.Value.int Go.IntKind.i64 6))) Option.none Option.none, type := 41, pos := "wire.go:123", after := #[{ on := 15, ground := Go.Ground.data }, { on := 14, ground := Go.Ground.guard }], guard := Option.some (14, Bool.true) }) (v := undef) rfl (by kernel_rfl) (by kernel_rfl) (by kernel_rfl) (fun _ _ _ h => h) (Or.inr ⟨by rfl, rfl⟩) (by assumption) ?_
   try simp only [Act.put, List.setIfInBounds_toArray, List.set_cons_zero, List.set_cons_succ]
   refine wpAnyH_take (i := 17) (oi := { dst := Option.some 26, op := Go.Op.call { callee := Go.Callee.value (Go.Operand.func 169), args := #[Go.Operand.tmp 25], argTypes := #[41] }, type := 194, pos := "wire.go:123", after := #[{ on := 16, ground := Go.Ground.data }, { on := 14, ground := Go.Ground.chain }, { on := 14, ground := Go.Ground.guard }], guard := Option.some (14, Bool.true) }) (v := undef) rfl (by kernel_rfl) (by kernel_rfl) (by kernel_rfl) (fun _ _ _ h => h) (Or.inr ⟨by rfl, rfl⟩) (by assumption) ?_
   try simp only [Act.put, List.setIfInBounds_toArray, List.set_cons_zero, List.set_cons_succ]
   refine wpAnyH_take (i := 18) (oi := { dst := Option.some 27, op := Go.Op.move (Go.Operand.tmp 0), type := 41, pos := "wire.go:123", after := #[{ on := 14, ground := Go.Ground.guard }], guard := Option.some (14, Bool.true) }) (v := undef) rfl (by kernel_rfl) (by kernel_rfl) (by kernel_rfl) (fun _ _ _ h => h) (Or.inr ⟨by rfl, rfl⟩) (by assumption) ?_
   try simp only [Act.put, List.setIfInBounds_toArray, List.set_cons_zero, List.set_cons_succ]
   refine wpAnyH_take (i := 19) (oi := { dst := Option.some 28, op := Go.Op.slice 41 (Go.Operand.tmp 27) Option.none (Option.some (Go.Operand.const (Go.Value.int Go.IntKind.i64 6))) Option.none, type := 41, pos := "wire.go:123", after := #[{ on := 18, ground := Go.Ground.data }, { on := 14, ground := Go.Ground.guard }], guard := Option.some (14, Bool.true) }) (v := undef) rfl (by kernel_rfl) (by kernel_rfl) (by kernel_rfl) (fun _ _ _ h => h) (Or.inr ⟨by rfl, rfl⟩) (by assumption) ?_
   try simp only [Act.put, List.setIfInBounds_toArray, List.set_cons_zero, List.set_cons_succ]
   refine wpAnyH_take (i := 20) (oi := { dst := Option.some 29, op := Go.Op.call { callee := Go.Callee.value (Go.Operand.func 125), args := #[Go.Operand.tmp 28], argTypes := #[41] }, type := 194, pos := "wire.go:123", after := #[{ on := 19, ground := Go.Ground.data }, { on := 17, ground := Go.Ground.chain }, { on := 14, ground := Go.Ground.guard }], guard := Option.some (14, Bool.true) }) (v := undef) rfl (by kernel_rfl) (by kernel_rfl) (by kernel_rfl) (fun _ _ _ h => h) (Or.inr ⟨by rfl, rfl⟩) (by assumption) ?_
   try simp only [Act.put, List.setIfInBounds_toArray, List.set_cons_zero, List.set_cons_succ]
   refine wpAnyH_take (i := 21) (oi := { dst := Option.some 30, op := Go.Op.binOp Go.BinOp.eql 194 (Go.Operand.tmp 26) (Go.Operand.tmp 29) 194, type := 4, pos := "wire.go:123", after := #[{ on := 17, ground := Go.Ground.data }, { on := 20, ground := Go.Ground.data }, { on := 14, ground := Go.Ground.guard }], guard := Option.some (14, Bool.true) }) (v := undef) rfl (by kernel_rfl) (by kernel_rfl) (by kernel_rfl) (fun _ _ _ h => h) (Or.inr ⟨by rfl, rfl⟩) (by assumption) ?_
   try simp only [Act.put, List.setIfInBounds_toArray, List.set_cons_zero, List.set_cons_succ]
   refine wpAnyH_take (i := 22) (oi := { dst := Option.some 31, op := Go.Op.pick (Go.Operand.tmp 23) (Go.Operand.tmp 30) (Go.Operand.const (Go.Value.bool Bool.false)), type := 4, pos := "wire.go:123", after := #[{ on := 14, ground := Go.Ground.data }, { on := 21, ground := Go.Ground.data }], guard := Option.none }) (v := ?_) rfl (by kernel_rfl) (by kernel_rfl) (by kernel_rfl) (fun _ _ _ h => h) (Or.inl ⟨by rfl, ?_⟩) (by assumption) ?_
   rotate_left
   · (intro w _; go_simp; try with_reducible rfl)
   try simp only [Act.put, List.setIfInBounds_toArray, List.set_cons_zero, List.set_cons_succ]
   refine wpAnyH_take (i := 23) (oi := { dst := Option.some 5, op := Go.Op.assign (Go.Operand.tmp 31), type := 4, pos := "wire.go:123", after := #[{ on := 22, ground := Go.Ground.data }, { on := 20, ground := Go.Ground.chain }, { on := 0, ground := Go.Ground.phase }, { on := 1, ground := Go.Ground.phase }, { on := 2, ground := Go.Ground.phase }, { on := 3, ground := Go.Ground.phase }, { on := 4, ground := Go.Ground.phase }, { on := 5, ground := Go.Ground.phase }, { on := 6, ground := Go.Ground.phase }, { on := 7, ground := Go.Ground.phase }, { on := 8, ground := Go.Ground.phase }, { on := 9, ground := Go.Ground.phase }, { on := 10, ground := Go.Ground.phase }, { on := 11, ground := Go.Ground.phase }, { on := 12, ground := Go.Ground.phase }, { on := 13, ground := Go.Ground.phase }, { on := 14, ground := Go.Ground.phase }, { on := 15, ground := Go.Ground.phase }, { on := 16, ground := Go.Ground.phase }, { on := 17, ground := Go.Ground.phase }, { on := 18, ground := Go.Ground.phase }, { on := 19, ground := Go.Ground.phase }, { on := 20, ground := Go.Ground.phase }, { on := 21, ground := Go.Ground.phase }, { on := 22, ground := Go.Ground.phase }], guard := Option.none }) (v := ?_) rfl (by kernel_rfl) (by kernel_rfl) (by kernel_rfl) (fun _ _ _ h => h) (Or.inl ⟨by rfl, ?_⟩) (by assumption) ?_
   rotate_left
   · (intro w _; go_simp; try with_reducible rfl)
   try simp only [Act.put, List.setIfInBounds_toArray, List.set_cons_zero, List.set_cons_succ]
   refine wpAnyH_done (by kernel_rfl) ?_ _
   go_wp2_with fail
   go_ret2
   exact ⟨by rw [HEB2.out, h1]; simp [wn], HBD.out⟩
 | true =>
   refine wpAnyH_take (i := 5) (oi := { dst := Option.some 14, op := Go.Op.move (Go.Operand.tmp 0), type := 41, pos := "wire.go:123", after := #[{ on := 4, ground := Go.Ground.guard }], guard := Option.some (4, Bool.true) }) (v := ?_) rfl (by kernel_rfl) (by kernel_rfl) (by kernel_rfl) (fun _ _ _ h => h) (Or.inl ⟨by rfl, ?_⟩) (by assumption) ?_
   rotate_left
   · (intro w _; go_simp; try with_reducible rfl)
   try simp only [Act.put, List.setIfInBounds_toArray, List.set_cons_zero, List.set_cons_succ]
   refine wpAnyH_take (i := 6) (oi := { dst := Option.some 15, op := Go.Op.indexAddr 41 (Go.Operand.tmp 14) (Go.Operand.const (Go.Value.int Go.IntKind.i64 1)), type := 0, pos := "wire.go:123", after := #[{ on := 5, ground := Go.Ground.data }, { on := 4, ground := Go.Ground.guard }], guard := Option.some (4, Bool.true) }) (v := ?_) rfl (by kernel_rfl) (by kernel_rfl) (by kernel_rfl) (fun _ _ _ h => h) (Or.inl ⟨by rfl, ?_⟩) (by assumption) ?_
   rotate_left
   · (intro w _; go_simp; try with_reducible rfl)
   try simp only [Act.put, List.setIfInBounds_toArray, List.set_cons_zero, List.set_cons_succ]
   refine wpAnyH_take (i := 7) (oi := { dst := Option.some 16, op := Go.Op.load 5 (Go.Operand.tmp 15), type := 5, pos := "wire.go:123", after := #[{ on := 6, ground := Go.Ground.data }, { on := 4, ground := Go.Ground.guard }], guard := Option.some (4, Bool.true) }) (v := ?_) rfl (by kernel_rfl) (by kernel_rfl) (by kernel_rfl) (fun _ _ _ h => h) (Or.inl ⟨by rfl, ?_⟩) (by assumption) ?_
   rotate_left
   · (intro w hSw; (try dsimp only at hSw); obtain ⟨hS0, hS1⟩ := hSw; go_simp; try with_reducible rfl)
   try simp only [Act.put, List.setIfInBounds_toArray, List.set_cons_zero, List.set_cons_succ]
   refine wpAnyH_take (i := 8) (oi := { dst := Option.some 17, op := Go.Op.binOp Go.BinOp.eql 5 (Go.Operand.tmp 16) (Go.Operand.const (Go.Value.int Go.IntKind.u8 58)) 5, type := 4, pos := "wire.go:123", after := #[{ on := 7, ground := Go.Ground.data }, { on := 4, ground := Go.Ground.guard }], guard := Option.some (4, Bool.true) }) (v := ?_) rfl (by kernel_rfl) (by kernel_rfl) (by kernel_rfl) (fun _ _ _ h => h) (Or.inl ⟨by rfl, ?_⟩) (by assumption) ?_
   rotate_left
   · (intro w _; go_simp; try with_reducible rfl)
   try simp only [Act.put, List.setIfInBounds_toArray, List.set_cons_zero, List.set_cons_succ]
   refine wpAnyH_take (i := 9) (oi := { dst := Option.some 18, op := Go.Op.pick (Go.Operand.tmp 13) (Go.Operand.tmp 17) (Go.Operand.const (Go.Value.bool Bool.false)), type := 4, pos := "wire.go:123", after := #[{ on := 4, ground := Go.Ground.data }, { on := 8, ground := Go.Ground.data }], guard := Option.none }) (v := ?_) rfl (by kernel_rfl) (by kernel_rfl) (by kernel_rfl) (fun _ _ _ h => h) (Or.inl ⟨by rfl, ?_⟩) (by assumption) ?_
   rotate_left
   · (intro w _; go_simp; try with_reducible rfl)
   try simp only [Act.put, List.setIfInBounds_toArray, List.set_cons_zero, List.set_cons_succ]
   refine wpAnyH_take (i := 10) (oi := { dst := Option.some 19, op := Go.Op.move (Go.Operand.tmp 18), type := 4, pos := "wire.go:123", after := #[{ on := 9, ground := Go.Ground.data }, { on := 4, ground := Go.Ground.chain }], guard := Option.none }) (v := ?_) rfl (by kernel_rfl) (by kernel_rfl) (by kernel_rfl) (fun _ _ _ h => h) (Or.inl ⟨by rfl, ?_⟩) (by assumption) ?_
   rotate_left
   · (intro w _; go_simp; try with_reducible rfl)
   try simp only [Act.put, List.setIfInBounds_toArray, List.set_cons_zero, List.set_cons_succ]
   cases h2 : ((b1 : Int) == 58) with
   | false =>
     refine wpAnyH_take (i := 11) (oi := { dst := Option.some 20, op := Go.Op.move (Go.Operand.tmp 4), type := 194, pos := "wire.go:123", after := #[{ on := 10, ground := Go.Ground.guard }], guard := Option.some (10, Bool.true) }) (v := undef) rfl (by kernel_rfl) (by kernel_rfl) (by kernel_rfl) (fun _ _ _ h => h) (Or.inr ⟨by rfl, rfl⟩) (by assumption) ?_
     try simp only [Act.put, List.setIfInBounds_toArray, List.set_cons_zero, List.set_cons_succ]
     refine wpAnyH_take (i := 12) (oi := { dst := Option.some 21, op := Go.Op.binOp Go.BinOp.leq 194 (Go.Operand.tmp 20) (Go.Operand.const (Go.Value.int Go.IntKind.u32 262144)) 194, type := 4, pos := "wire.go:123", after := #[{ on := 11, ground := Go.Ground.data }, { on := 10, ground := Go.Ground.guard }], guard := Option.some (10, Bool.true) }) (v := undef) rfl (by kernel_rfl) (by kernel_rfl) (by kernel_rfl) (fun _ _ _ h => h) (Or.inr ⟨by rfl, rfl⟩) (by assumption) ?_
     try simp only [Act.put, List.setIfInBounds_toArray, List.set_cons_zero, List.set_cons_succ]
     refine wpAnyH_take (i := 13) (oi := { dst := Option.some 22, op := Go.Op.pick (Go.Operand.tmp 19) (Go.Operand.tmp 21) (Go.Operand.const (Go.Value.bool Bool.false)), type := 4, pos := "wire.go:123", after := #[{ on := 10, ground := Go.Ground.data }, { on := 12, ground := Go.Ground.data }], guard := Option.none }) (v := ?_) rfl (by kernel_rfl) (by kernel_rfl) (by kernel_rfl) (fun _ _ _ h => h) (Or.inl ⟨by rfl, ?_⟩) (by assumption) ?_
     rotate_left
     · (intro w _; go_simp; try with_reducible rfl)
     try simp only [Act.put, List.setIfInBounds_toArray, List.set_cons_zero, List.set_cons_succ]
     refine wpAnyH_take (i := 14) (oi := { dst := Option.some 23, op := Go.Op.move (Go.Operand.tmp 22), type := 4, pos := "wire.go:123", after := #[{ on := 13, ground := Go.Ground.data }, { on := 10, ground := Go.Ground.chain }], guard := Option.none }) (v := ?_) rfl (by kernel_rfl) (by kernel_rfl) (by kernel_rfl) (fun _ _ _ h => h) (Or.inl ⟨by rfl, ?_⟩) (by assumption) ?_
     rotate_left
     · (intro w _; go_simp; try with_reducible rfl)
     try simp only [Act.put, List.setIfInBounds_toArray, List.set_cons_zero, List.set_cons_succ]
     refine wpAnyH_take (i := 15) (oi := { dst := Option.some 24, op := Go.Op.move (Go.Operand.tmp 0), type := 41, pos := "wire.go:123", after := #[{ on := 14, ground := Go.Ground.guard }], guard := Option.some (14, Bool.true) }) (v := undef) rfl (by kernel_rfl) (by kernel_rfl) (by kernel_rfl) (fun _ _ _ h => h) (Or.inr ⟨by rfl, rfl⟩) (by assumption) ?_
     try simp only [Act.put, List.setIfInBounds_toArray, List.set_cons_zero, List.set_cons_succ]
     refine wpAnyH_take (i := 16) (oi := { dst := Option.some 25, op := Go.Op.slice 41 (Go.Operand.tmp 24) (Option.some (Go.Operand.const (Go.Value.int Go.IntKind.i64 6))) Option.none Option.none, type := 41, pos := "wire.go:123", after := #[{ on := 15, ground := Go.Ground.data }, { on := 14, ground := Go.Ground.guard }], guard := Option.some (14, Bool.true) }) (v := undef) rfl (by kernel_rfl) (by kernel_rfl) (by kernel_rfl) (fun _ _ _ h => h) (Or.inr ⟨by rfl, rfl⟩) (by assumption) ?_
     try simp only [Act.put, List.setIfInBounds_toArray, List.set_cons_zero, List.set_cons_succ]
     refine wpAnyH_take (i := 17) (oi := { dst := Option.some 26, op := Go.Op.call { callee := Go.Callee.value (Go.Operand.func 169), args := #[Go.Operand.tmp 25], argTypes := #[41] }, type := 194, pos := "wire.go:123", after := #[{ on := 16, ground := Go.Ground.data }, { on := 14, ground := Go.Ground.chain }, { on := 14, ground := Go.Ground.guard }], guard := Option.some (14, Bool.true) }) (v := undef) rfl (by kernel_rfl) (by kernel_rfl) (by kernel_rfl) (fun _ _ _ h => h) (Or.inr ⟨by rfl, rfl⟩) (by assumption) ?_
     try simp only [Act.put, List.setIfInBounds_toArray, List.set_cons_zero, List.set_cons_succ]
     refine wpAnyH_take (i := 18) (oi := { dst := Option.some 27, op := Go.Op.move (Go.Operand.tmp 0), type := 41, pos := "wire.go:123", after := #[{ on := 14, ground := Go.Ground.guard }], guard := Option.some (14, Bool.true) }) (v := undef) rfl (by kernel_rfl) (by kernel_rfl) (by kernel_rfl) (fun _ _ _ h => h) (Or.inr ⟨by rfl, rfl⟩) (by assumption) ?_
     try simp only [Act.put, List.setIfInBounds_toArray, List.set_cons_zero, List.set_cons_succ]
     refine wpAnyH_take (i := 19) (oi := { dst := Option.some 28, op := Go.Op.slice 41 (Go.Operand.tmp 27) Option.none (Option.some (Go.Operand.const (Go.Value.int Go.IntKind.i64 6))) Option.none, type := 41, pos := "wire.go:123", after := #[{ on := 18, ground := Go.Ground.data }, { on := 14, ground := Go.Ground.guard }], guard := Option.some (14, Bool.true) }) (v := undef) rfl (by kernel_rfl) (by kernel_rfl) (by kernel_rfl) (fun _ _ _ h => h) (Or.inr ⟨by rfl, rfl⟩) (by assumption) ?_
     try simp only [Act.put, List.setIfInBounds_toArray, List.set_cons_zero, List.set_cons_succ]
     refine wpAnyH_take (i := 20) (oi := { dst := Option.some 29, op := Go.Op.call { callee := Go.Callee.value (Go.Operand.func 125), args := #[Go.Operand.tmp 28], argTypes := #[41] }, type := 194, pos := "wire.go:123", after := #[{ on := 19, ground := Go.Ground.data }, { on := 17, ground := Go.Ground.chain }, { on := 14, ground := Go.Ground.guard }], guard := Option.some (14, Bool.true) }) (v := undef) rfl (by kernel_rfl) (by kernel_rfl) (by kernel_rfl) (fun _ _ _ h => h) (Or.inr ⟨by rfl, rfl⟩) (by assumption) ?_
     try simp only [Act.put, List.setIfInBounds_toArray, List.set_cons_zero, List.set_cons_succ]
     refine wpAnyH_take (i := 21) (oi := { dst := Option.some 30, op := Go.Op.binOp Go.BinOp.eql 194 (Go.Operand.tmp 26) (Go.Operand.tmp 29) 194, type := 4, pos := "wire.go:123", after := #[{ on := 17, ground := Go.Ground.data }, { on := 20, ground := Go.Ground.data }, { on := 14, ground := Go.Ground.guard }], guard := Option.some (14, Bool.true) }) (v := undef) rfl (by kernel_rfl) (by kernel_rfl) (by kernel_rfl) (fun _ _ _ h => h) (Or.inr ⟨by rfl, rfl⟩) (by assumption) ?_
     try simp only [Act.put, List.setIfInBounds_toArray, List.set_cons_zero, List.set_cons_succ]
     refine wpAnyH_take (i := 22) (oi := { dst := Option.some 31, op := Go.Op.pick (Go.Operand.tmp 23) (Go.Operand.tmp 30) (Go.Operand.const (Go.Value.bool Bool.false)), type := 4, pos := "wire.go:123", after := #[{ on := 14, ground := Go.Ground.data }, { on := 21, ground := Go.Ground.data }], guard := Option.none }) (v := ?_) rfl (by kernel_rfl) (by kernel_rfl) (by kernel_rfl) (fun _ _ _ h => h) (Or.inl ⟨by rfl, ?_⟩) (by assumption) ?_
     rotate_left
     · (intro w _; go_simp; try with_reducible rfl)
     try simp only [Act.put, List.setIfInBounds_toArray, List.set_cons_zero, List.set_cons_succ]
     refine wpAnyH_take (i := 23) (oi := { dst := Option.some 5, op := Go.Op.assign (Go.Operand.tmp 31), type := 4, pos := "wire.go:123", after := #[{ on := 22, ground := Go.Ground.data }, { on := 20, ground := Go.Ground.chain }, { on := 0, ground := Go.Ground.phase }, { on := 1, ground := Go.Ground.phase }, { on := 2, ground := Go.Ground.phase }, { on := 3, ground := Go.Ground.phase }, { on := 4, ground := Go.Ground.phase }, { on := 5, ground := Go.Ground.phase }, { on := 6, ground := Go.Ground.phase }, { on := 7, ground := Go.Ground.phase }, { on := 8, ground := Go.Ground.phase }, { on := 9, ground := Go.Ground.phase }, { on := 10, ground := Go.Ground.phase }, { on := 11, ground := Go.Ground.phase }, { on := 12, ground := Go.Ground.phase }, { on := 13, ground := Go.Ground.phase }, { on := 14, ground := Go.Ground.phase }, { on := 15, ground := Go.Ground.phase }, { on := 16, ground := Go.Ground.phase }, { on := 17, ground := Go.Ground.phase }, { on := 18, ground := Go.Ground.phase }, { on := 19, ground := Go.Ground.phase }, { on := 20, ground := Go.Ground.phase }, { on := 21, ground := Go.Ground.phase }, { on := 22, ground := Go.Ground.phase }], guard := Option.none }) (v := ?_) rfl (by kernel_rfl) (by kernel_rfl) (by kernel_rfl) (fun _ _ _ h => h) (Or.inl ⟨by rfl, ?_⟩) (by assumption) ?_
     rotate_left
     · (intro w _; go_simp; try with_reducible rfl)
     try simp only [Act.put, List.setIfInBounds_toArray, List.set_cons_zero, List.set_cons_succ]
     refine wpAnyH_done (by kernel_rfl) ?_ _
     go_wp2_with fail
     go_ret2
     exact ⟨by rw [HEB2.out, h1, h2]; simp [wn], HBD.out⟩
   | true =>
     refine wpAnyH_take (i := 11) (oi := { dst := Option.some 20, op := Go.Op.move (Go.Operand.tmp 4), type := 194, pos := "wire.go:123", after := #[{ on := 10, ground := Go.Ground.guard }], guard := Option.some (10, Bool.true) }) (v := ?_) rfl (by kernel_rfl) (by kernel_rfl) (by kernel_rfl) (fun _ _ _ h => h) (Or.inl ⟨by rfl, ?_⟩) (by assumption) ?_
     rotate_left
     · (intro w _; go_simp; try with_reducible rfl)
     try simp only [Act.put, List.setIfInBounds_toArray, List.set_cons_zero, List.set_cons_succ]
     refine wpAnyH_take (i := 12) (oi := { dst := Option.some 21, op := Go.Op.binOp Go.BinOp.leq 194 (Go.Operand.tmp 20) (Go.Operand.const (Go.Value.int Go.IntKind.u32 262144)) 194, type := 4, pos := "wire.go:123", after := #[{ on := 11, ground := Go.Ground.data }, { on := 10, ground := Go.Ground.guard }], guard := Option.some (10, Bool.true) }) (v := ?_) rfl (by kernel_rfl) (by kernel_rfl) (by kernel_rfl) (fun _ _ _ h => h) (Or.inl ⟨by rfl, ?_⟩) (by assumption) ?_
     rotate_left
     · (intro w _; go_simp; try with_reducible rfl)
     try simp only [Act.put, List.setIfInBounds_toArray, List.set_cons_zero, List.set_cons_succ]
     refine wpAnyH_take (i := 13) (oi := { dst := Option.some 22, op := Go.Op.pick (Go.Operand.tmp 19) (Go.Operand.tmp 21) (Go.Operand.const (Go.Value.bool Bool.false)), type := 4, pos := "wire.go:123", after := #[{ on := 10, ground := Go.Ground.data }, { on := 12, ground := Go.Ground.data }], guard := Option.none }) (v := ?_) rfl (by kernel_rfl) (by kernel_rfl) (by kernel_rfl) (fun _ _ _ h => h) (Or.inl ⟨by rfl, ?_⟩) (by assumption) ?_
     rotate_left
     · (intro w _; go_simp; try with_reducible rfl)
     try simp only [Act.put, List.setIfInBounds_toArray, List.set_cons_zero, List.set_cons_succ]
     refine wpAnyH_take (i := 14) (oi := { dst := Option.some 23, op := Go.Op.move (Go.Operand.tmp 22), type := 4, pos := "wire.go:123", after := #[{ on := 13, ground := Go.Ground.data }, { on := 10, ground := Go.Ground.chain }], guard := Option.none }) (v := ?_) rfl (by kernel_rfl) (by kernel_rfl) (by kernel_rfl) (fun _ _ _ h => h) (Or.inl ⟨by rfl, ?_⟩) (by assumption) ?_
     rotate_left
     · (intro w _; go_simp; try with_reducible rfl)
     try simp only [Act.put, List.setIfInBounds_toArray, List.set_cons_zero, List.set_cons_succ]
     cases h3 : decide ((n : Int) ≤ 262144) with
     | false =>
       refine wpAnyH_take (i := 15) (oi := { dst := Option.some 24, op := Go.Op.move (Go.Operand.tmp 0), type := 41, pos := "wire.go:123", after := #[{ on := 14, ground := Go.Ground.guard }], guard := Option.some (14, Bool.true) }) (v := undef) rfl (by kernel_rfl) (by kernel_rfl) (by kernel_rfl) (fun _ _ _ h => h) (Or.inr ⟨by rfl, rfl⟩) (by assumption) ?_
       try simp only [Act.put, List.setIfInBounds_toArray, List.set_cons_zero, List.set_cons_succ]
       refine wpAnyH_take (i := 16) (oi := { dst := Option.some 25, op := Go.Op.slice 41 (Go.Operand.tmp 24) (Option.some (Go.Operand.const (Go.Value.int Go.IntKind.i64 6))) Option.none Option.none, type := 41, pos := "wire.go:123", after := #[{ on := 15, ground := Go.Ground.data }, { on := 14, ground := Go.Ground.guard }], guard := Option.some (14, Bool.true) }) (v := undef) rfl (by kernel_rfl) (by kernel_rfl) (by kernel_rfl) (fun _ _ _ h => h) (Or.inr ⟨by rfl, rfl⟩) (by assumption) ?_
       try simp only [Act.put, List.setIfInBounds_toArray, List.set_cons_zero, List.set_cons_succ]
       refine wpAnyH_take (i := 17) (oi := { dst := Option.some 26, op := Go.Op.call { callee := Go.Callee.value (Go.Operand.func 169), args := #[Go.Operand.tmp 25], argTypes := #[41] }, type := 194, pos := "wire.go:123", after := #[{ on := 16, ground := Go.Ground.data }, { on := 14, ground := Go.Ground.chain }, { on := 14, ground := Go.Ground.guard }], guard := Option.some (14, Bool.true) }) (v := undef) rfl (by kernel_rfl) (by kernel_rfl) (by kernel_rfl) (fun _ _ _ h => h) (Or.inr ⟨by rfl, rfl⟩) (by assumption) ?_
       try simp only [Act.put, List.setIfInBounds_toArray, List.set_cons_zero, List.set_cons_succ]
       refine wpAnyH_take (i := 18) (oi := { dst := Option.some 27, op := Go.Op.move (Go.Operand.tmp 0), type := 41, pos := "wire.go:123", after := #[{ on := 14, ground := Go.Ground.guard }], guard := Option.some (14, Bool.true) }) (v := undef) rfl (by kernel_rfl) (by kernel_rfl) (by kernel_rfl) (fun _ _ _ h => h) (Or.inr ⟨by rfl, rfl⟩) (by assumption) ?_
       try simp only [Act.put, List.setIfInBounds_toArray, List.set_cons_zero, List.set_cons_succ]
       refine wpAnyH_take (i := 19) (oi := { dst := Option.some 28, op := Go.Op.slice 41 (Go.Operand.tmp 27) Option.none (Option.some (Go.Operand.const (Go.Value.int Go.IntKind.i64 6))) Option.none, type := 41, pos := "wire.go:123", after := #[{ on := 18, ground := Go.Ground.data }, { on := 14, ground := Go.Ground.guard }], guard := Option.some (14, Bool.true) }) (v := undef) rfl (by kernel_rfl) (by kernel_rfl) (by kernel_rfl) (fun _ _ _ h => h) (Or.inr ⟨by rfl, rfl⟩) (by assumption) ?_
       try simp only [Act.put, List.setIfInBounds_toArray, List.set_cons_zero, List.set_cons_succ]
       refine wpAnyH_take (i := 20) (oi := { dst := Option.some 29, op := Go.Op.call { callee := Go.Callee.value (Go.Operand.func 125), args := #[Go.Operand.tmp 28], argTypes := #[41] }, type := 194, pos := "wire.go:123", after := #[{ on := 19, ground := Go.Ground.data }, { on := 17, ground := Go.Ground.chain }, { on := 14, ground := Go.Ground.guard }], guard := Option.some (14, Bool.true) }) (v := undef) rfl (by kernel_rfl) (by kernel_rfl) (by kernel_rfl) (fun _ _ _ h => h) (Or.inr ⟨by rfl, rfl⟩) (by assumption) ?_
       try simp only [Act.put, List.setIfInBounds_toArray, List.set_cons_zero, List.set_cons_succ]
       refine wpAnyH_take (i := 21) (oi := { dst := Option.some 30, op := Go.Op.binOp Go.BinOp.eql 194 (Go.Operand.tmp 26) (Go.Operand.tmp 29) 194, type := 4, pos := "wire.go:123", after := #[{ on := 17, ground := Go.Ground.data }, { on := 20, ground := Go.Ground.data }, { on := 14, ground := Go.Ground.guard }], guard := Option.some (14, Bool.true) }) (v := undef) rfl (by kernel_rfl) (by kernel_rfl) (by kernel_rfl) (fun _ _ _ h => h) (Or.inr ⟨by rfl, rfl⟩) (by assumption) ?_
       try simp only [Act.put, List.setIfInBounds_toArray, List.set_cons_zero, List.set_cons_succ]
       refine wpAnyH_take (i := 22) (oi := { dst := Option.some 31, op := Go.Op.pick (Go.Operand.tmp 23) (Go.Operand.tmp 30) (Go.Operand.const (Go.Value.bool Bool.false)), type := 4, pos := "wire.go:123", after := #[{ on := 14, ground := Go.Ground.data }, { on := 21, ground := Go.Ground.data }], guard := Option.none }) (v := ?_) rfl (by kernel_rfl) (by kernel_rfl) (by kernel_rfl) (fun _ _ _ h => h) (Or.inl ⟨by rfl, ?_⟩) (by assumption) ?_
       rotate_left
       · (intro w _; go_simp; try with_reducible rfl)
       try simp only [Act.put, List.setIfInBounds_toArray, List.set_cons_zero, List.set_cons_succ]
       refine wpAnyH_take (i := 23) (oi := { dst := Option.some 5, op := Go.Op.assign (Go.Operand.tmp 31), type := 4, pos := "wire.go:123", after := #[{ on := 22, ground := Go.Ground.data }, { on := 20, ground := Go.Ground.chain }, { on := 0, ground := Go.Ground.phase }, { on := 1, ground := Go.Ground.phase }, { on := 2, ground := Go.Ground.phase }, { on := 3, ground := Go.Ground.phase }, { on := 4, ground := Go.Ground.phase }, { on := 5, ground := Go.Ground.phase }, { on := 6, ground := Go.Ground.phase }, { on := 7, ground := Go.Ground.phase }, { on := 8, ground := Go.Ground.phase }, { on := 9, ground := Go.Ground.phase }, { on := 10, ground := Go.Ground.phase }, { on := 11, ground := Go.Ground.phase }, { on := 12, ground := Go.Ground.phase }, { on := 13, ground := Go.Ground.phase }, { on := 14, ground := Go.Ground.phase }, { on := 15, ground := Go.Ground.phase }, { on := 16, ground := Go.Ground.phase }, { on := 17, ground := Go.Ground.phase }, { on := 18, ground := Go.Ground.phase }, { on := 19, ground := Go.Ground.phase }, { on := 20, ground := Go.Ground.phase }, { on := 21, ground := Go.Ground.phase }, { on := 22, ground := Go.Ground.phase }], guard := Option.none }) (v := ?_) rfl (by kernel_rfl) (by kernel_rfl) (by kernel_rfl) (fun _ _ _ h => h) (Or.inl ⟨by rfl, ?_⟩) (by assumption) ?_
       rotate_left
       · (intro w _; go_simp; try with_reducible rfl)
       try simp only [Act.put, List.setIfInBounds_toArray, List.set_cons_zero, List.set_cons_succ]
       refine wpAnyH_done (by kernel_rfl) ?_ _
       go_wp2_with fail
       go_ret2
       exact ⟨by rw [HEB2.out, h1, h2, h3]; simp [wn], HBD.out⟩
     | true =>
       refine wpAnyH_take (i := 15) (oi := { dst := Option.some 24, op := Go.Op.move (Go.Operand.tmp 0), type := 41, pos := "wire.go:123", after := #[{ on := 14, ground := Go.Ground.guard }], guard := Option.some (14, Bool.true) }) (v := ?_) rfl (by kernel_rfl) (by kernel_rfl) (by kernel_rfl) (fun _ _ _ h => h) (Or.inl ⟨by rfl, ?_⟩) (by assumption) ?_
       rotate_left
       · (intro w _; go_simp; try with_reducible rfl)
       try simp only [Act.put, List.setIfInBounds_toArray, List.set_cons_zero, List.set_cons_succ]
       refine wpAnyH_take (i := 16) (oi := { dst := Option.some 25, op := Go.Op.slice 41 (Go.Operand.tmp 24) (Option.some (Go.Operand.const (Go.Value.int Go.IntKind.i64 6))) Option.none Option.none, type := 41, pos := "wire.go:123", after := #[{ on := 15, ground := Go.Ground.data }, { on := 14, ground := Go.Ground.guard }], guard := Option.some (14, Bool.true) }) (v := ?_) rfl (by kernel_rfl) (by kernel_rfl) (by kernel_rfl) (fun _ _ _ h => h) (Or.inl ⟨by rfl, ?_⟩) (by assumption) ?_
       rotate_left
       · (intro w _; go_simp; try with_reducible rfl)
       try simp only [Act.put, List.setIfInBounds_toArray, List.set_cons_zero, List.set_cons_succ]
       refine wpAnyH_take (i := 18) (oi := { dst := Option.some 27, op := Go.Op.move (Go.Operand.tmp 0), type := 41, pos := "wire.go:123", after := #[{ on := 14, ground := Go.Ground.guard }], guard := Option.some (14, Bool.true) }) (v := ?_) rfl (by kernel_rfl) (by kernel_rfl) (by kernel_rfl) (fun _ _ _ h => h) (Or.inl ⟨by rfl, ?_⟩) (by assumption) ?_
       rotate_left
       · (intro w _; go_simp; try with_reducible rfl)
       try simp only [Act.put, List.setIfInBounds_toArray, List.set_cons_zero, List.set_cons_succ]
       refine wpAnyH_take (i := 19) (oi := { dst := Option.some 28, op := Go.Op.slice 41 (Go.Operand.tmp 27) Option.none (Option.some (Go.Operand.const (Go.Value.int Go.IntKind.i64 6))) Option.none, type := 41, pos := "wire.go:123", after := #[{ on := 18, ground := Go.Ground.data }, { on := 14, ground := Go.Ground.guard }], guard := Option.some (14, Bool.true) }) (v := ?_) rfl (by kernel_rfl) (by kernel_rfl) (by kernel_rfl) (fun _ _ _ h => h) (Or.inl ⟨by rfl, ?_⟩) (by assumption) ?_
       rotate_left
       · (intro w _; go_simp; try with_reducible rfl)
       try simp only [Act.put, List.setIfInBounds_toArray, List.set_cons_zero, List.set_cons_succ]
       refine wpAnyH_ready (rs := [17]) (by kernel_rfl) (by simp) ?_
       refine AllReadyH.cons (o := { dst := Option.some 26, op := Go.Op.call { callee := Go.Callee.value (Go.Operand.func 169), args := #[Go.Operand.tmp 25], argTypes := #[41] }, type := 194, pos := "wire.go:123", after := #[{ on := 16, ground := Go.Ground.data }, { on := 14, ground := Go.Ground.chain }, { on := 14, ground := Go.Ground.guard }], guard := Option.some (14, Bool.true) }) rfl (fun K hK => ?_) ?_
       rotate_left
       · exact AllReadyH.nil
       go_simp
       (go_at_call 169; have hcf := c_word w1.drew T6 (c - 6) L6 (Kd.C_below HT6.out HBD.out) HT6B.out HK6.out; (with_reducible refine hcf.mono ?_); clear hcf; rintro e w2 ⟨rfl, hb⟩; have HB2 := Aside0.mk (below_step HBD.out hb); have HE0 := Aside0.mk ((Below.cell HB2.out HN0.out).trans HC0.out); have HE1 := Aside0.mk ((Below.cell HB2.out (p := ⟨ad.block, ad.off + 1, none⟩) HN0.out).trans HC1.out); clear hb)
       refine hK.out _ _ ?_ (fun hHeld => ?_)
       · exact ⟨HE0.out, HE1.out⟩
       clear hK K
       try simp only [Act.put, List.setIfInBounds_toArray, List.set_cons_zero, List.set_cons_succ]
       refine wpAnyH_ready (rs := [20]) (by kernel_rfl) (by simp) ?_
       refine AllReadyH.cons (o := { dst := Option.some 29, op := Go.Op.call { callee := Go.Callee.value (Go.Operand.func 125), args := #[Go.Operand.tmp 28], argTypes := #[41] }, type := 194, pos := "wire.go:123", after := #[{ on := 19, ground := Go.Ground.data }, { on := 17, ground := Go.Ground.chain }, { on := 14, ground := Go.Ground.guard }], guard := Option.some (14, Bool.true) }) rfl (fun K hK => ?_) ?_
       rotate_left
       · exact AllReadyH.nil
       go_simp
       (go_at_call 125; have hcf := c_sum w2 (some ad) c M (Kd.C_below HTK.out HB2.out) HXB.out; (with_reducible refine hcf.mono ?_); clear hcf; rintro e w3 ⟨rfl, hb⟩; have HB3 := Aside0.mk (below_step HB2.out hb); have HG0 := Aside0.mk ((Below.cell HB3.out HN0.out).trans HC0.out); have HG1 := Aside0.mk ((Below.cell HB3.out (p := ⟨ad.block, ad.off + 1, none⟩) HN0.out).trans HC1.out); clear hb)
       refine hK.out _ _ ?_ (fun hHeld => ?_)
       · exact ⟨HG0.out, HG1.out⟩
       clear hK K
       try simp only [Act.put, List.setIfInBounds_toArray, List.set_cons_zero, List.set_cons_succ]
       refine wpAnyH_take (i := 21) (oi := { dst := Option.some 30, op := Go.Op.binOp Go.BinOp.eql 194 (Go.Operand.tmp 26) (Go.Operand.tmp 29) 194, type := 4, pos := "wire.go:123", after := #[{ on := 17, ground := Go.Ground.data }, { on := 20, ground := Go.Ground.data }, { on := 14, ground := Go.Ground.guard }], guard := Option.some (14, Bool.true) }) (v := ?_) rfl (by kernel_rfl) (by kernel_rfl) (by kernel_rfl) (fun _ _ _ h => h) (Or.inl ⟨by rfl, ?_⟩) (by assumption) ?_
       rotate_left
       · (intro w _; go_simp; try with_reducible rfl)
       try simp only [Act.put, List.setIfInBounds_toArray, List.set_cons_zero, List.set_cons_succ]
       refine wpAnyH_take (i := 22) (oi := { dst := Option.some 31, op := Go.Op.pick (Go.Operand.tmp 23) (Go.Operand.tmp 30) (Go.Operand.const (Go.Value.bool Bool.false)), type := 4, pos := "wire.go:123", after := #[{ on := 14, ground := Go.Ground.data }, { on := 21, ground := Go.Ground.data }], guard := Option.none }) (v := ?_) rfl (by kernel_rfl) (by kernel_rfl) (by kernel_rfl) (fun _ _ _ h => h) (Or.inl ⟨by rfl, ?_⟩) (by assumption) ?_
       rotate_left
       · (intro w _; go_simp; try with_reducible rfl)
       try simp only [Act.put, List.setIfInBounds_toArray, List.set_cons_zero, List.set_cons_succ]
       refine wpAnyH_take (i := 23) (oi := { dst := Option.some 5, op := Go.Op.assign (Go.Operand.tmp 31), type := 4, pos := "wire.go:123", after := #[{ on := 22, ground := Go.Ground.data }, { on := 20, ground := Go.Ground.chain }, { on := 0, ground := Go.Ground.phase }, { on := 1, ground := Go.Ground.phase }, { on := 2, ground := Go.Ground.phase }, { on := 3, ground := Go.Ground.phase }, { on := 4, ground := Go.Ground.phase }, { on := 5, ground := Go.Ground.phase }, { on := 6, ground := Go.Ground.phase }, { on := 7, ground := Go.Ground.phase }, { on := 8, ground := Go.Ground.phase }, { on := 9, ground := Go.Ground.phase }, { on := 10, ground := Go.Ground.phase }, { on := 11, ground := Go.Ground.phase }, { on := 12, ground := Go.Ground.phase }, { on := 13, ground := Go.Ground.phase }, { on := 14, ground := Go.Ground.phase }, { on := 15, ground := Go.Ground.phase }, { on := 16, ground := Go.Ground.phase }, { on := 17, ground := Go.Ground.phase }, { on := 18, ground := Go.Ground.phase }, { on := 19, ground := Go.Ground.phase }, { on := 20, ground := Go.Ground.phase }, { on := 21, ground := Go.Ground.phase }, { on := 22, ground := Go.Ground.phase }], guard := Option.none }) (v := ?_) rfl (by kernel_rfl) (by kernel_rfl) (by kernel_rfl) (fun _ _ _ h => h) (Or.inl ⟨by rfl, ?_⟩) (by assumption) ?_
       rotate_left
       · (intro w _; go_simp; try with_reducible rfl)
       try simp only [Act.put, List.setIfInBounds_toArray, List.set_cons_zero, List.set_cons_succ]
       refine wpAnyH_done (by kernel_rfl) ?_ _
       go_wp2_with fail
       go_ret2
       exact ⟨by rw [HEB2.out, h1, h2, h3]; simp [wn], HB3.out⟩
end Go.Proofs.YtmneemhplffemaaGreatDoorRR.Sum
namespace Go.Proofs.YtmneemhplffemaaGreatDoorRR.Sum
open Go.RowKit Go.Proofs.YtmneemhplffemaaGreatDoorRR.Ext Go.Proofs.YtmneemhplffemaaGreatDoorRR.Wire Go.Proofs.YtmneemhplffemaaGreatDoorRR.Mem Go.Proofs.YtmneemhplffemaaGreatDoorRR.Row Go.Proofs.YtmneemhplffemaaGreatDoorRR.Crc Go.Proofs.YtmneemhplffemaaGreatDoorRRW.PrintWords


theorem gate_copy {P : Program} {all : Array Oper} {rest : List Oper} {o : Oper} {a : Act} {Q : Exit → Act → World → Prop} {W : World} {ts : Array TypeId} {xs : Array Operand} (_ho : o.op = .call { callee := .builtin .copy, args := xs, argTypes := ts }) (h : wpList P all Q (o :: rest) a W) : wpList P all Q (o :: rest) a W := h
def bodyOf (xs : List Int) : List Int := (xs.drop 10).take (xs.length - 14)
set_option maxRecDepth 100000 in
set_option maxHeartbeats 4000000 in
theorem c_body (W : World) (A : Option Addr) (c : Nat) (xs : List Int) (hC : (Kd.int .u8).C W A xs.length xs) (h14 : 14 ≤ xs.length) (hc : xs.length ≤ c) (hl : xs.length ≤ 1000000000) :
  Calls Tryz.prog 130 #[.slice A xs.length c] W fun e W' => ∃ v, e = .returned v ∧ BRow W' W.heap.size v (bodyOf xs) ∧ Below W.heap.size W W' := by
 obtain ⟨k, hk⟩ : ∃ k, k = xs.length - 14 := ⟨_, rfl⟩
 obtain ⟨T, hT, hsl⟩ := drop_of hC 10 10 rfl (by omega) hc
 have HEK := Aside0.mk (show wrap64 ((xs.length : Int) - 14) = (k : Int) by unfold wrap64; omega)
 have HKL := Aside0.mk (show k ≤ 1000000000 by omega)
 have HBO := Aside0.mk (show bodyOf xs = (xs.drop 10).take k by rw [bodyOf, hk])
 obtain ⟨bo, hbo⟩ : ∃ bo, bodyOf xs = bo := ⟨_, rfl⟩
 rw [hbo] at HBO
 rw [hbo]
 have HLN := Aside0.mk (show (xs.drop 10).length = k + 4 by rw [List.length_drop]; omega)
 obtain ⟨L, hL⟩ : ∃ L, xs.drop 10 = L := ⟨_, rfl⟩
 rw [hL] at hT hsl HBO HLN
 have HT := Aside0.mk hT
 clear hT hC hk h14 hl hc hL hbo
 go_enter Tryz.func130, Tryz.ntmps130
 go_wp2_with (first | ((with_reducible refine gate_make (t := 41) rfl ?_); refine Kd.R_make (Kd.int .u8) (w0 := W) W.heap.size 5 rfl rfl 41 (.tmp 6) (.tmp 6) rfl (wrap64 ((xs.length : Int) - 14)) rfl rfl Tryz.underlying41 (.int .u8 0) 1 info5 rfl (by decide) (by decide) 0 (okp := fun _ => True) (ok := fun _ => True) rfl (fun _ _ => trivial) trivial (by rw [HEK.out]; omega) (by rw [HEK.out]; have := HKL.out; omega) (Below.refl _ _) (Nat.le_refl _) ?_; intro v1 w1 ho hb _ _; rw [HEK.out] at ho; have HO1 := Aside0.mk (show BRow w1 W.heap.size v1 (List.replicate k 0) from ho); have HB1 := Aside0.mk hb; clear ho hb) | ((with_reducible refine gate_copy (ts := #[41, 41]) (xs := #[.tmp 8, .tmp 10]) rfl ?_); refine Kd.R_copy (0 : Int) (w0 := W) W.heap.size rfl (.tmp 8) (.tmp 10) 41 41 5 rfl Tryz.underlying41 (by kernel_rfl) v1 (List.replicate k 0) L T L.length (c - 10) (fun _ => True) rfl rfl HO1.out (Kd.C_below HT.out HB1.out) HB1.out HB1.out.size ?_; intro w2 ho hb _; have HO2 := Aside0.mk ho; have HB2 := Aside0.mk hb; clear ho hb))
 go_ret
 refine ⟨_, rfl, ?_, HB2.out⟩
 have h := HO2.out
 rw [List.length_replicate, HLN.out, Nat.min_eq_right (by omega), List.drop_eq_nil_of_le (by simp), List.append_nil, ← HBO.out] at h
 exact h
def unOk (xs : List Int) : Bool := !decide ((xs.length : Int) < 10) && headB xs && !decide ((xs.length : Int) < (word4 (xs.drop 2) : Int) + 14) && !decide ((word4 (xs.drop 2) : Int) + 14 < (xs.length : Int)) && endsB xs
def UnRes (W : World) (xs : List Int) (e : Ending) (W' : World) : Prop := ∃ v er, e = .returned (.tuple #[v, .int .i64 er]) ∧ Below W.heap.size W W' ∧ (unOk xs = true → er = 0 ∧ BRow W' W.heap.size v (bodyOf xs)) ∧ (unOk xs = false → er ≠ 0)
set_option maxRecDepth 100000 in
set_option maxHeartbeats 4000000 in
theorem c_unframe (W : World) (A : Option Addr) (c : Nat) (xs : List Int) (hC : (Kd.int .u8).C W A xs.length xs) (hB : Bytes xs) (hc : xs.length ≤ c) (hl : xs.length ≤ 1000000000) :
   Calls Tryz.prog 85 #[.slice A xs.length c] W fun e W' => UnRes W xs e W' := by
 have HC := Aside0.mk hC
 have HB := Aside0.mk hB
 have HCC := Aside0.mk hc
 have HL := Aside0.mk hl
 obtain ⟨u, hu⟩ : ∃ u, unOk xs = u := ⟨_, rfl⟩
 have HU := Aside0.mk hu
 have HUE := Aside0.mk (show unOk xs = (!decide ((xs.length : Int) < 10) && headB xs && !decide ((xs.length : Int) < (word4 (xs.drop 2) : Int) + 14) && !decide ((word4 (xs.drop 2) : Int) + 14 < (xs.length : Int)) && endsB xs) from rfl)
 have HNL := Aside0.mk (word4_lt (bytes_drop hB 2))
 obtain ⟨n, hn⟩ : ∃ n, word4 (xs.drop 2) = n := ⟨_, rfl⟩
 have HN := Aside0.mk hn
 rw [hn] at HUE HNL
 have wn : wrap64 ((n : Int) + 14) = (n : Int) + 14 := by have := HNL.out; unfold wrap64; omega
 clear hC hB hc hl hu hn
 go_enter Tryz.func85, Tryz.ntmps85
 cases h1 : decide ((xs.length : Int) < 10) with
 | true =>
   go_wp2_with fail
   go_ret2
   exact ⟨_, _, rfl, Below.refl _ _, fun h => by rw [HUE.out, h1] at h; simp at h, fun _ => by decide⟩
 | false =>
   have HTEN := Aside0.mk (show 10 ≤ xs.length by have := of_decide_eq_false h1; omega)
   cases h2 : headB xs with
   | false =>
     go_wp2_with (go_at_call 128; have hcf := c_head W A c xs HC.out HB.out HTEN.out HCC.out; rw [HN.out, h2] at hcf; (with_reducible refine hcf.mono ?_); clear hcf; rintro e w1 ⟨rfl, hb⟩; have HB1 := Aside0.mk hb; clear hb)
     go_ret2
     exact ⟨_, _, rfl, HB1.out, fun h => by rw [HUE.out, h2] at h; simp at h, fun _ => by decide⟩
   | true =>
     cases h3 : decide ((xs.length : Int) < (n : Int) + 14) with
     | true =>
       go_wp2_with (go_at_call 128; have hcf := c_head W A c xs HC.out HB.out HTEN.out HCC.out; rw [HN.out, h2] at hcf; (with_reducible refine hcf.mono ?_); clear hcf; rintro e w1 ⟨rfl, hb⟩; have HB1 := Aside0.mk hb; clear hb)
       go_ret2
       exact ⟨_, _, rfl, HB1.out, fun h => by rw [HUE.out, h3] at h; simp at h, fun _ => by decide⟩
     | false =>
       cases h4 : decide ((n : Int) + 14 < (xs.length : Int)) with
       | true =>
         have h4' : decide ((xs.length : Int) > (n : Int) + 14) = true := h4
         go_wp2_with (go_at_call 128; have hcf := c_head W A c xs HC.out HB.out HTEN.out HCC.out; rw [HN.out, h2] at hcf; (with_reducible refine hcf.mono ?_); clear hcf; rintro e w1 ⟨rfl, hb⟩; have HB1 := Aside0.mk hb; clear hb)
         go_ret2
         exact ⟨_, _, rfl, HB1.out, fun h => by rw [HUE.out, h4] at h; simp at h, fun _ => by decide⟩
       | false =>
         have h4' : decide ((xs.length : Int) > (n : Int) + 14) = false := h4
         have H14 := Aside0.mk (show 14 ≤ xs.length by have := of_decide_eq_false h3; omega)
         cases h5 : endsB xs with
         | false =>
           go_wp2_with (first | (go_at_call 128; have hcf := c_head W A c xs HC.out HB.out HTEN.out HCC.out; rw [HN.out, h2] at hcf; (with_reducible refine hcf.mono ?_); clear hcf; rintro e w1 ⟨rfl, hb⟩; have HB1 := Aside0.mk hb; clear hb) | (go_at_call 129; have hcf := c_tail w1 A c xs (Kd.C_below HC.out HB1.out) HB.out (Nat.le_trans (by decide) H14.out) HCC.out; rw [h5] at hcf; (with_reducible refine hcf.mono ?_); clear hcf; rintro e w2 ⟨rfl, hb⟩; have HB2 := Aside0.mk (below_step HB1.out hb); clear hb))
           go_ret2
           exact ⟨_, _, rfl, HB2.out, fun h => by rw [HUE.out, h5] at h; simp at h, fun _ => by decide⟩
         | true =>
           go_wp2_with (first | (go_at_call 128; have hcf := c_head W A c xs HC.out HB.out HTEN.out HCC.out; rw [HN.out, h2] at hcf; (with_reducible refine hcf.mono ?_); clear hcf; rintro e w1 ⟨rfl, hb⟩; have HB1 := Aside0.mk hb; clear hb) | (go_at_call 129; have hcf := c_tail w1 A c xs (Kd.C_below HC.out HB1.out) HB.out (Nat.le_trans (by decide) H14.out) HCC.out; rw [h5] at hcf; (with_reducible refine hcf.mono ?_); clear hcf; rintro e w2 ⟨rfl, hb⟩; have HB2 := Aside0.mk (below_step HB1.out hb); clear hb) | (go_at_call 130; have hcf := c_body w2 A c xs (Kd.C_below HC.out HB2.out) H14.out HCC.out HL.out; (with_reducible refine hcf.mono ?_); clear hcf; rintro e w3 ⟨v3, rfl, ho, hb⟩; have HO3 := Aside0.mk (Kd.R_lower ho HB2.out.size); have HB3 := Aside0.mk (below_step HB2.out hb); clear ho hb))
           go_ret2
           exact ⟨_, _, rfl, HB3.out, fun _ => ⟨rfl, HO3.out⟩, fun h => by rw [HUE.out, h1, h2, h3, h4, h5] at h; simp at h⟩
end Go.Proofs.YtmneemhplffemaaGreatDoorRR.Sum
namespace Go.Proofs.YtmneemhplffemaaGreatDoorRR.Mem
open Go.RowKit Go.Proofs.YtmneemhplffemaaGreatDoorRR.Ext Go.Proofs.YtmneemhplffemaaGreatDoorRR.Wire Go.Proofs.YtmneemhplffemaaGreatDoorRRW.PrintWords
theorem below_le {B : Nat} {w W : World} (h : Below w.heap.size w W) (hB : B ≤ w.heap.size) : Below B w W := h.mono hB
set_option maxRecDepth 100000 in
theorem wnum (x : Int) (h0 : 0 ≤ x) (h1 : x ≤ 2147483647) (W : World) (base g : Nat) (v : Value) (bs : List Int) (hp : Pen 127 W base g v bs) (hl : bs.length + 5 ≤ 140737488355328) :
  Calls Tryz.prog 61 #[.pointer (some ⟨g, 0, none⟩), .int .i64 x] W fun e W' => e = .returned (.tuple #[]) ∧ Wrote 127 W W' base g v (bs ++ encNum x) := by
 obtain ⟨n, rfl⟩ := Int.eq_ofNat_of_zero_le h0
 have HP := Aside0.mk hp
 have hcell := hp.cell
 have hfree := hp.free
 clear hp
 go_enter Tryz.func61, Tryz.ntmps61
 go_wp2_with (first | (go_at_call 101; (with_reducible refine (number_any n (by omega) _).mono ?_); rintro e w1 ⟨bv, rfl, ho, hb⟩; have HO := Aside0.mk ho; have HB := Aside0.mk hb; have hc1 := (HP.out.below hb).cell; have hf1 := (HP.out.below hb).free; obtain ⟨A1, c1, rfl, hr1⟩ := own_reads (Kd.own_of_R ho); have HR := Aside0.mk hr1; clear ho hb hr1 hcell hfree) | ((with_reducible refine gate_builtin (b := .append) (xs := #[.tmp 19, .tmp 20]) rfl ?_); at_builtin; refine print_append_row (w0 := W) base rfl (.tmp 19) (.tmp 20) 41 5 .u8 1 rfl Tryz.underlying41 info5 (by decide) v bs _ A1 _ c1 rfl rfl (HP.out.below HB.out).own HR.out ?aB ?aS ?aL ?_; (case aB => exact below_le HB.out HP.out.size); (case aS => exact (HP.out.below HB.out).size); (case aL => have := encNum_len (n : Int); omega); intro v2 w2 ho2 _ hg2 hat2; obtain ⟨A2, c2, rfl⟩ := own_slice ho2; have hc2 : w2.cell? ⟨g, 0, none⟩ = some v := blk_cell (blk_grown (HP.out.below HB.out).blk hg2 HP.out.ne) 0; have hf2 := blk_frozen (blk_grown (HP.out.below HB.out).blk hg2 HP.out.ne) 0; have HW := Aside0.mk (Wrote.put HP.out HB.out ho2 hg2 hat2); clear ho2 hg2 hat2 hc1 hf1))
 go_end0
 exact ⟨rfl, by simpa only [List.length_append] using HW.out⟩
set_option maxRecDepth 100000 in
theorem wtxt (s : ByteArray) (h0 : s.size ≤ 262144) (W : World) (base g : Nat) (v : Value) (bs : List Int) (hp : Pen 127 W base g v bs) (hl : bs.length + (s.size + 5) ≤ 140737488355328) :
  Calls Tryz.prog 165 #[.pointer (some ⟨g, 0, none⟩), .string s] W fun e W' => e = .returned (.tuple #[]) ∧ Wrote 127 W W' base g v (bs ++ encTxt s) := by
 have HP := Aside0.mk hp
 have hcell := hp.cell
 have hfree := hp.free
 clear hp
 go_enter Tryz.func165, Tryz.ntmps165
 go_wp2_with (first | (go_at_call 226; (with_reducible refine (text_any s h0 _).mono ?_); rintro e w1 ⟨bv, rfl, ho, hb⟩; have HO := Aside0.mk ho; have HB := Aside0.mk hb; have hc1 := (HP.out.below hb).cell; have hf1 := (HP.out.below hb).free; obtain ⟨A1, c1, rfl, hr1⟩ := own_reads (Kd.own_of_R ho); have HR := Aside0.mk hr1; clear ho hb hr1 hcell hfree) | ((with_reducible refine gate_builtin (b := .append) (xs := #[.tmp 19, .tmp 20]) rfl ?_); at_builtin; refine print_append_row (w0 := W) base rfl (.tmp 19) (.tmp 20) 41 5 .u8 1 rfl Tryz.underlying41 info5 (by decide) v bs _ A1 _ c1 rfl rfl (HP.out.below HB.out).own HR.out ?aB ?aS ?aL ?_; (case aB => exact below_le HB.out HP.out.size); (case aS => exact (HP.out.below HB.out).size); (case aL => have := encNum_len (s.size : Int); simp only [encTxt, List.length_append, bytesOf_length]; omega); intro v2 w2 ho2 _ hg2 hat2; obtain ⟨A2, c2, rfl⟩ := own_slice ho2; have hc2 : w2.cell? ⟨g, 0, none⟩ = some v := blk_cell (blk_grown (HP.out.below HB.out).blk hg2 HP.out.ne) 0; have hf2 := blk_frozen (blk_grown (HP.out.below HB.out).blk hg2 HP.out.ne) 0; have HW := Aside0.mk (Wrote.put HP.out HB.out ho2 hg2 hat2); clear ho2 hg2 hat2 hc1 hf1))
 go_end0
 exact ⟨rfl, by simpa only [List.length_append] using HW.out⟩
structure Pend (T : Nat) (W0 W : World) (base g : Nat) (v0 v : Value) (bs : List Int) (B : Nat → Obj → Prop) : Prop where mk ::
 pen : Pen T W base g v bs
 mov : Moved W0 W (pens g v0)
 keep : ∀ k, pens g v k → pens g v0 k ∨ W0.heap.size ≤ k
 box : ∀ k o, B k o → W.heap[k]? = some o ∧ ¬ pens g v k
theorem Pend.begin_ {T : Nat} {W : World} {base g : Nat} {v : Value} {bs : List Int} (h : Pen T W base g v bs) : Pend T W W base g v v bs (fun _ _ => False) :=
 ⟨h, Moved.refl _ _, fun _ hk => .inl hk, fun _ _ hk => hk.elim⟩
theorem Pend.lay {T : Nat} {W0 W : World} {base g : Nat} {v0 v : Value} {bs : List Int} {B : Nat → Obj → Prop} (h : Pend T W0 W base g v0 v bs B) (o : Obj) : Pend T W0 (W.alloc o) base g v0 v bs (fun k o' => B k o' ∨ (k = W.heap.size ∧ o' = o)) := by
 refine ⟨h.pen.alloc o, h.mov.alloc o, h.keep, fun k o' hk => ?_⟩
 rcases hk with hk | ⟨rfl, rfl⟩
 · have h1 := h.box k o' hk
   exact ⟨blk_below (below_alloc (Below.refl _ _) o) h1.1, h1.2⟩
 · exact ⟨blk_alloc _, fun hp => by have := h.pen.lt _ hp; omega⟩
theorem Pend.less {T : Nat} {W0 W : World} {base g : Nat} {v0 v : Value} {bs : List Int} {B B' : Nat → Obj → Prop} (h : Pend T W0 W base g v0 v bs B) (hB : ∀ k o, B' k o → B k o) : Pend T W0 W base g v0 v bs B' := ⟨h.pen, h.mov, h.keep, fun k o hk => h.box k o (hB k o hk)⟩
theorem Pend.step {T : Nat} {W0 W W1 : World} {base g : Nat} {v0 v : Value} {bs bs1 : List Int} {B : Nat → Obj → Prop} (h : Pend T W0 W base g v0 v bs B) (hw : Wrote T W W1 base g v bs1) : ∃ v1, Pend T W0 W1 base g v0 v1 bs1 B := by
 obtain ⟨v1, hp, hm, hk⟩ := hw
 refine ⟨v1, hp, h.mov.trans hm (fun k hl hs => (h.keep k hs).resolve_right (by omega)), fun k hs => ?_, fun k o hB => ?_⟩
 · rcases hk k hs with h1 | h1
   · exact h.keep k h1
   · exact .inr (Nat.le_trans h.mov.size h1)
 · obtain ⟨h1, h2⟩ := h.box k o hB
   refine ⟨hm.blk h1 h2, fun hs => ?_⟩
   rcases hk k hs with h3 | h3
   · exact h2 h3
   · have := blk_lt h1
     omega
theorem Pend.wrote {T : Nat} {W0 W : World} {base g : Nat} {v0 v : Value} {bs : List Int} {B : Nat → Obj → Prop} (h : Pend T W0 W base g v0 v bs B) : Wrote T W0 W base g v0 bs := ⟨v, h.pen, h.mov, h.keep⟩
theorem Pend.cells {T : Nat} {W0 W : World} {base g : Nat} {v0 v : Value} {bs : List Int} {B : Nat → Obj → Prop} (h : Pend T W0 W base g v0 v bs B) {k t : Nat} {cs : Array Value} (hB : B k (.cells cs t (0, 0))) (i : Nat) : W.cell? ⟨k, i, none⟩ = cs[i]? := blk_cell (h.box _ _ hB).1 i
theorem Pend.above {bs0 : List Int} {T : Nat} {w0 W0 W : World} {base g : Nat} {v0 v : Value} {bs : List Int} {B : Nat → Obj → Prop} (h : Pend T W0 W base g v0 v bs B) (h0 : Pen T W0 base g v0 bs0) (hb : Below w0.heap.size w0 W0) (hbase : w0.heap.size ≤ base) : Below w0.heap.size w0 W :=
 h.mov.above hb (fun k hk => Nat.le_trans hbase (h0.base_le k hk))
end Go.Proofs.YtmneemhplffemaaGreatDoorRR.Mem
namespace Go.Proofs.YtmneemhplffemaaGreatDoorRR.Ki
open Go.RowKit Go.Proofs.YtmneemhplffemaaGreatDoorRRW.PrintWords


structure S78 where
 f0 : Int
 f1 : ByteArray
 f2 : ByteArray
 f3 : Int
 f4 : Int
def z78 : S78 := ⟨(0 : Int), (⟨#[]⟩ : ByteArray), (⟨#[]⟩ : ByteArray), (0 : Int), (0 : Int)⟩
def k78 : Kd S78 := Kd.iso (Kd.pair (Kd.int .i64) (Kd.pair Kd.string (Kd.pair Kd.string (Kd.pair (Kd.int .i64) (Kd.int .i64))))) (fun x : S78 => (x.f0, x.f1, x.f2, x.f3, x.f4))
theorem k78_open {w : World} {x : S78} {cs : List Value} (h : k78.K w x cs) : cs = [.int .i64 x.f0, .string x.f1, .string x.f2, .int .i64 x.f3, .int .i64 x.f4] := by
 obtain ⟨_, _, rfl, rfl, ⟨_, _, rfl, rfl, ⟨_, _, rfl, rfl, ⟨_, _, rfl, rfl, rfl⟩⟩⟩⟩ := h
 exact rfl
theorem k78_openM {w : World} {base : Nat} {ok : Nat → Prop} {x : S78} {cs : List Value} (h : k78.M w base ok x cs) : cs = [.int .i64 x.f0, .string x.f1, .string x.f2, .int .i64 x.f3, .int .i64 x.f4] := by
 obtain ⟨_, _, rfl, rfl, ⟨_, _, rfl, rfl, ⟨_, _, rfl, rfl, ⟨_, _, rfl, rfl, rfl⟩⟩⟩⟩ := h
 exact rfl
theorem k78_mk (w : World) (x : S78)  : k78.K w x [.int .i64 x.f0, .string x.f1, .string x.f2, .int .i64 x.f3, .int .i64 x.f4] := ⟨[.int .i64 x.f0], [.string x.f1, .string x.f2, .int .i64 x.f3, .int .i64 x.f4], rfl, rfl, ⟨[.string x.f1], [.string x.f2, .int .i64 x.f3, .int .i64 x.f4], rfl, rfl, ⟨[.string x.f2], [.int .i64 x.f3, .int .i64 x.f4], rfl, rfl, ⟨[.int .i64 x.f3], [.int .i64 x.f4], rfl, rfl, rfl⟩⟩⟩⟩
theorem k78_mkM (w : World) (base : Nat) (ok : Nat → Prop) (x : S78)  : k78.M w base ok x [.int .i64 x.f0, .string x.f1, .string x.f2, .int .i64 x.f3, .int .i64 x.f4] := ⟨[.int .i64 x.f0], [.string x.f1, .string x.f2, .int .i64 x.f3, .int .i64 x.f4], rfl, rfl, ⟨[.string x.f1], [.string x.f2, .int .i64 x.f3, .int .i64 x.f4], rfl, rfl, ⟨[.string x.f2], [.int .i64 x.f3, .int .i64 x.f4], rfl, rfl, ⟨[.int .i64 x.f3], [.int .i64 x.f4], rfl, rfl, rfl⟩⟩⟩⟩
def rd_T78 (xs : List S78) (i : Int) : S78 := xs.getD i.toNat z78
theorem at_T78 {w : World} {A : Option Addr} {n : Nat} {xs : List S78} (h : Kd.C k78 w A n xs) (i : Int) (h0 : 0 ≤ i) (h1 : i < n) : ∃ ad , A = some ad ∧ w.cell? (ad.add (i.toNat * 5)) = some (.int .i64 (rd_T78 xs i).f0) ∧ w.cell? ⟨(ad.add (i.toNat * 5)).block, (ad.add (i.toNat * 5)).off + 1, none⟩ = some (.string (rd_T78 xs i).f1) ∧ w.cell? ⟨(ad.add (i.toNat * 5)).block, (ad.add (i.toNat * 5)).off + 2, none⟩ = some (.string (rd_T78 xs i).f2) ∧ w.cell? ⟨(ad.add (i.toNat * 5)).block, (ad.add (i.toNat * 5)).off + 3, none⟩ = some (.int .i64 (rd_T78 xs i).f3) ∧ w.cell? ⟨(ad.add (i.toNat * 5)).block, (ad.add (i.toNat * 5)).off + 4, none⟩ = some (.int .i64 (rd_T78 xs i).f4) := by
 obtain ⟨ad, c, e, _, hK, hc0⟩ := Kd.C_get h z78 i h0 h1
 have hc : ∀ j u, c[j]? = some u → w.cell? (ad.add (i.toNat * 5 + j)) = some u := hc0
 obtain rfl := k78_open hK
 exact ⟨ad, e, hc 0 _ rfl, by rw [← add_field _ _ 1 (by omega)]; exact hc 1 _ rfl, by rw [← add_field _ _ 2 (by omega)]; exact hc 2 _ rfl, by rw [← add_field _ _ 3 (by omega)]; exact hc 3 _ rfl, by rw [← add_field _ _ 4 (by omega)]; exact hc 4 _ rfl⟩
structure S55 where
 f0 : Int
 f1 : Int
 f2 : Int
 f3 : Int
 f4 : Int
 f5 : (List S78)
def z55 : S55 := ⟨(0 : Int), (0 : Int), (0 : Int), (0 : Int), (0 : Int), ([] : List S78)⟩
def k55 : Kd S55 := Kd.iso (Kd.pair (Kd.int .i64) (Kd.pair (Kd.int .i64) (Kd.pair (Kd.int .i64) (Kd.pair (Kd.int .i64) (Kd.pair (Kd.int .i64) (Kd.slice 78 k78)))))) (fun x : S55 => (x.f0, x.f1, x.f2, x.f3, x.f4, x.f5))
theorem k55_open {w : World} {x : S55} {cs : List Value} (h : k55.K w x cs) : ∃ A5 c5, cs = [.int .i64 x.f0, .int .i64 x.f1, .int .i64 x.f2, .int .i64 x.f3, .int .i64 x.f4, .slice A5 x.f5.length c5] ∧ x.f5.length ≤ c5 ∧ k78.C w A5 x.f5.length x.f5 := by
 obtain ⟨_, _, rfl, rfl, ⟨_, _, rfl, rfl, ⟨_, _, rfl, rfl, ⟨_, _, rfl, rfl, ⟨_, _, rfl, rfl, ⟨A5, c5, rfl, l5, g5⟩⟩⟩⟩⟩⟩ := h
 exact ⟨A5, c5, rfl, l5, g5⟩
theorem k55_openM {w : World} {base : Nat} {ok : Nat → Prop} {x : S55} {cs : List Value} (h : k55.M w base ok x cs) : ∃ v5, cs = [.int .i64 x.f0, .int .i64 x.f1, .int .i64 x.f2, .int .i64 x.f3, .int .i64 x.f4, v5] ∧ k78.R 78 w base ok v5 x.f5 := by
 obtain ⟨_, _, rfl, rfl, ⟨_, _, rfl, rfl, ⟨_, _, rfl, rfl, ⟨_, _, rfl, rfl, ⟨_, _, rfl, rfl, ⟨v5, rfl, g5⟩⟩⟩⟩⟩⟩ := h
 exact ⟨v5, rfl, g5⟩
theorem k55_mk (w : World) (x : S55) {A5 : Option Addr} {c5 : Nat} (l5 : x.f5.length ≤ c5) (g5 : k78.C w A5 x.f5.length x.f5) : k55.K w x [.int .i64 x.f0, .int .i64 x.f1, .int .i64 x.f2, .int .i64 x.f3, .int .i64 x.f4, .slice A5 x.f5.length c5] := ⟨[.int .i64 x.f0], [.int .i64 x.f1, .int .i64 x.f2, .int .i64 x.f3, .int .i64 x.f4, .slice A5 x.f5.length c5], rfl, rfl, ⟨[.int .i64 x.f1], [.int .i64 x.f2, .int .i64 x.f3, .int .i64 x.f4, .slice A5 x.f5.length c5], rfl, rfl, ⟨[.int .i64 x.f2], [.int .i64 x.f3, .int .i64 x.f4, .slice A5 x.f5.length c5], rfl, rfl, ⟨[.int .i64 x.f3], [.int .i64 x.f4, .slice A5 x.f5.length c5], rfl, rfl, ⟨[.int .i64 x.f4], [.slice A5 x.f5.length c5], rfl, rfl, ⟨A5, c5, rfl, l5, g5⟩⟩⟩⟩⟩⟩
theorem k55_mkM (w : World) (base : Nat) (ok : Nat → Prop) (x : S55) {v5 : Value} (g5 : k78.R 78 w base ok v5 x.f5) : k55.M w base ok x [.int .i64 x.f0, .int .i64 x.f1, .int .i64 x.f2, .int .i64 x.f3, .int .i64 x.f4, v5] := ⟨[.int .i64 x.f0], [.int .i64 x.f1, .int .i64 x.f2, .int .i64 x.f3, .int .i64 x.f4, v5], rfl, rfl, ⟨[.int .i64 x.f1], [.int .i64 x.f2, .int .i64 x.f3, .int .i64 x.f4, v5], rfl, rfl, ⟨[.int .i64 x.f2], [.int .i64 x.f3, .int .i64 x.f4, v5], rfl, rfl, ⟨[.int .i64 x.f3], [.int .i64 x.f4, v5], rfl, rfl, ⟨[.int .i64 x.f4], [v5], rfl, rfl, ⟨v5, rfl, g5⟩⟩⟩⟩⟩⟩
def rd_T55 (xs : List S55) (i : Int) : S55 := xs.getD i.toNat z55
theorem at_T55 {w : World} {A : Option Addr} {n : Nat} {xs : List S55} (h : Kd.C k55 w A n xs) (i : Int) (h0 : 0 ≤ i) (h1 : i < n) : ∃ ad A5 c5, A = some ad ∧ w.cell? (ad.add (i.toNat * 6)) = some (.int .i64 (rd_T55 xs i).f0) ∧ w.cell? ⟨(ad.add (i.toNat * 6)).block, (ad.add (i.toNat * 6)).off + 1, none⟩ = some (.int .i64 (rd_T55 xs i).f1) ∧ w.cell? ⟨(ad.add (i.toNat * 6)).block, (ad.add (i.toNat * 6)).off + 2, none⟩ = some (.int .i64 (rd_T55 xs i).f2) ∧ w.cell? ⟨(ad.add (i.toNat * 6)).block, (ad.add (i.toNat * 6)).off + 3, none⟩ = some (.int .i64 (rd_T55 xs i).f3) ∧ w.cell? ⟨(ad.add (i.toNat * 6)).block, (ad.add (i.toNat * 6)).off + 4, none⟩ = some (.int .i64 (rd_T55 xs i).f4) ∧ w.cell? ⟨(ad.add (i.toNat * 6)).block, (ad.add (i.toNat * 6)).off + 5, none⟩ = some (.slice A5 (rd_T55 xs i).f5.length c5) ∧ (rd_T55 xs i).f5.length ≤ c5 ∧ k78.C w A5 (rd_T55 xs i).f5.length (rd_T55 xs i).f5 := by
 obtain ⟨ad, c, e, _, hK, hc0⟩ := Kd.C_get h z55 i h0 h1
 have hc : ∀ j u, c[j]? = some u → w.cell? (ad.add (i.toNat * 6 + j)) = some u := hc0
 obtain ⟨A5, c5, rfl, l5, g5⟩ := k55_open hK
 exact ⟨ad, A5, c5, e, hc 0 _ rfl, by rw [← add_field _ _ 1 (by omega)]; exact hc 1 _ rfl, by rw [← add_field _ _ 2 (by omega)]; exact hc 2 _ rfl, by rw [← add_field _ _ 3 (by omega)]; exact hc 3 _ rfl, by rw [← add_field _ _ 4 (by omega)]; exact hc 4 _ rfl, by rw [← add_field _ _ 5 (by omega)]; exact hc 5 _ rfl, l5, g5⟩
structure S81 where
 f0 : ByteArray
 f1 : ByteArray
 f2 : Int
 f3 : Int
 f4 : Int
 f5 : Int
 f6 : (List ByteArray)
def z81 : S81 := ⟨(⟨#[]⟩ : ByteArray), (⟨#[]⟩ : ByteArray), (0 : Int), (0 : Int), (0 : Int), (0 : Int), ([] : List ByteArray)⟩
def k81 : Kd S81 := Kd.iso (Kd.pair Kd.string (Kd.pair Kd.string (Kd.pair (Kd.int .i64) (Kd.pair (Kd.int .i64) (Kd.pair (Kd.int .i64) (Kd.pair (Kd.int .i64) (Kd.slice 9 Kd.string))))))) (fun x : S81 => (x.f0, x.f1, x.f2, x.f3, x.f4, x.f5, x.f6))
theorem k81_open {w : World} {x : S81} {cs : List Value} (h : k81.K w x cs) : ∃ A6 c6, cs = [.string x.f0, .string x.f1, .int .i64 x.f2, .int .i64 x.f3, .int .i64 x.f4, .int .i64 x.f5, .slice A6 x.f6.length c6] ∧ x.f6.length ≤ c6 ∧ Kd.string.C w A6 x.f6.length x.f6 := by
 obtain ⟨_, _, rfl, rfl, ⟨_, _, rfl, rfl, ⟨_, _, rfl, rfl, ⟨_, _, rfl, rfl, ⟨_, _, rfl, rfl, ⟨_, _, rfl, rfl, ⟨A6, c6, rfl, l6, g6⟩⟩⟩⟩⟩⟩⟩ := h
 exact ⟨A6, c6, rfl, l6, g6⟩
theorem k81_openM {w : World} {base : Nat} {ok : Nat → Prop} {x : S81} {cs : List Value} (h : k81.M w base ok x cs) : ∃ v6, cs = [.string x.f0, .string x.f1, .int .i64 x.f2, .int .i64 x.f3, .int .i64 x.f4, .int .i64 x.f5, v6] ∧ Kd.string.R 9 w base ok v6 x.f6 := by
 obtain ⟨_, _, rfl, rfl, ⟨_, _, rfl, rfl, ⟨_, _, rfl, rfl, ⟨_, _, rfl, rfl, ⟨_, _, rfl, rfl, ⟨_, _, rfl, rfl, ⟨v6, rfl, g6⟩⟩⟩⟩⟩⟩⟩ := h
 exact ⟨v6, rfl, g6⟩
theorem k81_mk (w : World) (x : S81) {A6 : Option Addr} {c6 : Nat} (l6 : x.f6.length ≤ c6) (g6 : Kd.string.C w A6 x.f6.length x.f6) : k81.K w x [.string x.f0, .string x.f1, .int .i64 x.f2, .int .i64 x.f3, .int .i64 x.f4, .int .i64 x.f5, .slice A6 x.f6.length c6] := ⟨[.string x.f0], [.string x.f1, .int .i64 x.f2, .int .i64 x.f3, .int .i64 x.f4, .int .i64 x.f5, .slice A6 x.f6.length c6], rfl, rfl, ⟨[.string x.f1], [.int .i64 x.f2, .int .i64 x.f3, .int .i64 x.f4, .int .i64 x.f5, .slice A6 x.f6.length c6], rfl, rfl, ⟨[.int .i64 x.f2], [.int .i64 x.f3, .int .i64 x.f4, .int .i64 x.f5, .slice A6 x.f6.length c6], rfl, rfl, ⟨[.int .i64 x.f3], [.int .i64 x.f4, .int .i64 x.f5, .slice A6 x.f6.length c6], rfl, rfl, ⟨[.int .i64 x.f4], [.int .i64 x.f5, .slice A6 x.f6.length c6], rfl, rfl, ⟨[.int .i64 x.f5], [.slice A6 x.f6.length c6], rfl, rfl, ⟨A6, c6, rfl, l6, g6⟩⟩⟩⟩⟩⟩⟩
theorem k81_mkM (w : World) (base : Nat) (ok : Nat → Prop) (x : S81) {v6 : Value} (g6 : Kd.string.R 9 w base ok v6 x.f6) : k81.M w base ok x [.string x.f0, .string x.f1, .int .i64 x.f2, .int .i64 x.f3, .int .i64 x.f4, .int .i64 x.f5, v6] := ⟨[.string x.f0], [.string x.f1, .int .i64 x.f2, .int .i64 x.f3, .int .i64 x.f4, .int .i64 x.f5, v6], rfl, rfl, ⟨[.string x.f1], [.int .i64 x.f2, .int .i64 x.f3, .int .i64 x.f4, .int .i64 x.f5, v6], rfl, rfl, ⟨[.int .i64 x.f2], [.int .i64 x.f3, .int .i64 x.f4, .int .i64 x.f5, v6], rfl, rfl, ⟨[.int .i64 x.f3], [.int .i64 x.f4, .int .i64 x.f5, v6], rfl, rfl, ⟨[.int .i64 x.f4], [.int .i64 x.f5, v6], rfl, rfl, ⟨[.int .i64 x.f5], [v6], rfl, rfl, ⟨v6, rfl, g6⟩⟩⟩⟩⟩⟩⟩
def rd_T81 (xs : List S81) (i : Int) : S81 := xs.getD i.toNat z81
theorem at_T81 {w : World} {A : Option Addr} {n : Nat} {xs : List S81} (h : Kd.C k81 w A n xs) (i : Int) (h0 : 0 ≤ i) (h1 : i < n) : ∃ ad A6 c6, A = some ad ∧ w.cell? (ad.add (i.toNat * 7)) = some (.string (rd_T81 xs i).f0) ∧ w.cell? ⟨(ad.add (i.toNat * 7)).block, (ad.add (i.toNat * 7)).off + 1, none⟩ = some (.string (rd_T81 xs i).f1) ∧ w.cell? ⟨(ad.add (i.toNat * 7)).block, (ad.add (i.toNat * 7)).off + 2, none⟩ = some (.int .i64 (rd_T81 xs i).f2) ∧ w.cell? ⟨(ad.add (i.toNat * 7)).block, (ad.add (i.toNat * 7)).off + 3, none⟩ = some (.int .i64 (rd_T81 xs i).f3) ∧ w.cell? ⟨(ad.add (i.toNat * 7)).block, (ad.add (i.toNat * 7)).off + 4, none⟩ = some (.int .i64 (rd_T81 xs i).f4) ∧ w.cell? ⟨(ad.add (i.toNat * 7)).block, (ad.add (i.toNat * 7)).off + 5, none⟩ = some (.int .i64 (rd_T81 xs i).f5) ∧ w.cell? ⟨(ad.add (i.toNat * 7)).block, (ad.add (i.toNat * 7)).off + 6, none⟩ = some (.slice A6 (rd_T81 xs i).f6.length c6) ∧ (rd_T81 xs i).f6.length ≤ c6 ∧ Kd.string.C w A6 (rd_T81 xs i).f6.length (rd_T81 xs i).f6 := by
 obtain ⟨ad, c, e, _, hK, hc0⟩ := Kd.C_get h z81 i h0 h1
 have hc : ∀ j u, c[j]? = some u → w.cell? (ad.add (i.toNat * 7 + j)) = some u := hc0
 obtain ⟨A6, c6, rfl, l6, g6⟩ := k81_open hK
 exact ⟨ad, A6, c6, e, hc 0 _ rfl, by rw [← add_field _ _ 1 (by omega)]; exact hc 1 _ rfl, by rw [← add_field _ _ 2 (by omega)]; exact hc 2 _ rfl, by rw [← add_field _ _ 3 (by omega)]; exact hc 3 _ rfl, by rw [← add_field _ _ 4 (by omega)]; exact hc 4 _ rfl, by rw [← add_field _ _ 5 (by omega)]; exact hc 5 _ rfl, by rw [← add_field _ _ 6 (by omega)]; exact hc 6 _ rfl, l6, g6⟩
structure S29 where
 f0 : Int
 f1 : Int
 f2 : Int
 f3 : (List S81)
def k29 : Kd S29 := Kd.iso (Kd.pair (Kd.int .i64) (Kd.pair (Kd.int .i64) (Kd.pair (Kd.int .i64) (Kd.slice 81 k81)))) (fun x : S29 => (x.f0, x.f1, x.f2, x.f3))
theorem k29_open {w : World} {x : S29} {cs : List Value} (h : k29.K w x cs) : ∃ A3 c3, cs = [.int .i64 x.f0, .int .i64 x.f1, .int .i64 x.f2, .slice A3 x.f3.length c3] ∧ x.f3.length ≤ c3 ∧ k81.C w A3 x.f3.length x.f3 := by
 obtain ⟨_, _, rfl, rfl, ⟨_, _, rfl, rfl, ⟨_, _, rfl, rfl, ⟨A3, c3, rfl, l3, g3⟩⟩⟩⟩ := h
 exact ⟨A3, c3, rfl, l3, g3⟩
theorem k29_openM {w : World} {base : Nat} {ok : Nat → Prop} {x : S29} {cs : List Value} (h : k29.M w base ok x cs) : ∃ v3, cs = [.int .i64 x.f0, .int .i64 x.f1, .int .i64 x.f2, v3] ∧ k81.R 81 w base ok v3 x.f3 := by
 obtain ⟨_, _, rfl, rfl, ⟨_, _, rfl, rfl, ⟨_, _, rfl, rfl, ⟨v3, rfl, g3⟩⟩⟩⟩ := h
 exact ⟨v3, rfl, g3⟩
theorem k29_mk (w : World) (x : S29) {A3 : Option Addr} {c3 : Nat} (l3 : x.f3.length ≤ c3) (g3 : k81.C w A3 x.f3.length x.f3) : k29.K w x [.int .i64 x.f0, .int .i64 x.f1, .int .i64 x.f2, .slice A3 x.f3.length c3] := ⟨[.int .i64 x.f0], [.int .i64 x.f1, .int .i64 x.f2, .slice A3 x.f3.length c3], rfl, rfl, ⟨[.int .i64 x.f1], [.int .i64 x.f2, .slice A3 x.f3.length c3], rfl, rfl, ⟨[.int .i64 x.f2], [.slice A3 x.f3.length c3], rfl, rfl, ⟨A3, c3, rfl, l3, g3⟩⟩⟩⟩
theorem k29_mkM (w : World) (base : Nat) (ok : Nat → Prop) (x : S29) {v3 : Value} (g3 : k81.R 81 w base ok v3 x.f3) : k29.M w base ok x [.int .i64 x.f0, .int .i64 x.f1, .int .i64 x.f2, v3] := ⟨[.int .i64 x.f0], [.int .i64 x.f1, .int .i64 x.f2, v3], rfl, rfl, ⟨[.int .i64 x.f1], [.int .i64 x.f2, v3], rfl, rfl, ⟨[.int .i64 x.f2], [v3], rfl, rfl, ⟨v3, rfl, g3⟩⟩⟩⟩
structure S96 where
 f0 : Int
 f1 : ByteArray
 f2 : Int
 f3 : Int
def z96 : S96 := ⟨(0 : Int), (⟨#[]⟩ : ByteArray), (0 : Int), (0 : Int)⟩
def k96 : Kd S96 := Kd.iso (Kd.pair (Kd.int .i64) (Kd.pair Kd.string (Kd.pair (Kd.int .i64) (Kd.int .i64)))) (fun x : S96 => (x.f0, x.f1, x.f2, x.f3))
theorem k96_open {w : World} {x : S96} {cs : List Value} (h : k96.K w x cs) : cs = [.int .i64 x.f0, .string x.f1, .int .i64 x.f2, .int .i64 x.f3] := by
 obtain ⟨_, _, rfl, rfl, ⟨_, _, rfl, rfl, ⟨_, _, rfl, rfl, rfl⟩⟩⟩ := h
 exact rfl
theorem k96_openM {w : World} {base : Nat} {ok : Nat → Prop} {x : S96} {cs : List Value} (h : k96.M w base ok x cs) : cs = [.int .i64 x.f0, .string x.f1, .int .i64 x.f2, .int .i64 x.f3] := by
 obtain ⟨_, _, rfl, rfl, ⟨_, _, rfl, rfl, ⟨_, _, rfl, rfl, rfl⟩⟩⟩ := h
 exact rfl
theorem k96_mk (w : World) (x : S96)  : k96.K w x [.int .i64 x.f0, .string x.f1, .int .i64 x.f2, .int .i64 x.f3] := ⟨[.int .i64 x.f0], [.string x.f1, .int .i64 x.f2, .int .i64 x.f3], rfl, rfl, ⟨[.string x.f1], [.int .i64 x.f2, .int .i64 x.f3], rfl, rfl, ⟨[.int .i64 x.f2], [.int .i64 x.f3], rfl, rfl, rfl⟩⟩⟩
theorem k96_mkM (w : World) (base : Nat) (ok : Nat → Prop) (x : S96)  : k96.M w base ok x [.int .i64 x.f0, .string x.f1, .int .i64 x.f2, .int .i64 x.f3] := ⟨[.int .i64 x.f0], [.string x.f1, .int .i64 x.f2, .int .i64 x.f3], rfl, rfl, ⟨[.string x.f1], [.int .i64 x.f2, .int .i64 x.f3], rfl, rfl, ⟨[.int .i64 x.f2], [.int .i64 x.f3], rfl, rfl, rfl⟩⟩⟩
def rd_T96 (xs : List S96) (i : Int) : S96 := xs.getD i.toNat z96
theorem at_T96 {w : World} {A : Option Addr} {n : Nat} {xs : List S96} (h : Kd.C k96 w A n xs) (i : Int) (h0 : 0 ≤ i) (h1 : i < n) : ∃ ad , A = some ad ∧ w.cell? (ad.add (i.toNat * 4)) = some (.int .i64 (rd_T96 xs i).f0) ∧ w.cell? ⟨(ad.add (i.toNat * 4)).block, (ad.add (i.toNat * 4)).off + 1, none⟩ = some (.string (rd_T96 xs i).f1) ∧ w.cell? ⟨(ad.add (i.toNat * 4)).block, (ad.add (i.toNat * 4)).off + 2, none⟩ = some (.int .i64 (rd_T96 xs i).f2) ∧ w.cell? ⟨(ad.add (i.toNat * 4)).block, (ad.add (i.toNat * 4)).off + 3, none⟩ = some (.int .i64 (rd_T96 xs i).f3) := by
 obtain ⟨ad, c, e, _, hK, hc0⟩ := Kd.C_get h z96 i h0 h1
 have hc : ∀ j u, c[j]? = some u → w.cell? (ad.add (i.toNat * 4 + j)) = some u := hc0
 obtain rfl := k96_open hK
 exact ⟨ad, e, hc 0 _ rfl, by rw [← add_field _ _ 1 (by omega)]; exact hc 1 _ rfl, by rw [← add_field _ _ 2 (by omega)]; exact hc 2 _ rfl, by rw [← add_field _ _ 3 (by omega)]; exact hc 3 _ rfl⟩
structure S88 where
 f0 : ByteArray
 f1 : ByteArray
 f2 : Int
def z88 : S88 := ⟨(⟨#[]⟩ : ByteArray), (⟨#[]⟩ : ByteArray), (0 : Int)⟩
def k88 : Kd S88 := Kd.iso (Kd.pair Kd.string (Kd.pair Kd.string (Kd.int .i64))) (fun x : S88 => (x.f0, x.f1, x.f2))
theorem k88_open {w : World} {x : S88} {cs : List Value} (h : k88.K w x cs) : cs = [.string x.f0, .string x.f1, .int .i64 x.f2] := by
 obtain ⟨_, _, rfl, rfl, ⟨_, _, rfl, rfl, rfl⟩⟩ := h
 exact rfl
theorem k88_openM {w : World} {base : Nat} {ok : Nat → Prop} {x : S88} {cs : List Value} (h : k88.M w base ok x cs) : cs = [.string x.f0, .string x.f1, .int .i64 x.f2] := by
 obtain ⟨_, _, rfl, rfl, ⟨_, _, rfl, rfl, rfl⟩⟩ := h
 exact rfl
theorem k88_mk (w : World) (x : S88)  : k88.K w x [.string x.f0, .string x.f1, .int .i64 x.f2] := ⟨[.string x.f0], [.string x.f1, .int .i64 x.f2], rfl, rfl, ⟨[.string x.f1], [.int .i64 x.f2], rfl, rfl, rfl⟩⟩
theorem k88_mkM (w : World) (base : Nat) (ok : Nat → Prop) (x : S88)  : k88.M w base ok x [.string x.f0, .string x.f1, .int .i64 x.f2] := ⟨[.string x.f0], [.string x.f1, .int .i64 x.f2], rfl, rfl, ⟨[.string x.f1], [.int .i64 x.f2], rfl, rfl, rfl⟩⟩
def rd_T88 (xs : List S88) (i : Int) : S88 := xs.getD i.toNat z88
theorem at_T88 {w : World} {A : Option Addr} {n : Nat} {xs : List S88} (h : Kd.C k88 w A n xs) (i : Int) (h0 : 0 ≤ i) (h1 : i < n) : ∃ ad , A = some ad ∧ w.cell? (ad.add (i.toNat * 3)) = some (.string (rd_T88 xs i).f0) ∧ w.cell? ⟨(ad.add (i.toNat * 3)).block, (ad.add (i.toNat * 3)).off + 1, none⟩ = some (.string (rd_T88 xs i).f1) ∧ w.cell? ⟨(ad.add (i.toNat * 3)).block, (ad.add (i.toNat * 3)).off + 2, none⟩ = some (.int .i64 (rd_T88 xs i).f2) := by
 obtain ⟨ad, c, e, _, hK, hc0⟩ := Kd.C_get h z88 i h0 h1
 have hc : ∀ j u, c[j]? = some u → w.cell? (ad.add (i.toNat * 3 + j)) = some u := hc0
 obtain rfl := k88_open hK
 exact ⟨ad, e, hc 0 _ rfl, by rw [← add_field _ _ 1 (by omega)]; exact hc 1 _ rfl, by rw [← add_field _ _ 2 (by omega)]; exact hc 2 _ rfl⟩
structure S84 where
 f0 : Int
 f1 : ByteArray
 f2 : Int
 f3 : (List S88)
def z84 : S84 := ⟨(0 : Int), (⟨#[]⟩ : ByteArray), (0 : Int), ([] : List S88)⟩
def k84 : Kd S84 := Kd.iso (Kd.pair (Kd.int .i64) (Kd.pair Kd.string (Kd.pair (Kd.int .i64) (Kd.slice 88 k88)))) (fun x : S84 => (x.f0, x.f1, x.f2, x.f3))
theorem k84_open {w : World} {x : S84} {cs : List Value} (h : k84.K w x cs) : ∃ A3 c3, cs = [.int .i64 x.f0, .string x.f1, .int .i64 x.f2, .slice A3 x.f3.length c3] ∧ x.f3.length ≤ c3 ∧ k88.C w A3 x.f3.length x.f3 := by
 obtain ⟨_, _, rfl, rfl, ⟨_, _, rfl, rfl, ⟨_, _, rfl, rfl, ⟨A3, c3, rfl, l3, g3⟩⟩⟩⟩ := h
 exact ⟨A3, c3, rfl, l3, g3⟩
theorem k84_openM {w : World} {base : Nat} {ok : Nat → Prop} {x : S84} {cs : List Value} (h : k84.M w base ok x cs) : ∃ v3, cs = [.int .i64 x.f0, .string x.f1, .int .i64 x.f2, v3] ∧ k88.R 88 w base ok v3 x.f3 := by
 obtain ⟨_, _, rfl, rfl, ⟨_, _, rfl, rfl, ⟨_, _, rfl, rfl, ⟨v3, rfl, g3⟩⟩⟩⟩ := h
 exact ⟨v3, rfl, g3⟩
theorem k84_mk (w : World) (x : S84) {A3 : Option Addr} {c3 : Nat} (l3 : x.f3.length ≤ c3) (g3 : k88.C w A3 x.f3.length x.f3) : k84.K w x [.int .i64 x.f0, .string x.f1, .int .i64 x.f2, .slice A3 x.f3.length c3] := ⟨[.int .i64 x.f0], [.string x.f1, .int .i64 x.f2, .slice A3 x.f3.length c3], rfl, rfl, ⟨[.string x.f1], [.int .i64 x.f2, .slice A3 x.f3.length c3], rfl, rfl, ⟨[.int .i64 x.f2], [.slice A3 x.f3.length c3], rfl, rfl, ⟨A3, c3, rfl, l3, g3⟩⟩⟩⟩
theorem k84_mkM (w : World) (base : Nat) (ok : Nat → Prop) (x : S84) {v3 : Value} (g3 : k88.R 88 w base ok v3 x.f3) : k84.M w base ok x [.int .i64 x.f0, .string x.f1, .int .i64 x.f2, v3] := ⟨[.int .i64 x.f0], [.string x.f1, .int .i64 x.f2, v3], rfl, rfl, ⟨[.string x.f1], [.int .i64 x.f2, v3], rfl, rfl, ⟨[.int .i64 x.f2], [v3], rfl, rfl, ⟨v3, rfl, g3⟩⟩⟩⟩
structure S86 where
 f0 : Int
 f1 : S84
def z86 : S86 := ⟨(0 : Int), z84⟩
def k86 : Kd S86 := Kd.iso (Kd.pair (Kd.int .i64) k84) (fun x : S86 => (x.f0, x.f1))
theorem k86_open {w : World} {x : S86} {cs : List Value} (h : k86.K w x cs) : ∃ A4 c4, cs = [.int .i64 x.f0, .int .i64 x.f1.f0, .string x.f1.f1, .int .i64 x.f1.f2, .slice A4 x.f1.f3.length c4] ∧ x.f1.f3.length ≤ c4 ∧ k88.C w A4 x.f1.f3.length x.f1.f3 := by
 obtain ⟨_, _, rfl, rfl, s1⟩ := h
 obtain ⟨A4, c4, rfl, l4, g4⟩ := k84_open s1
 exact ⟨A4, c4, rfl, l4, g4⟩
theorem k86_openM {w : World} {base : Nat} {ok : Nat → Prop} {x : S86} {cs : List Value} (h : k86.M w base ok x cs) : ∃ v4, cs = [.int .i64 x.f0, .int .i64 x.f1.f0, .string x.f1.f1, .int .i64 x.f1.f2, v4] ∧ k88.R 88 w base ok v4 x.f1.f3 := by
 obtain ⟨_, _, rfl, rfl, s1⟩ := h
 obtain ⟨v4, rfl, g4⟩ := k84_openM s1
 exact ⟨v4, rfl, g4⟩
theorem k86_mk (w : World) (x : S86) {A4 : Option Addr} {c4 : Nat} (l4 : x.f1.f3.length ≤ c4) (g4 : k88.C w A4 x.f1.f3.length x.f1.f3) : k86.K w x [.int .i64 x.f0, .int .i64 x.f1.f0, .string x.f1.f1, .int .i64 x.f1.f2, .slice A4 x.f1.f3.length c4] := ⟨[.int .i64 x.f0], [.int .i64 x.f1.f0, .string x.f1.f1, .int .i64 x.f1.f2, .slice A4 x.f1.f3.length c4], rfl, rfl, (k84_mk w x.f1 l4 g4)⟩
theorem k86_mkM (w : World) (base : Nat) (ok : Nat → Prop) (x : S86) {v4 : Value} (g4 : k88.R 88 w base ok v4 x.f1.f3) : k86.M w base ok x [.int .i64 x.f0, .int .i64 x.f1.f0, .string x.f1.f1, .int .i64 x.f1.f2, v4] := ⟨[.int .i64 x.f0], [.int .i64 x.f1.f0, .string x.f1.f1, .int .i64 x.f1.f2, v4], rfl, rfl, (k84_mkM w base ok x.f1 g4)⟩
def rd_T86 (xs : List S86) (i : Int) : S86 := xs.getD i.toNat z86
theorem at_T86 {w : World} {A : Option Addr} {n : Nat} {xs : List S86} (h : Kd.C k86 w A n xs) (i : Int) (h0 : 0 ≤ i) (h1 : i < n) : ∃ ad A4 c4, A = some ad ∧ w.cell? (ad.add (i.toNat * 5)) = some (.int .i64 (rd_T86 xs i).f0) ∧ w.cell? ⟨(ad.add (i.toNat * 5)).block, (ad.add (i.toNat * 5)).off + 1, none⟩ = some (.int .i64 (rd_T86 xs i).f1.f0) ∧ w.cell? ⟨(ad.add (i.toNat * 5)).block, (ad.add (i.toNat * 5)).off + 2, none⟩ = some (.string (rd_T86 xs i).f1.f1) ∧ w.cell? ⟨(ad.add (i.toNat * 5)).block, (ad.add (i.toNat * 5)).off + 3, none⟩ = some (.int .i64 (rd_T86 xs i).f1.f2) ∧ w.cell? ⟨(ad.add (i.toNat * 5)).block, (ad.add (i.toNat * 5)).off + 4, none⟩ = some (.slice A4 (rd_T86 xs i).f1.f3.length c4) ∧ (rd_T86 xs i).f1.f3.length ≤ c4 ∧ k88.C w A4 (rd_T86 xs i).f1.f3.length (rd_T86 xs i).f1.f3 := by
 obtain ⟨ad, c, e, _, hK, hc0⟩ := Kd.C_get h z86 i h0 h1
 have hc : ∀ j u, c[j]? = some u → w.cell? (ad.add (i.toNat * 5 + j)) = some u := hc0
 obtain ⟨A4, c4, rfl, l4, g4⟩ := k86_open hK
 exact ⟨ad, A4, c4, e, hc 0 _ rfl, by rw [← add_field _ _ 1 (by omega)]; exact hc 1 _ rfl, by rw [← add_field _ _ 2 (by omega)]; exact hc 2 _ rfl, by rw [← add_field _ _ 3 (by omega)]; exact hc 3 _ rfl, by rw [← add_field _ _ 4 (by omega)]; exact hc 4 _ rfl, l4, g4⟩
structure S145 where
 f0 : Int
 f1 : ByteArray
 f2 : ByteArray
 f3 : Int
def z145 : S145 := ⟨(0 : Int), (⟨#[]⟩ : ByteArray), (⟨#[]⟩ : ByteArray), (0 : Int)⟩
def k145 : Kd S145 := Kd.iso (Kd.pair (Kd.int .i64) (Kd.pair Kd.string (Kd.pair Kd.string (Kd.int .i64)))) (fun x : S145 => (x.f0, x.f1, x.f2, x.f3))
theorem k145_open {w : World} {x : S145} {cs : List Value} (h : k145.K w x cs) : cs = [.int .i64 x.f0, .string x.f1, .string x.f2, .int .i64 x.f3] := by
 obtain ⟨_, _, rfl, rfl, ⟨_, _, rfl, rfl, ⟨_, _, rfl, rfl, rfl⟩⟩⟩ := h
 exact rfl
theorem k145_openM {w : World} {base : Nat} {ok : Nat → Prop} {x : S145} {cs : List Value} (h : k145.M w base ok x cs) : cs = [.int .i64 x.f0, .string x.f1, .string x.f2, .int .i64 x.f3] := by
 obtain ⟨_, _, rfl, rfl, ⟨_, _, rfl, rfl, ⟨_, _, rfl, rfl, rfl⟩⟩⟩ := h
 exact rfl
theorem k145_mk (w : World) (x : S145)  : k145.K w x [.int .i64 x.f0, .string x.f1, .string x.f2, .int .i64 x.f3] := ⟨[.int .i64 x.f0], [.string x.f1, .string x.f2, .int .i64 x.f3], rfl, rfl, ⟨[.string x.f1], [.string x.f2, .int .i64 x.f3], rfl, rfl, ⟨[.string x.f2], [.int .i64 x.f3], rfl, rfl, rfl⟩⟩⟩
theorem k145_mkM (w : World) (base : Nat) (ok : Nat → Prop) (x : S145)  : k145.M w base ok x [.int .i64 x.f0, .string x.f1, .string x.f2, .int .i64 x.f3] := ⟨[.int .i64 x.f0], [.string x.f1, .string x.f2, .int .i64 x.f3], rfl, rfl, ⟨[.string x.f1], [.string x.f2, .int .i64 x.f3], rfl, rfl, ⟨[.string x.f2], [.int .i64 x.f3], rfl, rfl, rfl⟩⟩⟩
structure S148 where
 f0 : S145
 f1 : (List Int)
def z148 : S148 := ⟨z145, ([] : List Int)⟩
def k148 : Kd S148 := Kd.iso (Kd.pair k145 (Kd.slice 3 (Kd.int .i64))) (fun x : S148 => (x.f0, x.f1))
theorem k148_open {w : World} {x : S148} {cs : List Value} (h : k148.K w x cs) : ∃ A4 c4, cs = [.int .i64 x.f0.f0, .string x.f0.f1, .string x.f0.f2, .int .i64 x.f0.f3, .slice A4 x.f1.length c4] ∧ x.f1.length ≤ c4 ∧ (Kd.int .i64).C w A4 x.f1.length x.f1 := by
 obtain ⟨_, _, rfl, s0, ⟨A4, c4, rfl, l4, g4⟩⟩ := h
 obtain rfl := k145_open s0
 exact ⟨A4, c4, rfl, l4, g4⟩
theorem k148_openM {w : World} {base : Nat} {ok : Nat → Prop} {x : S148} {cs : List Value} (h : k148.M w base ok x cs) : ∃ v4, cs = [.int .i64 x.f0.f0, .string x.f0.f1, .string x.f0.f2, .int .i64 x.f0.f3, v4] ∧ (Kd.int .i64).R 3 w base ok v4 x.f1 := by
 obtain ⟨_, _, rfl, s0, ⟨v4, rfl, g4⟩⟩ := h
 obtain rfl := k145_openM s0
 exact ⟨v4, rfl, g4⟩
theorem k148_mk (w : World) (x : S148) {A4 : Option Addr} {c4 : Nat} (l4 : x.f1.length ≤ c4) (g4 : (Kd.int .i64).C w A4 x.f1.length x.f1) : k148.K w x [.int .i64 x.f0.f0, .string x.f0.f1, .string x.f0.f2, .int .i64 x.f0.f3, .slice A4 x.f1.length c4] := ⟨[.int .i64 x.f0.f0, .string x.f0.f1, .string x.f0.f2, .int .i64 x.f0.f3], [.slice A4 x.f1.length c4], rfl, (k145_mk w x.f0 ), ⟨A4, c4, rfl, l4, g4⟩⟩
theorem k148_mkM (w : World) (base : Nat) (ok : Nat → Prop) (x : S148) {v4 : Value} (g4 : (Kd.int .i64).R 3 w base ok v4 x.f1) : k148.M w base ok x [.int .i64 x.f0.f0, .string x.f0.f1, .string x.f0.f2, .int .i64 x.f0.f3, v4] := ⟨[.int .i64 x.f0.f0, .string x.f0.f1, .string x.f0.f2, .int .i64 x.f0.f3], [v4], rfl, (k145_mkM w base ok x.f0 ), ⟨v4, rfl, g4⟩⟩
def rd_T148 (xs : List S148) (i : Int) : S148 := xs.getD i.toNat z148
theorem at_T148 {w : World} {A : Option Addr} {n : Nat} {xs : List S148} (h : Kd.C k148 w A n xs) (i : Int) (h0 : 0 ≤ i) (h1 : i < n) : ∃ ad A4 c4, A = some ad ∧ w.cell? (ad.add (i.toNat * 5)) = some (.int .i64 (rd_T148 xs i).f0.f0) ∧ w.cell? ⟨(ad.add (i.toNat * 5)).block, (ad.add (i.toNat * 5)).off + 1, none⟩ = some (.string (rd_T148 xs i).f0.f1) ∧ w.cell? ⟨(ad.add (i.toNat * 5)).block, (ad.add (i.toNat * 5)).off + 2, none⟩ = some (.string (rd_T148 xs i).f0.f2) ∧ w.cell? ⟨(ad.add (i.toNat * 5)).block, (ad.add (i.toNat * 5)).off + 3, none⟩ = some (.int .i64 (rd_T148 xs i).f0.f3) ∧ w.cell? ⟨(ad.add (i.toNat * 5)).block, (ad.add (i.toNat * 5)).off + 4, none⟩ = some (.slice A4 (rd_T148 xs i).f1.length c4) ∧ (rd_T148 xs i).f1.length ≤ c4 ∧ (Kd.int .i64).C w A4 (rd_T148 xs i).f1.length (rd_T148 xs i).f1 := by
 obtain ⟨ad, c, e, _, hK, hc0⟩ := Kd.C_get h z148 i h0 h1
 have hc : ∀ j u, c[j]? = some u → w.cell? (ad.add (i.toNat * 5 + j)) = some u := hc0
 obtain ⟨A4, c4, rfl, l4, g4⟩ := k148_open hK
 exact ⟨ad, A4, c4, e, hc 0 _ rfl, by rw [← add_field _ _ 1 (by omega)]; exact hc 1 _ rfl, by rw [← add_field _ _ 2 (by omega)]; exact hc 2 _ rfl, by rw [← add_field _ _ 3 (by omega)]; exact hc 3 _ rfl, by rw [← add_field _ _ 4 (by omega)]; exact hc 4 _ rfl, l4, g4⟩
structure S91 where
 f0 : Int
 f1 : Int
 f2 : Bool
 f3 : (List S148)
 f4 : (List S86)
def z91 : S91 := ⟨(0 : Int), (0 : Int), false, ([] : List S148), ([] : List S86)⟩
def k91 : Kd S91 := Kd.iso (Kd.pair (Kd.int .i64) (Kd.pair (Kd.int .i64) (Kd.pair Kd.bool (Kd.pair (Kd.slice 148 k148) (Kd.slice 86 k86))))) (fun x : S91 => (x.f0, x.f1, x.f2, x.f3, x.f4))
theorem k91_open {w : World} {x : S91} {cs : List Value} (h : k91.K w x cs) : ∃ A3 c3 A4 c4, cs = [.int .i64 x.f0, .int .i64 x.f1, .bool x.f2, .slice A3 x.f3.length c3, .slice A4 x.f4.length c4] ∧ x.f3.length ≤ c3 ∧ k148.C w A3 x.f3.length x.f3 ∧ x.f4.length ≤ c4 ∧ k86.C w A4 x.f4.length x.f4 := by
 obtain ⟨_, _, rfl, rfl, ⟨_, _, rfl, rfl, ⟨_, _, rfl, rfl, ⟨_, _, rfl, ⟨A3, c3, rfl, l3, g3⟩, ⟨A4, c4, rfl, l4, g4⟩⟩⟩⟩⟩ := h
 exact ⟨A3, c3, A4, c4, rfl, l3, g3, l4, g4⟩
theorem k91_openM {w : World} {base : Nat} {ok : Nat → Prop} {x : S91} {cs : List Value} (h : k91.M w base ok x cs) : ∃ v3 v4, cs = [.int .i64 x.f0, .int .i64 x.f1, .bool x.f2, v3, v4] ∧ k148.R 148 w base ok v3 x.f3 ∧ k86.R 86 w base ok v4 x.f4 := by
 obtain ⟨_, _, rfl, rfl, ⟨_, _, rfl, rfl, ⟨_, _, rfl, rfl, ⟨_, _, rfl, ⟨v3, rfl, g3⟩, ⟨v4, rfl, g4⟩⟩⟩⟩⟩ := h
 exact ⟨v3, v4, rfl, g3, g4⟩
theorem k91_mk (w : World) (x : S91) {A3 : Option Addr} {c3 : Nat} (l3 : x.f3.length ≤ c3) (g3 : k148.C w A3 x.f3.length x.f3) {A4 : Option Addr} {c4 : Nat} (l4 : x.f4.length ≤ c4) (g4 : k86.C w A4 x.f4.length x.f4) : k91.K w x [.int .i64 x.f0, .int .i64 x.f1, .bool x.f2, .slice A3 x.f3.length c3, .slice A4 x.f4.length c4] := ⟨[.int .i64 x.f0], [.int .i64 x.f1, .bool x.f2, .slice A3 x.f3.length c3, .slice A4 x.f4.length c4], rfl, rfl, ⟨[.int .i64 x.f1], [.bool x.f2, .slice A3 x.f3.length c3, .slice A4 x.f4.length c4], rfl, rfl, ⟨[.bool x.f2], [.slice A3 x.f3.length c3, .slice A4 x.f4.length c4], rfl, rfl, ⟨[.slice A3 x.f3.length c3], [.slice A4 x.f4.length c4], rfl, ⟨A3, c3, rfl, l3, g3⟩, ⟨A4, c4, rfl, l4, g4⟩⟩⟩⟩⟩
theorem k91_mkM (w : World) (base : Nat) (ok : Nat → Prop) (x : S91) {v3 : Value} (g3 : k148.R 148 w base ok v3 x.f3) {v4 : Value} (g4 : k86.R 86 w base ok v4 x.f4) : k91.M w base ok x [.int .i64 x.f0, .int .i64 x.f1, .bool x.f2, v3, v4] := ⟨[.int .i64 x.f0], [.int .i64 x.f1, .bool x.f2, v3, v4], rfl, rfl, ⟨[.int .i64 x.f1], [.bool x.f2, v3, v4], rfl, rfl, ⟨[.bool x.f2], [v3, v4], rfl, rfl, ⟨[v3], [v4], rfl, ⟨v3, rfl, g3⟩, ⟨v4, rfl, g4⟩⟩⟩⟩⟩
def rd_T91 (xs : List S91) (i : Int) : S91 := xs.getD i.toNat z91
theorem at_T91 {w : World} {A : Option Addr} {n : Nat} {xs : List S91} (h : Kd.C k91 w A n xs) (i : Int) (h0 : 0 ≤ i) (h1 : i < n) : ∃ ad A3 c3 A4 c4, A = some ad ∧ w.cell? (ad.add (i.toNat * 5)) = some (.int .i64 (rd_T91 xs i).f0) ∧ w.cell? ⟨(ad.add (i.toNat * 5)).block, (ad.add (i.toNat * 5)).off + 1, none⟩ = some (.int .i64 (rd_T91 xs i).f1) ∧ w.cell? ⟨(ad.add (i.toNat * 5)).block, (ad.add (i.toNat * 5)).off + 2, none⟩ = some (.bool (rd_T91 xs i).f2) ∧ w.cell? ⟨(ad.add (i.toNat * 5)).block, (ad.add (i.toNat * 5)).off + 3, none⟩ = some (.slice A3 (rd_T91 xs i).f3.length c3) ∧ w.cell? ⟨(ad.add (i.toNat * 5)).block, (ad.add (i.toNat * 5)).off + 4, none⟩ = some (.slice A4 (rd_T91 xs i).f4.length c4) ∧ (rd_T91 xs i).f3.length ≤ c3 ∧ k148.C w A3 (rd_T91 xs i).f3.length (rd_T91 xs i).f3 ∧ (rd_T91 xs i).f4.length ≤ c4 ∧ k86.C w A4 (rd_T91 xs i).f4.length (rd_T91 xs i).f4 := by
 obtain ⟨ad, c, e, _, hK, hc0⟩ := Kd.C_get h z91 i h0 h1
 have hc : ∀ j u, c[j]? = some u → w.cell? (ad.add (i.toNat * 5 + j)) = some u := hc0
 obtain ⟨A3, c3, A4, c4, rfl, l3, g3, l4, g4⟩ := k91_open hK
 exact ⟨ad, A3, c3, A4, c4, e, hc 0 _ rfl, by rw [← add_field _ _ 1 (by omega)]; exact hc 1 _ rfl, by rw [← add_field _ _ 2 (by omega)]; exact hc 2 _ rfl, by rw [← add_field _ _ 3 (by omega)]; exact hc 3 _ rfl, by rw [← add_field _ _ 4 (by omega)]; exact hc 4 _ rfl, l3, g3, l4, g4⟩
structure S23 where
 f0 : Int
 f1 : Int
 f2 : Int
def k23 : Kd S23 := Kd.iso (Kd.pair (Kd.int .i64) (Kd.pair (Kd.int .i64) (Kd.int .i64))) (fun x : S23 => (x.f0, x.f1, x.f2))
theorem k23_open {w : World} {x : S23} {cs : List Value} (h : k23.K w x cs) : cs = [.int .i64 x.f0, .int .i64 x.f1, .int .i64 x.f2] := by
 obtain ⟨_, _, rfl, rfl, ⟨_, _, rfl, rfl, rfl⟩⟩ := h
 exact rfl
theorem k23_openM {w : World} {base : Nat} {ok : Nat → Prop} {x : S23} {cs : List Value} (h : k23.M w base ok x cs) : cs = [.int .i64 x.f0, .int .i64 x.f1, .int .i64 x.f2] := by
 obtain ⟨_, _, rfl, rfl, ⟨_, _, rfl, rfl, rfl⟩⟩ := h
 exact rfl
theorem k23_mk (w : World) (x : S23)  : k23.K w x [.int .i64 x.f0, .int .i64 x.f1, .int .i64 x.f2] := ⟨[.int .i64 x.f0], [.int .i64 x.f1, .int .i64 x.f2], rfl, rfl, ⟨[.int .i64 x.f1], [.int .i64 x.f2], rfl, rfl, rfl⟩⟩
theorem k23_mkM (w : World) (base : Nat) (ok : Nat → Prop) (x : S23)  : k23.M w base ok x [.int .i64 x.f0, .int .i64 x.f1, .int .i64 x.f2] := ⟨[.int .i64 x.f0], [.int .i64 x.f1, .int .i64 x.f2], rfl, rfl, ⟨[.int .i64 x.f1], [.int .i64 x.f2], rfl, rfl, rfl⟩⟩
structure S34 where
 f0 : Int
 f1 : S23
 f2 : Int
 f3 : Int
 f4 : Int
 f5 : Int
 f6 : Int
 f7 : Int
 f8 : Int
 f9 : (List S78)
 f10 : (List S55)
 f11 : S29
 f12 : (List S96)
 f13 : (List S86)
 f14 : (List S91)
 f15 : ByteArray
def k34 : Kd S34 := Kd.iso (Kd.pair (Kd.int .i64) (Kd.pair k23 (Kd.pair (Kd.int .i64) (Kd.pair (Kd.int .i64) (Kd.pair (Kd.int .i64) (Kd.pair (Kd.int .i64) (Kd.pair (Kd.int .i64) (Kd.pair (Kd.int .i64) (Kd.pair (Kd.int .i64) (Kd.pair (Kd.slice 78 k78) (Kd.pair (Kd.slice 55 k55) (Kd.pair k29 (Kd.pair (Kd.slice 96 k96) (Kd.pair (Kd.slice 86 k86) (Kd.pair (Kd.slice 91 k91) Kd.string))))))))))))))) (fun x : S34 => (x.f0, x.f1, x.f2, x.f3, x.f4, x.f5, x.f6, x.f7, x.f8, x.f9, x.f10, x.f11, x.f12, x.f13, x.f14, x.f15))
theorem k34_open {w : World} {x : S34} {cs : List Value} (h : k34.K w x cs) : ∃ A11 c11 A12 c12 A16 c16 A17 c17 A18 c18 A19 c19, cs = [.int .i64 x.f0, .int .i64 x.f1.f0, .int .i64 x.f1.f1, .int .i64 x.f1.f2, .int .i64 x.f2, .int .i64 x.f3, .int .i64 x.f4, .int .i64 x.f5, .int .i64 x.f6, .int .i64 x.f7, .int .i64 x.f8, .slice A11 x.f9.length c11, .slice A12 x.f10.length c12, .int .i64 x.f11.f0, .int .i64 x.f11.f1, .int .i64 x.f11.f2, .slice A16 x.f11.f3.length c16, .slice A17 x.f12.length c17, .slice A18 x.f13.length c18, .slice A19 x.f14.length c19, .string x.f15] ∧ x.f9.length ≤ c11 ∧ k78.C w A11 x.f9.length x.f9 ∧ x.f10.length ≤ c12 ∧ k55.C w A12 x.f10.length x.f10 ∧ x.f11.f3.length ≤ c16 ∧ k81.C w A16 x.f11.f3.length x.f11.f3 ∧ x.f12.length ≤ c17 ∧ k96.C w A17 x.f12.length x.f12 ∧ x.f13.length ≤ c18 ∧ k86.C w A18 x.f13.length x.f13 ∧ x.f14.length ≤ c19 ∧ k91.C w A19 x.f14.length x.f14 := by
 obtain ⟨_, _, rfl, rfl, ⟨_, _, rfl, s1, ⟨_, _, rfl, rfl, ⟨_, _, rfl, rfl, ⟨_, _, rfl, rfl, ⟨_, _, rfl, rfl, ⟨_, _, rfl, rfl, ⟨_, _, rfl, rfl, ⟨_, _, rfl, rfl, ⟨_, _, rfl, ⟨A11, c11, rfl, l11, g11⟩, ⟨_, _, rfl, ⟨A12, c12, rfl, l12, g12⟩, ⟨_, _, rfl, s13, ⟨_, _, rfl, ⟨A17, c17, rfl, l17, g17⟩, ⟨_, _, rfl, ⟨A18, c18, rfl, l18, g18⟩, ⟨_, _, rfl, ⟨A19, c19, rfl, l19, g19⟩, rfl⟩⟩⟩⟩⟩⟩⟩⟩⟩⟩⟩⟩⟩⟩⟩ := h
 obtain rfl := k23_open s1
 obtain ⟨A16, c16, rfl, l16, g16⟩ := k29_open s13
 exact ⟨A11, c11, A12, c12, A16, c16, A17, c17, A18, c18, A19, c19, rfl, l11, g11, l12, g12, l16, g16, l17, g17, l18, g18, l19, g19⟩
theorem k34_openM {w : World} {base : Nat} {ok : Nat → Prop} {x : S34} {cs : List Value} (h : k34.M w base ok x cs) : ∃ v11 v12 v16 v17 v18 v19, cs = [.int .i64 x.f0, .int .i64 x.f1.f0, .int .i64 x.f1.f1, .int .i64 x.f1.f2, .int .i64 x.f2, .int .i64 x.f3, .int .i64 x.f4, .int .i64 x.f5, .int .i64 x.f6, .int .i64 x.f7, .int .i64 x.f8, v11, v12, .int .i64 x.f11.f0, .int .i64 x.f11.f1, .int .i64 x.f11.f2, v16, v17, v18, v19, .string x.f15] ∧ k78.R 78 w base ok v11 x.f9 ∧ k55.R 55 w base ok v12 x.f10 ∧ k81.R 81 w base ok v16 x.f11.f3 ∧ k96.R 96 w base ok v17 x.f12 ∧ k86.R 86 w base ok v18 x.f13 ∧ k91.R 91 w base ok v19 x.f14 := by
 obtain ⟨_, _, rfl, rfl, ⟨_, _, rfl, s1, ⟨_, _, rfl, rfl, ⟨_, _, rfl, rfl, ⟨_, _, rfl, rfl, ⟨_, _, rfl, rfl, ⟨_, _, rfl, rfl, ⟨_, _, rfl, rfl, ⟨_, _, rfl, rfl, ⟨_, _, rfl, ⟨v11, rfl, g11⟩, ⟨_, _, rfl, ⟨v12, rfl, g12⟩, ⟨_, _, rfl, s13, ⟨_, _, rfl, ⟨v17, rfl, g17⟩, ⟨_, _, rfl, ⟨v18, rfl, g18⟩, ⟨_, _, rfl, ⟨v19, rfl, g19⟩, rfl⟩⟩⟩⟩⟩⟩⟩⟩⟩⟩⟩⟩⟩⟩⟩ := h
 obtain rfl := k23_openM s1
 obtain ⟨v16, rfl, g16⟩ := k29_openM s13
 exact ⟨v11, v12, v16, v17, v18, v19, rfl, g11, g12, g16, g17, g18, g19⟩
theorem k34_mk (w : World) (x : S34) {A11 : Option Addr} {c11 : Nat} (l11 : x.f9.length ≤ c11) (g11 : k78.C w A11 x.f9.length x.f9) {A12 : Option Addr} {c12 : Nat} (l12 : x.f10.length ≤ c12) (g12 : k55.C w A12 x.f10.length x.f10) {A16 : Option Addr} {c16 : Nat} (l16 : x.f11.f3.length ≤ c16) (g16 : k81.C w A16 x.f11.f3.length x.f11.f3) {A17 : Option Addr} {c17 : Nat} (l17 : x.f12.length ≤ c17) (g17 : k96.C w A17 x.f12.length x.f12) {A18 : Option Addr} {c18 : Nat} (l18 : x.f13.length ≤ c18) (g18 : k86.C w A18 x.f13.length x.f13) {A19 : Option Addr} {c19 : Nat} (l19 : x.f14.length ≤ c19) (g19 : k91.C w A19 x.f14.length x.f14) : k34.K w x [.int .i64 x.f0, .int .i64 x.f1.f0, .int .i64 x.f1.f1, .int .i64 x.f1.f2, .int .i64 x.f2, .int .i64 x.f3, .int .i64 x.f4, .int .i64 x.f5, .int .i64 x.f6, .int .i64 x.f7, .int .i64 x.f8, .slice A11 x.f9.length c11, .slice A12 x.f10.length c12, .int .i64 x.f11.f0, .int .i64 x.f11.f1, .int .i64 x.f11.f2, .slice A16 x.f11.f3.length c16, .slice A17 x.f12.length c17, .slice A18 x.f13.length c18, .slice A19 x.f14.length c19, .string x.f15] := ⟨[.int .i64 x.f0], [.int .i64 x.f1.f0, .int .i64 x.f1.f1, .int .i64 x.f1.f2, .int .i64 x.f2, .int .i64 x.f3, .int .i64 x.f4, .int .i64 x.f5, .int .i64 x.f6, .int .i64 x.f7, .int .i64 x.f8, .slice A11 x.f9.length c11, .slice A12 x.f10.length c12, .int .i64 x.f11.f0, .int .i64 x.f11.f1, .int .i64 x.f11.f2, .slice A16 x.f11.f3.length c16, .slice A17 x.f12.length c17, .slice A18 x.f13.length c18, .slice A19 x.f14.length c19, .string x.f15], rfl, rfl, ⟨[.int .i64 x.f1.f0, .int .i64 x.f1.f1, .int .i64 x.f1.f2], [.int .i64 x.f2, .int .i64 x.f3, .int .i64 x.f4, .int .i64 x.f5, .int .i64 x.f6, .int .i64 x.f7, .int .i64 x.f8, .slice A11 x.f9.length c11, .slice A12 x.f10.length c12, .int .i64 x.f11.f0, .int .i64 x.f11.f1, .int .i64 x.f11.f2, .slice A16 x.f11.f3.length c16, .slice A17 x.f12.length c17, .slice A18 x.f13.length c18, .slice A19 x.f14.length c19, .string x.f15], rfl, (k23_mk w x.f1 ), ⟨[.int .i64 x.f2], [.int .i64 x.f3, .int .i64 x.f4, .int .i64 x.f5, .int .i64 x.f6, .int .i64 x.f7, .int .i64 x.f8, .slice A11 x.f9.length c11, .slice A12 x.f10.length c12, .int .i64 x.f11.f0, .int .i64 x.f11.f1, .int .i64 x.f11.f2, .slice A16 x.f11.f3.length c16, .slice A17 x.f12.length c17, .slice A18 x.f13.length c18, .slice A19 x.f14.length c19, .string x.f15], rfl, rfl, ⟨[.int .i64 x.f3], [.int .i64 x.f4, .int .i64 x.f5, .int .i64 x.f6, .int .i64 x.f7, .int .i64 x.f8, .slice A11 x.f9.length c11, .slice A12 x.f10.length c12, .int .i64 x.f11.f0, .int .i64 x.f11.f1, .int .i64 x.f11.f2, .slice A16 x.f11.f3.length c16, .slice A17 x.f12.length c17, .slice A18 x.f13.length c18, .slice A19 x.f14.length c19, .string x.f15], rfl, rfl, ⟨[.int .i64 x.f4], [.int .i64 x.f5, .int .i64 x.f6, .int .i64 x.f7, .int .i64 x.f8, .slice A11 x.f9.length c11, .slice A12 x.f10.length c12, .int .i64 x.f11.f0, .int .i64 x.f11.f1, .int .i64 x.f11.f2, .slice A16 x.f11.f3.length c16, .slice A17 x.f12.length c17, .slice A18 x.f13.length c18, .slice A19 x.f14.length c19, .string x.f15], rfl, rfl, ⟨[.int .i64 x.f5], [.int .i64 x.f6, .int .i64 x.f7, .int .i64 x.f8, .slice A11 x.f9.length c11, .slice A12 x.f10.length c12, .int .i64 x.f11.f0, .int .i64 x.f11.f1, .int .i64 x.f11.f2, .slice A16 x.f11.f3.length c16, .slice A17 x.f12.length c17, .slice A18 x.f13.length c18, .slice A19 x.f14.length c19, .string x.f15], rfl, rfl, ⟨[.int .i64 x.f6], [.int .i64 x.f7, .int .i64 x.f8, .slice A11 x.f9.length c11, .slice A12 x.f10.length c12, .int .i64 x.f11.f0, .int .i64 x.f11.f1, .int .i64 x.f11.f2, .slice A16 x.f11.f3.length c16, .slice A17 x.f12.length c17, .slice A18 x.f13.length c18, .slice A19 x.f14.length c19, .string x.f15], rfl, rfl, ⟨[.int .i64 x.f7], [.int .i64 x.f8, .slice A11 x.f9.length c11, .slice A12 x.f10.length c12, .int .i64 x.f11.f0, .int .i64 x.f11.f1, .int .i64 x.f11.f2, .slice A16 x.f11.f3.length c16, .slice A17 x.f12.length c17, .slice A18 x.f13.length c18, .slice A19 x.f14.length c19, .string x.f15], rfl, rfl, ⟨[.int .i64 x.f8], [.slice A11 x.f9.length c11, .slice A12 x.f10.length c12, .int .i64 x.f11.f0, .int .i64 x.f11.f1, .int .i64 x.f11.f2, .slice A16 x.f11.f3.length c16, .slice A17 x.f12.length c17, .slice A18 x.f13.length c18, .slice A19 x.f14.length c19, .string x.f15], rfl, rfl, ⟨[.slice A11 x.f9.length c11], [.slice A12 x.f10.length c12, .int .i64 x.f11.f0, .int .i64 x.f11.f1, .int .i64 x.f11.f2, .slice A16 x.f11.f3.length c16, .slice A17 x.f12.length c17, .slice A18 x.f13.length c18, .slice A19 x.f14.length c19, .string x.f15], rfl, ⟨A11, c11, rfl, l11, g11⟩, ⟨[.slice A12 x.f10.length c12], [.int .i64 x.f11.f0, .int .i64 x.f11.f1, .int .i64 x.f11.f2, .slice A16 x.f11.f3.length c16, .slice A17 x.f12.length c17, .slice A18 x.f13.length c18, .slice A19 x.f14.length c19, .string x.f15], rfl, ⟨A12, c12, rfl, l12, g12⟩, ⟨[.int .i64 x.f11.f0, .int .i64 x.f11.f1, .int .i64 x.f11.f2, .slice A16 x.f11.f3.length c16], [.slice A17 x.f12.length c17, .slice A18 x.f13.length c18, .slice A19 x.f14.length c19, .string x.f15], rfl, (k29_mk w x.f11 l16 g16), ⟨[.slice A17 x.f12.length c17], [.slice A18 x.f13.length c18, .slice A19 x.f14.length c19, .string x.f15], rfl, ⟨A17, c17, rfl, l17, g17⟩, ⟨[.slice A18 x.f13.length c18], [.slice A19 x.f14.length c19, .string x.f15], rfl, ⟨A18, c18, rfl, l18, g18⟩, ⟨[.slice A19 x.f14.length c19], [.string x.f15], rfl, ⟨A19, c19, rfl, l19, g19⟩, rfl⟩⟩⟩⟩⟩⟩⟩⟩⟩⟩⟩⟩⟩⟩⟩
theorem k34_mkM (w : World) (base : Nat) (ok : Nat → Prop) (x : S34) {v11 : Value} (g11 : k78.R 78 w base ok v11 x.f9) {v12 : Value} (g12 : k55.R 55 w base ok v12 x.f10) {v16 : Value} (g16 : k81.R 81 w base ok v16 x.f11.f3) {v17 : Value} (g17 : k96.R 96 w base ok v17 x.f12) {v18 : Value} (g18 : k86.R 86 w base ok v18 x.f13) {v19 : Value} (g19 : k91.R 91 w base ok v19 x.f14) : k34.M w base ok x [.int .i64 x.f0, .int .i64 x.f1.f0, .int .i64 x.f1.f1, .int .i64 x.f1.f2, .int .i64 x.f2, .int .i64 x.f3, .int .i64 x.f4, .int .i64 x.f5, .int .i64 x.f6, .int .i64 x.f7, .int .i64 x.f8, v11, v12, .int .i64 x.f11.f0, .int .i64 x.f11.f1, .int .i64 x.f11.f2, v16, v17, v18, v19, .string x.f15] := ⟨[.int .i64 x.f0], [.int .i64 x.f1.f0, .int .i64 x.f1.f1, .int .i64 x.f1.f2, .int .i64 x.f2, .int .i64 x.f3, .int .i64 x.f4, .int .i64 x.f5, .int .i64 x.f6, .int .i64 x.f7, .int .i64 x.f8, v11, v12, .int .i64 x.f11.f0, .int .i64 x.f11.f1, .int .i64 x.f11.f2, v16, v17, v18, v19, .string x.f15], rfl, rfl, ⟨[.int .i64 x.f1.f0, .int .i64 x.f1.f1, .int .i64 x.f1.f2], [.int .i64 x.f2, .int .i64 x.f3, .int .i64 x.f4, .int .i64 x.f5, .int .i64 x.f6, .int .i64 x.f7, .int .i64 x.f8, v11, v12, .int .i64 x.f11.f0, .int .i64 x.f11.f1, .int .i64 x.f11.f2, v16, v17, v18, v19, .string x.f15], rfl, (k23_mkM w base ok x.f1 ), ⟨[.int .i64 x.f2], [.int .i64 x.f3, .int .i64 x.f4, .int .i64 x.f5, .int .i64 x.f6, .int .i64 x.f7, .int .i64 x.f8, v11, v12, .int .i64 x.f11.f0, .int .i64 x.f11.f1, .int .i64 x.f11.f2, v16, v17, v18, v19, .string x.f15], rfl, rfl, ⟨[.int .i64 x.f3], [.int .i64 x.f4, .int .i64 x.f5, .int .i64 x.f6, .int .i64 x.f7, .int .i64 x.f8, v11, v12, .int .i64 x.f11.f0, .int .i64 x.f11.f1, .int .i64 x.f11.f2, v16, v17, v18, v19, .string x.f15], rfl, rfl, ⟨[.int .i64 x.f4], [.int .i64 x.f5, .int .i64 x.f6, .int .i64 x.f7, .int .i64 x.f8, v11, v12, .int .i64 x.f11.f0, .int .i64 x.f11.f1, .int .i64 x.f11.f2, v16, v17, v18, v19, .string x.f15], rfl, rfl, ⟨[.int .i64 x.f5], [.int .i64 x.f6, .int .i64 x.f7, .int .i64 x.f8, v11, v12, .int .i64 x.f11.f0, .int .i64 x.f11.f1, .int .i64 x.f11.f2, v16, v17, v18, v19, .string x.f15], rfl, rfl, ⟨[.int .i64 x.f6], [.int .i64 x.f7, .int .i64 x.f8, v11, v12, .int .i64 x.f11.f0, .int .i64 x.f11.f1, .int .i64 x.f11.f2, v16, v17, v18, v19, .string x.f15], rfl, rfl, ⟨[.int .i64 x.f7], [.int .i64 x.f8, v11, v12, .int .i64 x.f11.f0, .int .i64 x.f11.f1, .int .i64 x.f11.f2, v16, v17, v18, v19, .string x.f15], rfl, rfl, ⟨[.int .i64 x.f8], [v11, v12, .int .i64 x.f11.f0, .int .i64 x.f11.f1, .int .i64 x.f11.f2, v16, v17, v18, v19, .string x.f15], rfl, rfl, ⟨[v11], [v12, .int .i64 x.f11.f0, .int .i64 x.f11.f1, .int .i64 x.f11.f2, v16, v17, v18, v19, .string x.f15], rfl, ⟨v11, rfl, g11⟩, ⟨[v12], [.int .i64 x.f11.f0, .int .i64 x.f11.f1, .int .i64 x.f11.f2, v16, v17, v18, v19, .string x.f15], rfl, ⟨v12, rfl, g12⟩, ⟨[.int .i64 x.f11.f0, .int .i64 x.f11.f1, .int .i64 x.f11.f2, v16], [v17, v18, v19, .string x.f15], rfl, (k29_mkM w base ok x.f11 g16), ⟨[v17], [v18, v19, .string x.f15], rfl, ⟨v17, rfl, g17⟩, ⟨[v18], [v19, .string x.f15], rfl, ⟨v18, rfl, g18⟩, ⟨[v19], [.string x.f15], rfl, ⟨v19, rfl, g19⟩, rfl⟩⟩⟩⟩⟩⟩⟩⟩⟩⟩⟩⟩⟩⟩⟩
end Go.Proofs.YtmneemhplffemaaGreatDoorRR.Ki
namespace Go.Proofs.YtmneemhplffemaaGreatDoorRR.Put
open Go.RowKit Go.Proofs.YtmneemhplffemaaGreatDoorRR.Ext Go.Proofs.YtmneemhplffemaaGreatDoorRR.Wire Go.Proofs.YtmneemhplffemaaGreatDoorRR.Mem Go.Proofs.YtmneemhplffemaaGreatDoorRR.Ki Go.Proofs.YtmneemhplffemaaGreatDoorRRW.PrintWords
def isN (v : Int) : Prop := 0 ≤ v ∧ v ≤ 2147483647
theorem num_le (v : Int) : (encNum v).length ≤ 5 := (encNum_len v).2
theorem txt_le (s : ByteArray) : (encTxt s).length ≤ s.size + 5 := by
 have := encNum_len (s.size : Int)
 simp only [encTxt, List.length_append, bytesOf_length]
 omega
section
variable {W0 W : World} {base g : Nat} {v0 v : Value} {bs : List Int} {B : Nat → Obj → Prop}
theorem Pend.num (h : Pend 127 W0 W base g v0 v bs B) (x : Int) (hx : isN x) (hl : bs.length + 5 ≤ 140737488355328) :
  Calls Tryz.prog 61 #[.pointer (some ⟨g, 0, none⟩), .int .i64 x] W fun e W' => e = .returned (.tuple #[]) ∧ ∃ v', Pend 127 W0 W' base g v0 v' (bs ++ encNum x) B :=
 (wnum x hx.1 hx.2 W base g v bs h.pen hl).mono fun _ _ ⟨he, hw⟩ => ⟨he, h.step hw⟩
theorem Pend.txt (h : Pend 127 W0 W base g v0 v bs B) (s : ByteArray) (hs : s.size ≤ 262144) (hl : bs.length + (s.size + 5) ≤ 140737488355328) :
  Calls Tryz.prog 165 #[.pointer (some ⟨g, 0, none⟩), .string s] W fun e W' => e = .returned (.tuple #[]) ∧ ∃ v', Pend 127 W0 W' base g v0 v' (bs ++ encTxt s) B :=
 (wtxt s hs W base g v bs h.pen hl).mono fun _ _ ⟨he, hw⟩ => ⟨he, h.step hw⟩
end
abbrev Op := S78
def encOp (o : Op) : List Int := encNum o.f0 ++ encTxt o.f1 ++ encTxt o.f2 ++ (if o.f3 = -1 then encNum 0 else encNum 1 ++ encNum o.f3) ++ encNum o.f4
structure OpOk (o : Op) : Prop where
 n0 : isN o.f0
 t1 : o.f1.size ≤ 256
 t2 : o.f2.size ≤ 256
 n3 : o.f3 = -1 ∨ isN o.f3
 n4 : isN o.f4
set_option maxRecDepth 100000 in
theorem putOp_any (x : Op) (hx : OpOk x) (cs : List Value) (w0 W : World) (hk : k78.K w0 x cs) (_hb : Below w0.heap.size w0 W) (base g : Nat) (v : Value) (bs : List Int) (hp : Pen 127 W base g v bs) (hl : bs.length + 2000 ≤ 140737488355328) :
   Calls Tryz.prog 121 #[.pointer (some ⟨g, 0, none⟩), .agg cs.toArray] W fun e W' => e = .returned (.tuple #[]) ∧ Wrote 127 W W' base g v (bs ++ encOp x) := by
 obtain rfl := k78_open hk
 have HX := Aside0.mk hx
 have HS0 := Aside0.mk ((Pend.begin_ hp).lay (.cells #[.int .i64 x.f0, .string x.f1, .string x.f2, .int .i64 x.f3, .int .i64 x.f4] 78 (0, 0)))
 have e0 := num_le x.f0
 have e1 := txt_le x.f1
 have e2 := txt_le x.f2
 have e3 := num_le x.f3
 have e5 := num_le 0
 have e6 := num_le 1
 have h1 := hx.t1
 have h2 := hx.t2
 clear hk hp
 by_cases hv : x.f3 = -1
 · have hvd : (x.f3 == -1) = true := by simp [hv]
   have HE := Aside0.mk (show encOp x = encNum x.f0 ++ encTxt x.f1 ++ encTxt x.f2 ++ encNum 0 ++ encNum x.f4 by unfold encOp; rw [if_pos hv])
   clear hv hx
   go_enter Tryz.func121, Tryz.ntmps121
   go_wp2_with fail
   refine (Pend.num HS0.out x.f0 HX.out.n0 (by first | omega | (simp only [List.length_append]; omega))).mono ?_
   rintro e w1 ⟨rfl, v1, hs1⟩
   have hc1 := hs1.cells (k := W.heap.size) (.inr ⟨rfl, rfl⟩)
   have HS1 := Aside0.mk hs1
   clear hs1
   go_wp2_with fail
   refine (Pend.txt HS1.out x.f1 (by omega) (by first | omega | (simp only [List.length_append]; omega))).mono ?_
   rintro e w2 ⟨rfl, v2, hs2⟩
   have hc2 := hs2.cells (k := W.heap.size) (.inr ⟨rfl, rfl⟩)
   have HS2 := Aside0.mk hs2
   clear hs2 hc1
   go_wp2_with fail
   refine (Pend.txt HS2.out x.f2 (by omega) (by first | omega | (simp only [List.length_append]; omega))).mono ?_
   rintro e w3 ⟨rfl, v3, hs3⟩
   have hc3 := hs3.cells (k := W.heap.size) (.inr ⟨rfl, rfl⟩)
   have HS3 := Aside0.mk hs3
   clear hs3 hc2
   go_wp2_with fail
   refine (Pend.num HS3.out 0 ⟨by omega, by omega⟩ (by first | omega | (simp only [List.length_append]; omega))).mono ?_
   rintro e w4 ⟨rfl, v4, hs4⟩
   have hc4 := hs4.cells (k := W.heap.size) (.inr ⟨rfl, rfl⟩)
   have HS4 := Aside0.mk hs4
   clear hs4 hc3
   go_wp2_with fail
   refine (Pend.num HS4.out x.f4 HX.out.n4 (by first | omega | (simp only [List.length_append]; omega))).mono ?_
   rintro e w5 ⟨rfl, v5, hs5⟩
   have hc5 := hs5.cells (k := W.heap.size) (.inr ⟨rfl, rfl⟩)
   have HS5 := Aside0.mk hs5
   clear hs5 hc4
   go_wp2_with fail
   go_end0
   exact ⟨rfl, by rw [HE.out]; simpa only [List.append_assoc] using HS5.out.wrote⟩
 · have hvd : (x.f3 == -1) = false := by simp [hv]
   have HN := Aside0.mk (hx.n3.resolve_left hv)
   have HE := Aside0.mk (show encOp x = encNum x.f0 ++ encTxt x.f1 ++ encTxt x.f2 ++ encNum 1 ++ encNum x.f3 ++ encNum x.f4 by unfold encOp; rw [if_neg hv]; simp only [List.append_assoc])
   clear hv hx
   go_enter Tryz.func121, Tryz.ntmps121
   go_wp2_with fail
   refine (Pend.num HS0.out x.f0 HX.out.n0 (by first | omega | (simp only [List.length_append]; omega))).mono ?_
   rintro e w1 ⟨rfl, v1, hs1⟩
   have hc1 := hs1.cells (k := W.heap.size) (.inr ⟨rfl, rfl⟩)
   have HS1 := Aside0.mk hs1
   clear hs1
   go_wp2_with fail
   refine (Pend.txt HS1.out x.f1 (by omega) (by first | omega | (simp only [List.length_append]; omega))).mono ?_
   rintro e w2 ⟨rfl, v2, hs2⟩
   have hc2 := hs2.cells (k := W.heap.size) (.inr ⟨rfl, rfl⟩)
   have HS2 := Aside0.mk hs2
   clear hs2 hc1
   go_wp2_with fail
   refine (Pend.txt HS2.out x.f2 (by omega) (by first | omega | (simp only [List.length_append]; omega))).mono ?_
   rintro e w3 ⟨rfl, v3, hs3⟩
   have hc3 := hs3.cells (k := W.heap.size) (.inr ⟨rfl, rfl⟩)
   have HS3 := Aside0.mk hs3
   clear hs3 hc2
   go_wp2_with fail
   refine (Pend.num HS3.out 1 ⟨by omega, by omega⟩ (by first | omega | (simp only [List.length_append]; omega))).mono ?_
   rintro e w4 ⟨rfl, v4, hs4⟩
   have hc4 := hs4.cells (k := W.heap.size) (.inr ⟨rfl, rfl⟩)
   have HS4 := Aside0.mk hs4
   clear hs4 hc3
   go_wp2_with fail
   refine (Pend.num HS4.out x.f3 HN.out (by first | omega | (simp only [List.length_append]; omega))).mono ?_
   rintro e w5 ⟨rfl, v5, hs5⟩
   have hc5 := hs5.cells (k := W.heap.size) (.inr ⟨rfl, rfl⟩)
   have HS5 := Aside0.mk hs5
   clear hs5 hc4
   go_wp2_with fail
   refine (Pend.num HS5.out x.f4 HX.out.n4 (by first | omega | (simp only [List.length_append]; omega))).mono ?_
   rintro e w6 ⟨rfl, v6, hs6⟩
   have hc6 := hs6.cells (k := W.heap.size) (.inr ⟨rfl, rfl⟩)
   have HS6 := Aside0.mk hs6
   clear hs6 hc5
   go_wp2_with fail
   go_end0
   exact ⟨rfl, by rw [HE.out]; simpa only [List.append_assoc] using HS6.out.wrote⟩
end Go.Proofs.YtmneemhplffemaaGreatDoorRR.Put
namespace Go.Proofs.YtmneemhplffemaaGreatDoorRR.Put
open Go.RowKit Go.Proofs.YtmneemhplffemaaGreatDoorRR.Ext Go.Proofs.YtmneemhplffemaaGreatDoorRR.Wire Go.Proofs.YtmneemhplffemaaGreatDoorRR.Mem Go.Proofs.YtmneemhplffemaaGreatDoorRR.Ki Go.Proofs.YtmneemhplffemaaGreatDoorRRW.PrintWords
def encList {α : Type} (enc : α → List Int) (xs : List α) : List Int := encNum (xs.length : Int) ++ xs.flatMap enc
theorem flat_le {α : Type} {enc : α → List Int} {n : Nat} {xs : List α} (h : ∀ x ∈ xs, (enc x).length ≤ n) : (xs.flatMap enc).length ≤ xs.length * n := by
 induction xs with
 | nil => simp
 | cons x xs ih =>
   have h1 := h x List.mem_cons_self
   have h2 := ih (fun y hy => h y (List.mem_cons_of_mem _ hy))
   simp only [List.flatMap_cons, List.length_append, List.length_cons, Nat.succ_mul]
   omega
theorem flat_take {α : Type} {enc : α → List Int} {ok : α → Prop} {n : Nat} {xs : List α} (k : Nat) (h : ∀ x, ok x → (enc x).length ≤ n) (ha : ∀ x ∈ xs, ok x) : ((xs.take k).flatMap enc).length ≤ xs.length * n := by
 refine Nat.le_trans (flat_le (fun x hx => h x (ha x (List.mem_of_mem_take hx)))) (Nat.mul_le_mul_right _ ?_)
 rw [List.length_take]
 omega
theorem flat_snoc {α : Type} {enc : α → List Int} {xs : List α} {k : Nat} {x : α} (h : xs[k]? = some x) : (xs.take (k + 1)).flatMap enc = (xs.take k).flatMap enc ++ enc x := by
 obtain ⟨hl, he⟩ := List.getElem?_eq_some_iff.1 h
 rw [List.take_succ_eq_append_getElem hl, he]
 simp
def PutOp (K : FuncId) (enc : S78 → List Int) (ok : S78 → Prop) (n : Nat) : Prop :=
 ∀ (x : S78) (cs : List Value) (w0 W : World), ok x → k78.K w0 x cs → Below w0.heap.size w0 W → ∀ (base g : Nat) (v : Value) (bs : List Int), w0.heap.size ≤ base → Pen 127 W base g v bs → bs.length + n ≤ 140737488355328 →
  Calls Tryz.prog K #[.pointer (some ⟨g, 0, none⟩), .agg cs.toArray] W fun e W' => e = .returned (.tuple #[]) ∧ Wrote 127 W W' base g v (bs ++ enc x)
set_option maxRecDepth 100000 in
set_option maxHeartbeats 1000000 in
theorem putList_Op (K : FuncId) (hK : ∀ (args : Array Value) (w : World), (callFunc K args).run Tryz.prog w = .ok (.enter K args) w) (enc : S78 → List Int) (ok : S78 → Prop) (n : Nat) (hE : PutOp K enc ok n) (hn : ∀ x, ok x → (enc x).length ≤ n)
  (A : Option Addr) (c : Nat) (xs : List S78) (w0 W : World) (hC : k78.C w0 A xs.length xs) (hall : ∀ x ∈ xs, ok x) (hb : Below w0.heap.size w0 W) (base g : Nat) (v : Value) (bs : List Int) (hbase : w0.heap.size ≤ base) (hp : Pen 127 W base g v bs) (hlen : xs.length ≤ 1000) (hl : bs.length + 5 + xs.length * n + n ≤ 140737488355328) :
  Calls Tryz.prog 120 #[.pointer (some ⟨g, 0, none⟩), .slice A xs.length c, .func (.func K) #[] #[]] W fun e W' => e = .returned (.tuple #[]) ∧ Wrote 127 W W' base g v (bs ++ encList enc xs) := by
 have HS0 := Aside0.mk (Pend.begin_ hp)
 have HP := Aside0.mk hp
 have HE := Aside0.mk hE
 have HN := Aside0.mk (fun k => flat_take k hn hall)
 have HC := Aside0.mk hC
 have HA := Aside0.mk hall
 have HB := Aside0.mk hb
 have HL := Aside0.mk hl
 have e0 := num_le (xs.length : Int)
 clear hp hE hn hC hall hb hl
 go_enter Tryz.func120, Tryz.ntmps120
 go_wp2_with fail
 refine (Pend.num HS0.out (xs.length : Int) ⟨by omega, by omega⟩ (by have := HL.out; omega)).mono ?_
 rintro e w1 ⟨rfl, v1, hs1⟩
 have HS1 := Aside0.mk hs1
 clear hs1
 go_wp2_with fail
 go_loopw [14] (fun v14 wr => ∃ k : Nat, v14 = .int .i64 k ∧ k ≤ xs.length ∧ ∃ v' : Value, Aside0 (Pend 127 W wr base g v v' (bs ++ encNum (xs.length : Int) ++ (xs.take k).flatMap enc) (fun _ _ => False))) (fun v14 _ => xs.length - (intOf v14).toNat)
 case atStart => exact ⟨0, rfl, Nat.zero_le _, v1, ⟨by simpa using HS1.out⟩⟩
 case round =>
  obtain ⟨k, rfl, hk, v', HS⟩ := hrel
  by_cases hlt : k < xs.length
  · obtain ⟨x, hxe⟩ : ∃ x, xs[k]? = some x := ⟨_, List.getElem?_eq_getElem hlt⟩
    have HX := Aside0.mk hxe
    have HBR := Aside0.mk (HS.out.above HP.out HB.out hbase)
    have hat := at_T78 HC.out (k : Int) (by omega) (by omega)
    rw [show rd_T78 xs (k : Int) = x by unfold rd_T78; rw [Int.toNat_natCast, List.getD_eq_getElem?_getD, hxe]; rfl, Int.toNat_natCast] at hat
    clear hxe
    obtain ⟨ad, rfl, h0, h1, h2, h3, h4⟩ := hat
    have HK0 := Aside0.mk (k78_mk w0 x )
    replace h0 := pw_cell_below HBR.out h0
    replace h1 := pw_cell_below HBR.out h1
    replace h2 := pw_cell_below HBR.out h2
    replace h3 := pw_cell_below HBR.out h3
    replace h4 := pw_cell_below HBR.out h4
    go_wp2_with fail
    refine (HE.out x _ w0 _ (HA.out x (List.mem_of_getElem? HX.out)) HK0.out (below_alloc HBR.out _) base g v' _ hbase (HS.out.pen.alloc _) (by have := HN.out k; have := HL.out; simp only [List.length_append]; omega)).mono ?_
    rintro e w2 ⟨rfl, hw⟩
    obtain ⟨v2, hs2⟩ := (HS.out.lay _).step hw
    have HS2 := Aside0.mk (hs2.less (B' := fun _ _ => False) (fun _ _ h => h.elim))
    clear hs2 hw h0 h1 h2 h3 h4
    go_wp2_with fail
    go_roundw
    case rel => exact ⟨k + 1, by go_num, by omega, v2, ⟨by rw [flat_snoc HX.out, ← List.append_assoc]; exact HS2.out⟩⟩
    case measure => simp [intOf]; omega
  · go_wp2_with fail
    go_end0
    exact ⟨rfl, by have h := HS.out.wrote; rw [List.take_of_length_le (by omega)] at h; unfold encList; rw [← List.append_assoc]; exact h⟩
def PutWatch (K : FuncId) (enc : S96 → List Int) (ok : S96 → Prop) (n : Nat) : Prop :=
 ∀ (x : S96) (cs : List Value) (w0 W : World), ok x → k96.K w0 x cs → Below w0.heap.size w0 W → ∀ (base g : Nat) (v : Value) (bs : List Int), w0.heap.size ≤ base → Pen 127 W base g v bs → bs.length + n ≤ 140737488355328 →
  Calls Tryz.prog K #[.pointer (some ⟨g, 0, none⟩), .agg cs.toArray] W fun e W' => e = .returned (.tuple #[]) ∧ Wrote 127 W W' base g v (bs ++ enc x)
set_option maxRecDepth 100000 in
set_option maxHeartbeats 1000000 in
theorem putList_Watch (K : FuncId) (hK : ∀ (args : Array Value) (w : World), (callFunc K args).run Tryz.prog w = .ok (.enter K args) w) (enc : S96 → List Int) (ok : S96 → Prop) (n : Nat) (hE : PutWatch K enc ok n) (hn : ∀ x, ok x → (enc x).length ≤ n)
  (A : Option Addr) (c : Nat) (xs : List S96) (w0 W : World) (hC : k96.C w0 A xs.length xs) (hall : ∀ x ∈ xs, ok x) (hb : Below w0.heap.size w0 W) (base g : Nat) (v : Value) (bs : List Int) (hbase : w0.heap.size ≤ base) (hp : Pen 127 W base g v bs) (hlen : xs.length ≤ 1000) (hl : bs.length + 5 + xs.length * n + n ≤ 140737488355328) :
  Calls Tryz.prog 229 #[.pointer (some ⟨g, 0, none⟩), .slice A xs.length c, .func (.func K) #[] #[]] W fun e W' => e = .returned (.tuple #[]) ∧ Wrote 127 W W' base g v (bs ++ encList enc xs) := by
 have HS0 := Aside0.mk (Pend.begin_ hp)
 have HP := Aside0.mk hp
 have HE := Aside0.mk hE
 have HN := Aside0.mk (fun k => flat_take k hn hall)
 have HC := Aside0.mk hC
 have HA := Aside0.mk hall
 have HB := Aside0.mk hb
 have HL := Aside0.mk hl
 have e0 := num_le (xs.length : Int)
 clear hp hE hn hC hall hb hl
 go_enter Tryz.func229, Tryz.ntmps229
 go_wp2_with fail
 refine (Pend.num HS0.out (xs.length : Int) ⟨by omega, by omega⟩ (by have := HL.out; omega)).mono ?_
 rintro e w1 ⟨rfl, v1, hs1⟩
 have HS1 := Aside0.mk hs1
 clear hs1
 go_wp2_with fail
 go_loopw [14] (fun v14 wr => ∃ k : Nat, v14 = .int .i64 k ∧ k ≤ xs.length ∧ ∃ v' : Value, Aside0 (Pend 127 W wr base g v v' (bs ++ encNum (xs.length : Int) ++ (xs.take k).flatMap enc) (fun _ _ => False))) (fun v14 _ => xs.length - (intOf v14).toNat)
 case atStart => exact ⟨0, rfl, Nat.zero_le _, v1, ⟨by simpa using HS1.out⟩⟩
 case round =>
  obtain ⟨k, rfl, hk, v', HS⟩ := hrel
  by_cases hlt : k < xs.length
  · obtain ⟨x, hxe⟩ : ∃ x, xs[k]? = some x := ⟨_, List.getElem?_eq_getElem hlt⟩
    have HX := Aside0.mk hxe
    have HBR := Aside0.mk (HS.out.above HP.out HB.out hbase)
    have hat := at_T96 HC.out (k : Int) (by omega) (by omega)
    rw [show rd_T96 xs (k : Int) = x by unfold rd_T96; rw [Int.toNat_natCast, List.getD_eq_getElem?_getD, hxe]; rfl, Int.toNat_natCast] at hat
    clear hxe
    obtain ⟨ad, rfl, h0, h1, h2, h3⟩ := hat
    have HK0 := Aside0.mk (k96_mk w0 x )
    replace h0 := pw_cell_below HBR.out h0
    replace h1 := pw_cell_below HBR.out h1
    replace h2 := pw_cell_below HBR.out h2
    replace h3 := pw_cell_below HBR.out h3
    go_wp2_with fail
    refine (HE.out x _ w0 _ (HA.out x (List.mem_of_getElem? HX.out)) HK0.out (below_alloc HBR.out _) base g v' _ hbase (HS.out.pen.alloc _) (by have := HN.out k; have := HL.out; simp only [List.length_append]; omega)).mono ?_
    rintro e w2 ⟨rfl, hw⟩
    obtain ⟨v2, hs2⟩ := (HS.out.lay _).step hw
    have HS2 := Aside0.mk (hs2.less (B' := fun _ _ => False) (fun _ _ h => h.elim))
    clear hs2 hw h0 h1 h2 h3
    go_wp2_with fail
    go_roundw
    case rel => exact ⟨k + 1, by go_num, by omega, v2, ⟨by rw [flat_snoc HX.out, ← List.append_assoc]; exact HS2.out⟩⟩
    case measure => simp [intOf]; omega
  · go_wp2_with fail
    go_end0
    exact ⟨rfl, by have h := HS.out.wrote; rw [List.take_of_length_le (by omega)] at h; unfold encList; rw [← List.append_assoc]; exact h⟩
def PutSeen (K : FuncId) (enc : S88 → List Int) (ok : S88 → Prop) (n : Nat) : Prop :=
 ∀ (x : S88) (cs : List Value) (w0 W : World), ok x → k88.K w0 x cs → Below w0.heap.size w0 W → ∀ (base g : Nat) (v : Value) (bs : List Int), w0.heap.size ≤ base → Pen 127 W base g v bs → bs.length + n ≤ 140737488355328 →
  Calls Tryz.prog K #[.pointer (some ⟨g, 0, none⟩), .agg cs.toArray] W fun e W' => e = .returned (.tuple #[]) ∧ Wrote 127 W W' base g v (bs ++ enc x)
set_option maxRecDepth 100000 in
set_option maxHeartbeats 1000000 in
theorem putList_Seen (K : FuncId) (hK : ∀ (args : Array Value) (w : World), (callFunc K args).run Tryz.prog w = .ok (.enter K args) w) (enc : S88 → List Int) (ok : S88 → Prop) (n : Nat) (hE : PutSeen K enc ok n) (hn : ∀ x, ok x → (enc x).length ≤ n)
  (A : Option Addr) (c : Nat) (xs : List S88) (w0 W : World) (hC : k88.C w0 A xs.length xs) (hall : ∀ x ∈ xs, ok x) (hb : Below w0.heap.size w0 W) (base g : Nat) (v : Value) (bs : List Int) (hbase : w0.heap.size ≤ base) (hp : Pen 127 W base g v bs) (hlen : xs.length ≤ 1000) (hl : bs.length + 5 + xs.length * n + n ≤ 140737488355328) :
  Calls Tryz.prog 257 #[.pointer (some ⟨g, 0, none⟩), .slice A xs.length c, .func (.func K) #[] #[]] W fun e W' => e = .returned (.tuple #[]) ∧ Wrote 127 W W' base g v (bs ++ encList enc xs) := by
 have HS0 := Aside0.mk (Pend.begin_ hp)
 have HP := Aside0.mk hp
 have HE := Aside0.mk hE
 have HN := Aside0.mk (fun k => flat_take k hn hall)
 have HC := Aside0.mk hC
 have HA := Aside0.mk hall
 have HB := Aside0.mk hb
 have HL := Aside0.mk hl
 have e0 := num_le (xs.length : Int)
 clear hp hE hn hC hall hb hl
 go_enter Tryz.func257, Tryz.ntmps257
 go_wp2_with fail
 refine (Pend.num HS0.out (xs.length : Int) ⟨by omega, by omega⟩ (by have := HL.out; omega)).mono ?_
 rintro e w1 ⟨rfl, v1, hs1⟩
 have HS1 := Aside0.mk hs1
 clear hs1
 go_wp2_with fail
 go_loopw [14] (fun v14 wr => ∃ k : Nat, v14 = .int .i64 k ∧ k ≤ xs.length ∧ ∃ v' : Value, Aside0 (Pend 127 W wr base g v v' (bs ++ encNum (xs.length : Int) ++ (xs.take k).flatMap enc) (fun _ _ => False))) (fun v14 _ => xs.length - (intOf v14).toNat)
 case atStart => exact ⟨0, rfl, Nat.zero_le _, v1, ⟨by simpa using HS1.out⟩⟩
 case round =>
  obtain ⟨k, rfl, hk, v', HS⟩ := hrel
  by_cases hlt : k < xs.length
  · obtain ⟨x, hxe⟩ : ∃ x, xs[k]? = some x := ⟨_, List.getElem?_eq_getElem hlt⟩
    have HX := Aside0.mk hxe
    have HBR := Aside0.mk (HS.out.above HP.out HB.out hbase)
    have hat := at_T88 HC.out (k : Int) (by omega) (by omega)
    rw [show rd_T88 xs (k : Int) = x by unfold rd_T88; rw [Int.toNat_natCast, List.getD_eq_getElem?_getD, hxe]; rfl, Int.toNat_natCast] at hat
    clear hxe
    obtain ⟨ad, rfl, h0, h1, h2⟩ := hat
    have HK0 := Aside0.mk (k88_mk w0 x )
    replace h0 := pw_cell_below HBR.out h0
    replace h1 := pw_cell_below HBR.out h1
    replace h2 := pw_cell_below HBR.out h2
    go_wp2_with fail
    refine (HE.out x _ w0 _ (HA.out x (List.mem_of_getElem? HX.out)) HK0.out (below_alloc HBR.out _) base g v' _ hbase (HS.out.pen.alloc _) (by have := HN.out k; have := HL.out; simp only [List.length_append]; omega)).mono ?_
    rintro e w2 ⟨rfl, hw⟩
    obtain ⟨v2, hs2⟩ := (HS.out.lay _).step hw
    have HS2 := Aside0.mk (hs2.less (B' := fun _ _ => False) (fun _ _ h => h.elim))
    clear hs2 hw h0 h1 h2
    go_wp2_with fail
    go_roundw
    case rel => exact ⟨k + 1, by go_num, by omega, v2, ⟨by rw [flat_snoc HX.out, ← List.append_assoc]; exact HS2.out⟩⟩
    case measure => simp [intOf]; omega
  · go_wp2_with fail
    go_end0
    exact ⟨rfl, by have h := HS.out.wrote; rw [List.take_of_length_le (by omega)] at h; unfold encList; rw [← List.append_assoc]; exact h⟩
def PutEntry (K : FuncId) (enc : S55 → List Int) (ok : S55 → Prop) (n : Nat) : Prop :=
 ∀ (x : S55) (cs : List Value) (w0 W : World), ok x → k55.K w0 x cs → Below w0.heap.size w0 W → ∀ (base g : Nat) (v : Value) (bs : List Int), w0.heap.size ≤ base → Pen 127 W base g v bs → bs.length + n ≤ 140737488355328 →
  Calls Tryz.prog K #[.pointer (some ⟨g, 0, none⟩), .agg cs.toArray] W fun e W' => e = .returned (.tuple #[]) ∧ Wrote 127 W W' base g v (bs ++ enc x)
set_option maxRecDepth 100000 in
set_option maxHeartbeats 1000000 in
theorem putList_Entry (K : FuncId) (hK : ∀ (args : Array Value) (w : World), (callFunc K args).run Tryz.prog w = .ok (.enter K args) w) (enc : S55 → List Int) (ok : S55 → Prop) (n : Nat) (hE : PutEntry K enc ok n) (hn : ∀ x, ok x → (enc x).length ≤ n)
  (A : Option Addr) (c : Nat) (xs : List S55) (w0 W : World) (hC : k55.C w0 A xs.length xs) (hall : ∀ x ∈ xs, ok x) (hb : Below w0.heap.size w0 W) (base g : Nat) (v : Value) (bs : List Int) (hbase : w0.heap.size ≤ base) (hp : Pen 127 W base g v bs) (hlen : xs.length ≤ 1000) (hl : bs.length + 5 + xs.length * n + n ≤ 140737488355328) :
  Calls Tryz.prog 196 #[.pointer (some ⟨g, 0, none⟩), .slice A xs.length c, .func (.func K) #[] #[]] W fun e W' => e = .returned (.tuple #[]) ∧ Wrote 127 W W' base g v (bs ++ encList enc xs) := by
 have HS0 := Aside0.mk (Pend.begin_ hp)
 have HP := Aside0.mk hp
 have HE := Aside0.mk hE
 have HN := Aside0.mk (fun k => flat_take k hn hall)
 have HC := Aside0.mk hC
 have HA := Aside0.mk hall
 have HB := Aside0.mk hb
 have HL := Aside0.mk hl
 have e0 := num_le (xs.length : Int)
 clear hp hE hn hC hall hb hl
 go_enter Tryz.func196, Tryz.ntmps196
 go_wp2_with fail
 refine (Pend.num HS0.out (xs.length : Int) ⟨by omega, by omega⟩ (by have := HL.out; omega)).mono ?_
 rintro e w1 ⟨rfl, v1, hs1⟩
 have HS1 := Aside0.mk hs1
 clear hs1
 go_wp2_with fail
 go_loopw [14] (fun v14 wr => ∃ k : Nat, v14 = .int .i64 k ∧ k ≤ xs.length ∧ ∃ v' : Value, Aside0 (Pend 127 W wr base g v v' (bs ++ encNum (xs.length : Int) ++ (xs.take k).flatMap enc) (fun _ _ => False))) (fun v14 _ => xs.length - (intOf v14).toNat)
 case atStart => exact ⟨0, rfl, Nat.zero_le _, v1, ⟨by simpa using HS1.out⟩⟩
 case round =>
  obtain ⟨k, rfl, hk, v', HS⟩ := hrel
  by_cases hlt : k < xs.length
  · obtain ⟨x, hxe⟩ : ∃ x, xs[k]? = some x := ⟨_, List.getElem?_eq_getElem hlt⟩
    have HX := Aside0.mk hxe
    have HBR := Aside0.mk (HS.out.above HP.out HB.out hbase)
    have hat := at_T55 HC.out (k : Int) (by omega) (by omega)
    rw [show rd_T55 xs (k : Int) = x by unfold rd_T55; rw [Int.toNat_natCast, List.getD_eq_getElem?_getD, hxe]; rfl, Int.toNat_natCast] at hat
    clear hxe
    obtain ⟨ad, A5, c5, rfl, h0, h1, h2, h3, h4, h5, l5, g5⟩ := hat
    have HK0 := Aside0.mk (k55_mk w0 x l5 g5)
    replace h0 := pw_cell_below HBR.out h0
    replace h1 := pw_cell_below HBR.out h1
    replace h2 := pw_cell_below HBR.out h2
    replace h3 := pw_cell_below HBR.out h3
    replace h4 := pw_cell_below HBR.out h4
    replace h5 := pw_cell_below HBR.out h5
    clear l5 g5
    go_wp2_with fail
    refine (HE.out x _ w0 _ (HA.out x (List.mem_of_getElem? HX.out)) HK0.out (below_alloc HBR.out _) base g v' _ hbase (HS.out.pen.alloc _) (by have := HN.out k; have := HL.out; simp only [List.length_append]; omega)).mono ?_
    rintro e w2 ⟨rfl, hw⟩
    obtain ⟨v2, hs2⟩ := (HS.out.lay _).step hw
    have HS2 := Aside0.mk (hs2.less (B' := fun _ _ => False) (fun _ _ h => h.elim))
    clear hs2 hw h0 h1 h2 h3 h4 h5
    go_wp2_with fail
    go_roundw
    case rel => exact ⟨k + 1, by go_num, by omega, v2, ⟨by rw [flat_snoc HX.out, ← List.append_assoc]; exact HS2.out⟩⟩
    case measure => simp [intOf]; omega
  · go_wp2_with fail
    go_end0
    exact ⟨rfl, by have h := HS.out.wrote; rw [List.take_of_length_le (by omega)] at h; unfold encList; rw [← List.append_assoc]; exact h⟩
def Putstring (K : FuncId) (enc : ByteArray → List Int) (ok : ByteArray → Prop) (n : Nat) : Prop :=
 ∀ (x : ByteArray) (W : World), ok x → ∀ (base g : Nat) (v : Value) (bs : List Int), Pen 127 W base g v bs → bs.length + n ≤ 140737488355328 →
  Calls Tryz.prog K #[.pointer (some ⟨g, 0, none⟩), .string x] W fun e W' => e = .returned (.tuple #[]) ∧ Wrote 127 W W' base g v (bs ++ enc x)
set_option maxRecDepth 100000 in
set_option maxHeartbeats 1000000 in
theorem putList_string (K : FuncId) (hK : ∀ (args : Array Value) (w : World), (callFunc K args).run Tryz.prog w = .ok (.enter K args) w) (enc : ByteArray → List Int) (ok : ByteArray → Prop) (n : Nat) (hE : Putstring K enc ok n) (hn : ∀ x, ok x → (enc x).length ≤ n)
  (A : Option Addr) (c : Nat) (xs : List ByteArray) (w0 W : World) (hC : Kd.string.C w0 A xs.length xs) (hall : ∀ x ∈ xs, ok x) (hb : Below w0.heap.size w0 W) (base g : Nat) (v : Value) (bs : List Int) (hbase : w0.heap.size ≤ base) (hp : Pen 127 W base g v bs) (hlen : xs.length ≤ 1000) (hl : bs.length + 5 + xs.length * n + n ≤ 140737488355328) :
  Calls Tryz.prog 267 #[.pointer (some ⟨g, 0, none⟩), .slice A xs.length c, .func (.func K) #[] #[]] W fun e W' => e = .returned (.tuple #[]) ∧ Wrote 127 W W' base g v (bs ++ encList enc xs) := by
 have HS0 := Aside0.mk (Pend.begin_ hp)
 have HP := Aside0.mk hp
 have HE := Aside0.mk hE
 have HN := Aside0.mk (fun k => flat_take k hn hall)
 have HC := Aside0.mk hC
 have HA := Aside0.mk hall
 have HB := Aside0.mk hb
 have HL := Aside0.mk hl
 have e0 := num_le (xs.length : Int)
 clear hp hE hn hC hall hb hl
 go_enter Tryz.func267, Tryz.ntmps267
 go_wp2_with fail
 refine (Pend.num HS0.out (xs.length : Int) ⟨by omega, by omega⟩ (by have := HL.out; omega)).mono ?_
 rintro e w1 ⟨rfl, v1, hs1⟩
 have HS1 := Aside0.mk hs1
 clear hs1
 go_wp2_with fail
 go_loopw [14] (fun v14 wr => ∃ k : Nat, v14 = .int .i64 k ∧ k ≤ xs.length ∧ ∃ v' : Value, Aside0 (Pend 127 W wr base g v v' (bs ++ encNum (xs.length : Int) ++ (xs.take k).flatMap enc) (fun _ _ => False))) (fun v14 _ => xs.length - (intOf v14).toNat)
 case atStart => exact ⟨0, rfl, Nat.zero_le _, v1, ⟨by simpa using HS1.out⟩⟩
 case round =>
  obtain ⟨k, rfl, hk, v', HS⟩ := hrel
  by_cases hlt : k < xs.length
  · obtain ⟨x, hxe⟩ : ∃ x, xs[k]? = some x := ⟨_, List.getElem?_eq_getElem hlt⟩
    have HX := Aside0.mk hxe
    have HBR := Aside0.mk (HS.out.above HP.out HB.out hbase)
    obtain ⟨ad, rfl, h0⟩ := Kd.at_string HC.out (k : Int) (by omega) (by omega)
    rw [show rdOf ByteArray.empty xs (k : Int) = x by unfold rdOf; rw [Int.toNat_natCast, List.getD_eq_getElem?_getD, hxe]; rfl, Int.toNat_natCast] at h0
    clear hxe
    replace h0 := pw_cell_below HBR.out h0
    go_wp2_with fail
    refine (HE.out x _ (HA.out x (List.mem_of_getElem? HX.out)) base g v' _ HS.out.pen (by have := HN.out k; have := HL.out; simp only [List.length_append]; omega)).mono ?_
    rintro e w2 ⟨rfl, hw⟩
    obtain ⟨v2, hs2⟩ := HS.out.step hw
    have HS2 := Aside0.mk (hs2.less (B' := fun _ _ => False) (fun _ _ h => h.elim))
    clear hs2 hw h0
    go_wp2_with fail
    go_roundw
    case rel => exact ⟨k + 1, by go_num, by omega, v2, ⟨by rw [flat_snoc HX.out, ← List.append_assoc]; exact HS2.out⟩⟩
    case measure => simp [intOf]; omega
  · go_wp2_with fail
    go_end0
    exact ⟨rfl, by have h := HS.out.wrote; rw [List.take_of_length_le (by omega)] at h; unfold encList; rw [← List.append_assoc]; exact h⟩
def Putint (K : FuncId) (enc : Int → List Int) (ok : Int → Prop) (n : Nat) : Prop :=
 ∀ (x : Int) (W : World), ok x → ∀ (base g : Nat) (v : Value) (bs : List Int), Pen 127 W base g v bs → bs.length + n ≤ 140737488355328 →
  Calls Tryz.prog K #[.pointer (some ⟨g, 0, none⟩), .int .i64 x] W fun e W' => e = .returned (.tuple #[]) ∧ Wrote 127 W W' base g v (bs ++ enc x)
set_option maxRecDepth 100000 in
set_option maxHeartbeats 1000000 in
theorem putList_int (K : FuncId) (hK : ∀ (args : Array Value) (w : World), (callFunc K args).run Tryz.prog w = .ok (.enter K args) w) (enc : Int → List Int) (ok : Int → Prop) (n : Nat) (hE : Putint K enc ok n) (hn : ∀ x, ok x → (enc x).length ≤ n)
  (A : Option Addr) (c : Nat) (xs : List Int) (w0 W : World) (hC : (Kd.int .i64).C w0 A xs.length xs) (hall : ∀ x ∈ xs, ok x) (hb : Below w0.heap.size w0 W) (base g : Nat) (v : Value) (bs : List Int) (hbase : w0.heap.size ≤ base) (hp : Pen 127 W base g v bs) (hlen : xs.length ≤ 1000) (hl : bs.length + 5 + xs.length * n + n ≤ 140737488355328) :
  Calls Tryz.prog 276 #[.pointer (some ⟨g, 0, none⟩), .slice A xs.length c, .func (.func K) #[] #[]] W fun e W' => e = .returned (.tuple #[]) ∧ Wrote 127 W W' base g v (bs ++ encList enc xs) := by
 have HS0 := Aside0.mk (Pend.begin_ hp)
 have HP := Aside0.mk hp
 have HE := Aside0.mk hE
 have HN := Aside0.mk (fun k => flat_take k hn hall)
 have HC := Aside0.mk hC
 have HA := Aside0.mk hall
 have HB := Aside0.mk hb
 have HL := Aside0.mk hl
 have e0 := num_le (xs.length : Int)
 clear hp hE hn hC hall hb hl
 go_enter Tryz.func276, Tryz.ntmps276
 go_wp2_with fail
 refine (Pend.num HS0.out (xs.length : Int) ⟨by omega, by omega⟩ (by have := HL.out; omega)).mono ?_
 rintro e w1 ⟨rfl, v1, hs1⟩
 have HS1 := Aside0.mk hs1
 clear hs1
 go_wp2_with fail
 go_loopw [14] (fun v14 wr => ∃ k : Nat, v14 = .int .i64 k ∧ k ≤ xs.length ∧ ∃ v' : Value, Aside0 (Pend 127 W wr base g v v' (bs ++ encNum (xs.length : Int) ++ (xs.take k).flatMap enc) (fun _ _ => False))) (fun v14 _ => xs.length - (intOf v14).toNat)
 case atStart => exact ⟨0, rfl, Nat.zero_le _, v1, ⟨by simpa using HS1.out⟩⟩
 case round =>
  obtain ⟨k, rfl, hk, v', HS⟩ := hrel
  by_cases hlt : k < xs.length
  · obtain ⟨x, hxe⟩ : ∃ x, xs[k]? = some x := ⟨_, List.getElem?_eq_getElem hlt⟩
    have HX := Aside0.mk hxe
    have HBR := Aside0.mk (HS.out.above HP.out HB.out hbase)
    obtain ⟨ad, rfl, h0⟩ := Kd.at_int HC.out (k : Int) (by omega) (by omega)
    rw [show rd xs (k : Int) = x by unfold rd; rw [Int.toNat_natCast, List.getD_eq_getElem?_getD, hxe]; rfl, Int.toNat_natCast] at h0
    clear hxe
    replace h0 := pw_cell_below HBR.out h0
    go_wp2_with fail
    refine (HE.out x _ (HA.out x (List.mem_of_getElem? HX.out)) base g v' _ HS.out.pen (by have := HN.out k; have := HL.out; simp only [List.length_append]; omega)).mono ?_
    rintro e w2 ⟨rfl, hw⟩
    obtain ⟨v2, hs2⟩ := HS.out.step hw
    have HS2 := Aside0.mk (hs2.less (B' := fun _ _ => False) (fun _ _ h => h.elim))
    clear hs2 hw h0
    go_wp2_with fail
    go_roundw
    case rel => exact ⟨k + 1, by go_num, by omega, v2, ⟨by rw [flat_snoc HX.out, ← List.append_assoc]; exact HS2.out⟩⟩
    case measure => simp [intOf]; omega
  · go_wp2_with fail
    go_end0
    exact ⟨rfl, by have h := HS.out.wrote; rw [List.take_of_length_le (by omega)] at h; unfold encList; rw [← List.append_assoc]; exact h⟩
end Go.Proofs.YtmneemhplffemaaGreatDoorRR.Put
namespace Go.Proofs.YtmneemhplffemaaGreatDoorRR.Put
open Go.RowKit Go.Proofs.YtmneemhplffemaaGreatDoorRR.Ext Go.Proofs.YtmneemhplffemaaGreatDoorRR.Wire Go.Proofs.YtmneemhplffemaaGreatDoorRR.Mem Go.Proofs.YtmneemhplffemaaGreatDoorRR.Ki Go.Proofs.YtmneemhplffemaaGreatDoorRRW.PrintWords
def PutResult (K : FuncId) (enc : S81 → List Int) (ok : S81 → Prop) (n : Nat) : Prop :=
 ∀ (x : S81) (cs : List Value) (w0 W : World), ok x → k81.K w0 x cs → Below w0.heap.size w0 W → ∀ (base g : Nat) (v : Value) (bs : List Int), w0.heap.size ≤ base → Pen 127 W base g v bs → bs.length + n ≤ 140737488355328 →
  Calls Tryz.prog K #[.pointer (some ⟨g, 0, none⟩), .agg cs.toArray] W fun e W' => e = .returned (.tuple #[]) ∧ Wrote 127 W W' base g v (bs ++ enc x)
set_option maxRecDepth 100000 in
set_option maxHeartbeats 1000000 in
theorem putList_Result (K : FuncId) (hK : ∀ (args : Array Value) (w : World), (callFunc K args).run Tryz.prog w = .ok (.enter K args) w) (enc : S81 → List Int) (ok : S81 → Prop) (n : Nat) (hE : PutResult K enc ok n) (hn : ∀ x, ok x → (enc x).length ≤ n)
  (A : Option Addr) (c : Nat) (xs : List S81) (w0 W : World) (hC : k81.C w0 A xs.length xs) (hall : ∀ x ∈ xs, ok x) (hb : Below w0.heap.size w0 W) (base g : Nat) (v : Value) (bs : List Int) (hbase : w0.heap.size ≤ base) (hp : Pen 127 W base g v bs) (hlen : xs.length ≤ 1000) (hl : bs.length + 5 + xs.length * n + n ≤ 140737488355328) :
  Calls Tryz.prog 243 #[.pointer (some ⟨g, 0, none⟩), .slice A xs.length c, .func (.func K) #[] #[]] W fun e W' => e = .returned (.tuple #[]) ∧ Wrote 127 W W' base g v (bs ++ encList enc xs) := by
 have HS0 := Aside0.mk (Pend.begin_ hp)
 have HP := Aside0.mk hp
 have HE := Aside0.mk hE
 have HN := Aside0.mk (fun k => flat_take k hn hall)
 have HC := Aside0.mk hC
 have HA := Aside0.mk hall
 have HB := Aside0.mk hb
 have HL := Aside0.mk hl
 have e0 := num_le (xs.length : Int)
 clear hp hE hn hC hall hb hl
 go_enter Tryz.func243, Tryz.ntmps243
 go_wp2_with fail
 refine (Pend.num HS0.out (xs.length : Int) ⟨by omega, by omega⟩ (by have := HL.out; omega)).mono ?_
 rintro e w1 ⟨rfl, v1, hs1⟩
 have HS1 := Aside0.mk hs1
 clear hs1
 go_wp2_with fail
 go_loopw [14] (fun v14 wr => ∃ k : Nat, v14 = .int .i64 k ∧ k ≤ xs.length ∧ ∃ v' : Value, Aside0 (Pend 127 W wr base g v v' (bs ++ encNum (xs.length : Int) ++ (xs.take k).flatMap enc) (fun _ _ => False))) (fun v14 _ => xs.length - (intOf v14).toNat)
 case atStart => exact ⟨0, rfl, Nat.zero_le _, v1, ⟨by simpa using HS1.out⟩⟩
 case round =>
  obtain ⟨k, rfl, hk, v', HS⟩ := hrel
  by_cases hlt : k < xs.length
  · obtain ⟨x, hxe⟩ : ∃ x, xs[k]? = some x := ⟨_, List.getElem?_eq_getElem hlt⟩
    have HX := Aside0.mk hxe
    have HBR := Aside0.mk (HS.out.above HP.out HB.out hbase)
    have hat := at_T81 HC.out (k : Int) (by omega) (by omega)
    rw [show rd_T81 xs (k : Int) = x by unfold rd_T81; rw [Int.toNat_natCast, List.getD_eq_getElem?_getD, hxe]; rfl, Int.toNat_natCast] at hat
    clear hxe
    obtain ⟨ad, A6, c6, rfl, h0, h1, h2, h3, h4, h5, h6, l6, g6⟩ := hat
    have HK0 := Aside0.mk (k81_mk w0 x l6 g6)
    replace h0 := pw_cell_below HBR.out h0
    replace h1 := pw_cell_below HBR.out h1
    replace h2 := pw_cell_below HBR.out h2
    replace h3 := pw_cell_below HBR.out h3
    replace h4 := pw_cell_below HBR.out h4
    replace h5 := pw_cell_below HBR.out h5
    replace h6 := pw_cell_below HBR.out h6
    clear l6 g6
    go_wp2_with fail
    refine (HE.out x _ w0 _ (HA.out x (List.mem_of_getElem? HX.out)) HK0.out (below_alloc HBR.out _) base g v' _ hbase (HS.out.pen.alloc _) (by have := HN.out k; have := HL.out; simp only [List.length_append]; omega)).mono ?_
    rintro e w2 ⟨rfl, hw⟩
    obtain ⟨v2, hs2⟩ := (HS.out.lay _).step hw
    have HS2 := Aside0.mk (hs2.less (B' := fun _ _ => False) (fun _ _ h => h.elim))
    clear hs2 hw h0 h1 h2 h3 h4 h5 h6
    go_wp2_with fail
    go_roundw
    case rel => exact ⟨k + 1, by go_num, by omega, v2, ⟨by rw [flat_snoc HX.out, ← List.append_assoc]; exact HS2.out⟩⟩
    case measure => simp [intOf]; omega
  · go_wp2_with fail
    go_end0
    exact ⟨rfl, by have h := HS.out.wrote; rw [List.take_of_length_le (by omega)] at h; unfold encList; rw [← List.append_assoc]; exact h⟩
def PutPart (K : FuncId) (enc : S86 → List Int) (ok : S86 → Prop) (n : Nat) : Prop :=
 ∀ (x : S86) (cs : List Value) (w0 W : World), ok x → k86.K w0 x cs → Below w0.heap.size w0 W → ∀ (base g : Nat) (v : Value) (bs : List Int), w0.heap.size ≤ base → Pen 127 W base g v bs → bs.length + n ≤ 140737488355328 →
  Calls Tryz.prog K #[.pointer (some ⟨g, 0, none⟩), .agg cs.toArray] W fun e W' => e = .returned (.tuple #[]) ∧ Wrote 127 W W' base g v (bs ++ enc x)
set_option maxRecDepth 100000 in
set_option maxHeartbeats 1000000 in
theorem putList_Part (K : FuncId) (hK : ∀ (args : Array Value) (w : World), (callFunc K args).run Tryz.prog w = .ok (.enter K args) w) (enc : S86 → List Int) (ok : S86 → Prop) (n : Nat) (hE : PutPart K enc ok n) (hn : ∀ x, ok x → (enc x).length ≤ n)
  (A : Option Addr) (c : Nat) (xs : List S86) (w0 W : World) (hC : k86.C w0 A xs.length xs) (hall : ∀ x ∈ xs, ok x) (hb : Below w0.heap.size w0 W) (base g : Nat) (v : Value) (bs : List Int) (hbase : w0.heap.size ≤ base) (hp : Pen 127 W base g v bs) (hlen : xs.length ≤ 1000) (hl : bs.length + 5 + xs.length * n + n ≤ 140737488355328) :
  Calls Tryz.prog 212 #[.pointer (some ⟨g, 0, none⟩), .slice A xs.length c, .func (.func K) #[] #[]] W fun e W' => e = .returned (.tuple #[]) ∧ Wrote 127 W W' base g v (bs ++ encList enc xs) := by
 have HS0 := Aside0.mk (Pend.begin_ hp)
 have HP := Aside0.mk hp
 have HE := Aside0.mk hE
 have HN := Aside0.mk (fun k => flat_take k hn hall)
 have HC := Aside0.mk hC
 have HA := Aside0.mk hall
 have HB := Aside0.mk hb
 have HL := Aside0.mk hl
 have e0 := num_le (xs.length : Int)
 clear hp hE hn hC hall hb hl
 go_enter Tryz.func212, Tryz.ntmps212
 go_wp2_with fail
 refine (Pend.num HS0.out (xs.length : Int) ⟨by omega, by omega⟩ (by have := HL.out; omega)).mono ?_
 rintro e w1 ⟨rfl, v1, hs1⟩
 have HS1 := Aside0.mk hs1
 clear hs1
 go_wp2_with fail
 go_loopw [14] (fun v14 wr => ∃ k : Nat, v14 = .int .i64 k ∧ k ≤ xs.length ∧ ∃ v' : Value, Aside0 (Pend 127 W wr base g v v' (bs ++ encNum (xs.length : Int) ++ (xs.take k).flatMap enc) (fun _ _ => False))) (fun v14 _ => xs.length - (intOf v14).toNat)
 case atStart => exact ⟨0, rfl, Nat.zero_le _, v1, ⟨by simpa using HS1.out⟩⟩
 case round =>
  obtain ⟨k, rfl, hk, v', HS⟩ := hrel
  by_cases hlt : k < xs.length
  · obtain ⟨x, hxe⟩ : ∃ x, xs[k]? = some x := ⟨_, List.getElem?_eq_getElem hlt⟩
    have HX := Aside0.mk hxe
    have HBR := Aside0.mk (HS.out.above HP.out HB.out hbase)
    have hat := at_T86 HC.out (k : Int) (by omega) (by omega)
    rw [show rd_T86 xs (k : Int) = x by unfold rd_T86; rw [Int.toNat_natCast, List.getD_eq_getElem?_getD, hxe]; rfl, Int.toNat_natCast] at hat
    clear hxe
    obtain ⟨ad, A4, c4, rfl, h0, h1, h2, h3, h4, l4, g4⟩ := hat
    have HK0 := Aside0.mk (k86_mk w0 x l4 g4)
    replace h0 := pw_cell_below HBR.out h0
    replace h1 := pw_cell_below HBR.out h1
    replace h2 := pw_cell_below HBR.out h2
    replace h3 := pw_cell_below HBR.out h3
    replace h4 := pw_cell_below HBR.out h4
    clear l4 g4
    go_wp2_with fail
    refine (HE.out x _ w0 _ (HA.out x (List.mem_of_getElem? HX.out)) HK0.out (below_alloc HBR.out _) base g v' _ hbase (HS.out.pen.alloc _) (by have := HN.out k; have := HL.out; simp only [List.length_append]; omega)).mono ?_
    rintro e w2 ⟨rfl, hw⟩
    obtain ⟨v2, hs2⟩ := (HS.out.lay _).step hw
    have HS2 := Aside0.mk (hs2.less (B' := fun _ _ => False) (fun _ _ h => h.elim))
    clear hs2 hw h0 h1 h2 h3 h4
    go_wp2_with fail
    go_roundw
    case rel => exact ⟨k + 1, by go_num, by omega, v2, ⟨by rw [flat_snoc HX.out, ← List.append_assoc]; exact HS2.out⟩⟩
    case measure => simp [intOf]; omega
  · go_wp2_with fail
    go_end0
    exact ⟨rfl, by have h := HS.out.wrote; rw [List.take_of_length_le (by omega)] at h; unfold encList; rw [← List.append_assoc]; exact h⟩
def PutTagged (K : FuncId) (enc : S148 → List Int) (ok : S148 → Prop) (n : Nat) : Prop :=
 ∀ (x : S148) (cs : List Value) (w0 W : World), ok x → k148.K w0 x cs → Below w0.heap.size w0 W → ∀ (base g : Nat) (v : Value) (bs : List Int), w0.heap.size ≤ base → Pen 127 W base g v bs → bs.length + n ≤ 140737488355328 →
  Calls Tryz.prog K #[.pointer (some ⟨g, 0, none⟩), .agg cs.toArray] W fun e W' => e = .returned (.tuple #[]) ∧ Wrote 127 W W' base g v (bs ++ enc x)
set_option maxRecDepth 100000 in
set_option maxHeartbeats 1000000 in
theorem putList_Tagged (K : FuncId) (hK : ∀ (args : Array Value) (w : World), (callFunc K args).run Tryz.prog w = .ok (.enter K args) w) (enc : S148 → List Int) (ok : S148 → Prop) (n : Nat) (hE : PutTagged K enc ok n) (hn : ∀ x, ok x → (enc x).length ≤ n)
  (A : Option Addr) (c : Nat) (xs : List S148) (w0 W : World) (hC : k148.C w0 A xs.length xs) (hall : ∀ x ∈ xs, ok x) (hb : Below w0.heap.size w0 W) (base g : Nat) (v : Value) (bs : List Int) (hbase : w0.heap.size ≤ base) (hp : Pen 127 W base g v bs) (hlen : xs.length ≤ 1000) (hl : bs.length + 5 + xs.length * n + n ≤ 140737488355328) :
  Calls Tryz.prog 251 #[.pointer (some ⟨g, 0, none⟩), .slice A xs.length c, .func (.func K) #[] #[]] W fun e W' => e = .returned (.tuple #[]) ∧ Wrote 127 W W' base g v (bs ++ encList enc xs) := by
 have HS0 := Aside0.mk (Pend.begin_ hp)
 have HP := Aside0.mk hp
 have HE := Aside0.mk hE
 have HN := Aside0.mk (fun k => flat_take k hn hall)
 have HC := Aside0.mk hC
 have HA := Aside0.mk hall
 have HB := Aside0.mk hb
 have HL := Aside0.mk hl
 have e0 := num_le (xs.length : Int)
 clear hp hE hn hC hall hb hl
 go_enter Tryz.func251, Tryz.ntmps251
 go_wp2_with fail
 refine (Pend.num HS0.out (xs.length : Int) ⟨by omega, by omega⟩ (by have := HL.out; omega)).mono ?_
 rintro e w1 ⟨rfl, v1, hs1⟩
 have HS1 := Aside0.mk hs1
 clear hs1
 go_wp2_with fail
 go_loopw [14] (fun v14 wr => ∃ k : Nat, v14 = .int .i64 k ∧ k ≤ xs.length ∧ ∃ v' : Value, Aside0 (Pend 127 W wr base g v v' (bs ++ encNum (xs.length : Int) ++ (xs.take k).flatMap enc) (fun _ _ => False))) (fun v14 _ => xs.length - (intOf v14).toNat)
 case atStart => exact ⟨0, rfl, Nat.zero_le _, v1, ⟨by simpa using HS1.out⟩⟩
 case round =>
  obtain ⟨k, rfl, hk, v', HS⟩ := hrel
  by_cases hlt : k < xs.length
  · obtain ⟨x, hxe⟩ : ∃ x, xs[k]? = some x := ⟨_, List.getElem?_eq_getElem hlt⟩
    have HX := Aside0.mk hxe
    have HBR := Aside0.mk (HS.out.above HP.out HB.out hbase)
    have hat := at_T148 HC.out (k : Int) (by omega) (by omega)
    rw [show rd_T148 xs (k : Int) = x by unfold rd_T148; rw [Int.toNat_natCast, List.getD_eq_getElem?_getD, hxe]; rfl, Int.toNat_natCast] at hat
    clear hxe
    obtain ⟨ad, A4, c4, rfl, h0, h1, h2, h3, h4, l4, g4⟩ := hat
    have HK0 := Aside0.mk (k148_mk w0 x l4 g4)
    replace h0 := pw_cell_below HBR.out h0
    replace h1 := pw_cell_below HBR.out h1
    replace h2 := pw_cell_below HBR.out h2
    replace h3 := pw_cell_below HBR.out h3
    replace h4 := pw_cell_below HBR.out h4
    clear l4 g4
    go_wp2_with fail
    refine (HE.out x _ w0 _ (HA.out x (List.mem_of_getElem? HX.out)) HK0.out (below_alloc HBR.out _) base g v' _ hbase (HS.out.pen.alloc _) (by have := HN.out k; have := HL.out; simp only [List.length_append]; omega)).mono ?_
    rintro e w2 ⟨rfl, hw⟩
    obtain ⟨v2, hs2⟩ := (HS.out.lay _).step hw
    have HS2 := Aside0.mk (hs2.less (B' := fun _ _ => False) (fun _ _ h => h.elim))
    clear hs2 hw h0 h1 h2 h3 h4
    go_wp2_with fail
    go_roundw
    case rel => exact ⟨k + 1, by go_num, by omega, v2, ⟨by rw [flat_snoc HX.out, ← List.append_assoc]; exact HS2.out⟩⟩
    case measure => simp [intOf]; omega
  · go_wp2_with fail
    go_end0
    exact ⟨rfl, by have h := HS.out.wrote; rw [List.take_of_length_le (by omega)] at h; unfold encList; rw [← List.append_assoc]; exact h⟩
def PutItem (K : FuncId) (enc : S91 → List Int) (ok : S91 → Prop) (n : Nat) : Prop :=
 ∀ (x : S91) (cs : List Value) (w0 W : World), ok x → k91.K w0 x cs → Below w0.heap.size w0 W → ∀ (base g : Nat) (v : Value) (bs : List Int), w0.heap.size ≤ base → Pen 127 W base g v bs → bs.length + n ≤ 140737488355328 →
  Calls Tryz.prog K #[.pointer (some ⟨g, 0, none⟩), .agg cs.toArray] W fun e W' => e = .returned (.tuple #[]) ∧ Wrote 127 W W' base g v (bs ++ enc x)
set_option maxRecDepth 100000 in
set_option maxHeartbeats 1000000 in
theorem putList_Item (K : FuncId) (hK : ∀ (args : Array Value) (w : World), (callFunc K args).run Tryz.prog w = .ok (.enter K args) w) (enc : S91 → List Int) (ok : S91 → Prop) (n : Nat) (hE : PutItem K enc ok n) (hn : ∀ x, ok x → (enc x).length ≤ n)
  (A : Option Addr) (c : Nat) (xs : List S91) (w0 W : World) (hC : k91.C w0 A xs.length xs) (hall : ∀ x ∈ xs, ok x) (hb : Below w0.heap.size w0 W) (base g : Nat) (v : Value) (bs : List Int) (hbase : w0.heap.size ≤ base) (hp : Pen 127 W base g v bs) (hlen : xs.length ≤ 1000) (hl : bs.length + 5 + xs.length * n + n ≤ 140737488355328) :
  Calls Tryz.prog 203 #[.pointer (some ⟨g, 0, none⟩), .slice A xs.length c, .func (.func K) #[] #[]] W fun e W' => e = .returned (.tuple #[]) ∧ Wrote 127 W W' base g v (bs ++ encList enc xs) := by
 have HS0 := Aside0.mk (Pend.begin_ hp)
 have HP := Aside0.mk hp
 have HE := Aside0.mk hE
 have HN := Aside0.mk (fun k => flat_take k hn hall)
 have HC := Aside0.mk hC
 have HA := Aside0.mk hall
 have HB := Aside0.mk hb
 have HL := Aside0.mk hl
 have e0 := num_le (xs.length : Int)
 clear hp hE hn hC hall hb hl
 go_enter Tryz.func203, Tryz.ntmps203
 go_wp2_with fail
 refine (Pend.num HS0.out (xs.length : Int) ⟨by omega, by omega⟩ (by have := HL.out; omega)).mono ?_
 rintro e w1 ⟨rfl, v1, hs1⟩
 have HS1 := Aside0.mk hs1
 clear hs1
 go_wp2_with fail
 go_loopw [14] (fun v14 wr => ∃ k : Nat, v14 = .int .i64 k ∧ k ≤ xs.length ∧ ∃ v' : Value, Aside0 (Pend 127 W wr base g v v' (bs ++ encNum (xs.length : Int) ++ (xs.take k).flatMap enc) (fun _ _ => False))) (fun v14 _ => xs.length - (intOf v14).toNat)
 case atStart => exact ⟨0, rfl, Nat.zero_le _, v1, ⟨by simpa using HS1.out⟩⟩
 case round =>
  obtain ⟨k, rfl, hk, v', HS⟩ := hrel
  by_cases hlt : k < xs.length
  · obtain ⟨x, hxe⟩ : ∃ x, xs[k]? = some x := ⟨_, List.getElem?_eq_getElem hlt⟩
    have HX := Aside0.mk hxe
    have HBR := Aside0.mk (HS.out.above HP.out HB.out hbase)
    have hat := at_T91 HC.out (k : Int) (by omega) (by omega)
    rw [show rd_T91 xs (k : Int) = x by unfold rd_T91; rw [Int.toNat_natCast, List.getD_eq_getElem?_getD, hxe]; rfl, Int.toNat_natCast] at hat
    clear hxe
    obtain ⟨ad, A3, c3, A4, c4, rfl, h0, h1, h2, h3, h4, l3, g3, l4, g4⟩ := hat
    have HK0 := Aside0.mk (k91_mk w0 x l3 g3 l4 g4)
    replace h0 := pw_cell_below HBR.out h0
    replace h1 := pw_cell_below HBR.out h1
    replace h2 := pw_cell_below HBR.out h2
    replace h3 := pw_cell_below HBR.out h3
    replace h4 := pw_cell_below HBR.out h4
    clear l3 g3 l4 g4
    go_wp2_with fail
    refine (HE.out x _ w0 _ (HA.out x (List.mem_of_getElem? HX.out)) HK0.out (below_alloc HBR.out _) base g v' _ hbase (HS.out.pen.alloc _) (by have := HN.out k; have := HL.out; simp only [List.length_append]; omega)).mono ?_
    rintro e w2 ⟨rfl, hw⟩
    obtain ⟨v2, hs2⟩ := (HS.out.lay _).step hw
    have HS2 := Aside0.mk (hs2.less (B' := fun _ _ => False) (fun _ _ h => h.elim))
    clear hs2 hw h0 h1 h2 h3 h4
    go_wp2_with fail
    go_roundw
    case rel => exact ⟨k + 1, by go_num, by omega, v2, ⟨by rw [flat_snoc HX.out, ← List.append_assoc]; exact HS2.out⟩⟩
    case measure => simp [intOf]; omega
  · go_wp2_with fail
    go_end0
    exact ⟨rfl, by have h := HS.out.wrote; rw [List.take_of_length_le (by omega)] at h; unfold encList; rw [← List.append_assoc]; exact h⟩
end Go.Proofs.YtmneemhplffemaaGreatDoorRR.Put
namespace Go.Proofs.YtmneemhplffemaaGreatDoorRR.Put
open Go.RowKit Go.Proofs.YtmneemhplffemaaGreatDoorRR.Ext Go.Proofs.YtmneemhplffemaaGreatDoorRR.Wire Go.Proofs.YtmneemhplffemaaGreatDoorRR.Mem Go.Proofs.YtmneemhplffemaaGreatDoorRR.Ki Go.Proofs.YtmneemhplffemaaGreatDoorRRW.PrintWords

theorem list_le {α : Type} {enc : α → List Int} {ok : α → Prop} {n : Nat} {xs : List α} (h : ∀ x, ok x → (enc x).length ≤ n) (ha : ∀ x ∈ xs, ok x) : (encList enc xs).length ≤ 5 + xs.length * n := by
 have h1 := num_le (xs.length : Int)
 have h2 := flat_le (fun x hx => h x (ha x hx))
 simp only [encList, List.length_append]
 omega
def TxtOk (s : ByteArray) : Prop := s.size ≤ 256
theorem len_string (s : ByteArray) (h : TxtOk s) : (encTxt s).length ≤ 300 := by
 have := txt_le s
 unfold TxtOk at h
 omega
theorem len_int (v : Int) (_h : isN v) : (encNum v).length ≤ 5 := num_le v
theorem put_int : Putint 277 encNum isN 5 := by
 intro x W hx base g v bs hp hl
 have HP := Aside0.mk (Pend.begin_ hp)
 have HX := Aside0.mk hx
 clear hp hx
 go_enter Tryz.func277, Tryz.ntmps277
 go_wp2_with fail
 refine (Pend.num HP.out x HX.out hl).mono ?_
 rintro e w1 ⟨rfl, v1, hs1⟩
 have HS1 := Aside0.mk hs1
 clear hs1
 go_wp2_with fail
 go_end0
 exact ⟨rfl, HS1.out.wrote⟩
theorem put_string : Putstring 268 encTxt TxtOk 300 := by
 intro x W hx base g v bs hp hl
 have HP := Aside0.mk (Pend.begin_ hp)
 have HX : x.size ≤ 256 := hx
 clear hp hx
 go_enter Tryz.func268, Tryz.ntmps268
 go_wp2_with fail
 refine (Pend.txt HP.out x (by omega) (by omega)).mono ?_
 rintro e w1 ⟨rfl, v1, hs1⟩
 have HS1 := Aside0.mk hs1
 clear hs1
 go_wp2_with fail
 go_end0
 exact ⟨rfl, HS1.out.wrote⟩
theorem put_Op : PutOp 121 encOp OpOk 2000 := fun x cs w0 W hx hk hb base g v bs _ hp hl => putOp_any x hx cs w0 W hk hb base g v bs hp hl
theorem len_Op (x : Op) (hx : OpOk x) : (encOp x).length ≤ 2000 := by
 have e0 := num_le x.f0
 have e1 := txt_le x.f1
 have e2 := txt_le x.f2
 have e3 := num_le x.f3
 have e4 := num_le x.f4
 have e90 := num_le 0
 have e91 := num_le 1
 have h1 := hx.t1
 have h2 := hx.t2
 unfold encOp
 split <;> simp only [List.length_append] <;> omega
structure WatchOk (x : S96) : Prop where
 n0 : isN x.f0
 n2 : isN x.f2
 n3 : isN x.f3
 t1 : x.f1.size ≤ 256
def encWatch (x : S96) : List Int := encNum x.f0 ++ encTxt x.f1 ++ encNum x.f2 ++ encNum x.f3
theorem len_Watch (x : S96) (hx : WatchOk x) : (encWatch x).length ≤ 300 := by
 have e0 := num_le x.f0
 have e1 := txt_le x.f1
 have h1 := hx.t1
 have e2 := num_le x.f2
 have e3 := num_le x.f3
 have e90 := num_le 0
 have e91 := num_le 1
 simp only [encWatch, List.length_append]
 omega
set_option maxRecDepth 100000 in
set_option maxHeartbeats 1000000 in
theorem putWatch_any (x : S96) (hx : WatchOk x) (cs : List Value) (w0 W : World) (hk : k96.K w0 x cs) (hb : Below w0.heap.size w0 W) (base g : Nat) (v : Value) (bs : List Int) (hbase : w0.heap.size ≤ base) (hp : Pen 127 W base g v bs) (hl : bs.length + 300 ≤ 140737488355328) :
  Calls Tryz.prog 230 #[.pointer (some ⟨g, 0, none⟩), .agg cs.toArray] W fun e W' => e = .returned (.tuple #[]) ∧ Wrote 127 W W' base g v (bs ++ encWatch x) := by
 obtain rfl := k96_open hk
 have HX := Aside0.mk hx
 have HP := Aside0.mk hp
 have HB := Aside0.mk hb
 have e0 := num_le x.f0
 have e1 := txt_le x.f1
 have h1 := hx.t1
 have e2 := num_le x.f2
 have e3 := num_le x.f3
 have e90 := num_le 0
 have e91 := num_le 1
 have HS0 := Aside0.mk ((Pend.begin_ HP.out).lay (.cells #[.int .i64 x.f0, .string x.f1, .int .i64 x.f2, .int .i64 x.f3] 96 (0, 0)))
 clear hk hp hb hx
 go_enter Tryz.func230, Tryz.ntmps230
 go_wp2_with fail
 refine (Pend.num HS0.out x.f0 HX.out.n0 (by first | omega | (simp only [List.length_append]; omega))).mono ?_
 rintro e w1 ⟨rfl, v1, hs1⟩
 have hc1 := hs1.cells (k := W.heap.size) (.inr ⟨rfl, rfl⟩)
 have HS1 := Aside0.mk hs1
 clear hs1
 go_wp2_with fail
 refine (Pend.txt HS1.out x.f1 (by have := HX.out.t1; omega) (by first | omega | (simp only [List.length_append]; omega))).mono ?_
 rintro e w2 ⟨rfl, v2, hs2⟩
 have hc2 := hs2.cells (k := W.heap.size) (.inr ⟨rfl, rfl⟩)
 have HS2 := Aside0.mk hs2
 clear hs2 hc1
 go_wp2_with fail
 refine (Pend.num HS2.out x.f2 HX.out.n2 (by first | omega | (simp only [List.length_append]; omega))).mono ?_
 rintro e w3 ⟨rfl, v3, hs3⟩
 have hc3 := hs3.cells (k := W.heap.size) (.inr ⟨rfl, rfl⟩)
 have HS3 := Aside0.mk hs3
 clear hs3 hc2
 go_wp2_with fail
 refine (Pend.num HS3.out x.f3 HX.out.n3 (by first | omega | (simp only [List.length_append]; omega))).mono ?_
 rintro e w4 ⟨rfl, v4, hs4⟩
 have hc4 := hs4.cells (k := W.heap.size) (.inr ⟨rfl, rfl⟩)
 have HS4 := Aside0.mk hs4
 clear hs4 hc3
 go_wp2_with fail
 first | go_end0 | refine bodyPost_ret (results_none rfl _ _ _) rfl ?_
 exact ⟨rfl, by unfold encWatch; simpa only [List.append_assoc] using HS4.out.wrote⟩
theorem put_Watch : PutWatch 230 encWatch WatchOk 300 := fun x cs w0 W hx hk hb base g v bs hbase hp hl => putWatch_any x hx cs w0 W hk hb base g v bs hbase hp hl
structure SeenOk (x : S88) : Prop where
 n2 : isN x.f2
 t0 : x.f0.size ≤ 256
 t1 : x.f1.size ≤ 256
def encSeen (x : S88) : List Int := encTxt x.f0 ++ encTxt x.f1 ++ encNum x.f2
theorem len_Seen (x : S88) (hx : SeenOk x) : (encSeen x).length ≤ 600 := by
 have e0 := txt_le x.f0
 have h0 := hx.t0
 have e1 := txt_le x.f1
 have h1 := hx.t1
 have e2 := num_le x.f2
 have e90 := num_le 0
 have e91 := num_le 1
 simp only [encSeen, List.length_append]
 omega
set_option maxRecDepth 100000 in
set_option maxHeartbeats 1000000 in
theorem putSeen_any (x : S88) (hx : SeenOk x) (cs : List Value) (w0 W : World) (hk : k88.K w0 x cs) (hb : Below w0.heap.size w0 W) (base g : Nat) (v : Value) (bs : List Int) (hbase : w0.heap.size ≤ base) (hp : Pen 127 W base g v bs) (hl : bs.length + 600 ≤ 140737488355328) :
  Calls Tryz.prog 258 #[.pointer (some ⟨g, 0, none⟩), .agg cs.toArray] W fun e W' => e = .returned (.tuple #[]) ∧ Wrote 127 W W' base g v (bs ++ encSeen x) := by
 obtain rfl := k88_open hk
 have HX := Aside0.mk hx
 have HP := Aside0.mk hp
 have HB := Aside0.mk hb
 have e0 := txt_le x.f0
 have h0 := hx.t0
 have e1 := txt_le x.f1
 have h1 := hx.t1
 have e2 := num_le x.f2
 have e90 := num_le 0
 have e91 := num_le 1
 have HS0 := Aside0.mk ((Pend.begin_ HP.out).lay (.cells #[.string x.f0, .string x.f1, .int .i64 x.f2] 88 (0, 0)))
 clear hk hp hb hx
 go_enter Tryz.func258, Tryz.ntmps258
 go_wp2_with fail
 refine (Pend.txt HS0.out x.f0 (by have := HX.out.t0; omega) (by first | omega | (simp only [List.length_append]; omega))).mono ?_
 rintro e w1 ⟨rfl, v1, hs1⟩
 have hc1 := hs1.cells (k := W.heap.size) (.inr ⟨rfl, rfl⟩)
 have HS1 := Aside0.mk hs1
 clear hs1
 go_wp2_with fail
 refine (Pend.txt HS1.out x.f1 (by have := HX.out.t1; omega) (by first | omega | (simp only [List.length_append]; omega))).mono ?_
 rintro e w2 ⟨rfl, v2, hs2⟩
 have hc2 := hs2.cells (k := W.heap.size) (.inr ⟨rfl, rfl⟩)
 have HS2 := Aside0.mk hs2
 clear hs2 hc1
 go_wp2_with fail
 refine (Pend.num HS2.out x.f2 HX.out.n2 (by first | omega | (simp only [List.length_append]; omega))).mono ?_
 rintro e w3 ⟨rfl, v3, hs3⟩
 have hc3 := hs3.cells (k := W.heap.size) (.inr ⟨rfl, rfl⟩)
 have HS3 := Aside0.mk hs3
 clear hs3 hc2
 go_wp2_with fail
 first | go_end0 | refine bodyPost_ret (results_none rfl _ _ _) rfl ?_
 exact ⟨rfl, by unfold encSeen; simpa only [List.append_assoc] using HS3.out.wrote⟩
theorem put_Seen : PutSeen 258 encSeen SeenOk 600 := fun x cs w0 W hx hk hb base g v bs hbase hp hl => putSeen_any x hx cs w0 W hk hb base g v bs hbase hp hl
structure PartOk (x : S86) : Prop where
 n0 : isN x.f0
 n1_0 : isN x.f1.f0
 n1_2 : isN x.f1.f2
 t1_1 : x.f1.f1.size ≤ 256
 m4 : x.f1.f3.length ≤ 64
 l4 : ∀ y ∈ x.f1.f3, SeenOk y
def encPart (x : S86) : List Int := encNum x.f0 ++ encNum x.f1.f0 ++ encTxt x.f1.f1 ++ encNum x.f1.f2 ++ encList encSeen x.f1.f3
theorem len_Part (x : S86) (hx : PartOk x) : (encPart x).length ≤ 50000 := by
 have e0 := num_le x.f0
 have e1_0 := num_le x.f1.f0
 have e1_1 := txt_le x.f1.f1
 have h1_1 := hx.t1_1
 have e1_2 := num_le x.f1.f2
 have m4 := hx.m4
 have q4 := list_le len_Seen hx.l4
 have e90 := num_le 0
 have e91 := num_le 1
 simp only [encPart, List.length_append]
 omega
set_option maxRecDepth 100000 in
set_option maxHeartbeats 1000000 in
theorem putPart_any (x : S86) (hx : PartOk x) (cs : List Value) (w0 W : World) (hk : k86.K w0 x cs) (hb : Below w0.heap.size w0 W) (base g : Nat) (v : Value) (bs : List Int) (hbase : w0.heap.size ≤ base) (hp : Pen 127 W base g v bs) (hl : bs.length + 50000 ≤ 140737488355328) :
  Calls Tryz.prog 213 #[.pointer (some ⟨g, 0, none⟩), .agg cs.toArray] W fun e W' => e = .returned (.tuple #[]) ∧ Wrote 127 W W' base g v (bs ++ encPart x) := by
 obtain ⟨A4, c4, rfl, l4, g4⟩ := k86_open hk
 have HX := Aside0.mk hx
 have HP := Aside0.mk hp
 have HB := Aside0.mk hb
 have G4 := Aside0.mk g4
 have m4 := hx.m4
 have e0 := num_le x.f0
 have e1_0 := num_le x.f1.f0
 have e1_1 := txt_le x.f1.f1
 have h1_1 := hx.t1_1
 have e1_2 := num_le x.f1.f2
 have e90 := num_le 0
 have e91 := num_le 1
 have HS0 := Aside0.mk ((Pend.begin_ HP.out).lay (.cells #[.int .i64 x.f0, .int .i64 x.f1.f0, .string x.f1.f1, .int .i64 x.f1.f2, .slice A4 x.f1.f3.length c4] 86 (0, 0)))
 clear hk hp hb hx g4
 go_enter Tryz.func213, Tryz.ntmps213
 go_wp2_with fail
 refine (Pend.num HS0.out x.f0 HX.out.n0 (by first | omega | (simp only [List.length_append]; omega))).mono ?_
 rintro e w1 ⟨rfl, v1, hs1⟩
 have hc1 := hs1.cells (k := W.heap.size) (.inr ⟨rfl, rfl⟩)
 have HS1 := Aside0.mk hs1
 clear hs1
 go_wp2_with fail
 refine (Pend.num HS1.out x.f1.f0 HX.out.n1_0 (by first | omega | (simp only [List.length_append]; omega))).mono ?_
 rintro e w2 ⟨rfl, v2, hs2⟩
 have hc2 := hs2.cells (k := W.heap.size) (.inr ⟨rfl, rfl⟩)
 have HS2 := Aside0.mk hs2
 clear hs2 hc1
 go_wp2_with fail
 refine (Pend.txt HS2.out x.f1.f1 (by have := HX.out.t1_1; omega) (by first | omega | (simp only [List.length_append]; omega))).mono ?_
 rintro e w3 ⟨rfl, v3, hs3⟩
 have hc3 := hs3.cells (k := W.heap.size) (.inr ⟨rfl, rfl⟩)
 have HS3 := Aside0.mk hs3
 clear hs3 hc2
 go_wp2_with fail
 refine (Pend.num HS3.out x.f1.f2 HX.out.n1_2 (by first | omega | (simp only [List.length_append]; omega))).mono ?_
 rintro e w4 ⟨rfl, v4, hs4⟩
 have hc4 := hs4.cells (k := W.heap.size) (.inr ⟨rfl, rfl⟩)
 have HS4 := Aside0.mk hs4
 clear hs4 hc3
 go_wp2_with fail
 refine (putList_Seen 258 (fun args w => by kernel_rfl) encSeen SeenOk 600 put_Seen len_Seen A4 c4 x.f1.f3 w0 _ G4.out HX.out.l4 (HS4.out.above HP.out HB.out hbase) base g _ _ hbase HS4.out.pen (by omega) (by first | omega | (simp only [List.length_append]; omega))).mono ?_
 rintro e w5 ⟨rfl, hw5⟩
 obtain ⟨v5, hs5⟩ := HS4.out.step hw5
 have hc5 := hs5.cells (k := W.heap.size) (.inr ⟨rfl, rfl⟩)
 have HS5 := Aside0.mk hs5
 clear hs5 hw5 hc4
 go_wp2_with fail
 first | go_end0 | refine bodyPost_ret (results_none rfl _ _ _) rfl ?_
 exact ⟨rfl, by unfold encPart; simpa only [List.append_assoc] using HS5.out.wrote⟩
theorem put_Part : PutPart 213 encPart PartOk 50000 := fun x cs w0 W hx hk hb base g v bs hbase hp hl => putPart_any x hx cs w0 W hk hb base g v bs hbase hp hl
structure TaggedOk (x : S148) : Prop where
 n0_0 : isN x.f0.f0
 n0_3 : isN x.f0.f3
 t0_1 : x.f0.f1.size ≤ 256
 t0_2 : x.f0.f2.size ≤ 256
 m4 : x.f1.length ≤ 4
 l4 : ∀ y ∈ x.f1, isN y
def encTagged (x : S148) : List Int := encNum x.f0.f0 ++ encTxt x.f0.f1 ++ encTxt x.f0.f2 ++ encNum x.f0.f3 ++ encList encNum x.f1
theorem len_Tagged (x : S148) (hx : TaggedOk x) : (encTagged x).length ≤ 1000 := by
 have e0_0 := num_le x.f0.f0
 have e0_1 := txt_le x.f0.f1
 have h0_1 := hx.t0_1
 have e0_2 := txt_le x.f0.f2
 have h0_2 := hx.t0_2
 have e0_3 := num_le x.f0.f3
 have m4 := hx.m4
 have q4 := list_le len_int hx.l4
 have e90 := num_le 0
 have e91 := num_le 1
 simp only [encTagged, List.length_append]
 omega
set_option maxRecDepth 100000 in
set_option maxHeartbeats 1000000 in
theorem putTagged_any (x : S148) (hx : TaggedOk x) (cs : List Value) (w0 W : World) (hk : k148.K w0 x cs) (hb : Below w0.heap.size w0 W) (base g : Nat) (v : Value) (bs : List Int) (hbase : w0.heap.size ≤ base) (hp : Pen 127 W base g v bs) (hl : bs.length + 1000 ≤ 140737488355328) :
  Calls Tryz.prog 252 #[.pointer (some ⟨g, 0, none⟩), .agg cs.toArray] W fun e W' => e = .returned (.tuple #[]) ∧ Wrote 127 W W' base g v (bs ++ encTagged x) := by
 obtain ⟨A4, c4, rfl, l4, g4⟩ := k148_open hk
 have HX := Aside0.mk hx
 have HP := Aside0.mk hp
 have HB := Aside0.mk hb
 have G4 := Aside0.mk g4
 have m4 := hx.m4
 have e0_0 := num_le x.f0.f0
 have e0_1 := txt_le x.f0.f1
 have h0_1 := hx.t0_1
 have e0_2 := txt_le x.f0.f2
 have h0_2 := hx.t0_2
 have e0_3 := num_le x.f0.f3
 have e90 := num_le 0
 have e91 := num_le 1
 have HS0 := Aside0.mk ((Pend.begin_ HP.out).lay (.cells #[.int .i64 x.f0.f0, .string x.f0.f1, .string x.f0.f2, .int .i64 x.f0.f3, .slice A4 x.f1.length c4] 148 (0, 0)))
 clear hk hp hb hx g4
 go_enter Tryz.func252, Tryz.ntmps252
 go_wp2_with fail
 refine (Pend.num HS0.out x.f0.f0 HX.out.n0_0 (by first | omega | (simp only [List.length_append]; omega))).mono ?_
 rintro e w1 ⟨rfl, v1, hs1⟩
 have hc1 := hs1.cells (k := W.heap.size) (.inr ⟨rfl, rfl⟩)
 have HS1 := Aside0.mk hs1
 clear hs1
 go_wp2_with fail
 refine (Pend.txt HS1.out x.f0.f1 (by have := HX.out.t0_1; omega) (by first | omega | (simp only [List.length_append]; omega))).mono ?_
 rintro e w2 ⟨rfl, v2, hs2⟩
 have hc2 := hs2.cells (k := W.heap.size) (.inr ⟨rfl, rfl⟩)
 have HS2 := Aside0.mk hs2
 clear hs2 hc1
 go_wp2_with fail
 refine (Pend.txt HS2.out x.f0.f2 (by have := HX.out.t0_2; omega) (by first | omega | (simp only [List.length_append]; omega))).mono ?_
 rintro e w3 ⟨rfl, v3, hs3⟩
 have hc3 := hs3.cells (k := W.heap.size) (.inr ⟨rfl, rfl⟩)
 have HS3 := Aside0.mk hs3
 clear hs3 hc2
 go_wp2_with fail
 refine (Pend.num HS3.out x.f0.f3 HX.out.n0_3 (by first | omega | (simp only [List.length_append]; omega))).mono ?_
 rintro e w4 ⟨rfl, v4, hs4⟩
 have hc4 := hs4.cells (k := W.heap.size) (.inr ⟨rfl, rfl⟩)
 have HS4 := Aside0.mk hs4
 clear hs4 hc3
 go_wp2_with fail
 refine (putList_int 277 (fun args w => by kernel_rfl) encNum isN 5 put_int len_int A4 c4 x.f1 w0 _ G4.out HX.out.l4 (HS4.out.above HP.out HB.out hbase) base g _ _ hbase HS4.out.pen (by omega) (by first | omega | (simp only [List.length_append]; omega))).mono ?_
 rintro e w5 ⟨rfl, hw5⟩
 obtain ⟨v5, hs5⟩ := HS4.out.step hw5
 have hc5 := hs5.cells (k := W.heap.size) (.inr ⟨rfl, rfl⟩)
 have HS5 := Aside0.mk hs5
 clear hs5 hw5 hc4
 go_wp2_with fail
 first | go_end0 | refine bodyPost_ret (results_none rfl _ _ _) rfl ?_
 exact ⟨rfl, by unfold encTagged; simpa only [List.append_assoc] using HS5.out.wrote⟩
theorem put_Tagged : PutTagged 252 encTagged TaggedOk 1000 := fun x cs w0 W hx hk hb base g v bs hbase hp hl => putTagged_any x hx cs w0 W hk hb base g v bs hbase hp hl
structure ItemOk (x : S91) : Prop where
 n0 : isN x.f0
 n1 : isN x.f1
 m3 : x.f3.length ≤ 64
 l3 : ∀ y ∈ x.f3, TaggedOk y
 m4 : x.f4.length ≤ 4
 l4 : ∀ y ∈ x.f4, PartOk y
def encItem (x : S91) : List Int := encNum x.f0 ++ encNum x.f1 ++ (if x.f2 = true then encNum 1 ++ encList encPart x.f4 else encNum 0 ++ encList encTagged x.f3)
theorem len_Item (x : S91) (hx : ItemOk x) : (encItem x).length ≤ 300000 := by
 have e0 := num_le x.f0
 have e1 := num_le x.f1
 have m3 := hx.m3
 have m4 := hx.m4
 have q3 := list_le len_Tagged hx.l3
 have q4 := list_le len_Part hx.l4
 have e90 := num_le 0
 have e91 := num_le 1
 unfold encItem
 split <;> simp only [List.length_append] <;> omega
set_option maxRecDepth 100000 in
set_option maxHeartbeats 1000000 in
theorem putItem_any (x : S91) (hx : ItemOk x) (cs : List Value) (w0 W : World) (hk : k91.K w0 x cs) (hb : Below w0.heap.size w0 W) (base g : Nat) (v : Value) (bs : List Int) (hbase : w0.heap.size ≤ base) (hp : Pen 127 W base g v bs) (hl : bs.length + 300000 ≤ 140737488355328) :
   Calls Tryz.prog 204 #[.pointer (some ⟨g, 0, none⟩), .agg cs.toArray] W fun e W' => e = .returned (.tuple #[]) ∧ Wrote 127 W W' base g v (bs ++ encItem x) := by
 obtain ⟨A3, c3, A4, c4, rfl, l3, g3, l4, g4⟩ := k91_open hk
 have HX := Aside0.mk hx
 have HP := Aside0.mk hp
 have HB := Aside0.mk hb
 have G3 := Aside0.mk g3
 have m3 := hx.m3
 have G4 := Aside0.mk g4
 have m4 := hx.m4
 have e0 := num_le x.f0
 have e1 := num_le x.f1
 have e90 := num_le 0
 have e91 := num_le 1
 cases hv : x.f2 with
 | true =>
   have HE := Aside0.mk (show encItem x = encNum x.f0 ++ encNum x.f1 ++ encNum 1 ++ encList encPart x.f4 by unfold encItem; rw [hv]; simp [List.append_assoc])
   have HS0 := Aside0.mk ((Pend.begin_ HP.out).lay (.cells #[.int .i64 x.f0, .int .i64 x.f1, .bool true, .slice A3 x.f3.length c3, .slice A4 x.f4.length c4] 91 (0, 0)))
   clear hk hp hb hx g3 g4 hv
   go_enter Tryz.func204, Tryz.ntmps204
   go_wp2_with fail
   refine (Pend.num HS0.out x.f0 HX.out.n0 (by first | omega | (simp only [List.length_append]; omega))).mono ?_
   rintro e w1 ⟨rfl, v1, hs1⟩
   have hc1 := hs1.cells (k := W.heap.size) (.inr ⟨rfl, rfl⟩)
   have HS1 := Aside0.mk hs1
   clear hs1
   go_wp2_with fail
   refine (Pend.num HS1.out x.f1 HX.out.n1 (by first | omega | (simp only [List.length_append]; omega))).mono ?_
   rintro e w2 ⟨rfl, v2, hs2⟩
   have hc2 := hs2.cells (k := W.heap.size) (.inr ⟨rfl, rfl⟩)
   have HS2 := Aside0.mk hs2
   clear hs2 hc1
   go_wp2_with fail
   refine (Pend.num HS2.out 1 ⟨by omega, by omega⟩ (by first | omega | (simp only [List.length_append]; omega))).mono ?_
   rintro e w3 ⟨rfl, v3, hs3⟩
   have hc3 := hs3.cells (k := W.heap.size) (.inr ⟨rfl, rfl⟩)
   have HS3 := Aside0.mk hs3
   clear hs3 hc2
   go_wp2_with fail
   refine (putList_Part 213 (fun args w => by kernel_rfl) encPart PartOk 50000 put_Part len_Part A4 c4 x.f4 w0 _ G4.out HX.out.l4 (HS3.out.above HP.out HB.out hbase) base g _ _ hbase HS3.out.pen (by omega) (by first | omega | (simp only [List.length_append]; omega))).mono ?_
   rintro e w4 ⟨rfl, hw4⟩
   obtain ⟨v4, hs4⟩ := HS3.out.step hw4
   have hc4 := hs4.cells (k := W.heap.size) (.inr ⟨rfl, rfl⟩)
   have HS4 := Aside0.mk hs4
   clear hs4 hw4 hc3
   go_wp2_with fail
   first | go_end0 | refine bodyPost_ret (results_none rfl _ _ _) rfl ?_
   exact ⟨rfl, by rw [HE.out]; simpa only [List.append_assoc] using HS4.out.wrote⟩
 | false =>
   have HE := Aside0.mk (show encItem x = encNum x.f0 ++ encNum x.f1 ++ encNum 0 ++ encList encTagged x.f3 by unfold encItem; rw [hv]; simp [List.append_assoc])
   have HS0 := Aside0.mk ((Pend.begin_ HP.out).lay (.cells #[.int .i64 x.f0, .int .i64 x.f1, .bool false, .slice A3 x.f3.length c3, .slice A4 x.f4.length c4] 91 (0, 0)))
   clear hk hp hb hx g3 g4 hv
   go_enter Tryz.func204, Tryz.ntmps204
   go_wp2_with fail
   refine (Pend.num HS0.out x.f0 HX.out.n0 (by first | omega | (simp only [List.length_append]; omega))).mono ?_
   rintro e w1 ⟨rfl, v1, hs1⟩
   have hc1 := hs1.cells (k := W.heap.size) (.inr ⟨rfl, rfl⟩)
   have HS1 := Aside0.mk hs1
   clear hs1
   go_wp2_with fail
   refine (Pend.num HS1.out x.f1 HX.out.n1 (by first | omega | (simp only [List.length_append]; omega))).mono ?_
   rintro e w2 ⟨rfl, v2, hs2⟩
   have hc2 := hs2.cells (k := W.heap.size) (.inr ⟨rfl, rfl⟩)
   have HS2 := Aside0.mk hs2
   clear hs2 hc1
   go_wp2_with fail
   refine (Pend.num HS2.out 0 ⟨by omega, by omega⟩ (by first | omega | (simp only [List.length_append]; omega))).mono ?_
   rintro e w3 ⟨rfl, v3, hs3⟩
   have hc3 := hs3.cells (k := W.heap.size) (.inr ⟨rfl, rfl⟩)
   have HS3 := Aside0.mk hs3
   clear hs3 hc2
   go_wp2_with fail
   refine (putList_Tagged 252 (fun args w => by kernel_rfl) encTagged TaggedOk 1000 put_Tagged len_Tagged A3 c3 x.f3 w0 _ G3.out HX.out.l3 (HS3.out.above HP.out HB.out hbase) base g _ _ hbase HS3.out.pen (by omega) (by first | omega | (simp only [List.length_append]; omega))).mono ?_
   rintro e w4 ⟨rfl, hw4⟩
   obtain ⟨v4, hs4⟩ := HS3.out.step hw4
   have hc4 := hs4.cells (k := W.heap.size) (.inr ⟨rfl, rfl⟩)
   have HS4 := Aside0.mk hs4
   clear hs4 hw4 hc3
   go_wp2_with fail
   first | go_end0 | refine bodyPost_ret (results_none rfl _ _ _) rfl ?_
   exact ⟨rfl, by rw [HE.out]; simpa only [List.append_assoc] using HS4.out.wrote⟩
theorem put_Item : PutItem 204 encItem ItemOk 300000 := fun x cs w0 W hx hk hb base g v bs hbase hp hl => putItem_any x hx cs w0 W hk hb base g v bs hbase hp hl
end Go.Proofs.YtmneemhplffemaaGreatDoorRR.Put
namespace Go.Proofs.YtmneemhplffemaaGreatDoorRR.Put
open Go.RowKit Go.Proofs.YtmneemhplffemaaGreatDoorRR.Ext Go.Proofs.YtmneemhplffemaaGreatDoorRR.Wire Go.Proofs.YtmneemhplffemaaGreatDoorRR.Mem Go.Proofs.YtmneemhplffemaaGreatDoorRR.Ki Go.Proofs.YtmneemhplffemaaGreatDoorRRW.PrintWords

structure EntryOk (x : S55) : Prop where
 n0 : isN x.f0
 n1 : isN x.f1
 n2 : isN x.f2
 n3 : isN x.f3
 n4 : isN x.f4
 m5 : x.f5.length ≤ 4
 l5 : ∀ y ∈ x.f5, OpOk y
def encEntry (x : S55) : List Int := [x.f0, x.f1, x.f2, x.f3, x.f4].flatMap encNum ++ encList encOp x.f5
theorem len_Entry (x : S55) (hx : EntryOk x) : (encEntry x).length ≤ 12000 := by
 have e0 := num_le x.f0
 have e1 := num_le x.f1
 have e2 := num_le x.f2
 have e3 := num_le x.f3
 have e4 := num_le x.f4
 have m5 := hx.m5
 have q5 := list_le len_Op hx.l5
 have e90 := num_le 0
 have e91 := num_le 1
 have f0 := flat_le (xs := [x.f0, x.f1, x.f2, x.f3, x.f4]) (n := 5) (enc := encNum) (fun y _ => num_le y)
 simp only [List.length_cons, List.length_nil] at f0
 simp only [encEntry, List.length_append]
 omega
set_option maxRecDepth 100000 in
set_option maxHeartbeats 1000000 in
theorem putEntry_any (x : S55) (hx : EntryOk x) (cs : List Value) (w0 W : World) (hk : k55.K w0 x cs) (hb : Below w0.heap.size w0 W) (base g : Nat) (v : Value) (bs : List Int) (hbase : w0.heap.size ≤ base) (hp : Pen 127 W base g v bs) (hl : bs.length + 12000 ≤ 140737488355328) :
  Calls Tryz.prog 75 #[.pointer (some ⟨g, 0, none⟩), .agg cs.toArray] W fun e W' => e = .returned (.tuple #[]) ∧ Wrote 127 W W' base g v (bs ++ encEntry x) := by
 obtain ⟨A5, c5, rfl, l5, g5⟩ := k55_open hk
 have HX := Aside0.mk hx
 have HP := Aside0.mk hp
 have HB := Aside0.mk hb
 have G5 := Aside0.mk g5
 have m5 := hx.m5
 have e0 := num_le x.f0
 have e1 := num_le x.f1
 have e2 := num_le x.f2
 have e3 := num_le x.f3
 have e4 := num_le x.f4
 have e90 := num_le 0
 have e91 := num_le 1
 have HS0 := Aside0.mk ((Pend.begin_ HP.out).lay (.cells #[.int .i64 x.f0, .int .i64 x.f1, .int .i64 x.f2, .int .i64 x.f3, .int .i64 x.f4, .slice A5 x.f5.length c5] 55 (0, 0)))
 obtain ⟨l, hl0⟩ : ∃ l : List Int, l = [x.f0, x.f1, x.f2, x.f3, x.f4] := ⟨_, rfl⟩
 have HLE := Aside0.mk hl0
 have hln : l.length = 5 := by rw [hl0]; rfl
 have HLN : Aside0 (∀ y ∈ l, isN y) := ⟨by rw [hl0]; intro y hy; simp only [List.mem_cons, List.not_mem_nil, or_false] at hy; rcases hy with rfl | rfl | rfl | rfl | rfl <;> first | exact hx.n0 | exact hx.n1 | exact hx.n2 | exact hx.n3 | exact hx.n4 ⟩
 have HFL : Aside0 (∀ k, ((l.take k).flatMap encNum).length ≤ 25) := ⟨fun k => by have := flat_take k len_int HLN.out; rw [hln] at this; omega⟩
 clear hl0 hln
 clear hk hp hb hx g5
 go_enter Tryz.func75, Tryz.ntmps75

 have HS00 := Aside0.mk ((HS0.out.lay (Obj.cells #[.int .i64 x.f0, .int .i64 x.f1, .int .i64 x.f2, .int .i64 x.f3, .int .i64 x.f4] 3 (0, 0))).less (B' := fun k o => (k = W.heap.size ∧ o = Obj.cells #[.int .i64 x.f0, .int .i64 x.f1, .int .i64 x.f2, .int .i64 x.f3, .int .i64 x.f4, .slice A5 x.f5.length c5] 55 (0, 0)) ∨ (k = W.heap.size + 1 ∧ o = Obj.cells #[.int .i64 x.f0, .int .i64 x.f1, .int .i64 x.f2, .int .i64 x.f3, .int .i64 x.f4] 3 (0, 0))) (fun k o hk => hk.elim (fun h => .inl (.inr h)) (fun h => .inr ⟨h.1.trans (by simp), h.2⟩)))
 go_wp2_with fail
 go_loopw [18] (fun vi wr => ∃ k : Nat, vi = .int .i64 k ∧ k ≤ 5 ∧ ∃ v' : Value, Aside0 (Pend 127 W wr base g v v' (bs ++ (l.take k).flatMap encNum) (fun k o => (k = W.heap.size ∧ o = Obj.cells #[.int .i64 x.f0, .int .i64 x.f1, .int .i64 x.f2, .int .i64 x.f3, .int .i64 x.f4, .slice A5 x.f5.length c5] 55 (0, 0)) ∨ (k = W.heap.size + 1 ∧ o = Obj.cells #[.int .i64 x.f0, .int .i64 x.f1, .int .i64 x.f2, .int .i64 x.f3, .int .i64 x.f4] 3 (0, 0))))) (fun vi _ => 5 - (intOf vi).toNat)
 case atStart => exact ⟨0, rfl, Nat.zero_le _, _, ⟨by simpa using HS00.out⟩⟩
 case round =>
  skip
  obtain ⟨k, rfl, hk, v', HS⟩ := hrel
  by_cases hlt : k < 5
  · have hcl := HS.out.cells (k := W.heap.size + 1) (.inr ⟨rfl, rfl⟩)
    obtain rfl | rfl | rfl | rfl | rfl : k = 0 ∨ k = 1 ∨ k = 2 ∨ k = 3 ∨ k = 4 := by omega
    all_goals
     go_wp2_with fail
     refine (Pend.num HS.out _ (by first | exact HX.out.n0 | exact HX.out.n1 | exact HX.out.n2 | exact HX.out.n3 | exact HX.out.n4 ) (by have := HFL.out; (first | have := HFL.out 0 | skip); have q0 := HFL.out 0; have q1 := HFL.out 1; have q2 := HFL.out 2; have q3 := HFL.out 3; have q4 := HFL.out 4; simp only [List.length_append]; omega)).mono ?_
     rintro e w2 ⟨rfl, v2, hs2⟩
     have HS2 := Aside0.mk hs2
     clear hs2 hcl
     go_wp2_with fail
     go_roundw
     case rel => first | exact ⟨1, rfl, by omega, v2, ⟨by rw [flat_snoc (k := 0) (show l[0]? = some x.f0 by rw [HLE.out]; rfl), ← List.append_assoc]; exact HS2.out⟩⟩ | exact ⟨2, rfl, by omega, v2, ⟨by rw [flat_snoc (k := 1) (show l[1]? = some x.f1 by rw [HLE.out]; rfl), ← List.append_assoc]; exact HS2.out⟩⟩ | exact ⟨3, rfl, by omega, v2, ⟨by rw [flat_snoc (k := 2) (show l[2]? = some x.f2 by rw [HLE.out]; rfl), ← List.append_assoc]; exact HS2.out⟩⟩ | exact ⟨4, rfl, by omega, v2, ⟨by rw [flat_snoc (k := 3) (show l[3]? = some x.f3 by rw [HLE.out]; rfl), ← List.append_assoc]; exact HS2.out⟩⟩ | exact ⟨5, rfl, by omega, v2, ⟨by rw [flat_snoc (k := 4) (show l[4]? = some x.f4 by rw [HLE.out]; rfl), ← List.append_assoc]; exact HS2.out⟩⟩ 
     case measure => simp [intOf]
  · have hcb := HS.out.cells (k := W.heap.size) (.inl ⟨rfl, rfl⟩)
    have HSE := Aside0.mk (show Pend 127 W wr base g v v' (bs ++ l.flatMap encNum) (fun k o => False ∨ (k = W.heap.size ∧ o = Obj.cells #[.int .i64 x.f0, .int .i64 x.f1, .int .i64 x.f2, .int .i64 x.f3, .int .i64 x.f4, .slice A5 x.f5.length c5] 55 (0, 0))) from by
     have h := HS.out.less (B' := fun k o => False ∨ (k = W.heap.size ∧ o = Obj.cells #[.int .i64 x.f0, .int .i64 x.f1, .int .i64 x.f2, .int .i64 x.f3, .int .i64 x.f4, .slice A5 x.f5.length c5] 55 (0, 0))) (fun k o hk => .inl (hk.resolve_left (fun h => h)))
     rw [List.take_of_length_le (by rw [HLE.out]; exact Nat.le_of_not_lt hlt)] at h
     exact h)
    have hfl := HFL.out 5
    rw [List.take_of_length_le (by rw [HLE.out]; exact Nat.le_refl _)] at hfl
    go_wp2_with fail
    refine (putList_Op 121 (fun args w => by kernel_rfl) encOp OpOk 2000 put_Op len_Op A5 c5 x.f5 w0 _ G5.out HX.out.l5 (HSE.out.above HP.out HB.out hbase) base g _ _ hbase HSE.out.pen (by omega) (by first | omega | (simp only [List.length_append]; omega))).mono ?_
    rintro e w9 ⟨rfl, hw9⟩
    obtain ⟨v9, hs9⟩ := HSE.out.step hw9
    have HS9 := Aside0.mk hs9
    clear hs9 hw9 hcb
    go_wp2_with fail
    first | go_end0 | refine bodyPost_ret (results_none rfl _ _ _) rfl ?_
    exact ⟨rfl, by unfold encEntry; rw [← HLE.out]; simpa only [List.append_assoc] using HS9.out.wrote⟩
theorem put_Entry : PutEntry 75 encEntry EntryOk 12000 := fun x cs w0 W hx hk hb base g v bs hbase hp hl => putEntry_any x hx cs w0 W hk hb base g v bs hbase hp hl
structure ResultOk (x : S81) : Prop where
 t0 : x.f0.size ≤ 256
 t1 : x.f1.size ≤ 256
 n2 : isN x.f2
 n3 : isN x.f3
 n4 : isN x.f4
 n5 : isN x.f5
 m6 : x.f6.length ≤ 64
 l6 : ∀ y ∈ x.f6, TxtOk y
def encResult (x : S81) : List Int := encTxt x.f0 ++ encTxt x.f1 ++ [x.f2, x.f3, x.f4, x.f5].flatMap encNum ++ encList encTxt x.f6
theorem len_Result (x : S81) (hx : ResultOk x) : (encResult x).length ≤ 25000 := by
 have e0 := txt_le x.f0
 have h0 := hx.t0
 have e1 := txt_le x.f1
 have h1 := hx.t1
 have e2 := num_le x.f2
 have e3 := num_le x.f3
 have e4 := num_le x.f4
 have e5 := num_le x.f5
 have m6 := hx.m6
 have q6 := list_le len_string hx.l6
 have e90 := num_le 0
 have e91 := num_le 1
 have f0 := flat_le (xs := [x.f2, x.f3, x.f4, x.f5]) (n := 5) (enc := encNum) (fun y _ => num_le y)
 simp only [List.length_cons, List.length_nil] at f0
 simp only [encResult, List.length_append]
 omega
set_option maxRecDepth 100000 in
set_option maxHeartbeats 1000000 in
theorem putResult_any (x : S81) (hx : ResultOk x) (cs : List Value) (w0 W : World) (hk : k81.K w0 x cs) (hb : Below w0.heap.size w0 W) (base g : Nat) (v : Value) (bs : List Int) (hbase : w0.heap.size ≤ base) (hp : Pen 127 W base g v bs) (hl : bs.length + 25000 ≤ 140737488355328) :
  Calls Tryz.prog 244 #[.pointer (some ⟨g, 0, none⟩), .agg cs.toArray] W fun e W' => e = .returned (.tuple #[]) ∧ Wrote 127 W W' base g v (bs ++ encResult x) := by
 obtain ⟨A6, c6, rfl, l6, g6⟩ := k81_open hk
 have HX := Aside0.mk hx
 have HP := Aside0.mk hp
 have HB := Aside0.mk hb
 have G6 := Aside0.mk g6
 have m6 := hx.m6
 have e0 := txt_le x.f0
 have h0 := hx.t0
 have e1 := txt_le x.f1
 have h1 := hx.t1
 have e2 := num_le x.f2
 have e3 := num_le x.f3
 have e4 := num_le x.f4
 have e5 := num_le x.f5
 have e90 := num_le 0
 have e91 := num_le 1
 have HS0 := Aside0.mk ((Pend.begin_ HP.out).lay (.cells #[.string x.f0, .string x.f1, .int .i64 x.f2, .int .i64 x.f3, .int .i64 x.f4, .int .i64 x.f5, .slice A6 x.f6.length c6] 81 (0, 0)))
 obtain ⟨l, hl0⟩ : ∃ l : List Int, l = [x.f2, x.f3, x.f4, x.f5] := ⟨_, rfl⟩
 have HLE := Aside0.mk hl0
 have hln : l.length = 4 := by rw [hl0]; rfl
 have HLN : Aside0 (∀ y ∈ l, isN y) := ⟨by rw [hl0]; intro y hy; simp only [List.mem_cons, List.not_mem_nil, or_false] at hy; rcases hy with rfl | rfl | rfl | rfl <;> first | exact hx.n2 | exact hx.n3 | exact hx.n4 | exact hx.n5 ⟩
 have HFL : Aside0 (∀ k, ((l.take k).flatMap encNum).length ≤ 20) := ⟨fun k => by have := flat_take k len_int HLN.out; rw [hln] at this; omega⟩
 clear hl0 hln
 clear hk hp hb hx g6
 go_enter Tryz.func244, Tryz.ntmps244
 go_wp2_with fail
 refine (Pend.txt HS0.out x.f0 (by have := HX.out.t0; omega) (by first | omega | (simp only [List.length_append]; omega))).mono ?_
 rintro e w1 ⟨rfl, v1, hs1⟩
 have hc1 := hs1.cells (k := W.heap.size) (.inr ⟨rfl, rfl⟩)
 have HS1 := Aside0.mk hs1
 clear hs1
 go_wp2_with fail
 refine (Pend.txt HS1.out x.f1 (by have := HX.out.t1; omega) (by first | omega | (simp only [List.length_append]; omega))).mono ?_
 rintro e w2 ⟨rfl, v2, hs2⟩
 have hc2 := hs2.cells (k := W.heap.size) (.inr ⟨rfl, rfl⟩)
 have HS2 := Aside0.mk hs2
 clear hs2 hc1
 have HS00 := Aside0.mk ((HS2.out.lay (Obj.cells #[.int .i64 x.f2, .int .i64 x.f3, .int .i64 x.f4, .int .i64 x.f5] 3 (0, 0))).less (B' := fun k o => (k = W.heap.size ∧ o = Obj.cells #[.string x.f0, .string x.f1, .int .i64 x.f2, .int .i64 x.f3, .int .i64 x.f4, .int .i64 x.f5, .slice A6 x.f6.length c6] 81 (0, 0)) ∨ (k = w2.heap.size ∧ o = Obj.cells #[.int .i64 x.f2, .int .i64 x.f3, .int .i64 x.f4, .int .i64 x.f5] 3 (0, 0))) (fun k o hk => hk.elim (fun h => .inl (.inr h)) (fun h => .inr ⟨h.1.trans (by simp), h.2⟩)))
 go_wp2_with fail
 go_loopw [24] (fun vi wr => ∃ k : Nat, vi = .int .i64 k ∧ k ≤ 4 ∧ ∃ v' : Value, Aside0 (Pend 127 W wr base g v v' (bs ++ encTxt x.f0 ++ encTxt x.f1 ++ (l.take k).flatMap encNum) (fun k o => (k = W.heap.size ∧ o = Obj.cells #[.string x.f0, .string x.f1, .int .i64 x.f2, .int .i64 x.f3, .int .i64 x.f4, .int .i64 x.f5, .slice A6 x.f6.length c6] 81 (0, 0)) ∨ (k = w2.heap.size ∧ o = Obj.cells #[.int .i64 x.f2, .int .i64 x.f3, .int .i64 x.f4, .int .i64 x.f5] 3 (0, 0))))) (fun vi _ => 4 - (intOf vi).toNat)
 case atStart => exact ⟨0, rfl, Nat.zero_le _, _, ⟨by simpa using HS00.out⟩⟩
 case round =>
  clear hc2
  obtain ⟨k, rfl, hk, v', HS⟩ := hrel
  by_cases hlt : k < 4
  · have hcl := HS.out.cells (k := w2.heap.size) (.inr ⟨rfl, rfl⟩)
    obtain rfl | rfl | rfl | rfl : k = 0 ∨ k = 1 ∨ k = 2 ∨ k = 3 := by omega
    all_goals
     go_wp2_with fail
     refine (Pend.num HS.out _ (by first | exact HX.out.n2 | exact HX.out.n3 | exact HX.out.n4 | exact HX.out.n5 ) (by have := HFL.out; (first | have := HFL.out 0 | skip); have q0 := HFL.out 0; have q1 := HFL.out 1; have q2 := HFL.out 2; have q3 := HFL.out 3; have q4 := HFL.out 4; simp only [List.length_append]; omega)).mono ?_
     rintro e w2 ⟨rfl, v2, hs2⟩
     have HS2 := Aside0.mk hs2
     clear hs2 hcl
     go_wp2_with fail
     go_roundw
     case rel => first | exact ⟨1, rfl, by omega, v2, ⟨by rw [flat_snoc (k := 0) (show l[0]? = some x.f2 by rw [HLE.out]; rfl), ← List.append_assoc]; exact HS2.out⟩⟩ | exact ⟨2, rfl, by omega, v2, ⟨by rw [flat_snoc (k := 1) (show l[1]? = some x.f3 by rw [HLE.out]; rfl), ← List.append_assoc]; exact HS2.out⟩⟩ | exact ⟨3, rfl, by omega, v2, ⟨by rw [flat_snoc (k := 2) (show l[2]? = some x.f4 by rw [HLE.out]; rfl), ← List.append_assoc]; exact HS2.out⟩⟩ | exact ⟨4, rfl, by omega, v2, ⟨by rw [flat_snoc (k := 3) (show l[3]? = some x.f5 by rw [HLE.out]; rfl), ← List.append_assoc]; exact HS2.out⟩⟩ 
     case measure => simp [intOf]
  · have hcb := HS.out.cells (k := W.heap.size) (.inl ⟨rfl, rfl⟩)
    have HSE := Aside0.mk (show Pend 127 W wr base g v v' (bs ++ encTxt x.f0 ++ encTxt x.f1 ++ l.flatMap encNum) (fun k o => False ∨ (k = W.heap.size ∧ o = Obj.cells #[.string x.f0, .string x.f1, .int .i64 x.f2, .int .i64 x.f3, .int .i64 x.f4, .int .i64 x.f5, .slice A6 x.f6.length c6] 81 (0, 0))) from by
     have h := HS.out.less (B' := fun k o => False ∨ (k = W.heap.size ∧ o = Obj.cells #[.string x.f0, .string x.f1, .int .i64 x.f2, .int .i64 x.f3, .int .i64 x.f4, .int .i64 x.f5, .slice A6 x.f6.length c6] 81 (0, 0))) (fun k o hk => .inl (hk.resolve_left (fun h => h)))
     rw [List.take_of_length_le (by rw [HLE.out]; exact Nat.le_of_not_lt hlt)] at h
     exact h)
    have hfl := HFL.out 4
    rw [List.take_of_length_le (by rw [HLE.out]; exact Nat.le_refl _)] at hfl
    go_wp2_with fail
    refine (putList_string 268 (fun args w => by kernel_rfl) encTxt TxtOk 300 put_string len_string A6 c6 x.f6 w0 _ G6.out HX.out.l6 (HSE.out.above HP.out HB.out hbase) base g _ _ hbase HSE.out.pen (by omega) (by first | omega | (simp only [List.length_append]; omega))).mono ?_
    rintro e w9 ⟨rfl, hw9⟩
    obtain ⟨v9, hs9⟩ := HSE.out.step hw9
    have HS9 := Aside0.mk hs9
    clear hs9 hw9 hcb
    go_wp2_with fail
    first | go_end0 | refine bodyPost_ret (results_none rfl _ _ _) rfl ?_
    exact ⟨rfl, by unfold encResult; rw [← HLE.out]; simpa only [List.append_assoc] using HS9.out.wrote⟩
theorem put_Result : PutResult 244 encResult ResultOk 25000 := fun x cs w0 W hx hk hb base g v bs hbase hp hl => putResult_any x hx cs w0 W hk hb base g v bs hbase hp hl
structure ReplyOk (x : S29) : Prop where
 n0 : isN x.f0
 n1 : isN x.f1
 n2 : isN x.f2
 m3 : x.f3.length ≤ 4
 l3 : ∀ y ∈ x.f3, ResultOk y
def encReply (x : S29) : List Int := encNum x.f0 ++ encNum x.f1 ++ encNum x.f2 ++ encList encResult x.f3
theorem len_Reply (x : S29) (hx : ReplyOk x) : (encReply x).length ≤ 200000 := by
 have e0 := num_le x.f0
 have e1 := num_le x.f1
 have e2 := num_le x.f2
 have m3 := hx.m3
 have q3 := list_le len_Result hx.l3
 have e90 := num_le 0
 have e91 := num_le 1
 simp only [encReply, List.length_append]
 omega
set_option maxRecDepth 100000 in
set_option maxHeartbeats 1000000 in
theorem putReply_any (x : S29) (hx : ReplyOk x) (cs : List Value) (w0 W : World) (hk : k29.K w0 x cs) (hb : Below w0.heap.size w0 W) (base g : Nat) (v : Value) (bs : List Int) (hbase : w0.heap.size ≤ base) (hp : Pen 127 W base g v bs) (hl : bs.length + 200000 ≤ 140737488355328) :
  Calls Tryz.prog 181 #[.pointer (some ⟨g, 0, none⟩), .agg cs.toArray] W fun e W' => e = .returned (.tuple #[]) ∧ Wrote 127 W W' base g v (bs ++ encReply x) := by
 obtain ⟨A3, c3, rfl, l3, g3⟩ := k29_open hk
 have HX := Aside0.mk hx
 have HP := Aside0.mk hp
 have HB := Aside0.mk hb
 have G3 := Aside0.mk g3
 have m3 := hx.m3
 have e0 := num_le x.f0
 have e1 := num_le x.f1
 have e2 := num_le x.f2
 have e90 := num_le 0
 have e91 := num_le 1
 have HS0 := Aside0.mk ((Pend.begin_ HP.out).lay (.cells #[.int .i64 x.f0, .int .i64 x.f1, .int .i64 x.f2, .slice A3 x.f3.length c3] 29 (0, 0)))
 clear hk hp hb hx g3
 go_enter Tryz.func181, Tryz.ntmps181
 go_wp2_with fail
 refine (Pend.num HS0.out x.f0 HX.out.n0 (by first | omega | (simp only [List.length_append]; omega))).mono ?_
 rintro e w1 ⟨rfl, v1, hs1⟩
 have hc1 := hs1.cells (k := W.heap.size) (.inr ⟨rfl, rfl⟩)
 have HS1 := Aside0.mk hs1
 clear hs1
 go_wp2_with fail
 refine (Pend.num HS1.out x.f1 HX.out.n1 (by first | omega | (simp only [List.length_append]; omega))).mono ?_
 rintro e w2 ⟨rfl, v2, hs2⟩
 have hc2 := hs2.cells (k := W.heap.size) (.inr ⟨rfl, rfl⟩)
 have HS2 := Aside0.mk hs2
 clear hs2 hc1
 go_wp2_with fail
 refine (Pend.num HS2.out x.f2 HX.out.n2 (by first | omega | (simp only [List.length_append]; omega))).mono ?_
 rintro e w3 ⟨rfl, v3, hs3⟩
 have hc3 := hs3.cells (k := W.heap.size) (.inr ⟨rfl, rfl⟩)
 have HS3 := Aside0.mk hs3
 clear hs3 hc2
 go_wp2_with fail
 refine (putList_Result 244 (fun args w => by kernel_rfl) encResult ResultOk 25000 put_Result len_Result A3 c3 x.f3 w0 _ G3.out HX.out.l3 (HS3.out.above HP.out HB.out hbase) base g _ _ hbase HS3.out.pen (by omega) (by first | omega | (simp only [List.length_append]; omega))).mono ?_
 rintro e w4 ⟨rfl, hw4⟩
 obtain ⟨v4, hs4⟩ := HS3.out.step hw4
 have hc4 := hs4.cells (k := W.heap.size) (.inr ⟨rfl, rfl⟩)
 have HS4 := Aside0.mk hs4
 clear hs4 hw4 hc3
 go_wp2_with fail
 first | go_end0 | refine bodyPost_ret (results_none rfl _ _ _) rfl ?_
 exact ⟨rfl, by unfold encReply; simpa only [List.append_assoc] using HS4.out.wrote⟩
end Go.Proofs.YtmneemhplffemaaGreatDoorRR.Put
namespace Go.Proofs.YtmneemhplffemaaGreatDoorRR.Wire
open Go.RowKit Go.Proofs.YtmneemhplffemaaGreatDoorRR.Ext Go.Proofs.YtmneemhplffemaaGreatDoorRRW.PrintWords
theorem drop_cons {xs : List Int} {i : Nat} (h : i < xs.length) : xs.drop i = xs.getD i 0 :: xs.drop (i + 1) := by
 rw [List.drop_eq_getElem_cons h, List.getD_eq_getElem?_getD, List.getElem?_eq_getElem h]
 rfl
theorem slice_cons {xs : List Int} {i q : Nat} (h : i < q) (hq : q ≤ xs.length) : (xs.take q).drop i = xs.getD i 0 :: (xs.take q).drop (i + 1) := by
 have hl : i < (xs.take q).length := by rw [List.length_take]; omega
 rw [List.drop_eq_getElem_cons hl, List.getElem_take, List.getD_eq_getElem?_getD, List.getElem?_eq_getElem (by omega)]
 rfl
theorem rdGo_says {xs : List Int} {a : Nat} (hB : Bytes xs) (f : Nat) : ∀ (k : Nat) (v r p : Int), rdGo xs a f k v = (r, p, 0) →
   ∃ u q : Nat, r = v + (u : Int) * 128 ^ k ∧ p = q ∧ a + k < q ∧ q ≤ xs.length ∧ (xs.take q).drop (a + k) = encN (f - 1) u ∧ (0 < k → 0 < u) ∧ r ≤ 2147483647 := by
 induction f with
 | zero => intro k v r p h; simp [rdGo] at h
 | succ f ih =>
   intro k v r p h
   rw [rdGo] at h
   obtain ⟨hb0, hb1⟩ := hB.at_ (a + k)
   obtain ⟨b, hb⟩ : ∃ b, b = xs.getD (a + k) 0 := ⟨_, rfl⟩
   rw [← hb] at h hb0 hb1
   split at h
   · rename_i hl
     split at h
     · rename_i hc
       split at h
       · simp at h
       · rename_i hz
         obtain ⟨n, rfl⟩ := Int.eq_ofNat_of_zero_le hb0
         simp only [Prod.mk.injEq, and_true] at h
         have hmod : (n : Int) % 128 = n := by omega
         rw [hmod] at h hz
         refine ⟨n, a + k + 1, h.1.symm, h.2.symm, by omega, by omega, ?_, fun hk => ?_, by omega⟩
         · rw [slice_cons (by omega) (by omega), ← hb, List.drop_eq_nil_of_le (by rw [List.length_take]; omega)]
           exact (encN_small (by omega)).symm
         · rcases Nat.eq_zero_or_pos n with h0 | h0
           · exact absurd (.inl ⟨by omega, hk⟩) hz
           · exact h0
     · rename_i hc
       obtain ⟨u, q, h1, h2, h3, h4, h5, h6, h7⟩ := ih _ _ _ _ h
       have hu := h6 (by omega)
       obtain ⟨n, rfl⟩ := Int.eq_ofNat_of_zero_le hb0
       cases f with
       | zero => simp [rdGo] at h
       | succ f =>
         refine ⟨n % 128 + 128 * u, q, ?_, h2, by omega, h4, ?_, fun _ => by omega, h7⟩
         · rw [h1, Int.pow_succ]
           have e : ((n % 128 + 128 * u : Nat) : Int) = (n : Int) % 128 + 128 * u := by omega
           rw [e, Int.add_mul, Int.add_assoc]
           congr 2
           rw [Int.mul_comm (128 : Int) u, Int.mul_assoc, Int.mul_comm (128 : Int)]
         · rw [slice_cons (by omega) h4, ← hb, show a + k + 1 = a + (k + 1) by omega, h5, show f + 1 + 1 - 1 = f + 1 by omega, encN_large (by omega), show (n % 128 + 128 * u) / 128 = u by omega]
           congr 1
           omega
   · simp at h
theorem rdNum_says {xs : List Int} {a : Nat} (hB : Bytes xs) (h : (rdNum xs a).2.2 = 0) :
  ∃ (v : Int) (q : Nat), rdNum xs a = (v, (q : Int), 0) ∧ 0 ≤ v ∧ v ≤ 2147483647 ∧ a < q ∧ q ≤ xs.length ∧ (xs.take q).drop a = encNum v := by
 obtain ⟨⟨r, p, e⟩, hx⟩ : ∃ x, x = rdNum xs a := ⟨_, rfl⟩
 rw [← hx] at h ⊢
 obtain rfl : e = 0 := h
 obtain ⟨u, q, h1, h2, h3, h4, h5, _, h7⟩ := rdGo_says hB 5 0 0 r p hx.symm
 simp only [Int.pow_zero, Int.mul_one, Int.zero_add, Nat.add_zero] at h1 h3 h5
 subst h1 h2
 exact ⟨u, q, rfl, by omega, h7, h3, h4, by rw [h5]; rfl⟩
theorem no_bad {u k : Nat} {v : Int} (hk : 0 < k → 0 < u) (hm : v + (u : Int) * 128 ^ k ≤ 2147483647) : ¬ (((u : Int) = 0 ∧ 0 < k) ∨ 2147483647 < v + (u : Int) * 128 ^ k) := by
 rintro (⟨h1, h2⟩ | h1)
 · have := hk h2
   omega
 · omega
theorem rdGo_of {xs : List Int} {a : Nat} (g : Nat) : ∀ (f k u : Nat) (v : Int) (rest : List Int), g < f → u < 128 ^ (g + 1) → xs.drop (a + k) = encN g u ++ rest → (0 < k → 0 < u) → v + (u : Int) * 128 ^ k ≤ 2147483647 → 0 ≤ v →
   rdGo xs a f k v = (v + (u : Int) * 128 ^ k, ((a + k + (encN g u).length : Nat) : Int), 0) := by
 induction g with
 | zero =>
   intro f k u v rest hf hu hd hk hm hv
   obtain ⟨f, rfl⟩ : ∃ m, f = m + 1 := ⟨f - 1, by omega⟩
   have hl : a + k < xs.length := by
     rcases Nat.lt_or_ge (a + k) xs.length with h | h
     · exact h
     · rw [List.drop_eq_nil_of_le h] at hd
       simp [encN] at hd
   rw [drop_cons hl] at hd
   simp only [encN, List.cons_append, List.nil_append, List.cons.injEq] at hd
   have hmod : (u : Int) % 128 = u := by omega
   rw [rdGo, if_pos hl, hd.1, if_pos (by omega), hmod, if_neg (no_bad hk hm)]
   rfl
 | succ g ih =>
   intro f k u v rest hf hu hd hk hm hv
   obtain ⟨f, rfl⟩ : ∃ m, f = m + 1 := ⟨f - 1, by omega⟩
   have hne := (encN_len (g + 1) u).1
   have hl : a + k < xs.length := by
     rcases Nat.lt_or_ge (a + k) xs.length with h | h
     · exact h
     · rw [List.drop_eq_nil_of_le h] at hd
       have := congrArg List.length hd
       simp at this
       omega
   rw [drop_cons hl] at hd
   by_cases hc : u < 128
   · rw [encN_small hc] at hd ⊢
     simp only [List.cons_append, List.nil_append, List.cons.injEq] at hd
     have hmod : (u : Int) % 128 = u := by omega
     rw [rdGo, if_pos hl, hd.1, if_pos (by omega), hmod, if_neg (no_bad hk hm)]
     rfl
   · rw [encN_large (by omega)] at hd ⊢
     simp only [List.cons_append, List.cons.injEq] at hd
     have hmod : ((u % 128 + 128 : Nat) : Int) % 128 = (u % 128 : Nat) := by omega
     rw [rdGo, if_pos hl, hd.1, if_neg (by omega), hmod]
     have e : v + ((u % 128 : Nat) : Int) * 128 ^ k + ((u / 128 : Nat) : Int) * 128 ^ (k + 1) = v + (u : Int) * 128 ^ k := by
       rw [Int.pow_succ, Int.add_assoc]
       congr 1
       rw [← Int.mul_assoc, Int.mul_right_comm, ← Int.add_mul]
       congr 1
       omega
     have hp : (0 : Int) ≤ 128 ^ k := Int.pow_nonneg (by omega)
     rw [ih f (k + 1) (u / 128) _ rest (by omega) (by rw [Nat.pow_succ] at hu; omega) (by rw [show a + (k + 1) = a + k + 1 by omega]; exact hd.2) (fun _ => by omega) (by rw [e]; exact hm) (Int.add_nonneg hv (Int.mul_nonneg (by omega) hp)), e]
     simp only [List.length_cons]
     congr 2
     omega
theorem rdNum_of {xs rest : List Int} {a : Nat} {v : Int} (h0 : 0 ≤ v) (h1 : v ≤ 2147483647) (h : xs.drop a = encNum v ++ rest) : rdNum xs a = (v, ((a + (encNum v).length : Nat) : Int), 0) := by
 obtain ⟨n, rfl⟩ := Int.eq_ofNat_of_zero_le h0
 have := rdGo_of (xs := xs) (a := a) 4 5 0 n 0 rest (by omega) (by omega) h (by omega) (by simp; omega) (by omega)
 simp only [Int.pow_zero, Int.mul_one, Int.zero_add, Nat.add_zero] at this
 exact this
end Go.Proofs.YtmneemhplffemaaGreatDoorRR.Wire
namespace Go.Proofs.YtmneemhplffemaaGreatDoorRR.Wire
open Go.RowKit Go.Proofs.YtmneemhplffemaaGreatDoorRR.Ext Go.Proofs.YtmneemhplffemaaGreatDoorRRW.PrintWords
def rdTxt (xs : List Int) (a : Nat) : ByteArray × Int × Int :=
 if (rdNum xs a).2.2 = 0 then
  (if 262144 < (rdNum xs a).1 then (⟨#[]⟩, 0, 2)
   else if (xs.length : Int) - (rdNum xs a).2.1 < (rdNum xs a).1 then (⟨#[]⟩, 0, 21)
   else (strOfNums ((xs.take ((rdNum xs a).2.1 + (rdNum xs a).1).toNat).drop (rdNum xs a).2.1.toNat), (rdNum xs a).2.1 + (rdNum xs a).1, 0))
 else (⟨#[]⟩, 0, (rdNum xs a).2.2)
theorem rett {s x : ByteArray} {a c y z : Int} {p : ByteArray × Int × Int} (h : p = (s, a, c)) (hx : x = s) (hy : y = a) (hz : z = c) : Ending.returned (.tuple #[.string x, .int .i64 y, .int .i64 z]) = Ending.returned (.tuple #[.string p.1, .int .i64 p.2.1, .int .i64 p.2.2]) := by rw [h, hx, hy, hz]
set_option maxRecDepth 100000 in
set_option maxHeartbeats 1000000 in
theorem readText_any (A : Option Addr) (c : Nat) (xs : List Int) (a : Nat) (hB : Bytes xs) (ha : a ≤ xs.length) (hm : xs.length ≤ 4611686018427387904) (w : World) (hr : (Kd.int .u8).C w A xs.length xs) (hc : xs.length ≤ c) :
   Calls Tryz.prog 227 #[.slice A xs.length c, .int .i64 a] w fun e w' => e = .returned (.tuple #[.string (rdTxt xs a).1, .int .i64 (rdTxt xs a).2.1, .int .i64 (rdTxt xs a).2.2]) ∧ w = w' := by
 have HN := Aside0.mk (readNumber_any A c xs a hB ha w hr hc)
 by_cases h0 : (rdNum xs a).2.2 = 0
 · obtain ⟨v, q, hn, hv0, hv1, hq0, hq1, _⟩ := rdNum_says hB h0
   rw [hn] at HN
   by_cases h1 : 262144 < v
   · have hd1 : decide ((262144 : Int) < v) = true := by simp; omega
     have HE := Aside0.mk (show rdTxt xs a = (⟨#[]⟩, 0, 2) by unfold rdTxt; rw [hn]; rw [if_pos rfl, if_pos h1])
     clear h0 hr hB hn
     go_enter Tryz.func227, Tryz.ntmps227
     go_wp2_with (go_at_call 110; (with_reducible refine HN.out.mono ?_); rintro e w1 ⟨rfl, rfl⟩)
     go_ret3
     exact ⟨rett HE.out rfl rfl rfl, rfl⟩
   · have hd1 : decide ((262144 : Int) < v) = false := by simp; omega
     by_cases h2 : (xs.length : Int) - q < v
     · have hd2 : decide ((xs.length : Int) - q < v) = true := by simp; omega
       have HE := Aside0.mk (show rdTxt xs a = (⟨#[]⟩, 0, 21) by unfold rdTxt; rw [hn]; rw [if_pos rfl, if_neg h1, if_pos h2])
       clear h0 hr hB hn
       go_enter Tryz.func227, Tryz.ntmps227
       go_wp2_with (go_at_call 110; (with_reducible refine HN.out.mono ?_); rintro e w1 ⟨rfl, rfl⟩)
       go_ret3
       exact ⟨rett HE.out rfl rfl rfl, rfl⟩
     · have hd2 : decide ((xs.length : Int) - q < v) = false := by simp; omega
       have HE := Aside0.mk (show rdTxt xs a = (strOfNums ((xs.take ((q : Int) + v).toNat).drop q), (q : Int) + v, 0) by unfold rdTxt; rw [hn]; rw [if_pos rfl, if_neg h1, if_neg h2]; rfl)
       obtain ⟨i0, hi, hz0, hz1, hz2⟩ := info_parts info5
       obtain ⟨A', hrun, hrd, hle⟩ := print_mid_of (P := Tryz.prog) (Value.int .u8) (0 : Int) 41 5 .i64 .i64 Tryz.underlying41 hi hz1 A c xs (q : Int) ((q : Int) + v) (by omega) (by omega) (by omega) hc
       simp only [Int.toNat_natCast] at hrun hrd hle
       have hcv := string_of_reads (P := Tryz.prog) (src := 41) (dst := 9) (c := c - q) Tryz.underlying41 Tryz.underlying5 Tryz.underlying9 (hrd w (Kd.reads_of_C hr))
       obtain ⟨L, hL⟩ : ∃ L, L = ((xs.take ((q : Int) + v).toNat).drop q).length := ⟨_, rfl⟩
       rw [← hL] at hrun hcv
       clear hL
       have HQ : (q : Int) + v ≤ 4611686018427387904 := by omega
       clear hle
       clear h0 hr hB hn hi hz0 hz1 hz2 hrd h1 h2
       go_enter Tryz.func227, Tryz.ntmps227
       go_wp2_with (go_at_call 110; (with_reducible refine HN.out.mono ?_); rintro e w1 ⟨rfl, rfl⟩)
       go_ret3
       exact ⟨rett HE.out rfl rfl rfl, rfl⟩
 · have hd0 : ((rdNum xs a).2.2 != 0) = true := by simp [h0]
   have HE := Aside0.mk (show rdTxt xs a = (⟨#[]⟩, 0, (rdNum xs a).2.2) by unfold rdTxt; rw [if_neg h0])
   clear h0 hr hB
   go_enter Tryz.func227, Tryz.ntmps227
   go_wp2_with (go_at_call 110; (with_reducible refine HN.out.mono ?_); rintro e w1 ⟨rfl, rfl⟩)
   go_ret3
   exact ⟨rett HE.out rfl rfl rfl, rfl⟩
end Go.Proofs.YtmneemhplffemaaGreatDoorRR.Wire
