/- NoteEntries: EncodeEntry and DecodeEntry of every entry and of any bytes answer as the document says. No condition beyond the row's own. -/
import Derived.ArgAppend
import Derived.Below
import Derived.BigQuiet
import Derived.ChangeOld
import Derived.ChangeSlices
import Derived.Deep.AppendLies
import Derived.Deep.CutBlock
import Derived.Deep.DeepCutAuto
import Derived.Deep.DeepHandedRow
import Derived.Deep.Draws
import Derived.Deep.LoopGhost
import Derived.Deep.OwnRows
import Derived.Deep.QuietTactic
import Derived.Deep.RegionHeld3
import Derived.Deep.RegionLaw
import Derived.Deep.RegionLawGrows
import Derived.Deep.Slices
import Derived.Deep.WholeRow
import Derived.Defers
import Derived.HandedShaped
import Derived.KernelRfl
import Derived.Laws.BitsLemmas
import Derived.Laws.BytesArg
import Derived.Laws.EntriesVeiled
import Derived.Laws.IdiomCopy
import Derived.Laws.MakeOwn
import Derived.Laws.OwnMore
import Derived.Laws.Rows
import Derived.Laws.Slices
import Derived.Laws.StructEq
import Derived.Laws.Tables
import Derived.Lib.AppendStr
import Derived.Lib.ConvBytes
import Derived.Lib.Hide
import Derived.Lib.Join
import Derived.Lib.LaidTab
import Derived.Lib.SplitLaws
import Derived.LoopTactic
import Derived.Maps.AppendAt
import Derived.OpenShut
import Derived.OrdersHeld
import Derived.Outline
import Derived.OwnWalk
import Derived.ProofKit
import Derived.Recover
import Derived.RowKit
import Derived.RowKit3
import Derived.Shelf.LaysM
import Derived.Shelf.Strings.Count
import Derived.Shelf.Strings.Explode
import Derived.Shelf.Strings.Prefix
import Derived.Shelf.Strings.RuneCount
import Derived.Shelf.Strings.Search1
import Derived.Shelf.Strings.Search2
import Derived.Shelf.Strings.Search3
import Derived.Shelf.Strings.Shaped
import Derived.Shelf.Strings.Split
import Derived.Shelf.Strings.SplitShaped
import Derived.Shelf.Unicode.Decode
import Derived.Shelf.Unicode.DecodeSlow
import Derived.Shelf.Utf8.RuneCount
import Derived.Shelf.Vars
import Derived.ShutString
import Derived.SizedLaws
import Derived.StillTailTactics
import Derived.Tactics
import Derived.Test.YtmneemhplffemaaGreatDoorRRCards
import Derived.Test.YtmneemhplffemaaGreatDoorRRProg
import Derived.Test.YtmneemhplffemaaGreatDoorRRTie
import Derived.WalkKit
import Derived.WalkLawsBesides
import Derived.WideLaws
import Derived.Test.YtmneemhplffemaaGreatDoorRRJEe
set_option linter.unusedVariables false
set_option linter.unusedSimpArgs false
namespace Go.Proofs.YtmneemhplffemaaGreatDoorRR.Eye
open Go.RowKit Go.Proofs.YtmneemhplffemaaGreatDoorRR.Ext Go.Proofs.YtmneemhplffemaaGreatDoorRR.Wire Go.Proofs.YtmneemhplffemaaGreatDoorRR.Mem Go.Proofs.YtmneemhplffemaaGreatDoorRR.Get Go.Proofs.YtmneemhplffemaaGreatDoorRR.Ki Go.Proofs.YtmneemhplffemaaGreatDoorRRW.PrintWords


def eEntry (xs : List Int) (s : ES) : S55 × ES :=
 let r0 := eN xs s; let r1 := eN xs r0.2; let r2 := eN xs r1.2; let r3 := eN xs r2.2; let r4 := eN xs r3.2; let r5 := eOps xs r4.2
 (⟨r0.1, r1.1, r2.1, r3.1, r4.1, r5.1⟩, r5.2)
set_option maxRecDepth 100000 in
set_option maxHeartbeats 4000000 in
theorem e_entry (w0 W : World) (g : Nat) (A : Option Addr) (c : Nat) (xs : List Int) (s0 s' : ES) (r : S55) (hI : eEntry xs s0 = (r, s')) (hD : Get.Data w0 A c xs) (hl0 : s0.1 ≤ xs.length) (hb : Below w0.heap.size w0 W) (hg : w0.heap.size ≤ g) (hE : EyeR W g A xs.length c s0) :
  Calls Tryz.prog 80 #[.pointer (some ⟨g, 0, none⟩)] W fun e W' => ∃ cs : List Value, e = .returned (.agg cs.toArray) ∧ k55.M W' W.heap.size (fun _ => True) r cs ∧ Moved W W' (fun k => k = g) ∧ EyeR W' g A xs.length c s' := by
 have HI := Aside0.mk hI
 have HD := Aside0.mk hD
 have HB := Aside0.mk hb
 have HE0 := Aside0.mk hE
 have HM0 := Aside0.mk (Moved.refl W (fun k => k = g))
 have hgl := eye_lt hE
 clear hI hD hb hE
 go_enter Tryz.func80, Tryz.ntmps80
 have hsz1 := HM0.out.size
 have HBR_1 : Aside0 ((W.alloc (Obj.cells #[.int .i64 0, .int .i64 0, .int .i64 0, .int .i64 0, .int .i64 0, .slice none 0 0] 55 (0, 0))).heap[W.heap.size]? = some (Obj.cells #[.int .i64 0, .int .i64 0, .int .i64 0, .int .i64 0, .int .i64 0, .slice none 0 0] 55 (0, 0))) := ⟨blk_alloc _⟩
 have NER : Aside0 (W.heap.size ≠ g) := ⟨by omega⟩
 have LER : Aside0 (W.heap.size ≤ W.heap.size) := ⟨by omega⟩
 clear hsz1
 have HE1 := Aside0.mk (show EyeR (W.alloc (Obj.cells #[.int .i64 0, .int .i64 0, .int .i64 0, .int .i64 0, .int .i64 0, .slice none 0 0] 55 (0, 0))) g A xs.length c s0 from blk_below (below_alloc (Below.refl _ _) (Obj.cells #[.int .i64 0, .int .i64 0, .int .i64 0, .int .i64 0, .int .i64 0, .slice none 0 0] 55 (0, 0))) HE0.out)
 have HM1 := Aside0.mk (HM0.out.alloc (Obj.cells #[.int .i64 0, .int .i64 0, .int .i64 0, .int .i64 0, .int .i64 0, .slice none 0 0] 55 (0, 0)))
 have hsz2 := HM1.out.size
 have hbl2_R := blk_lt HBR_1.out
 have HBL_2 : Aside0 (((W.alloc (Obj.cells #[.int .i64 0, .int .i64 0, .int .i64 0, .int .i64 0, .int .i64 0, .slice none 0 0] 55 (0, 0))).alloc (Obj.cells #[.int .i64 0, .int .i64 0, .int .i64 0, .int .i64 0, .int .i64 0, .slice none 0 0] 55 (0, 0))).heap[W.heap.size + 1]? = some (Obj.cells #[.int .i64 0, .int .i64 0, .int .i64 0, .int .i64 0, .int .i64 0, .slice none 0 0] 55 (0, 0))) := ⟨blk_alloc2 _ _ _⟩
 have NEL : Aside0 (W.heap.size + 1 ≠ g) := ⟨by omega⟩
 have LEL : Aside0 (W.heap.size ≤ W.heap.size + 1) := ⟨by omega⟩
 have hneR_L : W.heap.size ≠ W.heap.size + 1 := by omega
 have hneL_R : W.heap.size + 1 ≠ W.heap.size := by omega
 clear hsz2 hbl2_R
 have HBR_2 := Aside0.mk (blk_below (below_alloc (Below.refl _ _) (Obj.cells #[.int .i64 0, .int .i64 0, .int .i64 0, .int .i64 0, .int .i64 0, .slice none 0 0] 55 (0, 0))) HBR_1.out)
 have HE2 := Aside0.mk (show EyeR ((W.alloc (Obj.cells #[.int .i64 0, .int .i64 0, .int .i64 0, .int .i64 0, .int .i64 0, .slice none 0 0] 55 (0, 0))).alloc (Obj.cells #[.int .i64 0, .int .i64 0, .int .i64 0, .int .i64 0, .int .i64 0, .slice none 0 0] 55 (0, 0))) g A xs.length c s0 from blk_below (below_alloc (Below.refl _ _) (Obj.cells #[.int .i64 0, .int .i64 0, .int .i64 0, .int .i64 0, .int .i64 0, .slice none 0 0] 55 (0, 0))) HE1.out)
 have HM2 := Aside0.mk (HM1.out.alloc (Obj.cells #[.int .i64 0, .int .i64 0, .int .i64 0, .int .i64 0, .int .i64 0, .slice none 0 0] 55 (0, 0)))
 obtain ⟨⟨x3, s3⟩, hi⟩ : ∃ p, eN xs s0 = p := ⟨_, rfl⟩
 have hl3 := (eN_ok HD.out.bytes hl0 hi).1
 have HI3 := Aside0.mk hi
 clear hi
 go_wp2_with fail
 refine (enum w0 _ g A c xs s0 s3 x3 HI3.out HD.out hl0 (HM2.out.above HB.out (fun k hk => by omega)) hg HE2.out).mono ?_
 rintro e w3 ⟨rfl, hm, he⟩
 have HM3 := Aside0.mk (HM2.out.trans hm (fun _ _ h => h))
 have HBR_3 := Aside0.mk (hm.blk HBR_2.out NER.out)
 have HBL_3 := Aside0.mk (hm.blk HBL_2.out NEL.out)
 have HE3 := Aside0.mk he
 clear hm he
 have hc4_R := blk_cell HBR_3.out
 have hf4_R := blk_frozen HBR_3.out
 have hc4_L := blk_cell HBL_3.out
 have hf4_L := blk_frozen HBL_3.out
 have HBR_5 := Aside0.mk (blk_far HBR_3.out (p := ⟨W.heap.size + 1, 0, none⟩) hneR_L (.int .i64 x3))
 have HE5 := Aside0.mk (show EyeR (w3.setCell ⟨W.heap.size + 1, 0, none⟩ (.int .i64 x3)) g A xs.length c s3 from blk_far HE3.out (p := ⟨W.heap.size + 1, 0, none⟩) NEL.out.symm (.int .i64 x3))
 have HM5 := Aside0.mk (HM3.out.set_ (p := ⟨W.heap.size + 1, 0, none⟩) (.inr LEL.out) (.int .i64 x3))
 have HBL_5 := Aside0.mk (show (w3.setCell ⟨W.heap.size + 1, 0, none⟩ (.int .i64 x3)).heap[W.heap.size + 1]? = some (Obj.cells #[.int .i64 x3, .int .i64 0, .int .i64 0, .int .i64 0, .int .i64 0, .slice none 0 0] 55 (0, 0)) from blk_set HBL_3.out 0 (.int .i64 x3))
 obtain ⟨⟨x6, s6⟩, hi⟩ : ∃ p, eN xs s3 = p := ⟨_, rfl⟩
 have hl6 := (eN_ok HD.out.bytes hl3 hi).1
 have HI6 := Aside0.mk hi
 clear hi
 go_wp2_with fail
 refine (enum w0 _ g A c xs s3 s6 x6 HI6.out HD.out hl3 (HM5.out.above HB.out (fun k hk => by omega)) hg HE5.out).mono ?_
 rintro e w6 ⟨rfl, hm, he⟩
 have HM6 := Aside0.mk (HM5.out.trans hm (fun _ _ h => h))
 have HBR_6 := Aside0.mk (hm.blk HBR_5.out NER.out)
 have HBL_6 := Aside0.mk (hm.blk HBL_5.out NEL.out)
 have HE6 := Aside0.mk he
 clear hm he
 have hc7_R := blk_cell HBR_6.out
 have hf7_R := blk_frozen HBR_6.out
 have hc7_L := blk_cell HBL_6.out
 have hf7_L := blk_frozen HBL_6.out
 clear hc4_R hf4_R hc4_L hf4_L
 have HBR_8 := Aside0.mk (blk_far HBR_6.out (p := ⟨W.heap.size + 1, 1, none⟩) hneR_L (.int .i64 x6))
 have HE8 := Aside0.mk (show EyeR (w6.setCell ⟨W.heap.size + 1, 1, none⟩ (.int .i64 x6)) g A xs.length c s6 from blk_far HE6.out (p := ⟨W.heap.size + 1, 1, none⟩) NEL.out.symm (.int .i64 x6))
 have HM8 := Aside0.mk (HM6.out.set_ (p := ⟨W.heap.size + 1, 1, none⟩) (.inr LEL.out) (.int .i64 x6))
 have HBL_8 := Aside0.mk (show (w6.setCell ⟨W.heap.size + 1, 1, none⟩ (.int .i64 x6)).heap[W.heap.size + 1]? = some (Obj.cells #[.int .i64 x3, .int .i64 x6, .int .i64 0, .int .i64 0, .int .i64 0, .slice none 0 0] 55 (0, 0)) from blk_set HBL_6.out 1 (.int .i64 x6))
 obtain ⟨⟨x9, s9⟩, hi⟩ : ∃ p, eN xs s6 = p := ⟨_, rfl⟩
 have hl9 := (eN_ok HD.out.bytes hl6 hi).1
 have HI9 := Aside0.mk hi
 clear hi
 go_wp2_with fail
 refine (enum w0 _ g A c xs s6 s9 x9 HI9.out HD.out hl6 (HM8.out.above HB.out (fun k hk => by omega)) hg HE8.out).mono ?_
 rintro e w9 ⟨rfl, hm, he⟩
 have HM9 := Aside0.mk (HM8.out.trans hm (fun _ _ h => h))
 have HBR_9 := Aside0.mk (hm.blk HBR_8.out NER.out)
 have HBL_9 := Aside0.mk (hm.blk HBL_8.out NEL.out)
 have HE9 := Aside0.mk he
 clear hm he
 have hc10_R := blk_cell HBR_9.out
 have hf10_R := blk_frozen HBR_9.out
 have hc10_L := blk_cell HBL_9.out
 have hf10_L := blk_frozen HBL_9.out
 clear hc7_R hf7_R hc7_L hf7_L
 have HBR_11 := Aside0.mk (blk_far HBR_9.out (p := ⟨W.heap.size + 1, 2, none⟩) hneR_L (.int .i64 x9))
 have HE11 := Aside0.mk (show EyeR (w9.setCell ⟨W.heap.size + 1, 2, none⟩ (.int .i64 x9)) g A xs.length c s9 from blk_far HE9.out (p := ⟨W.heap.size + 1, 2, none⟩) NEL.out.symm (.int .i64 x9))
 have HM11 := Aside0.mk (HM9.out.set_ (p := ⟨W.heap.size + 1, 2, none⟩) (.inr LEL.out) (.int .i64 x9))
 have HBL_11 := Aside0.mk (show (w9.setCell ⟨W.heap.size + 1, 2, none⟩ (.int .i64 x9)).heap[W.heap.size + 1]? = some (Obj.cells #[.int .i64 x3, .int .i64 x6, .int .i64 x9, .int .i64 0, .int .i64 0, .slice none 0 0] 55 (0, 0)) from blk_set HBL_9.out 2 (.int .i64 x9))
 obtain ⟨⟨x12, s12⟩, hi⟩ : ∃ p, eN xs s9 = p := ⟨_, rfl⟩
 have hl12 := (eN_ok HD.out.bytes hl9 hi).1
 have HI12 := Aside0.mk hi
 clear hi
 go_wp2_with fail
 refine (enum w0 _ g A c xs s9 s12 x12 HI12.out HD.out hl9 (HM11.out.above HB.out (fun k hk => by omega)) hg HE11.out).mono ?_
 rintro e w12 ⟨rfl, hm, he⟩
 have HM12 := Aside0.mk (HM11.out.trans hm (fun _ _ h => h))
 have HBR_12 := Aside0.mk (hm.blk HBR_11.out NER.out)
 have HBL_12 := Aside0.mk (hm.blk HBL_11.out NEL.out)
 have HE12 := Aside0.mk he
 clear hm he
 have hc13_R := blk_cell HBR_12.out
 have hf13_R := blk_frozen HBR_12.out
 have hc13_L := blk_cell HBL_12.out
 have hf13_L := blk_frozen HBL_12.out
 clear hc10_R hf10_R hc10_L hf10_L
 have HBR_14 := Aside0.mk (blk_far HBR_12.out (p := ⟨W.heap.size + 1, 3, none⟩) hneR_L (.int .i64 x12))
 have HE14 := Aside0.mk (show EyeR (w12.setCell ⟨W.heap.size + 1, 3, none⟩ (.int .i64 x12)) g A xs.length c s12 from blk_far HE12.out (p := ⟨W.heap.size + 1, 3, none⟩) NEL.out.symm (.int .i64 x12))
 have HM14 := Aside0.mk (HM12.out.set_ (p := ⟨W.heap.size + 1, 3, none⟩) (.inr LEL.out) (.int .i64 x12))
 have HBL_14 := Aside0.mk (show (w12.setCell ⟨W.heap.size + 1, 3, none⟩ (.int .i64 x12)).heap[W.heap.size + 1]? = some (Obj.cells #[.int .i64 x3, .int .i64 x6, .int .i64 x9, .int .i64 x12, .int .i64 0, .slice none 0 0] 55 (0, 0)) from blk_set HBL_12.out 3 (.int .i64 x12))
 obtain ⟨⟨x15, s15⟩, hi⟩ : ∃ p, eN xs s12 = p := ⟨_, rfl⟩
 have hl15 := (eN_ok HD.out.bytes hl12 hi).1
 have HI15 := Aside0.mk hi
 clear hi
 go_wp2_with fail
 refine (enum w0 _ g A c xs s12 s15 x15 HI15.out HD.out hl12 (HM14.out.above HB.out (fun k hk => by omega)) hg HE14.out).mono ?_
 rintro e w15 ⟨rfl, hm, he⟩
 have HM15 := Aside0.mk (HM14.out.trans hm (fun _ _ h => h))
 have HBR_15 := Aside0.mk (hm.blk HBR_14.out NER.out)
 have HBL_15 := Aside0.mk (hm.blk HBL_14.out NEL.out)
 have HE15 := Aside0.mk he
 clear hm he
 have hc16_R := blk_cell HBR_15.out
 have hf16_R := blk_frozen HBR_15.out
 have hc16_L := blk_cell HBL_15.out
 have hf16_L := blk_frozen HBL_15.out
 clear hc13_R hf13_R hc13_L hf13_L
 have HBR_17 := Aside0.mk (blk_far HBR_15.out (p := ⟨W.heap.size + 1, 4, none⟩) hneR_L (.int .i64 x15))
 have HE17 := Aside0.mk (show EyeR (w15.setCell ⟨W.heap.size + 1, 4, none⟩ (.int .i64 x15)) g A xs.length c s15 from blk_far HE15.out (p := ⟨W.heap.size + 1, 4, none⟩) NEL.out.symm (.int .i64 x15))
 have HM17 := Aside0.mk (HM15.out.set_ (p := ⟨W.heap.size + 1, 4, none⟩) (.inr LEL.out) (.int .i64 x15))
 have HBL_17 := Aside0.mk (show (w15.setCell ⟨W.heap.size + 1, 4, none⟩ (.int .i64 x15)).heap[W.heap.size + 1]? = some (Obj.cells #[.int .i64 x3, .int .i64 x6, .int .i64 x9, .int .i64 x12, .int .i64 x15, .slice none 0 0] 55 (0, 0)) from blk_set HBL_15.out 4 (.int .i64 x15))
 obtain ⟨⟨l18, s18⟩, hi⟩ : ∃ p, eOps xs s15 = p := ⟨_, rfl⟩
 have hl18 := eOps_ok HD.out.bytes hl15 hi
 have HI18 := Aside0.mk hi
 clear hi
 go_wp2_with fail
 refine (e_ops w0 _ g A c xs s15 s18 l18 HI18.out HD.out hl15 (HM17.out.above HB.out (fun k hk => by omega)) hg HE17.out).mono ?_
 rintro e w18 ⟨v18, rfl, ho, hm, he⟩
 have HM18 := Aside0.mk (HM17.out.trans hm (fun _ _ h => h))
 have HBR_18 := Aside0.mk (hm.blk HBR_17.out NER.out)
 have HBL_18 := Aside0.mk (hm.blk HBL_17.out NEL.out)
 have HOL_18 := Aside0.mk (Kd.R_lower ho HM17.out.size)
 obtain ⟨A18, c18, rfl, _, _⟩ := Kd.R_reads ho
 clear ho
 have HE18 := Aside0.mk he
 clear hm he
 have hc19_R := blk_cell HBR_18.out
 have hf19_R := blk_frozen HBR_18.out
 have hc19_L := blk_cell HBL_18.out
 have hf19_L := blk_frozen HBL_18.out
 clear hc16_R hf16_R hc16_L hf16_L
 have HBR_20 := Aside0.mk (blk_far HBR_18.out (p := ⟨W.heap.size + 1, 5, none⟩) hneR_L (.slice A18 l18.length c18))
 have HOL_20 := Aside0.mk (Kd.R_set HOL_18.out HBL_18.out (by decide) 5 (.slice A18 l18.length c18))
 have HE20 := Aside0.mk (show EyeR (w18.setCell ⟨W.heap.size + 1, 5, none⟩ (.slice A18 l18.length c18)) g A xs.length c s18 from blk_far HE18.out (p := ⟨W.heap.size + 1, 5, none⟩) NEL.out.symm (.slice A18 l18.length c18))
 have HM20 := Aside0.mk (HM18.out.set_ (p := ⟨W.heap.size + 1, 5, none⟩) (.inr LEL.out) (.slice A18 l18.length c18))
 have HBL_20 := Aside0.mk (show (w18.setCell ⟨W.heap.size + 1, 5, none⟩ (.slice A18 l18.length c18)).heap[W.heap.size + 1]? = some (Obj.cells #[.int .i64 x3, .int .i64 x6, .int .i64 x9, .int .i64 x12, .int .i64 x15, .slice A18 l18.length c18] 55 (0, 0)) from blk_set HBL_18.out 5 (.slice A18 l18.length c18))
 go_wp2_with fail
 refine bodyPost_ret (v := .agg #[.int .i64 x3, .int .i64 x6, .int .i64 x9, .int .i64 x12, .int .i64 x15, .slice A18 l18.length c18]) (by simp [results, Tryz.results80, go_sem, hc19_R]) rfl ?_
 have HBL_21 := Aside0.mk (blk_far HBL_20.out (p := ⟨W.heap.size, 0, none⟩) hneL_R (.int .i64 x3))
 have HOL_21 := Aside0.mk (Kd.R_set HOL_20.out HBR_20.out (by decide) 0 (.int .i64 x3))
 have HE21 := Aside0.mk (show EyeR ((w18.setCell ⟨W.heap.size + 1, 5, none⟩ (.slice A18 l18.length c18)).setCell ⟨W.heap.size, 0, none⟩ (.int .i64 x3)) g A xs.length c s18 from blk_far HE20.out (p := ⟨W.heap.size, 0, none⟩) NER.out.symm (.int .i64 x3))
 have HM21 := Aside0.mk (HM20.out.set_ (p := ⟨W.heap.size, 0, none⟩) (.inr LER.out) (.int .i64 x3))
 have HBR_21 := Aside0.mk (show ((w18.setCell ⟨W.heap.size + 1, 5, none⟩ (.slice A18 l18.length c18)).setCell ⟨W.heap.size, 0, none⟩ (.int .i64 x3)).heap[W.heap.size]? = some (Obj.cells #[.int .i64 x3, .int .i64 0, .int .i64 0, .int .i64 0, .int .i64 0, .slice none 0 0] 55 (0, 0)) from blk_set HBR_20.out 0 (.int .i64 x3))
 have HBL_22 := Aside0.mk (blk_far HBL_21.out (p := ⟨W.heap.size, 1, none⟩) hneL_R (.int .i64 x6))
 have HOL_22 := Aside0.mk (Kd.R_set HOL_21.out HBR_21.out (by decide) 1 (.int .i64 x6))
 have HE22 := Aside0.mk (show EyeR (((w18.setCell ⟨W.heap.size + 1, 5, none⟩ (.slice A18 l18.length c18)).setCell ⟨W.heap.size, 0, none⟩ (.int .i64 x3)).setCell ⟨W.heap.size, 1, none⟩ (.int .i64 x6)) g A xs.length c s18 from blk_far HE21.out (p := ⟨W.heap.size, 1, none⟩) NER.out.symm (.int .i64 x6))
 have HM22 := Aside0.mk (HM21.out.set_ (p := ⟨W.heap.size, 1, none⟩) (.inr LER.out) (.int .i64 x6))
 have HBR_22 := Aside0.mk (show (((w18.setCell ⟨W.heap.size + 1, 5, none⟩ (.slice A18 l18.length c18)).setCell ⟨W.heap.size, 0, none⟩ (.int .i64 x3)).setCell ⟨W.heap.size, 1, none⟩ (.int .i64 x6)).heap[W.heap.size]? = some (Obj.cells #[.int .i64 x3, .int .i64 x6, .int .i64 0, .int .i64 0, .int .i64 0, .slice none 0 0] 55 (0, 0)) from blk_set HBR_21.out 1 (.int .i64 x6))
 have HBL_23 := Aside0.mk (blk_far HBL_22.out (p := ⟨W.heap.size, 2, none⟩) hneL_R (.int .i64 x9))
 have HOL_23 := Aside0.mk (Kd.R_set HOL_22.out HBR_22.out (by decide) 2 (.int .i64 x9))
 have HE23 := Aside0.mk (show EyeR ((((w18.setCell ⟨W.heap.size + 1, 5, none⟩ (.slice A18 l18.length c18)).setCell ⟨W.heap.size, 0, none⟩ (.int .i64 x3)).setCell ⟨W.heap.size, 1, none⟩ (.int .i64 x6)).setCell ⟨W.heap.size, 2, none⟩ (.int .i64 x9)) g A xs.length c s18 from blk_far HE22.out (p := ⟨W.heap.size, 2, none⟩) NER.out.symm (.int .i64 x9))
 have HM23 := Aside0.mk (HM22.out.set_ (p := ⟨W.heap.size, 2, none⟩) (.inr LER.out) (.int .i64 x9))
 have HBR_23 := Aside0.mk (show ((((w18.setCell ⟨W.heap.size + 1, 5, none⟩ (.slice A18 l18.length c18)).setCell ⟨W.heap.size, 0, none⟩ (.int .i64 x3)).setCell ⟨W.heap.size, 1, none⟩ (.int .i64 x6)).setCell ⟨W.heap.size, 2, none⟩ (.int .i64 x9)).heap[W.heap.size]? = some (Obj.cells #[.int .i64 x3, .int .i64 x6, .int .i64 x9, .int .i64 0, .int .i64 0, .slice none 0 0] 55 (0, 0)) from blk_set HBR_22.out 2 (.int .i64 x9))
 have HBL_24 := Aside0.mk (blk_far HBL_23.out (p := ⟨W.heap.size, 3, none⟩) hneL_R (.int .i64 x12))
 have HOL_24 := Aside0.mk (Kd.R_set HOL_23.out HBR_23.out (by decide) 3 (.int .i64 x12))
 have HE24 := Aside0.mk (show EyeR (((((w18.setCell ⟨W.heap.size + 1, 5, none⟩ (.slice A18 l18.length c18)).setCell ⟨W.heap.size, 0, none⟩ (.int .i64 x3)).setCell ⟨W.heap.size, 1, none⟩ (.int .i64 x6)).setCell ⟨W.heap.size, 2, none⟩ (.int .i64 x9)).setCell ⟨W.heap.size, 3, none⟩ (.int .i64 x12)) g A xs.length c s18 from blk_far HE23.out (p := ⟨W.heap.size, 3, none⟩) NER.out.symm (.int .i64 x12))
 have HM24 := Aside0.mk (HM23.out.set_ (p := ⟨W.heap.size, 3, none⟩) (.inr LER.out) (.int .i64 x12))
 have HBR_24 := Aside0.mk (show (((((w18.setCell ⟨W.heap.size + 1, 5, none⟩ (.slice A18 l18.length c18)).setCell ⟨W.heap.size, 0, none⟩ (.int .i64 x3)).setCell ⟨W.heap.size, 1, none⟩ (.int .i64 x6)).setCell ⟨W.heap.size, 2, none⟩ (.int .i64 x9)).setCell ⟨W.heap.size, 3, none⟩ (.int .i64 x12)).heap[W.heap.size]? = some (Obj.cells #[.int .i64 x3, .int .i64 x6, .int .i64 x9, .int .i64 x12, .int .i64 0, .slice none 0 0] 55 (0, 0)) from blk_set HBR_23.out 3 (.int .i64 x12))
 have HBL_25 := Aside0.mk (blk_far HBL_24.out (p := ⟨W.heap.size, 4, none⟩) hneL_R (.int .i64 x15))
 have HOL_25 := Aside0.mk (Kd.R_set HOL_24.out HBR_24.out (by decide) 4 (.int .i64 x15))
 have HE25 := Aside0.mk (show EyeR ((((((w18.setCell ⟨W.heap.size + 1, 5, none⟩ (.slice A18 l18.length c18)).setCell ⟨W.heap.size, 0, none⟩ (.int .i64 x3)).setCell ⟨W.heap.size, 1, none⟩ (.int .i64 x6)).setCell ⟨W.heap.size, 2, none⟩ (.int .i64 x9)).setCell ⟨W.heap.size, 3, none⟩ (.int .i64 x12)).setCell ⟨W.heap.size, 4, none⟩ (.int .i64 x15)) g A xs.length c s18 from blk_far HE24.out (p := ⟨W.heap.size, 4, none⟩) NER.out.symm (.int .i64 x15))
 have HM25 := Aside0.mk (HM24.out.set_ (p := ⟨W.heap.size, 4, none⟩) (.inr LER.out) (.int .i64 x15))
 have HBR_25 := Aside0.mk (show ((((((w18.setCell ⟨W.heap.size + 1, 5, none⟩ (.slice A18 l18.length c18)).setCell ⟨W.heap.size, 0, none⟩ (.int .i64 x3)).setCell ⟨W.heap.size, 1, none⟩ (.int .i64 x6)).setCell ⟨W.heap.size, 2, none⟩ (.int .i64 x9)).setCell ⟨W.heap.size, 3, none⟩ (.int .i64 x12)).setCell ⟨W.heap.size, 4, none⟩ (.int .i64 x15)).heap[W.heap.size]? = some (Obj.cells #[.int .i64 x3, .int .i64 x6, .int .i64 x9, .int .i64 x12, .int .i64 x15, .slice none 0 0] 55 (0, 0)) from blk_set HBR_24.out 4 (.int .i64 x15))
 have HBL_26 := Aside0.mk (blk_far HBL_25.out (p := ⟨W.heap.size, 5, none⟩) hneL_R (.slice A18 l18.length c18))
 have HOL_26 := Aside0.mk (Kd.R_set HOL_25.out HBR_25.out (by decide) 5 (.slice A18 l18.length c18))
 have HE26 := Aside0.mk (show EyeR (((((((w18.setCell ⟨W.heap.size + 1, 5, none⟩ (.slice A18 l18.length c18)).setCell ⟨W.heap.size, 0, none⟩ (.int .i64 x3)).setCell ⟨W.heap.size, 1, none⟩ (.int .i64 x6)).setCell ⟨W.heap.size, 2, none⟩ (.int .i64 x9)).setCell ⟨W.heap.size, 3, none⟩ (.int .i64 x12)).setCell ⟨W.heap.size, 4, none⟩ (.int .i64 x15)).setCell ⟨W.heap.size, 5, none⟩ (.slice A18 l18.length c18)) g A xs.length c s18 from blk_far HE25.out (p := ⟨W.heap.size, 5, none⟩) NER.out.symm (.slice A18 l18.length c18))
 have HM26 := Aside0.mk (HM25.out.set_ (p := ⟨W.heap.size, 5, none⟩) (.inr LER.out) (.slice A18 l18.length c18))
 have HBR_26 := Aside0.mk (show (((((((w18.setCell ⟨W.heap.size + 1, 5, none⟩ (.slice A18 l18.length c18)).setCell ⟨W.heap.size, 0, none⟩ (.int .i64 x3)).setCell ⟨W.heap.size, 1, none⟩ (.int .i64 x6)).setCell ⟨W.heap.size, 2, none⟩ (.int .i64 x9)).setCell ⟨W.heap.size, 3, none⟩ (.int .i64 x12)).setCell ⟨W.heap.size, 4, none⟩ (.int .i64 x15)).setCell ⟨W.heap.size, 5, none⟩ (.slice A18 l18.length c18)).heap[W.heap.size]? = some (Obj.cells #[.int .i64 x3, .int .i64 x6, .int .i64 x9, .int .i64 x12, .int .i64 x15, .slice A18 l18.length c18] 55 (0, 0)) from blk_set HBR_25.out 5 (.slice A18 l18.length c18))
 have HRR := (HI.out.symm.trans (show eEntry xs s0 = (⟨x3, x6, x9, x12, x15, l18⟩, s18) by simp only [eEntry, HI3.out, HI6.out, HI9.out, HI12.out, HI15.out, HI18.out, Int.toNat_natCast]))
 simp only [Prod.mk.injEq] at HRR
 obtain ⟨rfl, rfl⟩ := HRR
 exact ⟨[.int .i64 x3, .int .i64 x6, .int .i64 x9, .int .i64 x12, .int .i64 x15, .slice A18 l18.length c18], rfl, k55_mkM _ _ _ _ (Kd.R_mono HOL_26.out (fun _ _ => trivial)), HM26.out, HE26.out⟩
end Go.Proofs.YtmneemhplffemaaGreatDoorRR.Eye
namespace Go.Proofs.YtmneemhplffemaaGreatDoorRR.Law
open Go.RowKit Go.Proofs.YtmneemhplffemaaGreatDoorRR.Ord Go.Proofs.YtmneemhplffemaaGreatDoorRR.Name Go.Proofs.YtmneemhplffemaaGreatDoorRR.Ext Go.Proofs.YtmneemhplffemaaGreatDoorRR.Wire Go.Proofs.YtmneemhplffemaaGreatDoorRR.Mem Go.Proofs.YtmneemhplffemaaGreatDoorRR.Put Go.Proofs.YtmneemhplffemaaGreatDoorRR.Get Go.Proofs.YtmneemhplffemaaGreatDoorRR.Ki Go.Proofs.YtmneemhplffemaaGreatDoorRR.Chk Go.Proofs.YtmneemhplffemaaGreatDoorRR.May Go.Proofs.YtmneemhplffemaaGreatDoorRR.Eye Go.Proofs.YtmneemhplffemaaGreatDoorRRW.PrintWords


def EReads {β : Type} (f : List Int → ES → β × ES) (enc : β → List Int) (ok : β → Prop) : Prop :=
 ∀ (xs rest : List Int) (a : Nat) (y : β), ok y → xs.drop a = enc y ++ rest → f xs (a, false) = (y, (a + (enc y).length, false))
theorem er_num : EReads eN encNum isN := fun xs rest a y hy h => eN_some (reads_num xs rest a y hy h)
theorem er_txt : EReads eT encTxt (fun s => s.size ≤ 262144) := fun xs rest a y hy h => eT_some (reads_txt xs rest a y hy h)
theorem er_many {xs rest : List Int} {a n : Nat} {m : Int} (hn : (n : Int) ≤ m) (hm : m ≤ 2147483647) (h : xs.drop a = encNum (n : Int) ++ rest) : eM xs m (a, false) = ((n : Int), (a + (encNum (n : Int)).length, false)) := by
 have h1 := er_num xs rest a (n : Int) ⟨by omega, by omega⟩ h
 unfold eM
 rw [h1]
 exact if_neg (by simp only; omega)
theorem er_rep {β : Type} {f : List Int → ES → β × ES} {enc : β → List Int} {ok : β → Prop} (h : EReads f enc ok) (l : List β) : ∀ (xs rest : List Int) (a : Nat), (∀ y ∈ l, ok y) → xs.drop a = l.flatMap enc ++ rest → eRep (f xs) l.length (a, false) = (l, (a + (l.flatMap enc).length, false)) := by
 induction l with
 | nil => intro xs rest a _ _; simp [eRep]
 | cons x l ih =>
   intro xs rest a ho he
   rw [List.flatMap_cons, List.append_assoc] at he
   have h1 := h xs _ a x (ho x List.mem_cons_self) he
   have h2 := ih xs rest _ (fun y hy => ho y (List.mem_cons_of_mem _ hy)) (drop_next he)
   rw [List.length_cons, eRep, if_neg (by simp), h1]
   simp only
   rw [h2]
   simp only [List.flatMap_cons, List.length_append, Nat.add_assoc]
theorem er_lst {β : Type} {f : List Int → ES → β × ES} {enc : β → List Int} {ok : β → Prop} (m : Int) (hm : m ≤ 2147483647) (h : EReads f enc ok) : EReads (fun xs s => eRep (f xs) (eM xs m s).1.toNat (eM xs m s).2) (encList enc) (fun l => (l.length : Int) ≤ m ∧ ∀ y ∈ l, ok y) := by
 intro xs rest a l hl he
 unfold encList at he ⊢
 rw [List.append_assoc] at he
 have h1 := er_many hl.1 hm he
 have h2 := er_rep h l xs rest _ hl.2 (drop_next he)
 simp only [h1, Int.toNat_natCast]
 rw [h2]
 simp only [List.length_append, Nat.add_assoc]
theorem er_Op : EReads eOp encOp OpOk := by
 intro xs rest a x hx h
 by_cases hv : x.f3 = -1
 · have he : encOp x = encNum x.f0 ++ (encTxt x.f1 ++ (encTxt x.f2 ++ (encNum 0 ++ encNum x.f4))) := by
    simp only [encOp, if_pos hv, List.append_assoc]
   rw [he] at h ⊢
   simp only [List.append_assoc] at h
   have r0 := er_num xs _ _ x.f0 hx.n0 h
   have d0 := drop_next h
   have r1 := er_txt xs _ _ x.f1 (by have := hx.t1; omega) d0
   have d1 := drop_next d0
   have r2 := er_txt xs _ _ x.f2 (by have := hx.t2; omega) d1
   have d2 := drop_next d1
   have r3 := er_num xs _ _ 0 ⟨by omega, by omega⟩ d2
   have d3 := drop_next d2
   have r5 := er_num xs _ _ x.f4 hx.n4 d3
   simp only [eOp, r0, r1, r2, r3, eVer, ne_eq, not_true_eq_false, if_false, r5]
   simp only [List.length_append, Nat.add_assoc]
   rw [← hv]
 · have hn := hx.n3.resolve_left hv
   have he : encOp x = encNum x.f0 ++ (encTxt x.f1 ++ (encTxt x.f2 ++ (encNum 1 ++ (encNum x.f3 ++ encNum x.f4)))) := by
    simp only [encOp, if_neg hv, List.append_assoc]
   rw [he] at h ⊢
   simp only [List.append_assoc] at h
   have r0 := er_num xs _ _ x.f0 hx.n0 h
   have d0 := drop_next h
   have r1 := er_txt xs _ _ x.f1 (by have := hx.t1; omega) d0
   have d1 := drop_next d0
   have r2 := er_txt xs _ _ x.f2 (by have := hx.t2; omega) d1
   have d2 := drop_next d1
   have r3 := er_num xs _ _ 1 ⟨by omega, by omega⟩ d2
   have d3 := drop_next d2
   have r4 := er_num xs _ _ x.f3 hn d3
   have d4 := drop_next d3
   have r5 := er_num xs _ _ x.f4 hx.n4 d4
   simp only [eOp, r0, r1, r2, r3, eVer_yes (show (1 : Int) ≠ 0 by omega), r4, r5]
   simp only [List.length_append, Nat.add_assoc]
theorem er_Ops : EReads eOps (encList encOp) (fun l => (l.length : Int) ≤ 4 ∧ ∀ y ∈ l, OpOk y) := er_lst 4 (by omega) er_Op
theorem er_Entry : EReads eEntry encEntry EntryOk := by
 intro xs rest a x hx h
 have he : encEntry x = encNum x.f0 ++ (encNum x.f1 ++ (encNum x.f2 ++ (encNum x.f3 ++ (encNum x.f4 ++ (encList encOp x.f5))))) := by
  simp [encEntry, encList, List.append_assoc]
 rw [he] at h ⊢
 simp only [List.append_assoc] at h
 have r0 := er_num xs _ _ x.f0 hx.n0 h
 have d0 := drop_next h
 have r1 := er_num xs _ _ x.f1 hx.n1 d0
 have d1 := drop_next d0
 have r2 := er_num xs _ _ x.f2 hx.n2 d1
 have d2 := drop_next d1
 have r3 := er_num xs _ _ x.f3 hx.n3 d2
 have d3 := drop_next d2
 have r4 := er_num xs _ _ x.f4 hx.n4 d3
 have d4 := drop_next d3
 have r5 := er_Ops xs _ _ x.f5 ⟨by have := hx.m5; omega, hx.l5⟩ d4
 simp only [eEntry, r0, r1, r2, r3, r4, r5]
 simp only [List.length_append, Nat.add_assoc]
end Go.Proofs.YtmneemhplffemaaGreatDoorRR.Law
namespace Go.Proofs.YtmneemhplffemaaGreatDoorRR.Law
open Go.RowKit Go.Proofs.YtmneemhplffemaaGreatDoorRR.Ord Go.Proofs.YtmneemhplffemaaGreatDoorRR.Name Go.Proofs.YtmneemhplffemaaGreatDoorRR.Ext Go.Proofs.YtmneemhplffemaaGreatDoorRR.Wire Go.Proofs.YtmneemhplffemaaGreatDoorRR.Mem Go.Proofs.YtmneemhplffemaaGreatDoorRR.Put Go.Proofs.YtmneemhplffemaaGreatDoorRR.Get Go.Proofs.YtmneemhplffemaaGreatDoorRR.Ki Go.Proofs.YtmneemhplffemaaGreatDoorRR.Chk Go.Proofs.YtmneemhplffemaaGreatDoorRR.May Go.Proofs.YtmneemhplffemaaGreatDoorRRW.PrintWords

def Fine (xs : List Int) (n : Nat) : Prop := xs.length ≤ n ∧ ∀ b ∈ xs, 0 ≤ b ∧ b < 256
theorem Fine.mono {xs : List Int} {n m : Nat} (h : Fine xs n) (hm : n ≤ m) : Fine xs m := ⟨Nat.le_trans h.1 hm, h.2⟩
theorem fine_app {xs ys : List Int} {n m : Nat} (h : Fine xs n) (k : Fine ys m) : Fine (xs ++ ys) (n + m) := by
 refine ⟨?_, fun b hb => ?_⟩
 · rw [List.length_append]
   exact Nat.add_le_add h.1 k.1
 · rcases List.mem_append.1 hb with hb | hb
   · exact h.2 b hb
   · exact k.2 b hb
theorem fine_flat {α : Type} {f : α → List Int} {B : Nat} : ∀ {l : List α} {n : Nat}, l.length ≤ n → (∀ y ∈ l, Fine (f y) B) → Fine (l.flatMap f) (n * B) := by
 intro l
 induction l with
 | nil => intro n _ _; exact ⟨by simp, by simp⟩
 | cons a l ih =>
   intro n hn h
   obtain ⟨m, rfl⟩ : ∃ m, n = m + 1 := ⟨n - 1, by simp at hn; omega⟩
   rw [List.flatMap_cons, Nat.succ_mul, Nat.add_comm]
   exact fine_app (h a List.mem_cons_self) (ih (by simp at hn; omega) (fun y hy => h y (List.mem_cons_of_mem _ hy)))
theorem fine_enc (f : Nat) : ∀ v : Nat, v < 128 ^ (f + 1) → ∀ b ∈ encN f v, 0 ≤ b ∧ b < 256 := by
 induction f with
 | zero =>
   intro v hv b hb
   simp only [encN, List.mem_singleton] at hb
   subst hb
   simp at hv
   omega
 | succ f ih =>
   intro v hv b hb
   unfold encN at hb
   split at hb
   · simp only [List.mem_singleton] at hb
     subst hb
     omega
   · rcases List.mem_cons.1 hb with rfl | hb
     · omega
     · refine ih (v / 128) ?_ b hb
       rw [Nat.pow_succ] at hv
       exact Nat.div_lt_of_lt_mul (by rw [Nat.mul_comm]; exact hv)
theorem fine_num {v : Int} (h : isN v) : Fine (encNum v) 5 := by
 refine ⟨(encNum_len v).2, fine_enc 4 v.toNat ?_⟩
 have h1 := h.1
 have h2 := h.2
 have : (128 : Nat) ^ (4 + 1) = 34359738368 := by decide
 rw [this]
 omega
theorem fine_txt {s : ByteArray} {n : Nat} (h : s.size ≤ n) (hn : n ≤ 2147483647) : Fine (encTxt s) (5 + n) := by
 refine fine_app (fine_num ⟨by omega, by omega⟩) ⟨by rw [bytesOf_length]; exact h, fun b hb => ?_⟩
 simp only [bytesOf, List.mem_map] at hb
 obtain ⟨c, _, rfl⟩ := hb
 have := c.toNat_lt
 omega
theorem fine_list {α : Type} {f : α → List Int} {B n : Nat} {l : List α} (hn : l.length ≤ n) (hm : n ≤ 2147483647) (h : ∀ y ∈ l, Fine (f y) B) : Fine (encList f l) (5 + n * B) :=
 fine_app (fine_num ⟨by omega, by omega⟩) (fine_flat hn h)
theorem fine_op {x : S78} (h : OpOk x) : Fine (encOp x) 542 := by
 obtain ⟨n0, t1, t2, n3, n4⟩ := h
 refine (fine_app (fine_app (fine_app (fine_app (fine_num n0) (fine_txt t1 (by decide))) (fine_txt t2 (by decide))) (m := 10) ?_) (fine_num n4)).mono (by decide)
 split
 · exact (fine_num ⟨by decide, by decide⟩).mono (by decide)
 · rename_i hn
   exact fine_app (fine_num ⟨by decide, by decide⟩) (fine_num (n3.resolve_left hn))
theorem fine_entry {x : S55} (h : EntryOk x) : Fine (encEntry x) 2198 := by
 obtain ⟨n0, n1, n2, n3, n4, m5, l5⟩ := h
 refine (fine_app (fine_flat (n := 5) (B := 5) (Nat.le_refl _) (fun y hy => ?_)) (fine_list m5 (by decide) (fun y hy => fine_op (l5 y hy)))).mono (by decide)
 simp only [List.mem_cons, List.not_mem_nil, or_false] at hy
 rcases hy with rfl | rfl | rfl | rfl | rfl <;> exact fine_num (by assumption)
end Go.Proofs.YtmneemhplffemaaGreatDoorRR.Law
namespace Go.Proofs.YtmneemhplffemaaGreatDoorRR.Law
open Go.RowKit Go.Proofs.YtmneemhplffemaaGreatDoorRR.Ext Go.Proofs.YtmneemhplffemaaGreatDoorRR.Wire Go.Proofs.YtmneemhplffemaaGreatDoorRR.Mem Go.Proofs.YtmneemhplffemaaGreatDoorRR.Put Go.Proofs.YtmneemhplffemaaGreatDoorRR.Get Go.Proofs.YtmneemhplffemaaGreatDoorRR.Ki Go.Proofs.YtmneemhplffemaaGreatDoorRR.Chk Go.Proofs.YtmneemhplffemaaGreatDoorRR.May Go.Proofs.YtmneemhplffemaaGreatDoorRR.Eye Go.Proofs.YtmneemhplffemaaGreatDoorRRW.PrintWords
def dEnt (xs : List Int) : Option S55 := (dEntry xs 0).bind fun r => if r.2 = xs.length then some r.1 else none
theorem dEnt_of {x : S55} (h : mEntry x = true) : dEnt (encEntry x) = some x := by
 have h1 := reads_Entry (encEntry x) [] 0 x (entry_ok h) (by simp)
 unfold dEnt
 rw [h1]
 simp
theorem dEnt_says {xs : List Int} {x : S55} (hB : Bytes xs) (h : dEnt xs = some x) : encEntry x = xs := by
 unfold dEnt at h
 obtain ⟨r, h0, h⟩ := Option.bind_eq_some_iff.1 h
 split at h
 · rename_i hl
   obtain rfl := Option.some.inj h
   obtain ⟨_, _, hc⟩ := says_Entry hB 0 r.1 r.2 (Nat.zero_le _) h0
   rw [hl, List.take_length, List.drop_zero] at hc
   exact hc.symm
 · cases h
theorem eEnt_of {x : S55} (h : mEntry x = true) : eEntry (encEntry x) (0, false) = (x, ((encEntry x).length, false)) := by
 have h1 := er_Entry (encEntry x) [] 0 x (entry_ok h) (by simp)
 simpa using h1
theorem fine_ent {x : S55} (h : mEntry x = true) : Bytes (encEntry x) ∧ (encEntry x).length ≤ 12000 := ⟨(fine_entry (entry_ok h)).2, len_Entry x (entry_ok h)⟩
end Go.Proofs.YtmneemhplffemaaGreatDoorRR.Law
namespace Go.Proofs.YtmneemhplffemaaGreatDoorRR.Ent
open Go.RowKit Go.Proofs.YtmneemhplffemaaGreatDoorRR.Ext Go.Proofs.YtmneemhplffemaaGreatDoorRR.Wire Go.Proofs.YtmneemhplffemaaGreatDoorRR.Mem Go.Proofs.YtmneemhplffemaaGreatDoorRR.Row Go.Proofs.YtmneemhplffemaaGreatDoorRR.Ki Go.Proofs.YtmneemhplffemaaGreatDoorRR.Put Go.Proofs.YtmneemhplffemaaGreatDoorRR.Get Go.Proofs.YtmneemhplffemaaGreatDoorRR.Law Go.Proofs.YtmneemhplffemaaGreatDoorRR.Chk Go.Proofs.YtmneemhplffemaaGreatDoorRR.May Go.Proofs.YtmneemhplffemaaGreatDoorRR.Tab Go.Proofs.YtmneemhplffemaaGreatDoorRR.Eye Go.Proofs.YtmneemhplffemaaGreatDoorRR.Cop Go.Proofs.YtmneemhplffemaaGreatDoorRRW.PrintWords


def zeroE : List Value := [.int .i64 0, .int .i64 0, .int .i64 0, .int .i64 0, .int .i64 0, .slice none 0 0]
theorem es_size {w : World} {x : S55} {cs : List Value} (hk : k55.K w x cs) : (Tryz.prog.info? 55).map (·.size) = some cs.toArray.size := by
 rw [size_of infoEntry, List.size_toArray, k55.K_len hk]
 rfl
theorem es_len {w : World} {x : S55} {cs : List Value} (hk : k55.K w x cs) : (6 : Nat) = cs.toArray.size := by
 rw [List.size_toArray, k55.K_len hk]
 rfl
theorem es_one {w : World} {x : S55} {cs : List Value} (hk : k55.K w x cs) : ∀ u ∈ cs.toArray.toList, u.oneCell' = true := fun u hu => k55.K_one hk u hu
theorem ez_size : (Tryz.prog.info? 55).map (·.size) = some zeroE.toArray.size := size_of infoEntry
theorem ez_one : ∀ u ∈ zeroE.toArray.toList, u.oneCell' = true := by decide
theorem dEnt_none {xs : List Int} (h : dEntry xs 0 = none) : dEnt xs = none := by unfold dEnt; rw [h]; rfl
theorem dEnt_some {xs : List Int} {y : S55} {a : Nat} (h : dEntry xs 0 = some (y, a)) : dEnt xs = if a = xs.length then some y else none := by unfold dEnt; rw [h]; rfl
set_option maxRecDepth 100000 in
set_option maxHeartbeats 4000000 in
theorem c_workE (w0 W : World) (gd g : Nat) (A : Option Addr) (c : Nat) (xs : List Int) (hD : Get.Data w0 A c xs) (hb : Below w0.heap.size w0 W) (hcd : W.cell? ⟨gd, 0, none⟩ = some (.slice A xs.length c)) (hbx : W.heap[g]? = some (.cells zeroE.toArray 55 (0, 0))) (hg0 : w0.heap.size ≤ g) :
   Calls Tryz.prog 78 #[.pointer (some ⟨gd, 0, none⟩), .pointer (some ⟨g, 0, none⟩)] W fun e W' => Moved W W' (fun k => k = g) ∧ (dEnt xs = none → e = .panicked flaw) ∧ ∀ y, dEnt xs = some y → e = .returned (.tuple #[]) ∧ ∃ cs' : List Value, k55.M W' W.heap.size (fun _ => True) y cs' ∧ W'.heap[g]? = some (.cells cs'.toArray 55 (0, 0)) := by
 have HD := Aside0.mk hD
 have HB := Aside0.mk hb
 have hbA := below_alloc (Below.refl W.heap.size W) (Obj.cells #[.slice A xs.length c, .int .i64 ((0 : Nat) : Int)] 136 (0, 0))
 have HX := Aside0.mk (blk_below hbA hbx)
 have hEye : Eye (W.alloc (Obj.cells #[.slice A xs.length c, .int .i64 ((0 : Nat) : Int)] 136 (0, 0))) W.heap.size A xs.length c 0 := blk_alloc _
 have HEY := Aside0.mk hEye
 have HBA := Aside0.mk hbA
 have HGR := Aside0.mk (hb.size)
 have hgl := blk_lt hbx
 have hne : g ≠ W.heap.size := by omega
 clear hD hb hbA hbx hEye
 go_enter Tryz.func78, Tryz.ntmps78
 go_wp2_with fail
 refine (get_Entry w0 A c xs HD.out _ W.heap.size 0 (Nat.zero_le _) (below_step HB.out HBA.out) HGR.out HEY.out).mono ?_
 rintro e w1 ⟨hm1, hn, hs⟩
 cases hr : dEntry xs 0 with
 | none =>
   obtain rfl := hn hr
   have HR := Aside0.mk (dEnt_none hr)
   exact ⟨rfl, ((Moved.of_below HBA.out (fun k => k = W.heap.size ∨ k = g)).trans hm1 (fun _ _ h => .inl h)).mono (fun k hk hs => hs.elim (fun h => by omega) (fun h => h)), (fun _ => rfl), fun y h => by rw [HR.out] at h; cases h⟩
 | some p =>
   obtain ⟨y, a1⟩ := p
   obtain ⟨v1, rfl, ⟨cs1, rfl, hM1⟩, he⟩ := hs _ _ hr
   have HX1 := Aside0.mk (hm1.blk HX.out hne)
   have HE1 := Aside0.mk he
   have HM1 := Aside0.mk (k55.M_lower HBA.out.size hM1)
   have HK1 := Aside0.mk (k55.K_of_M hM1)
   have HV1 := Aside0.mk ((Moved.of_below HBA.out (fun k => k = W.heap.size ∨ k = g)).trans hm1 (fun _ _ h => .inl h))
   have HR := Aside0.mk (dEnt_some hr)
   clear hm1 hn hs hr hM1 he HX HEY
   go_wp2_with ((with_reducible refine gate_store2 (t := 55) rfl ?_); refine store_row (old := zeroE.toArray) (cs := cs1.toArray) rfl rfl rfl HX1.out rfl rfl (es_size HK1.out) (es_len HK1.out) (es_one HK1.out) ?_; intro w2 hm2 hx2; have HX2 := Aside0.mk hx2; have HM2 := Aside0.mk (Get.M_moved HM1.out HX1.out (by decide) hm2); have HE2 : Aside0 (Eye w2 W.heap.size A xs.length c a1) := ⟨hm2.blk HE1.out (fun h => hne h.symm)⟩; have HV2 := Aside0.mk (HV1.out.trans hm2 (fun _ _ h => .inr h)); clear hm2 hx2)
   refine (rend _ W.heap.size A xs.length c a1 HE2.out).mono ?_
   rintro e w9 ⟨hm9, he9⟩
   have HV9 := Aside0.mk (HV2.out.trans hm9 (fun _ _ h => .inl h))
   by_cases hae : a1 = xs.length
   · rw [if_pos hae] at he9 HR
     subst he9
     have HM9 := Aside0.mk (Get.M_moved HM2.out HE2.out (by decide) hm9)
     have HX9 := Aside0.mk (hm9.blk HX2.out hne)
     clear hm9
     go_wp2_with fail
     first | go_end0 | refine bodyPost_ret (results_none rfl _ _ _) rfl ?_
     refine ⟨HV9.out.mono (fun k hk hs => hs.elim (fun h => by omega) (fun h => h)), (fun h => by rw [HR.out] at h; cases h), fun y' h => ?_⟩
     rw [HR.out] at h
     obtain rfl := Option.some.inj h
     exact ⟨rfl, cs1, HM9.out, HX9.out⟩
   · rw [if_neg hae] at he9 HR
     subst he9
     exact ⟨rfl, HV9.out.mono (fun k hk hs => hs.elim (fun h => by omega) (fun h => h)), (fun _ => rfl), fun y h => by rw [HR.out] at h; cases h⟩
def EntOk (W W' : World) (xs : List Int) (e : Ending) : Prop :=
 (262144 < xs.length → e = .returned (.tuple #[.agg zeroE.toArray, .int .i64 2])) ∧
 (xs.length ≤ 262144 → ∀ y, dEnt xs = some y → mEntry y = true → ∃ cs : List Value, k55.M W' W.heap.size (fun _ => True) y cs ∧ e = .returned (.tuple #[.agg cs.toArray, .int .i64 0])) ∧
 (xs.length ≤ 262144 → (∀ y, dEnt xs = some y → mEntry y = false) → e = .returned (.tuple #[.agg zeroE.toArray, .int .i64 30]))
set_option maxRecDepth 100000 in
set_option maxHeartbeats 8000000 in
theorem c_decEntry (w0 W : World) (A : Option Addr) (c : Nat) (xs : List Int) (hD : Get.Data w0 A c xs) (hb : Below w0.heap.size w0 W) :
   Calls Tryz.prog 32 #[.slice A xs.length c] W fun e W' => Below W.heap.size W W' ∧ EntOk W W' xs e := by
 have HD := Aside0.mk hD
 have HB := Aside0.mk hb
 have HGE := Aside0.mk hb.size
 have hlen := hD.len
 have hb1 := below_alloc (Below.refl W.heap.size W) (Obj.cells #[.slice A xs.length c] 41 (0, 0))
 have hx1 : (W.alloc (Obj.cells #[.slice A xs.length c] 41 (0, 0))).heap[W.heap.size]? = _ := blk_alloc _
 have hs1 : (W.alloc (Obj.cells #[.slice A xs.length c] 41 (0, 0))).heap.size = W.heap.size + 1 := by simp
 have hb2 := below_alloc hb1 (Obj.cells zeroE.toArray 55 (0, 0))
 have hx2 : ((W.alloc (Obj.cells #[.slice A xs.length c] 41 (0, 0))).alloc (Obj.cells zeroE.toArray 55 (0, 0))).heap[(W.alloc (Obj.cells #[.slice A xs.length c] 41 (0, 0))).heap.size]? = some (.cells zeroE.toArray 55 (0, 0)) := Mem.blk_alloc _
 rw [hs1] at hx2
 have hy1 := blk_below (below_alloc (Below.refl _ _) (Obj.cells zeroE.toArray 55 (0, 0))) hx1
 obtain ⟨w1, hw1⟩ : ∃ w1, w1 = (W.alloc (Obj.cells #[.slice A xs.length c] 41 (0, 0))).alloc (Obj.cells zeroE.toArray 55 (0, 0)) := ⟨_, rfl⟩
 rw [← hw1] at hx2 hy1 hb2
 have n_0 : w1.cell? ⟨W.heap.size, 0, none⟩ = some (.slice A xs.length c) := blk_cell hy1 0
 have HX2 := Aside0.mk hx2
 have HB2 := Aside0.mk hb2
 have HW1 := Aside0.mk (show (W.alloc (Obj.cells #[.slice A xs.length c] 41 (0, 0))).alloc (Obj.cells #[.int .i64 0, .int .i64 0, .int .i64 0, .int .i64 0, .int .i64 0, .slice none 0 0] 55 (0, 0)) = w1 from hw1.symm)
 clear hD hb hb1 hx1 hs1 hb2 hx2 hy1 hw1
 go_enter Tryz.func32, Tryz.ntmps32
 go_upto_region 1 with fail
 rw [HW1.out]
 clear HW1
 cases h1 : decide ((262144 : Int) < xs.length) with
 | true =>
   have hq_ := of_decide_eq_true h1
   have HGT := Aside0.mk (show 262144 < xs.length by omega)
   go_wp2_with ((with_reducible refine gate_store2 (t := 55) rfl ?_); refine store_row (old := zeroE.toArray) (cs := zeroE.toArray) rfl rfl rfl HX2.out rfl rfl ez_size rfl ez_one ?_; intro w3 hm3 hx3; have HX3 := Aside0.mk hx3; have HB3 := Aside0.mk ((Moved.of_below HB2.out (fun k => k = W.heap.size + 1)).trans hm3 (fun _ _ h => h) |>.below (fun k hk h => by omega)); clear hm3 hx3)
   refine bodyPost_ret (results_ct rfl _ _ _ _ _ _ _ _ rfl rfl HX3.out Tryz.underlying55 rfl ez_size) rfl ?_
   exact ⟨HB3.out, fun _ => rfl, fun h => absurd HGT.out (by omega), fun h => absurd HGT.out (by omega)⟩
 | false =>
   have hq_ := of_decide_eq_false h1
   have HLE := Aside0.mk (show xs.length ≤ 262144 by omega)
   clear hq_
   go_upto_region 4 with fail
   have hbn := below_alloc (Below.refl w1.heap.size w1) (Obj.cells zeroE.toArray 55 (0, 0))
   have hgn : (w1.alloc (Obj.cells zeroE.toArray 55 (0, 0))).heap[w1.heap.size]? = some (.cells zeroE.toArray 55 (0, 0)) := Mem.blk_alloc _
   obtain ⟨w2, hw2⟩ : ∃ w2, w2 = w1.alloc (Obj.cells zeroE.toArray 55 (0, 0)) := ⟨_, rfl⟩
   have HW2 := Aside0.mk (show w1.alloc (Obj.cells #[.int .i64 0, .int .i64 0, .int .i64 0, .int .i64 0, .int .i64 0, .slice none 0 0] 55 (0, 0)) = w2 from hw2.symm)
   rw [← hw2] at hbn hgn
   have hc2 := pw_cell_below hbn n_0
   have hx2 := blk_below hbn HX2.out
   have hne : W.heap.size + 1 ≠ w1.heap.size := Nat.ne_of_lt (blk_lt HX2.out)
   have hge : W.heap.size + 2 ≤ w1.heap.size := blk_lt HX2.out
   have hbf := below_alloc (Below.refl w2.heap.size w2) (Obj.cells #[.bool false] 4 (0, 0))
   have hnf : w1.heap.size < w2.heap.size := blk_lt hgn
   obtain ⟨w3, hw3⟩ : ∃ w3, w3 = w2.alloc (Obj.cells #[.bool false] 4 (0, 0)) := ⟨_, rfl⟩
   have hxf : (w2.alloc (Obj.cells #[.bool false] 4 (0, 0))).heap[w2.heap.size]? = some (Obj.cells #[.bool false] 4 (0, 0)) := Mem.blk_alloc _
   rw [← hw3] at hbf hxf
   have hwk := c_workE w0 w3 W.heap.size w1.heap.size A c xs HD.out (below_step (below_step (below_step HB.out HB2.out) hbn) hbf) (pw_cell_below hbf hc2) (blk_below hbf hgn) (by have := HGE.out; omega)
   have HWORK : Aside0 (Calls Tryz.prog 78 #[.pointer (some ⟨W.heap.size, 0, none⟩), .pointer (some ⟨w1.heap.size, 0, none⟩)] (w2.alloc (Obj.cells #[.bool false] 4 (0, 0))) fun e W' => e = (if (dEnt xs).isSome = true then .returned (.tuple #[]) else .panicked flaw) ∧ W'.heap[w2.heap.size]? = some (Obj.cells #[.bool false] 4 (0, 0)) ∧ (Moved w2 W' (fun k => k = w1.heap.size) ∧ W'.heap[w2.heap.size]? = some (Obj.cells #[.bool false] 4 (0, 0)) ∧ ∀ y, dEnt xs = some y → ∃ cs', k55.M W' w2.heap.size (fun _ => True) y cs' ∧ W'.heap[w1.heap.size]? = some (.cells cs'.toArray 55 (0, 0)))) := ⟨by
     rw [← hw3]
     refine hwk.mono ?_
     rintro e w' ⟨hm, hn, hs⟩
     have hf := hm.blk hxf (Nat.ne_of_gt hnf)
     refine ⟨?_, hf, ((Moved.of_below hbf (fun k => k = w1.heap.size)).trans hm (fun _ _ h => h)), hf, fun y hy => ?_⟩
     · cases hd : dEnt xs with
       | none => exact hn hd
       | some y => exact (hs y hd).1
     · obtain ⟨_, cs', hM, hX⟩ := hs y hy
       exact ⟨cs', k55.M_lower hbf.size hM, hX⟩⟩
   have HB3 := Aside0.mk (below_step HB2.out hbn)
   have HX3 := Aside0.mk hx2
   have HNE := Aside0.mk hne
   have HGT := Aside0.mk hge
   have HNF := Aside0.mk hnf
   clear hbn hgn hw2 hc2 hx2 hne hge hbf hnf hw3 hxf hwk n_0
   rw [HW2.out]
   clear HW2
   have hmf : ∀ (fn : Fn) (first cap : Array Value) (w : World), (Instr.makeFunc fn first cap).run Tryz.prog w = .ok (.func fn first cap) w := fun _ _ _ _ => rfl
   go_upto_region 5 with (go_at_call 65; (with_reducible refine (guarded_any 78 #[.pointer (some ⟨W.heap.size, 0, none⟩), .pointer (some ⟨w1.heap.size, 0, none⟩)] (fun _ _ => rfl) w2 (dEnt xs).isSome _ HWORK.out).mono ?_); rintro e w5 ⟨rfl, w4, ⟨hm4, hf4, hs4⟩, hm5⟩)
   have HX5 := Aside0.mk (hm5.blk (hm4.blk HX3.out HNE.out) (by have := HNE.out; have := HGT.out; have := HNF.out; omega))
   have HB5 := Aside0.mk (((Moved.of_below HB3.out (fun k => k = w1.heap.size ∨ k = w2.heap.size)).trans (hm4.trans hm5 (fun k hk h => absurd hk (by omega))) (fun _ _ h => .inl h)).below (fun k hk h => by have := HGT.out; have := HNF.out; omega))
   cases hd : dEnt xs with
   | none =>
     have HDN := Aside0.mk hd
     clear hm4 hm5 hf4 hs4 HWORK hd
     rw [show (none : Option S55).isSome = false from rfl]
     have hno : ∀ (x : Bool) (w : World), (Op.unary .not (.bool x)).run Tryz.prog w = .ok (.bool (!x)) w := fun _ _ => rfl
     go_wp2_with ((with_reducible refine gate_store2 (t := 55) rfl ?_); refine store_row (old := zeroE.toArray) (cs := zeroE.toArray) rfl rfl rfl HX5.out rfl rfl ez_size rfl ez_one ?_; intro w9 hm9 hx9; have HX9 := Aside0.mk hx9; have HB9 := Aside0.mk ((Moved.of_below HB5.out (fun k => k = W.heap.size + 1)).trans hm9 (fun _ _ h => h) |>.below (fun k hk h => by omega)); clear hm9 hx9)
     refine bodyPost_ret (results_ct rfl _ _ _ _ _ _ _ _ rfl rfl HX9.out Tryz.underlying55 rfl ez_size) rfl ?_
     exact ⟨HB9.out, fun h => absurd HLE.out (by omega), (fun _ y h => by rw [HDN.out] at h; cases h), fun _ _ => rfl⟩
   | some y =>
     obtain ⟨cs, hM, hX⟩ := hs4 y hd
     have HDN := Aside0.mk hd
     have HM5 := Aside0.mk (Get.M_moved hM hf4 (by decide) hm5)
     have HG5 := Aside0.mk (hm5.blk hX (by have := HNF.out; omega))
     have HK5 := Aside0.mk (k55.K_of_M HM5.out)
     have HSZ := Aside0.mk (es_size HK5.out)
     clear hm4 hm5 hf4 hs4 HWORK hd hM hX
     rw [show (some y : Option S55).isSome = true from rfl]
     have hno : ∀ (x : Bool) (w : World), (Op.unary .not (.bool x)).run Tryz.prog w = .ok (.bool (!x)) w := fun _ _ => rfl
     have HN5 := Aside0.mk (show w1.heap.size < w2.heap.size from HNF.out)
     cases hmc : mEntry y with
     | true =>
       go_wp2_with (first | (first | ((with_reducible refine gate_load (t := 55) rfl ?_); refine gate_guard (by rfl) ?_; refine load_row rfl rfl Tryz.underlying55 rfl HG5.out rfl HSZ.out ?_) | ((with_reducible refine gate_load (t := 55) rfl ?_); refine load_row rfl rfl Tryz.underlying55 rfl HG6.out rfl HSZ.out ?_) | ((with_reducible refine gate_store2 (t := 55) rfl ?_); refine store_row (old := zeroE.toArray) (cs := cs.toArray) rfl rfl rfl HX6.out rfl rfl HSZ.out (es_len HK5.out) (es_one HK5.out) ?_; intro w9 hm9 hx9; have HX9 := Aside0.mk hx9; have HM9 := Aside0.mk (k55.M_lower (Nat.le_trans HB3.out.size (Nat.le_refl _)) (Get.M_moved HM6.out HX6.out (by decide) hm9)); have HB9 := Aside0.mk ((Moved.of_below HB6.out (fun k => k = W.heap.size + 1)).trans hm9 (fun _ _ h => h) |>.below (fun k hk h => by omega)); clear hm9 hx9)) | (go_at_call 74; have HMC := Aside0.mk hmc; have hch := m_entry w5 w5 y cs _ hmc HK5.out (Below.refl _ _); (with_reducible refine hch.mono ?_); clear hch; rintro e w6 ⟨rfl, hb6⟩; have HX6 := Aside0.mk (blk_below hb6 HX5.out); have HG6 := Aside0.mk (blk_below hb6 HG5.out); have HM6 := Aside0.mk (Kd.M_below HM5.out hb6); have HB6 := Aside0.mk (below_step HB5.out hb6); clear hb6))
       refine bodyPost_ret (results_ct rfl _ _ _ _ _ _ _ _ rfl rfl HX9.out Tryz.underlying55 rfl HSZ.out) rfl ?_
       exact ⟨HB9.out, fun h => absurd HLE.out (by omega), (fun _ y' h _ => by rw [HDN.out] at h; obtain rfl := Option.some.inj h; exact ⟨cs, HM9.out, rfl⟩), fun _ h => absurd (h y HDN.out) (by rw [HMC.out]; simp)⟩
     | false =>
       go_wp2_with (first | (first | ((with_reducible refine gate_load (t := 55) rfl ?_); refine gate_guard (by rfl) ?_; refine load_row rfl rfl Tryz.underlying55 rfl HG5.out rfl HSZ.out ?_) | ((with_reducible refine gate_load (t := 55) rfl ?_); refine load_row rfl rfl Tryz.underlying55 rfl HG6.out rfl HSZ.out ?_) | ((with_reducible refine gate_store2 (t := 55) rfl ?_); refine store_row (old := zeroE.toArray) (cs := cs.toArray) rfl rfl rfl HX6.out rfl rfl HSZ.out (es_len HK5.out) (es_one HK5.out) ?_; intro w9 hm9 hx9; have HX9 := Aside0.mk hx9; have HM9 := Aside0.mk (k55.M_lower (Nat.le_trans HB3.out.size (Nat.le_refl _)) (Get.M_moved HM6.out HX6.out (by decide) hm9)); have HB9 := Aside0.mk ((Moved.of_below HB6.out (fun k => k = W.heap.size + 1)).trans hm9 (fun _ _ h => h) |>.below (fun k hk h => by omega)); clear hm9 hx9)) | (go_at_call 74; have HMC := Aside0.mk hmc; have hch := m_entry w5 w5 y cs _ hmc HK5.out (Below.refl _ _); (with_reducible refine hch.mono ?_); clear hch; rintro e w6 ⟨rfl, hb6⟩; have HX6 := Aside0.mk (blk_below hb6 HX5.out); have HG6 := Aside0.mk (blk_below hb6 HG5.out); have HM6 := Aside0.mk (Kd.M_below HM5.out hb6); have HB6 := Aside0.mk (below_step HB5.out hb6); clear hb6) | ((with_reducible refine gate_store2 (t := 55) rfl ?_); refine store_row (old := zeroE.toArray) (cs := zeroE.toArray) rfl rfl rfl HX6.out rfl rfl ez_size rfl ez_one ?_; intro w9 hm9 hx9; have HX9 := Aside0.mk hx9; have HB9 := Aside0.mk ((Moved.of_below HB6.out (fun k => k = W.heap.size + 1)).trans hm9 (fun _ _ h => h) |>.below (fun k hk h => by omega)); clear hm9 hx9))
       refine bodyPost_ret (results_ct rfl _ _ _ _ _ _ _ _ rfl rfl HX9.out Tryz.underlying55 rfl ez_size) rfl ?_
       exact ⟨HB9.out, fun h => absurd HLE.out (by omega), (fun _ y' h hm => by rw [HDN.out] at h; obtain rfl := Option.some.inj h; rw [HMC.out] at hm; cases hm), fun _ _ => rfl⟩
end Go.Proofs.YtmneemhplffemaaGreatDoorRR.Ent
namespace Go.Proofs.YtmneemhplffemaaGreatDoorRR.Same
open Go.RowKit Go.Proofs.YtmneemhplffemaaGreatDoorRR.Ext Go.Proofs.YtmneemhplffemaaGreatDoorRR.Wire Go.Proofs.YtmneemhplffemaaGreatDoorRR.Mem Go.Proofs.YtmneemhplffemaaGreatDoorRR.Put Go.Proofs.YtmneemhplffemaaGreatDoorRR.Get Go.Proofs.YtmneemhplffemaaGreatDoorRR.Law Go.Proofs.YtmneemhplffemaaGreatDoorRR.Ki Go.Proofs.YtmneemhplffemaaGreatDoorRRW.PrintWords

theorem drewn {B : Nat} {a w : World} (h : Below B a w) (q : Nat) : Below B a (w.drewN q) := ⟨h.os, h.tape, h.output, h.size, h.block⟩
theorem same_upto {xs ys : List Int} {k : Nat} (h : ∀ j, j < k → xs[j]? = ys[j]?) {x y : Int} (hx : xs[k]? = some x) (hy : ys[k]? = some y) (he : x = y) : ∀ j, j < k + 1 → xs[j]? = ys[j]? := by
 intro j hj
 rcases Nat.lt_or_ge j k with h1 | h1
 · exact h j h1
 · obtain rfl : j = k := by omega
   rw [hx, hy, he]
theorem same_all {xs ys : List Int} {k : Nat} (h : ∀ j, j < k → xs[j]? = ys[j]?) (hl : xs.length = ys.length) (hk : xs.length ≤ k) : xs = ys := by
 refine List.ext_getElem? (fun j => ?_)
 rcases Nat.lt_or_ge j k with h1 | h1
 · exact h j h1
 · rw [List.getElem?_eq_none (by omega), List.getElem?_eq_none (by omega)]
set_option maxRecDepth 100000 in
set_option maxHeartbeats 1000000 in
theorem c_bytes (W : World) (A B : Option Addr) (c d : Nat) (xs ys : List Int) (hA : (Kd.int .u8).C W A xs.length xs) (hB : (Kd.int .u8).C W B ys.length ys) :
   Calls Tryz.prog 23 #[.slice A xs.length c, .slice B ys.length d] W fun e W' => e = .returned (.bool (decide (xs = ys))) ∧ Below W.heap.size W W' := by
 have HA := Aside0.mk hA
 have HB := Aside0.mk hB
 have hm : xs.length ≤ 9223372036854775807 := hA.2.1
 have hm2 : ys.length ≤ 9223372036854775807 := hB.2.1
 clear hA hB
 go_enter Tryz.func23, Tryz.ntmps23
 by_cases hl : xs.length = ys.length
 · have HL := Aside0.mk hl
   have h0 : ((xs.length : Int) != (ys.length : Int)) = false := by simp [hl]
   have h0' : ((xs.length : Int) == (ys.length : Int)) = true := by simp [hl]
   clear hl
   go_wp2_with fail
   go_loopw [5] (fun v W1 => ∃ k : Nat, v = .int .i64 k ∧ k ≤ xs.length ∧ Aside0 (∀ j, j < k → xs[j]? = ys[j]?) ∧ Aside0 (Below W.heap.size W W1)) (fun v _ => xs.length - (intOf v).toNat)
   case atStart => exact ⟨0, rfl, Nat.zero_le _, ⟨fun j hj => by omega⟩, ⟨Below.refl _ _⟩⟩
   case round =>
    obtain ⟨k, rfl, hk, HS, HBW⟩ := hrel
    by_cases hlt : k < xs.length
    · have hl2 := HL.out
      obtain ⟨x, hx⟩ : ∃ x, xs[k]? = some x := ⟨_, List.getElem?_eq_getElem hlt⟩
      obtain ⟨y, hy⟩ : ∃ y, ys[k]? = some y := ⟨_, List.getElem?_eq_getElem (by omega)⟩
      obtain ⟨ad, rfl, a0⟩ := Kd.at_int (Kd.C_below HA.out HBW.out) (k : Int) (by omega) (by omega)
      obtain ⟨bd, rfl, b0⟩ := Kd.at_int (Kd.C_below HB.out HBW.out) (k : Int) (by omega) (by omega)
      rw [show rd xs (k : Int) = x by unfold rd; rw [Int.toNat_natCast, List.getD_eq_getElem?_getD, hx]; rfl, Int.toNat_natCast] at a0
      rw [show rd ys (k : Int) = y by unfold rd; rw [Int.toNat_natCast, List.getD_eq_getElem?_getD, hy]; rfl, Int.toNat_natCast] at b0
      have HX := Aside0.mk hx
      have HY := Aside0.mk hy
      have hky : k < ys.length := by omega
      clear hx hy hl2
      cases h1 : (x == y) with
      | true =>
        have h2 : (x != y) = false := by simp [bne, h1]
        have HE := Aside0.mk (eq_of_beq h1)
        go_wp2_with (go_quiet (fail))
        go_roundw
        case rel => exact ⟨k + 1, by go_num, by omega, ⟨same_upto HS.out HX.out HY.out HE.out⟩, ⟨drewn HBW.out nq⟩⟩
        case measure => simp [intOf]; omega
      | false =>
        have h2 : (x != y) = true := by simp [bne, h1]
        have HE := Aside0.mk (show xs ≠ ys from fun he => by have h3 := HX.out; rw [he, HY.out] at h3; have h4 := Option.some.inj h3; rw [h4] at h1; simp at h1)
        go_wp2_with (go_quiet (fail))
        go_ret
        exact ⟨by rw [decide_eq_false HE.out]; rfl, drewn HBW.out nq⟩
    · go_wp2_with fail
      go_ret
      exact ⟨by rw [decide_eq_true (same_all HS.out HL.out (by omega))]; rfl, HBW.out⟩
 · have HE := Aside0.mk (show xs ≠ ys from fun he => hl (by rw [he]))
   have h0 : ((xs.length : Int) != (ys.length : Int)) = true := by simp; omega
   have h0' : ((xs.length : Int) == (ys.length : Int)) = false := by simp; omega
   go_wp2_with fail
   go_ret
   exact ⟨by rw [decide_eq_false HE.out]; rfl, Below.refl _ _⟩
end Go.Proofs.YtmneemhplffemaaGreatDoorRR.Same
namespace Go.Proofs.YtmneemhplffemaaGreatDoorRR.Ent
open Go.RowKit Go.Proofs.YtmneemhplffemaaGreatDoorRR.Ext Go.Proofs.YtmneemhplffemaaGreatDoorRR.Wire Go.Proofs.YtmneemhplffemaaGreatDoorRR.Mem Go.Proofs.YtmneemhplffemaaGreatDoorRR.Row Go.Proofs.YtmneemhplffemaaGreatDoorRR.Ki Go.Proofs.YtmneemhplffemaaGreatDoorRR.Put Go.Proofs.YtmneemhplffemaaGreatDoorRR.Get Go.Proofs.YtmneemhplffemaaGreatDoorRR.Law Go.Proofs.YtmneemhplffemaaGreatDoorRR.Chk Go.Proofs.YtmneemhplffemaaGreatDoorRR.May Go.Proofs.YtmneemhplffemaaGreatDoorRR.Tab Go.Proofs.YtmneemhplffemaaGreatDoorRR.Eye Go.Proofs.YtmneemhplffemaaGreatDoorRR.Cop Go.Proofs.YtmneemhplffemaaGreatDoorRRW.PrintWords


set_option maxRecDepth 100000 in
set_option maxHeartbeats 1000000 in
theorem r_bytes (W : World) (A B : Option Addr) (c d : Nat) (xs ys : List Int) (hA : (Kd.int .u8).C W A xs.length xs) (hB : (Kd.int .u8).C W B ys.length ys) :
   Calls Tryz.prog 72 #[.slice A xs.length c, .slice B ys.length d] W fun e W' => e = .returned (.bool (decide (xs = ys))) ∧ Below W.heap.size W W' := by
 have HA := Aside0.mk hA
 have HB := Aside0.mk hB
 have hm : xs.length ≤ 9223372036854775807 := hA.2.1
 have hm2 : ys.length ≤ 9223372036854775807 := hB.2.1
 clear hA hB
 go_enter Tryz.func72, Tryz.ntmps72
 by_cases hl : xs.length = ys.length
 · have HL := Aside0.mk hl
   have h0 : ((xs.length : Int) != (ys.length : Int)) = false := by simp [hl]
   have h0' : ((xs.length : Int) == (ys.length : Int)) = true := by simp [hl]
   clear hl
   go_wp2_with fail
   go_loopw [5] (fun v W1 => ∃ k : Nat, v = .int .i64 k ∧ k ≤ xs.length ∧ Aside0 (∀ j, j < k → xs[j]? = ys[j]?) ∧ Aside0 (Below W.heap.size W W1)) (fun v _ => xs.length - (intOf v).toNat)
   case atStart => exact ⟨0, rfl, Nat.zero_le _, ⟨fun j hj => by omega⟩, ⟨Below.refl _ _⟩⟩
   case round =>
    obtain ⟨k, rfl, hk, HS, HBW⟩ := hrel
    by_cases hlt : k < xs.length
    · have hl2 := HL.out
      obtain ⟨x, hx⟩ : ∃ x, xs[k]? = some x := ⟨_, List.getElem?_eq_getElem hlt⟩
      obtain ⟨y, hy⟩ : ∃ y, ys[k]? = some y := ⟨_, List.getElem?_eq_getElem (by omega)⟩
      obtain ⟨ad, rfl, a0⟩ := Kd.at_int (Kd.C_below HA.out HBW.out) (k : Int) (by omega) (by omega)
      obtain ⟨bd, rfl, b0⟩ := Kd.at_int (Kd.C_below HB.out HBW.out) (k : Int) (by omega) (by omega)
      rw [show rd xs (k : Int) = x by unfold rd; rw [Int.toNat_natCast, List.getD_eq_getElem?_getD, hx]; rfl, Int.toNat_natCast] at a0
      rw [show rd ys (k : Int) = y by unfold rd; rw [Int.toNat_natCast, List.getD_eq_getElem?_getD, hy]; rfl, Int.toNat_natCast] at b0
      have HX := Aside0.mk hx
      have HY := Aside0.mk hy
      have hky : k < ys.length := by omega
      clear hx hy hl2
      cases h1 : (x == y) with
      | true =>
        have h2 : (x != y) = false := by simp [bne, h1]
        have HE := Aside0.mk (eq_of_beq h1)
        go_wp2_with (go_quiet (fail))
        go_roundw
        case rel => exact ⟨k + 1, by go_num, by omega, ⟨Same.same_upto HS.out HX.out HY.out HE.out⟩, ⟨Same.drewn HBW.out nq⟩⟩
        case measure => simp [intOf]; omega
      | false =>
        have h2 : (x != y) = true := by simp [bne, h1]
        have HE := Aside0.mk (show xs ≠ ys from fun he => by have h3 := HX.out; rw [he, HY.out] at h3; have h4 := Option.some.inj h3; rw [h4] at h1; simp at h1)
        go_wp2_with (go_quiet (fail))
        go_ret
        exact ⟨by rw [decide_eq_false HE.out]; rfl, Same.drewn HBW.out nq⟩
    · go_wp2_with fail
      go_ret
      exact ⟨by rw [decide_eq_true (Same.same_all HS.out HL.out (by omega))]; rfl, HBW.out⟩
 · have HE := Aside0.mk (show xs ≠ ys from fun he => hl (by rw [he]))
   have h0 : ((xs.length : Int) != (ys.length : Int)) = true := by simp; omega
   have h0' : ((xs.length : Int) == (ys.length : Int)) = false := by simp; omega
   go_wp2_with fail
   go_ret
   exact ⟨by rw [decide_eq_false HE.out]; rfl, Below.refl _ _⟩
def EntR (W' : World) (xs : List Int) (e : Ending) : Prop :=
 (262144 < xs.length → e = .returned (.tuple #[.agg zeroE.toArray, .int .i64 2])) ∧
 (xs.length ≤ 262144 → ∀ y, mEntry y = true → encEntry y = xs → ∃ cs : List Value, k55.K W' y cs ∧ e = .returned (.tuple #[.agg cs.toArray, .int .i64 0])) ∧
 (xs.length ≤ 262144 → (∀ y, mEntry y = true → encEntry y ≠ xs) → e = .returned (.tuple #[.agg zeroE.toArray, .int .i64 30]))
theorem bad_none {xs : List Int} {y : S55} {a : Nat} (h : eEntry xs (0, false) = (y, (a, true))) : ∀ y', mEntry y' = true → encEntry y' ≠ xs := by
 rintro y' hm rfl
 rw [eEnt_of hm] at h
 cases h
theorem other_none {xs : List Int} {y : S55} {s : ES} (h : eEntry xs (0, false) = (y, s)) (hy : mEntry y = true → encEntry y ≠ xs) : ∀ y', mEntry y' = true → encEntry y' ≠ xs := by
 rintro y' hm rfl
 rw [eEnt_of hm] at h
 obtain ⟨rfl, _⟩ := Prod.mk.inj h
 exact hy hm rfl
set_option maxRecDepth 100000 in
set_option maxHeartbeats 4000000 in
theorem r_decEntry (w0 W : World) (A : Option Addr) (c : Nat) (xs : List Int) (hD : Get.Data w0 A c xs) (hb : Below w0.heap.size w0 W) :
   Calls Tryz.prog 33 #[.slice A xs.length c] W fun e W' => Below W.heap.size W W' ∧ EntR W' xs e := by
 have HD := Aside0.mk hD
 have HB := Aside0.mk hb
 have HGE := Aside0.mk hb.size
 have hlen := hD.len
 have hb1 := below_alloc (Below.refl W.heap.size W) (Obj.cells #[.int .i64 0, .int .i64 0, .int .i64 0, .int .i64 0, .int .i64 0, .slice none 0 0] 55 (0, 0))
 have hx1 : (W.alloc (Obj.cells #[.int .i64 0, .int .i64 0, .int .i64 0, .int .i64 0, .int .i64 0, .slice none 0 0] 55 (0, 0))).heap[W.heap.size]? = _ := blk_alloc _
 obtain ⟨w1, hw1⟩ : ∃ w1, w1 = W.alloc (Obj.cells #[.int .i64 0, .int .i64 0, .int .i64 0, .int .i64 0, .int .i64 0, .slice none 0 0] 55 (0, 0)) := ⟨_, rfl⟩
 rw [← hw1] at hb1 hx1
 have HW1 := Aside0.mk hw1.symm
 have HX1 := Aside0.mk hx1
 have HB1 := Aside0.mk hb1
 clear hD hb hb1 hx1 hw1
 go_enter Tryz.func33, Tryz.ntmps33
 go_upto_region 1 with fail
 rw [HW1.out]
 clear HW1
 cases h1 : decide ((262144 : Int) < xs.length) with
 | true =>
   have h1_0 : decide ((xs.length : Int) > 262144) = true := h1
   have hq_ := of_decide_eq_true h1
   have HGT := Aside0.mk (show 262144 < xs.length by omega)
   go_wp2_with ((with_reducible refine gate_store2 (t := 55) rfl ?_); refine store_row (old := zeroE.toArray) (cs := zeroE.toArray) rfl rfl rfl HX1.out rfl rfl ez_size rfl ez_one ?_; intro wz hmz hxz; have HX3 := Aside0.mk hxz; have HB3 := Aside0.mk (hmz.above HB1.out (fun k hk => by omega)); clear hmz hxz)
   refine bodyPost_ret (results_ct rfl _ _ _ _ _ _ _ _ rfl rfl HX3.out Tryz.underlying55 rfl ez_size) rfl ?_
   exact ⟨HB3.out, fun _ => rfl, fun h => absurd HGT.out (by omega), fun h => absurd HGT.out (by omega)⟩
 | false =>
   have h1_0 : decide ((xs.length : Int) > 262144) = false := h1
   have hq_ := of_decide_eq_false h1
   have HLE := Aside0.mk (show xs.length ≤ 262144 by omega)
   clear hq_
   go_upto_region 4 with fail
   have hb2 := below_alloc (Below.refl w1.heap.size w1) (Obj.cells #[.slice A xs.length c, .int .i64 0, .bool false] 142 (0, 0))
   have hE2 : EyeR (w1.alloc (Obj.cells #[.slice A xs.length c, .int .i64 0, .bool false] 142 (0, 0))) w1.heap.size A xs.length c (0, false) := blk_alloc _
   have hc2 : (w1.alloc (Obj.cells #[.slice A xs.length c, .int .i64 0, .bool false] 142 (0, 0))).heap.size = w1.heap.size + 1 := by simp
   generalize w1.alloc (Obj.cells #[.slice A xs.length c, .int .i64 0, .bool false] 142 (0, 0)) = w2 at hb2 hE2 hc2 ⊢
   have HX2 := Aside0.mk (blk_below hb2 HX1.out)
   have HB2 := Aside0.mk (below_step HB1.out hb2)
   have HE2 := Aside0.mk hE2
   have hg1 : w0.heap.size ≤ w1.heap.size := by have := HGE.out; have := blk_lt HX1.out; omega
   have hne1 : W.heap.size ≠ w1.heap.size := Nat.ne_of_lt (blk_lt HX1.out)
   have hlt1 : W.heap.size ≤ w1.heap.size := Nat.le_of_lt (blk_lt HX1.out)
   clear hb2 hE2 hc2
   obtain ⟨⟨y, a, bad⟩, hr⟩ : ∃ r, eEntry xs (0, false) = r := ⟨_, rfl⟩
   have HR := Aside0.mk hr
   have HEE := Aside0.mk (e_entry w0 w2 w1.heap.size A c xs (0, false) (a, bad) y hr HD.out (Nat.zero_le _) (below_step HB.out HB2.out) hg1 HE2.out)
   clear hr
   go_upto_region 5 with (first | ((with_reducible refine HEE.out.mono ?_); rintro e w3 ⟨cs, rfl, hM3, hm3, hE3⟩; have HM3 := Aside0.mk hM3; have HK3 := Aside0.mk (k55.K_of_M hM3); have HX3 := Aside0.mk (hm3.blk HX2.out hne1); have HE3 := Aside0.mk hE3; have HB3 := Aside0.mk (hm3.above HB2.out (fun k hk => by omega)); clear hM3 hm3 hE3) | ((with_reducible refine gate_store2 (t := 55) rfl ?_); refine store_row (old := zeroE.toArray) (cs := cs.toArray) rfl rfl rfl (Mem.blk_alloc _) rfl rfl (es_size HK3.out) (es_len HK3.out) (es_one HK3.out) ?_; intro w4 hm4 hx4; have hb4 := Moved.above_ hm4 (Nat.le_refl _); have HY4 := Aside0.mk hx4; have HX4 := Aside0.mk (blk_below hb4 HX3.out); have HE4 : Aside0 (EyeR w4 w1.heap.size A xs.length c (a, bad)) := ⟨blk_below hb4 HE3.out⟩; have HK4 := Aside0.mk (k55.K_below hb4 HK3.out); have HM4 := Aside0.mk (Kd.M_below HM3.out hb4); have HB4 := Aside0.mk (below_step HB3.out hb4); clear hm4 hx4 hb4))
   have HAR := Aside0.mk (fun w (h : Below w0.heap.size w0 w) => Kd.C_below HD.out.reads h)
   have HBW := Aside0.mk (below_step HB.out HB4.out)
   obtain ⟨b, hm⟩ : ∃ b, mEntry y = b := ⟨_, rfl⟩
   have HMY := Aside0.mk hm
   clear hm
   cases b with
   | false =>
     have HNO := Aside0.mk (other_none HR.out (fun h => by rw [HMY.out] at h; cases h))
     cases bad with
     | true =>
       go_wp2_with (first | ((with_reducible refine gate_load (t := 55) rfl ?_); refine load_row rfl rfl Tryz.underlying55 rfl HY4.out rfl (es_size HK4.out) ?_) | (go_at_call 29; (with_reducible refine (r_encEntry w4 w4 y cs HK4.out (Below.refl _ _)).mono ?_); rintro e w5 ⟨hb, hno, hok⟩; obtain rfl := hno HMY.out; have HX5 := Aside0.mk (blk_below hb HX4.out); have HY5 := Aside0.mk (blk_below hb HY4.out); have HK5 := Aside0.mk (k55.K_below hb HK4.out); have HM5 := Aside0.mk (Kd.M_below HM4.out hb); have HB5 := Aside0.mk (below_step HB4.out hb); have n_2 := blk_cell (blk_below hb HE4.out) 2; simp at n_2; have HA5 := Aside0.mk (HAR.out w5 (below_step HBW.out hb)); clear hb hno hok) | ((with_reducible refine gate_store2 (t := 55) rfl ?_); refine store_row (old := zeroE.toArray) (cs := zeroE.toArray) rfl rfl rfl HX5.out rfl rfl ez_size rfl ez_one ?_; intro wz hmz hxz; have HX9 := Aside0.mk hxz; have HB9 := Aside0.mk (hmz.above HB5.out (fun k hk => by omega)); clear hmz hxz))
       refine bodyPost_ret (results_ct rfl _ _ _ _ _ _ _ _ rfl rfl HX9.out Tryz.underlying55 rfl ez_size) rfl ?_; exact ⟨HB9.out, fun h => absurd HLE.out (by omega), fun _ y' hm he => absurd he (HNO.out y' hm), fun _ _ => rfl⟩
     | false =>
       go_wp2_with (first | ((with_reducible refine gate_load (t := 55) rfl ?_); refine load_row rfl rfl Tryz.underlying55 rfl HY4.out rfl (es_size HK4.out) ?_) | (go_at_call 29; (with_reducible refine (r_encEntry w4 w4 y cs HK4.out (Below.refl _ _)).mono ?_); rintro e w5 ⟨hb, hno, hok⟩; obtain rfl := hno HMY.out; have HX5 := Aside0.mk (blk_below hb HX4.out); have HY5 := Aside0.mk (blk_below hb HY4.out); have HK5 := Aside0.mk (k55.K_below hb HK4.out); have HM5 := Aside0.mk (Kd.M_below HM4.out hb); have HB5 := Aside0.mk (below_step HB4.out hb); have n_2 := blk_cell (blk_below hb HE4.out) 2; simp at n_2; have HA5 := Aside0.mk (HAR.out w5 (below_step HBW.out hb)); clear hb hno hok) | ((with_reducible refine gate_store2 (t := 55) rfl ?_); refine store_row (old := zeroE.toArray) (cs := zeroE.toArray) rfl rfl rfl HX5.out rfl rfl ez_size rfl ez_one ?_; intro wz hmz hxz; have HX9 := Aside0.mk hxz; have HB9 := Aside0.mk (hmz.above HB5.out (fun k hk => by omega)); clear hmz hxz))
       refine bodyPost_ret (results_ct rfl _ _ _ _ _ _ _ _ rfl rfl HX9.out Tryz.underlying55 rfl ez_size) rfl ?_; exact ⟨HB9.out, fun h => absurd HLE.out (by omega), fun _ y' hm he => absurd he (HNO.out y' hm), fun _ _ => rfl⟩
   | true =>
     cases bad with
     | true =>
       have HNO := Aside0.mk (bad_none HR.out)
       go_wp2_with (first | ((with_reducible refine gate_load (t := 55) rfl ?_); refine load_row rfl rfl Tryz.underlying55 rfl HY4.out rfl (es_size HK4.out) ?_) | (go_at_call 29; (with_reducible refine (r_encEntry w4 w4 y cs HK4.out (Below.refl _ _)).mono ?_); rintro e w5 ⟨hb, hno, hok⟩; obtain ⟨v, rfl, hv⟩ := hok HMY.out; obtain ⟨B5, d5, rfl⟩ := Kd.R_slice hv; have HV5 := Aside0.mk (Kd.R_reads' hv).2.2; clear hv; have HX5 := Aside0.mk (blk_below hb HX4.out); have HY5 := Aside0.mk (blk_below hb HY4.out); have HK5 := Aside0.mk (k55.K_below hb HK4.out); have HM5 := Aside0.mk (Kd.M_below HM4.out hb); have HB5 := Aside0.mk (below_step HB4.out hb); have n_2 := blk_cell (blk_below hb HE4.out) 2; simp at n_2; have HA5 := Aside0.mk (HAR.out w5 (below_step HBW.out hb)); clear hb hno hok) | ((with_reducible refine gate_store2 (t := 55) rfl ?_); refine store_row (old := zeroE.toArray) (cs := zeroE.toArray) rfl rfl rfl HX5.out rfl rfl ez_size rfl ez_one ?_; intro wz hmz hxz; have HX9 := Aside0.mk hxz; have HB9 := Aside0.mk (hmz.above HB5.out (fun k hk => by omega)); clear hmz hxz))
       refine bodyPost_ret (results_ct rfl _ _ _ _ _ _ _ _ rfl rfl HX9.out Tryz.underlying55 rfl ez_size) rfl ?_; exact ⟨HB9.out, fun h => absurd HLE.out (by omega), fun _ y' hm he => absurd he (HNO.out y' hm), fun _ _ => rfl⟩
     | false =>
       by_cases he : encEntry y = xs
       · have HEQ := Aside0.mk he
         clear he
         go_wp2_with (first | ((with_reducible refine gate_load (t := 55) rfl ?_); refine load_row rfl rfl Tryz.underlying55 rfl HY6.out rfl (es_size HK6.out) ?_) | ((with_reducible refine gate_load (t := 55) rfl ?_); refine load_row rfl rfl Tryz.underlying55 rfl HY4.out rfl (es_size HK4.out) ?_) | (go_at_call 29; (with_reducible refine (r_encEntry w4 w4 y cs HK4.out (Below.refl _ _)).mono ?_); rintro e w5 ⟨hb, hno, hok⟩; obtain ⟨v, rfl, hv⟩ := hok HMY.out; obtain ⟨B5, d5, rfl⟩ := Kd.R_slice hv; have HV5 := Aside0.mk (Kd.R_reads' hv).2.2; clear hv; have HX5 := Aside0.mk (blk_below hb HX4.out); have HY5 := Aside0.mk (blk_below hb HY4.out); have HK5 := Aside0.mk (k55.K_below hb HK4.out); have HM5 := Aside0.mk (Kd.M_below HM4.out hb); have HB5 := Aside0.mk (below_step HB4.out hb); have n_2 := blk_cell (blk_below hb HE4.out) 2; simp at n_2; have HA5 := Aside0.mk (HAR.out w5 (below_step HBW.out hb)); clear hb hno hok) | (go_at_call 72; have hcb := r_bytes w5 B5 A d5 c (encEntry y) xs HV5.out HA5.out; rw [decide_eq_true HEQ.out] at hcb; (refine hcb.mono ?_); clear hcb; rintro e w6 ⟨rfl, hb⟩; have HX6 := Aside0.mk (blk_below hb HX5.out); have HY6 := Aside0.mk (blk_below hb HY5.out); have HK6 := Aside0.mk (k55.K_below hb HK5.out); have HM6 := Aside0.mk (Kd.M_below HM5.out hb); have HB6 := Aside0.mk (below_step HB5.out hb); clear hb) | ((with_reducible refine gate_store2 (t := 55) rfl ?_); refine store_row (old := zeroE.toArray) (cs := cs.toArray) rfl rfl rfl HX6.out rfl rfl (es_size HK6.out) (es_len HK6.out) (es_one HK6.out) ?_; intro wz hmz hxz; have HX9 := Aside0.mk hxz; have HB9 := Aside0.mk (hmz.above HB6.out (fun k hk => by omega)); have HK9 := Aside0.mk (k55.K_of_M (Get.M_moved HM6.out HX6.out (by decide) hmz)); clear hmz hxz))
         refine bodyPost_ret (results_ct rfl _ _ _ _ _ _ _ _ rfl rfl HX9.out Tryz.underlying55 rfl (es_size HK6.out)) rfl ?_
         refine ⟨HB9.out, fun h => absurd HLE.out (by omega), fun _ y' hm he => ?_, fun _ h => absurd HEQ.out (h y HMY.out)⟩
         have h1 := HR.out
         rw [← he, eEnt_of hm] at h1
         obtain ⟨rfl, _⟩ := Prod.mk.inj h1
         exact ⟨cs, HK9.out, rfl⟩
       · have HEQ := Aside0.mk he
         clear he
         have HNO := Aside0.mk (other_none HR.out (fun _ => HEQ.out))
         go_wp2_with (first | ((with_reducible refine gate_load (t := 55) rfl ?_); refine load_row rfl rfl Tryz.underlying55 rfl HY4.out rfl (es_size HK4.out) ?_) | (go_at_call 29; (with_reducible refine (r_encEntry w4 w4 y cs HK4.out (Below.refl _ _)).mono ?_); rintro e w5 ⟨hb, hno, hok⟩; obtain ⟨v, rfl, hv⟩ := hok HMY.out; obtain ⟨B5, d5, rfl⟩ := Kd.R_slice hv; have HV5 := Aside0.mk (Kd.R_reads' hv).2.2; clear hv; have HX5 := Aside0.mk (blk_below hb HX4.out); have HY5 := Aside0.mk (blk_below hb HY4.out); have HK5 := Aside0.mk (k55.K_below hb HK4.out); have HM5 := Aside0.mk (Kd.M_below HM4.out hb); have HB5 := Aside0.mk (below_step HB4.out hb); have n_2 := blk_cell (blk_below hb HE4.out) 2; simp at n_2; have HA5 := Aside0.mk (HAR.out w5 (below_step HBW.out hb)); clear hb hno hok) | (go_at_call 72; have hcb := r_bytes w5 B5 A d5 c (encEntry y) xs HV5.out HA5.out; rw [decide_eq_false HEQ.out] at hcb; (refine hcb.mono ?_); clear hcb; rintro e w6 ⟨rfl, hb⟩; have HX6 := Aside0.mk (blk_below hb HX5.out); have HY6 := Aside0.mk (blk_below hb HY5.out); have HK6 := Aside0.mk (k55.K_below hb HK5.out); have HM6 := Aside0.mk (Kd.M_below HM5.out hb); have HB6 := Aside0.mk (below_step HB5.out hb); clear hb) | ((with_reducible refine gate_store2 (t := 55) rfl ?_); refine store_row (old := zeroE.toArray) (cs := zeroE.toArray) rfl rfl rfl HX6.out rfl rfl ez_size rfl ez_one ?_; intro wz hmz hxz; have HX9 := Aside0.mk hxz; have HB9 := Aside0.mk (hmz.above HB6.out (fun k hk => by omega)); clear hmz hxz))
         refine bodyPost_ret (results_ct rfl _ _ _ _ _ _ _ _ rfl rfl HX9.out Tryz.underlying55 rfl ez_size) rfl ?_; exact ⟨HB9.out, fun h => absurd HLE.out (by omega), fun _ y' hm he => absurd he (HNO.out y' hm), fun _ _ => rfl⟩
end Go.Proofs.YtmneemhplffemaaGreatDoorRR.Ent
namespace Go.Proofs.YtmneemhplffemaaGreatDoorRR.Tab
open Go.RowKit Go.Proofs.YtmneemhplffemaaGreatDoorRR.Ord Go.Proofs.YtmneemhplffemaaGreatDoorRR.Name Go.Proofs.YtmneemhplffemaaGreatDoorRR.Ext Go.Proofs.YtmneemhplffemaaGreatDoorRR.Wire Go.Proofs.YtmneemhplffemaaGreatDoorRR.Mem Go.Proofs.YtmneemhplffemaaGreatDoorRR.Put Go.Proofs.YtmneemhplffemaaGreatDoorRR.Law Go.Proofs.YtmneemhplffemaaGreatDoorRR.Row Go.Proofs.YtmneemhplffemaaGreatDoorRR.Ki Go.Proofs.YtmneemhplffemaaGreatDoorRR.Chk Go.Proofs.YtmneemhplffemaaGreatDoorRR.May Go.Proofs.YtmneemhplffemaaGreatDoorRRW.PrintWords


theorem wrote_alloc {T : Nat} {W W' : World} {base g : Nat} {v : Value} {bs : List Int} {o : Obj} (h : Wrote T (W.alloc o) W' base g v bs) : Wrote T W W' base g v bs :=
 Wrote.trans (Moved.of_below (below_alloc (Below.refl _ _) o) _) (fun _ hk => .inl hk) h
set_option maxRecDepth 100000 in
set_option maxHeartbeats 1000000 in
theorem pc_uW (w0 W : World) (g gw : Nat) (x : Note) (cs : List Value) (hk : k34.K w0 x cs) (hb : Below w0.heap.size w0 W) (hbx : W.heap[g]? = some (.cells cs.toArray 34 (0, 0))) (ho : OkL .uW x) (base : Nat) (v : Value) (bs : List Int) (hbase : w0.heap.size ≤ base) (hgb : g < base) (hp : Pen 127 W base gw v bs) (hl : bs.length + 200000000 ≤ 140737488355328) :
  Calls Tryz.prog 170 #[.pointer (some ⟨gw, 0, none⟩), .pointer (some ⟨g, 0, none⟩)] W fun e W' => e = .returned (.tuple #[]) ∧ Wrote 127 W W' base gw v (bs ++ encF .uW x) := by
 obtain ⟨A11, c11, A12, c12, A16, c16, A17, c17, A18, c18, A19, c19, rfl, l11, g11, l12, g12, l16, g16, l17, g17, l18, g18, l19, g19⟩ := k34_open hk
 have hc := blk_cell hbx
 have n_17 : W.cell? ⟨g, 17, none⟩ = some (.slice A17 x.f12.length c17) := hc 17
 have G17 := Aside0.mk g17
 have HL17 := Aside0.mk l17
 have HP := Aside0.mk hp
 have HB := Aside0.mk hb
 have HO := Aside0.mk ho
 have HX := Aside0.mk hbx
 clear hk hb hbx hc hp ho g11 l11 g12 l12 g16 l16 g17 l17 g18 l18 g19 l19
 go_enter Tryz.func170, Tryz.ntmps170
 go_wp2_with fail
 have hlen := HO.out.1
 refine (putList_Watch 230 (fun args w => by kernel_rfl) encWatch WatchOk 300 put_Watch len_Watch A17 c17 x.f12 w0 W G17.out HO.out.2 HB.out base gw v bs hbase HP.out (by omega) (by omega)).mono ?_
 rintro e w1 ⟨rfl, hw⟩
 have HWR := Aside0.mk hw
 clear hw
 go_wp2_with fail
 first | go_end0 | refine bodyPost_ret (results_none rfl _ _ _) rfl ?_
 exact ⟨rfl, HWR.out⟩
set_option maxRecDepth 100000 in
set_option maxHeartbeats 1000000 in
theorem pc_lo (w0 W : World) (g gw : Nat) (x : Note) (cs : List Value) (hk : k34.K w0 x cs) (hb : Below w0.heap.size w0 W) (hbx : W.heap[g]? = some (.cells cs.toArray 34 (0, 0))) (ho : OkL .lo x) (base : Nat) (v : Value) (bs : List Int) (hbase : w0.heap.size ≤ base) (hgb : g < base) (hp : Pen 127 W base gw v bs) (hl : bs.length + 200000000 ≤ 140737488355328) :
  Calls Tryz.prog 191 #[.pointer (some ⟨gw, 0, none⟩), .pointer (some ⟨g, 0, none⟩)] W fun e W' => e = .returned (.tuple #[]) ∧ Wrote 127 W W' base gw v (bs ++ encF .lo x) := by
 obtain ⟨A11, c11, A12, c12, A16, c16, A17, c17, A18, c18, A19, c19, rfl, l11, g11, l12, g12, l16, g16, l17, g17, l18, g18, l19, g19⟩ := k34_open hk
 have hc := blk_cell hbx
 have n_11 : W.cell? ⟨g, 11, none⟩ = some (.slice A11 x.f9.length c11) := hc 11
 have G11 := Aside0.mk g11
 have HL11 := Aside0.mk l11
 have HP := Aside0.mk hp
 have HB := Aside0.mk hb
 have HO := Aside0.mk ho
 have HX := Aside0.mk hbx
 clear hk hb hbx hc hp ho g11 l11 g12 l12 g16 l16 g17 l17 g18 l18 g19 l19
 go_enter Tryz.func191, Tryz.ntmps191
 go_wp2_with fail
 have hlen := HO.out.1
 refine (putList_Op 121 (fun args w => by kernel_rfl) encOp OpOk 2000 put_Op len_Op A11 c11 x.f9 w0 W G11.out HO.out.2 HB.out base gw v bs hbase HP.out (by omega) (by omega)).mono ?_
 rintro e w1 ⟨rfl, hw⟩
 have HWR := Aside0.mk hw
 clear hw
 go_wp2_with fail
 first | go_end0 | refine bodyPost_ret (results_none rfl _ _ _) rfl ?_
 exact ⟨rfl, HWR.out⟩
set_option maxRecDepth 100000 in
set_option maxHeartbeats 1000000 in
theorem pc_uE (w0 W : World) (g gw : Nat) (x : Note) (cs : List Value) (hk : k34.K w0 x cs) (hb : Below w0.heap.size w0 W) (hbx : W.heap[g]? = some (.cells cs.toArray 34 (0, 0))) (ho : OkL .uE x) (base : Nat) (v : Value) (bs : List Int) (hbase : w0.heap.size ≤ base) (hgb : g < base) (hp : Pen 127 W base gw v bs) (hl : bs.length + 200000000 ≤ 140737488355328) :
  Calls Tryz.prog 195 #[.pointer (some ⟨gw, 0, none⟩), .pointer (some ⟨g, 0, none⟩)] W fun e W' => e = .returned (.tuple #[]) ∧ Wrote 127 W W' base gw v (bs ++ encF .uE x) := by
 obtain ⟨A11, c11, A12, c12, A16, c16, A17, c17, A18, c18, A19, c19, rfl, l11, g11, l12, g12, l16, g16, l17, g17, l18, g18, l19, g19⟩ := k34_open hk
 have hc := blk_cell hbx
 have n_12 : W.cell? ⟨g, 12, none⟩ = some (.slice A12 x.f10.length c12) := hc 12
 have G12 := Aside0.mk g12
 have HL12 := Aside0.mk l12
 have HP := Aside0.mk hp
 have HB := Aside0.mk hb
 have HO := Aside0.mk ho
 have HX := Aside0.mk hbx
 clear hk hb hbx hc hp ho g11 l11 g12 l12 g16 l16 g17 l17 g18 l18 g19 l19
 go_enter Tryz.func195, Tryz.ntmps195
 go_wp2_with fail
 have hlen := HO.out.1
 refine (putList_Entry 75 (fun args w => by kernel_rfl) encEntry EntryOk 12000 put_Entry len_Entry A12 c12 x.f10 w0 W G12.out HO.out.2 HB.out base gw v bs hbase HP.out (by omega) (by omega)).mono ?_
 rintro e w1 ⟨rfl, hw⟩
 have HWR := Aside0.mk hw
 clear hw
 go_wp2_with fail
 first | go_end0 | refine bodyPost_ret (results_none rfl _ _ _) rfl ?_
 exact ⟨rfl, HWR.out⟩
set_option maxRecDepth 100000 in
set_option maxHeartbeats 1000000 in
theorem pc_uI (w0 W : World) (g gw : Nat) (x : Note) (cs : List Value) (hk : k34.K w0 x cs) (hb : Below w0.heap.size w0 W) (hbx : W.heap[g]? = some (.cells cs.toArray 34 (0, 0))) (ho : OkL .uI x) (base : Nat) (v : Value) (bs : List Int) (hbase : w0.heap.size ≤ base) (hgb : g < base) (hp : Pen 127 W base gw v bs) (hl : bs.length + 200000000 ≤ 140737488355328) :
  Calls Tryz.prog 202 #[.pointer (some ⟨gw, 0, none⟩), .pointer (some ⟨g, 0, none⟩)] W fun e W' => e = .returned (.tuple #[]) ∧ Wrote 127 W W' base gw v (bs ++ encF .uI x) := by
 obtain ⟨A11, c11, A12, c12, A16, c16, A17, c17, A18, c18, A19, c19, rfl, l11, g11, l12, g12, l16, g16, l17, g17, l18, g18, l19, g19⟩ := k34_open hk
 have hc := blk_cell hbx
 have n_19 : W.cell? ⟨g, 19, none⟩ = some (.slice A19 x.f14.length c19) := hc 19
 have G19 := Aside0.mk g19
 have HL19 := Aside0.mk l19
 have HP := Aside0.mk hp
 have HB := Aside0.mk hb
 have HO := Aside0.mk ho
 have HX := Aside0.mk hbx
 clear hk hb hbx hc hp ho g11 l11 g12 l12 g16 l16 g17 l17 g18 l18 g19 l19
 go_enter Tryz.func202, Tryz.ntmps202
 go_wp2_with fail
 have hlen := HO.out.1
 refine (putList_Item 204 (fun args w => by kernel_rfl) encItem ItemOk 300000 put_Item len_Item A19 c19 x.f14 w0 W G19.out (fun y hy => (HO.out.2 y hy).ok) HB.out base gw v bs hbase HP.out (by omega) (by omega)).mono ?_
 rintro e w1 ⟨rfl, hw⟩
 have HWR := Aside0.mk hw
 clear hw
 go_wp2_with fail
 first | go_end0 | refine bodyPost_ret (results_none rfl _ _ _) rfl ?_
 exact ⟨rfl, HWR.out⟩
set_option maxRecDepth 100000 in
set_option maxHeartbeats 1000000 in
theorem pc_uP (w0 W : World) (g gw : Nat) (x : Note) (cs : List Value) (hk : k34.K w0 x cs) (hb : Below w0.heap.size w0 W) (hbx : W.heap[g]? = some (.cells cs.toArray 34 (0, 0))) (ho : OkL .uP x) (base : Nat) (v : Value) (bs : List Int) (hbase : w0.heap.size ≤ base) (hgb : g < base) (hp : Pen 127 W base gw v bs) (hl : bs.length + 200000000 ≤ 140737488355328) :
  Calls Tryz.prog 211 #[.pointer (some ⟨gw, 0, none⟩), .pointer (some ⟨g, 0, none⟩)] W fun e W' => e = .returned (.tuple #[]) ∧ Wrote 127 W W' base gw v (bs ++ encF .uP x) := by
 obtain ⟨A11, c11, A12, c12, A16, c16, A17, c17, A18, c18, A19, c19, rfl, l11, g11, l12, g12, l16, g16, l17, g17, l18, g18, l19, g19⟩ := k34_open hk
 have hc := blk_cell hbx
 have n_18 : W.cell? ⟨g, 18, none⟩ = some (.slice A18 x.f13.length c18) := hc 18
 have G18 := Aside0.mk g18
 have HL18 := Aside0.mk l18
 have HP := Aside0.mk hp
 have HB := Aside0.mk hb
 have HO := Aside0.mk ho
 have HX := Aside0.mk hbx
 clear hk hb hbx hc hp ho g11 l11 g12 l12 g16 l16 g17 l17 g18 l18 g19 l19
 go_enter Tryz.func211, Tryz.ntmps211
 go_wp2_with fail
 have hlen := HO.out.1
 refine (putList_Part 213 (fun args w => by kernel_rfl) encPart PartOk 50000 put_Part len_Part A18 c18 x.f13 w0 W G18.out HO.out.2 HB.out base gw v bs hbase HP.out (by omega) (by omega)).mono ?_
 rintro e w1 ⟨rfl, hw⟩
 have HWR := Aside0.mk hw
 clear hw
 go_wp2_with fail
 first | go_end0 | refine bodyPost_ret (results_none rfl _ _ _) rfl ?_
 exact ⟨rfl, HWR.out⟩
set_option maxRecDepth 100000 in
set_option maxHeartbeats 1000000 in
theorem pc_ly (w0 W : World) (g gw : Nat) (x : Note) (cs : List Value) (hk : k34.K w0 x cs) (hb : Below w0.heap.size w0 W) (hbx : W.heap[g]? = some (.cells cs.toArray 34 (0, 0))) (ho : OkL .ly x) (base : Nat) (v : Value) (bs : List Int) (hbase : w0.heap.size ≤ base) (hgb : g < base) (hp : Pen 127 W base gw v bs) (hl : bs.length + 200000000 ≤ 140737488355328) :
  Calls Tryz.prog 180 #[.pointer (some ⟨gw, 0, none⟩), .pointer (some ⟨g, 0, none⟩)] W fun e W' => e = .returned (.tuple #[]) ∧ Wrote 127 W W' base gw v (bs ++ encF .ly x) := by
 obtain ⟨A11, c11, A12, c12, A16, c16, A17, c17, A18, c18, A19, c19, rfl, l11, g11, l12, g12, l16, g16, l17, g17, l18, g18, l19, g19⟩ := k34_open hk
 have hc := blk_cell hbx
 have n_13 : W.cell? ⟨g, 13, none⟩ = some (.int .i64 x.f11.f0) := hc 13
 have n_14 : W.cell? ⟨g, 14, none⟩ = some (.int .i64 x.f11.f1) := hc 14
 have n_15 : W.cell? ⟨g, 15, none⟩ = some (.int .i64 x.f11.f2) := hc 15
 have n_16 : W.cell? ⟨g, 16, none⟩ = some (.slice A16 x.f11.f3.length c16) := hc 16
 have G16 := Aside0.mk g16
 have HL16 := Aside0.mk l16
 have HP := Aside0.mk hp
 have HB := Aside0.mk hb
 have HO := Aside0.mk ho
 have HX := Aside0.mk hbx
 clear hk hb hbx hc hp ho g11 l11 g12 l12 g16 l16 g17 l17 g18 l18 g19 l19
 go_enter Tryz.func180, Tryz.ntmps180
 go_wp2_with fail
 refine (putReply_any x.f11 HO.out _ w0 W (k29_mk w0 x.f11 HL16.out G16.out) HB.out base gw v bs hbase HP.out (by omega)).mono ?_
 rintro e w1 ⟨rfl, hw⟩
 have HWR := Aside0.mk hw
 clear hw
 go_wp2_with fail
 first | go_end0 | refine bodyPost_ret (results_none rfl _ _ _) rfl ?_
 exact ⟨rfl, HWR.out⟩
set_option maxRecDepth 100000 in
set_option maxHeartbeats 1000000 in
theorem pc_la (w0 W : World) (g gw : Nat) (x : Note) (cs : List Value) (hk : k34.K w0 x cs) (hb : Below w0.heap.size w0 W) (hbx : W.heap[g]? = some (.cells cs.toArray 34 (0, 0))) (ho : OkL .la x) (base : Nat) (v : Value) (bs : List Int) (hbase : w0.heap.size ≤ base) (hgb : g < base) (hp : Pen 127 W base gw v bs) (hl : bs.length + 200000000 ≤ 140737488355328) :
  Calls Tryz.prog 187 #[.pointer (some ⟨gw, 0, none⟩), .pointer (some ⟨g, 0, none⟩)] W fun e W' => e = .returned (.tuple #[]) ∧ Wrote 127 W W' base gw v (bs ++ encF .la x) := by
 obtain ⟨A11, c11, A12, c12, A16, c16, A17, c17, A18, c18, A19, c19, rfl, l11, g11, l12, g12, l16, g16, l17, g17, l18, g18, l19, g19⟩ := k34_open hk
 have hc := blk_cell hbx
 have n_20 : W.cell? ⟨g, 20, none⟩ = some (.string x.f15) := hc 20
 have HP := Aside0.mk hp
 have HB := Aside0.mk hb
 have HO := Aside0.mk ho
 have HX := Aside0.mk hbx
 clear hk hb hbx hc hp ho g11 l11 g12 l12 g16 l16 g17 l17 g18 l18 g19 l19
 go_enter Tryz.func187, Tryz.ntmps187
 have hsz : x.f15.size ≤ 262144 := HO.out
 go_wp2_with fail
 refine (wtxt x.f15 hsz W base gw v bs HP.out (by omega)).mono ?_
 rintro e w1 ⟨rfl, hw⟩
 have HWR := Aside0.mk hw
 clear hw
 go_wp2_with fail
 first | go_end0 | refine bodyPost_ret (results_none rfl _ _ _) rfl ?_
 exact ⟨rfl, HWR.out⟩
set_option maxRecDepth 100000 in
set_option maxHeartbeats 1000000 in
theorem pc_le (w0 W : World) (g gw : Nat) (x : Note) (cs : List Value) (hk : k34.K w0 x cs) (hb : Below w0.heap.size w0 W) (hbx : W.heap[g]? = some (.cells cs.toArray 34 (0, 0))) (ho : OkL .le x) (base : Nat) (v : Value) (bs : List Int) (hbase : w0.heap.size ≤ base) (hgb : g < base) (hp : Pen 127 W base gw v bs) (hl : bs.length + 200000000 ≤ 140737488355328) :
  Calls Tryz.prog 235 #[.pointer (some ⟨gw, 0, none⟩), .pointer (some ⟨g, 0, none⟩)] W fun e W' => e = .returned (.tuple #[]) ∧ Wrote 127 W W' base gw v (bs ++ encF .le x) := by
 obtain ⟨A11, c11, A12, c12, A16, c16, A17, c17, A18, c18, A19, c19, rfl, l11, g11, l12, g12, l16, g16, l17, g17, l18, g18, l19, g19⟩ := k34_open hk
 have hc := blk_cell hbx
 have n_10 : W.cell? ⟨g, 10, none⟩ = some (.int .i64 x.f8) := hc 10
 have HP := Aside0.mk hp
 have HB := Aside0.mk hb
 have HO := Aside0.mk ho
 have HX := Aside0.mk hbx
 clear hk hb hbx hc hp ho g11 l11 g12 l12 g16 l16 g17 l17 g18 l18 g19 l19
 go_enter Tryz.func235, Tryz.ntmps235
 go_wp2_with fail
 refine (wnum x.f8 HO.out.1 HO.out.2 W base gw v bs HP.out (by omega)).mono ?_
 rintro e w1 ⟨rfl, hw⟩
 have HWR := Aside0.mk hw
 clear hw
 go_wp2_with fail
 first | go_end0 | refine bodyPost_ret (results_none rfl _ _ _) rfl ?_
 exact ⟨rfl, HWR.out⟩
set_option maxRecDepth 100000 in
set_option maxHeartbeats 1000000 in
theorem pc_lv (w0 W : World) (g gw : Nat) (x : Note) (cs : List Value) (hk : k34.K w0 x cs) (hb : Below w0.heap.size w0 W) (hbx : W.heap[g]? = some (.cells cs.toArray 34 (0, 0))) (ho : OkL .lv x) (base : Nat) (v : Value) (bs : List Int) (hbase : w0.heap.size ≤ base) (hgb : g < base) (hp : Pen 127 W base gw v bs) (hl : bs.length + 200000000 ≤ 140737488355328) :
  Calls Tryz.prog 239 #[.pointer (some ⟨gw, 0, none⟩), .pointer (some ⟨g, 0, none⟩)] W fun e W' => e = .returned (.tuple #[]) ∧ Wrote 127 W W' base gw v (bs ++ encF .lv x) := by
 obtain ⟨A11, c11, A12, c12, A16, c16, A17, c17, A18, c18, A19, c19, rfl, l11, g11, l12, g12, l16, g16, l17, g17, l18, g18, l19, g19⟩ := k34_open hk
 have hc := blk_cell hbx
 have n_1 : W.cell? ⟨g, 1, none⟩ = some (.int .i64 x.f1.f0) := hc 1
 have n_2 : W.cell? ⟨g, 2, none⟩ = some (.int .i64 x.f1.f1) := hc 2
 have n_3 : W.cell? ⟨g, 3, none⟩ = some (.int .i64 x.f1.f2) := hc 3
 have HP := Aside0.mk hp
 have HB := Aside0.mk hb
 have HO := Aside0.mk ho
 have HX := Aside0.mk hbx
 clear hk hb hbx hc hp ho g11 l11 g12 l12 g16 l16 g17 l17 g18 l18 g19 l19
 have HS0 : Aside0 (Pend 127 W W base gw v v bs (fun k o => k = g ∧ o = (Obj.cells #[.int .i64 x.f0, .int .i64 x.f1.f0, .int .i64 x.f1.f1, .int .i64 x.f1.f2, .int .i64 x.f2, .int .i64 x.f3, .int .i64 x.f4, .int .i64 x.f5, .int .i64 x.f6, .int .i64 x.f7, .int .i64 x.f8, .slice A11 x.f9.length c11, .slice A12 x.f10.length c12, .int .i64 x.f11.f0, .int .i64 x.f11.f1, .int .i64 x.f11.f2, .slice A16 x.f11.f3.length c16, .slice A17 x.f12.length c17, .slice A18 x.f13.length c18, .slice A19 x.f14.length c19, .string x.f15] 34 (0, 0)))) := ⟨⟨HP.out, Moved.refl _ _, fun _ hk => .inl hk, fun k o h => by obtain ⟨rfl, rfl⟩ := h; exact ⟨HX.out, fun hs => by have := HP.out.base_le _ hs; omega⟩⟩⟩
 have e0 := num_le x.f1.f0
 have e1 := num_le x.f1.f1
 clear HX
 go_enter Tryz.func239, Tryz.ntmps239
 go_wp2_with fail
 refine (Pend.num HS0.out x.f1.f0 HO.out.1 (by first | omega | (simp only [List.length_append]; omega))).mono ?_
 rintro e w1 ⟨rfl, v1, hs1⟩
 have hc1 := hs1.cells (k := g) ⟨rfl, rfl⟩
 have m1_2 : w1.cell? ⟨g, 2, none⟩ = some (.int .i64 x.f1.f1) := hc1 2
 have m1_3 : w1.cell? ⟨g, 3, none⟩ = some (.int .i64 x.f1.f2) := hc1 3
 have HS1 := Aside0.mk hs1
 clear hs1 hc1
 go_wp2_with fail
 refine (Pend.num HS1.out x.f1.f1 HO.out.2.1 (by first | omega | (simp only [List.length_append]; omega))).mono ?_
 rintro e w2 ⟨rfl, v2, hs2⟩
 have hc2 := hs2.cells (k := g) ⟨rfl, rfl⟩
 have m2_2 : w2.cell? ⟨g, 2, none⟩ = some (.int .i64 x.f1.f1) := hc2 2
 have m2_3 : w2.cell? ⟨g, 3, none⟩ = some (.int .i64 x.f1.f2) := hc2 3
 have HS2 := Aside0.mk hs2
 clear hs2 hc2
 go_wp2_with fail
 refine (Pend.num HS2.out x.f1.f2 HO.out.2.2 (by first | omega | (simp only [List.length_append]; omega))).mono ?_
 rintro e w3 ⟨rfl, v3, hs3⟩
 have hc3 := hs3.cells (k := g) ⟨rfl, rfl⟩
 have m3_2 : w3.cell? ⟨g, 2, none⟩ = some (.int .i64 x.f1.f1) := hc3 2
 have m3_3 : w3.cell? ⟨g, 3, none⟩ = some (.int .i64 x.f1.f2) := hc3 3
 have HS3 := Aside0.mk hs3
 clear hs3 hc3
 go_wp2_with fail
 first | go_end0 | refine bodyPost_ret (results_none rfl _ _ _) rfl ?_
 exact ⟨rfl, by simp only [encF]; simpa only [List.append_assoc] using HS3.out.wrote⟩
theorem c_write (l : Ltr) (w0 W : World) (g gw : Nat) (x : Note) (cs : List Value) (hk : k34.K w0 x cs) (hb : Below w0.heap.size w0 W) (hbx : W.heap[g]? = some (.cells cs.toArray 34 (0, 0))) (ho : OkL l x) (base : Nat) (v : Value) (bs : List Int) (hbase : w0.heap.size ≤ base) (hgb : g < base) (hp : Pen 127 W base gw v bs) (hl : bs.length + 200000000 ≤ 140737488355328) :
  Calls Tryz.prog 62 #[.agg (fCells l).toArray, .pointer (some ⟨gw, 0, none⟩), .pointer (some ⟨g, 0, none⟩)] W fun e W' => e = .returned (.tuple #[]) ∧ Wrote 127 W W' base gw v (bs ++ encF l x) := by
 cases l
 case ln =>
  have hc : W.cell? ⟨g, 1, none⟩ = some (.int .i64 x.f1.f0) := by
   obtain ⟨A11, c11, A12, c12, A16, c16, A17, c17, A18, c18, A19, c19, rfl, l11, g11, l12, g12, l16, g16, l17, g17, l18, g18, l19, g19⟩ := k34_open hk
   exact blk_cell hbx 1
  exact write_num _ 1 (fun _ _ => by kernel_rfl) n_ln 1 x.f1.f0 W gw g _ hc ((wnum x.f1.f0 ho.1 ho.2 _ base gw v bs (hp.alloc _) (by omega)).mono fun e W' ⟨he, hw⟩ => ⟨he, wrote_alloc hw⟩)
 case ls =>
  have hc : W.cell? ⟨g, 4, none⟩ = some (.int .i64 x.f2) := by
   obtain ⟨A11, c11, A12, c12, A16, c16, A17, c17, A18, c18, A19, c19, rfl, l11, g11, l12, g12, l16, g16, l17, g17, l18, g18, l19, g19⟩ := k34_open hk
   exact blk_cell hbx 4
  exact write_num _ 4 (fun _ _ => by kernel_rfl) n_ls 1 x.f2 W gw g _ hc ((wnum x.f2 ho.1 ho.2 _ base gw v bs (hp.alloc _) (by omega)).mono fun e W' ⟨he, hw⟩ => ⟨he, wrote_alloc hw⟩)
 case lc =>
  have hc : W.cell? ⟨g, 5, none⟩ = some (.int .i64 x.f3) := by
   obtain ⟨A11, c11, A12, c12, A16, c16, A17, c17, A18, c18, A19, c19, rfl, l11, g11, l12, g12, l16, g16, l17, g17, l18, g18, l19, g19⟩ := k34_open hk
   exact blk_cell hbx 5
  exact write_num _ 5 (fun _ _ => by kernel_rfl) n_lc 1 x.f3 W gw g _ hc ((wnum x.f3 ho.1 ho.2 _ base gw v bs (hp.alloc _) (by omega)).mono fun e W' ⟨he, hw⟩ => ⟨he, wrote_alloc hw⟩)
 case lr =>
  have hc : W.cell? ⟨g, 6, none⟩ = some (.int .i64 x.f4) := by
   obtain ⟨A11, c11, A12, c12, A16, c16, A17, c17, A18, c18, A19, c19, rfl, l11, g11, l12, g12, l16, g16, l17, g17, l18, g18, l19, g19⟩ := k34_open hk
   exact blk_cell hbx 6
  exact write_num _ 6 (fun _ _ => by kernel_rfl) n_lr 1 x.f4 W gw g _ hc ((wnum x.f4 ho.1 ho.2 _ base gw v bs (hp.alloc _) (by omega)).mono fun e W' ⟨he, hw⟩ => ⟨he, wrote_alloc hw⟩)
 case lt =>
  have hc : W.cell? ⟨g, 7, none⟩ = some (.int .i64 x.f5) := by
   obtain ⟨A11, c11, A12, c12, A16, c16, A17, c17, A18, c18, A19, c19, rfl, l11, g11, l12, g12, l16, g16, l17, g17, l18, g18, l19, g19⟩ := k34_open hk
   exact blk_cell hbx 7
  exact write_num _ 7 (fun _ _ => by kernel_rfl) n_lt 0 x.f5 W gw g _ hc ((wnum x.f5 ho.1 ho.2 _ base gw v bs (hp.alloc _) (by omega)).mono fun e W' ⟨he, hw⟩ => ⟨he, wrote_alloc hw⟩)
 case lf =>
  have hc : W.cell? ⟨g, 8, none⟩ = some (.int .i64 x.f6) := by
   obtain ⟨A11, c11, A12, c12, A16, c16, A17, c17, A18, c18, A19, c19, rfl, l11, g11, l12, g12, l16, g16, l17, g17, l18, g18, l19, g19⟩ := k34_open hk
   exact blk_cell hbx 8
  exact write_num _ 8 (fun _ _ => by kernel_rfl) n_lf 0 x.f6 W gw g _ hc ((wnum x.f6 ho.1 ho.2 _ base gw v bs (hp.alloc _) (by omega)).mono fun e W' ⟨he, hw⟩ => ⟨he, wrote_alloc hw⟩)
 case lm =>
  have hc : W.cell? ⟨g, 9, none⟩ = some (.int .i64 x.f7) := by
   obtain ⟨A11, c11, A12, c12, A16, c16, A17, c17, A18, c18, A19, c19, rfl, l11, g11, l12, g12, l16, g16, l17, g17, l18, g18, l19, g19⟩ := k34_open hk
   exact blk_cell hbx 9
  exact write_num _ 9 (fun _ _ => by kernel_rfl) n_lm 0 x.f7 W gw g _ hc ((wnum x.f7 ho.1 ho.2 _ base gw v bs (hp.alloc _) (by omega)).mono fun e W' ⟨he, hw⟩ => ⟨he, wrote_alloc hw⟩)
 case uW => exact write_put _ (fun _ _ => by kernel_rfl) _ _ _ W gw g _ ((pc_uW w0 _ g gw x cs hk (below_step hb (below_alloc (Below.refl _ _) _)) (blk_below (below_alloc (Below.refl _ _) _) hbx) ho base v bs hbase hgb (hp.alloc _) hl).mono fun e W' ⟨he, hw⟩ => ⟨he, wrote_alloc hw⟩)
 case lw => exact write_put _ (fun _ _ => by kernel_rfl) _ _ _ W gw g _ ((pc_uW w0 _ g gw x cs hk (below_step hb (below_alloc (Below.refl _ _) _)) (blk_below (below_alloc (Below.refl _ _) _) hbx) ho base v bs hbase hgb (hp.alloc _) hl).mono fun e W' ⟨he, hw⟩ => ⟨he, wrote_alloc hw⟩)
 case ld => exact write_put _ (fun _ _ => by kernel_rfl) _ _ _ W gw g _ ((pc_uW w0 _ g gw x cs hk (below_step hb (below_alloc (Below.refl _ _) _)) (blk_below (below_alloc (Below.refl _ _) _) hbx) ho base v bs hbase hgb (hp.alloc _) hl).mono fun e W' ⟨he, hw⟩ => ⟨he, wrote_alloc hw⟩)
 case uD => exact write_put _ (fun _ _ => by kernel_rfl) _ _ _ W gw g _ ((pc_uW w0 _ g gw x cs hk (below_step hb (below_alloc (Below.refl _ _) _)) (blk_below (below_alloc (Below.refl _ _) _) hbx) ho base v bs hbase hgb (hp.alloc _) hl).mono fun e W' ⟨he, hw⟩ => ⟨he, wrote_alloc hw⟩)
 case le => exact write_put _ (fun _ _ => by kernel_rfl) _ _ _ W gw g _ ((pc_le w0 _ g gw x cs hk (below_step hb (below_alloc (Below.refl _ _) _)) (blk_below (below_alloc (Below.refl _ _) _) hbx) ho base v bs hbase hgb (hp.alloc _) hl).mono fun e W' ⟨he, hw⟩ => ⟨he, wrote_alloc hw⟩)
 case lv => exact write_put _ (fun _ _ => by kernel_rfl) _ _ _ W gw g _ ((pc_lv w0 _ g gw x cs hk (below_step hb (below_alloc (Below.refl _ _) _)) (blk_below (below_alloc (Below.refl _ _) _) hbx) ho base v bs hbase hgb (hp.alloc _) hl).mono fun e W' ⟨he, hw⟩ => ⟨he, wrote_alloc hw⟩)
 case ly => exact write_put _ (fun _ _ => by kernel_rfl) _ _ _ W gw g _ ((pc_ly w0 _ g gw x cs hk (below_step hb (below_alloc (Below.refl _ _) _)) (blk_below (below_alloc (Below.refl _ _) _) hbx) ho base v bs hbase hgb (hp.alloc _) hl).mono fun e W' ⟨he, hw⟩ => ⟨he, wrote_alloc hw⟩)
 case la => exact write_put _ (fun _ _ => by kernel_rfl) _ _ _ W gw g _ ((pc_la w0 _ g gw x cs hk (below_step hb (below_alloc (Below.refl _ _) _)) (blk_below (below_alloc (Below.refl _ _) _) hbx) ho base v bs hbase hgb (hp.alloc _) hl).mono fun e W' ⟨he, hw⟩ => ⟨he, wrote_alloc hw⟩)
 case lo => exact write_put _ (fun _ _ => by kernel_rfl) _ _ _ W gw g _ ((pc_lo w0 _ g gw x cs hk (below_step hb (below_alloc (Below.refl _ _) _)) (blk_below (below_alloc (Below.refl _ _) _) hbx) ho base v bs hbase hgb (hp.alloc _) hl).mono fun e W' ⟨he, hw⟩ => ⟨he, wrote_alloc hw⟩)
 case uE => exact write_put _ (fun _ _ => by kernel_rfl) _ _ _ W gw g _ ((pc_uE w0 _ g gw x cs hk (below_step hb (below_alloc (Below.refl _ _) _)) (blk_below (below_alloc (Below.refl _ _) _) hbx) ho base v bs hbase hgb (hp.alloc _) hl).mono fun e W' ⟨he, hw⟩ => ⟨he, wrote_alloc hw⟩)
 case uI => exact write_put _ (fun _ _ => by kernel_rfl) _ _ _ W gw g _ ((pc_uI w0 _ g gw x cs hk (below_step hb (below_alloc (Below.refl _ _) _)) (blk_below (below_alloc (Below.refl _ _) _) hbx) ho base v bs hbase hgb (hp.alloc _) hl).mono fun e W' ⟨he, hw⟩ => ⟨he, wrote_alloc hw⟩)
 case uP => exact write_put _ (fun _ _ => by kernel_rfl) _ _ _ W gw g _ ((pc_uP w0 _ g gw x cs hk (below_step hb (below_alloc (Below.refl _ _) _)) (blk_below (below_alloc (Below.refl _ _) _) hbx) ho base v bs hbase hgb (hp.alloc _) hl).mono fun e W' ⟨he, hw⟩ => ⟨he, wrote_alloc hw⟩)
end Go.Proofs.YtmneemhplffemaaGreatDoorRR.Tab
namespace Go.Proofs.YtmneemhplffemaaGreatDoorRR.Tab
open Go.RowKit Go.Proofs.YtmneemhplffemaaGreatDoorRR.Ord Go.Proofs.YtmneemhplffemaaGreatDoorRR.Name Go.Proofs.YtmneemhplffemaaGreatDoorRR.Ext Go.Proofs.YtmneemhplffemaaGreatDoorRR.Wire Go.Proofs.YtmneemhplffemaaGreatDoorRR.Mem Go.Proofs.YtmneemhplffemaaGreatDoorRR.Put Go.Proofs.YtmneemhplffemaaGreatDoorRR.Law Go.Proofs.YtmneemhplffemaaGreatDoorRR.Row Go.Proofs.YtmneemhplffemaaGreatDoorRR.Ki Go.Proofs.YtmneemhplffemaaGreatDoorRR.Chk Go.Proofs.YtmneemhplffemaaGreatDoorRR.May Go.Proofs.YtmneemhplffemaaGreatDoorRRW.PrintWords


theorem Pend.quiet {T : Nat} {W0 W W1 : World} {base g : Nat} {v0 v : Value} {bs : List Int} {B : Nat → Obj → Prop} (h : Pend T W0 W base g v0 v bs B) (hb : Below W.heap.size W W1) : Pend T W0 W1 base g v0 v bs B :=
 ⟨h.pen.below hb, h.mov.step hb, h.keep, fun k o hk => ⟨blk_below hb (h.box k o hk).1, (h.box k o hk).2⟩⟩
theorem R_pens {α : Type} {d : Kd α} {e T : Nat} {w w1 : World} {base b g : Nat} {u v : Value} {xs : List α} {bs : List Int} (h : d.R e w base (fun _ => True) u xs) (hp : Pen T w b g v bs) (ht : ∀ q, q ∈ e :: d.E → q ≠ T) (hu : ∀ q, q ∈ e :: d.E → q ≠ 5) (hm : Moved w w1 (pens g v)) : d.R e w1 base (fun _ => True) u xs := by
 have h1 := Kd.R_types h hp.blk ht
 cases hv : v.ownBlock with
 | none => exact Kd.R_mono (Kd.R_step h1 (fun k hk hl => hm.block k hl (fun hs => hs.elim hk.2 (fun h => by rw [hv] at h; cases h)))) (fun _ _ => trivial)
 | some j =>
   obtain ⟨cells, hc⟩ := own_typed hp.own j hv
   exact Kd.R_mono (Kd.R_step (Kd.R_types h1 hc hu) (fun k hk hl => hm.block k hl (fun hs => hs.elim hk.1.2 (fun h => hk.2 (by rw [hv] at h; exact (Option.some.inj h).symm))))) (fun _ _ => trivial)
theorem flat_len {x : Note} : ∀ {w : List Ltr}, (∀ l ∈ w, (encF l x).length ≤ 10000000) → (w.flatMap (fun l => encF l x)).length ≤ w.length * 10000000
 | [], _ => by simp
 | l :: w, h => by
   have h1 := h l List.mem_cons_self
   have h2 := flat_len (w := w) (fun l hl => h l (List.mem_cons_of_mem _ hl))
   rw [List.flatMap_cons, List.length_append, List.length_cons]
   omega
theorem enc_len {l : Ltr} {x : Note} (h : OkL l x) : (encF l x).length ≤ 10000000 := by
 have e0 := num_le x.f1.f0
 have e1 := num_le x.f1.f1
 have e2 := num_le x.f1.f2
 cases l
 case ln => exact Nat.le_trans (num_le _) (by omega)
 case ls => exact Nat.le_trans (num_le _) (by omega)
 case lc => exact Nat.le_trans (num_le _) (by omega)
 case lr => exact Nat.le_trans (num_le _) (by omega)
 case lt => exact Nat.le_trans (num_le _) (by omega)
 case lf => exact Nat.le_trans (num_le _) (by omega)
 case lm => exact Nat.le_trans (num_le _) (by omega)
 case le => exact Nat.le_trans (num_le _) (by omega)
 case lv => simp only [encF, List.length_append]; omega
 case la => have h1 := txt_le x.f15; have h2 : x.f15.size ≤ 262144 := h; simp only [encF]; omega
 case ly => have h1 := len_Reply x.f11 h; simp only [encF]; omega
 case uW => have h1 := list_le len_Watch h.2; have h2 := h.1; simp only [encF]; omega
 case lw => have h1 := list_le len_Watch h.2; have h2 := h.1; simp only [encF]; omega
 case ld => have h1 := list_le len_Watch h.2; have h2 := h.1; simp only [encF]; omega
 case uD => have h1 := list_le len_Watch h.2; have h2 := h.1; simp only [encF]; omega
 case lo => have h1 := list_le len_Op h.2; have h2 := h.1; simp only [encF]; omega
 case uE => have h1 := list_le len_Entry h.2; have h2 := h.1; simp only [encF]; omega
 case uI => have h1 := list_le len_Item (fun y hy => (h.2 y hy).ok); have h2 := h.1; simp only [encF]; omega
 case uP => have h1 := list_le len_Part h.2; have h2 := h.1; simp only [encF]; omega
set_option maxRecDepth 100000 in
set_option maxHeartbeats 8000000 in
theorem c_encodeP (w0 W : World) (x : Note) (cs : List Value) (hk : k34.K w0 x cs) (hb : Below w0.heap.size w0 W) (HE : EnvN w0) (hz : Sane x) :
   Calls Tryz.prog 21 #[.agg cs.toArray] W fun e W' => Below W.heap.size W W' ∧ (mCheck x = false → e = .returned (.tuple #[.slice none 0 0, .int .i64 30])) ∧ (mCheck x = true → ∃ v, e = .returned (.tuple #[v, .int .i64 0]) ∧ BRow W' W.heap.size v (encNote x)) := by
 have HK := Aside0.mk hk
 have HE := Aside0.mk HE
 have HZ := Aside0.mk hz
 have HA0 := Aside0.mk hb
 have HSZ := Aside0.mk (cs_size hk)
 have hn0 : cs.toArray[0]? = some (.int .i64 x.f0) := by
   obtain ⟨A11, c11, A12, c12, A16, c16, A17, c17, A18, c18, A19, c19, rfl, l11, g11, l12, g12, l16, g16, l17, g17, l18, g18, l19, g19⟩ := k34_open hk
   rfl
 clear hk hz hb
 go_enter Tryz.func21, Tryz.ntmps21
 go_upto_region 1 with ((with_reducible refine gate_box (t := 34) rfl ?_); refine box_row rfl rfl rfl ?_; intro gb hgb w1 hbx hb1; have HBX := Aside0.mk hbx; have HB1 := Aside0.mk hb1; have HGB := Aside0.mk hgb; clear hbx hb1 hgb)
 cases hm : mCheck x with
 | false =>
   go_wp2_with (first | ((with_reducible refine gate_load (t := 34) rfl ?_); refine load_row rfl rfl Tryz.underlying34 rfl HBX.out rfl HSZ.out ?_) | (go_at_call 17; have hch := c_checkP w0 _ x cs HK.out (below_step HA0.out HB1.out) HE.out HZ.out; rw [hm] at hch; (with_reducible refine hch.mono ?_); clear hch; rintro e w2 ⟨rfl, hb2⟩; have HB2 := Aside0.mk (below_step HB1.out hb2); have HG2 := Aside0.mk (blk_below hb2 HBX.out); clear hb2))
   go_ret2
   exact ⟨HB2.out, (fun _ => rfl), fun h => (by rw [hm] at h; cases h)⟩
 | true =>
   have hck := checked hm
   have HCK := Aside0.mk hck
   obtain ⟨k, hkx⟩ := Int.eq_ofNat_of_zero_le (show 0 ≤ x.f0 by have := hck.lo; omega)
   have HKX := Aside0.mk hkx
   have hk25 : k < 25 := by have := hck.hi; omega
   have hcr := hck.right
   clear hck hkx hcr
   go_upto_region 5 with (first | ((with_reducible refine gate_load (t := 34) rfl ?_); refine load_row rfl rfl Tryz.underlying34 rfl HBX.out rfl HSZ.out ?_) | (go_at_call 17; have hch := c_checkP w0 _ x cs HK.out (below_step HA0.out HB1.out) HE.out HZ.out; rw [hm] at hch; (with_reducible refine hch.mono ?_); clear hch; rintro e w2 ⟨rfl, hb2⟩; have HB2 := Aside0.mk (below_step HB1.out hb2); have HG2 := Aside0.mk (blk_below hb2 HBX.out); clear hb2))
   have n_0 := (blk_cell HG2.out 0).trans hn0
   rw [HKX.out] at n_0
   have hP0 : Pen 127 (w2.alloc (Obj.cells #[.slice none 0 0] 127 (0, 0))) w2.heap.size w2.heap.size (.slice none 0 0) [] := ⟨blk_alloc _, Kd.own_of_R (Kd.R_nil (Kd.int .u8) _ _ _ (fun _ => True)), Nat.le_refl _, by decide⟩
   have hbW := below_alloc (Below.refl w2.heap.size w2) (Obj.cells #[.slice none 0 0] 127 (0, 0))
   have HS0 : Aside0 (Pend 127 (w2.alloc (Obj.cells #[.slice none 0 0] 127 (0, 0))) (w2.alloc (Obj.cells #[.slice none 0 0] 127 (0, 0))) w2.heap.size w2.heap.size (.slice none 0 0) (.slice none 0 0) [] (fun j o => j = gb ∧ o = Obj.cells cs.toArray 34 (0, 0))) := ⟨⟨hP0, Moved.refl _ _, fun _ hs => .inl hs, fun j o h => by obtain ⟨rfl, rfl⟩ := h; exact ⟨blk_below hbW HG2.out, fun hs => by have h1 := hP0.base_le _ hs; have h2 := blk_lt HG2.out; omega⟩⟩⟩
   have HP0 := Aside0.mk hP0
   have HGL := Aside0.mk (blk_lt HG2.out)
   have HBW := Aside0.mk (below_step HB2.out hbW)
   have HAW := Aside0.mk (below_step HA0.out HBW.out)
   have HLE := Aside0.mk (Nat.le_trans HA0.out.size HB2.out.size)
   replace n_0 := pw_cell_below hbW n_0
   have e0 := num_le (k : Int)
   have HNK : isN (k : Int) := ⟨by omega, by omega⟩
   have hfd : ∀ (A : Option Addr) (n c : Nat) (b : Value) (w : World), (Instr.field 102 (.agg #[.slice A n c, b]) 0).run Tryz.prog w = .ok (.slice A n c) w := fun _ _ _ _ _ => rfl
   have hn0' := hn0
   clear hP0 hbW hn0
   go_upto_region 7 with (first | (go_at_call 61; (with_reducible refine (Pend.num HS0.out (k : Int) HNK (by decide)).mono ?_); rintro e w3 ⟨rfl, v3, hs3⟩; have HS3 := Aside0.mk hs3; have HA3 := Aside0.mk (hs3.above HP0.out HAW.out HLE.out); replace n_0 := ((blk_cell (hs3.box gb _ ⟨rfl, rfl⟩).1 0).trans hn0').trans (by rw [HKX.out]); clear hs3) | (go_at_call 41; (with_reducible refine (t_shape k hk25 _ (HE.out.at_ HA3.out)).mono ?_); rintro e w4 ⟨hb4, v, rfl, ho⟩; obtain ⟨mf, hmf⟩ : ∃ mf, mf = (if k = 13 then (.func (.func 90) #[] #[] : Value) else .nilFunc) := ⟨_, rfl⟩; rw [← hmf]; clear hmf; obtain ⟨A, c, rfl⟩ := Kd.R_slice ho; have HO4 := Aside0.mk ho; have HS4 := Aside0.mk (Pend.quiet HS3.out hb4); clear hb4 ho))
   have hwl : (word k).length ≤ 6 := word_len k hk25
   have HOKL : Aside0 (∀ l ∈ word k, OkL l x) := ⟨by have h := HCK.out.ok; rw [HKX.out, Int.toNat_natCast] at h; exact h⟩
   have HFL : Aside0 (∀ i, (((word k).take i).flatMap (fun l => encF l x)).length ≤ 60000000) := ⟨fun i => by
    have h := flat_len (x := x) (w := (word k).take i) (fun l hl => enc_len (HOKL.out l (List.mem_of_mem_take hl)))
    have h2 : ((word k).take i).length ≤ 6 := Nat.le_trans (List.length_take_le' _ _) hwl
    have h3 := Nat.mul_le_mul_right 10000000 h2
    omega⟩
   go_loopw [24] (fun vi wr => ∃ i : Nat, vi = .int .i64 i ∧ i ≤ (word k).length ∧ ∃ v' : Value, Aside0 (Pend 127 (w2.alloc (Obj.cells #[.slice none 0 0] 127 (0, 0))) wr w2.heap.size w2.heap.size (.slice none 0 0) v' (encNum (k : Int) ++ ((word k).take i).flatMap (fun l => encF l x)) (fun j o => j = gb ∧ o = Obj.cells cs.toArray 34 (0, 0))) ∧ Aside0 (kField.R 109 wr w3.heap.size (fun _ => True) (.slice A (word k).length c) (word k))) (fun vi _ => (word k).length - (intOf vi).toNat)
   case atStart => exact ⟨0, rfl, Nat.zero_le _, _, ⟨by simpa using HS4.out⟩, HO4⟩
   case round =>
    clear HS4 HO4
    obtain ⟨i, rfl, hi, v', HS, HO⟩ := hrel
    obtain ⟨wo, rfl⟩ : ∃ wo : World, wo = wr := ⟨_, rfl⟩
    by_cases hlt : i < (word k).length
    · obtain ⟨l, hl⟩ : ∃ l, (word k)[i]? = some l := ⟨_, List.getElem?_eq_getElem hlt⟩
      have HLT := Aside0.mk hl
      obtain ⟨q0, q1, q2, q3, q4, q5, hq⟩ := fCells_open l
      have HQ := Aside0.mk hq
      obtain ⟨ad, rfl, a_0, a_1, a_2, a_3, a_4, a_5⟩ := at_field (Kd.R_reads' HO.out).2.2 i l hl hq
      have hfl := HFL.out i
      clear hl hq
      go_wp2_with (first | ((with_reducible refine gate_store2 (t := 109) rfl ?_); refine store_row (old := #[.int .i64 0, .nilFunc, .nilFunc, .nilFunc, .nilFunc, .nilFunc]) (cs := #[q0, q1, q2, q3, q4, q5]) rfl rfl rfl (blk_alloc _) rfl rfl infoField rfl (q_one HQ.out) ?_; intro w5 hm5 hx5; have HF := Aside0.mk hx5; have HS5 := Aside0.mk (Pend.quiet HS.out (Moved.above_ hm5 (Nat.le_refl _))); have HO5 := Aside0.mk (Kd.R_below HO.out (Moved.above_ hm5 (Nat.le_refl _))); clear hm5 hx5 a_0 a_1 a_2 a_3 a_4 a_5) | ((with_reducible refine gate_load (t := 109) rfl ?_); refine load_row rfl rfl Tryz.underlying109 rfl HF.out rfl infoField ?_) | (go_at_call 62; have hwi := c_write l w0 _ gb w2.heap.size x cs HK.out (HS5.out.above HP0.out HAW.out HLE.out) (HS5.out.box gb _ ⟨rfl, rfl⟩).1 (HOKL.out l (List.mem_of_getElem? HLT.out)) w2.heap.size v' _ HLE.out HGL.out HS5.out.pen (by simp only [List.length_append]; omega); rw [HQ.out] at hwi; (with_reducible refine hwi.mono ?_); clear hwi; rintro e w7 ⟨rfl, hw7⟩; have HO7 := Aside0.mk (R_pens HO5.out HS5.out.pen (by decide) (by decide) hw7.choose_spec.2.1); obtain ⟨v7, hs7⟩ := HS5.out.step hw7; have HS7 := Aside0.mk hs7; clear hw7 hs7))
      go_roundw
      case rel => exact ⟨i + 1, by go_num, by omega, v7, ⟨by rw [List.take_add_one, HLT.out]; simpa using HS7.out⟩, HO7⟩
      case measure => simp [intOf]; omega
    · have htk : (word k).take i = word k := List.take_of_length_le (by omega)
      rw [htk] at HS
      have hcell := HS.out.pen.cell
      clear htk
      go_wp2_with fail
      go_ret2
      refine ⟨HS.out.mov.above HBW.out (fun j hs => Nat.le_trans HB2.out.size (HP0.out.base_le j hs)), (fun h => (by rw [hm] at h; cases h)), fun _ => ⟨v', rfl, ?_⟩⟩
      have hr := Kd.R_lower (d := Kd.int .u8) (ok := fun _ => True) (Kd.R_of_own HS.out.pen.own (fun _ _ => trivial)) HB2.out.size
      unfold encNote
      rw [HKX.out, Int.toNat_natCast]
      exact hr
end Go.Proofs.YtmneemhplffemaaGreatDoorRR.Tab
namespace Go.Proofs.YtmneemhplffemaaGreatDoorRR.Same
open Go.RowKit Go.Proofs.YtmneemhplffemaaGreatDoorRR.Ord Go.Proofs.YtmneemhplffemaaGreatDoorRR.Name Go.Proofs.YtmneemhplffemaaGreatDoorRR.Ext Go.Proofs.YtmneemhplffemaaGreatDoorRR.Wire Go.Proofs.YtmneemhplffemaaGreatDoorRR.Mem Go.Proofs.YtmneemhplffemaaGreatDoorRR.Put Go.Proofs.YtmneemhplffemaaGreatDoorRR.Get Go.Proofs.YtmneemhplffemaaGreatDoorRR.Law Go.Proofs.YtmneemhplffemaaGreatDoorRR.Row Go.Proofs.YtmneemhplffemaaGreatDoorRR.Ki Go.Proofs.YtmneemhplffemaaGreatDoorRR.Chk Go.Proofs.YtmneemhplffemaaGreatDoorRR.May Go.Proofs.YtmneemhplffemaaGreatDoorRR.Tab Go.Proofs.YtmneemhplffemaaGreatDoorRRW.PrintWords


theorem lit_R {α : Type} (d : Kd α) (W : World) (e : Nat) (xs : List α) (inner : List Value) (hrep : Reps (d.M W W.heap.size (fun _ => True)) d.sz xs inner) (hm : xs.length ≤ 9223372036854775807) :
   d.R e (W.alloc (.cells inner.toArray e)) W.heap.size (fun _ => True) (.slice (some ⟨W.heap.size, 0, none⟩) xs.length xs.length) xs := by
 refine ⟨fun _ _ => trivial, inner, ?_, ?_⟩
 · have h2 := World.ownsRow_lit (base := W.heap.size) (e := e) (size := d.sz) W inner.toArray xs.length (Nat.le_refl _) (by simpa [maxLen] using hm) (by simpa using hrep.1)
   simpa using h2
 · refine hrep.imp_ (fun p c hp => d.M_mono (fun k hk => ⟨trivial, fun he => ?_⟩) (Kd.M_below (d.M_bound hp) (below_alloc (Below.refl _ _) _)))
   have h3 : k = W.heap.size := by simpa [Value.ownBlock] using he
   have := hk.2.2.1
   omega
def opA : S78 := ⟨2, ⟨#[47, 97]⟩, ⟨#[120]⟩, -1, 0⟩
def noteA : Note := { zeroNote 2 with f2 := 1, f4 := 2, f9 := [opA] }
def noteB : Note := { zeroNote 22 with f1 := ⟨3, 2, 1⟩ }
theorem okA : mCheck noteA = true := by kernel_rfl
theorem encA : encNote noteA = [2, 1, 2, 1, 2, 2, 47, 97, 1, 120, 0, 0] := by kernel_rfl
theorem okB : mCheck noteB = true := by kernel_rfl
theorem decB : dNote [22, 3, 2, 1] = some noteB := by kernel_rfl
theorem okC : mCheck (zeroNote 1) = false := by kernel_rfl
theorem saneA : Sane noteA := ⟨(fun r hr => absurd hr (by simp [noteA, zeroNote])), by simp [noteA], Nat.zero_le _, Nat.zero_le _, Nat.zero_le _, Nat.zero_le _, Nat.zero_le _⟩
theorem opsA (W : World) : Reps (k78.M W W.heap.size (fun _ => True)) k78.sz [opA] [.int .i64 2, .string ⟨#[47, 97]⟩, .string ⟨#[120]⟩, .int .i64 (-1), .int .i64 0] := by
 refine ⟨rfl, fun j p h => ?_⟩
 match j, h with
 | 0, h =>
   simp only [List.getElem?_cons_zero, Option.some.injEq] at h
   subst h
   exact k78_mkM W W.heap.size _ opA
 | j + 1, h => simp at h
theorem bytesLit (W : World) (xs : List Int) : Reps ((Kd.int .u8).M W W.heap.size (fun _ => True)) (Kd.int .u8).sz xs (xs.map (Value.int .u8)) := by
 refine ⟨by rw [List.length_map]; exact (Nat.mul_one _).symm, fun j p h => ?_⟩
 obtain ⟨hj, hp⟩ := List.getElem?_eq_some_iff.1 h
 have e : (((xs.map (Value.int .u8)).drop (j * 1)).take 1) = [Value.int .u8 p] := by
  rw [Nat.mul_one, List.drop_eq_getElem_cons (by rw [List.length_map]; exact hj), List.take_succ_cons, List.take_zero, List.getElem_map, hp]
 exact e
theorem litA (W : World) : BRow (W.alloc (.cells #[.int .u8 2, .int .u8 1, .int .u8 2, .int .u8 1, .int .u8 2, .int .u8 2, .int .u8 47, .int .u8 97, .int .u8 1, .int .u8 120, .int .u8 0, .int .u8 0] 5)) W.heap.size (.slice (some ⟨W.heap.size, 0, none⟩) 12 12) [2, 1, 2, 1, 2, 2, 47, 97, 1, 120, 0, 0] :=
 lit_R (Kd.int .u8) W 5 [2, 1, 2, 1, 2, 2, 47, 97, 1, 120, 0, 0] _ (bytesLit W _) (by decide)
theorem litB (W : World) : BRow (W.alloc (.cells #[.int .u8 22, .int .u8 3, .int .u8 2, .int .u8 1] 5)) W.heap.size (.slice (some ⟨W.heap.size, 0, none⟩) 4 4) [22, 3, 2, 1] :=
 lit_R (Kd.int .u8) W 5 [22, 3, 2, 1] _ (bytesLit W _) (by decide)
theorem keyA (W : World) : k34.M (W.alloc (.cells #[.int .i64 2, .string ⟨#[47, 97]⟩, .string ⟨#[120]⟩, .int .i64 (-1), .int .i64 0] 78)) W.heap.size (fun _ => True) noteA [.int .i64 2, .int .i64 0, .int .i64 0, .int .i64 0, .int .i64 1, .int .i64 0, .int .i64 2, .int .i64 0, .int .i64 0, .int .i64 0, .int .i64 0, .slice (some ⟨W.heap.size, 0, none⟩) 1 1, .slice none 0 0, .int .i64 0, .int .i64 0, .int .i64 0, .slice none 0 0, .slice none 0 0, .slice none 0 0, .slice none 0 0, .string ⟨#[]⟩] :=
 k34_mkM _ _ _ noteA (Kd.R_mono (lit_R k78 W 78 [opA] _ (opsA W) (by decide)) (fun _ _ => trivial)) (Kd.R_nil _ _ _ _ _) (Kd.R_nil _ _ _ _ _) (Kd.R_nil _ _ _ _ _) (Kd.R_nil _ _ _ _ _) (Kd.R_nil _ _ _ _ _)
set_option maxRecDepth 100000 in
set_option maxHeartbeats 8000000 in
theorem c_begins (W : World) (HE : EnvN W) : Calls Tryz.prog 15 #[] W fun e W' => e = .returned (.bool true) ∧ Below W.heap.size W W' := by
 have HE := Aside0.mk HE
 have HKA := Aside0.mk (keyA W)
 go_enter Tryz.func15, Tryz.ntmps15
 have HMA := Aside0.mk okA
 have hbA := below_alloc (Below.refl W.heap.size W) (Obj.cells #[.int .i64 2, .string ⟨#[47, 97]⟩, .string ⟨#[120]⟩, .int .i64 (-1), .int .i64 0] 78 (0, 0))
 have HBA := Aside0.mk hbA
 have hea := c_encodeP _ _ noteA _ (k34.K_of_M HKA.out) (Below.refl _ _) (HE.out.at_ hbA) saneA
 have HEA := Aside0.mk hea
 clear hbA hea
 go_upto_region 2 with (go_at_call 21; (with_reducible refine HEA.out.mono ?_); rintro e w2 ⟨hb2, _, hok⟩; obtain ⟨va, rfl, hva⟩ := hok okA; rw [encA] at hva; obtain ⟨A, c, hea⟩ := Kd.R_slice hva; rw [show ([2, 1, 2, 1, 2, 2, 47, 97, 1, 120, 0, 0] : List Int).length = 12 from rfl] at hea; subst hea; have HVA := Aside0.mk hva; have HB2 := Aside0.mk (below_step HBA.out hb2); clear hok hb2 hva)
 clear HEA HKA HBA HMA
 have hb3 := below_alloc (Below.refl w2.heap.size w2) (Obj.cells #[.int .u8 22, .int .u8 3, .int .u8 2, .int .u8 1] 5 (0, 0))
 have HB3 := Aside0.mk (below_step HB2.out hb3)
 have HV3 := Aside0.mk (Kd.R_below HVA.out hb3)
 have hdd : Get.Data (w2.alloc (Obj.cells #[.int .u8 22, .int .u8 3, .int .u8 2, .int .u8 1] 5 (0, 0))) (some ⟨w2.heap.size, 0, none⟩) 4 [22, 3, 2, 1] := ⟨(Kd.R_reads' (litB w2)).2.2, (by intro b hb; simp at hb; omega), by decide, by decide⟩
 have hed := c_decodeP _ _ _ 4 [22, 3, 2, 1] hdd (Below.refl _ _) (HE.out.at_ HB3.out)
 rw [show ([22, 3, 2, 1] : List Int).length = 4 from rfl] at hed
 have HED := Aside0.mk hed
 clear hb3 hdd hed
 go_upto_region 3 with (first | (go_at_call 24; (with_reducible refine HED.out.mono ?_); rintro e w4 ⟨hb4, _, hok, _⟩; obtain ⟨cs, hM, rfl⟩ := hok (by decide) noteB decB okB; have HM4 := Aside0.mk hM; have HV4 := Aside0.mk (Kd.R_below HV3.out hb4); have HB4 := Aside0.mk (below_step HB3.out hb4); have HK4 := Aside0.mk (k34.K_of_M hM); have HSZ := Aside0.mk (cs_size HK4.out); clear hok hb4 hM) | ((with_reducible refine gate_store2 (t := 34) rfl ?_); refine store_row (old := zeroCells.toArray) (cs := cs.toArray) rfl rfl rfl (Mem.blk_alloc _) rfl rfl HSZ.out (note_size HK4.out) (note_one HK4.out) ?_; intro w5 hm5 hx5; have HX5 := Aside0.mk hx5; have hb5 := Moved.above_ hm5 (Nat.le_refl _); have HV5 := Aside0.mk (Kd.R_below HV4.out hb5); have HB5 := Aside0.mk (below_step HB4.out hb5); clear hm5 hx5 hb5))
 have hv0 : w5.cell? ⟨w4.heap.size, 0, none⟩ = some (.int .i64 22) ∧ w5.cell? ⟨w4.heap.size, 1, none⟩ = some (.int .i64 3) ∧ w5.cell? ⟨w4.heap.size, 2, none⟩ = some (.int .i64 2) ∧ w5.cell? ⟨w4.heap.size, 3, none⟩ = some (.int .i64 1) := by
  obtain ⟨v11, v12, v16, v17, v18, v19, rfl, _⟩ := k34_openM HM4.out
  exact ⟨blk_cell HX5.out 0, blk_cell HX5.out 1, blk_cell HX5.out 2, blk_cell HX5.out 3⟩
 have HV0 := Aside0.mk hv0
 have hee := c_encodeP w5 w5 (zeroNote 1) [.int .i64 1, .int .i64 0, .int .i64 0, .int .i64 0, .int .i64 0, .int .i64 0, .int .i64 0, .int .i64 0, .int .i64 0, .int .i64 0, .int .i64 0, .slice none 0 0, .slice none 0 0, .int .i64 0, .int .i64 0, .int .i64 0, .slice none 0 0, .slice none 0 0, .slice none 0 0, .slice none 0 0, .string ⟨#[]⟩] (k34.K_of_M (zero_M w5 w5.heap.size 1)) (Below.refl _ _) (HE.out.at_ HB5.out) (sane_zero 1)
 have HEE := Aside0.mk hee
 clear hv0 hee HED HSZ HK4 HM4 HX5 HV4 HB4 HV3 HB3 HB2 HVA
 go_upto_region 4 with (go_loud (go_at_call 21; (with_reducible refine HEE.out.mono ?_); rintro e w6 ⟨hb6, hok, _⟩; obtain rfl := hok okC; have HV6 := Aside0.mk (Kd.R_below HV5.out hb6); have HB6 := Aside0.mk (below_step HB5.out hb6); have hbl := below_alloc (Below.refl w6.heap.size w6) (Obj.cells #[.int .u8 2, .int .u8 1, .int .u8 2, .int .u8 1, .int .u8 2, .int .u8 2, .int .u8 47, .int .u8 97, .int .u8 1, .int .u8 120, .int .u8 0, .int .u8 0] 5 (0, 0)); have HBL := Aside0.mk (below_step HB6.out hbl); have HB67 := Aside0.mk hb6; have HBL7 := Aside0.mk hbl; clear hb6 hbl hok))
 have hn1 := pw_cell_below HBL7.out (pw_cell_below HB67.out HV0.out.1)
 have hn2 := pw_cell_below HBL7.out (pw_cell_below HB67.out HV0.out.2.1)
 have hn3 := pw_cell_below HBL7.out (pw_cell_below HB67.out HV0.out.2.2.1)
 have hn4 := pw_cell_below HBL7.out (pw_cell_below HB67.out HV0.out.2.2.2)
 have hN := Aside0.mk (And.intro hn1 (And.intro hn2 (And.intro hn3 hn4)))
 have hcb : Calls Tryz.prog 23 #[.slice A 12 c, .slice (some ⟨w6.heap.size, 0, none⟩) 12 12] (w6.alloc (Obj.cells #[.int .u8 2, .int .u8 1, .int .u8 2, .int .u8 1, .int .u8 2, .int .u8 2, .int .u8 47, .int .u8 97, .int .u8 1, .int .u8 120, .int .u8 0, .int .u8 0] 5 (0, 0))) fun e W' => e = .returned (.bool (decide (([2, 1, 2, 1, 2, 2, 47, 97, 1, 120, 0, 0] : List Int) = [2, 1, 2, 1, 2, 2, 47, 97, 1, 120, 0, 0]))) ∧ Below _ _ W' :=
  c_bytes _ A _ c 12 [2, 1, 2, 1, 2, 2, 47, 97, 1, 120, 0, 0] [2, 1, 2, 1, 2, 2, 47, 97, 1, 120, 0, 0] (Kd.C_below (Kd.R_reads' HV6.out).2.2 HBL7.out) (Kd.R_reads' (litA w6)).2.2
 rw [decide_eq_true rfl] at hcb
 have HCB := Aside0.mk hcb
 clear hcb HEE HV5 HB5 HV0 HB67 hn1 hn2 hn3 hn4 HBL7 HV6 HB6
 go_wp2_with (go_loud (go_at_call 23; (with_reducible refine HCB.out.mono ?_); rintro e w8 ⟨rfl, hb8⟩; obtain ⟨hm1, hm2, hm3, hm4⟩ := hN.out; have m_1 := pw_cell_below hb8 hm1; have m_2 := pw_cell_below hb8 hm2; have m_3 := pw_cell_below hb8 hm3; have m_4 := pw_cell_below hb8 hm4; have HB8 := Aside0.mk (below_step HBL.out hb8); clear hb8 hm1 hm2 hm3 hm4 hN))
 go_ret
 exact ⟨rfl, HB8.out⟩
end Go.Proofs.YtmneemhplffemaaGreatDoorRR.Same
namespace Go.Proofs.YtmneemhplffemaaGreatDoorRR.Same
open Go.RowKit Go.Proofs.YtmneemhplffemaaGreatDoorRR.Ext Go.Proofs.YtmneemhplffemaaGreatDoorRR.Mem Go.Proofs.YtmneemhplffemaaGreatDoorRR.Row Go.Proofs.YtmneemhplffemaaGreatDoorRR.Ki Go.Proofs.YtmneemhplffemaaGreatDoorRRW.PrintWords


theorem drewn_ {B : Nat} {a w : World} (h : Below B a w) (q : Nat) : Below B a (w.drewN q) := ⟨h.os, h.tape, h.output, h.size, h.block⟩
theorem false_of {b : Bool} {p : Prop} (h : b = true ↔ p) (hn : ¬ p) : b = false := by
 cases b with
 | false => rfl
 | true => exact absurd (h.1 rfl) hn
theorem true_of {b : Bool} {p : Prop} (h : b = true ↔ p) (hp : p) : b = true := h.2 hp
theorem some_bool (p : Prop) : ∃ b : Bool, b = true ↔ p := by
 classical
 exact ⟨decide p, decide_eq_true_iff⟩
theorem str_eq {a b : ByteArray} (h : (a.toList == b.toList) = true) : a = b := by
 have h1 := eq_of_beq h
 rw [ByteArray.toList_eq, ByteArray.toList_eq] at h1
 cases a; cases b
 simp only at h1
 simp_all
theorem neq_agg {t : Nat} {xs ys : Array Value} {b : Bool} (h : ∀ d w, (Op.equalIn (d + 2) t (.agg xs) (.agg ys)).run Tryz.prog w = .ok b w) : ∀ w, (binOp BinOp.neq t (.agg xs) (.agg ys)).run Tryz.prog w = .ok (.bool (!b)) w := by
 intro w
 have h1 := h (Op.maxDepth - 2) w
 rw [show Op.maxDepth - 2 + 2 = Op.maxDepth from rfl] at h1
 simp [binOp, Op.equal, h1, go_sem]
theorem iff_t {p : Prop} (h : p) : (true = true ↔ p) := ⟨fun _ => h, fun _ => rfl⟩
theorem iff_f {p : Prop} (h : ¬ p) : (false = true ↔ p) := ⟨fun k => (by cases k), fun k => absurd k h⟩
theorem row_upto {α : Type} {xs ys : List α} {k : Nat} (h : ∀ j, j < k → xs[j]? = ys[j]?) {x y : α} (hx : xs[k]? = some x) (hy : ys[k]? = some y) (he : x = y) : ∀ j, j < k + 1 → xs[j]? = ys[j]? := by
 intro j hj
 rcases Nat.lt_or_ge j k with h1 | h1
 · exact h j h1
 · obtain rfl : j = k := by omega
   rw [hx, hy, he]
theorem row_all {α : Type} {xs ys : List α} {k : Nat} (h : ∀ j, j < k → xs[j]? = ys[j]?) (hl : xs.length = ys.length) (hk : xs.length ≤ k) : xs = ys := by
 refine List.ext_getElem? (fun j => ?_)
 rcases Nat.lt_or_ge j k with h1 | h1
 · exact h j h1
 · rw [List.getElem?_eq_none (by omega), List.getElem?_eq_none (by omega)]
theorem bool_Op {x y : S78} : (x.f0 == y.f0 && (x.f1.toList == y.f1.toList && (x.f2.toList == y.f2.toList && (x.f3 == y.f3 && (x.f4 == y.f4))))) = true ↔ x = y := by
 constructor
 · intro h
   simp only [Bool.and_eq_true] at h
   obtain ⟨h0, h1, h2, h3, h4⟩ := h
   cases x; cases y
   simp only [S78.mk.injEq]
   exact ⟨eq_of_beq h0, str_eq h1, str_eq h2, eq_of_beq h3, eq_of_beq h4⟩
 · rintro rfl
   simp
theorem neq_Op (x y : S78) {b : Bool} (h : b = true ↔ x = y) : ∀ w, (binOp BinOp.neq 78 (.agg #[.int .i64 x.f0, .string x.f1, .string x.f2, .int .i64 x.f3, .int .i64 x.f4]) (.agg #[.int .i64 y.f0, .string y.f1, .string y.f2, .int .i64 y.f3, .int .i64 y.f4])).run Tryz.prog w = .ok (.bool (!b)) w :=
 neq_agg (fun d w => by
  rw [Eqs.eqOp]
  congr 1
  rw [Bool.eq_iff_iff, h]
  exact bool_Op)
set_option maxRecDepth 100000 in
set_option maxHeartbeats 1000000 in
theorem c_sameOps (w0 W : World) (A B : Option Addr) (c d : Nat) (xs ys : List S78) (hA : k78.C w0 A xs.length xs) (hB : k78.C w0 B ys.length ys) (hb : Below w0.heap.size w0 W) (b : Bool) (h : b = true ↔ xs = ys) :
   Calls Tryz.prog 55 #[.slice A xs.length c, .slice B ys.length d] W fun e W' => e = .returned (.bool b) ∧ Below W.heap.size W W' := by
 have HA := Aside0.mk hA
 have HB := Aside0.mk hB
 have HH := Aside0.mk h
 have H0 := Aside0.mk hb
 have hm : xs.length ≤ 9223372036854775807 := hA.2.1
 have hm2 : ys.length ≤ 9223372036854775807 := hB.2.1
 clear hA hB h hb
 go_enter Tryz.func55, Tryz.ntmps55
 by_cases hl : xs.length = ys.length
 · have HL := Aside0.mk hl
   have h0 : ((xs.length : Int) != (ys.length : Int)) = false := by simp [hl]
   have h0' : ((xs.length : Int) == (ys.length : Int)) = true := by simp [hl]
   clear hl
   go_wp2_with fail
   go_loopw [5] (fun v W1 => ∃ k : Nat, v = .int .i64 k ∧ k ≤ xs.length ∧ Aside0 (∀ j, j < k → xs[j]? = ys[j]?) ∧ Aside0 (Below W.heap.size W W1)) (fun v _ => xs.length - (intOf v).toNat)
   case atStart => exact ⟨0, rfl, Nat.zero_le _, ⟨fun j hj => by omega⟩, ⟨Below.refl _ _⟩⟩
   case round =>
    obtain ⟨k, rfl, hk, HS, HBW⟩ := hrel
    by_cases hlt : k < xs.length
    · have hl2 := HL.out
      obtain ⟨x, hx⟩ : ∃ x, xs[k]? = some x := ⟨_, List.getElem?_eq_getElem hlt⟩
      obtain ⟨y, hy⟩ : ∃ y, ys[k]? = some y := ⟨_, List.getElem?_eq_getElem (by omega)⟩
      have HC := Aside0.mk (below_step H0.out HBW.out)
      have hata := at_T78 HA.out (k : Int) (by omega) (by omega)
      rw [show rd_T78 xs (k : Int) = x by unfold rd_T78; rw [Int.toNat_natCast, List.getD_eq_getElem?_getD, hx]; rfl, Int.toNat_natCast] at hata
      obtain ⟨ad, rfl, a_0, a_1, a_2, a_3, a_4⟩ := hata
      replace a_0 := pw_cell_below HC.out a_0
      replace a_1 := pw_cell_below HC.out a_1
      replace a_2 := pw_cell_below HC.out a_2
      replace a_3 := pw_cell_below HC.out a_3
      replace a_4 := pw_cell_below HC.out a_4
      have hatb := at_T78 HB.out (k : Int) (by omega) (by omega)
      rw [show rd_T78 ys (k : Int) = y by unfold rd_T78; rw [Int.toNat_natCast, List.getD_eq_getElem?_getD, hy]; rfl, Int.toNat_natCast] at hatb
      obtain ⟨bd, rfl, b_0, b_1, b_2, b_3, b_4⟩ := hatb
      replace b_0 := pw_cell_below HC.out b_0
      replace b_1 := pw_cell_below HC.out b_1
      replace b_2 := pw_cell_below HC.out b_2
      replace b_3 := pw_cell_below HC.out b_3
      replace b_4 := pw_cell_below HC.out b_4
      have HX := Aside0.mk hx
      have HY := Aside0.mk hy
      have hky : k < ys.length := by omega
      clear hx hy hl2
      obtain ⟨q, hq⟩ := some_bool (x = y)
      cases q with
      | true =>
        have hne := neq_Op x y hq
        have HE := Aside0.mk (hq.1 rfl)
        clear hq
        go_wp2_with (go_quiet (fail))
        go_roundw
        case rel => exact ⟨k + 1, by go_num, by omega, ⟨row_upto HS.out HX.out HY.out HE.out⟩, ⟨drewn_ HBW.out nq⟩⟩
        case measure => simp [intOf]; omega
      | false =>
        have hne := neq_Op x y hq
        have HE := Aside0.mk (false_of HH.out (fun he => by subst he; have h3 := HX.out.symm.trans HY.out; have h4 := hq.2 (Option.some.inj h3); cases h4))
        clear hq
        go_wp2_with (go_quiet (fail))
        go_ret
        exact ⟨by rw [HE.out]; rfl, drewn_ HBW.out nq⟩
    · go_wp2_with fail
      go_ret
      exact ⟨by rw [true_of HH.out (row_all HS.out HL.out (by omega))]; rfl, HBW.out⟩
 · have HE := Aside0.mk (false_of HH.out (fun he => hl (by rw [he])))
   have h0 : ((xs.length : Int) != (ys.length : Int)) = true := by simp; omega
   have h0' : ((xs.length : Int) == (ys.length : Int)) = false := by simp; omega
   go_wp2_with fail
   go_ret
   exact ⟨by rw [HE.out]; rfl, Below.refl _ _⟩
end Go.Proofs.YtmneemhplffemaaGreatDoorRR.Same
namespace Go.Proofs.YtmneemhplffemaaGreatDoorRR.Same
open Go.RowKit Go.Proofs.YtmneemhplffemaaGreatDoorRR.Ext Go.Proofs.YtmneemhplffemaaGreatDoorRR.Mem Go.Proofs.YtmneemhplffemaaGreatDoorRR.Row Go.Proofs.YtmneemhplffemaaGreatDoorRR.Ki Go.Proofs.YtmneemhplffemaaGreatDoorRRW.PrintWords


theorem ext_Entry {x y : S55} (h0 : x.f0 = y.f0) (h1 : x.f1 = y.f1) (h2 : x.f2 = y.f2) (h3 : x.f3 = y.f3) (h4 : x.f4 = y.f4) (h5 : x.f5 = y.f5) : x = y := by
 cases x; cases y
 simp_all
set_option maxRecDepth 100000 in
set_option maxHeartbeats 8000000 in
theorem c_sameEntry (w0 W : World) (x y : S55) (cs ds : List Value) (hx : k55.K w0 x cs) (hy : k55.K w0 y ds) (hb : Below w0.heap.size w0 W) (b : Bool) (h : b = true ↔ x = y) :
   Calls Tryz.prog 30 #[.agg cs.toArray, .agg ds.toArray] W fun e W' => e = .returned (.bool b) ∧ Below W.heap.size W W' := by
 have HH := Aside0.mk h
 have H0 := Aside0.mk hb
 obtain ⟨A5, c5, rfl, l5, g5⟩ := k55_open hx
 obtain ⟨B5, d5, rfl, m5, e5⟩ := k55_open hy
 have GA5 := Aside0.mk g5
 have GB5 := Aside0.mk e5
 have hm5 : x.f5.length ≤ 9223372036854775807 := g5.2.1
 have hn5 : y.f5.length ≤ 9223372036854775807 := e5.2.1
 clear g5 e5
 clear h hb
 go_enter Tryz.func30, Tryz.ntmps30
 go_upto_region 1 with (first | ((with_reducible refine gate_box (t := 55) rfl ?_); refine box_row rfl rfl rfl ?_; intro g2 hg2 w2 hx2 hb2; have HX2 := Aside0.mk hx2; replace HX1 := Aside0.mk (blk_below hb2 HX1.out); have HW := Aside0.mk (below_step HB1.out hb2); have HA := Aside0.mk (below_step H0.out HW.out); have p_0 : w2.cell? ⟨g1, 0, none⟩ = some (.int .i64 x.f0) := blk_cell HX1.out 0; have p_1 : w2.cell? ⟨g1, 1, none⟩ = some (.int .i64 x.f1) := blk_cell HX1.out 1; have p_2 : w2.cell? ⟨g1, 2, none⟩ = some (.int .i64 x.f2) := blk_cell HX1.out 2; have p_3 : w2.cell? ⟨g1, 3, none⟩ = some (.int .i64 x.f3) := blk_cell HX1.out 3; have p_4 : w2.cell? ⟨g1, 4, none⟩ = some (.int .i64 x.f4) := blk_cell HX1.out 4; have p_5 : w2.cell? ⟨g1, 5, none⟩ = some (.slice A5 x.f5.length c5) := blk_cell HX1.out 5; have q_0 : w2.cell? ⟨g2, 0, none⟩ = some (.int .i64 y.f0) := blk_cell HX2.out 0; have q_1 : w2.cell? ⟨g2, 1, none⟩ = some (.int .i64 y.f1) := blk_cell HX2.out 1; have q_2 : w2.cell? ⟨g2, 2, none⟩ = some (.int .i64 y.f2) := blk_cell HX2.out 2; have q_3 : w2.cell? ⟨g2, 3, none⟩ = some (.int .i64 y.f3) := blk_cell HX2.out 3; have q_4 : w2.cell? ⟨g2, 4, none⟩ = some (.int .i64 y.f4) := blk_cell HX2.out 4; have q_5 : w2.cell? ⟨g2, 5, none⟩ = some (.slice B5 y.f5.length d5) := blk_cell HX2.out 5; clear hx2 hb2 hg2) | ((with_reducible refine gate_box (t := 55) rfl ?_); refine box_row rfl rfl rfl ?_; intro g1 hg1 w1 hx1 hb1; have HX1 := Aside0.mk hx1; have HB1 := Aside0.mk hb1; clear hx1 hb1 hg1))
 cases z1 : (x.f0 == y.f0) with
 | false =>
   have z1n : (x.f0 != y.f0) = true := by rw [bne, z1]; rfl
   go_wp2_with fail
   go_ret
   exact ⟨by rw [false_of HH.out (fun he => by subst he; simp at z1)]; rfl, HW.out⟩
 | true =>
   have z1n : (x.f0 != y.f0) = false := by rw [bne, z1]; rfl
   cases z2 : (x.f1 == y.f1) with
   | false =>
     have z2n : (x.f1 != y.f1) = true := by rw [bne, z2]; rfl
     go_wp2_with fail
     go_ret
     exact ⟨by rw [false_of HH.out (fun he => by subst he; simp at z2)]; rfl, HW.out⟩
   | true =>
     have z2n : (x.f1 != y.f1) = false := by rw [bne, z2]; rfl
     cases z3 : (x.f2 == y.f2) with
     | false =>
       have z3n : (x.f2 != y.f2) = true := by rw [bne, z3]; rfl
       go_wp2_with fail
       go_ret
       exact ⟨by rw [false_of HH.out (fun he => by subst he; simp at z3)]; rfl, HW.out⟩
     | true =>
       have z3n : (x.f2 != y.f2) = false := by rw [bne, z3]; rfl
       cases z4 : (x.f3 == y.f3) with
       | false =>
         have z4n : (x.f3 != y.f3) = true := by rw [bne, z4]; rfl
         go_wp2_with fail
         go_ret
         exact ⟨by rw [false_of HH.out (fun he => by subst he; simp at z4)]; rfl, HW.out⟩
       | true =>
         have z4n : (x.f3 != y.f3) = false := by rw [bne, z4]; rfl
         cases z5 : (x.f4 == y.f4) with
         | false =>
           have z5n : (x.f4 != y.f4) = true := by rw [bne, z5]; rfl
           go_wp2_with fail
           go_ret
           exact ⟨by rw [false_of HH.out (fun he => by subst he; simp at z5)]; rfl, HW.out⟩
         | true =>
           have z5n : (x.f4 != y.f4) = false := by rw [bne, z5]; rfl
           obtain ⟨z6, z6q⟩ := some_bool (x.f5 = y.f5)
           cases z6 with
           | false =>
             have z6m : ¬ (x.f5 = y.f5) := fun he => by have h4 := z6q.2 he; cases h4
             have z6A := Aside0.mk z6m
             clear z6q
             go_wp2_with (go_at_call 55; (with_reducible refine (c_sameOps w0 _ _ _ _ _ _ _ GA5.out GB5.out HA.out false (iff_f z6A.out)).mono ?_); rintro e w3 ⟨rfl, hb3⟩; replace HX1 := Aside0.mk (blk_below hb3 HX1.out); replace HX2 := Aside0.mk (blk_below hb3 HX2.out); replace HW := Aside0.mk (below_step HW.out hb3); replace HA := Aside0.mk (below_step HA.out hb3); replace p_0 := pw_cell_below hb3 p_0; replace q_0 := pw_cell_below hb3 q_0; replace p_1 := pw_cell_below hb3 p_1; replace q_1 := pw_cell_below hb3 q_1; replace p_2 := pw_cell_below hb3 p_2; replace q_2 := pw_cell_below hb3 q_2; replace p_3 := pw_cell_below hb3 p_3; replace q_3 := pw_cell_below hb3 q_3; replace p_4 := pw_cell_below hb3 p_4; replace q_4 := pw_cell_below hb3 q_4; replace p_5 := pw_cell_below hb3 p_5; replace q_5 := pw_cell_below hb3 q_5; clear hb3)
             go_ret
             exact ⟨by rw [false_of HH.out (fun he => z6A.out (by rw [he]))]; rfl, HW.out⟩
           | true =>
             have z6m := Aside0.mk (z6q.1 rfl)
             clear z6q
             go_wp2_with (go_at_call 55; (with_reducible refine (c_sameOps w0 _ _ _ _ _ _ _ GA5.out GB5.out HA.out true (iff_t z6m.out)).mono ?_); rintro e w3 ⟨rfl, hb3⟩; replace HX1 := Aside0.mk (blk_below hb3 HX1.out); replace HX2 := Aside0.mk (blk_below hb3 HX2.out); replace HW := Aside0.mk (below_step HW.out hb3); replace HA := Aside0.mk (below_step HA.out hb3); replace p_0 := pw_cell_below hb3 p_0; replace q_0 := pw_cell_below hb3 q_0; replace p_1 := pw_cell_below hb3 p_1; replace q_1 := pw_cell_below hb3 q_1; replace p_2 := pw_cell_below hb3 p_2; replace q_2 := pw_cell_below hb3 q_2; replace p_3 := pw_cell_below hb3 p_3; replace q_3 := pw_cell_below hb3 q_3; replace p_4 := pw_cell_below hb3 p_4; replace q_4 := pw_cell_below hb3 q_4; replace p_5 := pw_cell_below hb3 p_5; replace q_5 := pw_cell_below hb3 q_5; clear hb3)
             go_ret
             exact ⟨by rw [true_of HH.out (ext_Entry (eq_of_beq z1) (eq_of_beq z2) (eq_of_beq z3) (eq_of_beq z4) (eq_of_beq z5) z6m.out)]; rfl, HW.out⟩
end Go.Proofs.YtmneemhplffemaaGreatDoorRR.Same
namespace Go.Proofs.YtmneemhplffemaaGreatDoorRR.Ent
open Go.RowKit Go.Proofs.YtmneemhplffemaaGreatDoorRR.Ext Go.Proofs.YtmneemhplffemaaGreatDoorRR.Wire Go.Proofs.YtmneemhplffemaaGreatDoorRR.Mem Go.Proofs.YtmneemhplffemaaGreatDoorRR.Row Go.Proofs.YtmneemhplffemaaGreatDoorRR.Ki Go.Proofs.YtmneemhplffemaaGreatDoorRR.Put Go.Proofs.YtmneemhplffemaaGreatDoorRR.Get Go.Proofs.YtmneemhplffemaaGreatDoorRR.Law Go.Proofs.YtmneemhplffemaaGreatDoorRR.Chk Go.Proofs.YtmneemhplffemaaGreatDoorRR.May Go.Proofs.YtmneemhplffemaaGreatDoorRR.Tab Go.Proofs.YtmneemhplffemaaGreatDoorRR.Eye Go.Proofs.YtmneemhplffemaaGreatDoorRR.Arg Go.Proofs.YtmneemhplffemaaGreatDoorRR.Same Go.Proofs.YtmneemhplffemaaGreatDoorRR.Cop Go.Proofs.YtmneemhplffemaaGreatDoorRRW.PrintWords


def zEnt : S55 := ⟨0, 0, 0, 0, 0, []⟩
theorem zEnt_K (w : World) : k55.K w zEnt zeroE := k55_mk w zEnt (A5 := none) (c5 := 0) (Nat.le_refl _) (Kd.C_nil _ _)
theorem ent_common {xs : List Int} (hB : Bytes xs) : ∃ (y : S55) (code : Int), (∀ W W' e, EntOk W W' xs e → ∃ cs : List Value, k55.K W' y cs ∧ e = .returned (.tuple #[.agg cs.toArray, .int .i64 code])) ∧ ∀ W' e, EntR W' xs e → ∃ cs : List Value, k55.K W' y cs ∧ e = .returned (.tuple #[.agg cs.toArray, .int .i64 code]) := by
 by_cases hl : 262144 < xs.length
 · exact ⟨zEnt, 2, fun W W' e h => ⟨zeroE, zEnt_K _, h.1 hl⟩, fun W' e h => ⟨zeroE, zEnt_K _, h.1 hl⟩⟩
 · have hl' : xs.length ≤ 262144 := by omega
   by_cases hy : ∃ y, mEntry y = true ∧ encEntry y = xs
   · obtain ⟨y, hm, rfl⟩ := hy
     refine ⟨y, 0, fun W W' e h => ?_, fun W' e h => h.2.1 hl' y hm rfl⟩
     obtain ⟨cs, hM, he⟩ := h.2.1 hl' y (dEnt_of hm) hm
     exact ⟨cs, k55.K_of_M hM, he⟩
   · refine ⟨zEnt, 30, fun W W' e h => ⟨zeroE, zEnt_K _, h.2.2 hl' fun y hd => ?_⟩, fun W' e h => ⟨zeroE, zEnt_K _, h.2.2 hl' fun y hm he => hy ⟨y, hm, he⟩⟩⟩
     cases hm : mEntry y with
     | false => rfl
     | true => exact absurd ⟨y, hm, dEnt_says hB hd⟩ hy
theorem take_mk {α : Type} (xs : List α) (y : α) : (xs ++ [y]).take xs.length = xs := by simp
theorem bytes_KM {w W : World} {base : Nat} {ok : Nat → Prop} (x : Int) (cs : List Value) (h : (Kd.int .u8).K w x cs) : (Kd.int .u8).M W base ok x cs := h
set_option maxRecDepth 100000 in
set_option maxHeartbeats 8000000 in
theorem c_entriesW (W : World) (x : S55) (cs : List Value) (A : Option Addr) (c : Nat) (xs : List Int) (hK : k55.K W x cs) (hO : OkEntry x) (hC : (Kd.int .u8).C W A xs.length xs) (hB : Bytes xs) (hc : xs.length ≤ c) (HE : EnvN W) :
   Calls Tryz.prog 10 #[.agg cs.toArray, .slice A xs.length c] W fun e W' => e = .returned (.bool true) ∧ Below W.heap.size W W' := by
 have HE := Aside0.mk HE
 have HKW := Aside0.mk hK
 have HO5 := Aside0.mk (show x.f5.length * 56 ≤ 140737488351232 from hO.2.2.2.2.2.1)
 have HC := Aside0.mk hC
 have HY := Aside0.mk hB
 have HCC := Aside0.mk hc
 have hm : xs.length ≤ 9223372036854775807 := hC.2.1
 obtain ⟨A5, c5, rfl, l5, g5⟩ := k55_open hK
 have G5 := Aside0.mk g5
 have hm5 : x.f5.length ≤ 9223372036854775807 := g5.2.1
 have hb1 := below_alloc (Below.refl W.heap.size W) (Obj.cells #[.int .i64 x.f0, .int .i64 x.f1, .int .i64 x.f2, .int .i64 x.f3, .int .i64 x.f4, .slice A5 x.f5.length c5] 55 (0, 0))
 have hx1 : (W.alloc (Obj.cells #[.int .i64 x.f0, .int .i64 x.f1, .int .i64 x.f2, .int .i64 x.f3, .int .i64 x.f4, .slice A5 x.f5.length c5] 55 (0, 0))).heap[W.heap.size]? = some _ := Mem.blk_alloc _
 obtain ⟨w1, hw1⟩ : ∃ w1, W.alloc (Obj.cells #[.int .i64 x.f0, .int .i64 x.f1, .int .i64 x.f2, .int .i64 x.f3, .int .i64 x.f4, .slice A5 x.f5.length c5] 55 (0, 0)) = w1 := ⟨_, rfl⟩
 rw [hw1] at hb1 hx1
 have HW1 := Aside0.mk hw1
 have HX1 := Aside0.mk hx1
 have HB1 := Aside0.mk hb1
 clear hK hO hC hB hc g5 l5 hb1 hx1 hw1
 go_enter Tryz.func10, Tryz.ntmps10
 go_upto_region 1 with fail
 rw [HW1.out]
 clear HW1
 go_upto_region 4 with (go_at_call 15; (with_reducible refine (c_begins _ (HE.out.at_ HB1.out)).mono ?_); rintro e w2 ⟨rfl, hb2⟩; have HX2 := Aside0.mk (blk_below hb2 HX1.out); have HB2 := Aside0.mk (below_step HB1.out hb2); clear hb2)
 cases h1 : decide ((300000 : Int) < xs.length) with
 | true =>
   have h1_0 : decide ((xs.length : Int) > 300000) = true := h1
   go_wp2_with fail
   go_ret
   exact ⟨rfl, HB2.out⟩
 | false =>
   have h1_0 : decide ((xs.length : Int) > 300000) = false := h1
   have hlen := of_decide_eq_false h1
   have HLEN := Aside0.mk (show xs.length ≤ 1000000000 by omega)
   have HDT := Aside0.mk (Get.Data.mk HC.out HY.out HCC.out HLEN.out)
   have n_0 := blk_cell HX2.out 0
   have n_1 := blk_cell HX2.out 1
   have n_2 := blk_cell HX2.out 2
   have n_3 := blk_cell HX2.out 3
   have n_4 := blk_cell HX2.out 4
   have n_5 := blk_cell HX2.out 5
   simp at n_0 n_1 n_2 n_3 n_4 n_5
   clear hlen
   go_upto_region 7 with fail
   have hb3 := below_alloc (Below.refl w2.heap.size w2) (Obj.cells #[.int .i64 x.f0, .int .i64 x.f1, .int .i64 x.f2, .int .i64 x.f3, .int .i64 x.f4, .slice A5 x.f5.length c5] 55 (0, 0))
   have hy3 : (w2.alloc (Obj.cells #[.int .i64 x.f0, .int .i64 x.f1, .int .i64 x.f2, .int .i64 x.f3, .int .i64 x.f4, .slice A5 x.f5.length c5] 55 (0, 0))).heap[w2.heap.size]? = some _ := Mem.blk_alloc _
   generalize w2.alloc (Obj.cells #[.int .i64 x.f0, .int .i64 x.f1, .int .i64 x.f2, .int .i64 x.f3, .int .i64 x.f4, .slice A5 x.f5.length c5] 55 (0, 0)) = w3 at hb3 hy3 ⊢
   have HX3 := Aside0.mk (blk_below hb3 HX2.out)
   have HY3 := Aside0.mk hy3
   have HB3 := Aside0.mk (below_step HB2.out hb3)
   have hne3 : W.heap.size ≠ w2.heap.size := Nat.ne_of_lt (blk_lt HX2.out)
   replace n_5 := pw_cell_below hb3 n_5
   clear hb3 hy3 n_0 n_1 n_2 n_3 n_4
   go_upto_region 8 with (go_at_call 27; (with_reducible refine (c_roomOps W w3 A5 c5 x.f5 G5.out HO5.out HB3.out).mono ?_); rintro e w4 ⟨A6, c6, rfl, hb4, ho4⟩; have HX4 := Aside0.mk (blk_below hb4 HX3.out); have HY4 := Aside0.mk (blk_below hb4 HY3.out); have HB4 := Aside0.mk (below_step HB3.out hb4); have HO4 := Aside0.mk ho4; have hq4 := blk_cell HX4.out 5; have hf4 := blk_frozen HX4.out 5; clear ho4 hb4 n_5)
   have hx5 : (w4.setCell ⟨W.heap.size, 5, none⟩ (Value.slice A6 x.f5.length c6)).heap[W.heap.size]? = some (.cells #[.int .i64 x.f0, .int .i64 x.f1, .int .i64 x.f2, .int .i64 x.f3, .int .i64 x.f4, .slice A6 x.f5.length c6] 55 (0, 0)) := by simpa using blk_set HX4.out 5 (Value.slice A6 x.f5.length c6)
   have hy5 := blk_far HY4.out (p := ⟨W.heap.size, 5, none⟩) hne3.symm (Value.slice A6 x.f5.length c6)
   have ho5 := Kd.R_set HO4.out HX4.out (by decide) 5 (Value.slice A6 x.f5.length c6)
   have hb5 := Below.setCell (p := ⟨W.heap.size, 5, none⟩) HB4.out (Nat.le_refl _) (Value.slice A6 x.f5.length c6)
   generalize w4.setCell ⟨W.heap.size, 5, none⟩ (Value.slice A6 x.f5.length c6) = w5 at hx5 hy5 ho5 hb5 ⊢
   have HX5 := Aside0.mk hx5
   have HY5 := Aside0.mk hy5
   have hrd := Kd.R_reads' ho5
   have HMK := Aside0.mk hrd.2.2
   have HC6 := Aside0.mk hrd.2.1
   have HB5 := Aside0.mk hb5
   have HKE5 := Aside0.mk (k55_mk w5 x (A5 := A6) (c5 := c6) (by have := hrd.2.1; omega) (by have h := Kd.C_take (m := x.f5.length) hrd.2.2 (by simp); rw [take_mk] at h; exact h))
   have HKO5 := Aside0.mk (k55.K_below HB5.out HKW.out)
   clear hx5 hy5 ho5 hb5 hrd hq4 hf4
   go_upto_region 10 with ((with_reducible refine gate_builtin (b := .append) (xs := #[.tmp 29, .tmp 30]) rfl ?_); at_builtin; refine Kd.R_append_rows (Kd.int .u8) (Rr := (Kd.int .u8).K W) (w0 := w5) w5.heap.size rfl (.tmp 29) (.tmp 30) 41 5 _ 1 rfl Tryz.underlying41 info5 rfl (by decide) (by decide) _ [] xs A xs.length c (fun _ => True) (fun _ => False) rfl rfl (Kd.R_nil _ _ _ _ _) (row_at HC.out _ HB5.out) (fun x cs h => bytes_KM x cs h) (fun _ h => h.elim) (fun _ _ => trivial) (Below.refl _ _) (Nat.le_refl _) (by have := HLEN.out; simp only [List.length_nil]; omega) ?_; intro v6 w6 ho6 hb6 hg6 hat6; have ho7 : (Kd.int .u8).R 5 w6 w5.heap.size (fun _ => True) v6 xs := ho6; obtain ⟨T, d, rfl⟩ := Kd.R_slice ho7; have hrd := Kd.R_reads' ho7; have HT6 := Aside0.mk hrd.2.2; have HTC := Aside0.mk hrd.2.1; have HX6 := Aside0.mk (blk_below hb6 HX5.out); have HY6 := Aside0.mk (blk_below hb6 HY5.out); have HMK6 := Aside0.mk (Kd.C_below HMK.out hb6); have HKE6 := Aside0.mk (k55.K_below hb6 HKE5.out); have HKO6 := Aside0.mk (k55.K_below hb6 HKO5.out); have HB6 := Aside0.mk (below_step HB5.out hb6); clear ho6 hb6 hg6 hat6 ho7 hrd)
   obtain ⟨y, code, hc1, hc2⟩ := ent_common HY.out
   have HY0 := HY
   have HCM1 := Aside0.mk hc1
   have HCM2 := Aside0.mk hc2
   have hcode : (code == code) = true := by simp
   clear hc1 hc2
   obtain ⟨b, hmx⟩ : ∃ b, mEntry x = b := ⟨_, rfl⟩
   have HMX := Aside0.mk hmx
   clear hmx
   cases b with
   | false =>
     go_upto_region 12 with (first | ((with_reducible refine gate_load (t := 55) rfl ?_); (try refine gate_guard (by rfl) ?_); first | refine load_row rfl rfl Tryz.underlying55 rfl HX6.out rfl (size_of infoEntry) ?_ | refine load_row rfl rfl Tryz.underlying55 rfl HY7.out rfl (size_of infoEntry) ?_) | (go_at_call 28; (with_reducible refine (c_encEntry w6 w6 x _ HKE6.out (Below.refl _ _)).mono ?_); rintro e w7 ⟨hb, hno, _⟩; obtain rfl := hno HMX.out; clear hno; have HX7 := Aside0.mk (blk_below hb HX6.out); have HY7 := Aside0.mk (blk_below hb HY6.out); have HMK7 := Aside0.mk (Kd.C_below HMK6.out hb); have HKE7 := Aside0.mk (k55.K_below hb HKE6.out); have HKO7 := Aside0.mk (k55.K_below hb HKO6.out); have HT7 := Aside0.mk (Kd.C_below HT6.out hb); have HB7 := Aside0.mk (below_step HB6.out hb); clear hb) | (go_at_call 29; (with_reducible refine (r_encEntry w7 w7 x _ HKO7.out (Below.refl _ _)).mono ?_); rintro e w8 ⟨hb, hno, _⟩; obtain rfl := hno HMX.out; clear hno; have HX8 := Aside0.mk (blk_below hb HX7.out); have HY8 := Aside0.mk (blk_below hb HY7.out); have HMK8 := Aside0.mk (Kd.C_below HMK7.out hb); have HKE8 := Aside0.mk (k55.K_below hb HKE7.out); have HKO8 := Aside0.mk (k55.K_below hb HKO7.out); have HT8 := Aside0.mk (Kd.C_below HT7.out hb); have HB8 := Aside0.mk (below_step HB7.out hb); clear hb))
     skip
     go_upto_region 18 with (first | ((with_reducible refine gate_load (t := 55) rfl ?_); (try refine gate_guard (by rfl) ?_); first | refine load_row rfl rfl Tryz.underlying55 rfl HX9.out rfl (size_of infoEntry) ?_ | refine load_row rfl rfl Tryz.underlying55 rfl HY9.out rfl (size_of infoEntry) ?_) | (go_at_call 23; (refine (c_bytes w8 none none 0 0 [] [] (Kd.C_nil _ _) (Kd.C_nil _ _)).mono ?_); rintro e w9 ⟨he_, hb⟩; rw [decide_eq_true rfl] at he_; subst he_; have HX9 := Aside0.mk (blk_below hb HX8.out); have HY9 := Aside0.mk (blk_below hb HY8.out); have HMK9 := Aside0.mk (Kd.C_below HMK8.out hb); have HKE9 := Aside0.mk (k55.K_below hb HKE8.out); have HKO9 := Aside0.mk (k55.K_below hb HKO8.out); have HT9 := Aside0.mk (Kd.C_below HT8.out hb); have HB9 := Aside0.mk (below_step HB8.out hb); clear hb) | (go_at_call 30; (refine (c_sameEntry w9 w9 x x _ _ HKE9.out HKO9.out (Below.refl _ _) true (iff_t rfl)).mono ?_); rintro e w10 ⟨rfl, hb⟩; have HX10 := Aside0.mk (blk_below hb HX9.out); have HY10 := Aside0.mk (blk_below hb HY9.out); have HMK10 := Aside0.mk (Kd.C_below HMK9.out hb); have HKE10 := Aside0.mk (k55.K_below hb HKE9.out); have HKO10 := Aside0.mk (k55.K_below hb HKO9.out); have HT10 := Aside0.mk (Kd.C_below HT9.out hb); have HB10 := Aside0.mk (below_step HB9.out hb); have m_5 := blk_cell HX10.out 5; simp at m_5; clear hb) | (go_at_call 31; (refine (c_opsMarked w10 A6 x.f5.length c6 x.f5 rfl HMK10.out HC6.out).mono ?_); rintro e w11 ⟨rfl, hb⟩; have HY11 := Aside0.mk (blk_below hb HY10.out); have HKO11 := Aside0.mk (k55.K_below hb HKO10.out); have HT11 := Aside0.mk (Kd.C_below HT10.out hb); have HB11 := Aside0.mk (below_step HB10.out hb); clear hb))
     go_upto_region 19 with (first | (go_at_call 32; (with_reducible refine (c_decEntry W w11 A c xs HDT.out HB11.out).mono ?_); rintro e w20 ⟨hb, hok⟩; obtain ⟨es1, hk1, rfl⟩ := HCM1.out _ _ _ hok; have HK20 := Aside0.mk hk1; clear hok hk1; have HT20 := Aside0.mk (Kd.C_below HT11.out hb); have HB20 := Aside0.mk (below_step HB11.out hb); clear hb) | ((with_reducible refine gate_store2 (t := 55) rfl ?_); refine store_row (old := zeroE.toArray) (cs := es1.toArray) rfl rfl rfl (Mem.blk_alloc _) rfl rfl (es_size HK20.out) (es_len HK20.out) (es_one HK20.out) ?_; intro w21 hm hx; have hb := Moved.above_ hm (Nat.le_refl _); have HZ21 := Aside0.mk hx; have HK21 := Aside0.mk (k55.K_below hb HK20.out); have HT21 := Aside0.mk (Kd.C_below HT20.out hb); have HB21 := Aside0.mk (below_step HB20.out hb); clear hb hm hx))
     go_upto_region 20 with (first | (go_at_call 33; (with_reducible refine (r_decEntry w21 w21 T d xs (Get.Data.mk HT21.out HY0.out HTC.out HLEN.out) (Below.refl _ _)).mono ?_); rintro e w22 ⟨hb, hok⟩; obtain ⟨es2, hk2, rfl⟩ := HCM2.out _ _ hok; have HL22 := Aside0.mk hk2; clear hok hk2; have HK22 := Aside0.mk (k55.K_below hb HK21.out); have HZ22 := Aside0.mk (blk_below hb HZ21.out); have HT22 := Aside0.mk (Kd.C_below HT21.out hb); have HB22 := Aside0.mk (below_step HB21.out hb); clear hb) | ((with_reducible refine gate_store2 (t := 55) rfl ?_); refine store_row (old := zeroE.toArray) (cs := es2.toArray) rfl rfl rfl (Mem.blk_alloc _) rfl rfl (es_size HL22.out) (es_len HL22.out) (es_one HL22.out) ?_; intro w23 hm hx; have hb := Moved.above_ hm (Nat.le_refl _); have HQ23 := Aside0.mk hx; have HK23 := Aside0.mk (k55.K_below hb HK22.out); have HL23 := Aside0.mk (k55.K_below hb HL22.out); have HZ23 := Aside0.mk (blk_below hb HZ22.out); have HT23 := Aside0.mk (Kd.C_below HT22.out hb); have HB23 := Aside0.mk (below_step HB22.out hb); clear hb hm hx))
     go_wp2_with (first | ((with_reducible refine gate_load (t := 55) rfl ?_); (try refine gate_guard (by rfl) ?_); first | refine load_row rfl rfl Tryz.underlying55 rfl HZ23.out rfl (es_size HK23.out) ?_ | refine load_row rfl rfl Tryz.underlying55 rfl HQ23.out rfl (es_size HL23.out) ?_) | (go_at_call 30; (refine (c_sameEntry w23 w23 y y es1 es2 HK23.out HL23.out (Below.refl _ _) true (iff_t rfl)).mono ?_); rintro e w24 ⟨rfl, hb⟩; have HT24 := Aside0.mk (Kd.C_below HT23.out hb); have HB24 := Aside0.mk (below_step HB23.out hb); clear hb) | (go_at_call 23; (refine (c_bytes w24 A T c d xs xs (Kd.C_below HC.out HB24.out) HT24.out).mono ?_); rintro e w25 ⟨he_, hb⟩; rw [decide_eq_true rfl] at he_; subst he_; have HB25 := Aside0.mk (below_step HB24.out hb); clear hb))
     go_ret
     exact ⟨rfl, HB25.out⟩
   | true =>
     have HFN := Aside0.mk (fine_ent HMX.out)
     go_upto_region 12 with (first | ((with_reducible refine gate_load (t := 55) rfl ?_); (try refine gate_guard (by rfl) ?_); first | refine load_row rfl rfl Tryz.underlying55 rfl HX6.out rfl (size_of infoEntry) ?_ | refine load_row rfl rfl Tryz.underlying55 rfl HY7.out rfl (size_of infoEntry) ?_) | (go_at_call 28; (with_reducible refine (c_encEntry w6 w6 x _ HKE6.out (Below.refl _ _)).mono ?_); rintro e w7 ⟨hb, _, hok⟩; obtain ⟨v, rfl, hv⟩ := hok HMX.out; obtain ⟨UA, Uc, rfl⟩ := Kd.R_slice hv; have hrd := Kd.R_reads' hv; have HU7 := Aside0.mk hrd.2.2; have HUC := Aside0.mk hrd.2.1; clear hok hv hrd; have HX7 := Aside0.mk (blk_below hb HX6.out); have HY7 := Aside0.mk (blk_below hb HY6.out); have HMK7 := Aside0.mk (Kd.C_below HMK6.out hb); have HKE7 := Aside0.mk (k55.K_below hb HKE6.out); have HKO7 := Aside0.mk (k55.K_below hb HKO6.out); have HT7 := Aside0.mk (Kd.C_below HT6.out hb); have HB7 := Aside0.mk (below_step HB6.out hb); clear hb) | (go_at_call 29; (with_reducible refine (r_encEntry w7 w7 x _ HKO7.out (Below.refl _ _)).mono ?_); rintro e w8 ⟨hb, _, hok⟩; obtain ⟨v, rfl, hv⟩ := hok HMX.out; obtain ⟨VA, Vc, rfl⟩ := Kd.R_slice hv; have HV8 := Aside0.mk (Kd.R_reads' hv).2.2; clear hok hv; have HX8 := Aside0.mk (blk_below hb HX7.out); have HY8 := Aside0.mk (blk_below hb HY7.out); have HMK8 := Aside0.mk (Kd.C_below HMK7.out hb); have HKE8 := Aside0.mk (k55.K_below hb HKE7.out); have HKO8 := Aside0.mk (k55.K_below hb HKO7.out); have HT8 := Aside0.mk (Kd.C_below HT7.out hb); have HB8 := Aside0.mk (below_step HB7.out hb); have HU8 := Aside0.mk (Kd.C_below HU7.out hb); clear hb))
     skip
     go_upto_region 14 with (first | ((with_reducible refine gate_load (t := 55) rfl ?_); (try refine gate_guard (by rfl) ?_); first | refine load_row rfl rfl Tryz.underlying55 rfl HX9.out rfl (size_of infoEntry) ?_ | refine load_row rfl rfl Tryz.underlying55 rfl HY9.out rfl (size_of infoEntry) ?_) | (go_at_call 23; (refine (c_bytes w8 UA VA Uc Vc (encEntry x) (encEntry x) HU8.out HV8.out).mono ?_); rintro e w9 ⟨he_, hb⟩; rw [decide_eq_true rfl] at he_; subst he_; have HX9 := Aside0.mk (blk_below hb HX8.out); have HY9 := Aside0.mk (blk_below hb HY8.out); have HMK9 := Aside0.mk (Kd.C_below HMK8.out hb); have HKE9 := Aside0.mk (k55.K_below hb HKE8.out); have HKO9 := Aside0.mk (k55.K_below hb HKO8.out); have HT9 := Aside0.mk (Kd.C_below HT8.out hb); have HB9 := Aside0.mk (below_step HB8.out hb); have HU9 := Aside0.mk (Kd.C_below HU8.out hb); clear hb) | (go_at_call 30; (refine (c_sameEntry w9 w9 x x _ _ HKE9.out HKO9.out (Below.refl _ _) true (iff_t rfl)).mono ?_); rintro e w10 ⟨rfl, hb⟩; have HX10 := Aside0.mk (blk_below hb HX9.out); have HY10 := Aside0.mk (blk_below hb HY9.out); have HMK10 := Aside0.mk (Kd.C_below HMK9.out hb); have HKE10 := Aside0.mk (k55.K_below hb HKE9.out); have HKO10 := Aside0.mk (k55.K_below hb HKO9.out); have HT10 := Aside0.mk (Kd.C_below HT9.out hb); have HB10 := Aside0.mk (below_step HB9.out hb); have HU10 := Aside0.mk (Kd.C_below HU9.out hb); have m_5 := blk_cell HX10.out 5; simp at m_5; clear hb) | (go_at_call 31; (refine (c_opsMarked w10 A6 x.f5.length c6 x.f5 rfl HMK10.out HC6.out).mono ?_); rintro e w11 ⟨rfl, hb⟩; have HY11 := Aside0.mk (blk_below hb HY10.out); have HKO11 := Aside0.mk (k55.K_below hb HKO10.out); have HT11 := Aside0.mk (Kd.C_below HT10.out hb); have HB11 := Aside0.mk (below_step HB10.out hb); have HU11 := Aside0.mk (Kd.C_below HU10.out hb); clear hb))
     go_upto_region 16 with (first | (go_at_call 32; (with_reducible refine (c_decEntry w11 w11 UA Uc (encEntry x) (Get.Data.mk HU11.out HFN.out.1 HUC.out (by have := HFN.out.2; omega)) (Below.refl _ _)).mono ?_); rintro e w12 ⟨hb, _, hok, _⟩; obtain ⟨es, hM, rfl⟩ := hok (by have := HFN.out.2; omega) x (dEnt_of HMX.out) HMX.out; have HKZ12 := Aside0.mk (k55.K_of_M hM); clear hok hM; have HY12 := Aside0.mk (blk_below hb HY11.out); have HKO12 := Aside0.mk (k55.K_below hb HKO11.out); have HT12 := Aside0.mk (Kd.C_below HT11.out hb); have HB12 := Aside0.mk (below_step HB11.out hb); clear hb) | ((with_reducible refine gate_store2 (t := 55) rfl ?_); refine store_row (old := zeroE.toArray) (cs := es.toArray) rfl rfl rfl (Mem.blk_alloc _) rfl rfl (es_size HKZ12.out) (es_len HKZ12.out) (es_one HKZ12.out) ?_; intro w13 hm13 hx13; have hb := Moved.above_ hm13 (Nat.le_refl _); have HZ13 := Aside0.mk hx13; have HY13 := Aside0.mk (blk_below hb HY12.out); have HKO13 := Aside0.mk (k55.K_below hb HKO12.out); have HKZ13 := Aside0.mk (k55.K_below hb HKZ12.out); have HT13 := Aside0.mk (Kd.C_below HT12.out hb); have HB13 := Aside0.mk (below_step HB12.out hb); clear hb hm13 hx13))
     go_upto_region 18 with (first | ((with_reducible refine gate_load (t := 55) rfl ?_); (try refine gate_guard (by rfl) ?_); first | refine load_row rfl rfl Tryz.underlying55 rfl HZ13.out rfl (es_size HKZ13.out) ?_ | refine load_row rfl rfl Tryz.underlying55 rfl HY13.out rfl (size_of infoEntry) ?_) | (go_at_call 30; (refine (c_sameEntry w13 w13 x x es _ HKZ13.out HKO13.out (Below.refl _ _) true (iff_t rfl)).mono ?_); rintro e w14 ⟨rfl, hb⟩; have HT14 := Aside0.mk (Kd.C_below HT13.out hb); have HB14 := Aside0.mk (below_step HB13.out hb); clear hb))
     go_upto_region 19 with (first | (go_at_call 32; (with_reducible refine (c_decEntry W w14 A c xs HDT.out HB14.out).mono ?_); rintro e w20 ⟨hb, hok⟩; obtain ⟨es1, hk1, rfl⟩ := HCM1.out _ _ _ hok; have HK20 := Aside0.mk hk1; clear hok hk1; have HT20 := Aside0.mk (Kd.C_below HT14.out hb); have HB20 := Aside0.mk (below_step HB14.out hb); clear hb) | ((with_reducible refine gate_store2 (t := 55) rfl ?_); refine store_row (old := zeroE.toArray) (cs := es1.toArray) rfl rfl rfl (Mem.blk_alloc _) rfl rfl (es_size HK20.out) (es_len HK20.out) (es_one HK20.out) ?_; intro w21 hm hx; have hb := Moved.above_ hm (Nat.le_refl _); have HZ21 := Aside0.mk hx; have HK21 := Aside0.mk (k55.K_below hb HK20.out); have HT21 := Aside0.mk (Kd.C_below HT20.out hb); have HB21 := Aside0.mk (below_step HB20.out hb); clear hb hm hx))
     go_upto_region 20 with (first | (go_at_call 33; (with_reducible refine (r_decEntry w21 w21 T d xs (Get.Data.mk HT21.out HY0.out HTC.out HLEN.out) (Below.refl _ _)).mono ?_); rintro e w22 ⟨hb, hok⟩; obtain ⟨es2, hk2, rfl⟩ := HCM2.out _ _ hok; have HL22 := Aside0.mk hk2; clear hok hk2; have HK22 := Aside0.mk (k55.K_below hb HK21.out); have HZ22 := Aside0.mk (blk_below hb HZ21.out); have HT22 := Aside0.mk (Kd.C_below HT21.out hb); have HB22 := Aside0.mk (below_step HB21.out hb); clear hb) | ((with_reducible refine gate_store2 (t := 55) rfl ?_); refine store_row (old := zeroE.toArray) (cs := es2.toArray) rfl rfl rfl (Mem.blk_alloc _) rfl rfl (es_size HL22.out) (es_len HL22.out) (es_one HL22.out) ?_; intro w23 hm hx; have hb := Moved.above_ hm (Nat.le_refl _); have HQ23 := Aside0.mk hx; have HK23 := Aside0.mk (k55.K_below hb HK22.out); have HL23 := Aside0.mk (k55.K_below hb HL22.out); have HZ23 := Aside0.mk (blk_below hb HZ22.out); have HT23 := Aside0.mk (Kd.C_below HT22.out hb); have HB23 := Aside0.mk (below_step HB22.out hb); clear hb hm hx))
     go_wp2_with (first | ((with_reducible refine gate_load (t := 55) rfl ?_); (try refine gate_guard (by rfl) ?_); first | refine load_row rfl rfl Tryz.underlying55 rfl HZ23.out rfl (es_size HK23.out) ?_ | refine load_row rfl rfl Tryz.underlying55 rfl HQ23.out rfl (es_size HL23.out) ?_) | (go_at_call 30; (refine (c_sameEntry w23 w23 y y es1 es2 HK23.out HL23.out (Below.refl _ _) true (iff_t rfl)).mono ?_); rintro e w24 ⟨rfl, hb⟩; have HT24 := Aside0.mk (Kd.C_below HT23.out hb); have HB24 := Aside0.mk (below_step HB23.out hb); clear hb) | (go_at_call 23; (refine (c_bytes w24 A T c d xs xs (Kd.C_below HC.out HB24.out) HT24.out).mono ?_); rintro e w25 ⟨he_, hb⟩; rw [decide_eq_true rfl] at he_; subst he_; have HB25 := Aside0.mk (below_step HB24.out hb); clear hb))
     go_ret
     exact ⟨rfl, HB25.out⟩
end Go.Proofs.YtmneemhplffemaaGreatDoorRR.Ent
namespace Go.Proofs.YtmneemhplffemaaGreatDoorRR.Law3
open Go.RowKit Go.Proofs.YtmneemhplffemaaGreatDoorRR.Chk Go.Proofs.YtmneemhplffemaaGreatDoorRR.Law Go.Proofs.YtmneemhplffemaaGreatDoorRR.Ki Go.Proofs.YtmneemhplffemaaGreatDoorRR.Arg Go.Proofs.YtmneemhplffemaaGreatDoorRRW.PrintWords
theorem entries (x : S55) (cs : List Value) (A : Option Addr) (len cap : Nat) (z : List Int) (W : World) (hK : k55.K W x cs) (hO : OkEntry x) (w : (A = none ∧ len = 0 ∧ cap = 0 ∧ z = []) ∨ ∃ x, A = some x ∧ len ≤ cap ∧ cap ≤ maxLen ∧ z.length = cap ∧ (∀ i, i < z.length → W.cell? (x.add i) = some (.int .u8 (z.getD i 0))) ∧ ∀ n ∈ z, (Lit.int .u8 n).wf = true) (HE : EnvN W) :
  Calls Tryz.prog 10 #[.agg cs.toArray, .slice A len cap] W fun e W' => e = .returned (.bool true) ∧ Below W.heap.size W W' := by
 obtain ⟨xs, rfl, hc, hC, hB⟩ := Ext.bytes_of w
 exact Ent.c_entriesW W x cs A cap xs hK hO hC hB hc HE
end Go.Proofs.YtmneemhplffemaaGreatDoorRR.Law3
namespace Go.Proofs.YtmneemhplffemaaGreatDoorRR.noteEntries
open Go.ChangeShapes Go.WideShapes Go.ChangeAt Go.RowKit Go.Proofs.YtmneemhplffemaaGreatDoorRRW
open Go.ChangeMaps (open_string shut_string)


theorem own : ownKnob Tryz.prog.godebug = none := by kernel_rfl
theorem laidOut : laidOutB Tryz.prog = true := by kernel_rfl
def IsRow (k : IntKind) (w : World) (a : Option Addr) (len cap : Nat) (zs : List Int) : Prop :=
 (a = none ∧ len = 0 ∧ cap = 0 ∧ zs = []) ∨
 ∃ x, a = some x ∧ len ≤ cap ∧ cap ≤ maxLen ∧ zs.length = cap ∧ (∀ i, i < zs.length → w.cell? (x.add i) = some (.int k (zs.getD i 0))) ∧ ∀ n ∈ zs, (Lit.int k n).wf = true
theorem laid_met (os : Os) : laidMet Tryz.prog Rows.noteEntriesRow.laid ((Ext.laidWorld os).forCall (fun _ _ => 0) ⟨#[], #[.agg #[.int .i64 0, .int .i64 0, .int .i64 0, .int .i64 0, .int .i64 0, .slice none 0 0], .slice none 0 0], []⟩).memory := laidMet_of_run' 8 (by kernel_rfl) (by kernel_rfl)
theorem reads (os : Os) {H : Type} (enc : TypeId × Value → H) : ∃ places, DataW.whole enc Tryz.prog ((Ext.laidWorld os).forCall (fun _ _ => 0) ⟨#[], #[.agg #[.int .i64 0, .int .i64 0, .int .i64 0, .int .i64 0, .int .i64 0, .slice none 0 0], .slice none 0 0], []⟩).memory Tryz.f10.params.toList Rows.noteEntriesSpec.vars false (#[.agg #[.int .i64 0, .int .i64 0, .int .i64 0, .int .i64 0, .int .i64 0, .slice none 0 0], .slice none 0 0] : Array Value).toList 8 = some ([.agg [.lit (.int .i64 0), .lit (.int .i64 0), .lit (.int .i64 0), .lit (.int .i64 0), .lit (.int .i64 0), .nil], .nil], [], places) := ⟨[], by kernel_rfl⟩
set_option maxRecDepth 100000 in
theorem contract (H : Type) (enc : TypeId × Value → H) (W : World) (base : Nat) (args : Array Value) (ds gs : List (DataW H)) (before : List MemPlace)
  (hval0 : ∀ (j : Nat) t v, Tryz.f10.params[j]? = some t → args[j]? = some v → Value.okWide Tryz.prog W .any base t v)
  (hW : DataW.Whole enc Tryz.prog Tryz.f10.params.toList Rows.noteEntriesSpec.vars false W args.toList ds gs before)
  (hsz0 : (DataW.weightsEach Tryz.prog (Tryz.f10.params.toList ++ Rows.noteEntriesSpec.plain.varTypes Tryz.prog) (ds ++ gs)).all (· ≤ reachBytes) = true) (HE : Chk.EnvN W) :
  Calls Tryz.prog 10 args W fun e W' => ∃ v, e = .returned v ∧ Rows.noteEntriesSpec.post enc Tryz.prog Tryz.f10 false true false false W args v W' := by
 have hsz := hsz0
 have hval := hval0
 have hW' := hW
 obtain ⟨p, q, hA0, hV, rfl, hfz, hnd⟩ := hW
 have hA : DataW.TrodAll enc Tryz.prog W 0 (fun _ => true) true Tryz.f10.params.toList args.toList ds p := hA0
 rw [Tryz.params10] at hA hval hsz
 obtain ⟨v0, vs0, d0, ds0, p0, q0, hargs, rfl, rfl, h0, r0⟩ := trodAll_cons hA
 obtain ⟨v1, vs1, d1, ds1, p1, q1, rfl, rfl, rfl, h1, r1⟩ := trodAll_cons r0
 obtain ⟨rfl, rfl, rfl⟩ := trodAll_nil r1
 obtain rfl : args = #[v0, v1] := by cases args; simp_all
 obtain ⟨rfl, rfl⟩ := trodVars_none hV
 have k0 := h0
 have lt0 : ∀ x ∈ p0, x.block < W.heap.size := by obtain ⟨m, hm⟩ := k0; exact DataW.trod_lt m _ _ _ hm
 obtain ⟨a0, c0, rfl, w0, o0⟩ := Arg.in_any Arg.u_entry.choose_spec Arg.oEntry hsz (j := 0) rfl rfl (hval 0 55 v0 rfl rfl) h0
 obtain ⟨a1, len1, cap1, rfl⟩ := okWide_slice Tryz.underlying41 (hval 1 41 v1 rfl rfl)
 have k1 := h1
 have lt1 : ∀ x ∈ p1, x.block < W.heap.size := by obtain ⟨m, hm⟩ := k1; exact DataW.trod_lt m _ _ _ hm
 obtain ⟨z1, w1⟩ : ∃ zs, IsRow .u8 W a1 len1 cap1 zs := by
  obtain ⟨fuel, hf⟩ := h1
  rcases open_ints Tryz.underlying41 Tryz.underlying5 (by kernel_rfl) hf with ⟨hcs, _⟩ | ⟨x, l, c, zs, hcs, _, hl, hm, hz, _, hcell, hwz⟩
  · simp [Value.cells] at hcs
    obtain ⟨rfl, rfl, rfl⟩ := hcs
    exact ⟨[], .inl ⟨rfl, rfl, rfl, rfl⟩⟩
  · simp [Value.cells] at hcs
    obtain ⟨rfl, rfl, rfl⟩ := hcs
    exact ⟨zs, .inr ⟨_, rfl, hl, hm, by simpa using hz, hcell, hwz⟩⟩
 clear hA0 hval0 hsz0 hsz
 refine (Law3.entries a0 c0 a1 len1 cap1 z1 W w0 o0 w1 HE).mono fun e W' ⟨he, bel⟩ => ?_
 subst he
 exact ⟨_, rfl, _, _, _, [], _, [], hW', trodAll_mk1 (shut_bool Tryz.underlying4 _), (trodAll_cons_mk (Below.trod laidOut (by kernel_rfl) (of_decide_eq_true (by kernel_rfl)) k0 bel lt0) (trodAll_cons_mk (Below.trod laidOut (by kernel_rfl) (of_decide_eq_true (by kernel_rfl)) k1 bel lt1) trodAll_mk0)), rfl, bel.frame _, fun h => by cases h⟩
set_option maxRecDepth 100000 in
theorem lifted (os : Os) (started : os.Started) (H : Type) (enc : TypeId × Value → H) (F : Stop.Interp) :
  ReturnsInHanded {} Tryz.checked os 10 .any ((OpenSpec.ofChange Rows.noteEntriesSpec).preRow enc Tryz.prog Tryz.f10 Rows.noteEntriesRow.domain false Rows.noteEntriesRow.laid) (((OpenSpec.ofChange Rows.noteEntriesSpec).at F).post enc Tryz.prog Tryz.f10 false true false false) := by
 obtain ⟨places, hx⟩ := reads os enc
 refine returnsInHanded_of_row (C := Tryz.checked) (s := OpenSpec.ofChange Rows.noteEntriesSpec) own started (by kernel_rfl) Tryz.func10
  (witness_row_at (enc := enc) (C := Tryz.checked) false (Ext.laidWorld os) #[.agg #[.int .i64 0, .int .i64 0, .int .i64 0, .int .i64 0, .int .i64 0, .slice none 0 0], .slice none 0 0] rfl (by kernel_rfl) (by kernel_rfl) (by kernel_rfl)
   (OpenSpec.preRow_of_cond 8 hx (by kernel_rfl) (fun k hk => by cases hk) (by kernel_rfl) (laid_met os))) ?_
 intro W base args ds gs before hval hW _ _ hsz hL hS _
 exact contract H enc W base args ds gs before hval hW hsz (Ext.env_note hS hL)
theorem f_inPlace : (Rows.noteEntriesRow.inPlace == Tryz.prog.inPlace 10) = true := by kernel_rfl
theorem f_unfollowed : (Rows.noteEntriesRow.unfollowed == Tryz.prog.unfollowed 10) = true := by kernel_rfl
theorem f_recurses : (Rows.noteEntriesRow.recurses == Tryz.prog.recurses 10) = true := by kernel_rfl
theorem f_named : (Rows.noteEntriesRow.named == Tryz.prog.varsNamed 10) = true := by kernel_rfl
theorem f_maps : mapsRowed Tryz.prog = true := by kernel_rfl
theorem f_laid : laidOutB Tryz.prog = true := by kernel_rfl
set_option maxRecDepth 100000 in
set_option maxHeartbeats 8000000 in
theorem closed : joinedFacts Tryz.pinned.checked.prog 10 Tryz.f10 (OpenSpec.ofChange Rows.noteEntriesSpec).bare Rows.noteEntriesRow = true := by
 show joinedFacts Tryz.prog 10 Tryz.f10 (OpenSpec.ofChange Rows.noteEntriesSpec).bare Rows.noteEntriesRow = true
 unfold joinedFacts
 simp only [Bool.and_eq_true]
 repeat' (with_reducible apply And.intro)
 all_goals first | with_reducible exact f_inPlace | with_reducible exact f_unfollowed | with_reducible exact f_recurses | with_reducible exact f_named | with_reducible exact f_maps | with_reducible exact f_laid | (as_aux_lemma => kernel_rfl)
theorem hinst : Tryz.f10.isInstance Tryz.pinned.checked.prog Rows.noteEntriesRow.origin Rows.noteEntriesRow.targs := of_decide_eq_true (by kernel_rfl)
theorem hwrap : Tryz.f10.isWrapper Tryz.pinned.checked.prog Rows.noteEntriesRow.wrapper Rows.noteEntriesRow.mainSum := by unfold Func.isWrapper; first | (rw [if_pos (by decide +kernel)]; kernel_rfl) | (rw [if_neg (by decide +kernel)]; exact ⟨rfl, rfl⟩)
theorem hfn : Tryz.pinned.checked.prog.funcNamed Rows.noteEntriesRow.func = some 10 := by kernel_rfl
theorem said : Rows.NoteEntriesSaid :=
 OpenClaim.holds_of_cond 10 Tryz.f10 rfl rfl rfl rfl rfl rfl rfl ⟨rfl, rfl, rfl, rfl, rfl⟩ rfl rfl rfl rfl rfl hfn Tryz.func10 closed hinst hwrap
  (fun os started H enc _ F => by rw [OpenClaim.pre_eq_preRow]; exact lifted os started H enc F)
theorem looks_on : true = Tryz.pinned.checked.prog.looks [] := by kernel_rfl
theorem plain (f : FuncId) (fn : Func) (hf : Tryz.pinned.checked.prog.funcNamed "herald/heraldlaw3.NoteEntries" = some f) (hfn : Tryz.pinned.checked.prog.funcs[f]? = some fn) :
   true = Tryz.pinned.checked.prog.looks [] ∧ ∀ (j : Nat) t, fn.params[j]? = some t → Tryz.pinned.checked.prog.wantsStandIn t = false := by
 obtain rfl : f = 10 := Option.some.inj ((show Tryz.prog.funcNamed "herald/heraldlaw3.NoteEntries" = some 10 by kernel_rfl).symm.trans hf) |>.symm
 obtain rfl : fn = Tryz.f10 := (Option.some.inj (Tryz.func10.symm.trans hfn)).symm
 refine ⟨looks_on, fun j t ht => ?_⟩
 rw [Tryz.params10] at ht
 have hm := Array.mem_of_getElem? ht
 simp only [Array.mem_def, List.mem_cons, or_false, List.not_mem_nil] at hm
 rcases hm with rfl | rfl
 · exact (show Tryz.prog.wantsStandIn 55 = false by kernel_rfl)
 · exact (show Tryz.prog.wantsStandIn 41 = false by kernel_rfl)
theorem wfText : Rows.noteEntriesRow.wfByText (OpenSpec.ofChange Rows.noteEntriesSpec) = true := by kernel_rfl
theorem goesBy : false = Rows.noteEntriesRow.goesBy Tryz.pinned.checked.prog := by kernel_rfl
theorem card : Rows.NoteEntriesCardSaid :=
 Claim7.holds_tied_plain_at .later [] _ _ _ _ said (fun _ h => by cases h) wfText (fun _ h => by cases h) noteEntries_row_tie rfl ⟨rfl, rfl⟩ (by kernel_rfl) rfl plain goesBy
end Go.Proofs.YtmneemhplffemaaGreatDoorRR.noteEntries
namespace Go.Proofs.YtmneemhplffemaaGreatDoorRR
theorem noteEntries_holds : Rows.NoteEntriesCardSaid := noteEntries.card
end Go.Proofs.YtmneemhplffemaaGreatDoorRR
