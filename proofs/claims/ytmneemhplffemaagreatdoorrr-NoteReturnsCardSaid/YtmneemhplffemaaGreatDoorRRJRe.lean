/- Texts of the proof, joined. -/
import Derived.ArgAppend
import Derived.Below
import Derived.BigQuiet
import Derived.Deep.AppendLies
import Derived.Deep.CutBlock
import Derived.Deep.DeepCutAuto
import Derived.Deep.DeepHandedRow
import Derived.Deep.Draws
import Derived.Deep.LoopGhost
import Derived.Deep.OwnRows
import Derived.Deep.QuietTactic
import Derived.Deep.RegionHeld3
import Derived.Deep.RegionLaw
import Derived.Deep.RegionLawGrows
import Derived.Deep.Slices
import Derived.Deep.WholeRow
import Derived.Defers
import Derived.HandedShaped
import Derived.KernelRfl
import Derived.Laws.BitsLemmas
import Derived.Laws.BytesArg
import Derived.Laws.EntriesVeiled
import Derived.Laws.IdiomCopy
import Derived.Laws.MakeOwn
import Derived.Laws.OwnMore
import Derived.Laws.Rows
import Derived.Laws.Slices
import Derived.Laws.StructEq
import Derived.Laws.Tables
import Derived.Lib.AppendStr
import Derived.Lib.ConvBytes
import Derived.Lib.Hide
import Derived.Lib.Join
import Derived.Lib.LaidTab
import Derived.Lib.SplitLaws
import Derived.LoopTactic
import Derived.Maps.AppendAt
import Derived.OpenShut
import Derived.OrdersHeld
import Derived.Outline
import Derived.OwnWalk
import Derived.ProofKit
import Derived.Recover
import Derived.RowKit
import Derived.RowKit3
import Derived.Shelf.LaysM
import Derived.Shelf.Strings.Count
import Derived.Shelf.Strings.Explode
import Derived.Shelf.Strings.Prefix
import Derived.Shelf.Strings.RuneCount
import Derived.Shelf.Strings.Search1
import Derived.Shelf.Strings.Search2
import Derived.Shelf.Strings.Search3
import Derived.Shelf.Strings.Shaped
import Derived.Shelf.Strings.Split
import Derived.Shelf.Strings.SplitShaped
import Derived.Shelf.Unicode.Decode
import Derived.Shelf.Unicode.DecodeSlow
import Derived.Shelf.Utf8.RuneCount
import Derived.Shelf.Vars
import Derived.SizedLaws
import Derived.StillTailTactics
import Derived.Tactics
import Derived.Test.YtmneemhplffemaaGreatDoorRRCards
import Derived.Test.YtmneemhplffemaaGreatDoorRRProg
import Derived.Test.YtmneemhplffemaaGreatDoorRRTie
import Derived.WalkKit
import Derived.WalkLawsBesides
import Derived.WideLaws
import Derived.Test.YtmneemhplffemaaGreatDoorRRJRd
set_option linter.unusedVariables false
set_option linter.unusedSimpArgs false
namespace Go.Proofs.YtmneemhplffemaaGreatDoorRR.Tab
open Go.RowKit Go.Proofs.YtmneemhplffemaaGreatDoorRR.Ord Go.Proofs.YtmneemhplffemaaGreatDoorRR.Name Go.Proofs.YtmneemhplffemaaGreatDoorRR.Ext Go.Proofs.YtmneemhplffemaaGreatDoorRR.Mem Go.Proofs.YtmneemhplffemaaGreatDoorRR.Law Go.Proofs.YtmneemhplffemaaGreatDoorRR.Row Go.Proofs.YtmneemhplffemaaGreatDoorRR.Ki Go.Proofs.YtmneemhplffemaaGreatDoorRR.Chk Go.Proofs.YtmneemhplffemaaGreatDoorRR.May Go.Proofs.YtmneemhplffemaaGreatDoorRRW.PrintWords


theorem nil_C {α : Type} (d : Kd α) (w : World) : d.C w none ([] : List α).length [] := ⟨rfl, Nat.zero_le _, fun h => absurd h (Nat.lt_irrefl 0)⟩
theorem c_right (l : Ltr) (w0 W : World) (g : Nat) (x : Note) (cs : List Value) (hk : k34.K w0 x cs) (hb : Below w0.heap.size w0 W) (hbx : W.heap[g]? = some (.cells cs.toArray 34 (0, 0))) (HE : Env w0) (hz : Sane x) (b : Bool) (h : okF l x = b) :
  Calls Tryz.prog 42 #[.agg (fCells l).toArray, .pointer (some ⟨g, 0, none⟩)] W fun e W' => e = .returned (.bool b) ∧ Below W.heap.size W W' := by
 cases l
 case ln =>
  have hc : W.cell? ⟨g, 1, none⟩ = some (.int .i64 x.f1.f0) := by
   obtain ⟨A11, c11, A12, c12, A16, c16, A17, c17, A18, c18, A19, c19, rfl, l11, g11, l12, g12, l16, g16, l17, g17, l18, g18, l19, g19⟩ := k34_open hk
   exact blk_cell hbx 1
  exact right_num _ 1 (fun _ _ => by kernel_rfl) n_ln 1 _ W g hc b h
 case ls =>
  have hc : W.cell? ⟨g, 4, none⟩ = some (.int .i64 x.f2) := by
   obtain ⟨A11, c11, A12, c12, A16, c16, A17, c17, A18, c18, A19, c19, rfl, l11, g11, l12, g12, l16, g16, l17, g17, l18, g18, l19, g19⟩ := k34_open hk
   exact blk_cell hbx 4
  exact right_num _ 4 (fun _ _ => by kernel_rfl) n_ls 1 _ W g hc b h
 case lc =>
  have hc : W.cell? ⟨g, 5, none⟩ = some (.int .i64 x.f3) := by
   obtain ⟨A11, c11, A12, c12, A16, c16, A17, c17, A18, c18, A19, c19, rfl, l11, g11, l12, g12, l16, g16, l17, g17, l18, g18, l19, g19⟩ := k34_open hk
   exact blk_cell hbx 5
  exact right_num _ 5 (fun _ _ => by kernel_rfl) n_lc 1 _ W g hc b h
 case lr =>
  have hc : W.cell? ⟨g, 6, none⟩ = some (.int .i64 x.f4) := by
   obtain ⟨A11, c11, A12, c12, A16, c16, A17, c17, A18, c18, A19, c19, rfl, l11, g11, l12, g12, l16, g16, l17, g17, l18, g18, l19, g19⟩ := k34_open hk
   exact blk_cell hbx 6
  exact right_num _ 6 (fun _ _ => by kernel_rfl) n_lr 1 _ W g hc b h
 case lt =>
  have hc : W.cell? ⟨g, 7, none⟩ = some (.int .i64 x.f5) := by
   obtain ⟨A11, c11, A12, c12, A16, c16, A17, c17, A18, c18, A19, c19, rfl, l11, g11, l12, g12, l16, g16, l17, g17, l18, g18, l19, g19⟩ := k34_open hk
   exact blk_cell hbx 7
  exact right_num _ 7 (fun _ _ => by kernel_rfl) n_lt 0 _ W g hc b h
 case lf =>
  have hc : W.cell? ⟨g, 8, none⟩ = some (.int .i64 x.f6) := by
   obtain ⟨A11, c11, A12, c12, A16, c16, A17, c17, A18, c18, A19, c19, rfl, l11, g11, l12, g12, l16, g16, l17, g17, l18, g18, l19, g19⟩ := k34_open hk
   exact blk_cell hbx 8
  exact right_num _ 8 (fun _ _ => by kernel_rfl) n_lf 0 _ W g hc b h
 case lm =>
  have hc : W.cell? ⟨g, 9, none⟩ = some (.int .i64 x.f7) := by
   obtain ⟨A11, c11, A12, c12, A16, c16, A17, c17, A18, c18, A19, c19, rfl, l11, g11, l12, g12, l16, g16, l17, g17, l18, g18, l19, g19⟩ := k34_open hk
   exact blk_cell hbx 9
  exact right_num _ 9 (fun _ _ => by kernel_rfl) n_lm 0 _ W g hc b h
 case uW => exact right_may _ (fun _ _ => by kernel_rfl) _ _ _ W g b (fun W1 h1 => mc_uW w0 W1 g x cs hk (below_step hb h1) (blk_below h1 hbx) HE hz b h)
 case lw => exact right_may _ (fun _ _ => by kernel_rfl) _ _ _ W g b (fun W1 h1 => mc_lw w0 W1 g x cs hk (below_step hb h1) (blk_below h1 hbx) HE hz b h)
 case ld => exact right_may _ (fun _ _ => by kernel_rfl) _ _ _ W g b (fun W1 h1 => mc_ld w0 W1 g x cs hk (below_step hb h1) (blk_below h1 hbx) HE hz b h)
 case uD => exact right_may _ (fun _ _ => by kernel_rfl) _ _ _ W g b (fun W1 h1 => mc_uD w0 W1 g x cs hk (below_step hb h1) (blk_below h1 hbx) HE hz b h)
 case le => exact right_may _ (fun _ _ => by kernel_rfl) _ _ _ W g b (fun W1 h1 => mc_le w0 W1 g x cs hk (below_step hb h1) (blk_below h1 hbx) HE hz b h)
 case lv => exact right_may _ (fun _ _ => by kernel_rfl) _ _ _ W g b (fun W1 h1 => mc_lv w0 W1 g x cs hk (below_step hb h1) (blk_below h1 hbx) HE hz b h)
 case ly => exact right_may _ (fun _ _ => by kernel_rfl) _ _ _ W g b (fun W1 h1 => mc_ly w0 W1 g x cs hk (below_step hb h1) (blk_below h1 hbx) HE hz b h)
 case la => exact right_may _ (fun _ _ => by kernel_rfl) _ _ _ W g b (fun W1 h1 => mc_la w0 W1 g x cs hk (below_step hb h1) (blk_below h1 hbx) HE hz b h)
 case lo => exact right_may _ (fun _ _ => by kernel_rfl) _ _ _ W g b (fun W1 h1 => mc_lo w0 W1 g x cs hk (below_step hb h1) (blk_below h1 hbx) HE hz b h)
 case uE => exact right_may _ (fun _ _ => by kernel_rfl) _ _ _ W g b (fun W1 h1 => mc_uE w0 W1 g x cs hk (below_step hb h1) (blk_below h1 hbx) HE hz b h)
 case uI => exact right_may _ (fun _ _ => by kernel_rfl) _ _ _ W g b (fun W1 h1 => mc_uI w0 W1 g x cs hk (below_step hb h1) (blk_below h1 hbx) HE hz b h)
 case uP => exact right_may _ (fun _ _ => by kernel_rfl) _ _ _ W g b (fun W1 h1 => mc_uP w0 W1 g x cs hk (below_step hb h1) (blk_below h1 hbx) HE hz b h)
def Turned (w0 W W' : World) (g : Nat) (y : Note) : Prop := Moved W W' (fun k => k = g) ∧ ∃ cs : List Value, k34.K w0 y cs ∧ W'.heap[g]? = some (.cells cs.toArray 34 (0, 0))
set_option maxRecDepth 100000 in
set_option maxHeartbeats 1000000 in
theorem wc_uW (w0 W : World) (g : Nat) (x : Note) (cs : List Value) (hk : k34.K w0 x cs) (hbx : W.heap[g]? = some (.cells cs.toArray 34 (0, 0))) :
  Calls Tryz.prog 172 #[.pointer (some ⟨g, 0, none⟩)] W fun e W' => e = .returned (.tuple #[]) ∧ Turned w0 W W' g (clrF .uW x) := by
 obtain ⟨A11, c11, A12, c12, A16, c16, A17, c17, A18, c18, A19, c19, rfl, l11, g11, l12, g12, l16, g16, l17, g17, l18, g18, l19, g19⟩ := k34_open hk
 have hc := blk_cell hbx
 have hf := blk_frozen hbx
 have n_17 : W.cell? ⟨g, 17, none⟩ = some (.slice A17 x.f12.length c17) := hc 17
 have HX := Aside0.mk (blk_set (hbx) 17 (.slice none 0 0))
 have HM := Aside0.mk ((Moved.refl W (fun k => k = g)).set_ (p := ⟨g, 17, none⟩) (.inl rfl) (.slice none 0 0))
 have HKK := Aside0.mk (k34_mk w0 (clrF .uW x) l11 g11 l12 g12 l16 g16 (Nat.le_refl 0) (nil_C _ _) l18 g18 l19 g19)
 clear hk hbx hc g11 l11 g12 l12 g16 l16 g17 l17 g18 l18 g19 l19
 go_enter Tryz.func172, Tryz.ntmps172
 go_wp2_with fail
 first | go_end0 | refine bodyPost_ret (results_none rfl _ _ _) rfl ?_
 exact ⟨rfl, HM.out, _, HKK.out, by simpa [clrF] using HX.out⟩
set_option maxRecDepth 100000 in
set_option maxHeartbeats 1000000 in
theorem wc_le (w0 W : World) (g : Nat) (x : Note) (cs : List Value) (hk : k34.K w0 x cs) (hbx : W.heap[g]? = some (.cells cs.toArray 34 (0, 0))) :
  Calls Tryz.prog 237 #[.pointer (some ⟨g, 0, none⟩)] W fun e W' => e = .returned (.tuple #[]) ∧ Turned w0 W W' g (clrF .le x) := by
 obtain ⟨A11, c11, A12, c12, A16, c16, A17, c17, A18, c18, A19, c19, rfl, l11, g11, l12, g12, l16, g16, l17, g17, l18, g18, l19, g19⟩ := k34_open hk
 have hc := blk_cell hbx
 have hf := blk_frozen hbx
 have n_10 : W.cell? ⟨g, 10, none⟩ = some (.int .i64 x.f8) := hc 10
 have HX := Aside0.mk (blk_set (hbx) 10 (.int .i64 0))
 have HM := Aside0.mk ((Moved.refl W (fun k => k = g)).set_ (p := ⟨g, 10, none⟩) (.inl rfl) (.int .i64 0))
 have HKK := Aside0.mk (k34_mk w0 (clrF .le x) l11 g11 l12 g12 l16 g16 l17 g17 l18 g18 l19 g19)
 clear hk hbx hc g11 l11 g12 l12 g16 l16 g17 l17 g18 l18 g19 l19
 go_enter Tryz.func237, Tryz.ntmps237
 go_wp2_with fail
 first | go_end0 | refine bodyPost_ret (results_none rfl _ _ _) rfl ?_
 exact ⟨rfl, HM.out, _, HKK.out, by simpa [clrF] using HX.out⟩
set_option maxRecDepth 100000 in
set_option maxHeartbeats 1000000 in
theorem wc_lv (w0 W : World) (g : Nat) (x : Note) (cs : List Value) (hk : k34.K w0 x cs) (hbx : W.heap[g]? = some (.cells cs.toArray 34 (0, 0))) :
  Calls Tryz.prog 241 #[.pointer (some ⟨g, 0, none⟩)] W fun e W' => e = .returned (.tuple #[]) ∧ Turned w0 W W' g (clrF .lv x) := by
 obtain ⟨A11, c11, A12, c12, A16, c16, A17, c17, A18, c18, A19, c19, rfl, l11, g11, l12, g12, l16, g16, l17, g17, l18, g18, l19, g19⟩ := k34_open hk
 have hc := blk_cell hbx
 have hf := blk_frozen hbx
 have n_1 : W.cell? ⟨g, 1, none⟩ = some (.int .i64 x.f1.f0) := hc 1
 have n_2 : W.cell? ⟨g, 2, none⟩ = some (.int .i64 x.f1.f1) := hc 2
 have n_3 : W.cell? ⟨g, 3, none⟩ = some (.int .i64 x.f1.f2) := hc 3
 have HX := Aside0.mk (blk_set (blk_set (blk_set (hbx) 1 (.int .i64 0)) 2 (.int .i64 0)) 3 (.int .i64 0))
 have HM := Aside0.mk ((((Moved.refl W (fun k => k = g)).set_ (p := ⟨g, 1, none⟩) (.inl rfl) (.int .i64 0)).set_ (p := ⟨g, 2, none⟩) (.inl rfl) (.int .i64 0)).set_ (p := ⟨g, 3, none⟩) (.inl rfl) (.int .i64 0))
 have HKK := Aside0.mk (k34_mk w0 (clrF .lv x) l11 g11 l12 g12 l16 g16 l17 g17 l18 g18 l19 g19)
 clear hk hbx hc g11 l11 g12 l12 g16 l16 g17 l17 g18 l18 g19 l19
 go_enter Tryz.func241, Tryz.ntmps241
 go_wp2_with fail
 first | go_end0 | refine bodyPost_ret (results_none rfl _ _ _) rfl ?_
 exact ⟨rfl, HM.out, _, HKK.out, by simpa [clrF] using HX.out⟩
set_option maxRecDepth 100000 in
set_option maxHeartbeats 1000000 in
theorem wc_ly (w0 W : World) (g : Nat) (x : Note) (cs : List Value) (hk : k34.K w0 x cs) (hbx : W.heap[g]? = some (.cells cs.toArray 34 (0, 0))) :
  Calls Tryz.prog 184 #[.pointer (some ⟨g, 0, none⟩)] W fun e W' => e = .returned (.tuple #[]) ∧ Turned w0 W W' g (clrF .ly x) := by
 obtain ⟨A11, c11, A12, c12, A16, c16, A17, c17, A18, c18, A19, c19, rfl, l11, g11, l12, g12, l16, g16, l17, g17, l18, g18, l19, g19⟩ := k34_open hk
 have hc := blk_cell hbx
 have hf := blk_frozen hbx
 have n_13 : W.cell? ⟨g, 13, none⟩ = some (.int .i64 x.f11.f0) := hc 13
 have n_14 : W.cell? ⟨g, 14, none⟩ = some (.int .i64 x.f11.f1) := hc 14
 have n_15 : W.cell? ⟨g, 15, none⟩ = some (.int .i64 x.f11.f2) := hc 15
 have n_16 : W.cell? ⟨g, 16, none⟩ = some (.slice A16 x.f11.f3.length c16) := hc 16
 have HX := Aside0.mk (blk_set (blk_set (blk_set (blk_set (hbx) 13 (.int .i64 0)) 14 (.int .i64 0)) 15 (.int .i64 0)) 16 (.slice none 0 0))
 have HM := Aside0.mk (((((Moved.refl W (fun k => k = g)).set_ (p := ⟨g, 13, none⟩) (.inl rfl) (.int .i64 0)).set_ (p := ⟨g, 14, none⟩) (.inl rfl) (.int .i64 0)).set_ (p := ⟨g, 15, none⟩) (.inl rfl) (.int .i64 0)).set_ (p := ⟨g, 16, none⟩) (.inl rfl) (.slice none 0 0))
 have HKK := Aside0.mk (k34_mk w0 (clrF .ly x) l11 g11 l12 g12 (Nat.le_refl 0) (nil_C _ _) l17 g17 l18 g18 l19 g19)
 clear hk hbx hc g11 l11 g12 l12 g16 l16 g17 l17 g18 l18 g19 l19
 go_enter Tryz.func184, Tryz.ntmps184
 go_wp2_with fail
 first | go_end0 | refine bodyPost_ret (results_none rfl _ _ _) rfl ?_
 exact ⟨rfl, HM.out, _, HKK.out, by simpa [clrF] using HX.out⟩
set_option maxRecDepth 100000 in
set_option maxHeartbeats 1000000 in
theorem wc_la (w0 W : World) (g : Nat) (x : Note) (cs : List Value) (hk : k34.K w0 x cs) (hbx : W.heap[g]? = some (.cells cs.toArray 34 (0, 0))) :
  Calls Tryz.prog 189 #[.pointer (some ⟨g, 0, none⟩)] W fun e W' => e = .returned (.tuple #[]) ∧ Turned w0 W W' g (clrF .la x) := by
 obtain ⟨A11, c11, A12, c12, A16, c16, A17, c17, A18, c18, A19, c19, rfl, l11, g11, l12, g12, l16, g16, l17, g17, l18, g18, l19, g19⟩ := k34_open hk
 have hc := blk_cell hbx
 have hf := blk_frozen hbx
 have n_20 : W.cell? ⟨g, 20, none⟩ = some (.string x.f15) := hc 20
 have HX := Aside0.mk (blk_set (hbx) 20 (.string ⟨#[]⟩))
 have HM := Aside0.mk ((Moved.refl W (fun k => k = g)).set_ (p := ⟨g, 20, none⟩) (.inl rfl) (.string ⟨#[]⟩))
 have HKK := Aside0.mk (k34_mk w0 (clrF .la x) l11 g11 l12 g12 l16 g16 l17 g17 l18 g18 l19 g19)
 clear hk hbx hc g11 l11 g12 l12 g16 l16 g17 l17 g18 l18 g19 l19
 go_enter Tryz.func189, Tryz.ntmps189
 go_wp2_with fail
 first | go_end0 | refine bodyPost_ret (results_none rfl _ _ _) rfl ?_
 exact ⟨rfl, HM.out, _, HKK.out, by simpa [clrF] using HX.out⟩
set_option maxRecDepth 100000 in
set_option maxHeartbeats 1000000 in
theorem wc_lo (w0 W : World) (g : Nat) (x : Note) (cs : List Value) (hk : k34.K w0 x cs) (hbx : W.heap[g]? = some (.cells cs.toArray 34 (0, 0))) :
  Calls Tryz.prog 193 #[.pointer (some ⟨g, 0, none⟩)] W fun e W' => e = .returned (.tuple #[]) ∧ Turned w0 W W' g (clrF .lo x) := by
 obtain ⟨A11, c11, A12, c12, A16, c16, A17, c17, A18, c18, A19, c19, rfl, l11, g11, l12, g12, l16, g16, l17, g17, l18, g18, l19, g19⟩ := k34_open hk
 have hc := blk_cell hbx
 have hf := blk_frozen hbx
 have n_11 : W.cell? ⟨g, 11, none⟩ = some (.slice A11 x.f9.length c11) := hc 11
 have HX := Aside0.mk (blk_set (hbx) 11 (.slice none 0 0))
 have HM := Aside0.mk ((Moved.refl W (fun k => k = g)).set_ (p := ⟨g, 11, none⟩) (.inl rfl) (.slice none 0 0))
 have HKK := Aside0.mk (k34_mk w0 (clrF .lo x) (Nat.le_refl 0) (nil_C _ _) l12 g12 l16 g16 l17 g17 l18 g18 l19 g19)
 clear hk hbx hc g11 l11 g12 l12 g16 l16 g17 l17 g18 l18 g19 l19
 go_enter Tryz.func193, Tryz.ntmps193
 go_wp2_with fail
 first | go_end0 | refine bodyPost_ret (results_none rfl _ _ _) rfl ?_
 exact ⟨rfl, HM.out, _, HKK.out, by simpa [clrF] using HX.out⟩
set_option maxRecDepth 100000 in
set_option maxHeartbeats 1000000 in
theorem wc_uE (w0 W : World) (g : Nat) (x : Note) (cs : List Value) (hk : k34.K w0 x cs) (hbx : W.heap[g]? = some (.cells cs.toArray 34 (0, 0))) :
  Calls Tryz.prog 199 #[.pointer (some ⟨g, 0, none⟩)] W fun e W' => e = .returned (.tuple #[]) ∧ Turned w0 W W' g (clrF .uE x) := by
 obtain ⟨A11, c11, A12, c12, A16, c16, A17, c17, A18, c18, A19, c19, rfl, l11, g11, l12, g12, l16, g16, l17, g17, l18, g18, l19, g19⟩ := k34_open hk
 have hc := blk_cell hbx
 have hf := blk_frozen hbx
 have n_12 : W.cell? ⟨g, 12, none⟩ = some (.slice A12 x.f10.length c12) := hc 12
 have HX := Aside0.mk (blk_set (hbx) 12 (.slice none 0 0))
 have HM := Aside0.mk ((Moved.refl W (fun k => k = g)).set_ (p := ⟨g, 12, none⟩) (.inl rfl) (.slice none 0 0))
 have HKK := Aside0.mk (k34_mk w0 (clrF .uE x) l11 g11 (Nat.le_refl 0) (nil_C _ _) l16 g16 l17 g17 l18 g18 l19 g19)
 clear hk hbx hc g11 l11 g12 l12 g16 l16 g17 l17 g18 l18 g19 l19
 go_enter Tryz.func199, Tryz.ntmps199
 go_wp2_with fail
 first | go_end0 | refine bodyPost_ret (results_none rfl _ _ _) rfl ?_
 exact ⟨rfl, HM.out, _, HKK.out, by simpa [clrF] using HX.out⟩
set_option maxRecDepth 100000 in
set_option maxHeartbeats 1000000 in
theorem wc_uI (w0 W : World) (g : Nat) (x : Note) (cs : List Value) (hk : k34.K w0 x cs) (hbx : W.heap[g]? = some (.cells cs.toArray 34 (0, 0))) :
  Calls Tryz.prog 208 #[.pointer (some ⟨g, 0, none⟩)] W fun e W' => e = .returned (.tuple #[]) ∧ Turned w0 W W' g (clrF .uI x) := by
 obtain ⟨A11, c11, A12, c12, A16, c16, A17, c17, A18, c18, A19, c19, rfl, l11, g11, l12, g12, l16, g16, l17, g17, l18, g18, l19, g19⟩ := k34_open hk
 have hc := blk_cell hbx
 have hf := blk_frozen hbx
 have n_19 : W.cell? ⟨g, 19, none⟩ = some (.slice A19 x.f14.length c19) := hc 19
 have HX := Aside0.mk (blk_set (hbx) 19 (.slice none 0 0))
 have HM := Aside0.mk ((Moved.refl W (fun k => k = g)).set_ (p := ⟨g, 19, none⟩) (.inl rfl) (.slice none 0 0))
 have HKK := Aside0.mk (k34_mk w0 (clrF .uI x) l11 g11 l12 g12 l16 g16 l17 g17 l18 g18 (Nat.le_refl 0) (nil_C _ _))
 clear hk hbx hc g11 l11 g12 l12 g16 l16 g17 l17 g18 l18 g19 l19
 go_enter Tryz.func208, Tryz.ntmps208
 go_wp2_with fail
 first | go_end0 | refine bodyPost_ret (results_none rfl _ _ _) rfl ?_
 exact ⟨rfl, HM.out, _, HKK.out, by simpa [clrF] using HX.out⟩
set_option maxRecDepth 100000 in
set_option maxHeartbeats 1000000 in
theorem wc_uP (w0 W : World) (g : Nat) (x : Note) (cs : List Value) (hk : k34.K w0 x cs) (hbx : W.heap[g]? = some (.cells cs.toArray 34 (0, 0))) :
  Calls Tryz.prog 217 #[.pointer (some ⟨g, 0, none⟩)] W fun e W' => e = .returned (.tuple #[]) ∧ Turned w0 W W' g (clrF .uP x) := by
 obtain ⟨A11, c11, A12, c12, A16, c16, A17, c17, A18, c18, A19, c19, rfl, l11, g11, l12, g12, l16, g16, l17, g17, l18, g18, l19, g19⟩ := k34_open hk
 have hc := blk_cell hbx
 have hf := blk_frozen hbx
 have n_18 : W.cell? ⟨g, 18, none⟩ = some (.slice A18 x.f13.length c18) := hc 18
 have HX := Aside0.mk (blk_set (hbx) 18 (.slice none 0 0))
 have HM := Aside0.mk ((Moved.refl W (fun k => k = g)).set_ (p := ⟨g, 18, none⟩) (.inl rfl) (.slice none 0 0))
 have HKK := Aside0.mk (k34_mk w0 (clrF .uP x) l11 g11 l12 g12 l16 g16 l17 g17 (Nat.le_refl 0) (nil_C _ _) l19 g19)
 clear hk hbx hc g11 l11 g12 l12 g16 l16 g17 l17 g18 l18 g19 l19
 go_enter Tryz.func217, Tryz.ntmps217
 go_wp2_with fail
 first | go_end0 | refine bodyPost_ret (results_none rfl _ _ _) rfl ?_
 exact ⟨rfl, HM.out, _, HKK.out, by simpa [clrF] using HX.out⟩
theorem c_clear (l : Ltr) (w0 W : World) (g : Nat) (x : Note) (cs : List Value) (hk : k34.K w0 x cs) (hb : Below w0.heap.size w0 W) (hbx : W.heap[g]? = some (.cells cs.toArray 34 (0, 0))) :
  Calls Tryz.prog 43 #[.agg (fCells l).toArray, .pointer (some ⟨g, 0, none⟩)] W fun e W' => e = .returned (.tuple #[]) ∧ Turned w0 W W' g (clrF l x) := by
 cases l
 case ln =>
  obtain ⟨A11, c11, A12, c12, A16, c16, A17, c17, A18, c18, A19, c19, rfl, l11, g11, l12, g12, l16, g16, l17, g17, l18, g18, l19, g19⟩ := k34_open hk
  exact (clear_num _ 1 (fun _ _ => by kernel_rfl) n_ln 1 x.f1.f0 W g _ hbx rfl).mono fun e W' ⟨he, hm, hx⟩ => ⟨he, hm, _, k34_mk w0 (clrF .ln x) l11 g11 l12 g12 l16 g16 l17 g17 l18 g18 l19 g19, by simpa [clrF] using hx⟩
 case ls =>
  obtain ⟨A11, c11, A12, c12, A16, c16, A17, c17, A18, c18, A19, c19, rfl, l11, g11, l12, g12, l16, g16, l17, g17, l18, g18, l19, g19⟩ := k34_open hk
  exact (clear_num _ 4 (fun _ _ => by kernel_rfl) n_ls 1 x.f2 W g _ hbx rfl).mono fun e W' ⟨he, hm, hx⟩ => ⟨he, hm, _, k34_mk w0 (clrF .ls x) l11 g11 l12 g12 l16 g16 l17 g17 l18 g18 l19 g19, by simpa [clrF] using hx⟩
 case lc =>
  obtain ⟨A11, c11, A12, c12, A16, c16, A17, c17, A18, c18, A19, c19, rfl, l11, g11, l12, g12, l16, g16, l17, g17, l18, g18, l19, g19⟩ := k34_open hk
  exact (clear_num _ 5 (fun _ _ => by kernel_rfl) n_lc 1 x.f3 W g _ hbx rfl).mono fun e W' ⟨he, hm, hx⟩ => ⟨he, hm, _, k34_mk w0 (clrF .lc x) l11 g11 l12 g12 l16 g16 l17 g17 l18 g18 l19 g19, by simpa [clrF] using hx⟩
 case lr =>
  obtain ⟨A11, c11, A12, c12, A16, c16, A17, c17, A18, c18, A19, c19, rfl, l11, g11, l12, g12, l16, g16, l17, g17, l18, g18, l19, g19⟩ := k34_open hk
  exact (clear_num _ 6 (fun _ _ => by kernel_rfl) n_lr 1 x.f4 W g _ hbx rfl).mono fun e W' ⟨he, hm, hx⟩ => ⟨he, hm, _, k34_mk w0 (clrF .lr x) l11 g11 l12 g12 l16 g16 l17 g17 l18 g18 l19 g19, by simpa [clrF] using hx⟩
 case lt =>
  obtain ⟨A11, c11, A12, c12, A16, c16, A17, c17, A18, c18, A19, c19, rfl, l11, g11, l12, g12, l16, g16, l17, g17, l18, g18, l19, g19⟩ := k34_open hk
  exact (clear_num _ 7 (fun _ _ => by kernel_rfl) n_lt 0 x.f5 W g _ hbx rfl).mono fun e W' ⟨he, hm, hx⟩ => ⟨he, hm, _, k34_mk w0 (clrF .lt x) l11 g11 l12 g12 l16 g16 l17 g17 l18 g18 l19 g19, by simpa [clrF] using hx⟩
 case lf =>
  obtain ⟨A11, c11, A12, c12, A16, c16, A17, c17, A18, c18, A19, c19, rfl, l11, g11, l12, g12, l16, g16, l17, g17, l18, g18, l19, g19⟩ := k34_open hk
  exact (clear_num _ 8 (fun _ _ => by kernel_rfl) n_lf 0 x.f6 W g _ hbx rfl).mono fun e W' ⟨he, hm, hx⟩ => ⟨he, hm, _, k34_mk w0 (clrF .lf x) l11 g11 l12 g12 l16 g16 l17 g17 l18 g18 l19 g19, by simpa [clrF] using hx⟩
 case lm =>
  obtain ⟨A11, c11, A12, c12, A16, c16, A17, c17, A18, c18, A19, c19, rfl, l11, g11, l12, g12, l16, g16, l17, g17, l18, g18, l19, g19⟩ := k34_open hk
  exact (clear_num _ 9 (fun _ _ => by kernel_rfl) n_lm 0 x.f7 W g _ hbx rfl).mono fun e W' ⟨he, hm, hx⟩ => ⟨he, hm, _, k34_mk w0 (clrF .lm x) l11 g11 l12 g12 l16 g16 l17 g17 l18 g18 l19 g19, by simpa [clrF] using hx⟩
 case uW => exact clear_wipe _ (fun _ _ => by kernel_rfl) _ _ _ W g _ ((wc_uW w0 _ g x cs hk (blk_below (below_alloc (Below.refl _ _) _) hbx)).mono fun e W' ⟨he, hm, hx⟩ => ⟨he, (Moved.of_below (below_alloc (Below.refl _ _) _) (fun k => k = g)).trans hm (fun _ _ h => h), hx⟩)
 case lw => exact clear_wipe _ (fun _ _ => by kernel_rfl) _ _ _ W g _ ((wc_uW w0 _ g x cs hk (blk_below (below_alloc (Below.refl _ _) _) hbx)).mono fun e W' ⟨he, hm, hx⟩ => ⟨he, (Moved.of_below (below_alloc (Below.refl _ _) _) (fun k => k = g)).trans hm (fun _ _ h => h), hx⟩)
 case ld => exact clear_wipe _ (fun _ _ => by kernel_rfl) _ _ _ W g _ ((wc_uW w0 _ g x cs hk (blk_below (below_alloc (Below.refl _ _) _) hbx)).mono fun e W' ⟨he, hm, hx⟩ => ⟨he, (Moved.of_below (below_alloc (Below.refl _ _) _) (fun k => k = g)).trans hm (fun _ _ h => h), hx⟩)
 case uD => exact clear_wipe _ (fun _ _ => by kernel_rfl) _ _ _ W g _ ((wc_uW w0 _ g x cs hk (blk_below (below_alloc (Below.refl _ _) _) hbx)).mono fun e W' ⟨he, hm, hx⟩ => ⟨he, (Moved.of_below (below_alloc (Below.refl _ _) _) (fun k => k = g)).trans hm (fun _ _ h => h), hx⟩)
 case le => exact clear_wipe _ (fun _ _ => by kernel_rfl) _ _ _ W g _ ((wc_le w0 _ g x cs hk (blk_below (below_alloc (Below.refl _ _) _) hbx)).mono fun e W' ⟨he, hm, hx⟩ => ⟨he, (Moved.of_below (below_alloc (Below.refl _ _) _) (fun k => k = g)).trans hm (fun _ _ h => h), hx⟩)
 case lv => exact clear_wipe _ (fun _ _ => by kernel_rfl) _ _ _ W g _ ((wc_lv w0 _ g x cs hk (blk_below (below_alloc (Below.refl _ _) _) hbx)).mono fun e W' ⟨he, hm, hx⟩ => ⟨he, (Moved.of_below (below_alloc (Below.refl _ _) _) (fun k => k = g)).trans hm (fun _ _ h => h), hx⟩)
 case ly => exact clear_wipe _ (fun _ _ => by kernel_rfl) _ _ _ W g _ ((wc_ly w0 _ g x cs hk (blk_below (below_alloc (Below.refl _ _) _) hbx)).mono fun e W' ⟨he, hm, hx⟩ => ⟨he, (Moved.of_below (below_alloc (Below.refl _ _) _) (fun k => k = g)).trans hm (fun _ _ h => h), hx⟩)
 case la => exact clear_wipe _ (fun _ _ => by kernel_rfl) _ _ _ W g _ ((wc_la w0 _ g x cs hk (blk_below (below_alloc (Below.refl _ _) _) hbx)).mono fun e W' ⟨he, hm, hx⟩ => ⟨he, (Moved.of_below (below_alloc (Below.refl _ _) _) (fun k => k = g)).trans hm (fun _ _ h => h), hx⟩)
 case lo => exact clear_wipe _ (fun _ _ => by kernel_rfl) _ _ _ W g _ ((wc_lo w0 _ g x cs hk (blk_below (below_alloc (Below.refl _ _) _) hbx)).mono fun e W' ⟨he, hm, hx⟩ => ⟨he, (Moved.of_below (below_alloc (Below.refl _ _) _) (fun k => k = g)).trans hm (fun _ _ h => h), hx⟩)
 case uE => exact clear_wipe _ (fun _ _ => by kernel_rfl) _ _ _ W g _ ((wc_uE w0 _ g x cs hk (blk_below (below_alloc (Below.refl _ _) _) hbx)).mono fun e W' ⟨he, hm, hx⟩ => ⟨he, (Moved.of_below (below_alloc (Below.refl _ _) _) (fun k => k = g)).trans hm (fun _ _ h => h), hx⟩)
 case uI => exact clear_wipe _ (fun _ _ => by kernel_rfl) _ _ _ W g _ ((wc_uI w0 _ g x cs hk (blk_below (below_alloc (Below.refl _ _) _) hbx)).mono fun e W' ⟨he, hm, hx⟩ => ⟨he, (Moved.of_below (below_alloc (Below.refl _ _) _) (fun k => k = g)).trans hm (fun _ _ h => h), hx⟩)
 case uP => exact clear_wipe _ (fun _ _ => by kernel_rfl) _ _ _ W g _ ((wc_uP w0 _ g x cs hk (blk_below (below_alloc (Below.refl _ _) _) hbx)).mono fun e W' ⟨he, hm, hx⟩ => ⟨he, (Moved.of_below (below_alloc (Below.refl _ _) _) (fun k => k = g)).trans hm (fun _ _ h => h), hx⟩)
end Go.Proofs.YtmneemhplffemaaGreatDoorRR.Tab
namespace Go.Proofs.YtmneemhplffemaaGreatDoorRR.Tab
open Go.RowKit Go.Proofs.YtmneemhplffemaaGreatDoorRR.Ord Go.Proofs.YtmneemhplffemaaGreatDoorRR.Name Go.Proofs.YtmneemhplffemaaGreatDoorRR.Ext Go.Proofs.YtmneemhplffemaaGreatDoorRR.Mem Go.Proofs.YtmneemhplffemaaGreatDoorRR.Law Go.Proofs.YtmneemhplffemaaGreatDoorRR.Row Go.Proofs.YtmneemhplffemaaGreatDoorRR.Ki Go.Proofs.YtmneemhplffemaaGreatDoorRR.Chk Go.Proofs.YtmneemhplffemaaGreatDoorRR.May Go.Proofs.YtmneemhplffemaaGreatDoorRRW.PrintWords


theorem infoNote : (Tryz.prog.info? 34).map (·.size) = some 21 := by kernel_rfl
theorem at_field {w : World} {A : Option Addr} {xs : List Ltr} (h : kField.C w A xs.length xs) (i : Nat) (l : Ltr) (hl : xs[i]? = some l) {q0 q1 q2 q3 q4 q5 : Value} (hq : fCells l = [q0, q1, q2, q3, q4, q5]) :
  ∃ ad, A = some ad ∧ w.cell? (ad.add (i * 6)) = some q0 ∧ w.cell? ⟨(ad.add (i * 6)).block, (ad.add (i * 6)).off + 1, none⟩ = some q1 ∧ w.cell? ⟨(ad.add (i * 6)).block, (ad.add (i * 6)).off + 2, none⟩ = some q2 ∧ w.cell? ⟨(ad.add (i * 6)).block, (ad.add (i * 6)).off + 3, none⟩ = some q3 ∧ w.cell? ⟨(ad.add (i * 6)).block, (ad.add (i * 6)).off + 4, none⟩ = some q4 ∧ w.cell? ⟨(ad.add (i * 6)).block, (ad.add (i * 6)).off + 5, none⟩ = some q5 := by
 obtain ⟨hi, he⟩ := List.getElem?_eq_some_iff.1 hl
 obtain ⟨ad, c, e, _, hK, hc0⟩ := Kd.C_get h .ln (i : Int) (by omega) (by omega)
 have hc : ∀ j u, c[j]? = some u → w.cell? (ad.add (i * 6 + j)) = some u := hc0
 have hx : c = [q0, q1, q2, q3, q4, q5] := by
  rw [← hq]
  have hk : c = fCells (xs.getD (i : Int).toNat .ln) := hK
  rw [hk, Int.toNat_natCast, List.getD_eq_getElem?_getD, hl]
  rfl
 subst hx
 exact ⟨ad, e, hc 0 _ rfl, by rw [← add_field _ _ 1 (by omega)]; exact hc 1 _ rfl, by rw [← add_field _ _ 2 (by omega)]; exact hc 2 _ rfl, by rw [← add_field _ _ 3 (by omega)]; exact hc 3 _ rfl, by rw [← add_field _ _ 4 (by omega)]; exact hc 4 _ rfl, by rw [← add_field _ _ 5 (by omega)]; exact hc 5 _ rfl⟩
theorem q_one {l : Ltr} {q0 q1 q2 q3 q4 q5 : Value} (hq : fCells l = [q0, q1, q2, q3, q4, q5]) : ∀ u ∈ (#[q0, q1, q2, q3, q4, q5] : Array Value).toList, u.oneCell' = true := by
 intro u hu
 exact fCells_one l u (by rw [hq]; simpa using hu)
theorem cs_size {w0 : World} {x : Note} {cs : List Value} (hk : k34.K w0 x cs) : (Tryz.prog.info? 34).map (·.size) = some cs.toArray.size := by
 rw [infoNote]
 have h := k34.K_len hk
 rw [List.size_toArray, h]
 rfl
theorem shape_one {k : Nat} {A : Option Addr} {n c : Nat} {mf : Value} (hmf : mf = (if k = 13 then (.func (.func 90) #[] #[] : Value) else .nilFunc)) : ∀ u ∈ (#[.slice A n c, mf] : Array Value).toList, u.oneCell' = true := by
 intro u hu
 simp only [List.mem_cons, List.not_mem_nil, or_false] at hu
 rcases hu with rfl | rfl
 · rfl
 · rw [hmf]
   split <;> rfl
theorem note_one {w0 : World} {x : Note} {cs : List Value} (hk : k34.K w0 x cs) : ∀ u ∈ cs.toArray.toList, u.oneCell' = true := fun u hu => k34.K_one hk u hu
theorem note_size {w0 : World} {x : Note} {cs : List Value} (hk : k34.K w0 x cs) : (21 : Nat) = cs.toArray.size := by
 have h := k34.K_len hk
 rw [List.size_toArray, h]
 rfl
theorem Moved.above_ {w w1 : World} {o : Obj} {g : Nat} (h : Moved (w.alloc o) w1 (fun k => k = g)) (hg : w.heap.size ≤ g) : Below w.heap.size w w1 := h.above (below_alloc (Below.refl _ _) _) (fun k hk => by omega)
theorem check_true {x : Note} (h0 : 1 ≤ x.f0) (h1 : x.f0 < 25) (ha : (word x.f0.toNat).all (fun l => okF l x) = true) (hb : mBlank (clrFs (word x.f0.toNat) x) = true) (hg : x.f0 = 13 → mGranted x = true) : mCheck x = true := by
 unfold mCheck
 rw [decide_eq_true h0, decide_eq_true h1, ha, hb]
 by_cases h : x.f0 = 13
 · simp [hg h]
 · simp [h]
theorem clr_snoc (w : List Ltr) (l : Ltr) (x : Note) : clrFs (w ++ [l]) x = clrF l (clrFs w x) := by simp [clrFs]
theorem sane_clrs (w : List Ltr) : ∀ {x : Note}, Sane x → Sane (clrFs w x) := by
 induction w with
 | nil => exact fun h => h
 | cons l w ih => exact fun h => ih (sane_clr l h)
set_option maxRecDepth 100000 in
set_option maxHeartbeats 8000000 in
theorem c_checkP (w0 W : World) (x : Note) (cs : List Value) (hk : k34.K w0 x cs) (hb : Below w0.heap.size w0 W) (HE : EnvN w0) (hz : Sane x) :
   Calls Tryz.prog 17 #[.agg cs.toArray] W fun e W' => e = .returned (.int .i64 (if mCheck x = true then 0 else 30)) ∧ Below W.heap.size W W' := by
 obtain ⟨r, hr⟩ : ∃ r, r = (if mCheck x = true then (0 : Int) else 30) := ⟨_, rfl⟩
 rw [← hr]
 have HR := Aside0.mk hr
 have HK := Aside0.mk hk
 have HE := Aside0.mk HE
 have HZ := Aside0.mk hz
 have HA0 := Aside0.mk hb
 have hsz := cs_size hk
 have HSZ := Aside0.mk hsz
 have hn0 : cs.toArray[0]? = some (.int .i64 x.f0) := by
   obtain ⟨A11, c11, A12, c12, A16, c16, A17, c17, A18, c18, A19, c19, rfl, l11, g11, l12, g12, l16, g16, l17, g17, l18, g18, l19, g19⟩ := k34_open hk
   rfl
 clear hr hk hz hb hsz
 go_enter Tryz.func17, Tryz.ntmps17
 go_upto_region 1 with ((with_reducible refine gate_box (t := 34) rfl ?_); refine box_row rfl rfl rfl ?_; intro gb hgb w1 hbx hb1; have HBX := Aside0.mk hbx; have HB1 := Aside0.mk hb1; have HGB := Aside0.mk hgb; clear hbx hb1 hgb)
 have n_0 := (blk_cell HBX.out 0).trans hn0
 clear hn0
 cases h1 : decide (x.f0 < 1) with
 | true =>
   go_wp2_with fail
   go_ret
   exact ⟨by rw [HR.out, mCheck, show decide (1 ≤ x.f0) = false by have hq_ := of_decide_eq_true h1; simp; omega]; rfl, HB1.out⟩
 | false =>
   cases h2 : decide (x.f0 ≥ 25) with
   | true =>
     have h2_0 : decide ((25 : Int) ≤ x.f0) = true := h2
     go_wp2_with fail
     go_ret
     exact ⟨by rw [HR.out, mCheck, show decide (x.f0 < 25) = false by have hq_ := of_decide_eq_true h2; simp; omega]; simp, HB1.out⟩
   | false =>
     have h2_0 : decide ((25 : Int) ≤ x.f0) = false := h2
     have q1 := of_decide_eq_false h1
     have q2 := of_decide_eq_false h2
     obtain ⟨k, hkx⟩ := Int.eq_ofNat_of_zero_le (show 0 ≤ x.f0 by omega)
     have HKX := Aside0.mk hkx
     have hk25 : k < 25 := by omega
     rw [hkx] at n_0 h1 h2 h2_0
     clear hkx q1 q2
     have HEN := Aside0.mk ((HE.out.at_ HA0.out).at_ HB1.out)
     go_upto_region 4 with (first | (go_at_call 41; (with_reducible refine (t_shape k hk25 _ HEN.out).mono ?_); rintro e w2 ⟨hb2, v, rfl, ho⟩; obtain ⟨mf, hmf⟩ : ∃ mf, mf = (if k = 13 then (.func (.func 90) #[] #[] : Value) else .nilFunc) := ⟨_, rfl⟩; rw [← hmf]; have HMF := Aside0.mk hmf; obtain ⟨A, c, rfl⟩ := Kd.R_slice ho; have HO := Aside0.mk ho; have HB2 := Aside0.mk hb2; clear hb2 ho hmf) | ((with_reducible refine gate_store2 (t := 102) rfl ?_); refine store_row (old := #[.slice none 0 0, .nilFunc]) (cs := #[.slice A (word k).length c, mf]) rfl rfl rfl (blk_alloc _) rfl rfl infoShape rfl (shape_one HMF.out) ?_; intro w3 hm3 hx3; have HS3 := Aside0.mk hx3; have HG3 := Aside0.mk (hm3.blk (blk_below (below_alloc (Below.refl _ _) _) (blk_below HB2.out HBX.out)) (Nat.ne_of_lt (blk_lt (blk_below HB2.out HBX.out)))); have HO3 := Aside0.mk (Kd.R_below HO.out (Moved.above_ hm3 (Nat.le_refl _))); have HB3 := Aside0.mk (below_step (below_step HB1.out HB2.out) (Moved.above_ hm3 (Nat.le_refl _))); clear hm3 hx3))
     go_wp2_with (first | ((with_reducible refine gate_load (t := 34) rfl ?_); refine load_row rfl rfl Tryz.underlying34 rfl HG3.out rfl HSZ.out ?_) | ((with_reducible refine gate_store2 (t := 34) rfl ?_); refine store_row (old := #[.int .i64 0, .int .i64 0, .int .i64 0, .int .i64 0, .int .i64 0, .int .i64 0, .int .i64 0, .int .i64 0, .int .i64 0, .int .i64 0, .int .i64 0, .slice none 0 0, .slice none 0 0, .int .i64 0, .int .i64 0, .int .i64 0, .slice none 0 0, .slice none 0 0, .slice none 0 0, .slice none 0 0, .string ⟨#[]⟩]) (cs := cs.toArray) rfl rfl rfl (blk_alloc _) rfl rfl HSZ.out (note_size HK.out) (note_one HK.out) ?_; intro w4 hm4 hx4; have HY4 := Aside0.mk hx4; have HG4 := Aside0.mk (hm4.blk (blk_below (below_alloc (Below.refl _ _) _) HG3.out) (Nat.ne_of_lt (blk_lt HG3.out))); have HS4 := Aside0.mk (hm4.blk (blk_below (below_alloc (Below.refl _ _) _) HS3.out) (Nat.ne_of_lt (blk_lt HS3.out))); have HO4 := Aside0.mk (Kd.R_below HO3.out (Moved.above_ hm4 (Nat.le_refl _))); have HB4 := Aside0.mk (below_step HB3.out (Moved.above_ hm4 (Nat.le_refl _))); have hcs := blk_cell HS4.out; clear hm4 hx4))
     have HNE1 := Aside0.mk (Nat.ne_of_lt (blk_lt HG3.out))
     have HNE2 := Aside0.mk (Nat.ne_of_lt (blk_lt HS3.out))
     have HGE := Aside0.mk HB3.out.size
     have hwl : (word k).length ≤ 6 := word_len k hk25
     go_loopw [22] (fun vi wr => ∃ i : Nat, vi = .int .i64 i ∧ i ≤ (word k).length ∧ Aside0 (((word k).take i).all (fun l => okF l x) = true) ∧ Aside0 (Below W.heap.size W wr) ∧ Aside0 (wr.heap[gb]? = some (Obj.cells cs.toArray 34 (0, 0))) ∧ Aside0 (wr.heap[w2.heap.size]? = some (Obj.cells #[.slice A (word k).length c, mf] 102 (0, 0))) ∧ Aside0 (kField.R 109 wr w1.heap.size (fun _ => True) (.slice A (word k).length c) (word k)) ∧ ∃ cs' : List Value, Aside0 (k34.K w0 (clrFs ((word k).take i) x) cs') ∧ Aside0 (wr.heap[w3.heap.size]? = some (Obj.cells cs'.toArray 34 (0, 0)))) (fun vi _ => (word k).length - (intOf vi).toNat)
     case atStart => exact ⟨0, rfl, Nat.zero_le _, ⟨rfl⟩, HB4, HG4, HS4, HO4, cs, HK, HY4⟩
     case round =>
      clear HB4 HG4 HS4 HO4 HY4 hcs n_0 HG3 HS3 HO3 HO HB3 HB2 HBX HEN
      obtain ⟨i, rfl, hi, HALL, HB, HG, HS, HO, cs', HKY, HY⟩ := hrel
      obtain ⟨wo, rfl⟩ : ∃ wo : World, wo = wr := ⟨_, rfl⟩
      by_cases hlt : i < (word k).length
      · obtain ⟨l, hl⟩ : ∃ l, (word k)[i]? = some l := ⟨_, List.getElem?_eq_getElem hlt⟩
        have HLT := Aside0.mk hl
        obtain ⟨q0, q1, q2, q3, q4, q5, hq⟩ := fCells_open l
        have HQ := Aside0.mk hq
        obtain ⟨ad, rfl, a_0, a_1, a_2, a_3, a_4, a_5⟩ := at_field (Kd.R_reads' HO.out).2.2 i l hl hq
        have HA := Aside0.mk (below_step HA0.out HB.out)
        clear hl hq
        cases hok : okF l x with
        | true =>
          go_wp2_with (first | ((with_reducible refine gate_store2 (t := 109) rfl ?_); refine store_row (old := #[.int .i64 0, .nilFunc, .nilFunc, .nilFunc, .nilFunc, .nilFunc]) (cs := #[q0, q1, q2, q3, q4, q5]) rfl rfl rfl (blk_alloc _) rfl rfl infoField rfl (q_one HQ.out) ?_; intro w5 hm5 hx5; have HF := Aside0.mk hx5; replace HG := Aside0.mk (blk_below (Moved.above_ hm5 (Nat.le_refl _)) HG.out); replace HS := Aside0.mk (blk_below (Moved.above_ hm5 (Nat.le_refl _)) HS.out); have hcs := blk_cell HS.out; replace HO := Aside0.mk (Kd.R_below HO.out (Moved.above_ hm5 (Nat.le_refl _))); replace HY := Aside0.mk (blk_below (Moved.above_ hm5 (Nat.le_refl _)) HY.out); replace HB := Aside0.mk (below_step HB.out (Moved.above_ hm5 (Nat.le_refl _))); replace HA := Aside0.mk (below_step HA.out (Moved.above_ hm5 (Nat.le_refl _))); clear hm5 hx5 a_0 a_1 a_2 a_3 a_4 a_5) | ((with_reducible refine gate_load (t := 109) rfl ?_); refine load_row rfl rfl Tryz.underlying109 rfl HF.out rfl infoField ?_) | (go_at_call 42; have hri := c_right l w0 _ gb x cs HK.out HA.out HG.out HE.out.env HZ.out _ hok; rw [HQ.out] at hri; (with_reducible refine hri.mono ?_); clear hri; rintro e w6 ⟨rfl, hb6⟩; replace HF := Aside0.mk (blk_below hb6 HF.out); replace HG := Aside0.mk (blk_below (hb6) HG.out); replace HS := Aside0.mk (blk_below (hb6) HS.out); have hcs := blk_cell HS.out; replace HO := Aside0.mk (Kd.R_below HO.out (hb6)); replace HY := Aside0.mk (blk_below (hb6) HY.out); replace HB := Aside0.mk (below_step HB.out (hb6)); replace HA := Aside0.mk (below_step HA.out (hb6)); clear hb6) | (go_at_call 43; have hcl := c_clear l w0 _ w3.heap.size (clrFs ((word k).take i) x) cs' HKY.out HA.out HY.out; rw [HQ.out] at hcl; (with_reducible refine hcl.mono ?_); clear hcl; rintro e w7 ⟨rfl, hm7, cs2, hk7, hx7⟩; have HK7 := Aside0.mk hk7; have HY7 := Aside0.mk hx7; have HG7 := Aside0.mk (hm7.blk HG.out HNE1.out); have HS7 := Aside0.mk (hm7.blk HS.out HNE2.out); have HO7 := Aside0.mk (Get.R_moved HO.out HY.out (by decide) hm7); have HB7 := Aside0.mk (hm7.above HB.out (fun k hk => by rw [hk]; exact HGE.out)); clear hm7 hk7 hx7))
          go_roundw
          case rel => exact ⟨i + 1, by go_num, by omega, ⟨all_step HLT.out HALL.out hok⟩, HB7, HG7, HS7, HO7, cs2, ⟨by rw [List.take_add_one, HLT.out]; exact (clr_snoc _ l x) ▸ HK7.out⟩, HY7⟩
          case measure => simp [intOf]; omega
        | false =>
          go_wp2_with (first | ((with_reducible refine gate_store2 (t := 109) rfl ?_); refine store_row (old := #[.int .i64 0, .nilFunc, .nilFunc, .nilFunc, .nilFunc, .nilFunc]) (cs := #[q0, q1, q2, q3, q4, q5]) rfl rfl rfl (blk_alloc _) rfl rfl infoField rfl (q_one HQ.out) ?_; intro w5 hm5 hx5; have HF := Aside0.mk hx5; replace HG := Aside0.mk (blk_below (Moved.above_ hm5 (Nat.le_refl _)) HG.out); replace HS := Aside0.mk (blk_below (Moved.above_ hm5 (Nat.le_refl _)) HS.out); have hcs := blk_cell HS.out; replace HO := Aside0.mk (Kd.R_below HO.out (Moved.above_ hm5 (Nat.le_refl _))); replace HY := Aside0.mk (blk_below (Moved.above_ hm5 (Nat.le_refl _)) HY.out); replace HB := Aside0.mk (below_step HB.out (Moved.above_ hm5 (Nat.le_refl _))); replace HA := Aside0.mk (below_step HA.out (Moved.above_ hm5 (Nat.le_refl _))); clear hm5 hx5 a_0 a_1 a_2 a_3 a_4 a_5) | ((with_reducible refine gate_load (t := 109) rfl ?_); refine load_row rfl rfl Tryz.underlying109 rfl HF.out rfl infoField ?_) | (go_at_call 42; have hri := c_right l w0 _ gb x cs HK.out HA.out HG.out HE.out.env HZ.out _ hok; rw [HQ.out] at hri; (with_reducible refine hri.mono ?_); clear hri; rintro e w6 ⟨rfl, hb6⟩; replace HF := Aside0.mk (blk_below hb6 HF.out); replace HG := Aside0.mk (blk_below (hb6) HG.out); replace HS := Aside0.mk (blk_below (hb6) HS.out); have hcs := blk_cell HS.out; replace HO := Aside0.mk (Kd.R_below HO.out (hb6)); replace HY := Aside0.mk (blk_below (hb6) HY.out); replace HB := Aside0.mk (below_step HB.out (hb6)); replace HA := Aside0.mk (below_step HA.out (hb6)); clear hb6))
          go_ret
          have hr30 : r = 30 := HR.out.trans (if_neg (fun hm => by have h := (checked hm).right l (by rw [HKX.out, Int.toNat_natCast]; exact List.mem_of_getElem? HLT.out); rw [hok] at h; cases h))
          exact ⟨by rw [hr30]; rfl, HB.out⟩
      · have htk : (word k).take i = word k := List.take_of_length_le (by omega)
        rw [htk] at HKY HALL
        clear htk
        have hcs := blk_cell HS.out
        have HA := Aside0.mk (below_step HA0.out HB.out)
        cases hbl : mBlank (clrFs (word k) x) with
        | false =>
          go_wp2_with (first | ((with_reducible refine gate_load (t := 34) rfl ?_); refine load_row rfl rfl Tryz.underlying34 rfl HY.out rfl (cs_size HKY.out) ?_) | (go_at_call 44; (with_reducible refine (m_blank w0 _ _ _ _ hbl HKY.out (sane_clrs _ HZ.out)).mono ?_); rintro e w8 ⟨rfl, hb8⟩; replace HG := Aside0.mk (blk_below (hb8) HG.out); replace HS := Aside0.mk (blk_below (hb8) HS.out); have hcs := blk_cell HS.out; replace HO := Aside0.mk (Kd.R_below HO.out (hb8)); replace HY := Aside0.mk (blk_below (hb8) HY.out); replace HB := Aside0.mk (below_step HB.out (hb8)); replace HA := Aside0.mk (below_step HA.out (hb8)); clear hb8))
          go_ret
          have hr30 : r = 30 := HR.out.trans (if_neg (fun hm => by have h := (checked hm).blank; rw [HKX.out, Int.toNat_natCast, hbl] at h; cases h))
          exact ⟨by rw [hr30]; rfl, HB.out⟩
        | true =>
          have q1 := of_decide_eq_false h1
          by_cases hk13 : k = 13
          · subst hk13
            have hmf := HMF.out
            rw [if_pos rfl] at hmf
            subst hmf
            have hne : ∀ w : World, (binOp BinOp.neq 100 (.func (.func 90) #[] #[]) .nilFunc).run Tryz.prog w = .ok (.bool true) w := fun _ => rfl
            have hP := List.all_eq_true.1 HALL.out .uP (by simp [word, ltrList])
            have hP1 : x.f13.length = 1 := by
              simp only [okF, Bool.and_eq_true, beq_iff_eq] at hP
              exact hP.1
            clear hP
            cases hg : mGranted x with
            | true =>
              go_wp2_with (first | ((with_reducible refine gate_load (t := 34) rfl ?_); refine load_row rfl rfl Tryz.underlying34 rfl HY.out rfl (cs_size HKY.out) ?_) | (go_at_call 44; (with_reducible refine (m_blank w0 _ _ _ _ hbl HKY.out (sane_clrs _ HZ.out)).mono ?_); rintro e w8 ⟨rfl, hb8⟩; replace HG := Aside0.mk (blk_below (hb8) HG.out); replace HS := Aside0.mk (blk_below (hb8) HS.out); have hcs := blk_cell HS.out; replace HO := Aside0.mk (Kd.R_below HO.out (hb8)); replace HY := Aside0.mk (blk_below (hb8) HY.out); replace HB := Aside0.mk (below_step HB.out (hb8)); replace HA := Aside0.mk (below_step HA.out (hb8)); clear hb8) | (go_at_call 90; (with_reducible refine (m_granted w0 _ gb x cs HK.out HA.out HG.out HE.out.env HZ.out hP1 _ hg).mono ?_); rintro e w9 ⟨rfl, hb9⟩; replace HG := Aside0.mk (blk_below (hb9) HG.out); replace HS := Aside0.mk (blk_below (hb9) HS.out); have hcs := blk_cell HS.out; replace HO := Aside0.mk (Kd.R_below HO.out (hb9)); replace HY := Aside0.mk (blk_below (hb9) HY.out); replace HB := Aside0.mk (below_step HB.out (hb9)); replace HA := Aside0.mk (below_step HA.out (hb9)); clear hb9))
              go_ret
              have hr0 : r = 0 := HR.out.trans (if_pos (check_true (by rw [HKX.out]; decide) (by rw [HKX.out]; decide) (by rw [HKX.out]; exact HALL.out) (by rw [HKX.out]; exact hbl) (fun _ => hg)))
              exact ⟨by rw [hr0]; rfl, HB.out⟩
            | false =>
              go_wp2_with (first | ((with_reducible refine gate_load (t := 34) rfl ?_); refine load_row rfl rfl Tryz.underlying34 rfl HY.out rfl (cs_size HKY.out) ?_) | (go_at_call 44; (with_reducible refine (m_blank w0 _ _ _ _ hbl HKY.out (sane_clrs _ HZ.out)).mono ?_); rintro e w8 ⟨rfl, hb8⟩; replace HG := Aside0.mk (blk_below (hb8) HG.out); replace HS := Aside0.mk (blk_below (hb8) HS.out); have hcs := blk_cell HS.out; replace HO := Aside0.mk (Kd.R_below HO.out (hb8)); replace HY := Aside0.mk (blk_below (hb8) HY.out); replace HB := Aside0.mk (below_step HB.out (hb8)); replace HA := Aside0.mk (below_step HA.out (hb8)); clear hb8) | (go_at_call 90; (with_reducible refine (m_granted w0 _ gb x cs HK.out HA.out HG.out HE.out.env HZ.out hP1 _ hg).mono ?_); rintro e w9 ⟨rfl, hb9⟩; replace HG := Aside0.mk (blk_below (hb9) HG.out); replace HS := Aside0.mk (blk_below (hb9) HS.out); have hcs := blk_cell HS.out; replace HO := Aside0.mk (Kd.R_below HO.out (hb9)); replace HY := Aside0.mk (blk_below (hb9) HY.out); replace HB := Aside0.mk (below_step HB.out (hb9)); replace HA := Aside0.mk (below_step HA.out (hb9)); clear hb9))
              go_ret
              have hr30 : r = 30 := HR.out.trans (if_neg (fun hm => by have h := (checked hm).granted HKX.out; rw [hg] at h; cases h))
              exact ⟨by rw [hr30]; rfl, HB.out⟩
          · have hmf := HMF.out
            rw [if_neg hk13] at hmf
            subst hmf
            have hne : ∀ w : World, (binOp BinOp.neq 100 .nilFunc .nilFunc).run Tryz.prog w = .ok (.bool false) w := fun _ => rfl
            go_wp2_with (first | ((with_reducible refine gate_load (t := 34) rfl ?_); refine load_row rfl rfl Tryz.underlying34 rfl HY.out rfl (cs_size HKY.out) ?_) | (go_at_call 44; (with_reducible refine (m_blank w0 _ _ _ _ hbl HKY.out (sane_clrs _ HZ.out)).mono ?_); rintro e w8 ⟨rfl, hb8⟩; replace HG := Aside0.mk (blk_below (hb8) HG.out); replace HS := Aside0.mk (blk_below (hb8) HS.out); have hcs := blk_cell HS.out; replace HO := Aside0.mk (Kd.R_below HO.out (hb8)); replace HY := Aside0.mk (blk_below (hb8) HY.out); replace HB := Aside0.mk (below_step HB.out (hb8)); replace HA := Aside0.mk (below_step HA.out (hb8)); clear hb8))
            go_ret
            have hr0 : r = 0 := HR.out.trans (if_pos (check_true (by rw [HKX.out]; omega) (by rw [HKX.out]; omega) (by rw [HKX.out]; exact HALL.out) (by rw [HKX.out]; exact hbl) (fun h => absurd (by rw [HKX.out] at h; omega) hk13)))
            exact ⟨by rw [hr0]; rfl, HB.out⟩
end Go.Proofs.YtmneemhplffemaaGreatDoorRR.Tab
namespace Go.Proofs.YtmneemhplffemaaGreatDoorRR.Tab
open Go.RowKit Go.Proofs.YtmneemhplffemaaGreatDoorRR.Ord Go.Proofs.YtmneemhplffemaaGreatDoorRR.Name Go.Proofs.YtmneemhplffemaaGreatDoorRR.Ext Go.Proofs.YtmneemhplffemaaGreatDoorRR.Wire Go.Proofs.YtmneemhplffemaaGreatDoorRR.Mem Go.Proofs.YtmneemhplffemaaGreatDoorRR.Put Go.Proofs.YtmneemhplffemaaGreatDoorRR.Get Go.Proofs.YtmneemhplffemaaGreatDoorRR.Law Go.Proofs.YtmneemhplffemaaGreatDoorRR.Row Go.Proofs.YtmneemhplffemaaGreatDoorRR.Ki Go.Proofs.YtmneemhplffemaaGreatDoorRR.Chk Go.Proofs.YtmneemhplffemaaGreatDoorRR.May Go.Proofs.YtmneemhplffemaaGreatDoorRRW.PrintWords


structure ReadOk (W : World) (gr g : Nat) (A : Option Addr) (n c base : Nat) (r : Option (Note × Nat)) (e : Ending) (W' : World) : Prop where mk ::
 mov : Moved W W' (fun k => k = gr ∨ k = g)
 bad : r = none → e = .panicked flaw
 good : ∀ y' a', r = some (y', a') → e = .returned (.tuple #[]) ∧ Eye W' gr A n c a' ∧ ∃ cs' : List Value, k34.M W' base (fun _ => True) y' cs' ∧ W'.heap[g]? = some (.cells cs'.toArray 34 (0, 0))
theorem read_ends {W : World} {gr g : Nat} {A : Option Addr} {n c base : Nat} {r : Option (Note × Nat)} : ∀ e W', ReadOk W gr g A n c base r e W' → e = .returned (.tuple #[]) ∨ e = .panicked flaw := by
 intro e W' h
 cases r with
 | none => exact .inr (h.bad rfl)
 | some p => exact .inl (h.good p.1 p.2 rfl).1
theorem M_set {w : World} {base g : Nat} {y : Note} {cs : List Value} {cells : Array Value} (h : k34.M w base (fun _ => True) y cs) (hb : w.heap[g]? = some (.cells cells 34 (0, 0))) (i : Nat) (u : Value) : k34.M (w.setCell ⟨g, i, none⟩ u) base (fun _ => True) y cs :=
 k34.M_mono (fun _ _ => trivial) (Kd.M_far (p := ⟨g, i, none⟩) (Kd.M_types h hb (by decide)) (fun _ hk => hk.2) u)
theorem note_cells {w : World} {base : Nat} {y : Note} {cs : List Value} (h : k34.M w base (fun _ => True) y cs) (j : Nat) (hj : j < 21) : ∃ u, cs.toArray[j]? = some u := by
 have hl := k34.K_len (k34.K_of_M h)
 exact ⟨_, Array.getElem?_eq_getElem (by rw [List.size_toArray, hl]; exact hj)⟩
set_option maxRecDepth 100000 in
set_option maxHeartbeats 2000000 in
theorem gc_uW (w0 W : World) (gr g : Nat) (A : Option Addr) (c a : Nat) (xs : List Int) (hD : Get.Data w0 A c xs) (ha : a ≤ xs.length) (hb : Below w0.heap.size w0 W) (hgr : w0.heap.size ≤ gr) (hE : Eye W gr A xs.length c a) (hne : g ≠ gr) (base : Nat) (hbW : base ≤ W.heap.size) (y : Note) (cs : List Value) (hm : k34.M W base (fun _ => True) y cs) (hbx : W.heap[g]? = some (.cells cs.toArray 34 (0, 0))) :
   Calls Tryz.prog 171 #[.pointer (some ⟨gr, 0, none⟩), .pointer (some ⟨g, 0, none⟩)] W (ReadOk W gr g A xs.length c base (dF .uW xs a y)) := by
 have HD := Aside0.mk hD
 have HB := Aside0.mk hb
 have HE := Aside0.mk hE
 have HM := Aside0.mk hm
 have HX := Aside0.mk hbx
 clear hD hb hE hm hbx
 go_enter Tryz.func171, Tryz.ntmps171
 go_wp2_with fail
 refine (getList_Watch 232 (fun args w => by kernel_rfl) dWatch w0 W gr A c a xs (get_Watch w0 A c xs HD.out) (goes_Watch HD.out.bytes) HD.out ha HB.out hgr HE.out).mono ?_
 rintro e w1 ⟨hm1, hn, hs⟩
 cases hr : dLst dWatch xs a with
 | none =>
   obtain rfl := hn hr
   have HR := Aside0.mk (show dF .uW xs a y = none by simp only [dF, hr, Option.bind_none])
   exact ⟨rfl, hm1.mono (fun _ _ h => .inl h), (fun _ => rfl), fun y' a' h => by rw [HR.out] at h; cases h⟩
 | some p =>
   obtain ⟨x, a1⟩ := p
   obtain ⟨v, rfl, ho, he⟩ := hs _ _ hr
   have HR := Aside0.mk (show dF .uW xs a y = _ by simp only [dF, hr, Option.bind_some]; rfl)
   obtain ⟨A2, n2, c2, rfl⟩ : ∃ A n c, v = .slice A n c := (by obtain ⟨A, c, h⟩ := Kd.R_slice ho; exact ⟨A, _, c, h⟩)
   have HO := Aside0.mk (Kd.R_lower ho hbW)
   clear ho
   have HX1 := Aside0.mk (hm1.blk HX.out hne)
   have HM1 := Aside0.mk (Get.M_moved HM.out HE.out (by decide) hm1)
   have HV1 := Aside0.mk (hm1.mono (S' := fun k => k = gr ∨ k = g) (fun _ _ h => .inl h))
   have HE1 := Aside0.mk he
   have hl := note_cells HM.out
   obtain ⟨u17, hu17⟩ := hl 17 (by omega)
   have hc17 := (blk_cell HX1.out 17).trans hu17
   have hf17 := blk_frozen HX1.out 17
   clear hl hm1 hn hs he hr
   go_wp2_with fail
   first | go_end0 | refine bodyPost_ret (results_none rfl _ _ _) rfl ?_
   have HXF := (blk_set HX1.out 17 (.slice A2 n2 c2))
   have HMF := (M_set HM1.out HX1.out 17 (.slice A2 n2 c2))
   have HEF : Eye _ gr A xs.length c a1 := (blk_far (p := ⟨g, 17, none⟩) HE1.out (fun h => hne h.symm) (.slice A2 n2 c2))
   have HVF := (HV1.out).set_ (p := ⟨g, 17, none⟩) (.inl (.inr rfl)) (.slice A2 n2 c2)
   have HL17 := (Kd.R_set HO.out HX1.out (by decide) 17 (.slice A2 n2 c2))
   obtain ⟨v11, v12, v16, v17, v18, v19, hcs, g11, g12, g16, g17, g18, g19⟩ := k34_openM HMF
   subst hcs
   refine ⟨HVF, (fun h => by rw [HR.out] at h; cases h), fun y' a' h => ?_⟩
   rw [HR.out] at h
   simp only [Option.some.injEq, Prod.mk.injEq] at h
   obtain ⟨rfl, rfl⟩ := h
   exact ⟨rfl, HEF, _, k34_mkM _ base _ { y with f12 := x } g11 g12 g16 HL17 g18 g19, by simpa using HXF⟩
set_option maxRecDepth 100000 in
set_option maxHeartbeats 2000000 in
theorem gc_lo (w0 W : World) (gr g : Nat) (A : Option Addr) (c a : Nat) (xs : List Int) (hD : Get.Data w0 A c xs) (ha : a ≤ xs.length) (hb : Below w0.heap.size w0 W) (hgr : w0.heap.size ≤ gr) (hE : Eye W gr A xs.length c a) (hne : g ≠ gr) (base : Nat) (hbW : base ≤ W.heap.size) (y : Note) (cs : List Value) (hm : k34.M W base (fun _ => True) y cs) (hbx : W.heap[g]? = some (.cells cs.toArray 34 (0, 0))) :
   Calls Tryz.prog 192 #[.pointer (some ⟨gr, 0, none⟩), .pointer (some ⟨g, 0, none⟩)] W (ReadOk W gr g A xs.length c base (dF .lo xs a y)) := by
 have HD := Aside0.mk hD
 have HB := Aside0.mk hb
 have HE := Aside0.mk hE
 have HM := Aside0.mk hm
 have HX := Aside0.mk hbx
 clear hD hb hE hm hbx
 go_enter Tryz.func192, Tryz.ntmps192
 go_wp2_with fail
 refine (getList_Op 123 (fun args w => by kernel_rfl) dOp w0 W gr A c a xs (get_Op w0 A c xs HD.out) (goes_Op HD.out.bytes) HD.out ha HB.out hgr HE.out).mono ?_
 rintro e w1 ⟨hm1, hn, hs⟩
 cases hr : dLst dOp xs a with
 | none =>
   obtain rfl := hn hr
   have HR := Aside0.mk (show dF .lo xs a y = none by simp only [dF, hr, Option.bind_none])
   exact ⟨rfl, hm1.mono (fun _ _ h => .inl h), (fun _ => rfl), fun y' a' h => by rw [HR.out] at h; cases h⟩
 | some p =>
   obtain ⟨x, a1⟩ := p
   obtain ⟨v, rfl, ho, he⟩ := hs _ _ hr
   have HR := Aside0.mk (show dF .lo xs a y = _ by simp only [dF, hr, Option.bind_some]; rfl)
   obtain ⟨A2, n2, c2, rfl⟩ : ∃ A n c, v = .slice A n c := (by obtain ⟨A, c, h⟩ := Kd.R_slice ho; exact ⟨A, _, c, h⟩)
   have HO := Aside0.mk (Kd.R_lower ho hbW)
   clear ho
   have HX1 := Aside0.mk (hm1.blk HX.out hne)
   have HM1 := Aside0.mk (Get.M_moved HM.out HE.out (by decide) hm1)
   have HV1 := Aside0.mk (hm1.mono (S' := fun k => k = gr ∨ k = g) (fun _ _ h => .inl h))
   have HE1 := Aside0.mk he
   have hl := note_cells HM.out
   obtain ⟨u11, hu11⟩ := hl 11 (by omega)
   have hc11 := (blk_cell HX1.out 11).trans hu11
   have hf11 := blk_frozen HX1.out 11
   clear hl hm1 hn hs he hr
   go_wp2_with fail
   first | go_end0 | refine bodyPost_ret (results_none rfl _ _ _) rfl ?_
   have HXF := (blk_set HX1.out 11 (.slice A2 n2 c2))
   have HMF := (M_set HM1.out HX1.out 11 (.slice A2 n2 c2))
   have HEF : Eye _ gr A xs.length c a1 := (blk_far (p := ⟨g, 11, none⟩) HE1.out (fun h => hne h.symm) (.slice A2 n2 c2))
   have HVF := (HV1.out).set_ (p := ⟨g, 11, none⟩) (.inl (.inr rfl)) (.slice A2 n2 c2)
   have HL11 := (Kd.R_set HO.out HX1.out (by decide) 11 (.slice A2 n2 c2))
   obtain ⟨v11, v12, v16, v17, v18, v19, hcs, g11, g12, g16, g17, g18, g19⟩ := k34_openM HMF
   subst hcs
   refine ⟨HVF, (fun h => by rw [HR.out] at h; cases h), fun y' a' h => ?_⟩
   rw [HR.out] at h
   simp only [Option.some.injEq, Prod.mk.injEq] at h
   obtain ⟨rfl, rfl⟩ := h
   exact ⟨rfl, HEF, _, k34_mkM _ base _ { y with f9 := x } HL11 g12 g16 g17 g18 g19, by simpa using HXF⟩
set_option maxRecDepth 100000 in
set_option maxHeartbeats 2000000 in
theorem gc_uE (w0 W : World) (gr g : Nat) (A : Option Addr) (c a : Nat) (xs : List Int) (hD : Get.Data w0 A c xs) (ha : a ≤ xs.length) (hb : Below w0.heap.size w0 W) (hgr : w0.heap.size ≤ gr) (hE : Eye W gr A xs.length c a) (hne : g ≠ gr) (base : Nat) (hbW : base ≤ W.heap.size) (y : Note) (cs : List Value) (hm : k34.M W base (fun _ => True) y cs) (hbx : W.heap[g]? = some (.cells cs.toArray 34 (0, 0))) :
   Calls Tryz.prog 197 #[.pointer (some ⟨gr, 0, none⟩), .pointer (some ⟨g, 0, none⟩)] W (ReadOk W gr g A xs.length c base (dF .uE xs a y)) := by
 have HD := Aside0.mk hD
 have HB := Aside0.mk hb
 have HE := Aside0.mk hE
 have HM := Aside0.mk hm
 have HX := Aside0.mk hbx
 clear hD hb hE hm hbx
 go_enter Tryz.func197, Tryz.ntmps197
 go_wp2_with fail
 refine (getList_Entry 79 (fun args w => by kernel_rfl) dEntry w0 W gr A c a xs (get_Entry w0 A c xs HD.out) (goes_Entry HD.out.bytes) HD.out ha HB.out hgr HE.out).mono ?_
 rintro e w1 ⟨hm1, hn, hs⟩
 cases hr : dLst dEntry xs a with
 | none =>
   obtain rfl := hn hr
   have HR := Aside0.mk (show dF .uE xs a y = none by simp only [dF, hr, Option.bind_none])
   exact ⟨rfl, hm1.mono (fun _ _ h => .inl h), (fun _ => rfl), fun y' a' h => by rw [HR.out] at h; cases h⟩
 | some p =>
   obtain ⟨x, a1⟩ := p
   obtain ⟨v, rfl, ho, he⟩ := hs _ _ hr
   have HR := Aside0.mk (show dF .uE xs a y = _ by simp only [dF, hr, Option.bind_some]; rfl)
   obtain ⟨A2, n2, c2, rfl⟩ : ∃ A n c, v = .slice A n c := (by obtain ⟨A, c, h⟩ := Kd.R_slice ho; exact ⟨A, _, c, h⟩)
   have HO := Aside0.mk (Kd.R_lower ho hbW)
   clear ho
   have HX1 := Aside0.mk (hm1.blk HX.out hne)
   have HM1 := Aside0.mk (Get.M_moved HM.out HE.out (by decide) hm1)
   have HV1 := Aside0.mk (hm1.mono (S' := fun k => k = gr ∨ k = g) (fun _ _ h => .inl h))
   have HE1 := Aside0.mk he
   have hl := note_cells HM.out
   obtain ⟨u12, hu12⟩ := hl 12 (by omega)
   have hc12 := (blk_cell HX1.out 12).trans hu12
   have hf12 := blk_frozen HX1.out 12
   clear hl hm1 hn hs he hr
   go_wp2_with fail
   first | go_end0 | refine bodyPost_ret (results_none rfl _ _ _) rfl ?_
   have HXF := (blk_set HX1.out 12 (.slice A2 n2 c2))
   have HMF := (M_set HM1.out HX1.out 12 (.slice A2 n2 c2))
   have HEF : Eye _ gr A xs.length c a1 := (blk_far (p := ⟨g, 12, none⟩) HE1.out (fun h => hne h.symm) (.slice A2 n2 c2))
   have HVF := (HV1.out).set_ (p := ⟨g, 12, none⟩) (.inl (.inr rfl)) (.slice A2 n2 c2)
   have HL12 := (Kd.R_set HO.out HX1.out (by decide) 12 (.slice A2 n2 c2))
   obtain ⟨v11, v12, v16, v17, v18, v19, hcs, g11, g12, g16, g17, g18, g19⟩ := k34_openM HMF
   subst hcs
   refine ⟨HVF, (fun h => by rw [HR.out] at h; cases h), fun y' a' h => ?_⟩
   rw [HR.out] at h
   simp only [Option.some.injEq, Prod.mk.injEq] at h
   obtain ⟨rfl, rfl⟩ := h
   exact ⟨rfl, HEF, _, k34_mkM _ base _ { y with f10 := x } g11 HL12 g16 g17 g18 g19, by simpa using HXF⟩
set_option maxRecDepth 100000 in
set_option maxHeartbeats 2000000 in
theorem gc_uI (w0 W : World) (gr g : Nat) (A : Option Addr) (c a : Nat) (xs : List Int) (hD : Get.Data w0 A c xs) (ha : a ≤ xs.length) (hb : Below w0.heap.size w0 W) (hgr : w0.heap.size ≤ gr) (hE : Eye W gr A xs.length c a) (hne : g ≠ gr) (base : Nat) (hbW : base ≤ W.heap.size) (y : Note) (cs : List Value) (hm : k34.M W base (fun _ => True) y cs) (hbx : W.heap[g]? = some (.cells cs.toArray 34 (0, 0))) :
   Calls Tryz.prog 205 #[.pointer (some ⟨gr, 0, none⟩), .pointer (some ⟨g, 0, none⟩)] W (ReadOk W gr g A xs.length c base (dF .uI xs a y)) := by
 have HD := Aside0.mk hD
 have HB := Aside0.mk hb
 have HE := Aside0.mk hE
 have HM := Aside0.mk hm
 have HX := Aside0.mk hbx
 clear hD hb hE hm hbx
 go_enter Tryz.func205, Tryz.ntmps205
 go_wp2_with fail
 refine (getList_Item 207 (fun args w => by kernel_rfl) dItem w0 W gr A c a xs (get_Item w0 A c xs HD.out) (goes_Item HD.out.bytes) HD.out ha HB.out hgr HE.out).mono ?_
 rintro e w1 ⟨hm1, hn, hs⟩
 cases hr : dLst dItem xs a with
 | none =>
   obtain rfl := hn hr
   have HR := Aside0.mk (show dF .uI xs a y = none by simp only [dF, hr, Option.bind_none])
   exact ⟨rfl, hm1.mono (fun _ _ h => .inl h), (fun _ => rfl), fun y' a' h => by rw [HR.out] at h; cases h⟩
 | some p =>
   obtain ⟨x, a1⟩ := p
   obtain ⟨v, rfl, ho, he⟩ := hs _ _ hr
   have HR := Aside0.mk (show dF .uI xs a y = _ by simp only [dF, hr, Option.bind_some]; rfl)
   obtain ⟨A2, n2, c2, rfl⟩ : ∃ A n c, v = .slice A n c := (by obtain ⟨A, c, h⟩ := Kd.R_slice ho; exact ⟨A, _, c, h⟩)
   have HO := Aside0.mk (Kd.R_lower ho hbW)
   clear ho
   have HX1 := Aside0.mk (hm1.blk HX.out hne)
   have HM1 := Aside0.mk (Get.M_moved HM.out HE.out (by decide) hm1)
   have HV1 := Aside0.mk (hm1.mono (S' := fun k => k = gr ∨ k = g) (fun _ _ h => .inl h))
   have HE1 := Aside0.mk he
   have hl := note_cells HM.out
   obtain ⟨u19, hu19⟩ := hl 19 (by omega)
   have hc19 := (blk_cell HX1.out 19).trans hu19
   have hf19 := blk_frozen HX1.out 19
   clear hl hm1 hn hs he hr
   go_wp2_with fail
   first | go_end0 | refine bodyPost_ret (results_none rfl _ _ _) rfl ?_
   have HXF := (blk_set HX1.out 19 (.slice A2 n2 c2))
   have HMF := (M_set HM1.out HX1.out 19 (.slice A2 n2 c2))
   have HEF : Eye _ gr A xs.length c a1 := (blk_far (p := ⟨g, 19, none⟩) HE1.out (fun h => hne h.symm) (.slice A2 n2 c2))
   have HVF := (HV1.out).set_ (p := ⟨g, 19, none⟩) (.inl (.inr rfl)) (.slice A2 n2 c2)
   have HL19 := (Kd.R_set HO.out HX1.out (by decide) 19 (.slice A2 n2 c2))
   obtain ⟨v11, v12, v16, v17, v18, v19, hcs, g11, g12, g16, g17, g18, g19⟩ := k34_openM HMF
   subst hcs
   refine ⟨HVF, (fun h => by rw [HR.out] at h; cases h), fun y' a' h => ?_⟩
   rw [HR.out] at h
   simp only [Option.some.injEq, Prod.mk.injEq] at h
   obtain ⟨rfl, rfl⟩ := h
   exact ⟨rfl, HEF, _, k34_mkM _ base _ { y with f14 := x } g11 g12 g16 g17 g18 HL19, by simpa using HXF⟩
set_option maxRecDepth 100000 in
set_option maxHeartbeats 2000000 in
theorem gc_uP (w0 W : World) (gr g : Nat) (A : Option Addr) (c a : Nat) (xs : List Int) (hD : Get.Data w0 A c xs) (ha : a ≤ xs.length) (hb : Below w0.heap.size w0 W) (hgr : w0.heap.size ≤ gr) (hE : Eye W gr A xs.length c a) (hne : g ≠ gr) (base : Nat) (hbW : base ≤ W.heap.size) (y : Note) (cs : List Value) (hm : k34.M W base (fun _ => True) y cs) (hbx : W.heap[g]? = some (.cells cs.toArray 34 (0, 0))) :
   Calls Tryz.prog 214 #[.pointer (some ⟨gr, 0, none⟩), .pointer (some ⟨g, 0, none⟩)] W (ReadOk W gr g A xs.length c base (dF .uP xs a y)) := by
 have HD := Aside0.mk hD
 have HB := Aside0.mk hb
 have HE := Aside0.mk hE
 have HM := Aside0.mk hm
 have HX := Aside0.mk hbx
 clear hD hb hE hm hbx
 go_enter Tryz.func214, Tryz.ntmps214
 go_wp2_with fail
 refine (getList_Part 216 (fun args w => by kernel_rfl) dPart w0 W gr A c a xs (get_Part w0 A c xs HD.out) (goes_Part HD.out.bytes) HD.out ha HB.out hgr HE.out).mono ?_
 rintro e w1 ⟨hm1, hn, hs⟩
 cases hr : dLst dPart xs a with
 | none =>
   obtain rfl := hn hr
   have HR := Aside0.mk (show dF .uP xs a y = none by simp only [dF, hr, Option.bind_none])
   exact ⟨rfl, hm1.mono (fun _ _ h => .inl h), (fun _ => rfl), fun y' a' h => by rw [HR.out] at h; cases h⟩
 | some p =>
   obtain ⟨x, a1⟩ := p
   obtain ⟨v, rfl, ho, he⟩ := hs _ _ hr
   have HR := Aside0.mk (show dF .uP xs a y = _ by simp only [dF, hr, Option.bind_some]; rfl)
   obtain ⟨A2, n2, c2, rfl⟩ : ∃ A n c, v = .slice A n c := (by obtain ⟨A, c, h⟩ := Kd.R_slice ho; exact ⟨A, _, c, h⟩)
   have HO := Aside0.mk (Kd.R_lower ho hbW)
   clear ho
   have HX1 := Aside0.mk (hm1.blk HX.out hne)
   have HM1 := Aside0.mk (Get.M_moved HM.out HE.out (by decide) hm1)
   have HV1 := Aside0.mk (hm1.mono (S' := fun k => k = gr ∨ k = g) (fun _ _ h => .inl h))
   have HE1 := Aside0.mk he
   have hl := note_cells HM.out
   obtain ⟨u18, hu18⟩ := hl 18 (by omega)
   have hc18 := (blk_cell HX1.out 18).trans hu18
   have hf18 := blk_frozen HX1.out 18
   clear hl hm1 hn hs he hr
   go_wp2_with fail
   first | go_end0 | refine bodyPost_ret (results_none rfl _ _ _) rfl ?_
   have HXF := (blk_set HX1.out 18 (.slice A2 n2 c2))
   have HMF := (M_set HM1.out HX1.out 18 (.slice A2 n2 c2))
   have HEF : Eye _ gr A xs.length c a1 := (blk_far (p := ⟨g, 18, none⟩) HE1.out (fun h => hne h.symm) (.slice A2 n2 c2))
   have HVF := (HV1.out).set_ (p := ⟨g, 18, none⟩) (.inl (.inr rfl)) (.slice A2 n2 c2)
   have HL18 := (Kd.R_set HO.out HX1.out (by decide) 18 (.slice A2 n2 c2))
   obtain ⟨v11, v12, v16, v17, v18, v19, hcs, g11, g12, g16, g17, g18, g19⟩ := k34_openM HMF
   subst hcs
   refine ⟨HVF, (fun h => by rw [HR.out] at h; cases h), fun y' a' h => ?_⟩
   rw [HR.out] at h
   simp only [Option.some.injEq, Prod.mk.injEq] at h
   obtain ⟨rfl, rfl⟩ := h
   exact ⟨rfl, HEF, _, k34_mkM _ base _ { y with f13 := x } g11 g12 g16 g17 HL18 g19, by simpa using HXF⟩
set_option maxRecDepth 100000 in
set_option maxHeartbeats 2000000 in
theorem gc_ly (w0 W : World) (gr g : Nat) (A : Option Addr) (c a : Nat) (xs : List Int) (hD : Get.Data w0 A c xs) (ha : a ≤ xs.length) (hb : Below w0.heap.size w0 W) (hgr : w0.heap.size ≤ gr) (hE : Eye W gr A xs.length c a) (hne : g ≠ gr) (base : Nat) (hbW : base ≤ W.heap.size) (y : Note) (cs : List Value) (hm : k34.M W base (fun _ => True) y cs) (hbx : W.heap[g]? = some (.cells cs.toArray 34 (0, 0))) :
   Calls Tryz.prog 182 #[.pointer (some ⟨gr, 0, none⟩), .pointer (some ⟨g, 0, none⟩)] W (ReadOk W gr g A xs.length c base (dF .ly xs a y)) := by
 have HD := Aside0.mk hD
 have HB := Aside0.mk hb
 have HE := Aside0.mk hE
 have HM := Aside0.mk hm
 have HX := Aside0.mk hbx
 clear hD hb hE hm hbx
 go_enter Tryz.func182, Tryz.ntmps182
 go_wp2_with fail
 refine (get_Reply w0 A c xs HD.out W gr a ha HB.out hgr HE.out).mono ?_
 rintro e w1 ⟨hm1, hn, hs⟩
 cases hr : dReply xs a with
 | none =>
   obtain rfl := hn hr
   have HR := Aside0.mk (show dF .ly xs a y = none by simp only [dF, hr, Option.bind_none])
   exact ⟨rfl, hm1.mono (fun _ _ h => .inl h), (fun _ => rfl), fun y' a' h => by rw [HR.out] at h; cases h⟩
 | some p =>
   obtain ⟨x, a1⟩ := p
   obtain ⟨v, rfl, ⟨cs2, rfl, hy⟩, he⟩ := hs _ _ hr
   have HR := Aside0.mk (show dF .ly xs a y = _ by simp only [dF, hr, Option.bind_some]; rfl)
   obtain ⟨v3, hcs2, ho⟩ := k29_openM hy
   subst hcs2
   obtain ⟨A2, n2, c2, rfl⟩ : ∃ A n c, v3 = .slice A n c := (by obtain ⟨A, c, h⟩ := Kd.R_slice ho; exact ⟨A, _, c, h⟩)
   have HO := Aside0.mk (Kd.R_lower ho hbW)
   clear ho hy
   have HX1 := Aside0.mk (hm1.blk HX.out hne)
   have HM1 := Aside0.mk (Get.M_moved HM.out HE.out (by decide) hm1)
   have HV1 := Aside0.mk (hm1.mono (S' := fun k => k = gr ∨ k = g) (fun _ _ h => .inl h))
   have HE1 := Aside0.mk he
   have hl := note_cells HM.out
   obtain ⟨u13, hu13⟩ := hl 13 (by omega)
   have hc13 := (blk_cell HX1.out 13).trans hu13
   have hf13 := blk_frozen HX1.out 13
   obtain ⟨u14, hu14⟩ := hl 14 (by omega)
   have hc14 := (blk_cell HX1.out 14).trans hu14
   have hf14 := blk_frozen HX1.out 14
   obtain ⟨u15, hu15⟩ := hl 15 (by omega)
   have hc15 := (blk_cell HX1.out 15).trans hu15
   have hf15 := blk_frozen HX1.out 15
   obtain ⟨u16, hu16⟩ := hl 16 (by omega)
   have hc16 := (blk_cell HX1.out 16).trans hu16
   have hf16 := blk_frozen HX1.out 16
   clear hl hm1 hn hs he hr
   go_wp2_with fail
   first | go_end0 | refine bodyPost_ret (results_none rfl _ _ _) rfl ?_
   have HXF := (blk_set (blk_set (blk_set (blk_set HX1.out 13 (.int .i64 x.f0)) 14 (.int .i64 x.f1)) 15 (.int .i64 x.f2)) 16 (.slice A2 n2 c2))
   have HMF := (M_set (M_set (M_set (M_set HM1.out HX1.out 13 (.int .i64 x.f0)) (blk_set HX1.out 13 (.int .i64 x.f0)) 14 (.int .i64 x.f1)) (blk_set (blk_set HX1.out 13 (.int .i64 x.f0)) 14 (.int .i64 x.f1)) 15 (.int .i64 x.f2)) (blk_set (blk_set (blk_set HX1.out 13 (.int .i64 x.f0)) 14 (.int .i64 x.f1)) 15 (.int .i64 x.f2)) 16 (.slice A2 n2 c2))
   have HEF : Eye _ gr A xs.length c a1 := (blk_far (p := ⟨g, 16, none⟩) (blk_far (p := ⟨g, 15, none⟩) (blk_far (p := ⟨g, 14, none⟩) (blk_far (p := ⟨g, 13, none⟩) HE1.out (fun h => hne h.symm) (.int .i64 x.f0)) (fun h => hne h.symm) (.int .i64 x.f1)) (fun h => hne h.symm) (.int .i64 x.f2)) (fun h => hne h.symm) (.slice A2 n2 c2))
   have HVF := ((((HV1.out).set_ (p := ⟨g, 13, none⟩) (.inl (.inr rfl)) (.int .i64 x.f0)).set_ (p := ⟨g, 14, none⟩) (.inl (.inr rfl)) (.int .i64 x.f1)).set_ (p := ⟨g, 15, none⟩) (.inl (.inr rfl)) (.int .i64 x.f2)).set_ (p := ⟨g, 16, none⟩) (.inl (.inr rfl)) (.slice A2 n2 c2)
   have HL16 := (Kd.R_set (Kd.R_set (Kd.R_set (Kd.R_set HO.out HX1.out (by decide) 13 (.int .i64 x.f0)) (blk_set HX1.out 13 (.int .i64 x.f0)) (by decide) 14 (.int .i64 x.f1)) (blk_set (blk_set HX1.out 13 (.int .i64 x.f0)) 14 (.int .i64 x.f1)) (by decide) 15 (.int .i64 x.f2)) (blk_set (blk_set (blk_set HX1.out 13 (.int .i64 x.f0)) 14 (.int .i64 x.f1)) 15 (.int .i64 x.f2)) (by decide) 16 (.slice A2 n2 c2))
   obtain ⟨v11, v12, v16, v17, v18, v19, hcs, g11, g12, g16, g17, g18, g19⟩ := k34_openM HMF
   subst hcs
   refine ⟨HVF, (fun h => by rw [HR.out] at h; cases h), fun y' a' h => ?_⟩
   rw [HR.out] at h
   simp only [Option.some.injEq, Prod.mk.injEq] at h
   obtain ⟨rfl, rfl⟩ := h
   exact ⟨rfl, HEF, _, k34_mkM _ base _ { y with f11 := x } g11 g12 HL16 g17 g18 g19, by simpa using HXF⟩
set_option maxRecDepth 100000 in
set_option maxHeartbeats 2000000 in
theorem gc_la (w0 W : World) (gr g : Nat) (A : Option Addr) (c a : Nat) (xs : List Int) (hD : Get.Data w0 A c xs) (ha : a ≤ xs.length) (hb : Below w0.heap.size w0 W) (hgr : w0.heap.size ≤ gr) (hE : Eye W gr A xs.length c a) (hne : g ≠ gr) (base : Nat) (hbW : base ≤ W.heap.size) (y : Note) (cs : List Value) (hm : k34.M W base (fun _ => True) y cs) (hbx : W.heap[g]? = some (.cells cs.toArray 34 (0, 0))) :
   Calls Tryz.prog 188 #[.pointer (some ⟨gr, 0, none⟩), .pointer (some ⟨g, 0, none⟩)] W (ReadOk W gr g A xs.length c base (dF .la xs a y)) := by
 have HD := Aside0.mk hD
 have HB := Aside0.mk hb
 have HE := Aside0.mk hE
 have HM := Aside0.mk hm
 have HX := Aside0.mk hbx
 clear hD hb hE hm hbx
 go_enter Tryz.func188, Tryz.ntmps188
 go_wp2_with fail
 refine (rtxt w0 W gr A c a xs HD.out ha HB.out hgr HE.out).mono ?_
 rintro e w1 ⟨hm1, hn, hs⟩
 cases hr : dTxt xs a with
 | none =>
   obtain rfl := hn hr
   have HR := Aside0.mk (show dF .la xs a y = none by simp only [dF, hr, Option.bind_none])
   exact ⟨rfl, hm1.mono (fun _ _ h => .inl h), (fun _ => rfl), fun y' a' h => by rw [HR.out] at h; cases h⟩
 | some p =>
   obtain ⟨x, a1⟩ := p
   obtain ⟨v, rfl, rfl, he⟩ := hs _ _ hr
   have HR := Aside0.mk (show dF .la xs a y = _ by simp only [dF, hr, Option.bind_some]; rfl)
   have HX1 := Aside0.mk (hm1.blk HX.out hne)
   have HM1 := Aside0.mk (Get.M_moved HM.out HE.out (by decide) hm1)
   have HV1 := Aside0.mk (hm1.mono (S' := fun k => k = gr ∨ k = g) (fun _ _ h => .inl h))
   have HE1 := Aside0.mk he
   have hl := note_cells HM.out
   obtain ⟨u20, hu20⟩ := hl 20 (by omega)
   have hc20 := (blk_cell HX1.out 20).trans hu20
   have hf20 := blk_frozen HX1.out 20
   clear hl hm1 hn hs he hr
   go_wp2_with fail
   first | go_end0 | refine bodyPost_ret (results_none rfl _ _ _) rfl ?_
   have HXF := (blk_set HX1.out 20 (.string x))
   have HMF := (M_set HM1.out HX1.out 20 (.string x))
   have HEF : Eye _ gr A xs.length c a1 := (blk_far (p := ⟨g, 20, none⟩) HE1.out (fun h => hne h.symm) (.string x))
   have HVF := (HV1.out).set_ (p := ⟨g, 20, none⟩) (.inl (.inr rfl)) (.string x)
   obtain ⟨v11, v12, v16, v17, v18, v19, hcs, g11, g12, g16, g17, g18, g19⟩ := k34_openM HMF
   subst hcs
   refine ⟨HVF, (fun h => by rw [HR.out] at h; cases h), fun y' a' h => ?_⟩
   rw [HR.out] at h
   simp only [Option.some.injEq, Prod.mk.injEq] at h
   obtain ⟨rfl, rfl⟩ := h
   exact ⟨rfl, HEF, _, k34_mkM _ base _ { y with f15 := x } g11 g12 g16 g17 g18 g19, by simpa using HXF⟩
set_option maxRecDepth 100000 in
set_option maxHeartbeats 2000000 in
theorem gc_le (w0 W : World) (gr g : Nat) (A : Option Addr) (c a : Nat) (xs : List Int) (hD : Get.Data w0 A c xs) (ha : a ≤ xs.length) (hb : Below w0.heap.size w0 W) (hgr : w0.heap.size ≤ gr) (hE : Eye W gr A xs.length c a) (hne : g ≠ gr) (base : Nat) (hbW : base ≤ W.heap.size) (y : Note) (cs : List Value) (hm : k34.M W base (fun _ => True) y cs) (hbx : W.heap[g]? = some (.cells cs.toArray 34 (0, 0))) :
   Calls Tryz.prog 236 #[.pointer (some ⟨gr, 0, none⟩), .pointer (some ⟨g, 0, none⟩)] W (ReadOk W gr g A xs.length c base (dF .le xs a y)) := by
 have HD := Aside0.mk hD
 have HB := Aside0.mk hb
 have HE := Aside0.mk hE
 have HM := Aside0.mk hm
 have HX := Aside0.mk hbx
 clear hD hb hE hm hbx
 go_enter Tryz.func236, Tryz.ntmps236
 go_wp2_with fail
 refine (rnum w0 W gr A c a xs HD.out ha HB.out hgr HE.out).mono ?_
 rintro e w1 ⟨hm1, hn, hs⟩
 cases hr : dNum xs a with
 | none =>
   obtain rfl := hn hr
   have HR := Aside0.mk (show dF .le xs a y = none by simp only [dF, hr, Option.bind_none])
   exact ⟨rfl, hm1.mono (fun _ _ h => .inl h), (fun _ => rfl), fun y' a' h => by rw [HR.out] at h; cases h⟩
 | some p =>
   obtain ⟨x, a1⟩ := p
   obtain ⟨v, rfl, rfl, he⟩ := hs _ _ hr
   have HR := Aside0.mk (show dF .le xs a y = _ by simp only [dF, hr, Option.bind_some]; rfl)
   have HX1 := Aside0.mk (hm1.blk HX.out hne)
   have HM1 := Aside0.mk (Get.M_moved HM.out HE.out (by decide) hm1)
   have HV1 := Aside0.mk (hm1.mono (S' := fun k => k = gr ∨ k = g) (fun _ _ h => .inl h))
   have HE1 := Aside0.mk he
   have hl := note_cells HM.out
   obtain ⟨u10, hu10⟩ := hl 10 (by omega)
   have hc10 := (blk_cell HX1.out 10).trans hu10
   have hf10 := blk_frozen HX1.out 10
   clear hl hm1 hn hs he hr
   go_wp2_with fail
   first | go_end0 | refine bodyPost_ret (results_none rfl _ _ _) rfl ?_
   have HXF := (blk_set HX1.out 10 (.int .i64 x))
   have HMF := (M_set HM1.out HX1.out 10 (.int .i64 x))
   have HEF : Eye _ gr A xs.length c a1 := (blk_far (p := ⟨g, 10, none⟩) HE1.out (fun h => hne h.symm) (.int .i64 x))
   have HVF := (HV1.out).set_ (p := ⟨g, 10, none⟩) (.inl (.inr rfl)) (.int .i64 x)
   obtain ⟨v11, v12, v16, v17, v18, v19, hcs, g11, g12, g16, g17, g18, g19⟩ := k34_openM HMF
   subst hcs
   refine ⟨HVF, (fun h => by rw [HR.out] at h; cases h), fun y' a' h => ?_⟩
   rw [HR.out] at h
   simp only [Option.some.injEq, Prod.mk.injEq] at h
   obtain ⟨rfl, rfl⟩ := h
   exact ⟨rfl, HEF, _, k34_mkM _ base _ { y with f8 := x } g11 g12 g16 g17 g18 g19, by simpa using HXF⟩
set_option maxRecDepth 100000 in
set_option maxHeartbeats 2000000 in
theorem gc_lv (w0 W : World) (gr g : Nat) (A : Option Addr) (c a : Nat) (xs : List Int) (hD : Get.Data w0 A c xs) (ha : a ≤ xs.length) (hb : Below w0.heap.size w0 W) (hgr : w0.heap.size ≤ gr) (hE : Eye W gr A xs.length c a) (hne : g ≠ gr) (base : Nat) (hbW : base ≤ W.heap.size) (y : Note) (cs : List Value) (hm : k34.M W base (fun _ => True) y cs) (hbx : W.heap[g]? = some (.cells cs.toArray 34 (0, 0))) :
   Calls Tryz.prog 240 #[.pointer (some ⟨gr, 0, none⟩), .pointer (some ⟨g, 0, none⟩)] W (ReadOk W gr g A xs.length c base (dF .lv xs a y)) := by
 have HD := Aside0.mk hD
 have HB := Aside0.mk hb
 have HE := Aside0.mk hE
 have HM := Aside0.mk hm
 have HX := Aside0.mk hbx
 clear hD hb hE hm hbx
 go_enter Tryz.func240, Tryz.ntmps240
 go_wp2_with fail
 have HV0 := Aside0.mk (Moved.refl W (fun k => k = gr))
 have ha0 := ha
 refine (rnum w0 W gr A c a xs HD.out ha0 (HV0.out.above HB.out (fun k hk => by omega)) hgr HE.out).mono ?_
 rintro e w1 ⟨hm1, hn, hs⟩
 cases hr : dNum xs a with
 | none =>
   obtain rfl := hn hr
   have HR := Aside0.mk (show dF .lv xs a y = none by simp only [dF, hr, Option.bind_none, Option.bind_some])
   exact ⟨rfl, (HV0.out.trans hm1 (fun _ _ h => h)).mono (fun _ _ h => .inl h), (fun _ => rfl), fun y' a' h => by rw [HR.out] at h; cases h⟩
 | some p =>
   obtain ⟨x0, a1⟩ := p
   obtain ⟨v, rfl, rfl, he⟩ := hs _ _ hr
   have ha1 := goes_num HD.out.bytes _ _ _ ha0 hr
   have HI0 := Aside0.mk hr
   have HE1 := Aside0.mk he
   have HV1 := Aside0.mk (HV0.out.trans hm1 (fun _ _ h => h))
   clear hm1 hn hs he hr
   go_wp2_with fail
   refine (rnum w0 w1 gr A c a1 xs HD.out ha1 (HV1.out.above HB.out (fun k hk => by omega)) hgr HE1.out).mono ?_
   rintro e w2 ⟨hm1, hn, hs⟩
   cases hr : dNum xs a1 with
   | none =>
     obtain rfl := hn hr
     have HR := Aside0.mk (show dF .lv xs a y = none by simp only [dF, HI0.out, hr, Option.bind_none, Option.bind_some])
     exact ⟨rfl, (HV1.out.trans hm1 (fun _ _ h => h)).mono (fun _ _ h => .inl h), (fun _ => rfl), fun y' a' h => by rw [HR.out] at h; cases h⟩
   | some p =>
     obtain ⟨x1, a2⟩ := p
     obtain ⟨v, rfl, rfl, he⟩ := hs _ _ hr
     have ha2 := goes_num HD.out.bytes _ _ _ ha1 hr
     have HI1 := Aside0.mk hr
     have HE2 := Aside0.mk he
     have HV2 := Aside0.mk (HV1.out.trans hm1 (fun _ _ h => h))
     clear hm1 hn hs he hr
     go_wp2_with fail
     refine (rnum w0 w2 gr A c a2 xs HD.out ha2 (HV2.out.above HB.out (fun k hk => by omega)) hgr HE2.out).mono ?_
     rintro e w3 ⟨hm1, hn, hs⟩
     cases hr : dNum xs a2 with
     | none =>
       obtain rfl := hn hr
       have HR := Aside0.mk (show dF .lv xs a y = none by simp only [dF, HI0.out, HI1.out, hr, Option.bind_none, Option.bind_some])
       exact ⟨rfl, (HV2.out.trans hm1 (fun _ _ h => h)).mono (fun _ _ h => .inl h), (fun _ => rfl), fun y' a' h => by rw [HR.out] at h; cases h⟩
     | some p =>
       obtain ⟨x2, a3⟩ := p
       obtain ⟨v, rfl, rfl, he⟩ := hs _ _ hr
       have ha3 := goes_num HD.out.bytes _ _ _ ha2 hr
       have HI2 := Aside0.mk hr
       have HE3 := Aside0.mk he
       have HV3 := Aside0.mk (HV2.out.trans hm1 (fun _ _ h => h))
       clear hm1 hn hs he hr
       have HR := Aside0.mk (show dF .lv xs a y = _ by simp only [dF, HI0.out, HI1.out, HI2.out, Option.bind_some]; rfl)
       have HX1 := Aside0.mk (HV3.out.blk HX.out hne)
       have HM1 := Aside0.mk (Get.M_moved HM.out HE.out (by decide) HV3.out)
       have HV1 := Aside0.mk (HV3.out.mono (S' := fun k => k = gr ∨ k = g) (fun _ _ h => .inl h))
       have hl := note_cells HM.out
       obtain ⟨u1, hu1⟩ := hl 1 (by omega)
       have hc1 := (blk_cell HX1.out 1).trans hu1
       have hf1 := blk_frozen HX1.out 1
       obtain ⟨u2, hu2⟩ := hl 2 (by omega)
       have hc2 := (blk_cell HX1.out 2).trans hu2
       have hf2 := blk_frozen HX1.out 2
       obtain ⟨u3, hu3⟩ := hl 3 (by omega)
       have hc3 := (blk_cell HX1.out 3).trans hu3
       have hf3 := blk_frozen HX1.out 3
       clear hl
       go_wp2_with fail
       first | go_end0 | refine bodyPost_ret (results_none rfl _ _ _) rfl ?_
       have HXF := (blk_set (blk_set (blk_set HX1.out 1 (.int .i64 x0)) 2 (.int .i64 x1)) 3 (.int .i64 x2))
       have HMF := (M_set (M_set (M_set HM1.out HX1.out 1 (.int .i64 x0)) (blk_set HX1.out 1 (.int .i64 x0)) 2 (.int .i64 x1)) (blk_set (blk_set HX1.out 1 (.int .i64 x0)) 2 (.int .i64 x1)) 3 (.int .i64 x2))
       have HEF : Eye _ gr A xs.length c a3 := (blk_far (p := ⟨g, 3, none⟩) (blk_far (p := ⟨g, 2, none⟩) (blk_far (p := ⟨g, 1, none⟩) HE3.out (fun h => hne h.symm) (.int .i64 x0)) (fun h => hne h.symm) (.int .i64 x1)) (fun h => hne h.symm) (.int .i64 x2))
       have HVF := (((HV1.out).set_ (p := ⟨g, 1, none⟩) (.inl (.inr rfl)) (.int .i64 x0)).set_ (p := ⟨g, 2, none⟩) (.inl (.inr rfl)) (.int .i64 x1)).set_ (p := ⟨g, 3, none⟩) (.inl (.inr rfl)) (.int .i64 x2)
       obtain ⟨v11, v12, v16, v17, v18, v19, hcs, g11, g12, g16, g17, g18, g19⟩ := k34_openM HMF
       subst hcs
       refine ⟨HVF, (fun h => by rw [HR.out] at h; cases h), fun y' a' h => ?_⟩
       rw [HR.out] at h
       simp only [Option.some.injEq, Prod.mk.injEq] at h
       obtain ⟨rfl, rfl⟩ := h
       exact ⟨rfl, HEF, _, k34_mkM _ base _ { y with f1 := ⟨x0, x1, x2⟩ } g11 g12 g16 g17 g18 g19, by simpa using HXF⟩
theorem M_moved2 {α : Type} {d : Kd α} {w w1 : World} {base g g' : Nat} {x : α} {cs : List Value} {t t' : Nat} {cells cells' : Array Value} (h : d.M w base (fun _ => True) x cs) (hb : w.heap[g]? = some (.cells cells t (0, 0))) (hb' : w.heap[g']? = some (.cells cells' t' (0, 0))) (ht : ∀ q, q ∈ d.E → q ≠ t) (ht' : ∀ q, q ∈ d.E → q ≠ t') (hm : Moved w w1 (fun k => k = g ∨ k = g')) : d.M w1 base (fun _ => True) x cs :=
 d.M_mono (fun _ _ => trivial) (Kd.M_step (Kd.M_types (Kd.M_types h hb ht) hb' ht') (fun k hk hl => hm.block k hl (fun hs => hs.elim hk.1.2 hk.2)))
theorem c_read (l : Ltr) (w0 W : World) (gr g : Nat) (A : Option Addr) (c a : Nat) (xs : List Int) (hD : Get.Data w0 A c xs) (ha : a ≤ xs.length) (hb : Below w0.heap.size w0 W) (hgr : w0.heap.size ≤ gr) (hE : Eye W gr A xs.length c a) (hne : g ≠ gr) (base : Nat) (hbW : base ≤ W.heap.size) (y : Note) (cs : List Value) (hm : k34.M W base (fun _ => True) y cs) (hbx : W.heap[g]? = some (.cells cs.toArray 34 (0, 0))) :
  Calls Tryz.prog 68 #[.agg (fCells l).toArray, .pointer (some ⟨gr, 0, none⟩), .pointer (some ⟨g, 0, none⟩)] W (ReadOk W gr g A xs.length c base (dF l xs a y)) := by
 cases l
 case ln =>
  have hv : cs.toArray[1]? = some (.int .i64 y.f1.f0) := by
    obtain ⟨v11, v12, v16, v17, v18, v19, hcs, _⟩ := k34_openM hm
    rw [hcs]
    rfl
  have hi : 1 < cs.toArray.size := (Array.getElem?_eq_some_iff.1 hv).1
  refine (read_num _ 1 (fun _ _ => by kernel_rfl) n_ln 1 y.f1.f0 w0 W gr g A c a xs hD ha hb hgr hE hne cs.toArray hbx hi hv).mono ?_
  rintro e W' ⟨h1, h2, h3⟩
  refine ⟨h1, fun h => h2 ?_, fun y' a' h => ?_⟩
  · cases hr : dNum xs a with
    | none => rfl
    | some p => simp [dF, hr] at h
  · cases hr : dNum xs a with
    | none => simp [dF, hr] at h
    | some p =>
      obtain ⟨v, a1⟩ := p
      simp only [dF, hr, Option.bind_some, Option.some.injEq, Prod.mk.injEq] at h
      obtain ⟨rfl, rfl⟩ := h
      obtain ⟨h4, h5, h6⟩ := h3 v a1 hr
      have hM := M_moved2 hm hE hbx (by decide) (by decide) h1
      obtain ⟨v11, v12, v16, v17, v18, v19, hcs, g11, g12, g16, g17, g18, g19⟩ := k34_openM hM
      subst hcs
      exact ⟨h4, h5, _, k34_mkM _ base _ ({ y with f1 := { y.f1 with f0 := v } }) g11 g12 g16 g17 g18 g19, by simpa using h6⟩
 case ls =>
  have hv : cs.toArray[4]? = some (.int .i64 y.f2) := by
    obtain ⟨v11, v12, v16, v17, v18, v19, hcs, _⟩ := k34_openM hm
    rw [hcs]
    rfl
  have hi : 4 < cs.toArray.size := (Array.getElem?_eq_some_iff.1 hv).1
  refine (read_num _ 4 (fun _ _ => by kernel_rfl) n_ls 1 y.f2 w0 W gr g A c a xs hD ha hb hgr hE hne cs.toArray hbx hi hv).mono ?_
  rintro e W' ⟨h1, h2, h3⟩
  refine ⟨h1, fun h => h2 ?_, fun y' a' h => ?_⟩
  · cases hr : dNum xs a with
    | none => rfl
    | some p => simp [dF, hr] at h
  · cases hr : dNum xs a with
    | none => simp [dF, hr] at h
    | some p =>
      obtain ⟨v, a1⟩ := p
      simp only [dF, hr, Option.bind_some, Option.some.injEq, Prod.mk.injEq] at h
      obtain ⟨rfl, rfl⟩ := h
      obtain ⟨h4, h5, h6⟩ := h3 v a1 hr
      have hM := M_moved2 hm hE hbx (by decide) (by decide) h1
      obtain ⟨v11, v12, v16, v17, v18, v19, hcs, g11, g12, g16, g17, g18, g19⟩ := k34_openM hM
      subst hcs
      exact ⟨h4, h5, _, k34_mkM _ base _ ({ y with f2 := v }) g11 g12 g16 g17 g18 g19, by simpa using h6⟩
 case lc =>
  have hv : cs.toArray[5]? = some (.int .i64 y.f3) := by
    obtain ⟨v11, v12, v16, v17, v18, v19, hcs, _⟩ := k34_openM hm
    rw [hcs]
    rfl
  have hi : 5 < cs.toArray.size := (Array.getElem?_eq_some_iff.1 hv).1
  refine (read_num _ 5 (fun _ _ => by kernel_rfl) n_lc 1 y.f3 w0 W gr g A c a xs hD ha hb hgr hE hne cs.toArray hbx hi hv).mono ?_
  rintro e W' ⟨h1, h2, h3⟩
  refine ⟨h1, fun h => h2 ?_, fun y' a' h => ?_⟩
  · cases hr : dNum xs a with
    | none => rfl
    | some p => simp [dF, hr] at h
  · cases hr : dNum xs a with
    | none => simp [dF, hr] at h
    | some p =>
      obtain ⟨v, a1⟩ := p
      simp only [dF, hr, Option.bind_some, Option.some.injEq, Prod.mk.injEq] at h
      obtain ⟨rfl, rfl⟩ := h
      obtain ⟨h4, h5, h6⟩ := h3 v a1 hr
      have hM := M_moved2 hm hE hbx (by decide) (by decide) h1
      obtain ⟨v11, v12, v16, v17, v18, v19, hcs, g11, g12, g16, g17, g18, g19⟩ := k34_openM hM
      subst hcs
      exact ⟨h4, h5, _, k34_mkM _ base _ ({ y with f3 := v }) g11 g12 g16 g17 g18 g19, by simpa using h6⟩
 case lr =>
  have hv : cs.toArray[6]? = some (.int .i64 y.f4) := by
    obtain ⟨v11, v12, v16, v17, v18, v19, hcs, _⟩ := k34_openM hm
    rw [hcs]
    rfl
  have hi : 6 < cs.toArray.size := (Array.getElem?_eq_some_iff.1 hv).1
  refine (read_num _ 6 (fun _ _ => by kernel_rfl) n_lr 1 y.f4 w0 W gr g A c a xs hD ha hb hgr hE hne cs.toArray hbx hi hv).mono ?_
  rintro e W' ⟨h1, h2, h3⟩
  refine ⟨h1, fun h => h2 ?_, fun y' a' h => ?_⟩
  · cases hr : dNum xs a with
    | none => rfl
    | some p => simp [dF, hr] at h
  · cases hr : dNum xs a with
    | none => simp [dF, hr] at h
    | some p =>
      obtain ⟨v, a1⟩ := p
      simp only [dF, hr, Option.bind_some, Option.some.injEq, Prod.mk.injEq] at h
      obtain ⟨rfl, rfl⟩ := h
      obtain ⟨h4, h5, h6⟩ := h3 v a1 hr
      have hM := M_moved2 hm hE hbx (by decide) (by decide) h1
      obtain ⟨v11, v12, v16, v17, v18, v19, hcs, g11, g12, g16, g17, g18, g19⟩ := k34_openM hM
      subst hcs
      exact ⟨h4, h5, _, k34_mkM _ base _ ({ y with f4 := v }) g11 g12 g16 g17 g18 g19, by simpa using h6⟩
 case lt =>
  have hv : cs.toArray[7]? = some (.int .i64 y.f5) := by
    obtain ⟨v11, v12, v16, v17, v18, v19, hcs, _⟩ := k34_openM hm
    rw [hcs]
    rfl
  have hi : 7 < cs.toArray.size := (Array.getElem?_eq_some_iff.1 hv).1
  refine (read_num _ 7 (fun _ _ => by kernel_rfl) n_lt 0 y.f5 w0 W gr g A c a xs hD ha hb hgr hE hne cs.toArray hbx hi hv).mono ?_
  rintro e W' ⟨h1, h2, h3⟩
  refine ⟨h1, fun h => h2 ?_, fun y' a' h => ?_⟩
  · cases hr : dNum xs a with
    | none => rfl
    | some p => simp [dF, hr] at h
  · cases hr : dNum xs a with
    | none => simp [dF, hr] at h
    | some p =>
      obtain ⟨v, a1⟩ := p
      simp only [dF, hr, Option.bind_some, Option.some.injEq, Prod.mk.injEq] at h
      obtain ⟨rfl, rfl⟩ := h
      obtain ⟨h4, h5, h6⟩ := h3 v a1 hr
      have hM := M_moved2 hm hE hbx (by decide) (by decide) h1
      obtain ⟨v11, v12, v16, v17, v18, v19, hcs, g11, g12, g16, g17, g18, g19⟩ := k34_openM hM
      subst hcs
      exact ⟨h4, h5, _, k34_mkM _ base _ ({ y with f5 := v }) g11 g12 g16 g17 g18 g19, by simpa using h6⟩
 case lf =>
  have hv : cs.toArray[8]? = some (.int .i64 y.f6) := by
    obtain ⟨v11, v12, v16, v17, v18, v19, hcs, _⟩ := k34_openM hm
    rw [hcs]
    rfl
  have hi : 8 < cs.toArray.size := (Array.getElem?_eq_some_iff.1 hv).1
  refine (read_num _ 8 (fun _ _ => by kernel_rfl) n_lf 0 y.f6 w0 W gr g A c a xs hD ha hb hgr hE hne cs.toArray hbx hi hv).mono ?_
  rintro e W' ⟨h1, h2, h3⟩
  refine ⟨h1, fun h => h2 ?_, fun y' a' h => ?_⟩
  · cases hr : dNum xs a with
    | none => rfl
    | some p => simp [dF, hr] at h
  · cases hr : dNum xs a with
    | none => simp [dF, hr] at h
    | some p =>
      obtain ⟨v, a1⟩ := p
      simp only [dF, hr, Option.bind_some, Option.some.injEq, Prod.mk.injEq] at h
      obtain ⟨rfl, rfl⟩ := h
      obtain ⟨h4, h5, h6⟩ := h3 v a1 hr
      have hM := M_moved2 hm hE hbx (by decide) (by decide) h1
      obtain ⟨v11, v12, v16, v17, v18, v19, hcs, g11, g12, g16, g17, g18, g19⟩ := k34_openM hM
      subst hcs
      exact ⟨h4, h5, _, k34_mkM _ base _ ({ y with f6 := v }) g11 g12 g16 g17 g18 g19, by simpa using h6⟩
 case lm =>
  have hv : cs.toArray[9]? = some (.int .i64 y.f7) := by
    obtain ⟨v11, v12, v16, v17, v18, v19, hcs, _⟩ := k34_openM hm
    rw [hcs]
    rfl
  have hi : 9 < cs.toArray.size := (Array.getElem?_eq_some_iff.1 hv).1
  refine (read_num _ 9 (fun _ _ => by kernel_rfl) n_lm 0 y.f7 w0 W gr g A c a xs hD ha hb hgr hE hne cs.toArray hbx hi hv).mono ?_
  rintro e W' ⟨h1, h2, h3⟩
  refine ⟨h1, fun h => h2 ?_, fun y' a' h => ?_⟩
  · cases hr : dNum xs a with
    | none => rfl
    | some p => simp [dF, hr] at h
  · cases hr : dNum xs a with
    | none => simp [dF, hr] at h
    | some p =>
      obtain ⟨v, a1⟩ := p
      simp only [dF, hr, Option.bind_some, Option.some.injEq, Prod.mk.injEq] at h
      obtain ⟨rfl, rfl⟩ := h
      obtain ⟨h4, h5, h6⟩ := h3 v a1 hr
      have hM := M_moved2 hm hE hbx (by decide) (by decide) h1
      obtain ⟨v11, v12, v16, v17, v18, v19, hcs, g11, g12, g16, g17, g18, g19⟩ := k34_openM hM
      subst hcs
      exact ⟨h4, h5, _, k34_mkM _ base _ ({ y with f7 := v }) g11 g12 g16 g17 g18 g19, by simpa using h6⟩
 case uW =>
  have hbA := fun o => below_alloc (Below.refl W.heap.size W) o
  exact read_get _ (fun _ _ => by kernel_rfl) _ _ _ W gr g (ReadOk W gr g A xs.length c base (dF .uW xs a y)) (read_ends) ((gc_uW w0 _ gr g A c a xs hD ha (below_step hb (hbA _)) hgr (blk_below (hbA _) hE) hne base (Nat.le_trans hbW (hbA _).size) y cs (Kd.M_below hm (hbA _)) (blk_below (hbA _) hbx)).mono fun e W' h => ⟨(Moved.of_below (hbA _) (fun k => k = gr ∨ k = g)).trans h.mov (fun _ _ h => h), h.bad, h.good⟩)
 case lw =>
  have hbA := fun o => below_alloc (Below.refl W.heap.size W) o
  exact read_get _ (fun _ _ => by kernel_rfl) _ _ _ W gr g (ReadOk W gr g A xs.length c base (dF .lw xs a y)) (read_ends) ((gc_uW w0 _ gr g A c a xs hD ha (below_step hb (hbA _)) hgr (blk_below (hbA _) hE) hne base (Nat.le_trans hbW (hbA _).size) y cs (Kd.M_below hm (hbA _)) (blk_below (hbA _) hbx)).mono fun e W' h => ⟨(Moved.of_below (hbA _) (fun k => k = gr ∨ k = g)).trans h.mov (fun _ _ h => h), h.bad, h.good⟩)
 case ld =>
  have hbA := fun o => below_alloc (Below.refl W.heap.size W) o
  exact read_get _ (fun _ _ => by kernel_rfl) _ _ _ W gr g (ReadOk W gr g A xs.length c base (dF .ld xs a y)) (read_ends) ((gc_uW w0 _ gr g A c a xs hD ha (below_step hb (hbA _)) hgr (blk_below (hbA _) hE) hne base (Nat.le_trans hbW (hbA _).size) y cs (Kd.M_below hm (hbA _)) (blk_below (hbA _) hbx)).mono fun e W' h => ⟨(Moved.of_below (hbA _) (fun k => k = gr ∨ k = g)).trans h.mov (fun _ _ h => h), h.bad, h.good⟩)
 case uD =>
  have hbA := fun o => below_alloc (Below.refl W.heap.size W) o
  exact read_get _ (fun _ _ => by kernel_rfl) _ _ _ W gr g (ReadOk W gr g A xs.length c base (dF .uD xs a y)) (read_ends) ((gc_uW w0 _ gr g A c a xs hD ha (below_step hb (hbA _)) hgr (blk_below (hbA _) hE) hne base (Nat.le_trans hbW (hbA _).size) y cs (Kd.M_below hm (hbA _)) (blk_below (hbA _) hbx)).mono fun e W' h => ⟨(Moved.of_below (hbA _) (fun k => k = gr ∨ k = g)).trans h.mov (fun _ _ h => h), h.bad, h.good⟩)
 case le =>
  have hbA := fun o => below_alloc (Below.refl W.heap.size W) o
  exact read_get _ (fun _ _ => by kernel_rfl) _ _ _ W gr g (ReadOk W gr g A xs.length c base (dF .le xs a y)) (read_ends) ((gc_le w0 _ gr g A c a xs hD ha (below_step hb (hbA _)) hgr (blk_below (hbA _) hE) hne base (Nat.le_trans hbW (hbA _).size) y cs (Kd.M_below hm (hbA _)) (blk_below (hbA _) hbx)).mono fun e W' h => ⟨(Moved.of_below (hbA _) (fun k => k = gr ∨ k = g)).trans h.mov (fun _ _ h => h), h.bad, h.good⟩)
 case lv =>
  have hbA := fun o => below_alloc (Below.refl W.heap.size W) o
  exact read_get _ (fun _ _ => by kernel_rfl) _ _ _ W gr g (ReadOk W gr g A xs.length c base (dF .lv xs a y)) (read_ends) ((gc_lv w0 _ gr g A c a xs hD ha (below_step hb (hbA _)) hgr (blk_below (hbA _) hE) hne base (Nat.le_trans hbW (hbA _).size) y cs (Kd.M_below hm (hbA _)) (blk_below (hbA _) hbx)).mono fun e W' h => ⟨(Moved.of_below (hbA _) (fun k => k = gr ∨ k = g)).trans h.mov (fun _ _ h => h), h.bad, h.good⟩)
 case ly =>
  have hbA := fun o => below_alloc (Below.refl W.heap.size W) o
  exact read_get _ (fun _ _ => by kernel_rfl) _ _ _ W gr g (ReadOk W gr g A xs.length c base (dF .ly xs a y)) (read_ends) ((gc_ly w0 _ gr g A c a xs hD ha (below_step hb (hbA _)) hgr (blk_below (hbA _) hE) hne base (Nat.le_trans hbW (hbA _).size) y cs (Kd.M_below hm (hbA _)) (blk_below (hbA _) hbx)).mono fun e W' h => ⟨(Moved.of_below (hbA _) (fun k => k = gr ∨ k = g)).trans h.mov (fun _ _ h => h), h.bad, h.good⟩)
 case la =>
  have hbA := fun o => below_alloc (Below.refl W.heap.size W) o
  exact read_get _ (fun _ _ => by kernel_rfl) _ _ _ W gr g (ReadOk W gr g A xs.length c base (dF .la xs a y)) (read_ends) ((gc_la w0 _ gr g A c a xs hD ha (below_step hb (hbA _)) hgr (blk_below (hbA _) hE) hne base (Nat.le_trans hbW (hbA _).size) y cs (Kd.M_below hm (hbA _)) (blk_below (hbA _) hbx)).mono fun e W' h => ⟨(Moved.of_below (hbA _) (fun k => k = gr ∨ k = g)).trans h.mov (fun _ _ h => h), h.bad, h.good⟩)
 case lo =>
  have hbA := fun o => below_alloc (Below.refl W.heap.size W) o
  exact read_get _ (fun _ _ => by kernel_rfl) _ _ _ W gr g (ReadOk W gr g A xs.length c base (dF .lo xs a y)) (read_ends) ((gc_lo w0 _ gr g A c a xs hD ha (below_step hb (hbA _)) hgr (blk_below (hbA _) hE) hne base (Nat.le_trans hbW (hbA _).size) y cs (Kd.M_below hm (hbA _)) (blk_below (hbA _) hbx)).mono fun e W' h => ⟨(Moved.of_below (hbA _) (fun k => k = gr ∨ k = g)).trans h.mov (fun _ _ h => h), h.bad, h.good⟩)
 case uE =>
  have hbA := fun o => below_alloc (Below.refl W.heap.size W) o
  exact read_get _ (fun _ _ => by kernel_rfl) _ _ _ W gr g (ReadOk W gr g A xs.length c base (dF .uE xs a y)) (read_ends) ((gc_uE w0 _ gr g A c a xs hD ha (below_step hb (hbA _)) hgr (blk_below (hbA _) hE) hne base (Nat.le_trans hbW (hbA _).size) y cs (Kd.M_below hm (hbA _)) (blk_below (hbA _) hbx)).mono fun e W' h => ⟨(Moved.of_below (hbA _) (fun k => k = gr ∨ k = g)).trans h.mov (fun _ _ h => h), h.bad, h.good⟩)
 case uI =>
  have hbA := fun o => below_alloc (Below.refl W.heap.size W) o
  exact read_get _ (fun _ _ => by kernel_rfl) _ _ _ W gr g (ReadOk W gr g A xs.length c base (dF .uI xs a y)) (read_ends) ((gc_uI w0 _ gr g A c a xs hD ha (below_step hb (hbA _)) hgr (blk_below (hbA _) hE) hne base (Nat.le_trans hbW (hbA _).size) y cs (Kd.M_below hm (hbA _)) (blk_below (hbA _) hbx)).mono fun e W' h => ⟨(Moved.of_below (hbA _) (fun k => k = gr ∨ k = g)).trans h.mov (fun _ _ h => h), h.bad, h.good⟩)
 case uP =>
  have hbA := fun o => below_alloc (Below.refl W.heap.size W) o
  exact read_get _ (fun _ _ => by kernel_rfl) _ _ _ W gr g (ReadOk W gr g A xs.length c base (dF .uP xs a y)) (read_ends) ((gc_uP w0 _ gr g A c a xs hD ha (below_step hb (hbA _)) hgr (blk_below (hbA _) hE) hne base (Nat.le_trans hbW (hbA _).size) y cs (Kd.M_below hm (hbA _)) (blk_below (hbA _) hbx)).mono fun e W' h => ⟨(Moved.of_below (hbA _) (fun k => k = gr ∨ k = g)).trans h.mov (fun _ _ h => h), h.bad, h.good⟩)
end Go.Proofs.YtmneemhplffemaaGreatDoorRR.Tab
namespace Go.Proofs.YtmneemhplffemaaGreatDoorRR.Tab
open Go.RowKit Go.Proofs.YtmneemhplffemaaGreatDoorRR.Ext Go.Proofs.YtmneemhplffemaaGreatDoorRR.Mem Go.Proofs.YtmneemhplffemaaGreatDoorRR.Get Go.Proofs.YtmneemhplffemaaGreatDoorRR.Row Go.Proofs.YtmneemhplffemaaGreatDoorRRW.PrintWords


theorem catch_flaw (g : Nat) (x : Bool) (older : List PanicEntry) (w : World) (hb : w.heap[g]? = some (.cells #[.bool x] 4 (0, 0))) :
  CallsD Tryz.prog 109 #[.pointer (some ⟨g, 0, none⟩)] (.panicking ({ v := .iface 139 (.agg #[]), recovered := false } :: older)) w fun e u' w' =>
   e = .returned (.tuple #[]) ∧ u' = .panicking ({ v := .iface 139 (.agg #[]), recovered := true } :: older) ∧ Moved w w' (fun k => k = g) ∧ w'.heap[g]? = some (.cells #[.bool false] 4 (0, 0)) := by
 have hb2 := blk_below (below_alloc (Below.refl _ _) (Obj.cells #[] 139 (0, 0))) hb
 have hc2 := blk_cell hb2 0
 have hz2 := blk_frozen hb2 0
 have HX := Aside0.mk (blk_set hb2 0 (.bool false))
 refine callsD_of_wpS Tryz.func109 rfl fun c₀ cs hu => ?_
 apply wpS_seq
 apply wpS_region
 simp [wpOpsS, go_sem, recoverD, hu, Tryz.ntmps109, Exit.thenS]
 refine wpS_of_wp ?_
 change Code.wp _ _ _ { tmps := #[.pointer (some ⟨g, 0, none⟩), .iface 139 (.agg #[]), undef, undef, .iface 139 (.agg #[]), undef, undef, undef, undef, undef, undef, undef, undef, undef, undef], defers := [] } _
 have hta : ∀ w : World, (Instr.typeAssert (.iface 139 (.agg #[])) 20 139 true).run Tryz.prog w = .ok (.tuple #[.agg #[], .bool true]) w := fun _ => by kernel_rfl
 have hno : ∀ (x : Bool) (w : World), (Op.unary .not (.bool x)).run Tryz.prog w = .ok (.bool (!x)) w := fun _ _ => rfl
 go_wp2
 cases c₀
 simp_all [bodyPostS, results, Tryz.results109, Exit.thenS]
 exact ⟨(Moved.of_below (below_alloc (Below.refl _ _) _) (fun k => k = g)).set_ (p := ⟨g, 0, none⟩) (.inl rfl) _, by simpa using HX.out⟩
theorem catch_none (p : Addr) (w : World) :
  CallsD Tryz.prog 109 #[.pointer (some p)] .returning w fun e u' w' => e = .returned (.tuple #[]) ∧ u' = .returning ∧ w' = w := by
 refine callsD_of_wpS Tryz.func109 rfl fun c₀ cs hu => ?_
 apply wpS_seq
 apply wpS_region
 simp [wpOpsS, go_sem, recoverD, hu, Tryz.ntmps109, Exit.thenS]
 refine wpS_of_wp ?_
 change Code.wp _ _ _ { tmps := #[.pointer (some p), .nilIface, undef, undef, .nilIface, undef, undef, undef, undef, undef, undef, undef, undef, undef, undef], defers := [] } _
 go_wp2
 cases c₀
 simp_all [bodyPostS, results, Tryz.results109, Exit.thenS]
set_option maxRecDepth 100000 in
theorem guarded_any (KF : FuncId) (caps : Array Value) (hK : ∀ (args : Array Value) (w : World), (callFunc KF args).run Tryz.prog w = .ok (.enter KF args) w) (W : World) (b : Bool) (Q : World → Prop)
   (hM : Calls Tryz.prog KF caps (W.alloc (Obj.cells #[.bool false] 4 (0, 0))) fun e W' => e = (if b = true then .returned (.tuple #[]) else .panicked flaw) ∧ W'.heap[W.heap.size]? = some (Obj.cells #[.bool false] 4 (0, 0)) ∧ Q W') :
   Calls Tryz.prog 65 #[.func (.func KF) #[] caps] W fun e W' => e = .returned (.bool b) ∧ ∃ W1, Q W1 ∧ Moved W1 W' (fun k => k = W.heap.size) := by
 have HM := Aside0.mk hM
 have hmf : ∀ (fn : Fn) (first cap : Array Value) (w : World), (Instr.makeFunc fn first cap).run Tryz.prog w = .ok (.func fn first cap) w := fun _ _ _ _ => rfl
 clear hM
 go_enter_defers Tryz.func65, Tryz.ntmps65
 go_wp2_with fail
 refine HM.out.mono ?_
 rintro e w1 ⟨he, hx, hq⟩
 have HX := Aside0.mk hx
 have HQ := Aside0.mk hq
 clear hq HM
 cases b with
 | true =>
   simp only [if_true] at he
   subst he
   have hc := blk_cell hx 0
   have hf := blk_frozen hx 0
   have hx2 := blk_cell (blk_set hx 0 (.bool true)) 0
   clear hx
   go_wp2_with fail
   refine leaves_cons (f := 109) (args := #[.pointer (some ⟨W.heap.size, 0, none⟩)]) (by simp) (by simp [go_sem]) ?_
   refine (catch_none ⟨W.heap.size, 0, none⟩ _).mono ?_
   rintro e u' w'' ⟨rfl, rfl, rfl⟩
   simp at hx2
   simp [Leaves, settle, results, Tryz.results65, go_sem, hx2]
   exact ⟨w1, HQ.out, (Moved.refl w1 (fun k => k = W.heap.size)).set_ (p := ⟨W.heap.size, 0, none⟩) (.inl rfl) _⟩
 | false =>
   simp only [Bool.false_eq_true, if_false] at he
   subst he
   refine leaves_cons (f := 109) (args := #[.pointer (some ⟨W.heap.size, 0, none⟩)]) (by simp) (by simp [go_sem]) ?_
   refine (catch_flaw W.heap.size false [] w1 hx).mono ?_
   rintro e u' w'' ⟨rfl, rfl, hm, hx3⟩
   have hx2 := blk_cell hx3 0
   simp at hx2
   simp [Leaves, settle, results, Tryz.results65, go_sem, hx2]
   exact ⟨w1, HQ.out, hm⟩
end Go.Proofs.YtmneemhplffemaaGreatDoorRR.Tab
namespace Go.Proofs.YtmneemhplffemaaGreatDoorRR.Tab
open Go.RowKit Go.Proofs.YtmneemhplffemaaGreatDoorRR.Ord Go.Proofs.YtmneemhplffemaaGreatDoorRR.Name Go.Proofs.YtmneemhplffemaaGreatDoorRR.Ext Go.Proofs.YtmneemhplffemaaGreatDoorRR.Wire Go.Proofs.YtmneemhplffemaaGreatDoorRR.Mem Go.Proofs.YtmneemhplffemaaGreatDoorRR.Put Go.Proofs.YtmneemhplffemaaGreatDoorRR.Get Go.Proofs.YtmneemhplffemaaGreatDoorRR.Law Go.Proofs.YtmneemhplffemaaGreatDoorRR.Row Go.Proofs.YtmneemhplffemaaGreatDoorRR.Ki Go.Proofs.YtmneemhplffemaaGreatDoorRR.Chk Go.Proofs.YtmneemhplffemaaGreatDoorRR.May Go.Proofs.YtmneemhplffemaaGreatDoorRRW.PrintWords


def zeroCells : List Value := [.int .i64 0, .int .i64 0, .int .i64 0, .int .i64 0, .int .i64 0, .int .i64 0, .int .i64 0, .int .i64 0, .int .i64 0, .int .i64 0, .int .i64 0, .slice none 0 0, .slice none 0 0, .int .i64 0, .int .i64 0, .int .i64 0, .slice none 0 0, .slice none 0 0, .slice none 0 0, .slice none 0 0, .string ⟨#[]⟩]
theorem zero_M (w : World) (base : Nat) (k : Int) : k34.M w base (fun _ => True) (zeroNote k) (.int .i64 k :: zeroCells.drop 1) :=
 k34_mkM w base _ (zeroNote k) (Kd.R_nil _ _ _ _ _) (Kd.R_nil _ _ _ _ _) (Kd.R_nil _ _ _ _ _) (Kd.R_nil _ _ _ _ _) (Kd.R_nil _ _ _ _ _) (Kd.R_nil _ _ _ _ _)
theorem goes_F {xs : List Int} (hB : Bytes xs) {l : Ltr} {a a' : Nat} {y y' : Note} (ha : a ≤ xs.length) (h : dF l xs a y = some (y', a')) : a' ≤ xs.length := by
 cases l
 all_goals simp only [dF] at h
 all_goals obtain ⟨p, h0, h⟩ := Option.bind_eq_some_iff.1 h
 case lv =>
  obtain ⟨q, h1, h⟩ := Option.bind_eq_some_iff.1 h
  obtain ⟨r, h2, h⟩ := Option.bind_eq_some_iff.1 h
  simp only [Option.some.injEq, Prod.mk.injEq] at h
  obtain ⟨_, rfl⟩ := h
  exact goes_num hB _ _ _ (goes_num hB _ _ _ (goes_num hB _ _ _ ha h0) h1) h2
 all_goals simp only [Option.some.injEq, Prod.mk.injEq] at h
 all_goals obtain ⟨_, rfl⟩ := h
 case la => exact goes_txt hB _ _ _ ha h0
 case ly => exact goes_Reply hB _ _ _ ha h0
 case uW => exact goes_lst hB (goes_Watch hB) _ _ _ ha h0
 case lw => exact goes_lst hB (goes_Watch hB) _ _ _ ha h0
 case ld => exact goes_lst hB (goes_Watch hB) _ _ _ ha h0
 case uD => exact goes_lst hB (goes_Watch hB) _ _ _ ha h0
 case lo => exact goes_lst hB (goes_Op hB) _ _ _ ha h0
 case uE => exact goes_lst hB (goes_Entry hB) _ _ _ ha h0
 case uI => exact goes_lst hB (goes_Item hB) _ _ _ ha h0
 case uP => exact goes_lst hB (goes_Part hB) _ _ _ ha h0
 all_goals exact goes_num hB _ _ _ ha h0
theorem dFs_at {w : List Ltr} {i : Nat} {l : Ltr} (hl : w[i]? = some l) (xs : List Int) (a : Nat) (y : Note) : dFs (w.drop i) xs a y = (dF l xs a y).bind fun p => dFs (w.drop (i + 1)) xs p.2 p.1 := by
 obtain ⟨hi, he⟩ := List.getElem?_eq_some_iff.1 hl
 rw [List.drop_eq_getElem_cons hi, he]
 rfl
theorem R_moved3 {α : Type} {d : Kd α} {e : Nat} {w w1 : World} {base g g' : Nat} {v : Value} {xs : List α} {t t' : Nat} {cs cs' : Array Value} (h : d.R e w base (fun _ => True) v xs) (hb : w.heap[g]? = some (.cells cs t (0, 0))) (hb' : w.heap[g']? = some (.cells cs' t' (0, 0))) (ht : ∀ q, q ∈ e :: d.E → q ≠ t) (ht' : ∀ q, q ∈ e :: d.E → q ≠ t') (hm : Moved w w1 (fun k => k = g ∨ k = g')) : d.R e w1 base (fun _ => True) v xs :=
 Kd.R_mono (Kd.R_step (Kd.R_types (Kd.R_types h hb ht) hb' ht') (fun k hk hl => hm.block k hl (fun h => h.elim hk.1.2 hk.2))) (fun _ _ => trivial)
theorem dNote_none1 {xs : List Int} (h : dNum xs 0 = none) : dNote xs = none := by unfold dNote; rw [h]; rfl
theorem dNote_none2 {xs : List Int} {v : Int} {a : Nat} (h : dNum xs 0 = some (v, a)) (hv : v < 1 ∨ 25 ≤ v) : dNote xs = none := by
 unfold dNote
 rw [h]
 simp only [Option.bind_some]
 rw [if_pos hv]
theorem dNote_some {xs : List Int} {k a : Nat} (h : dNum xs 0 = some ((k : Int), a)) (h1 : 1 ≤ k) (h2 : k < 25) : dNote xs = (dFs (word k) xs a (zeroNote k)).bind fun r => if r.2 = xs.length then some r.1 else none := by
 unfold dNote
 rw [h]
 simp only [Option.bind_some]
 rw [if_neg (by omega), Int.toNat_natCast]
set_option maxRecDepth 100000 in
set_option maxHeartbeats 8000000 in
theorem c_work (w0 W : World) (gd g : Nat) (A : Option Addr) (c : Nat) (xs : List Int) (hD : Get.Data w0 A c xs) (hb : Below w0.heap.size w0 W) (hcd : W.cell? ⟨gd, 0, none⟩ = some (.slice A xs.length c)) (hbx : W.heap[g]? = some (.cells zeroCells.toArray 34 (0, 0))) (HE : EnvN w0) (hg0 : w0.heap.size ≤ g) :
   Calls Tryz.prog 66 #[.pointer (some ⟨gd, 0, none⟩), .pointer (some ⟨g, 0, none⟩)] W fun e W' => Moved W W' (fun k => k = g) ∧ (dNote xs = none → e = .panicked flaw) ∧ ∀ y, dNote xs = some y → e = .returned (.tuple #[]) ∧ ∃ cs' : List Value, k34.M W' W.heap.size (fun _ => True) y cs' ∧ W'.heap[g]? = some (.cells cs'.toArray 34 (0, 0)) := by
 have HD := Aside0.mk hD
 have HE := Aside0.mk HE
 have HB := Aside0.mk hb
 have hbA := below_alloc (Below.refl W.heap.size W) (Obj.cells #[.slice A xs.length c, .int .i64 ((0 : Nat) : Int)] 136 (0, 0))
 have HX := Aside0.mk (blk_below hbA hbx)
 have hEye : Eye (W.alloc (Obj.cells #[.slice A xs.length c, .int .i64 ((0 : Nat) : Int)] 136 (0, 0))) W.heap.size A xs.length c 0 := blk_alloc _
 have HEY := Aside0.mk hEye
 have HBA := Aside0.mk hbA
 have HGR := Aside0.mk (hb.size)
 have hgl := blk_lt hbx
 have hne : g ≠ W.heap.size := by omega
 clear hD hb hbA hbx hEye
 go_enter Tryz.func66, Tryz.ntmps66
 go_wp2_with fail
 refine (rnum w0 _ W.heap.size A c 0 xs HD.out (Nat.zero_le _) (below_step HB.out HBA.out) HGR.out HEY.out).mono ?_
 rintro e w1 ⟨hm1, hn, hs⟩
 cases hr : dNum xs 0 with
 | none =>
   obtain rfl := hn hr
   have HR := Aside0.mk (dNote_none1 hr)
   exact ⟨rfl, ((Moved.of_below HBA.out (fun k => k = W.heap.size ∨ k = g)).trans hm1 (fun _ _ h => .inl h)).mono (fun k hk hs => hs.elim (fun h => by omega) (fun h => h)), (fun _ => rfl), fun y h => by rw [HR.out] at h; cases h⟩
 | some p =>
   obtain ⟨v, a1⟩ := p
   obtain ⟨v1, rfl, rfl, he⟩ := hs _ _ hr
   obtain ⟨_, hv0, _⟩ := dNum_some HD.out.bytes hr
   obtain ⟨k, rfl⟩ := Int.eq_ofNat_of_zero_le hv0
   have ha1 := goes_num HD.out.bytes _ _ _ (Nat.zero_le _) hr
   have HX1 := Aside0.mk (hm1.blk HX.out hne)
   have HV1 := Aside0.mk ((Moved.of_below HBA.out (fun k => k = W.heap.size ∨ k = g)).trans hm1 (fun _ _ h => .inl h))
   have hc0 : w1.cell? ⟨g, 0, none⟩ = some (.int .i64 0) := blk_cell HX1.out 0
   have hf0 := blk_frozen HX1.out 0
   have HX2 : Aside0 ((w1.setCell ⟨g, 0, none⟩ (.int .i64 (k : Int))).heap[g]? = some (.cells ((.int .i64 (k : Int) :: zeroCells.drop 1) : List Value).toArray 34 (0, 0))) := ⟨blk_set HX1.out 0 (.int .i64 (k : Int))⟩
   have HE2 : Aside0 (Eye (w1.setCell ⟨g, 0, none⟩ (.int .i64 (k : Int))) W.heap.size A xs.length c a1) := ⟨blk_far he (p := ⟨g, 0, none⟩) (fun h => hne h.symm) _⟩
   have HV2 := Aside0.mk (HV1.out.set_ (p := ⟨g, 0, none⟩) (.inl (.inr rfl)) (.int .i64 (k : Int)))
   have HRR := Aside0.mk hr
   clear hm1 hn hs he hr hv0 HX1 HV1 HX HEY
   go_upto_region 2 with fail
   clear hc0 hf0
   generalize w1.setCell ⟨g, 0, none⟩ (.int .i64 (k : Int)) = w2 at HX2 HE2 HV2 ⊢
   have n_0 : w2.cell? ⟨g, 0, none⟩ = some (.int .i64 (k : Int)) := blk_cell HX2.out 0
   have HA2 := Aside0.mk (HV2.out.above HB.out (fun k hk => hk.elim (fun h => by rw [h]; exact HGR.out) (fun h => by rw [h]; exact hg0)))
   cases h1 : decide ((k : Int) < 1) with
   | true =>
     have HR := Aside0.mk (dNote_none2 HRR.out (.inl (of_decide_eq_true h1)))
     go_wp2_with fail
     exact ⟨rfl, HV2.out.mono (fun k hk hs => hs.elim (fun h => by omega) (fun h => h)), (fun _ => rfl), fun y h => by rw [HR.out] at h; cases h⟩
   | false =>
     cases h2 : decide ((k : Int) ≥ 25) with
     | true =>
       have h2_0 : decide ((25 : Int) ≤ k) = true := h2
       have HR := Aside0.mk (dNote_none2 HRR.out (.inr (of_decide_eq_true h2)))
       go_wp2_with fail
       exact ⟨rfl, HV2.out.mono (fun k hk hs => hs.elim (fun h => by omega) (fun h => h)), (fun _ => rfl), fun y h => by rw [HR.out] at h; cases h⟩
     | false =>
       have h2_0 : decide ((25 : Int) ≤ k) = false := h2
       have q1 := of_decide_eq_false h1
       have q2 := of_decide_eq_false h2
       have hk25 : k < 25 := by omega
       have HDN := Aside0.mk (dNote_some HRR.out (by omega) hk25)
       have hfd : ∀ (A : Option Addr) (n c : Nat) (b : Value) (w : World), (Instr.field 102 (.agg #[.slice A n c, b]) 0).run Tryz.prog w = .ok (.slice A n c) w := fun _ _ _ _ _ => rfl
       go_upto_region 5 with (go_at_call 41; (with_reducible refine (t_shape k hk25 _ (HE.out.at_ HA2.out)).mono ?_); rintro e w3 ⟨hb3, v, rfl, ho⟩; obtain ⟨mf, hmf⟩ : ∃ mf, mf = (if k = 13 then (.func (.func 90) #[] #[] : Value) else .nilFunc) := ⟨_, rfl⟩; rw [← hmf]; clear hmf; obtain ⟨A2, c2, rfl⟩ := Kd.R_slice ho; have HO3 := Aside0.mk ho; have HX3 := Aside0.mk (blk_below hb3 HX2.out); have HE3 : Aside0 (Eye w3 W.heap.size A xs.length c a1) := ⟨blk_below hb3 HE2.out⟩; have HV3 := Aside0.mk (HV2.out.step hb3); clear hb3 ho)
       have hwl : (word k).length ≤ 6 := word_len k hk25
       have HM3 := Aside0.mk (zero_M w3 W.heap.size (k : Int))
       go_loopw [26] (fun vi wr => ∃ (i a : Nat) (y : Note) (cs' : List Value), vi = .int .i64 i ∧ i ≤ (word k).length ∧ a ≤ xs.length ∧ Aside0 (dFs ((word k).drop i) xs a y = dFs (word k) xs a1 (zeroNote k)) ∧ Aside0 (Eye wr W.heap.size A xs.length c a) ∧ Aside0 (k34.M wr W.heap.size (fun _ => True) y cs') ∧ Aside0 (wr.heap[g]? = some (.cells cs'.toArray 34 (0, 0))) ∧ Aside0 (Moved W wr (fun k => k = W.heap.size ∨ k = g)) ∧ Aside0 (kField.R 109 wr w2.heap.size (fun _ => True) (.slice A2 (word k).length c2) (word k))) (fun vi _ => (word k).length - (intOf vi).toNat)
       case atStart => exact ⟨0, a1, zeroNote k, _, rfl, Nat.zero_le _, ha1, ⟨rfl⟩, HE3, HM3, HX3, HV3, HO3⟩
       case round =>
        clear HE3 HM3 HX3 HV3 HO3 n_0
        obtain ⟨i, a, y, cs', rfl, hi, ha, HF, HEY, HM, HX, HV, HO⟩ := hrel
        obtain ⟨wo, rfl⟩ : ∃ wo : World, wo = wr := ⟨_, rfl⟩
        by_cases hlt : i < (word k).length
        · obtain ⟨l, hl⟩ : ∃ l, (word k)[i]? = some l := ⟨_, List.getElem?_eq_getElem hlt⟩
          have HLT := Aside0.mk hl
          obtain ⟨q0, q1', q2', q3, q4, q5, hq⟩ := fCells_open l
          have HQ := Aside0.mk hq
          obtain ⟨ad, rfl, a_0, a_1, a_2, a_3, a_4, a_5⟩ := at_field (Kd.R_reads' HO.out).2.2 i l hl hq
          clear hl hq
          go_wp2_with (first | ((with_reducible refine gate_store2 (t := 109) rfl ?_); refine store_row (old := #[.int .i64 0, .nilFunc, .nilFunc, .nilFunc, .nilFunc, .nilFunc]) (cs := #[q0, q1', q2', q3, q4, q5]) rfl rfl rfl (blk_alloc _) rfl rfl infoField rfl (q_one HQ.out) ?_; intro w5 hm5 hx5; have HFB := Aside0.mk hx5; have hb5 := Moved.above_ hm5 (Nat.le_refl _); have HO5 := Aside0.mk (Kd.R_below HO.out hb5); have HEY5 : Aside0 (Eye w5 W.heap.size A xs.length c a) := ⟨blk_below hb5 HEY.out⟩; have HM5 := Aside0.mk (Kd.M_below HM.out hb5); have HX5 := Aside0.mk (blk_below hb5 HX.out); have HV5 := Aside0.mk (HV.out.step hb5); clear hm5 hx5 hb5 a_0 a_1 a_2 a_3 a_4 a_5) | ((with_reducible refine gate_load (t := 109) rfl ?_); refine load_row rfl rfl Tryz.underlying109 rfl HFB.out rfl infoField ?_))
          have hA5 := HV5.out.above HB.out (fun k hk => hk.elim (fun h => by rw [h]; exact HGR.out) (fun h => by rw [h]; exact hg0))
          have hri := c_read l w0 _ W.heap.size g A c a xs HD.out ha hA5 HGR.out HEY5.out hne W.heap.size HV5.out.size y cs' HM5.out HX5.out
          rw [HQ.out] at hri
          refine hri.mono ?_
          clear hri hA5
          rintro e w6 ⟨hm6, hn6, hs6⟩
          have HV6 := Aside0.mk (HV5.out.trans hm6 (fun _ _ h => h))
          cases hr2 : dF l xs a y with
          | none =>
            obtain rfl := hn6 hr2
            have HR := Aside0.mk (show dNote xs = none by rw [HDN.out, ← HF.out, dFs_at HLT.out, hr2]; rfl)
            exact ⟨rfl, HV6.out.mono (fun k hk hs => hs.elim (fun h => by omega) (fun h => h)), (fun _ => rfl), fun y h => by rw [HR.out] at h; cases h⟩
          | some p =>
            obtain ⟨y', a'⟩ := p
            obtain ⟨rfl, he6, cs6, hM6, hX6⟩ := hs6 _ _ hr2
            have ha' := goes_F HD.out.bytes ha hr2
            have HF6 := Aside0.mk (show dFs ((word k).drop (i + 1)) xs a' y' = dFs (word k) xs a1 (zeroNote k) by rw [← HF.out, dFs_at HLT.out, hr2]; rfl)
            have HO6 := Aside0.mk (R_moved3 HO5.out HEY5.out HX5.out (by decide) (by decide) hm6)
            have HE6 := Aside0.mk he6
            have HM6 := Aside0.mk hM6
            have HX6 := Aside0.mk hX6
            clear hm6 hn6 hs6 he6 hM6 hX6 hr2
            go_wp2_with fail
            go_roundw
            case rel => exact ⟨i + 1, a', y', cs6, by go_num, by omega, ha', HF6, HE6, HM6, HX6, HV6, HO6⟩
            case measure => simp [intOf]; omega
        · have hdr : (word k).drop i = [] := List.drop_eq_nil_of_le (by omega)
          rw [hdr] at HF
          have HDN2 := Aside0.mk (show dNote xs = if a = xs.length then some y else none by rw [HDN.out, ← HF.out]; rfl)
          clear hdr
          go_wp2_with fail
          refine (rend _ W.heap.size A xs.length c a HEY.out).mono ?_
          rintro e w9 ⟨hm9, he9⟩
          have HV9 := Aside0.mk (HV.out.trans hm9 (fun _ _ h => .inl h))
          by_cases hae : a = xs.length
          · rw [if_pos hae] at he9 HDN2
            subst he9
            have HM9 := Aside0.mk (Get.M_moved HM.out HEY.out (by decide) hm9)
            have HX9 := Aside0.mk (hm9.blk HX.out hne)
            clear hm9
            go_wp2_with fail
            first | go_end0 | refine bodyPost_ret (results_none rfl _ _ _) rfl ?_
            refine ⟨HV9.out.mono (fun k hk hs => hs.elim (fun h => by omega) (fun h => h)), (fun h => by rw [HDN2.out] at h; cases h), fun y' h => ?_⟩
            rw [HDN2.out] at h
            obtain rfl := Option.some.inj h
            exact ⟨rfl, cs', HM9.out, HX9.out⟩
          · rw [if_neg hae] at he9 HDN2
            subst he9
            exact ⟨rfl, HV9.out.mono (fun k hk hs => hs.elim (fun h => by omega) (fun h => h)), (fun _ => rfl), fun y h => by rw [HDN2.out] at h; cases h⟩
end Go.Proofs.YtmneemhplffemaaGreatDoorRR.Tab
namespace Go.Proofs.YtmneemhplffemaaGreatDoorRR.Tab
open Go.RowKit Go.Proofs.YtmneemhplffemaaGreatDoorRR.Ext Go.Proofs.YtmneemhplffemaaGreatDoorRR.Wire Go.Proofs.YtmneemhplffemaaGreatDoorRR.Mem Go.Proofs.YtmneemhplffemaaGreatDoorRR.Put Go.Proofs.YtmneemhplffemaaGreatDoorRR.Get Go.Proofs.YtmneemhplffemaaGreatDoorRR.Law Go.Proofs.YtmneemhplffemaaGreatDoorRR.Ki Go.Proofs.YtmneemhplffemaaGreatDoorRRW.PrintWords

theorem rep_all {β : Type} {d : List Int → Nat → Option (β × Nat)} {xs : List Int} {P : β → Prop} (h : ∀ a x b, d xs a = some (x, b) → P x) (n : Nat) : ∀ a l z, dRep d xs n a = some (l, z) → l.length = n ∧ ∀ x ∈ l, P x := by
 induction n with
 | zero =>
   intro a l z he
   simp only [dRep, Option.some.injEq, Prod.mk.injEq] at he
   obtain ⟨rfl, _⟩ := he
   exact ⟨rfl, by simp⟩
 | succ n ih =>
   intro a l z he
   rw [dRep] at he
   cases hr : d xs a with
   | none => rw [hr] at he; cases he
   | some p =>
     obtain ⟨x, b⟩ := p
     rw [hr] at he
     simp only at he
     cases hr2 : dRep d xs n b with
     | none => rw [hr2] at he; cases he
     | some p2 =>
       obtain ⟨l2, z2⟩ := p2
       rw [hr2] at he
       simp only [Option.some.injEq, Prod.mk.injEq] at he
       obtain ⟨rfl, rfl⟩ := he
       obtain ⟨e1, e2⟩ := ih b l2 z2 hr2
       refine ⟨by rw [List.length_cons, e1], fun y hy => ?_⟩
       rcases List.mem_cons.1 hy with rfl | hy
       · exact h a _ b hr
       · exact e2 y hy
theorem rep_far {β : Type} {d : List Int → Nat → Option (β × Nat)} {xs : List Int} (h : ∀ a x b, d xs a = some (x, b) → a < b) (n : Nat) : ∀ a l z, dRep d xs n a = some (l, z) → a + n ≤ z := by
 induction n with
 | zero =>
   intro a l z he
   simp only [dRep, Option.some.injEq, Prod.mk.injEq] at he
   omega
 | succ n ih =>
   intro a l z he
   rw [dRep] at he
   cases hr : d xs a with
   | none => rw [hr] at he; cases he
   | some p =>
     obtain ⟨x, b⟩ := p
     rw [hr] at he
     simp only at he
     cases hr2 : dRep d xs n b with
     | none => rw [hr2] at he; cases he
     | some p2 =>
       obtain ⟨l2, z2⟩ := p2
       rw [hr2] at he
       simp only [Option.some.injEq, Prod.mk.injEq] at he
       obtain ⟨rfl, rfl⟩ := he
       have e1 := ih b l2 z2 hr2
       have e2 := h _ _ _ hr
       omega
theorem lst_all {β : Type} {d : List Int → Nat → Option (β × Nat)} {xs : List Int} {P : β → Prop} (hB : Bytes xs) (h : ∀ a x b, d xs a = some (x, b) → P x) {a : Nat} {p : List β × Nat} (he : dLst d xs a = some p) : p.1.length ≤ 2147483647 ∧ ∀ x ∈ p.1, P x := by
 unfold dLst at he
 cases hr : dNum xs a with
 | none => rw [hr] at he; cases he
 | some q =>
   obtain ⟨n, b⟩ := q
   rw [hr] at he
   obtain ⟨_, h0, h1, _⟩ := dNum_some hB hr
   obtain ⟨e1, e2⟩ := rep_all h _ b p.1 p.2 he
   exact ⟨by omega, e2⟩
theorem lst_len {β : Type} {d : List Int → Nat → Option (β × Nat)} {xs : List Int} (hB : Bytes xs) {a : Nat} {p : List β × Nat} (he : dLst d xs a = some p) : p.1.length ≤ 1000000000000000 := by
 have := (lst_all (P := fun _ => True) hB (fun _ _ _ _ => trivial) he).1
 omega
theorem far_Watch {xs : List Int} (hB : Bytes xs) : ∀ a x b, dWatch xs a = some (x, b) → a < b := by
 intro a x b h
 unfold dWatch at h
 obtain ⟨p0, h0, h⟩ := Option.bind_eq_some_iff.1 h
 have g0 := (dNum_some hB h0).2.2.2.1
 obtain ⟨p1, h1, h⟩ := Option.bind_eq_some_iff.1 h
 have g1 := (dTxt_some hB h1).2.2.1
 obtain ⟨p2, h2, h⟩ := Option.bind_eq_some_iff.1 h
 have g2 := (dNum_some hB h2).2.2.2.1
 obtain ⟨p3, h3, h⟩ := Option.bind_eq_some_iff.1 h
 have g3 := (dNum_some hB h3).2.2.2.1
 simp only [Option.some.injEq, Prod.mk.injEq] at h
 omega
theorem lst_watch {xs : List Int} (hB : Bytes xs) (hL : xs.length ≤ 262144) {a : Nat} {p : List S96 × Nat} (ha : a ≤ xs.length) (he : dLst dWatch xs a = some p) : p.1.length ≤ 17592186043904 := by
 have hz := goes_rep (goes_Watch hB)
 unfold dLst at he
 cases hr : dNum xs a with
 | none => rw [hr] at he; cases he
 | some q =>
   obtain ⟨n, b⟩ := q
   rw [hr] at he
   obtain ⟨_, h0, h1, _, hb, _⟩ := dNum_some hB hr
   have e1 := (rep_all (P := fun _ => True) (fun _ _ _ _ => trivial) _ b p.1 p.2 he).1
   have e2 := rep_far (far_Watch hB) _ b p.1 p.2 he
   have e3 := hz _ b p.1 p.2 hb he
   omega
theorem kids_reply {xs : List Int} (hB : Bytes xs) {a : Nat} {p : S29 × Nat} (he : dReply xs a = some p) : (∀ r ∈ p.1.f3, ∀ y ∈ r.f6, y.size ≤ 140737488355328) ∧ p.1.f3.length ≤ 1000000000000000 := by
 unfold dReply at he
 obtain ⟨p0, h0, h⟩ := Option.bind_eq_some_iff.1 he
 obtain ⟨p1, h1, h⟩ := Option.bind_eq_some_iff.1 h
 obtain ⟨p2, h2, h⟩ := Option.bind_eq_some_iff.1 h
 obtain ⟨p3, h3, h⟩ := Option.bind_eq_some_iff.1 h
 simp only [Option.some.injEq] at h
 subst h
 refine ⟨(lst_all (P := fun r => ∀ y ∈ r.f6, y.size ≤ 140737488355328) hB (fun a r b hr => ?_) h3).2, lst_len hB h3⟩
 unfold dResult at hr
 obtain ⟨q0, k0, hr⟩ := Option.bind_eq_some_iff.1 hr
 obtain ⟨q1, k1, hr⟩ := Option.bind_eq_some_iff.1 hr
 obtain ⟨q2, k2, hr⟩ := Option.bind_eq_some_iff.1 hr
 obtain ⟨q3, k3, hr⟩ := Option.bind_eq_some_iff.1 hr
 obtain ⟨q4, k4, hr⟩ := Option.bind_eq_some_iff.1 hr
 obtain ⟨q5, k5, hr⟩ := Option.bind_eq_some_iff.1 hr
 obtain ⟨q6, k6, hr⟩ := Option.bind_eq_some_iff.1 hr
 simp only [Option.some.injEq, Prod.mk.injEq] at hr
 obtain ⟨rfl, _⟩ := hr
 exact (lst_all (P := fun y : ByteArray => y.size ≤ 140737488355328) hB (fun a y b hy => by have := (dTxt_some hB hy).2.1; omega) k6).2
theorem sane_F {xs : List Int} (hB : Bytes xs) (hL : xs.length ≤ 262144) {l : Ltr} {a a' : Nat} {y y' : Note} (ha : a ≤ xs.length) (h : dF l xs a y = some (y', a')) (hs : Sane y) : Sane y' := by
 obtain ⟨s0, s1, s2, s3, s4, s5, s6⟩ := hs
 cases l
 all_goals simp only [dF] at h
 all_goals obtain ⟨p, h0, h⟩ := Option.bind_eq_some_iff.1 h
 case lv =>
  obtain ⟨q, h1, h⟩ := Option.bind_eq_some_iff.1 h
  obtain ⟨r, h2, h⟩ := Option.bind_eq_some_iff.1 h
  simp only [Option.some.injEq, Prod.mk.injEq] at h
  obtain ⟨rfl, _⟩ := h
  exact ⟨s0, s1, s2, s3, s4, s5, s6⟩
 all_goals simp only [Option.some.injEq, Prod.mk.injEq] at h
 all_goals obtain ⟨rfl, _⟩ := h
 all_goals first
  | exact ⟨s0, s1, s2, s3, s4, s5, s6⟩
  | exact ⟨s0, s1, s2, s3, lst_watch hB hL ha h0, s5, s6⟩
  | exact ⟨(kids_reply hB h0).1, s1, s2, (kids_reply hB h0).2, s4, s5, s6⟩
  | exact ⟨s0, lst_len hB h0, s2, s3, s4, s5, s6⟩
  | exact ⟨s0, s1, lst_len hB h0, s3, s4, s5, s6⟩
  | exact ⟨s0, s1, s2, s3, s4, lst_len hB h0, s6⟩
  | exact ⟨s0, s1, s2, s3, s4, s5, lst_len hB h0⟩
theorem end_F {xs : List Int} (hB : Bytes xs) {l : Ltr} {a a' : Nat} {y y' : Note} (ha : a ≤ xs.length) (h : dF l xs a y = some (y', a')) : a' ≤ xs.length := by
 cases l
 all_goals simp only [dF] at h
 all_goals obtain ⟨p, h0, h⟩ := Option.bind_eq_some_iff.1 h
 case lv =>
  obtain ⟨q, h1, h⟩ := Option.bind_eq_some_iff.1 h
  obtain ⟨r, h2, h⟩ := Option.bind_eq_some_iff.1 h
  simp only [Option.some.injEq, Prod.mk.injEq] at h
  obtain ⟨_, rfl⟩ := h
  exact goes_num hB _ r.1 _ (goes_num hB _ q.1 _ (goes_num hB _ p.1 _ ha h0) h1) h2
 all_goals simp only [Option.some.injEq, Prod.mk.injEq] at h
 all_goals obtain ⟨_, rfl⟩ := h
 all_goals first
  | exact goes_num hB _ p.1 _ ha h0
  | exact goes_txt hB _ p.1 _ ha h0
  | exact goes_lst hB (goes_Watch hB) _ p.1 _ ha h0
  | exact goes_lst hB (goes_Op hB) _ p.1 _ ha h0
  | exact goes_lst hB (goes_Entry hB) _ p.1 _ ha h0
  | exact goes_lst hB (goes_Item hB) _ p.1 _ ha h0
  | exact goes_lst hB (goes_Part hB) _ p.1 _ ha h0
  | exact goes_Reply hB _ p.1 _ ha h0
theorem sane_zero (k : Int) : Sane (zeroNote k) := ⟨(fun r hr => absurd hr (by simp [zeroNote])), Nat.zero_le _, Nat.zero_le _, Nat.zero_le _, Nat.zero_le _, Nat.zero_le _, Nat.zero_le _⟩
theorem sane_Fs {xs : List Int} (hB : Bytes xs) (hL : xs.length ≤ 262144) (w : List Ltr) : ∀ {a a' : Nat} {y y' : Note}, a ≤ xs.length → dFs w xs a y = some (y', a') → Sane y → Sane y' := by
 induction w with
 | nil =>
   intro a a' y y' _ h hs
   simp only [dFs, Option.some.injEq, Prod.mk.injEq] at h
   exact h.1 ▸ hs
 | cons l w ih =>
   intro a a' y y' ha h hs
   obtain ⟨p, h0, h⟩ := Option.bind_eq_some_iff.1 h
   exact ih (end_F hB ha h0) h (sane_F hB hL ha h0 hs)
theorem sane_note {xs : List Int} {x : Note} (hB : Bytes xs) (hL : xs.length ≤ 262144) (h : dNote xs = some x) : Sane x := by
 unfold dNote at h
 obtain ⟨p, h0, h⟩ := Option.bind_eq_some_iff.1 h
 split at h
 · cases h
 · obtain ⟨r, h1, h⟩ := Option.bind_eq_some_iff.1 h
   split at h
   · simp only [Option.some.injEq] at h
     subst h
     exact sane_Fs hB hL _ (dNum_some hB (show dNum xs 0 = some (p.1, p.2) from h0)).2.2.2.2.1 h1 (sane_zero _)
   · cases h
end Go.Proofs.YtmneemhplffemaaGreatDoorRR.Tab
namespace Go.Proofs.YtmneemhplffemaaGreatDoorRR.Tab
open Go.RowKit Go.Proofs.YtmneemhplffemaaGreatDoorRR.Ord Go.Proofs.YtmneemhplffemaaGreatDoorRR.Name Go.Proofs.YtmneemhplffemaaGreatDoorRR.Ext Go.Proofs.YtmneemhplffemaaGreatDoorRR.Wire Go.Proofs.YtmneemhplffemaaGreatDoorRR.Mem Go.Proofs.YtmneemhplffemaaGreatDoorRR.Put Go.Proofs.YtmneemhplffemaaGreatDoorRR.Get Go.Proofs.YtmneemhplffemaaGreatDoorRR.Law Go.Proofs.YtmneemhplffemaaGreatDoorRR.Row Go.Proofs.YtmneemhplffemaaGreatDoorRR.Ki Go.Proofs.YtmneemhplffemaaGreatDoorRR.Chk Go.Proofs.YtmneemhplffemaaGreatDoorRR.May Go.Proofs.YtmneemhplffemaaGreatDoorRRW.PrintWords


theorem results_ct {P : Program} {fn : Func} {p q : Tmp} {ty : TypeId} (h : fn.results = #[.cell p ty, .tmp q]) (tmps : Array Value) (w : World) (g : Nat) (t : TypeId) (cs : Array Value) (fr : Nat × Nat) (d : TypeDesc) (b : Value)
  (hp : tmps.getD p undef = .pointer (some ⟨g, 0, none⟩)) (hq : tmps.getD q undef = b) (hg : w.heap[g]? = some (.cells cs t fr))
  (hu : P.underlying ty = some d) (hd : (match d with | .struct _ | .array _ _ => true | _ => false) = true) (hi : (P.info? ty).map (·.size) = some cs.size) :
  (results fn tmps).run P w = .ok (.tuple #[.agg cs, b]) w := by
 have hp' : tmps[p]?.getD undef = .pointer (some ⟨g, 0, none⟩) := by simpa using hp
 have hq' : tmps[q]?.getD undef = b := by simpa using hq
 simp [results, h, hp', hq', asAddr, run_loadVar_row w g t ty cs fr d hg hu hd hi]
theorem zero_size : (Tryz.prog.info? 34).map (·.size) = some (zeroCells.toArray).size := infoNote
theorem zero_one : ∀ u ∈ zeroCells.toArray.toList, u.oneCell' = true := by decide
def DecOk (W W' : World) (xs : List Int) (e : Ending) : Prop :=
 (262144 < xs.length → e = .returned (.tuple #[.agg zeroCells.toArray, .int .i64 2])) ∧
 (xs.length ≤ 262144 → ∀ y, dNote xs = some y → mCheck y = true → ∃ cs : List Value, k34.M W' W.heap.size (fun _ => True) y cs ∧ e = .returned (.tuple #[.agg cs.toArray, .int .i64 0])) ∧
 (xs.length ≤ 262144 → (∀ y, dNote xs = some y → mCheck y = false) → e = .returned (.tuple #[.agg zeroCells.toArray, .int .i64 30]))
set_option maxRecDepth 100000 in
set_option maxHeartbeats 8000000 in
theorem c_decodeP (w0 W : World) (A : Option Addr) (c : Nat) (xs : List Int) (hD : Get.Data w0 A c xs) (hb : Below w0.heap.size w0 W) (HE : EnvN w0) :
   Calls Tryz.prog 24 #[.slice A xs.length c] W fun e W' => Below W.heap.size W W' ∧ DecOk W W' xs e := by
 have HD := Aside0.mk hD
 have HE := Aside0.mk HE
 have HB := Aside0.mk hb
 have HGE := Aside0.mk hb.size
 have hlen := hD.len
 have hb1 := below_alloc (Below.refl W.heap.size W) (Obj.cells #[.slice A xs.length c] 41 (0, 0))
 have hx1 : (W.alloc (Obj.cells #[.slice A xs.length c] 41 (0, 0))).heap[W.heap.size]? = _ := blk_alloc _
 have hs1 : (W.alloc (Obj.cells #[.slice A xs.length c] 41 (0, 0))).heap.size = W.heap.size + 1 := by simp
 have hb2 := below_alloc hb1 (Obj.cells zeroCells.toArray 34 (0, 0))
 have hx2 : ((W.alloc (Obj.cells #[.slice A xs.length c] 41 (0, 0))).alloc (Obj.cells zeroCells.toArray 34 (0, 0))).heap[(W.alloc (Obj.cells #[.slice A xs.length c] 41 (0, 0))).heap.size]? = some (.cells zeroCells.toArray 34 (0, 0)) := Mem.blk_alloc _
 rw [hs1] at hx2
 have hy1 := blk_below (below_alloc (Below.refl _ _) (Obj.cells zeroCells.toArray 34 (0, 0))) hx1
 obtain ⟨w1, hw1⟩ : ∃ w1, w1 = (W.alloc (Obj.cells #[.slice A xs.length c] 41 (0, 0))).alloc (Obj.cells zeroCells.toArray 34 (0, 0)) := ⟨_, rfl⟩
 rw [← hw1] at hx2 hy1 hb2
 have n_0 : w1.cell? ⟨W.heap.size, 0, none⟩ = some (.slice A xs.length c) := blk_cell hy1 0
 have HX2 := Aside0.mk hx2
 have HB2 := Aside0.mk hb2
 have HW1 := Aside0.mk (show (W.alloc (Obj.cells #[.slice A xs.length c] 41 (0, 0))).alloc (Obj.cells #[.int .i64 0, .int .i64 0, .int .i64 0, .int .i64 0, .int .i64 0, .int .i64 0, .int .i64 0, .int .i64 0, .int .i64 0, .int .i64 0, .int .i64 0, .slice none 0 0, .slice none 0 0, .int .i64 0, .int .i64 0, .int .i64 0, .slice none 0 0, .slice none 0 0, .slice none 0 0, .slice none 0 0, .string ⟨#[]⟩] 34 (0, 0)) = w1 from hw1.symm)
 clear hD hb hb1 hx1 hs1 hb2 hx2 hy1 hw1
 go_enter Tryz.func24, Tryz.ntmps24
 go_upto_region 1 with fail
 rw [HW1.out]
 clear HW1
 cases h1 : decide ((262144 : Int) < xs.length) with
 | true =>
   have hq_ := of_decide_eq_true h1
   have HGT := Aside0.mk (show 262144 < xs.length by omega)
   go_wp2_with ((with_reducible refine gate_store2 (t := 34) rfl ?_); refine store_row (old := zeroCells.toArray) (cs := zeroCells.toArray) rfl rfl rfl HX2.out rfl rfl zero_size rfl zero_one ?_; intro w3 hm3 hx3; have HX3 := Aside0.mk hx3; have HB3 := Aside0.mk ((Moved.of_below HB2.out (fun k => k = W.heap.size + 1)).trans hm3 (fun _ _ h => h) |>.below (fun k hk h => by omega)); clear hm3 hx3)
   refine bodyPost_ret (results_ct rfl _ _ _ _ _ _ _ _ rfl rfl HX3.out Tryz.underlying34 rfl zero_size) rfl ?_
   exact ⟨HB3.out, fun _ => rfl, fun h => absurd HGT.out (by omega), fun h => absurd HGT.out (by omega)⟩
 | false =>
   have hq_ := of_decide_eq_false h1
   have HLE := Aside0.mk (show xs.length ≤ 262144 by omega)
   clear hq_
   go_upto_region 4 with fail
   have hbn := below_alloc (Below.refl w1.heap.size w1) (Obj.cells zeroCells.toArray 34 (0, 0))
   have hgn : (w1.alloc (Obj.cells zeroCells.toArray 34 (0, 0))).heap[w1.heap.size]? = some (.cells zeroCells.toArray 34 (0, 0)) := Mem.blk_alloc _
   obtain ⟨w2, hw2⟩ : ∃ w2, w2 = w1.alloc (Obj.cells zeroCells.toArray 34 (0, 0)) := ⟨_, rfl⟩
   have HW2 := Aside0.mk (show w1.alloc (Obj.cells #[.int .i64 0, .int .i64 0, .int .i64 0, .int .i64 0, .int .i64 0, .int .i64 0, .int .i64 0, .int .i64 0, .int .i64 0, .int .i64 0, .int .i64 0, .slice none 0 0, .slice none 0 0, .int .i64 0, .int .i64 0, .int .i64 0, .slice none 0 0, .slice none 0 0, .slice none 0 0, .slice none 0 0, .string ⟨#[]⟩] 34 (0, 0)) = w2 from hw2.symm)
   rw [← hw2] at hbn hgn
   have hc2 := pw_cell_below hbn n_0
   have hx2 := blk_below hbn HX2.out
   have hne : W.heap.size + 1 ≠ w1.heap.size := Nat.ne_of_lt (blk_lt HX2.out)
   have hge : W.heap.size + 2 ≤ w1.heap.size := blk_lt HX2.out
   have hbf := below_alloc (Below.refl w2.heap.size w2) (Obj.cells #[.bool false] 4 (0, 0))
   have hnf : w1.heap.size < w2.heap.size := blk_lt hgn
   obtain ⟨w3, hw3⟩ : ∃ w3, w3 = w2.alloc (Obj.cells #[.bool false] 4 (0, 0)) := ⟨_, rfl⟩
   have hxf : (w2.alloc (Obj.cells #[.bool false] 4 (0, 0))).heap[w2.heap.size]? = some (Obj.cells #[.bool false] 4 (0, 0)) := Mem.blk_alloc _
   rw [← hw3] at hbf hxf
   have hwk := c_work w0 w3 W.heap.size w1.heap.size A c xs HD.out (below_step (below_step (below_step HB.out HB2.out) hbn) hbf) (pw_cell_below hbf hc2) (blk_below hbf hgn) HE.out (by have := HGE.out; omega)
   have HWORK : Aside0 (Calls Tryz.prog 66 #[.pointer (some ⟨W.heap.size, 0, none⟩), .pointer (some ⟨w1.heap.size, 0, none⟩)] (w2.alloc (Obj.cells #[.bool false] 4 (0, 0))) fun e W' => e = (if (dNote xs).isSome = true then .returned (.tuple #[]) else .panicked flaw) ∧ W'.heap[w2.heap.size]? = some (Obj.cells #[.bool false] 4 (0, 0)) ∧ (Moved w2 W' (fun k => k = w1.heap.size) ∧ W'.heap[w2.heap.size]? = some (Obj.cells #[.bool false] 4 (0, 0)) ∧ ∀ y, dNote xs = some y → ∃ cs', k34.M W' w2.heap.size (fun _ => True) y cs' ∧ W'.heap[w1.heap.size]? = some (.cells cs'.toArray 34 (0, 0)))) := ⟨by
     rw [← hw3]
     refine hwk.mono ?_
     rintro e w' ⟨hm, hn, hs⟩
     have hf := hm.blk hxf (Nat.ne_of_gt hnf)
     refine ⟨?_, hf, ((Moved.of_below hbf (fun k => k = w1.heap.size)).trans hm (fun _ _ h => h)), hf, fun y hy => ?_⟩
     · cases hd : dNote xs with
       | none => exact hn hd
       | some y => exact (hs y hd).1
     · obtain ⟨_, cs', hM, hX⟩ := hs y hy
       exact ⟨cs', k34.M_lower hbf.size hM, hX⟩⟩
   have HB3 := Aside0.mk (below_step HB2.out hbn)
   have HX3 := Aside0.mk hx2
   have HNE := Aside0.mk hne
   have HGT := Aside0.mk hge
   have HNF := Aside0.mk hnf
   clear hbn hgn hw2 hc2 hx2 hne hge hbf hnf hw3 hxf hwk n_0
   rw [HW2.out]
   clear HW2
   have hmf : ∀ (fn : Fn) (first cap : Array Value) (w : World), (Instr.makeFunc fn first cap).run Tryz.prog w = .ok (.func fn first cap) w := fun _ _ _ _ => rfl
   go_upto_region 5 with (go_at_call 65; (with_reducible refine (guarded_any 66 #[.pointer (some ⟨W.heap.size, 0, none⟩), .pointer (some ⟨w1.heap.size, 0, none⟩)] (fun _ _ => rfl) w2 (dNote xs).isSome _ HWORK.out).mono ?_); rintro e w5 ⟨rfl, w4, ⟨hm4, hf4, hs4⟩, hm5⟩)
   have HX5 := Aside0.mk (hm5.blk (hm4.blk HX3.out HNE.out) (by have := HNE.out; have := HGT.out; have := HNF.out; omega))
   have HB5 := Aside0.mk (((Moved.of_below HB3.out (fun k => k = w1.heap.size ∨ k = w2.heap.size)).trans (hm4.trans hm5 (fun k hk h => absurd hk (by omega))) (fun _ _ h => .inl h)).below (fun k hk h => by have := HGT.out; have := HNF.out; omega))
   cases hd : dNote xs with
   | none =>
     have HDN := Aside0.mk hd
     clear hm4 hm5 hf4 hs4 HWORK hd
     rw [show (none : Option Note).isSome = false from rfl]
     have hno : ∀ (x : Bool) (w : World), (Op.unary .not (.bool x)).run Tryz.prog w = .ok (.bool (!x)) w := fun _ _ => rfl
     go_wp2_with ((with_reducible refine gate_store2 (t := 34) rfl ?_); refine store_row (old := zeroCells.toArray) (cs := zeroCells.toArray) rfl rfl rfl HX5.out rfl rfl zero_size rfl zero_one ?_; intro w9 hm9 hx9; have HX9 := Aside0.mk hx9; have HB9 := Aside0.mk ((Moved.of_below HB5.out (fun k => k = W.heap.size + 1)).trans hm9 (fun _ _ h => h) |>.below (fun k hk h => by omega)); clear hm9 hx9)
     refine bodyPost_ret (results_ct rfl _ _ _ _ _ _ _ _ rfl rfl HX9.out Tryz.underlying34 rfl zero_size) rfl ?_
     exact ⟨HB9.out, fun h => absurd HLE.out (by omega), (fun _ y h => by rw [HDN.out] at h; cases h), fun _ _ => rfl⟩
   | some y =>
     obtain ⟨cs, hM, hX⟩ := hs4 y hd
     have HDN := Aside0.mk hd
     have HM5 := Aside0.mk (Get.M_moved hM hf4 (by decide) hm5)
     have HG5 := Aside0.mk (hm5.blk hX (by have := HNF.out; omega))
     have HK5 := Aside0.mk (k34.K_of_M HM5.out)
     have HSZ := Aside0.mk (cs_size HK5.out)
     have HSA := Aside0.mk (sane_note HD.out.bytes HLE.out hd)
     have HE5 := Aside0.mk ((HE.out.at_ HB.out).at_ HB5.out)
     clear hm4 hm5 hf4 hs4 HWORK hd hM hX
     rw [show (some y : Option Note).isSome = true from rfl]
     have hno : ∀ (x : Bool) (w : World), (Op.unary .not (.bool x)).run Tryz.prog w = .ok (.bool (!x)) w := fun _ _ => rfl
     have HN5 := Aside0.mk (show w1.heap.size < w2.heap.size from HNF.out)
     cases hmc : mCheck y with
     | true =>
       go_wp2_with (first | (first | ((with_reducible refine gate_load (t := 34) rfl ?_); refine gate_guard (by rfl) ?_; refine load_row rfl rfl Tryz.underlying34 rfl HG5.out rfl HSZ.out ?_) | ((with_reducible refine gate_load (t := 34) rfl ?_); refine load_row rfl rfl Tryz.underlying34 rfl HG6.out rfl HSZ.out ?_) | ((with_reducible refine gate_store2 (t := 34) rfl ?_); refine store_row (old := zeroCells.toArray) (cs := cs.toArray) rfl rfl rfl HX6.out rfl rfl HSZ.out (note_size HK5.out) (note_one HK5.out) ?_; intro w9 hm9 hx9; have HX9 := Aside0.mk hx9; have HM9 := Aside0.mk (k34.M_lower (Nat.le_trans HB3.out.size (Nat.le_refl _)) (Get.M_moved HM6.out HX6.out (by decide) hm9)); have HB9 := Aside0.mk ((Moved.of_below HB6.out (fun k => k = W.heap.size + 1)).trans hm9 (fun _ _ h => h) |>.below (fun k hk h => by omega)); clear hm9 hx9)) | (go_at_call 17; have hch := c_checkP w5 w5 y cs HK5.out (Below.refl _ _) HE5.out HSA.out; have HMC := Aside0.mk hmc; rw [hmc] at hch; (with_reducible refine hch.mono ?_); clear hch; rintro e w6 ⟨rfl, hb6⟩; have HX6 := Aside0.mk (blk_below hb6 HX5.out); have HG6 := Aside0.mk (blk_below hb6 HG5.out); have HM6 := Aside0.mk (Kd.M_below HM5.out hb6); have HB6 := Aside0.mk (below_step HB5.out hb6); clear hb6))
       refine bodyPost_ret (results_ct rfl _ _ _ _ _ _ _ _ rfl rfl HX9.out Tryz.underlying34 rfl HSZ.out) rfl ?_
       exact ⟨HB9.out, fun h => absurd HLE.out (by omega), (fun _ y' h _ => by rw [HDN.out] at h; obtain rfl := Option.some.inj h; exact ⟨cs, HM9.out, rfl⟩), fun _ h => absurd (h y HDN.out) (by rw [HMC.out]; simp)⟩
     | false =>
       go_wp2_with (first | (first | ((with_reducible refine gate_load (t := 34) rfl ?_); refine gate_guard (by rfl) ?_; refine load_row rfl rfl Tryz.underlying34 rfl HG5.out rfl HSZ.out ?_) | ((with_reducible refine gate_load (t := 34) rfl ?_); refine load_row rfl rfl Tryz.underlying34 rfl HG6.out rfl HSZ.out ?_) | ((with_reducible refine gate_store2 (t := 34) rfl ?_); refine store_row (old := zeroCells.toArray) (cs := cs.toArray) rfl rfl rfl HX6.out rfl rfl HSZ.out (note_size HK5.out) (note_one HK5.out) ?_; intro w9 hm9 hx9; have HX9 := Aside0.mk hx9; have HM9 := Aside0.mk (k34.M_lower (Nat.le_trans HB3.out.size (Nat.le_refl _)) (Get.M_moved HM6.out HX6.out (by decide) hm9)); have HB9 := Aside0.mk ((Moved.of_below HB6.out (fun k => k = W.heap.size + 1)).trans hm9 (fun _ _ h => h) |>.below (fun k hk h => by omega)); clear hm9 hx9)) | (go_at_call 17; have hch := c_checkP w5 w5 y cs HK5.out (Below.refl _ _) HE5.out HSA.out; have HMC := Aside0.mk hmc; rw [hmc] at hch; (with_reducible refine hch.mono ?_); clear hch; rintro e w6 ⟨rfl, hb6⟩; have HX6 := Aside0.mk (blk_below hb6 HX5.out); have HG6 := Aside0.mk (blk_below hb6 HG5.out); have HM6 := Aside0.mk (Kd.M_below HM5.out hb6); have HB6 := Aside0.mk (below_step HB5.out hb6); clear hb6) | ((with_reducible refine gate_store2 (t := 34) rfl ?_); refine store_row (old := zeroCells.toArray) (cs := zeroCells.toArray) rfl rfl rfl HX6.out rfl rfl zero_size rfl zero_one ?_; intro w9 hm9 hx9; have HX9 := Aside0.mk hx9; have HB9 := Aside0.mk ((Moved.of_below HB6.out (fun k => k = W.heap.size + 1)).trans hm9 (fun _ _ h => h) |>.below (fun k hk h => by omega)); clear hm9 hx9))
       refine bodyPost_ret (results_ct rfl _ _ _ _ _ _ _ _ rfl rfl HX9.out Tryz.underlying34 rfl zero_size) rfl ?_
       exact ⟨HB9.out, fun h => absurd HLE.out (by omega), (fun _ y' h hm => by rw [HDN.out] at h; obtain rfl := Option.some.inj h; rw [HMC.out] at hm; cases hm), fun _ _ => rfl⟩
end Go.Proofs.YtmneemhplffemaaGreatDoorRR.Tab
namespace Go.Proofs.YtmneemhplffemaaGreatDoorRR.Cop
open Go.RowKit Go.Proofs.YtmneemhplffemaaGreatDoorRR.Ext Go.Proofs.YtmneemhplffemaaGreatDoorRR.Wire Go.Proofs.YtmneemhplffemaaGreatDoorRR.Mem Go.Proofs.YtmneemhplffemaaGreatDoorRR.Row Go.Proofs.YtmneemhplffemaaGreatDoorRR.Ki Go.Proofs.YtmneemhplffemaaGreatDoorRR.Get Go.Proofs.YtmneemhplffemaaGreatDoorRR.Arg Go.Proofs.YtmneemhplffemaaGreatDoorRR.Tab Go.Proofs.YtmneemhplffemaaGreatDoorRRW.PrintWords


theorem R_side {α β : Type} {d : Kd α} {d' : Kd β} {e e' base b0 : Nat} {w w1 : World} {ok ok' : Nat → Prop} {v u : Value} {xs : List α} {ys : List β} (h : d.R e w base ok v xs) (ho : d'.R e' w b0 ok' u ys) (ht : ∀ q, q ∈ e :: d.E → q ≠ e') (hg : w.grownBy w1 u.ownBlock) : d.R e w1 base ok v xs := by
 obtain ⟨inner, hown⟩ := Kd.R_own ho
 cases hu : u.ownBlock with
 | none => exact Kd.R_grown h hg (fun k _ => by rw [hu]; simp)
 | some b =>
   obtain ⟨cells, hc⟩ := own_typed hown b hu
   exact Kd.R_mono (Kd.R_grown (Kd.R_types h hc ht) hg (fun k hk he => hk.2 (by rw [hu] at he; exact Option.some.inj he))) (fun _ hk => hk.1)
theorem R_young {α β : Type} {d : Kd α} {d' : Kd β} {e e' base b b0 : Nat} {w w1 : World} {ok' : Nat → Prop} {v u : Value} {xs : List α} {ys : List β} (h : d.R e w base (fun k => k < b) v xs) (ho : d'.R e' w b0 ok' u ys) (hb : b ≤ b0) (hg : w.grownBy w1 u.ownBlock) : d.R e w1 base (fun k => k < b) v xs := by
 obtain ⟨inner, hown⟩ := Kd.R_own ho
 exact Kd.R_grown h hg (fun k hk he => by have := own_base hown k he.symm; omega)
theorem R_old {α : Type} {d : Kd α} {e base : Nat} {w : World} {ok : Nat → Prop} {v : Value} {xs : List α} (h : d.R e w base ok v xs) : d.R e w base (fun k => k < w.heap.size) v xs := Kd.R_mono (Kd.R_bound h) (fun _ hk => hk.2.2.1)
theorem R_true {α : Type} {d : Kd α} {e base : Nat} {w : World} {ok : Nat → Prop} {v : Value} {xs : List α} (h : d.R e w base ok v xs) : d.R e w base (fun _ => True) v xs := Kd.R_mono h (fun _ _ => trivial)
theorem row_at {α : Type} {d : Kd α} {w0 : World} {A : Option Addr} {n : Nat} {xs : List α} (h : d.C w0 A n xs) (w : World) (hb : Below w0.heap.size w0 w) : ReadsRow (d.K w0) d.sz w A n xs := ReadsRow.imp_ h hb (fun _ _ hp => hp)
theorem cell_in {w : World} {g : Nat} {C : Array Value} {t : TypeId} (h : w.heap[g]? = some (.cells C t (0, 0))) {j : Nat} (hj : j < C.size) : ∃ u, w.cell? ⟨g, j, none⟩ = some u := ⟨C[j], by rw [blk_cell h, Array.getElem?_eq_getElem hj]⟩
theorem below_up {B B' : Nat} {a w w1 : World} (h : Below B a w) (h' : Below B' w w1) (hb : B ≤ B') : Below B a w1 := ⟨h'.os.trans h.os, h'.tape.trans h.tape, h'.output.trans h.output, Nat.le_trans h.size h'.size, fun k hk => (h'.block k (Nat.lt_of_lt_of_le hk hb)).trans (h.block k hk)⟩
theorem set_size_le (w : World) (p : Addr) (u : Value) : w.heap.size ≤ (w.setCell p u).heap.size := (Below.setCell (B := 0) (p := p) (Below.refl 0 w) (Nat.zero_le _) u).size
theorem set_at {C : Array Value} {i : Nat} {v : Value} (h : i < C.size) : (C.setIfInBounds i v)[i]? = some v := by simp [h]
theorem set_twice {C : Array Value} {i : Nat} {v u : Value} : (C.setIfInBounds i v).setIfInBounds i u = C.setIfInBounds i u := by
 simp
set_option maxRecDepth 100000 in
set_option maxHeartbeats 8000000 in
theorem c_copied (w0 W : World) (x : S34) (cs : List Value) (hk : k34.K w0 x cs) (hO : OkNote x) (hb : Below w0.heap.size w0 W) :
  Calls Tryz.prog 26 #[.agg cs.toArray] W fun e W' => ∃ ds : List Value, e = .returned (.agg ds.toArray) ∧ Below W.heap.size W W' ∧ k34.M W' W.heap.size (fun _ => True) x ds := by
 have HK := Aside0.mk hk
 have HA := Aside0.mk hb
 have HSZ := Aside0.mk (cs_size hk)
 have hcz : cs.toArray.size = 21 := by have h := k34.K_len hk; rw [List.size_toArray, h]; rfl
 obtain ⟨A11, c11, A12, c12, A16, c16, A17, c17, A18, c18, A19, c19, hcs, l11, g11, l12, g12, l16, g16, l17, g17, l18, g18, l19, g19⟩ := k34_open hk
 have HCS := Aside0.mk hcs
 have hn11 : cs.toArray[11]? = some (.slice A11 x.f9.length c11) := by rw [hcs]; rfl
 have hn12 : cs.toArray[12]? = some (.slice A12 x.f10.length c12) := by rw [hcs]; rfl
 have hn16 : cs.toArray[16]? = some (.slice A16 x.f11.f3.length c16) := by rw [hcs]; rfl
 have hn17 : cs.toArray[17]? = some (.slice A17 x.f12.length c17) := by rw [hcs]; rfl
 have hn18 : cs.toArray[18]? = some (.slice A18 x.f13.length c18) := by rw [hcs]; rfl
 have hn19 : cs.toArray[19]? = some (.slice A19 x.f14.length c19) := by rw [hcs]; rfl
 have G11 := Aside0.mk g11
 have G12 := Aside0.mk g12
 have G16 := Aside0.mk g16
 have G17 := Aside0.mk g17
 have G18 := Aside0.mk g18
 have G19 := Aside0.mk g19
 have hm12 : x.f10.length ≤ 9223372036854775807 := g12.2.1
 have hm16 : x.f11.f3.length ≤ 9223372036854775807 := g16.2.1
 have hm19 : x.f14.length ≤ 9223372036854775807 := g19.2.1
 have HN := Aside0.mk (And.intro hn11 (And.intro hn12 (And.intro hn16 (And.intro hn17 (And.intro hn18 hn19)))))
 obtain ⟨_, _, _, _, _, _, _, _, _, o9, o10, o11, o12, o13, o14, _⟩ := hO
 have O9 := Aside0.mk o9.1
 have O10 := Aside0.mk (show x.f10.length * 64 ≤ 140737488351232 ∧ ∀ y ∈ x.f10, y.f5.length * 56 ≤ 140737488351232 from ⟨o10.1, fun y hy => (o10.2 y hy).2.2.2.2.2.1⟩)
 have O11 := Aside0.mk (show x.f11.f3.length * 88 ≤ 140737488351232 ∧ ∀ y ∈ x.f11.f3, y.f6.length * 16 ≤ 140737488351232 from ⟨o11.2.2.2.1, fun y hy => (o11.2.2.2.2 y hy).2.2.2.2.2.2.1⟩)
 have O12 := Aside0.mk o12.1
 have O13 := Aside0.mk (show x.f13.length * 64 ≤ 140737488351232 ∧ ∀ y ∈ x.f13, y.f1.f3.length * 40 ≤ 140737488351232 from ⟨o13.1, fun y hy => (o13.2 y hy).2.2.2.2.1⟩)
 have O14 := Aside0.mk (show x.f14.length * 72 ≤ 140737488351232 ∧ ∀ y ∈ x.f14, (y.f3.length * 72 ≤ 140737488351232 ∧ ∀ t ∈ y.f3, t.f1.length * 8 ≤ 140737488351232) ∧ y.f4.length * 64 ≤ 140737488351232 ∧ ∀ p ∈ y.f4, p.f1.f3.length * 40 ≤ 140737488351232 from ⟨o14.1, fun y hy => ⟨⟨(o14.2 y hy).2.2.2.1.1, fun t ht => ((o14.2 y hy).2.2.2.1.2 t ht).2.1⟩, (o14.2 y hy).2.2.2.2.1, fun p hp => ((o14.2 y hy).2.2.2.2.2 p hp).2.2.2.2.1⟩⟩)
 clear hk hb hcs l11 g11 l12 g12 l16 g16 l17 g17 l18 g18 l19 g19 o9 o10 o11 o12 o13 o14 hn11 hn12 hn16 hn17 hn18 hn19
 go_enter Tryz.func26, Tryz.ntmps26
 go_upto_region 2 with (first | ((with_reducible refine gate_box (t := 34) rfl ?_); refine box_row rfl rfl rfl ?_; intro g1 hg1 w1 hbx hb1; have HX1 := Aside0.mk hbx; have HB1 := Aside0.mk hb1; have HGL := Aside0.mk (blk_lt hbx); clear hbx hb1 hg1) | ((with_reducible refine gate_load (t := 34) rfl ?_); refine load_row rfl rfl Tryz.underlying34 rfl (blk_below (below_alloc (Below.refl _ _) _) HX1.out) rfl HSZ.out ?_) | ((with_reducible refine gate_store2 (t := 34) rfl ?_); refine store_row (old := zeroCells.toArray) (cs := cs.toArray) rfl rfl rfl (Chk.blk_alloc2 w1 (Obj.cells zeroCells.toArray 34 (0, 0)) (Obj.cells zeroCells.toArray 34 (0, 0))) rfl rfl HSZ.out (note_size HK.out) (note_one HK.out) ?_; intro w2 hm2 hx2; have hb2 := Moved.above_ hm2 (by simp); replace HX1 := Aside0.mk (blk_below hb2 (blk_below (below_alloc (Below.refl _ _) _) HX1.out)); have HZ := Aside0.mk (blk_below hb2 (Mem.blk_alloc (W := w1) (Obj.cells zeroCells.toArray 34 (0, 0)))); have HM := Aside0.mk hx2; have HB := Aside0.mk (below_step (below_step HB1.out (below_alloc (Below.refl _ _) _)) hb2); clear hm2 hx2 hb2))
 have h13 : g1 ≠ w1.heap.size + 1 := by have := HGL.out; omega
 have h12 : g1 ≠ w1.heap.size := by have := HGL.out; omega
 have hle3 : W.heap.size ≤ w1.heap.size + 1 := by have := HB1.out.size; omega
 have h23 : w1.heap.size ≠ w1.heap.size + 1 := by omega
 have hle2 : W.heap.size ≤ w1.heap.size := HB1.out.size
 generalize w1.heap.size + 1 = g3 at HM h13 h23 hle3 ⊢
 generalize w1.heap.size = g2 at HZ h12 h23 hle2 ⊢
 clear HGL HB1
 have s_w2 := HB.out.size
 have e11 := pw_cell_below (below_alloc (Below.refl _ _) (Obj.cells #[] 78 (0, 0))) ((blk_cell HX1.out 11).trans HN.out.1)
 go_upto_region 3 with ((with_reducible refine gate_builtin (b := .append) (xs := #[.tmp 13, .tmp 15]) rfl ?_); at_builtin; refine Kd.R_append_rows k78 (Rr := k78.K w0) (w0 := w2) w2.heap.size rfl (.tmp 13) (.tmp 15) 25 78 _ 56 rfl Tryz.underlying25 infoOp rfl (by decide) (by decide) _ [] (x.f9) A11 (x.f9).length c11 (fun _ => True) (fun _ => False) rfl rfl (R_lit0 _ _ _) (row_at G11.out _ (below_step (below_step HA.out HB.out) (below_alloc (Below.refl _ _) _))) (fun x cs h => op_KM x cs h) (fun _ h => h.elim) (fun _ _ => trivial) (below_alloc (Below.refl _ _) _) (below_alloc (Below.refl _ _) _).size (by have := O9.out; simp only [List.length_nil]; omega) ?_; intro v5 w5 ho5 hb5 hg5 hat5; obtain ⟨B11, d11, rfl⟩ := Kd.R_slice ho5; have HRO := Aside0.mk (show k78.R 78 w5 w2.heap.size (fun _ => True) (.slice B11 (x.f9).length d11) (x.f9) from ho5); replace HX1 := Aside0.mk (blk_below hb5 HX1.out); replace HZ := Aside0.mk (blk_below hb5 HZ.out); replace HM := Aside0.mk (blk_below hb5 HM.out); replace HB := Aside0.mk (below_step HB.out hb5); obtain ⟨hq, hqc⟩ := cell_in HM.out (j := 11) (by first | omega | (simp only [Array.size_setIfInBounds]; omega)); have hqf := blk_frozen HM.out 11; clear ho5 hb5 hg5 hat5)
 clear e11
 have hx6 := blk_set HM.out 11 (Value.slice B11 x.f9.length d11)
 have hr_HRO := Kd.R_set HRO.out HM.out (by decide) 11 (Value.slice B11 x.f9.length d11)
 have hb_HX1 := blk_far HX1.out (p := ⟨g3, 11, none⟩) h13 (Value.slice B11 x.f9.length d11)
 have hb_HZ := blk_far HZ.out (p := ⟨g3, 11, none⟩) h23 (Value.slice B11 x.f9.length d11)
 have hw_HB := Below.setCell (p := ⟨g3, 11, none⟩) HB.out hle3 (Value.slice B11 x.f9.length d11)
 generalize w5.setCell ⟨g3, 11, none⟩ (Value.slice B11 x.f9.length d11) = w3 at hx6 hr_HRO hb_HX1 hb_HZ hw_HB ⊢
 replace HRO := Aside0.mk hr_HRO
 replace HX1 := Aside0.mk hb_HX1
 replace HZ := Aside0.mk hb_HZ
 replace HB := Aside0.mk hw_HB
 replace HM := Aside0.mk hx6
 clear hqc hqf hx6 hr_HRO hb_HX1 hb_HZ hw_HB
 have s_w3 := HB.out.size
 have e17 := pw_cell_below (below_alloc (Below.refl _ _) (Obj.cells #[] 96 (0, 0))) ((blk_cell HX1.out 17).trans HN.out.2.2.2.1)
 go_upto_region 4 with ((with_reducible refine gate_builtin (b := .append) (xs := #[.tmp 18, .tmp 20]) rfl ?_); at_builtin; refine Kd.R_append_rows k96 (Rr := k96.K w0) (w0 := w3) w3.heap.size rfl (.tmp 18) (.tmp 20) 30 96 _ 40 rfl Tryz.underlying30 infoWatch rfl (by decide) (by decide) _ [] (x.f12) A17 (x.f12).length c17 (fun _ => True) (fun _ => False) rfl rfl (R_lit0 _ _ _) (row_at G17.out _ (below_step (below_step HA.out HB.out) (below_alloc (Below.refl _ _) _))) (fun x cs h => watch_KM x cs h) (fun _ h => h.elim) (fun _ _ => trivial) (below_alloc (Below.refl _ _) _) (below_alloc (Below.refl _ _) _).size (by have := O12.out; simp only [List.length_nil]; omega) ?_; intro v5 w5 ho5 hb5 hg5 hat5; obtain ⟨B17, d17, rfl⟩ := Kd.R_slice ho5; have HRW := Aside0.mk (show k96.R 96 w5 w3.heap.size (fun _ => True) (.slice B17 (x.f12).length d17) (x.f12) from ho5); replace HRO := Aside0.mk (Kd.R_below HRO.out hb5); replace HX1 := Aside0.mk (blk_below hb5 HX1.out); replace HZ := Aside0.mk (blk_below hb5 HZ.out); replace HM := Aside0.mk (blk_below hb5 HM.out); replace HB := Aside0.mk (below_step HB.out hb5); obtain ⟨hq, hqc⟩ := cell_in HM.out (j := 17) (by first | omega | (simp only [Array.size_setIfInBounds]; omega)); have hqf := blk_frozen HM.out 17; clear ho5 hb5 hg5 hat5)
 clear e17
 have hx6 := blk_set HM.out 17 (Value.slice B17 x.f12.length d17)
 have hr_HRO := Kd.R_set HRO.out HM.out (by decide) 17 (Value.slice B17 x.f12.length d17)
 have hr_HRW := Kd.R_set HRW.out HM.out (by decide) 17 (Value.slice B17 x.f12.length d17)
 have hb_HX1 := blk_far HX1.out (p := ⟨g3, 17, none⟩) h13 (Value.slice B17 x.f12.length d17)
 have hb_HZ := blk_far HZ.out (p := ⟨g3, 17, none⟩) h23 (Value.slice B17 x.f12.length d17)
 have hw_HB := Below.setCell (p := ⟨g3, 17, none⟩) HB.out hle3 (Value.slice B17 x.f12.length d17)
 generalize w5.setCell ⟨g3, 17, none⟩ (Value.slice B17 x.f12.length d17) = w4 at hx6 hr_HRO hr_HRW hb_HX1 hb_HZ hw_HB ⊢
 replace HRO := Aside0.mk hr_HRO
 replace HRW := Aside0.mk hr_HRW
 replace HX1 := Aside0.mk hb_HX1
 replace HZ := Aside0.mk hb_HZ
 replace HB := Aside0.mk hw_HB
 replace HM := Aside0.mk hx6
 clear hqc hqf hx6 hr_HRO hr_HRW hb_HX1 hb_HZ hw_HB
 have s_w4 := HB.out.size
 have e18 := (blk_cell HX1.out 18).trans HN.out.2.2.2.2.1
 go_upto_region 5 with (go_at_call 73; (with_reducible refine (c_copiedParts w0 _ A18 c18 x.f13 G18.out O13.out.1 O13.out.2 (below_step HA.out HB.out)).mono ?_); rintro e w5 ⟨v5, rfl, hb5, ho5⟩; obtain ⟨B18, d18, rfl⟩ := Kd.R_slice ho5; have HRP := Aside0.mk ho5; replace HRO := Aside0.mk (Kd.R_below HRO.out hb5); replace HRW := Aside0.mk (Kd.R_below HRW.out hb5); replace HX1 := Aside0.mk (blk_below hb5 HX1.out); replace HZ := Aside0.mk (blk_below hb5 HZ.out); replace HM := Aside0.mk (blk_below hb5 HM.out); replace HB := Aside0.mk (below_step HB.out hb5); obtain ⟨hq, hqc⟩ := cell_in HM.out (j := 18) (by first | omega | (simp only [Array.size_setIfInBounds]; omega)); have hqf := blk_frozen HM.out 18; clear ho5 hb5)
 clear e18
 have hx6 := blk_set HM.out 18 (Value.slice B18 x.f13.length d18)
 have hr_HRO := Kd.R_set HRO.out HM.out (by decide) 18 (Value.slice B18 x.f13.length d18)
 have hr_HRW := Kd.R_set HRW.out HM.out (by decide) 18 (Value.slice B18 x.f13.length d18)
 have hr_HRP := Kd.R_set HRP.out HM.out (by decide) 18 (Value.slice B18 x.f13.length d18)
 have hb_HX1 := blk_far HX1.out (p := ⟨g3, 18, none⟩) h13 (Value.slice B18 x.f13.length d18)
 have hb_HZ := blk_far HZ.out (p := ⟨g3, 18, none⟩) h23 (Value.slice B18 x.f13.length d18)
 have hw_HB := Below.setCell (p := ⟨g3, 18, none⟩) HB.out hle3 (Value.slice B18 x.f13.length d18)
 generalize w5.setCell ⟨g3, 18, none⟩ (Value.slice B18 x.f13.length d18) = w6 at hx6 hr_HRO hr_HRW hr_HRP hb_HX1 hb_HZ hw_HB ⊢
 replace HRO := Aside0.mk hr_HRO
 replace HRW := Aside0.mk hr_HRW
 replace HRP := Aside0.mk hr_HRP
 replace HX1 := Aside0.mk hb_HX1
 replace HZ := Aside0.mk hb_HZ
 replace HB := Aside0.mk hw_HB
 replace HM := Aside0.mk hx6
 clear hqc hqf hx6 hr_HRO hr_HRW hr_HRP hb_HX1 hb_HZ hw_HB
 obtain ⟨hq, hqc⟩ := cell_in HM.out (j := 12) (by first | omega | (simp only [Array.size_setIfInBounds]; omega))
 have hqf := blk_frozen HM.out 12
 go_upto_region 6 with fail
 have hx6 := blk_set HM.out 12 (Value.slice none 0 0)
 have hr_HRO := Kd.R_set HRO.out HM.out (by decide) 12 (Value.slice none 0 0)
 have hr_HRW := Kd.R_set HRW.out HM.out (by decide) 12 (Value.slice none 0 0)
 have hr_HRP := Kd.R_set HRP.out HM.out (by decide) 12 (Value.slice none 0 0)
 have hb_HX1 := blk_far HX1.out (p := ⟨g3, 12, none⟩) h13 (Value.slice none 0 0)
 have hb_HZ := blk_far HZ.out (p := ⟨g3, 12, none⟩) h23 (Value.slice none 0 0)
 have hw_HB := Below.setCell (p := ⟨g3, 12, none⟩) HB.out hle3 (Value.slice none 0 0)
 generalize w6.setCell ⟨g3, 12, none⟩ (Value.slice none 0 0) = w7 at hx6 hr_HRO hr_HRW hr_HRP hb_HX1 hb_HZ hw_HB ⊢
 replace HRO := Aside0.mk hr_HRO
 replace HRW := Aside0.mk hr_HRW
 replace HRP := Aside0.mk hr_HRP
 replace HX1 := Aside0.mk hb_HX1
 replace HZ := Aside0.mk hb_HZ
 replace HB := Aside0.mk hw_HB
 replace HM := Aside0.mk hx6
 clear hqc hqf hx6 hr_HRO hr_HRW hr_HRP hb_HX1 hb_HZ hw_HB
 obtain ⟨CA, hC⟩ : ∃ C : Array Value, C = ((cs.toArray.setIfInBounds 11 (Value.slice B11 x.f9.length d11)).setIfInBounds 17 (Value.slice B17 x.f12.length d17)).setIfInBounds 18 (Value.slice B18 x.f13.length d18) := ⟨_, rfl⟩
 have hzCA : CA.size = 21 := by rw [hC]; simp only [Array.size_setIfInBounds]; omega
 rw [← hC] at HM
 have HCCA := Aside0.mk hC
 clear hC
 have e12 := (blk_cell HX1.out 12).trans HN.out.2.1
 go_wp2_with fail
 clear e12
 go_loopw [4] (fun v4 wr => ∃ (k : Nat) (ve : Value), v4 = .int .i64 k ∧ k ≤ x.f10.length ∧ Aside0 (k78.R 78 wr w2.heap.size (fun _ => True) ((.slice B11 x.f9.length d11)) (x.f9)) ∧ Aside0 (k96.R 96 wr w3.heap.size (fun _ => True) ((.slice B17 x.f12.length d17)) (x.f12)) ∧ Aside0 (k86.R 86 wr w4.heap.size (fun _ => True) ((.slice B18 x.f13.length d18)) (x.f13)) ∧ Aside0 (wr.heap[g1]? = some (.cells (cs.toArray) 34 (0, 0))) ∧ Aside0 (wr.heap[g2]? = some (.cells (zeroCells.toArray) 34 (0, 0))) ∧ Aside0 (wr.heap[g3]? = some (.cells (CA.setIfInBounds 12 ve) 34 (0, 0))) ∧ Aside0 (k55.R 55 wr W.heap.size (fun _ => True) ve (x.f10.take k)) ∧ Aside0 (Below W.heap.size W wr)) (fun v4 _ => x.f10.length - (intOf v4).toNat)
 case atStart => exact ⟨0, _, rfl, Nat.zero_le _, HRO, HRW, HRP, HX1, HZ, HM, ⟨Kd.R_nil _ _ _ _ _⟩, HB⟩
 case round =>
  clear HRO HRW HRP HX1 HZ HM HB
  obtain ⟨k, ve, rfl, hk, HRO, HRW, HRP, HX1, HZ, HM, HRE, HB⟩ := hrel
  obtain ⟨wo, rfl⟩ : ∃ wo : World, wo = wr := ⟨_, rfl⟩
  have e12 := (blk_cell HX1.out 12).trans HN.out.2.1
  by_cases hlt : k < x.f10.length
  · obtain ⟨y, hye⟩ : ∃ y, x.f10[k]? = some y := ⟨_, List.getElem?_eq_getElem hlt⟩
    have HX := Aside0.mk hye
    have HLY := Aside0.mk (O10.out.2 y (List.mem_of_getElem? hye))
    have HAW := Aside0.mk (below_step HA.out HB.out)
    have hat := at_T55 G12.out (k : Int) (by omega) (by omega)
    rw [show rd_T55 x.f10 (k : Int) = y by unfold rd_T55; rw [Int.toNat_natCast, List.getD_eq_getElem?_getD, hye]; rfl, Int.toNat_natCast] at hat
    obtain ⟨adc, Ay, cy, hAd, c_0, c_1, c_2, c_3, c_4, c_5, ly, gy⟩ := hat
    subst hAd
    have GY := Aside0.mk gy
    replace c_0 := pw_cell_below HAW.out c_0
    replace c_1 := pw_cell_below HAW.out c_1
    replace c_2 := pw_cell_below HAW.out c_2
    replace c_3 := pw_cell_below HAW.out c_3
    replace c_4 := pw_cell_below HAW.out c_4
    replace c_5 := pw_cell_below HAW.out c_5
    clear hye gy ly
    replace HRE := Aside0.mk (R_old HRE.out)
    have q0 := HB.out.size
    have q1 := blk_lt HX1.out
    have q2 := blk_lt HZ.out
    have q3 := blk_lt HM.out
    go_upto_region 10 with fail
    have hal := below_alloc (Below.refl wo.heap.size wo) (Obj.cells #[.int .i64 y.f0, .int .i64 y.f1, .int .i64 y.f2, .int .i64 y.f3, .int .i64 y.f4, .slice Ay y.f5.length cy] 55 (0, 0))
    have hxn : (wo.alloc (Obj.cells #[.int .i64 y.f0, .int .i64 y.f1, .int .i64 y.f2, .int .i64 y.f3, .int .i64 y.f4, .slice Ay y.f5.length cy] 55 (0, 0))).heap[wo.heap.size]? = some _ := Mem.blk_alloc _
    have hr_HRO := Kd.R_below HRO.out hal
    have hr_HRW := Kd.R_below HRW.out hal
    have hr_HRP := Kd.R_below HRP.out hal
    have hr_HRE := Kd.R_below HRE.out hal
    have hb_HX1 := blk_below hal HX1.out
    have hb_HZ := blk_below hal HZ.out
    have hb_HM := blk_below hal HM.out
    have hw_HB := below_step HB.out hal
    generalize wo.alloc (Obj.cells #[.int .i64 y.f0, .int .i64 y.f1, .int .i64 y.f2, .int .i64 y.f3, .int .i64 y.f4, .slice Ay y.f5.length cy] 55 (0, 0)) = w8 at hal hxn hr_HRO hr_HRW hr_HRP hr_HRE hb_HX1 hb_HZ hb_HM hw_HB ⊢
    replace HRO := Aside0.mk hr_HRO
    replace HRW := Aside0.mk hr_HRW
    replace HRP := Aside0.mk hr_HRP
    replace HRE := Aside0.mk hr_HRE
    replace HX1 := Aside0.mk hb_HX1
    replace HZ := Aside0.mk hb_HZ
    replace HM := Aside0.mk hb_HM
    replace HB := Aside0.mk hw_HB
    have HE := Aside0.mk hxn
    have HAL := Aside0.mk hal
    clear hal hxn hr_HRO hr_HRW hr_HRP hr_HRE hb_HX1 hb_HZ hb_HM hw_HB
    have d12 := pw_cell_below (below_alloc (Below.refl _ _) (Obj.cells #[] 78 (0, 0))) ((blk_cell HX1.out 12).trans HN.out.2.1)
    have dn := pw_cell_below (below_alloc (Below.refl _ _) (Obj.cells #[] 78 (0, 0))) (pw_cell_below HAL.out c_5)
    clear e12 c_0 c_1 c_2 c_3 c_4 c_5
    go_upto_region 11 with ((with_reducible refine gate_builtin (b := .append) (xs := #[.tmp 40, .tmp 46]) rfl ?_); at_builtin; refine Kd.R_append_rows k78 (Rr := k78.K w0) (w0 := w8) w8.heap.size rfl (.tmp 40) (.tmp 46) 25 78 _ 56 rfl Tryz.underlying25 infoOp rfl (by decide) (by decide) _ [] (y.f5) Ay (y.f5).length cy (fun _ => True) (fun _ => False) rfl rfl (R_lit0 _ _ _) (row_at GY.out _ (below_step (below_step HA.out HB.out) (below_alloc (Below.refl _ _) _))) (fun x cs h => op_KM x cs h) (fun _ h => h.elim) (fun _ _ => trivial) (below_alloc (Below.refl _ _) _) (below_alloc (Below.refl _ _) _).size (by have := HLY.out; simp only [List.length_nil]; omega) ?_; intro v5 w5 ho5 hb5 hg5 hat5; obtain ⟨By, dy, rfl⟩ := Kd.R_slice ho5; have HRN := Aside0.mk (show k78.R 78 w5 w8.heap.size (fun _ => True) (.slice By (y.f5).length dy) (y.f5) from ho5); replace HRO := Aside0.mk (Kd.R_below HRO.out hb5); replace HRW := Aside0.mk (Kd.R_below HRW.out hb5); replace HRP := Aside0.mk (Kd.R_below HRP.out hb5); replace HRE := Aside0.mk (Kd.R_below HRE.out hb5); replace HX1 := Aside0.mk (blk_below hb5 HX1.out); replace HZ := Aside0.mk (blk_below hb5 HZ.out); replace HM := Aside0.mk (blk_below hb5 HM.out); replace HE := Aside0.mk (blk_below hb5 HE.out); replace HB := Aside0.mk (below_step HB.out hb5); obtain ⟨hq, hqc⟩ := cell_in HE.out (j := 5) (by simp); have hqf := blk_frozen HE.out 5; clear ho5 hb5 hg5 hat5)
    clear d12 dn
    have hx6 := blk_set HE.out 5 (Value.slice By y.f5.length dy)
    have hr_HRO := Kd.R_set HRO.out HE.out (by decide) 5 (Value.slice By y.f5.length dy)
    have hr_HRW := Kd.R_set HRW.out HE.out (by decide) 5 (Value.slice By y.f5.length dy)
    have hr_HRP := Kd.R_set HRP.out HE.out (by decide) 5 (Value.slice By y.f5.length dy)
    have hr_HRE := Kd.R_far (p := ⟨wo.heap.size, 5, none⟩) HRE.out (fun j hj => Nat.ne_of_lt hj) (Value.slice By y.f5.length dy)
    have hr_HRN := Kd.R_set HRN.out HE.out (by decide) 5 (Value.slice By y.f5.length dy)
    have hb_HX1 := blk_far HX1.out (p := ⟨wo.heap.size, 5, none⟩) (Nat.ne_of_lt q1) (Value.slice By y.f5.length dy)
    have hb_HZ := blk_far HZ.out (p := ⟨wo.heap.size, 5, none⟩) (Nat.ne_of_lt q2) (Value.slice By y.f5.length dy)
    have hb_HM := blk_far HM.out (p := ⟨wo.heap.size, 5, none⟩) (Nat.ne_of_lt q3) (Value.slice By y.f5.length dy)
    have hw_HB := Below.setCell (p := ⟨wo.heap.size, 5, none⟩) HB.out q0 (Value.slice By y.f5.length dy)
    generalize w5.setCell ⟨wo.heap.size, 5, none⟩ (Value.slice By y.f5.length dy) = w9 at hx6 hr_HRO hr_HRW hr_HRP hr_HRE hr_HRN hb_HX1 hb_HZ hb_HM hw_HB ⊢
    replace HRO := Aside0.mk hr_HRO
    replace HRW := Aside0.mk hr_HRW
    replace HRP := Aside0.mk hr_HRP
    replace HRE := Aside0.mk hr_HRE
    replace HRN := Aside0.mk hr_HRN
    replace HX1 := Aside0.mk hb_HX1
    replace HZ := Aside0.mk hb_HZ
    replace HM := Aside0.mk hb_HM
    replace HB := Aside0.mk hw_HB
    replace HE := Aside0.mk hx6
    clear hqc hqf hx6 hr_HRO hr_HRW hr_HRP hr_HRE hr_HRN hb_HX1 hb_HZ hb_HM hw_HB
    have hE : w9.heap[wo.heap.size]? = some (.cells #[.int .i64 y.f0, .int .i64 y.f1, .int .i64 y.f2, .int .i64 y.f3, .int .i64 y.f4, .slice By y.f5.length dy] 55 (0, 0)) := by simpa using HE.out
    have n_0 := blk_cell hE 0
    have n_1 := blk_cell hE 1
    have n_2 := blk_cell hE 2
    have n_3 := blk_cell hE 3
    have n_4 := blk_cell hE 4
    have n_5 := blk_cell hE 5
    simp at n_0 n_1 n_2 n_3 n_4 n_5
    have e3 := (blk_cell HM.out 12).trans (set_at (v := ve) (by omega))
    have HMM := Aside0.mk (M_apart (k55_mkM w9 W.heap.size (fun _ => True) y (Kd.R_lower HRN.out (by have := HAL.out.size; omega))) HRE.out (by decide))
    clear hE HE HRN
    go_wp2_with ((with_reducible refine gate_builtin (b := .append) (xs := #[.tmp 50, .tmp 52]) rfl ?_); at_builtin; refine Kd.R_append k55 (w0 := W) W.heap.size rfl (.tmp 50) (.tmp 52) 26 55 _ 64 rfl Tryz.underlying26 infoEntry rfl (by decide) (by omega) ve (x.f10.take k) y [.int .i64 y.f0, .int .i64 y.f1, .int .i64 y.f2, .int .i64 y.f3, .int .i64 y.f4, .slice By y.f5.length dy] (fun _ => True) (fun j => some j ≠ ve.ownBlock) rfl rfl HMM.out (fun _ hk => ⟨trivial, hk⟩) (fun _ _ => trivial) (R_true HRE.out) HB.out HB.out.size (by have := O10.out.1; rw [List.length_take]; omega) ?_; intro v6 w6 ho6 hb6 hg6 hat6; rw [show x.f10.take k ++ [y] = x.f10.take (k + 1) by rw [List.take_add_one, HX.out]; rfl] at ho6; obtain ⟨B6, d6, hv6⟩ := Kd.R_slice ho6; rw [show (x.f10.take (k + 1)).length = k + 1 by rw [List.length_take]; omega] at hv6; subst hv6; replace HRO := Aside0.mk (R_side HRO.out HRE.out (by decide) hg6); replace HRW := Aside0.mk (R_side HRW.out HRE.out (by decide) hg6); replace HRP := Aside0.mk (R_side HRP.out HRE.out (by decide) hg6); replace HX1 := Aside0.mk (blk_grown HX1.out hg6 (Kd.R_ne HRE.out HX1.out (by decide))); replace HZ := Aside0.mk (blk_grown HZ.out hg6 (Kd.R_ne HRE.out HZ.out (by decide))); replace HM := Aside0.mk (blk_grown HM.out hg6 (Kd.R_ne HRE.out HM.out (by decide))); have HR6 := Aside0.mk ho6; replace HB := Aside0.mk hb6; obtain ⟨hq, hqc⟩ := cell_in HM.out (j := 12) (by simp only [Array.size_setIfInBounds]; omega); have hqf := blk_frozen HM.out 12; clear ho6 hb6 hg6 hat6 n_0 n_1 n_2 n_3 n_4 n_5 e3)
    go_roundw
    case rel => exact ⟨k + 1, _, by go_num, by omega, ⟨Kd.R_set HRO.out HM.out (by decide) 12 _⟩, ⟨Kd.R_set HRW.out HM.out (by decide) 12 _⟩, ⟨Kd.R_set HRP.out HM.out (by decide) 12 _⟩, ⟨blk_far HX1.out (p := ⟨g3, 12, none⟩) h13 _⟩, ⟨blk_far HZ.out (p := ⟨g3, 12, none⟩) h23 _⟩, ⟨by rw [← set_twice (v := ve)]; exact blk_set HM.out 12 _⟩, ⟨Kd.R_set HR6.out HM.out (by decide) 12 _⟩, ⟨Below.setCell (p := ⟨g3, 12, none⟩) HB.out hle3 _⟩⟩
    case measure => simp [intOf]; omega
  · have hxt : x.f10.take k = x.f10 := List.take_of_length_le (by omega)
    rw [hxt] at HRE
    clear hxt
    obtain ⟨CB, hC⟩ : ∃ C : Array Value, C = CA.setIfInBounds 12 ve := ⟨_, rfl⟩
    have hzCB : CB.size = 21 := by rw [hC]; simp only [Array.size_setIfInBounds]; omega
    rw [← hC] at HM
    have HCCB := Aside0.mk hC
    clear hC
    obtain ⟨hq, hqc⟩ := cell_in HM.out (j := 16) (by first | omega | (simp only [Array.size_setIfInBounds]; omega))
    have hqf := blk_frozen HM.out 16
    go_upto_region 13 with fail
    have hx6 := blk_set HM.out 16 (Value.slice none 0 0)
    have hr_HRO := Kd.R_set HRO.out HM.out (by decide) 16 (Value.slice none 0 0)
    have hr_HRW := Kd.R_set HRW.out HM.out (by decide) 16 (Value.slice none 0 0)
    have hr_HRP := Kd.R_set HRP.out HM.out (by decide) 16 (Value.slice none 0 0)
    have hr_HRE := Kd.R_set HRE.out HM.out (by decide) 16 (Value.slice none 0 0)
    have hb_HX1 := blk_far HX1.out (p := ⟨g3, 16, none⟩) h13 (Value.slice none 0 0)
    have hb_HZ := blk_far HZ.out (p := ⟨g3, 16, none⟩) h23 (Value.slice none 0 0)
    have hw_HB := Below.setCell (p := ⟨g3, 16, none⟩) HB.out hle3 (Value.slice none 0 0)
    generalize wo.setCell ⟨g3, 16, none⟩ (Value.slice none 0 0) = w7 at hx6 hr_HRO hr_HRW hr_HRP hr_HRE hb_HX1 hb_HZ hw_HB ⊢
    replace HRO := Aside0.mk hr_HRO
    replace HRW := Aside0.mk hr_HRW
    replace HRP := Aside0.mk hr_HRP
    replace HRE := Aside0.mk hr_HRE
    replace HX1 := Aside0.mk hb_HX1
    replace HZ := Aside0.mk hb_HZ
    replace HB := Aside0.mk hw_HB
    replace HM := Aside0.mk hx6
    clear hqc hqf hx6 hr_HRO hr_HRW hr_HRP hr_HRE hb_HX1 hb_HZ hw_HB
    have e16 := (blk_cell HX1.out 16).trans HN.out.2.2.1
    go_wp2_with fail
    clear e16
    go_loopw [6] (fun v6 wr => ∃ (k : Nat) (vr : Value), v6 = .int .i64 k ∧ k ≤ x.f11.f3.length ∧ Aside0 (k78.R 78 wr w2.heap.size (fun _ => True) ((.slice B11 x.f9.length d11)) (x.f9)) ∧ Aside0 (k96.R 96 wr w3.heap.size (fun _ => True) ((.slice B17 x.f12.length d17)) (x.f12)) ∧ Aside0 (k86.R 86 wr w4.heap.size (fun _ => True) ((.slice B18 x.f13.length d18)) (x.f13)) ∧ Aside0 (k55.R 55 wr W.heap.size (fun _ => True) (ve) (x.f10)) ∧ Aside0 (wr.heap[g1]? = some (.cells (cs.toArray) 34 (0, 0))) ∧ Aside0 (wr.heap[g2]? = some (.cells (zeroCells.toArray) 34 (0, 0))) ∧ Aside0 (wr.heap[g3]? = some (.cells (CB.setIfInBounds 16 vr) 34 (0, 0))) ∧ Aside0 (k81.R 81 wr W.heap.size (fun _ => True) vr (x.f11.f3.take k)) ∧ Aside0 (Below W.heap.size W wr)) (fun v6 _ => x.f11.f3.length - (intOf v6).toNat)
    case atStart => exact ⟨0, _, rfl, Nat.zero_le _, HRO, HRW, HRP, HRE, HX1, HZ, HM, ⟨Kd.R_nil _ _ _ _ _⟩, HB⟩
    case round =>
     clear HRO HRW HRP HRE HX1 HZ HM HB
     obtain ⟨k, vr, rfl, hk, HRO, HRW, HRP, HRE, HX1, HZ, HM, HRR, HB⟩ := hrel
     obtain ⟨wo, rfl⟩ : ∃ wo : World, wo = wr := ⟨_, rfl⟩
     have e16 := (blk_cell HX1.out 16).trans HN.out.2.2.1
     by_cases hlt : k < x.f11.f3.length
     · obtain ⟨y, hye⟩ : ∃ y, x.f11.f3[k]? = some y := ⟨_, List.getElem?_eq_getElem hlt⟩
       have HX := Aside0.mk hye
       have HLY := Aside0.mk (O11.out.2 y (List.mem_of_getElem? hye))
       have HAW := Aside0.mk (below_step HA.out HB.out)
       have hat := at_T81 G16.out (k : Int) (by omega) (by omega)
       rw [show rd_T81 x.f11.f3 (k : Int) = y by unfold rd_T81; rw [Int.toNat_natCast, List.getD_eq_getElem?_getD, hye]; rfl, Int.toNat_natCast] at hat
       obtain ⟨adc, Ay, cy, hAd, c_0, c_1, c_2, c_3, c_4, c_5, c_6, ly, gy⟩ := hat
       subst hAd
       have GY := Aside0.mk gy
       replace c_0 := pw_cell_below HAW.out c_0
       replace c_1 := pw_cell_below HAW.out c_1
       replace c_2 := pw_cell_below HAW.out c_2
       replace c_3 := pw_cell_below HAW.out c_3
       replace c_4 := pw_cell_below HAW.out c_4
       replace c_5 := pw_cell_below HAW.out c_5
       replace c_6 := pw_cell_below HAW.out c_6
       clear hye gy ly
       replace HRR := Aside0.mk (R_old HRR.out)
       have q0 := HB.out.size
       have q1 := blk_lt HX1.out
       have q2 := blk_lt HZ.out
       have q3 := blk_lt HM.out
       go_upto_region 17 with fail
       have hal := below_alloc (Below.refl wo.heap.size wo) (Obj.cells #[.string y.f0, .string y.f1, .int .i64 y.f2, .int .i64 y.f3, .int .i64 y.f4, .int .i64 y.f5, .slice Ay y.f6.length cy] 81 (0, 0))
       have hxn : (wo.alloc (Obj.cells #[.string y.f0, .string y.f1, .int .i64 y.f2, .int .i64 y.f3, .int .i64 y.f4, .int .i64 y.f5, .slice Ay y.f6.length cy] 81 (0, 0))).heap[wo.heap.size]? = some _ := Mem.blk_alloc _
       have hr_HRO := Kd.R_below HRO.out hal
       have hr_HRW := Kd.R_below HRW.out hal
       have hr_HRP := Kd.R_below HRP.out hal
       have hr_HRE := Kd.R_below HRE.out hal
       have hr_HRR := Kd.R_below HRR.out hal
       have hb_HX1 := blk_below hal HX1.out
       have hb_HZ := blk_below hal HZ.out
       have hb_HM := blk_below hal HM.out
       have hw_HB := below_step HB.out hal
       generalize wo.alloc (Obj.cells #[.string y.f0, .string y.f1, .int .i64 y.f2, .int .i64 y.f3, .int .i64 y.f4, .int .i64 y.f5, .slice Ay y.f6.length cy] 81 (0, 0)) = w8 at hal hxn hr_HRO hr_HRW hr_HRP hr_HRE hr_HRR hb_HX1 hb_HZ hb_HM hw_HB ⊢
       replace HRO := Aside0.mk hr_HRO
       replace HRW := Aside0.mk hr_HRW
       replace HRP := Aside0.mk hr_HRP
       replace HRE := Aside0.mk hr_HRE
       replace HRR := Aside0.mk hr_HRR
       replace HX1 := Aside0.mk hb_HX1
       replace HZ := Aside0.mk hb_HZ
       replace HM := Aside0.mk hb_HM
       replace HB := Aside0.mk hw_HB
       have HE := Aside0.mk hxn
       have HAL := Aside0.mk hal
       clear hal hxn hr_HRO hr_HRW hr_HRP hr_HRE hr_HRR hb_HX1 hb_HZ hb_HM hw_HB
       have d12 := pw_cell_below (below_alloc (Below.refl _ _) (Obj.cells #[] 9 (0, 0))) ((blk_cell HX1.out 16).trans HN.out.2.2.1)
       have dn := pw_cell_below (below_alloc (Below.refl _ _) (Obj.cells #[] 9 (0, 0))) (pw_cell_below HAL.out c_6)
       clear e16 c_0 c_1 c_2 c_3 c_4 c_5 c_6
       go_upto_region 18 with ((with_reducible refine gate_builtin (b := .append) (xs := #[.tmp 71, .tmp 78]) rfl ?_); at_builtin; refine Kd.R_append_rows Kd.string (Rr := Kd.string.K w0) (w0 := w8) w8.heap.size rfl (.tmp 71) (.tmp 78) 79 9 _ 16 rfl Tryz.underlying79 infoS rfl (by decide) (by decide) _ [] (y.f6) Ay (y.f6).length cy (fun _ => True) (fun _ => False) rfl rfl (R_lit0 _ _ _) (row_at GY.out _ (below_step (below_step HA.out HB.out) (below_alloc (Below.refl _ _) _))) (fun x cs h => h) (fun _ h => h.elim) (fun _ _ => trivial) (below_alloc (Below.refl _ _) _) (below_alloc (Below.refl _ _) _).size (by have := HLY.out; simp only [List.length_nil]; omega) ?_; intro v5 w5 ho5 hb5 hg5 hat5; obtain ⟨By, dy, rfl⟩ := Kd.R_slice ho5; have HRN := Aside0.mk (show Kd.string.R 9 w5 w8.heap.size (fun _ => True) (.slice By (y.f6).length dy) (y.f6) from ho5); replace HRO := Aside0.mk (Kd.R_below HRO.out hb5); replace HRW := Aside0.mk (Kd.R_below HRW.out hb5); replace HRP := Aside0.mk (Kd.R_below HRP.out hb5); replace HRE := Aside0.mk (Kd.R_below HRE.out hb5); replace HRR := Aside0.mk (Kd.R_below HRR.out hb5); replace HX1 := Aside0.mk (blk_below hb5 HX1.out); replace HZ := Aside0.mk (blk_below hb5 HZ.out); replace HM := Aside0.mk (blk_below hb5 HM.out); replace HE := Aside0.mk (blk_below hb5 HE.out); replace HB := Aside0.mk (below_step HB.out hb5); obtain ⟨hq, hqc⟩ := cell_in HE.out (j := 6) (by simp); have hqf := blk_frozen HE.out 6; clear ho5 hb5 hg5 hat5)
       clear d12 dn
       have hx6 := blk_set HE.out 6 (Value.slice By y.f6.length dy)
       have hr_HRO := Kd.R_set HRO.out HE.out (by decide) 6 (Value.slice By y.f6.length dy)
       have hr_HRW := Kd.R_set HRW.out HE.out (by decide) 6 (Value.slice By y.f6.length dy)
       have hr_HRP := Kd.R_set HRP.out HE.out (by decide) 6 (Value.slice By y.f6.length dy)
       have hr_HRE := Kd.R_set HRE.out HE.out (by decide) 6 (Value.slice By y.f6.length dy)
       have hr_HRR := Kd.R_far (p := ⟨wo.heap.size, 6, none⟩) HRR.out (fun j hj => Nat.ne_of_lt hj) (Value.slice By y.f6.length dy)
       have hr_HRN := Kd.R_set HRN.out HE.out (by decide) 6 (Value.slice By y.f6.length dy)
       have hb_HX1 := blk_far HX1.out (p := ⟨wo.heap.size, 6, none⟩) (Nat.ne_of_lt q1) (Value.slice By y.f6.length dy)
       have hb_HZ := blk_far HZ.out (p := ⟨wo.heap.size, 6, none⟩) (Nat.ne_of_lt q2) (Value.slice By y.f6.length dy)
       have hb_HM := blk_far HM.out (p := ⟨wo.heap.size, 6, none⟩) (Nat.ne_of_lt q3) (Value.slice By y.f6.length dy)
       have hw_HB := Below.setCell (p := ⟨wo.heap.size, 6, none⟩) HB.out q0 (Value.slice By y.f6.length dy)
       generalize w5.setCell ⟨wo.heap.size, 6, none⟩ (Value.slice By y.f6.length dy) = w9 at hx6 hr_HRO hr_HRW hr_HRP hr_HRE hr_HRR hr_HRN hb_HX1 hb_HZ hb_HM hw_HB ⊢
       replace HRO := Aside0.mk hr_HRO
       replace HRW := Aside0.mk hr_HRW
       replace HRP := Aside0.mk hr_HRP
       replace HRE := Aside0.mk hr_HRE
       replace HRR := Aside0.mk hr_HRR
       replace HRN := Aside0.mk hr_HRN
       replace HX1 := Aside0.mk hb_HX1
       replace HZ := Aside0.mk hb_HZ
       replace HM := Aside0.mk hb_HM
       replace HB := Aside0.mk hw_HB
       replace HE := Aside0.mk hx6
       clear hqc hqf hx6 hr_HRO hr_HRW hr_HRP hr_HRE hr_HRR hr_HRN hb_HX1 hb_HZ hb_HM hw_HB
       have hE : w9.heap[wo.heap.size]? = some (.cells #[.string y.f0, .string y.f1, .int .i64 y.f2, .int .i64 y.f3, .int .i64 y.f4, .int .i64 y.f5, .slice By y.f6.length dy] 81 (0, 0)) := by simpa using HE.out
       have n_0 := blk_cell hE 0
       have n_1 := blk_cell hE 1
       have n_2 := blk_cell hE 2
       have n_3 := blk_cell hE 3
       have n_4 := blk_cell hE 4
       have n_5 := blk_cell hE 5
       have n_6 := blk_cell hE 6
       simp at n_0 n_1 n_2 n_3 n_4 n_5 n_6
       have e3 := (blk_cell HM.out 16).trans (set_at (v := vr) (by omega))
       have HMM := Aside0.mk (M_apart (k81_mkM w9 W.heap.size (fun _ => True) y (Kd.R_lower HRN.out (by have := HAL.out.size; omega))) HRR.out (by decide))
       clear hE HE HRN
       go_wp2_with ((with_reducible refine gate_builtin (b := .append) (xs := #[.tmp 83, .tmp 85]) rfl ?_); at_builtin; refine Kd.R_append k81 (w0 := W) W.heap.size rfl (.tmp 83) (.tmp 85) 27 81 _ 88 rfl Tryz.underlying27 infoResult rfl (by decide) (by omega) vr (x.f11.f3.take k) y [.string y.f0, .string y.f1, .int .i64 y.f2, .int .i64 y.f3, .int .i64 y.f4, .int .i64 y.f5, .slice By y.f6.length dy] (fun _ => True) (fun j => some j ≠ vr.ownBlock) rfl rfl HMM.out (fun _ hk => ⟨trivial, hk⟩) (fun _ _ => trivial) (R_true HRR.out) HB.out HB.out.size (by have := O11.out.1; rw [List.length_take]; omega) ?_; intro v6 w6 ho6 hb6 hg6 hat6; rw [show x.f11.f3.take k ++ [y] = x.f11.f3.take (k + 1) by rw [List.take_add_one, HX.out]; rfl] at ho6; obtain ⟨B6, d6, hv6⟩ := Kd.R_slice ho6; rw [show (x.f11.f3.take (k + 1)).length = k + 1 by rw [List.length_take]; omega] at hv6; subst hv6; replace HRO := Aside0.mk (R_side HRO.out HRR.out (by decide) hg6); replace HRW := Aside0.mk (R_side HRW.out HRR.out (by decide) hg6); replace HRP := Aside0.mk (R_side HRP.out HRR.out (by decide) hg6); replace HRE := Aside0.mk (R_side HRE.out HRR.out (by decide) hg6); replace HX1 := Aside0.mk (blk_grown HX1.out hg6 (Kd.R_ne HRR.out HX1.out (by decide))); replace HZ := Aside0.mk (blk_grown HZ.out hg6 (Kd.R_ne HRR.out HZ.out (by decide))); replace HM := Aside0.mk (blk_grown HM.out hg6 (Kd.R_ne HRR.out HM.out (by decide))); have HR6 := Aside0.mk ho6; replace HB := Aside0.mk hb6; obtain ⟨hq, hqc⟩ := cell_in HM.out (j := 16) (by simp only [Array.size_setIfInBounds]; omega); have hqf := blk_frozen HM.out 16; clear ho6 hb6 hg6 hat6 n_0 n_1 n_2 n_3 n_4 n_5 n_6 e3)
       go_roundw
       case rel => exact ⟨k + 1, _, by go_num, by omega, ⟨Kd.R_set HRO.out HM.out (by decide) 16 _⟩, ⟨Kd.R_set HRW.out HM.out (by decide) 16 _⟩, ⟨Kd.R_set HRP.out HM.out (by decide) 16 _⟩, ⟨Kd.R_set HRE.out HM.out (by decide) 16 _⟩, ⟨blk_far HX1.out (p := ⟨g3, 16, none⟩) h13 _⟩, ⟨blk_far HZ.out (p := ⟨g3, 16, none⟩) h23 _⟩, ⟨by rw [← set_twice (v := vr)]; exact blk_set HM.out 16 _⟩, ⟨Kd.R_set HR6.out HM.out (by decide) 16 _⟩, ⟨Below.setCell (p := ⟨g3, 16, none⟩) HB.out hle3 _⟩⟩
       case measure => simp [intOf]; omega
     · have hxt : x.f11.f3.take k = x.f11.f3 := List.take_of_length_le (by omega)
       rw [hxt] at HRR
       clear hxt
       obtain ⟨CC, hC⟩ : ∃ C : Array Value, C = CB.setIfInBounds 16 vr := ⟨_, rfl⟩
       have hzCC : CC.size = 21 := by rw [hC]; simp only [Array.size_setIfInBounds]; omega
       rw [← hC] at HM
       have HCCC := Aside0.mk hC
       clear hC
       obtain ⟨hq, hqc⟩ := cell_in HM.out (j := 19) (by first | omega | (simp only [Array.size_setIfInBounds]; omega))
       have hqf := blk_frozen HM.out 19
       go_upto_region 20 with fail
       have hx6 := blk_set HM.out 19 (Value.slice none 0 0)
       have hr_HRO := Kd.R_set HRO.out HM.out (by decide) 19 (Value.slice none 0 0)
       have hr_HRW := Kd.R_set HRW.out HM.out (by decide) 19 (Value.slice none 0 0)
       have hr_HRP := Kd.R_set HRP.out HM.out (by decide) 19 (Value.slice none 0 0)
       have hr_HRE := Kd.R_set HRE.out HM.out (by decide) 19 (Value.slice none 0 0)
       have hr_HRR := Kd.R_set HRR.out HM.out (by decide) 19 (Value.slice none 0 0)
       have hb_HX1 := blk_far HX1.out (p := ⟨g3, 19, none⟩) h13 (Value.slice none 0 0)
       have hb_HZ := blk_far HZ.out (p := ⟨g3, 19, none⟩) h23 (Value.slice none 0 0)
       have hw_HB := Below.setCell (p := ⟨g3, 19, none⟩) HB.out hle3 (Value.slice none 0 0)
       generalize wo.setCell ⟨g3, 19, none⟩ (Value.slice none 0 0) = w7 at hx6 hr_HRO hr_HRW hr_HRP hr_HRE hr_HRR hb_HX1 hb_HZ hw_HB ⊢
       replace HRO := Aside0.mk hr_HRO
       replace HRW := Aside0.mk hr_HRW
       replace HRP := Aside0.mk hr_HRP
       replace HRE := Aside0.mk hr_HRE
       replace HRR := Aside0.mk hr_HRR
       replace HX1 := Aside0.mk hb_HX1
       replace HZ := Aside0.mk hb_HZ
       replace HB := Aside0.mk hw_HB
       replace HM := Aside0.mk hx6
       clear hqc hqf hx6 hr_HRO hr_HRW hr_HRP hr_HRE hr_HRR hb_HX1 hb_HZ hw_HB
       have e19 := (blk_cell HX1.out 19).trans HN.out.2.2.2.2.2
       go_wp2_with fail
       clear e19
       go_loopw [8] (fun v8 wr => ∃ (k : Nat) (vi : Value), v8 = .int .i64 k ∧ k ≤ x.f14.length ∧ Aside0 (k78.R 78 wr w2.heap.size (fun _ => True) ((.slice B11 x.f9.length d11)) (x.f9)) ∧ Aside0 (k96.R 96 wr w3.heap.size (fun _ => True) ((.slice B17 x.f12.length d17)) (x.f12)) ∧ Aside0 (k86.R 86 wr w4.heap.size (fun _ => True) ((.slice B18 x.f13.length d18)) (x.f13)) ∧ Aside0 (k55.R 55 wr W.heap.size (fun _ => True) (ve) (x.f10)) ∧ Aside0 (k81.R 81 wr W.heap.size (fun _ => True) (vr) (x.f11.f3)) ∧ Aside0 (wr.heap[g1]? = some (.cells (cs.toArray) 34 (0, 0))) ∧ Aside0 (wr.heap[g2]? = some (.cells (zeroCells.toArray) 34 (0, 0))) ∧ Aside0 (wr.heap[g3]? = some (.cells (CC.setIfInBounds 19 vi) 34 (0, 0))) ∧ Aside0 (k91.R 91 wr W.heap.size (fun _ => True) vi (x.f14.take k)) ∧ Aside0 (Below W.heap.size W wr)) (fun v8 _ => x.f14.length - (intOf v8).toNat)
       case atStart => exact ⟨0, _, rfl, Nat.zero_le _, HRO, HRW, HRP, HRE, HRR, HX1, HZ, HM, ⟨Kd.R_nil _ _ _ _ _⟩, HB⟩
       case round =>
        clear HRO HRW HRP HRE HRR HX1 HZ HM HB
        obtain ⟨k, vi, rfl, hk, HRO, HRW, HRP, HRE, HRR, HX1, HZ, HM, HRI, HB⟩ := hrel
        obtain ⟨wo, rfl⟩ : ∃ wo : World, wo = wr := ⟨_, rfl⟩
        have e19 := (blk_cell HX1.out 19).trans HN.out.2.2.2.2.2
        by_cases hlt : k < x.f14.length
        · obtain ⟨y, hye⟩ : ∃ y, x.f14[k]? = some y := ⟨_, List.getElem?_eq_getElem hlt⟩
          have HX := Aside0.mk hye
          have HLY := Aside0.mk (O14.out.2 y (List.mem_of_getElem? hye))
          have HAW := below_step HA.out HB.out
          have hat := at_T91 G19.out (k : Int) (by omega) (by omega)
          rw [show rd_T91 x.f14 (k : Int) = y by unfold rd_T91; rw [Int.toNat_natCast, List.getD_eq_getElem?_getD, hye]; rfl, Int.toNat_natCast] at hat
          obtain ⟨adc, Ay3, cy3, Ay4, cy4, hAd, c_0, c_1, c_2, c_3, c_4, ly3, gy3, ly4, gy4⟩ := hat
          subst hAd
          have GY3 := Aside0.mk gy3
          have GY4 := Aside0.mk gy4
          have hmy : y.f3.length ≤ 9223372036854775807 := gy3.2.1
          have E3 := Aside0.mk c_3
          have E4 := Aside0.mk c_4
          replace c_0 := pw_cell_below HAW c_0
          replace c_1 := pw_cell_below HAW c_1
          replace c_2 := pw_cell_below HAW c_2
          replace c_3 := pw_cell_below HAW c_3
          replace c_4 := pw_cell_below HAW c_4
          clear hye ly3 gy3 ly4 gy4 HAW
          replace HRI := Aside0.mk (R_old HRI.out)
          have q0 := HB.out.size
          have q1 := blk_lt HX1.out
          have q2 := blk_lt HZ.out
          have q3 := blk_lt HM.out
          go_upto_region 24 with fail
          have hal := below_alloc (Below.refl wo.heap.size wo) (Obj.cells #[.int .i64 y.f0, .int .i64 y.f1, .bool y.f2, .slice Ay3 y.f3.length cy3, .slice Ay4 y.f4.length cy4] 91 (0, 0))
          have hxn : (wo.alloc (Obj.cells #[.int .i64 y.f0, .int .i64 y.f1, .bool y.f2, .slice Ay3 y.f3.length cy3, .slice Ay4 y.f4.length cy4] 91 (0, 0))).heap[wo.heap.size]? = some _ := Mem.blk_alloc _
          have hr_HRO := Kd.R_below HRO.out hal
          have hr_HRW := Kd.R_below HRW.out hal
          have hr_HRP := Kd.R_below HRP.out hal
          have hr_HRE := Kd.R_below HRE.out hal
          have hr_HRR := Kd.R_below HRR.out hal
          have hr_HRI := Kd.R_below HRI.out hal
          have hb_HX1 := blk_below hal HX1.out
          have hb_HZ := blk_below hal HZ.out
          have hb_HM := blk_below hal HM.out
          have hw_HB := below_step HB.out hal
          generalize wo.alloc (Obj.cells #[.int .i64 y.f0, .int .i64 y.f1, .bool y.f2, .slice Ay3 y.f3.length cy3, .slice Ay4 y.f4.length cy4] 91 (0, 0)) = w8 at hal hxn hr_HRO hr_HRW hr_HRP hr_HRE hr_HRR hr_HRI hb_HX1 hb_HZ hb_HM hw_HB ⊢
          replace HRO := Aside0.mk hr_HRO
          replace HRW := Aside0.mk hr_HRW
          replace HRP := Aside0.mk hr_HRP
          replace HRE := Aside0.mk hr_HRE
          replace HRR := Aside0.mk hr_HRR
          replace HRI := Aside0.mk hr_HRI
          replace HX1 := Aside0.mk hb_HX1
          replace HZ := Aside0.mk hb_HZ
          replace HM := Aside0.mk hb_HM
          replace HB := Aside0.mk hw_HB
          have HI := Aside0.mk hxn
          have HAL := Aside0.mk hal
          clear hal hxn hr_HRO hr_HRW hr_HRP hr_HRE hr_HRR hr_HRI hb_HX1 hb_HZ hb_HM hw_HB
          have d19 := (blk_cell HX1.out 19).trans HN.out.2.2.2.2.2
          have dn := pw_cell_below (below_step HA.out HB.out) E4.out
          clear e19 c_0 c_1 c_2 c_3 c_4
          go_upto_region 25 with (go_at_call 73; (with_reducible refine (c_copiedParts w0 _ Ay4 cy4 y.f4 GY4.out HLY.out.2.1 HLY.out.2.2 (below_step HA.out HB.out)).mono ?_); rintro e w5 ⟨v5, rfl, hb5, ho5⟩; obtain ⟨By, dy, rfl⟩ := Kd.R_slice ho5; have HRQ := Aside0.mk ho5; replace HRO := Aside0.mk (Kd.R_below HRO.out hb5); replace HRW := Aside0.mk (Kd.R_below HRW.out hb5); replace HRP := Aside0.mk (Kd.R_below HRP.out hb5); replace HRE := Aside0.mk (Kd.R_below HRE.out hb5); replace HRR := Aside0.mk (Kd.R_below HRR.out hb5); replace HRI := Aside0.mk (Kd.R_below HRI.out hb5); replace HX1 := Aside0.mk (blk_below hb5 HX1.out); replace HZ := Aside0.mk (blk_below hb5 HZ.out); replace HM := Aside0.mk (blk_below hb5 HM.out); replace HI := Aside0.mk (blk_below hb5 HI.out); replace HB := Aside0.mk (below_step HB.out hb5); obtain ⟨hq, hqc⟩ := cell_in HI.out (j := 4) (by simp); have hqf := blk_frozen HI.out 4; clear ho5 hb5)
          clear d19 dn
          have hx6 := blk_set HI.out 4 (Value.slice By y.f4.length dy)
          have hr_HRO := Kd.R_set HRO.out HI.out (by decide) 4 (Value.slice By y.f4.length dy)
          have hr_HRW := Kd.R_set HRW.out HI.out (by decide) 4 (Value.slice By y.f4.length dy)
          have hr_HRP := Kd.R_set HRP.out HI.out (by decide) 4 (Value.slice By y.f4.length dy)
          have hr_HRE := Kd.R_set HRE.out HI.out (by decide) 4 (Value.slice By y.f4.length dy)
          have hr_HRR := Kd.R_set HRR.out HI.out (by decide) 4 (Value.slice By y.f4.length dy)
          have hr_HRI := Kd.R_far (p := ⟨wo.heap.size, 4, none⟩) HRI.out (fun j hj => Nat.ne_of_lt hj) (Value.slice By y.f4.length dy)
          have hr_HRQ := Kd.R_set HRQ.out HI.out (by decide) 4 (Value.slice By y.f4.length dy)
          have hb_HX1 := blk_far HX1.out (p := ⟨wo.heap.size, 4, none⟩) (Nat.ne_of_lt q1) (Value.slice By y.f4.length dy)
          have hb_HZ := blk_far HZ.out (p := ⟨wo.heap.size, 4, none⟩) (Nat.ne_of_lt q2) (Value.slice By y.f4.length dy)
          have hb_HM := blk_far HM.out (p := ⟨wo.heap.size, 4, none⟩) (Nat.ne_of_lt q3) (Value.slice By y.f4.length dy)
          have hw_HB := Below.setCell (p := ⟨wo.heap.size, 4, none⟩) HB.out q0 (Value.slice By y.f4.length dy)
          generalize w5.setCell ⟨wo.heap.size, 4, none⟩ (Value.slice By y.f4.length dy) = w9 at hx6 hr_HRO hr_HRW hr_HRP hr_HRE hr_HRR hr_HRI hr_HRQ hb_HX1 hb_HZ hb_HM hw_HB ⊢
          replace HRO := Aside0.mk hr_HRO
          replace HRW := Aside0.mk hr_HRW
          replace HRP := Aside0.mk hr_HRP
          replace HRE := Aside0.mk hr_HRE
          replace HRR := Aside0.mk hr_HRR
          replace HRI := Aside0.mk hr_HRI
          replace HRQ := Aside0.mk hr_HRQ
          replace HX1 := Aside0.mk hb_HX1
          replace HZ := Aside0.mk hb_HZ
          replace HM := Aside0.mk hb_HM
          replace HB := Aside0.mk hw_HB
          replace HI := Aside0.mk hx6
          clear hqc hqf hx6 hr_HRO hr_HRW hr_HRP hr_HRE hr_HRR hr_HRI hr_HRQ hb_HX1 hb_HZ hb_HM hw_HB
          obtain ⟨hq, hqc⟩ := cell_in HI.out (j := 3) (by simp)
          have hqf := blk_frozen HI.out 3
          go_upto_region 26 with fail
          have hx6 := blk_set HI.out 3 (Value.slice none 0 0)
          have hr_HRO := Kd.R_set HRO.out HI.out (by decide) 3 (Value.slice none 0 0)
          have hr_HRW := Kd.R_set HRW.out HI.out (by decide) 3 (Value.slice none 0 0)
          have hr_HRP := Kd.R_set HRP.out HI.out (by decide) 3 (Value.slice none 0 0)
          have hr_HRE := Kd.R_set HRE.out HI.out (by decide) 3 (Value.slice none 0 0)
          have hr_HRR := Kd.R_set HRR.out HI.out (by decide) 3 (Value.slice none 0 0)
          have hr_HRI := Kd.R_far (p := ⟨wo.heap.size, 3, none⟩) HRI.out (fun j hj => Nat.ne_of_lt hj) (Value.slice none 0 0)
          have hr_HRQ := Kd.R_set HRQ.out HI.out (by decide) 3 (Value.slice none 0 0)
          have hb_HX1 := blk_far HX1.out (p := ⟨wo.heap.size, 3, none⟩) (Nat.ne_of_lt q1) (Value.slice none 0 0)
          have hb_HZ := blk_far HZ.out (p := ⟨wo.heap.size, 3, none⟩) (Nat.ne_of_lt q2) (Value.slice none 0 0)
          have hb_HM := blk_far HM.out (p := ⟨wo.heap.size, 3, none⟩) (Nat.ne_of_lt q3) (Value.slice none 0 0)
          have hw_HB := Below.setCell (p := ⟨wo.heap.size, 3, none⟩) HB.out q0 (Value.slice none 0 0)
          generalize w9.setCell ⟨wo.heap.size, 3, none⟩ (Value.slice none 0 0) = w10 at hx6 hr_HRO hr_HRW hr_HRP hr_HRE hr_HRR hr_HRI hr_HRQ hb_HX1 hb_HZ hb_HM hw_HB ⊢
          replace HRO := Aside0.mk hr_HRO
          replace HRW := Aside0.mk hr_HRW
          replace HRP := Aside0.mk hr_HRP
          replace HRE := Aside0.mk hr_HRE
          replace HRR := Aside0.mk hr_HRR
          replace HRI := Aside0.mk hr_HRI
          replace HRQ := Aside0.mk hr_HRQ
          replace HX1 := Aside0.mk hb_HX1
          replace HZ := Aside0.mk hb_HZ
          replace HM := Aside0.mk hb_HM
          replace HB := Aside0.mk hw_HB
          replace HI := Aside0.mk hx6
          clear hqc hqf hx6 hr_HRO hr_HRW hr_HRP hr_HRE hr_HRR hr_HRI hr_HRQ hb_HX1 hb_HZ hb_HM hw_HB
          have hI : w10.heap[wo.heap.size]? = some (.cells #[.int .i64 y.f0, .int .i64 y.f1, .bool y.f2, .slice none 0 0, .slice By y.f4.length dy] 91 (0, 0)) := by simpa using HI.out
          replace HI := Aside0.mk hI
          have q4 := blk_lt hI
          clear hI
          have d19 := (blk_cell HX1.out 19).trans HN.out.2.2.2.2.2
          have dn := pw_cell_below (below_step HA.out HB.out) E3.out
          go_wp2_with fail
          clear d19 dn
          go_loopw [10] (fun v10 wr => ∃ (m : Nat) (vt : Value), v10 = .int .i64 m ∧ m ≤ y.f3.length ∧ Aside0 (k78.R 78 wr w2.heap.size (fun _ => True) ((.slice B11 x.f9.length d11)) (x.f9)) ∧ Aside0 (k96.R 96 wr w3.heap.size (fun _ => True) ((.slice B17 x.f12.length d17)) (x.f12)) ∧ Aside0 (k86.R 86 wr w4.heap.size (fun _ => True) ((.slice B18 x.f13.length d18)) (x.f13)) ∧ Aside0 (k55.R 55 wr W.heap.size (fun _ => True) (ve) (x.f10)) ∧ Aside0 (k81.R 81 wr W.heap.size (fun _ => True) (vr) (x.f11.f3)) ∧ Aside0 (k91.R 91 wr W.heap.size (fun j => j < wo.heap.size) (vi) (x.f14.take k)) ∧ Aside0 (k86.R 86 wr w8.heap.size (fun _ => True) ((.slice By y.f4.length dy)) (y.f4)) ∧ Aside0 (wr.heap[g1]? = some (.cells (cs.toArray) 34 (0, 0))) ∧ Aside0 (wr.heap[g2]? = some (.cells (zeroCells.toArray) 34 (0, 0))) ∧ Aside0 (wr.heap[g3]? = some (.cells (CC.setIfInBounds 19 vi) 34 (0, 0))) ∧ Aside0 (wr.heap[wo.heap.size]? = some (.cells (#[.int .i64 y.f0, .int .i64 y.f1, .bool y.f2, vt, .slice By y.f4.length dy]) 91 (0, 0))) ∧ Aside0 (k148.R 148 wr w10.heap.size (fun _ => True) vt (y.f3.take m)) ∧ Aside0 (Below W.heap.size W wr) ∧ w10.heap.size ≤ wr.heap.size) (fun v10 _ => y.f3.length - (intOf v10).toNat)
          case atStart => exact ⟨0, _, rfl, Nat.zero_le _, HRO, HRW, HRP, HRE, HRR, HRI, HRQ, HX1, HZ, HM, HI, ⟨Kd.R_nil _ _ _ _ _⟩, HB, Nat.le_refl _⟩
          case round =>
           clear HRO HRW HRP HRE HRR HRI HRQ HX1 HZ HM HI HB
           obtain ⟨m, vt, rfl, hkm, HRO, HRW, HRP, HRE, HRR, HRI, HRQ, HX1, HZ, HM, HI, HRT, HB, hs4⟩ := hrel
           obtain ⟨wp, rfl⟩ : ∃ wp : World, wp = wr := ⟨_, rfl⟩
           have d19 := (blk_cell HX1.out 19).trans HN.out.2.2.2.2.2
           have dn := pw_cell_below (below_step HA.out HB.out) E3.out
           by_cases hlm : m < y.f3.length
           · obtain ⟨z, hze⟩ : ∃ z, y.f3[m]? = some z := ⟨_, List.getElem?_eq_getElem hlm⟩
             have HXZ := Aside0.mk hze
             have HLZ := Aside0.mk (HLY.out.1.2 z (List.mem_of_getElem? hze))
             have HAW := below_step HA.out HB.out
             have hat := at_T148 GY3.out (m : Int) (by omega) (by omega)
             rw [show rd_T148 y.f3 (m : Int) = z by unfold rd_T148; rw [Int.toNat_natCast, List.getD_eq_getElem?_getD, hze]; rfl, Int.toNat_natCast] at hat
             obtain ⟨adt, Az, cz, hAd, t_0, t_1, t_2, t_3, t_4, lz, gz⟩ := hat
             subst hAd
             have GZ := Aside0.mk gz
             have F4 := Aside0.mk t_4
             replace t_0 := pw_cell_below HAW t_0
             replace t_1 := pw_cell_below HAW t_1
             replace t_2 := pw_cell_below HAW t_2
             replace t_3 := pw_cell_below HAW t_3
             replace t_4 := pw_cell_below HAW t_4
             clear hze lz gz HAW
             replace HRT := Aside0.mk (R_old HRT.out)
             have r0 := HB.out.size
             have r1 := blk_lt HX1.out
             have r2 := blk_lt HZ.out
             have r3 := blk_lt HM.out
             have r4 := blk_lt HI.out
             go_upto_region 30 with fail
             have hal := below_alloc (Below.refl wp.heap.size wp) (Obj.cells #[.int .i64 z.f0.f0, .string z.f0.f1, .string z.f0.f2, .int .i64 z.f0.f3, .slice Az z.f1.length cz] 148 (0, 0))
             have hxn : (wp.alloc (Obj.cells #[.int .i64 z.f0.f0, .string z.f0.f1, .string z.f0.f2, .int .i64 z.f0.f3, .slice Az z.f1.length cz] 148 (0, 0))).heap[wp.heap.size]? = some _ := Mem.blk_alloc _
             have hr_HRO := Kd.R_below HRO.out hal
             have hr_HRW := Kd.R_below HRW.out hal
             have hr_HRP := Kd.R_below HRP.out hal
             have hr_HRE := Kd.R_below HRE.out hal
             have hr_HRR := Kd.R_below HRR.out hal
             have hr_HRI := Kd.R_below HRI.out hal
             have hr_HRQ := Kd.R_below HRQ.out hal
             have hr_HRT := Kd.R_below HRT.out hal
             have hb_HX1 := blk_below hal HX1.out
             have hb_HZ := blk_below hal HZ.out
             have hb_HM := blk_below hal HM.out
             have hb_HI := blk_below hal HI.out
             have hw_HB := below_step HB.out hal
             generalize wp.alloc (Obj.cells #[.int .i64 z.f0.f0, .string z.f0.f1, .string z.f0.f2, .int .i64 z.f0.f3, .slice Az z.f1.length cz] 148 (0, 0)) = w11 at hal hxn hr_HRO hr_HRW hr_HRP hr_HRE hr_HRR hr_HRI hr_HRQ hr_HRT hb_HX1 hb_HZ hb_HM hb_HI hw_HB ⊢
             replace HRO := Aside0.mk hr_HRO
             replace HRW := Aside0.mk hr_HRW
             replace HRP := Aside0.mk hr_HRP
             replace HRE := Aside0.mk hr_HRE
             replace HRR := Aside0.mk hr_HRR
             replace HRI := Aside0.mk hr_HRI
             replace HRQ := Aside0.mk hr_HRQ
             replace HRT := Aside0.mk hr_HRT
             replace HX1 := Aside0.mk hb_HX1
             replace HZ := Aside0.mk hb_HZ
             replace HM := Aside0.mk hb_HM
             replace HI := Aside0.mk hb_HI
             replace HB := Aside0.mk hw_HB
             have HT := Aside0.mk hxn
             have HAL := Aside0.mk hal
             clear hal hxn hr_HRO hr_HRW hr_HRP hr_HRE hr_HRR hr_HRI hr_HRQ hr_HRT hb_HX1 hb_HZ hb_HM hb_HI hw_HB
             replace d19 := pw_cell_below (below_alloc (Below.refl _ _) (Obj.cells #[] 3 (0, 0))) ((blk_cell HX1.out 19).trans HN.out.2.2.2.2.2)
             replace dn := pw_cell_below (below_alloc (Below.refl _ _) (Obj.cells #[] 3 (0, 0))) (pw_cell_below (below_step HA.out HB.out) E3.out)
             have dm := pw_cell_below (below_alloc (Below.refl _ _) (Obj.cells #[] 3 (0, 0))) (pw_cell_below (below_step HA.out HB.out) F4.out)
             clear t_0 t_1 t_2 t_3 t_4
             go_upto_region 31 with ((with_reducible refine gate_builtin (b := .append) (xs := #[.tmp 131, .tmp 141]) rfl ?_); at_builtin; refine Kd.R_append_rows (Kd.int .i64) (Rr := (Kd.int .i64).K w0) (w0 := w11) w11.heap.size rfl (.tmp 131) (.tmp 141) 146 3 _ 8 rfl Tryz.underlying146 infoI rfl (by decide) (by decide) _ [] (z.f1) Az (z.f1).length cz (fun _ => True) (fun _ => False) rfl rfl (R_lit0 _ _ _) (row_at GZ.out _ (below_step (below_step HA.out HB.out) (below_alloc (Below.refl _ _) _))) (fun x cs h => h) (fun _ h => h.elim) (fun _ _ => trivial) (below_alloc (Below.refl _ _) _) (below_alloc (Below.refl _ _) _).size (by have := HLZ.out; simp only [List.length_nil]; omega) ?_; intro v5 w5 ho5 hb5 hg5 hat5; obtain ⟨Bz, dz, rfl⟩ := Kd.R_slice ho5; have HRN := Aside0.mk (show (Kd.int .i64).R 3 w5 w11.heap.size (fun _ => True) (.slice Bz (z.f1).length dz) (z.f1) from ho5); replace HRO := Aside0.mk (Kd.R_below HRO.out hb5); replace HRW := Aside0.mk (Kd.R_below HRW.out hb5); replace HRP := Aside0.mk (Kd.R_below HRP.out hb5); replace HRE := Aside0.mk (Kd.R_below HRE.out hb5); replace HRR := Aside0.mk (Kd.R_below HRR.out hb5); replace HRI := Aside0.mk (Kd.R_below HRI.out hb5); replace HRQ := Aside0.mk (Kd.R_below HRQ.out hb5); replace HRT := Aside0.mk (Kd.R_below HRT.out hb5); replace HX1 := Aside0.mk (blk_below hb5 HX1.out); replace HZ := Aside0.mk (blk_below hb5 HZ.out); replace HM := Aside0.mk (blk_below hb5 HM.out); replace HI := Aside0.mk (blk_below hb5 HI.out); replace HT := Aside0.mk (blk_below hb5 HT.out); replace HB := Aside0.mk (below_step HB.out hb5); obtain ⟨hq, hqc⟩ := cell_in HT.out (j := 4) (by simp); have hqf := blk_frozen HT.out 4; clear ho5 hb5 hg5 hat5)
             clear d19 dn dm
             have hx6 := blk_set HT.out 4 (Value.slice Bz z.f1.length dz)
             have hr_HRO := Kd.R_set HRO.out HT.out (by decide) 4 (Value.slice Bz z.f1.length dz)
             have hr_HRW := Kd.R_set HRW.out HT.out (by decide) 4 (Value.slice Bz z.f1.length dz)
             have hr_HRP := Kd.R_set HRP.out HT.out (by decide) 4 (Value.slice Bz z.f1.length dz)
             have hr_HRE := Kd.R_set HRE.out HT.out (by decide) 4 (Value.slice Bz z.f1.length dz)
             have hr_HRR := Kd.R_set HRR.out HT.out (by decide) 4 (Value.slice Bz z.f1.length dz)
             have hr_HRI := Kd.R_far (p := ⟨wp.heap.size, 4, none⟩) HRI.out (fun j hj => Nat.ne_of_lt (Nat.lt_trans hj r4)) (Value.slice Bz z.f1.length dz)
             have hr_HRQ := Kd.R_set HRQ.out HT.out (by decide) 4 (Value.slice Bz z.f1.length dz)
             have hr_HRT := Kd.R_far (p := ⟨wp.heap.size, 4, none⟩) HRT.out (fun j hj => Nat.ne_of_lt hj) (Value.slice Bz z.f1.length dz)
             have hr_HRN := Kd.R_set HRN.out HT.out (by decide) 4 (Value.slice Bz z.f1.length dz)
             have hb_HX1 := blk_far HX1.out (p := ⟨wp.heap.size, 4, none⟩) (Nat.ne_of_lt r1) (Value.slice Bz z.f1.length dz)
             have hb_HZ := blk_far HZ.out (p := ⟨wp.heap.size, 4, none⟩) (Nat.ne_of_lt r2) (Value.slice Bz z.f1.length dz)
             have hb_HM := blk_far HM.out (p := ⟨wp.heap.size, 4, none⟩) (Nat.ne_of_lt r3) (Value.slice Bz z.f1.length dz)
             have hb_HI := blk_far HI.out (p := ⟨wp.heap.size, 4, none⟩) (Nat.ne_of_lt r4) (Value.slice Bz z.f1.length dz)
             have hw_HB := Below.setCell (p := ⟨wp.heap.size, 4, none⟩) HB.out r0 (Value.slice Bz z.f1.length dz)
             generalize w5.setCell ⟨wp.heap.size, 4, none⟩ (Value.slice Bz z.f1.length dz) = w12 at hx6 hr_HRO hr_HRW hr_HRP hr_HRE hr_HRR hr_HRI hr_HRQ hr_HRT hr_HRN hb_HX1 hb_HZ hb_HM hb_HI hw_HB ⊢
             replace HRO := Aside0.mk hr_HRO
             replace HRW := Aside0.mk hr_HRW
             replace HRP := Aside0.mk hr_HRP
             replace HRE := Aside0.mk hr_HRE
             replace HRR := Aside0.mk hr_HRR
             replace HRI := Aside0.mk hr_HRI
             replace HRQ := Aside0.mk hr_HRQ
             replace HRT := Aside0.mk hr_HRT
             replace HRN := Aside0.mk hr_HRN
             replace HX1 := Aside0.mk hb_HX1
             replace HZ := Aside0.mk hb_HZ
             replace HM := Aside0.mk hb_HM
             replace HI := Aside0.mk hb_HI
             replace HB := Aside0.mk hw_HB
             replace HT := Aside0.mk hx6
             clear hqc hqf hx6 hr_HRO hr_HRW hr_HRP hr_HRE hr_HRR hr_HRI hr_HRQ hr_HRT hr_HRN hb_HX1 hb_HZ hb_HM hb_HI hw_HB
             have hT : w12.heap[wp.heap.size]? = some (.cells #[.int .i64 z.f0.f0, .string z.f0.f1, .string z.f0.f2, .int .i64 z.f0.f3, .slice Bz z.f1.length dz] 148 (0, 0)) := by simpa using HT.out
             have n_0 := blk_cell hT 0
             have n_1 := blk_cell hT 1
             have n_2 := blk_cell hT 2
             have n_3 := blk_cell hT 3
             have n_4 := blk_cell hT 4
             simp at n_0 n_1 n_2 n_3 n_4
             have e3 : w12.cell? ⟨wo.heap.size, 3, none⟩ = some vt := by have h := blk_cell HI.out 3; simpa using h
             have q12 := blk_lt HI.out
             have hs12 : w10.heap.size ≤ w12.heap.size := by have := blk_lt hT; omega
             have HMM := Aside0.mk (M_apart (k148_mkM w12 w10.heap.size (fun _ => True) z (Kd.R_lower HRN.out (by have := HAL.out.size; omega))) HRT.out (by decide))
             clear hT HT HRN q12
             go_wp2_with ((with_reducible refine gate_builtin (b := .append) (xs := #[.tmp 145, .tmp 147]) rfl ?_); at_builtin; refine Kd.R_append k148 (w0 := w12) w10.heap.size rfl (.tmp 145) (.tmp 147) 89 148 _ 72 rfl Tryz.underlying89 infoTagged rfl (by decide) (by omega) vt (y.f3.take m) z [.int .i64 z.f0.f0, .string z.f0.f1, .string z.f0.f2, .int .i64 z.f0.f3, .slice Bz z.f1.length dz] (fun _ => True) (fun j => some j ≠ vt.ownBlock) rfl rfl HMM.out (fun _ hk => ⟨trivial, hk⟩) (fun _ _ => trivial) (R_true HRT.out) (Below.refl _ _) hs12 (by have := HLY.out.1.1; rw [List.length_take]; omega) ?_; intro v6 w6 ho6 hb6 hg6 hat6; rw [show y.f3.take m ++ [z] = y.f3.take (m + 1) by rw [List.take_add_one, HXZ.out]; rfl] at ho6; obtain ⟨B6, d6, hv6⟩ := Kd.R_slice ho6; rw [show (y.f3.take (m + 1)).length = m + 1 by rw [List.length_take]; omega] at hv6; subst hv6; replace HRO := Aside0.mk (R_side HRO.out HRT.out (by decide) hg6); replace HRW := Aside0.mk (R_side HRW.out HRT.out (by decide) hg6); replace HRP := Aside0.mk (R_side HRP.out HRT.out (by decide) hg6); replace HRE := Aside0.mk (R_side HRE.out HRT.out (by decide) hg6); replace HRR := Aside0.mk (R_side HRR.out HRT.out (by decide) hg6); replace HRI := Aside0.mk (R_young HRI.out HRT.out (Nat.le_of_lt q4) hg6); replace HRQ := Aside0.mk (R_side HRQ.out HRT.out (by decide) hg6); replace HX1 := Aside0.mk (blk_grown HX1.out hg6 (Kd.R_ne HRT.out HX1.out (by decide))); replace HZ := Aside0.mk (blk_grown HZ.out hg6 (Kd.R_ne HRT.out HZ.out (by decide))); replace HM := Aside0.mk (blk_grown HM.out hg6 (Kd.R_ne HRT.out HM.out (by decide))); replace HI := Aside0.mk (blk_grown HI.out hg6 (Kd.R_ne HRT.out HI.out (by decide))); have HR6 := Aside0.mk ho6; replace HB := Aside0.mk (below_up HB.out hb6 (by omega)); have hs6 := Nat.le_trans hs12 hb6.size; obtain ⟨hq, hqc⟩ := cell_in HI.out (j := 3) (by simp); have hqf := blk_frozen HI.out 3; clear ho6 hb6 hg6 hat6 n_0 n_1 n_2 n_3 n_4 e3)
             go_roundw
             case rel => exact ⟨m + 1, _, by go_num, by omega, ⟨Kd.R_set HRO.out HI.out (by decide) 3 _⟩, ⟨Kd.R_set HRW.out HI.out (by decide) 3 _⟩, ⟨Kd.R_set HRP.out HI.out (by decide) 3 _⟩, ⟨Kd.R_set HRE.out HI.out (by decide) 3 _⟩, ⟨Kd.R_set HRR.out HI.out (by decide) 3 _⟩, ⟨Kd.R_far (p := ⟨wo.heap.size, 3, none⟩) HRI.out (fun j hj => Nat.ne_of_lt hj) _⟩, ⟨Kd.R_set HRQ.out HI.out (by decide) 3 _⟩, ⟨blk_far HX1.out (p := ⟨wo.heap.size, 3, none⟩) (Nat.ne_of_lt q1) _⟩, ⟨blk_far HZ.out (p := ⟨wo.heap.size, 3, none⟩) (Nat.ne_of_lt q2) _⟩, ⟨blk_far HM.out (p := ⟨wo.heap.size, 3, none⟩) (Nat.ne_of_lt q3) _⟩, ⟨by simpa using blk_set HI.out 3 (Value.slice B6 (m + 1) d6)⟩, ⟨Kd.R_set HR6.out HI.out (by decide) 3 _⟩, ⟨Below.setCell (p := ⟨wo.heap.size, 3, none⟩) HB.out q0 _⟩, Nat.le_trans hs6 (set_size_le _ _ _)⟩
             case measure => simp [intOf]; omega
           · have hxt : y.f3.take m = y.f3 := List.take_of_length_le (by omega)
             rw [hxt] at HRT
             clear hxt
             obtain ⟨Bt, dt, rfl⟩ := Kd.R_slice HRT.out
             have n_0 := blk_cell HI.out 0
             have n_1 := blk_cell HI.out 1
             have n_2 := blk_cell HI.out 2
             have n_3 := blk_cell HI.out 3
             have n_4 := blk_cell HI.out 4
             simp at n_0 n_1 n_2 n_3 n_4
             have e3 := (blk_cell HM.out 19).trans (set_at (v := vi) (by omega))
             have HMM := Aside0.mk (M_apart (k91_mkM wp W.heap.size (fun _ => True) y (Kd.R_lower HRT.out (by omega)) (Kd.R_lower HRQ.out (by have := HAL.out.size; omega))) HRI.out (by decide))
             go_wp2_with ((with_reducible refine gate_builtin (b := .append) (xs := #[.tmp 151, .tmp 153]) rfl ?_); at_builtin; refine Kd.R_append k91 (w0 := W) W.heap.size rfl (.tmp 151) (.tmp 153) 32 91 _ 72 rfl Tryz.underlying32 infoItem rfl (by decide) (by omega) vi (x.f14.take k) y [.int .i64 y.f0, .int .i64 y.f1, .bool y.f2, .slice Bt y.f3.length dt, .slice By y.f4.length dy] (fun _ => True) (fun j => some j ≠ vi.ownBlock) rfl rfl HMM.out (fun _ hk => ⟨trivial, hk⟩) (fun _ _ => trivial) (R_true HRI.out) HB.out HB.out.size (by have := O14.out.1; rw [List.length_take]; omega) ?_; intro v6 w6 ho6 hb6 hg6 hat6; rw [show x.f14.take k ++ [y] = x.f14.take (k + 1) by rw [List.take_add_one, HX.out]; rfl] at ho6; obtain ⟨B6, d6, hv6⟩ := Kd.R_slice ho6; rw [show (x.f14.take (k + 1)).length = k + 1 by rw [List.length_take]; omega] at hv6; subst hv6; replace HRO := Aside0.mk (R_side HRO.out HRI.out (by decide) hg6); replace HRW := Aside0.mk (R_side HRW.out HRI.out (by decide) hg6); replace HRP := Aside0.mk (R_side HRP.out HRI.out (by decide) hg6); replace HRE := Aside0.mk (R_side HRE.out HRI.out (by decide) hg6); replace HRR := Aside0.mk (R_side HRR.out HRI.out (by decide) hg6); replace HX1 := Aside0.mk (blk_grown HX1.out hg6 (Kd.R_ne HRI.out HX1.out (by decide))); replace HZ := Aside0.mk (blk_grown HZ.out hg6 (Kd.R_ne HRI.out HZ.out (by decide))); replace HM := Aside0.mk (blk_grown HM.out hg6 (Kd.R_ne HRI.out HM.out (by decide))); have HR6 := Aside0.mk ho6; replace HB := Aside0.mk hb6; obtain ⟨hq, hqc⟩ := cell_in HM.out (j := 19) (by simp only [Array.size_setIfInBounds]; omega); have hqf := blk_frozen HM.out 19; clear ho6 hb6 hg6 hat6 n_0 n_1 n_2 n_3 n_4 e3)
             go_roundw
             case rel => exact ⟨k + 1, _, by go_num, by omega, ⟨Kd.R_set HRO.out HM.out (by decide) 19 _⟩, ⟨Kd.R_set HRW.out HM.out (by decide) 19 _⟩, ⟨Kd.R_set HRP.out HM.out (by decide) 19 _⟩, ⟨Kd.R_set HRE.out HM.out (by decide) 19 _⟩, ⟨Kd.R_set HRR.out HM.out (by decide) 19 _⟩, ⟨blk_far HX1.out (p := ⟨g3, 19, none⟩) h13 _⟩, ⟨blk_far HZ.out (p := ⟨g3, 19, none⟩) h23 _⟩, ⟨by rw [← set_twice (v := vi)]; exact blk_set HM.out 19 _⟩, ⟨Kd.R_set HR6.out HM.out (by decide) 19 _⟩, ⟨Below.setCell (p := ⟨g3, 19, none⟩) HB.out hle3 _⟩⟩
             case measure => simp [intOf]; omega
        · have hxt : x.f14.take k = x.f14 := List.take_of_length_le (by omega)
          rw [hxt] at HRI
          clear hxt
          have hM := k34_mkM wo W.heap.size (fun _ => True) x (Kd.R_lower HRO.out (by first | exact Nat.le_refl _ | assumption | omega)) (Kd.R_lower HRE.out (by first | exact Nat.le_refl _ | assumption | omega)) (Kd.R_lower HRR.out (by first | exact Nat.le_refl _ | assumption | omega)) (Kd.R_lower HRW.out (by first | exact Nat.le_refl _ | assumption | omega)) (Kd.R_lower HRP.out (by first | exact Nat.le_refl _ | assumption | omega)) (Kd.R_lower HRI.out (by first | exact Nat.le_refl _ | assumption | omega))
          have hcc : CC.setIfInBounds 19 vi = ([.int .i64 x.f0, .int .i64 x.f1.f0, .int .i64 x.f1.f1, .int .i64 x.f1.f2, .int .i64 x.f2, .int .i64 x.f3, .int .i64 x.f4, .int .i64 x.f5, .int .i64 x.f6, .int .i64 x.f7, .int .i64 x.f8, .slice B11 x.f9.length d11, ve, .int .i64 x.f11.f0, .int .i64 x.f11.f1, .int .i64 x.f11.f2, vr, .slice B17 x.f12.length d17, .slice B18 x.f13.length d18, vi, .string x.f15] : List Value).toArray := by rw [HCCC.out, HCCB.out, HCCA.out, HCS.out]; rfl
          rw [hcc] at HM
          generalize ([.int .i64 x.f0, .int .i64 x.f1.f0, .int .i64 x.f1.f1, .int .i64 x.f1.f2, .int .i64 x.f2, .int .i64 x.f3, .int .i64 x.f4, .int .i64 x.f5, .int .i64 x.f6, .int .i64 x.f7, .int .i64 x.f8, .slice B11 x.f9.length d11, ve, .int .i64 x.f11.f0, .int .i64 x.f11.f1, .int .i64 x.f11.f2, vr, .slice B17 x.f12.length d17, .slice B18 x.f13.length d18, vi, .string x.f15] : List Value) = ds at hM HM
          clear hcc
          have HKD := Aside0.mk (k34.K_of_M hM)
          have HMD := Aside0.mk hM
          have HSD := Aside0.mk (cs_size HKD.out)
          clear hM
          go_wp2_with (first | ((with_reducible refine gate_load (t := 34) rfl ?_); refine load_row rfl rfl Tryz.underlying34 rfl HM.out rfl HSD.out ?_) | ((with_reducible refine gate_store2 (t := 34) rfl ?_); refine store_row (old := zeroCells.toArray) (cs := ds.toArray) rfl rfl rfl HZ.out rfl rfl HSD.out (note_size HKD.out) (note_one HKD.out) ?_; intro w9 hm9 hx9; have HX9 := Aside0.mk hx9; have HB9 := Aside0.mk (hm9.above HB.out (fun k hk => by omega)); have HM9 := Aside0.mk (Get.M_moved HMD.out HZ.out (by decide) hm9); clear hm9 hx9))
          refine bodyPost_ret (results_c rfl _ _ _ _ _ _ _ rfl HX9.out Tryz.underlying34 rfl HSD.out) rfl ?_
          exact ⟨ds, rfl, HB9.out, HM9.out⟩
end Go.Proofs.YtmneemhplffemaaGreatDoorRR.Cop
namespace Go.Proofs.YtmneemhplffemaaGreatDoorRR.Tab
open Go.RowKit Go.Proofs.YtmneemhplffemaaGreatDoorRR.Ord Go.Proofs.YtmneemhplffemaaGreatDoorRR.Name Go.Proofs.YtmneemhplffemaaGreatDoorRR.Ext Go.Proofs.YtmneemhplffemaaGreatDoorRR.Wire Go.Proofs.YtmneemhplffemaaGreatDoorRR.Mem Go.Proofs.YtmneemhplffemaaGreatDoorRR.Put Go.Proofs.YtmneemhplffemaaGreatDoorRR.Law Go.Proofs.YtmneemhplffemaaGreatDoorRR.Row Go.Proofs.YtmneemhplffemaaGreatDoorRR.Ki Go.Proofs.YtmneemhplffemaaGreatDoorRR.Chk Go.Proofs.YtmneemhplffemaaGreatDoorRR.May Go.Proofs.YtmneemhplffemaaGreatDoorRRW.PrintWords


theorem wrote_alloc {T : Nat} {W W' : World} {base g : Nat} {v : Value} {bs : List Int} {o : Obj} (h : Wrote T (W.alloc o) W' base g v bs) : Wrote T W W' base g v bs :=
 Wrote.trans (Moved.of_below (below_alloc (Below.refl _ _) o) _) (fun _ hk => .inl hk) h
set_option maxRecDepth 100000 in
set_option maxHeartbeats 1000000 in
theorem pc_uW (w0 W : World) (g gw : Nat) (x : Note) (cs : List Value) (hk : k34.K w0 x cs) (hb : Below w0.heap.size w0 W) (hbx : W.heap[g]? = some (.cells cs.toArray 34 (0, 0))) (ho : OkL .uW x) (base : Nat) (v : Value) (bs : List Int) (hbase : w0.heap.size ≤ base) (hgb : g < base) (hp : Pen 127 W base gw v bs) (hl : bs.length + 200000000 ≤ 140737488355328) :
  Calls Tryz.prog 170 #[.pointer (some ⟨gw, 0, none⟩), .pointer (some ⟨g, 0, none⟩)] W fun e W' => e = .returned (.tuple #[]) ∧ Wrote 127 W W' base gw v (bs ++ encF .uW x) := by
 obtain ⟨A11, c11, A12, c12, A16, c16, A17, c17, A18, c18, A19, c19, rfl, l11, g11, l12, g12, l16, g16, l17, g17, l18, g18, l19, g19⟩ := k34_open hk
 have hc := blk_cell hbx
 have n_17 : W.cell? ⟨g, 17, none⟩ = some (.slice A17 x.f12.length c17) := hc 17
 have G17 := Aside0.mk g17
 have HL17 := Aside0.mk l17
 have HP := Aside0.mk hp
 have HB := Aside0.mk hb
 have HO := Aside0.mk ho
 have HX := Aside0.mk hbx
 clear hk hb hbx hc hp ho g11 l11 g12 l12 g16 l16 g17 l17 g18 l18 g19 l19
 go_enter Tryz.func170, Tryz.ntmps170
 go_wp2_with fail
 have hlen := HO.out.1
 refine (putList_Watch 230 (fun args w => by kernel_rfl) encWatch WatchOk 300 put_Watch len_Watch A17 c17 x.f12 w0 W G17.out HO.out.2 HB.out base gw v bs hbase HP.out (by omega) (by omega)).mono ?_
 rintro e w1 ⟨rfl, hw⟩
 have HWR := Aside0.mk hw
 clear hw
 go_wp2_with fail
 first | go_end0 | refine bodyPost_ret (results_none rfl _ _ _) rfl ?_
 exact ⟨rfl, HWR.out⟩
set_option maxRecDepth 100000 in
set_option maxHeartbeats 1000000 in
theorem pc_lo (w0 W : World) (g gw : Nat) (x : Note) (cs : List Value) (hk : k34.K w0 x cs) (hb : Below w0.heap.size w0 W) (hbx : W.heap[g]? = some (.cells cs.toArray 34 (0, 0))) (ho : OkL .lo x) (base : Nat) (v : Value) (bs : List Int) (hbase : w0.heap.size ≤ base) (hgb : g < base) (hp : Pen 127 W base gw v bs) (hl : bs.length + 200000000 ≤ 140737488355328) :
  Calls Tryz.prog 191 #[.pointer (some ⟨gw, 0, none⟩), .pointer (some ⟨g, 0, none⟩)] W fun e W' => e = .returned (.tuple #[]) ∧ Wrote 127 W W' base gw v (bs ++ encF .lo x) := by
 obtain ⟨A11, c11, A12, c12, A16, c16, A17, c17, A18, c18, A19, c19, rfl, l11, g11, l12, g12, l16, g16, l17, g17, l18, g18, l19, g19⟩ := k34_open hk
 have hc := blk_cell hbx
 have n_11 : W.cell? ⟨g, 11, none⟩ = some (.slice A11 x.f9.length c11) := hc 11
 have G11 := Aside0.mk g11
 have HL11 := Aside0.mk l11
 have HP := Aside0.mk hp
 have HB := Aside0.mk hb
 have HO := Aside0.mk ho
 have HX := Aside0.mk hbx
 clear hk hb hbx hc hp ho g11 l11 g12 l12 g16 l16 g17 l17 g18 l18 g19 l19
 go_enter Tryz.func191, Tryz.ntmps191
 go_wp2_with fail
 have hlen := HO.out.1
 refine (putList_Op 121 (fun args w => by kernel_rfl) encOp OpOk 2000 put_Op len_Op A11 c11 x.f9 w0 W G11.out HO.out.2 HB.out base gw v bs hbase HP.out (by omega) (by omega)).mono ?_
 rintro e w1 ⟨rfl, hw⟩
 have HWR := Aside0.mk hw
 clear hw
 go_wp2_with fail
 first | go_end0 | refine bodyPost_ret (results_none rfl _ _ _) rfl ?_
 exact ⟨rfl, HWR.out⟩
set_option maxRecDepth 100000 in
set_option maxHeartbeats 1000000 in
theorem pc_uE (w0 W : World) (g gw : Nat) (x : Note) (cs : List Value) (hk : k34.K w0 x cs) (hb : Below w0.heap.size w0 W) (hbx : W.heap[g]? = some (.cells cs.toArray 34 (0, 0))) (ho : OkL .uE x) (base : Nat) (v : Value) (bs : List Int) (hbase : w0.heap.size ≤ base) (hgb : g < base) (hp : Pen 127 W base gw v bs) (hl : bs.length + 200000000 ≤ 140737488355328) :
  Calls Tryz.prog 195 #[.pointer (some ⟨gw, 0, none⟩), .pointer (some ⟨g, 0, none⟩)] W fun e W' => e = .returned (.tuple #[]) ∧ Wrote 127 W W' base gw v (bs ++ encF .uE x) := by
 obtain ⟨A11, c11, A12, c12, A16, c16, A17, c17, A18, c18, A19, c19, rfl, l11, g11, l12, g12, l16, g16, l17, g17, l18, g18, l19, g19⟩ := k34_open hk
 have hc := blk_cell hbx
 have n_12 : W.cell? ⟨g, 12, none⟩ = some (.slice A12 x.f10.length c12) := hc 12
 have G12 := Aside0.mk g12
 have HL12 := Aside0.mk l12
 have HP := Aside0.mk hp
 have HB := Aside0.mk hb
 have HO := Aside0.mk ho
 have HX := Aside0.mk hbx
 clear hk hb hbx hc hp ho g11 l11 g12 l12 g16 l16 g17 l17 g18 l18 g19 l19
 go_enter Tryz.func195, Tryz.ntmps195
 go_wp2_with fail
 have hlen := HO.out.1
 refine (putList_Entry 75 (fun args w => by kernel_rfl) encEntry EntryOk 12000 put_Entry len_Entry A12 c12 x.f10 w0 W G12.out HO.out.2 HB.out base gw v bs hbase HP.out (by omega) (by omega)).mono ?_
 rintro e w1 ⟨rfl, hw⟩
 have HWR := Aside0.mk hw
 clear hw
 go_wp2_with fail
 first | go_end0 | refine bodyPost_ret (results_none rfl _ _ _) rfl ?_
 exact ⟨rfl, HWR.out⟩
set_option maxRecDepth 100000 in
set_option maxHeartbeats 1000000 in
theorem pc_uI (w0 W : World) (g gw : Nat) (x : Note) (cs : List Value) (hk : k34.K w0 x cs) (hb : Below w0.heap.size w0 W) (hbx : W.heap[g]? = some (.cells cs.toArray 34 (0, 0))) (ho : OkL .uI x) (base : Nat) (v : Value) (bs : List Int) (hbase : w0.heap.size ≤ base) (hgb : g < base) (hp : Pen 127 W base gw v bs) (hl : bs.length + 200000000 ≤ 140737488355328) :
  Calls Tryz.prog 202 #[.pointer (some ⟨gw, 0, none⟩), .pointer (some ⟨g, 0, none⟩)] W fun e W' => e = .returned (.tuple #[]) ∧ Wrote 127 W W' base gw v (bs ++ encF .uI x) := by
 obtain ⟨A11, c11, A12, c12, A16, c16, A17, c17, A18, c18, A19, c19, rfl, l11, g11, l12, g12, l16, g16, l17, g17, l18, g18, l19, g19⟩ := k34_open hk
 have hc := blk_cell hbx
 have n_19 : W.cell? ⟨g, 19, none⟩ = some (.slice A19 x.f14.length c19) := hc 19
 have G19 := Aside0.mk g19
 have HL19 := Aside0.mk l19
 have HP := Aside0.mk hp
 have HB := Aside0.mk hb
 have HO := Aside0.mk ho
 have HX := Aside0.mk hbx
 clear hk hb hbx hc hp ho g11 l11 g12 l12 g16 l16 g17 l17 g18 l18 g19 l19
 go_enter Tryz.func202, Tryz.ntmps202
 go_wp2_with fail
 have hlen := HO.out.1
 refine (putList_Item 204 (fun args w => by kernel_rfl) encItem ItemOk 300000 put_Item len_Item A19 c19 x.f14 w0 W G19.out (fun y hy => (HO.out.2 y hy).ok) HB.out base gw v bs hbase HP.out (by omega) (by omega)).mono ?_
 rintro e w1 ⟨rfl, hw⟩
 have HWR := Aside0.mk hw
 clear hw
 go_wp2_with fail
 first | go_end0 | refine bodyPost_ret (results_none rfl _ _ _) rfl ?_
 exact ⟨rfl, HWR.out⟩
set_option maxRecDepth 100000 in
set_option maxHeartbeats 1000000 in
theorem pc_uP (w0 W : World) (g gw : Nat) (x : Note) (cs : List Value) (hk : k34.K w0 x cs) (hb : Below w0.heap.size w0 W) (hbx : W.heap[g]? = some (.cells cs.toArray 34 (0, 0))) (ho : OkL .uP x) (base : Nat) (v : Value) (bs : List Int) (hbase : w0.heap.size ≤ base) (hgb : g < base) (hp : Pen 127 W base gw v bs) (hl : bs.length + 200000000 ≤ 140737488355328) :
  Calls Tryz.prog 211 #[.pointer (some ⟨gw, 0, none⟩), .pointer (some ⟨g, 0, none⟩)] W fun e W' => e = .returned (.tuple #[]) ∧ Wrote 127 W W' base gw v (bs ++ encF .uP x) := by
 obtain ⟨A11, c11, A12, c12, A16, c16, A17, c17, A18, c18, A19, c19, rfl, l11, g11, l12, g12, l16, g16, l17, g17, l18, g18, l19, g19⟩ := k34_open hk
 have hc := blk_cell hbx
 have n_18 : W.cell? ⟨g, 18, none⟩ = some (.slice A18 x.f13.length c18) := hc 18
 have G18 := Aside0.mk g18
 have HL18 := Aside0.mk l18
 have HP := Aside0.mk hp
 have HB := Aside0.mk hb
 have HO := Aside0.mk ho
 have HX := Aside0.mk hbx
 clear hk hb hbx hc hp ho g11 l11 g12 l12 g16 l16 g17 l17 g18 l18 g19 l19
 go_enter Tryz.func211, Tryz.ntmps211
 go_wp2_with fail
 have hlen := HO.out.1
 refine (putList_Part 213 (fun args w => by kernel_rfl) encPart PartOk 50000 put_Part len_Part A18 c18 x.f13 w0 W G18.out HO.out.2 HB.out base gw v bs hbase HP.out (by omega) (by omega)).mono ?_
 rintro e w1 ⟨rfl, hw⟩
 have HWR := Aside0.mk hw
 clear hw
 go_wp2_with fail
 first | go_end0 | refine bodyPost_ret (results_none rfl _ _ _) rfl ?_
 exact ⟨rfl, HWR.out⟩
set_option maxRecDepth 100000 in
set_option maxHeartbeats 1000000 in
theorem pc_ly (w0 W : World) (g gw : Nat) (x : Note) (cs : List Value) (hk : k34.K w0 x cs) (hb : Below w0.heap.size w0 W) (hbx : W.heap[g]? = some (.cells cs.toArray 34 (0, 0))) (ho : OkL .ly x) (base : Nat) (v : Value) (bs : List Int) (hbase : w0.heap.size ≤ base) (hgb : g < base) (hp : Pen 127 W base gw v bs) (hl : bs.length + 200000000 ≤ 140737488355328) :
  Calls Tryz.prog 180 #[.pointer (some ⟨gw, 0, none⟩), .pointer (some ⟨g, 0, none⟩)] W fun e W' => e = .returned (.tuple #[]) ∧ Wrote 127 W W' base gw v (bs ++ encF .ly x) := by
 obtain ⟨A11, c11, A12, c12, A16, c16, A17, c17, A18, c18, A19, c19, rfl, l11, g11, l12, g12, l16, g16, l17, g17, l18, g18, l19, g19⟩ := k34_open hk
 have hc := blk_cell hbx
 have n_13 : W.cell? ⟨g, 13, none⟩ = some (.int .i64 x.f11.f0) := hc 13
 have n_14 : W.cell? ⟨g, 14, none⟩ = some (.int .i64 x.f11.f1) := hc 14
 have n_15 : W.cell? ⟨g, 15, none⟩ = some (.int .i64 x.f11.f2) := hc 15
 have n_16 : W.cell? ⟨g, 16, none⟩ = some (.slice A16 x.f11.f3.length c16) := hc 16
 have G16 := Aside0.mk g16
 have HL16 := Aside0.mk l16
 have HP := Aside0.mk hp
 have HB := Aside0.mk hb
 have HO := Aside0.mk ho
 have HX := Aside0.mk hbx
 clear hk hb hbx hc hp ho g11 l11 g12 l12 g16 l16 g17 l17 g18 l18 g19 l19
 go_enter Tryz.func180, Tryz.ntmps180
 go_wp2_with fail
 refine (putReply_any x.f11 HO.out _ w0 W (k29_mk w0 x.f11 HL16.out G16.out) HB.out base gw v bs hbase HP.out (by omega)).mono ?_
 rintro e w1 ⟨rfl, hw⟩
 have HWR := Aside0.mk hw
 clear hw
 go_wp2_with fail
 first | go_end0 | refine bodyPost_ret (results_none rfl _ _ _) rfl ?_
 exact ⟨rfl, HWR.out⟩
set_option maxRecDepth 100000 in
set_option maxHeartbeats 1000000 in
theorem pc_la (w0 W : World) (g gw : Nat) (x : Note) (cs : List Value) (hk : k34.K w0 x cs) (hb : Below w0.heap.size w0 W) (hbx : W.heap[g]? = some (.cells cs.toArray 34 (0, 0))) (ho : OkL .la x) (base : Nat) (v : Value) (bs : List Int) (hbase : w0.heap.size ≤ base) (hgb : g < base) (hp : Pen 127 W base gw v bs) (hl : bs.length + 200000000 ≤ 140737488355328) :
  Calls Tryz.prog 187 #[.pointer (some ⟨gw, 0, none⟩), .pointer (some ⟨g, 0, none⟩)] W fun e W' => e = .returned (.tuple #[]) ∧ Wrote 127 W W' base gw v (bs ++ encF .la x) := by
 obtain ⟨A11, c11, A12, c12, A16, c16, A17, c17, A18, c18, A19, c19, rfl, l11, g11, l12, g12, l16, g16, l17, g17, l18, g18, l19, g19⟩ := k34_open hk
 have hc := blk_cell hbx
 have n_20 : W.cell? ⟨g, 20, none⟩ = some (.string x.f15) := hc 20
 have HP := Aside0.mk hp
 have HB := Aside0.mk hb
 have HO := Aside0.mk ho
 have HX := Aside0.mk hbx
 clear hk hb hbx hc hp ho g11 l11 g12 l12 g16 l16 g17 l17 g18 l18 g19 l19
 go_enter Tryz.func187, Tryz.ntmps187
 have hsz : x.f15.size ≤ 262144 := HO.out
 go_wp2_with fail
 refine (wtxt x.f15 hsz W base gw v bs HP.out (by omega)).mono ?_
 rintro e w1 ⟨rfl, hw⟩
 have HWR := Aside0.mk hw
 clear hw
 go_wp2_with fail
 first | go_end0 | refine bodyPost_ret (results_none rfl _ _ _) rfl ?_
 exact ⟨rfl, HWR.out⟩
set_option maxRecDepth 100000 in
set_option maxHeartbeats 1000000 in
theorem pc_le (w0 W : World) (g gw : Nat) (x : Note) (cs : List Value) (hk : k34.K w0 x cs) (hb : Below w0.heap.size w0 W) (hbx : W.heap[g]? = some (.cells cs.toArray 34 (0, 0))) (ho : OkL .le x) (base : Nat) (v : Value) (bs : List Int) (hbase : w0.heap.size ≤ base) (hgb : g < base) (hp : Pen 127 W base gw v bs) (hl : bs.length + 200000000 ≤ 140737488355328) :
  Calls Tryz.prog 235 #[.pointer (some ⟨gw, 0, none⟩), .pointer (some ⟨g, 0, none⟩)] W fun e W' => e = .returned (.tuple #[]) ∧ Wrote 127 W W' base gw v (bs ++ encF .le x) := by
 obtain ⟨A11, c11, A12, c12, A16, c16, A17, c17, A18, c18, A19, c19, rfl, l11, g11, l12, g12, l16, g16, l17, g17, l18, g18, l19, g19⟩ := k34_open hk
 have hc := blk_cell hbx
 have n_10 : W.cell? ⟨g, 10, none⟩ = some (.int .i64 x.f8) := hc 10
 have HP := Aside0.mk hp
 have HB := Aside0.mk hb
 have HO := Aside0.mk ho
 have HX := Aside0.mk hbx
 clear hk hb hbx hc hp ho g11 l11 g12 l12 g16 l16 g17 l17 g18 l18 g19 l19
 go_enter Tryz.func235, Tryz.ntmps235
 go_wp2_with fail
 refine (wnum x.f8 HO.out.1 HO.out.2 W base gw v bs HP.out (by omega)).mono ?_
 rintro e w1 ⟨rfl, hw⟩
 have HWR := Aside0.mk hw
 clear hw
 go_wp2_with fail
 first | go_end0 | refine bodyPost_ret (results_none rfl _ _ _) rfl ?_
 exact ⟨rfl, HWR.out⟩
set_option maxRecDepth 100000 in
set_option maxHeartbeats 1000000 in
theorem pc_lv (w0 W : World) (g gw : Nat) (x : Note) (cs : List Value) (hk : k34.K w0 x cs) (hb : Below w0.heap.size w0 W) (hbx : W.heap[g]? = some (.cells cs.toArray 34 (0, 0))) (ho : OkL .lv x) (base : Nat) (v : Value) (bs : List Int) (hbase : w0.heap.size ≤ base) (hgb : g < base) (hp : Pen 127 W base gw v bs) (hl : bs.length + 200000000 ≤ 140737488355328) :
  Calls Tryz.prog 239 #[.pointer (some ⟨gw, 0, none⟩), .pointer (some ⟨g, 0, none⟩)] W fun e W' => e = .returned (.tuple #[]) ∧ Wrote 127 W W' base gw v (bs ++ encF .lv x) := by
 obtain ⟨A11, c11, A12, c12, A16, c16, A17, c17, A18, c18, A19, c19, rfl, l11, g11, l12, g12, l16, g16, l17, g17, l18, g18, l19, g19⟩ := k34_open hk
 have hc := blk_cell hbx
 have n_1 : W.cell? ⟨g, 1, none⟩ = some (.int .i64 x.f1.f0) := hc 1
 have n_2 : W.cell? ⟨g, 2, none⟩ = some (.int .i64 x.f1.f1) := hc 2
 have n_3 : W.cell? ⟨g, 3, none⟩ = some (.int .i64 x.f1.f2) := hc 3
 have HP := Aside0.mk hp
 have HB := Aside0.mk hb
 have HO := Aside0.mk ho
 have HX := Aside0.mk hbx
 clear hk hb hbx hc hp ho g11 l11 g12 l12 g16 l16 g17 l17 g18 l18 g19 l19
 have HS0 : Aside0 (Pend 127 W W base gw v v bs (fun k o => k = g ∧ o = (Obj.cells #[.int .i64 x.f0, .int .i64 x.f1.f0, .int .i64 x.f1.f1, .int .i64 x.f1.f2, .int .i64 x.f2, .int .i64 x.f3, .int .i64 x.f4, .int .i64 x.f5, .int .i64 x.f6, .int .i64 x.f7, .int .i64 x.f8, .slice A11 x.f9.length c11, .slice A12 x.f10.length c12, .int .i64 x.f11.f0, .int .i64 x.f11.f1, .int .i64 x.f11.f2, .slice A16 x.f11.f3.length c16, .slice A17 x.f12.length c17, .slice A18 x.f13.length c18, .slice A19 x.f14.length c19, .string x.f15] 34 (0, 0)))) := ⟨⟨HP.out, Moved.refl _ _, fun _ hk => .inl hk, fun k o h => by obtain ⟨rfl, rfl⟩ := h; exact ⟨HX.out, fun hs => by have := HP.out.base_le _ hs; omega⟩⟩⟩
 have e0 := num_le x.f1.f0
 have e1 := num_le x.f1.f1
 clear HX
 go_enter Tryz.func239, Tryz.ntmps239
 go_wp2_with fail
 refine (Pend.num HS0.out x.f1.f0 HO.out.1 (by first | omega | (simp only [List.length_append]; omega))).mono ?_
 rintro e w1 ⟨rfl, v1, hs1⟩
 have hc1 := hs1.cells (k := g) ⟨rfl, rfl⟩
 have m1_2 : w1.cell? ⟨g, 2, none⟩ = some (.int .i64 x.f1.f1) := hc1 2
 have m1_3 : w1.cell? ⟨g, 3, none⟩ = some (.int .i64 x.f1.f2) := hc1 3
 have HS1 := Aside0.mk hs1
 clear hs1 hc1
 go_wp2_with fail
 refine (Pend.num HS1.out x.f1.f1 HO.out.2.1 (by first | omega | (simp only [List.length_append]; omega))).mono ?_
 rintro e w2 ⟨rfl, v2, hs2⟩
 have hc2 := hs2.cells (k := g) ⟨rfl, rfl⟩
 have m2_2 : w2.cell? ⟨g, 2, none⟩ = some (.int .i64 x.f1.f1) := hc2 2
 have m2_3 : w2.cell? ⟨g, 3, none⟩ = some (.int .i64 x.f1.f2) := hc2 3
 have HS2 := Aside0.mk hs2
 clear hs2 hc2
 go_wp2_with fail
 refine (Pend.num HS2.out x.f1.f2 HO.out.2.2 (by first | omega | (simp only [List.length_append]; omega))).mono ?_
 rintro e w3 ⟨rfl, v3, hs3⟩
 have hc3 := hs3.cells (k := g) ⟨rfl, rfl⟩
 have m3_2 : w3.cell? ⟨g, 2, none⟩ = some (.int .i64 x.f1.f1) := hc3 2
 have m3_3 : w3.cell? ⟨g, 3, none⟩ = some (.int .i64 x.f1.f2) := hc3 3
 have HS3 := Aside0.mk hs3
 clear hs3 hc3
 go_wp2_with fail
 first | go_end0 | refine bodyPost_ret (results_none rfl _ _ _) rfl ?_
 exact ⟨rfl, by simp only [encF]; simpa only [List.append_assoc] using HS3.out.wrote⟩
theorem c_write (l : Ltr) (w0 W : World) (g gw : Nat) (x : Note) (cs : List Value) (hk : k34.K w0 x cs) (hb : Below w0.heap.size w0 W) (hbx : W.heap[g]? = some (.cells cs.toArray 34 (0, 0))) (ho : OkL l x) (base : Nat) (v : Value) (bs : List Int) (hbase : w0.heap.size ≤ base) (hgb : g < base) (hp : Pen 127 W base gw v bs) (hl : bs.length + 200000000 ≤ 140737488355328) :
  Calls Tryz.prog 62 #[.agg (fCells l).toArray, .pointer (some ⟨gw, 0, none⟩), .pointer (some ⟨g, 0, none⟩)] W fun e W' => e = .returned (.tuple #[]) ∧ Wrote 127 W W' base gw v (bs ++ encF l x) := by
 cases l
 case ln =>
  have hc : W.cell? ⟨g, 1, none⟩ = some (.int .i64 x.f1.f0) := by
   obtain ⟨A11, c11, A12, c12, A16, c16, A17, c17, A18, c18, A19, c19, rfl, l11, g11, l12, g12, l16, g16, l17, g17, l18, g18, l19, g19⟩ := k34_open hk
   exact blk_cell hbx 1
  exact write_num _ 1 (fun _ _ => by kernel_rfl) n_ln 1 x.f1.f0 W gw g _ hc ((wnum x.f1.f0 ho.1 ho.2 _ base gw v bs (hp.alloc _) (by omega)).mono fun e W' ⟨he, hw⟩ => ⟨he, wrote_alloc hw⟩)
 case ls =>
  have hc : W.cell? ⟨g, 4, none⟩ = some (.int .i64 x.f2) := by
   obtain ⟨A11, c11, A12, c12, A16, c16, A17, c17, A18, c18, A19, c19, rfl, l11, g11, l12, g12, l16, g16, l17, g17, l18, g18, l19, g19⟩ := k34_open hk
   exact blk_cell hbx 4
  exact write_num _ 4 (fun _ _ => by kernel_rfl) n_ls 1 x.f2 W gw g _ hc ((wnum x.f2 ho.1 ho.2 _ base gw v bs (hp.alloc _) (by omega)).mono fun e W' ⟨he, hw⟩ => ⟨he, wrote_alloc hw⟩)
 case lc =>
  have hc : W.cell? ⟨g, 5, none⟩ = some (.int .i64 x.f3) := by
   obtain ⟨A11, c11, A12, c12, A16, c16, A17, c17, A18, c18, A19, c19, rfl, l11, g11, l12, g12, l16, g16, l17, g17, l18, g18, l19, g19⟩ := k34_open hk
   exact blk_cell hbx 5
  exact write_num _ 5 (fun _ _ => by kernel_rfl) n_lc 1 x.f3 W gw g _ hc ((wnum x.f3 ho.1 ho.2 _ base gw v bs (hp.alloc _) (by omega)).mono fun e W' ⟨he, hw⟩ => ⟨he, wrote_alloc hw⟩)
 case lr =>
  have hc : W.cell? ⟨g, 6, none⟩ = some (.int .i64 x.f4) := by
   obtain ⟨A11, c11, A12, c12, A16, c16, A17, c17, A18, c18, A19, c19, rfl, l11, g11, l12, g12, l16, g16, l17, g17, l18, g18, l19, g19⟩ := k34_open hk
   exact blk_cell hbx 6
  exact write_num _ 6 (fun _ _ => by kernel_rfl) n_lr 1 x.f4 W gw g _ hc ((wnum x.f4 ho.1 ho.2 _ base gw v bs (hp.alloc _) (by omega)).mono fun e W' ⟨he, hw⟩ => ⟨he, wrote_alloc hw⟩)
 case lt =>
  have hc : W.cell? ⟨g, 7, none⟩ = some (.int .i64 x.f5) := by
   obtain ⟨A11, c11, A12, c12, A16, c16, A17, c17, A18, c18, A19, c19, rfl, l11, g11, l12, g12, l16, g16, l17, g17, l18, g18, l19, g19⟩ := k34_open hk
   exact blk_cell hbx 7
  exact write_num _ 7 (fun _ _ => by kernel_rfl) n_lt 0 x.f5 W gw g _ hc ((wnum x.f5 ho.1 ho.2 _ base gw v bs (hp.alloc _) (by omega)).mono fun e W' ⟨he, hw⟩ => ⟨he, wrote_alloc hw⟩)
 case lf =>
  have hc : W.cell? ⟨g, 8, none⟩ = some (.int .i64 x.f6) := by
   obtain ⟨A11, c11, A12, c12, A16, c16, A17, c17, A18, c18, A19, c19, rfl, l11, g11, l12, g12, l16, g16, l17, g17, l18, g18, l19, g19⟩ := k34_open hk
   exact blk_cell hbx 8
  exact write_num _ 8 (fun _ _ => by kernel_rfl) n_lf 0 x.f6 W gw g _ hc ((wnum x.f6 ho.1 ho.2 _ base gw v bs (hp.alloc _) (by omega)).mono fun e W' ⟨he, hw⟩ => ⟨he, wrote_alloc hw⟩)
 case lm =>
  have hc : W.cell? ⟨g, 9, none⟩ = some (.int .i64 x.f7) := by
   obtain ⟨A11, c11, A12, c12, A16, c16, A17, c17, A18, c18, A19, c19, rfl, l11, g11, l12, g12, l16, g16, l17, g17, l18, g18, l19, g19⟩ := k34_open hk
   exact blk_cell hbx 9
  exact write_num _ 9 (fun _ _ => by kernel_rfl) n_lm 0 x.f7 W gw g _ hc ((wnum x.f7 ho.1 ho.2 _ base gw v bs (hp.alloc _) (by omega)).mono fun e W' ⟨he, hw⟩ => ⟨he, wrote_alloc hw⟩)
 case uW => exact write_put _ (fun _ _ => by kernel_rfl) _ _ _ W gw g _ ((pc_uW w0 _ g gw x cs hk (below_step hb (below_alloc (Below.refl _ _) _)) (blk_below (below_alloc (Below.refl _ _) _) hbx) ho base v bs hbase hgb (hp.alloc _) hl).mono fun e W' ⟨he, hw⟩ => ⟨he, wrote_alloc hw⟩)
 case lw => exact write_put _ (fun _ _ => by kernel_rfl) _ _ _ W gw g _ ((pc_uW w0 _ g gw x cs hk (below_step hb (below_alloc (Below.refl _ _) _)) (blk_below (below_alloc (Below.refl _ _) _) hbx) ho base v bs hbase hgb (hp.alloc _) hl).mono fun e W' ⟨he, hw⟩ => ⟨he, wrote_alloc hw⟩)
 case ld => exact write_put _ (fun _ _ => by kernel_rfl) _ _ _ W gw g _ ((pc_uW w0 _ g gw x cs hk (below_step hb (below_alloc (Below.refl _ _) _)) (blk_below (below_alloc (Below.refl _ _) _) hbx) ho base v bs hbase hgb (hp.alloc _) hl).mono fun e W' ⟨he, hw⟩ => ⟨he, wrote_alloc hw⟩)
 case uD => exact write_put _ (fun _ _ => by kernel_rfl) _ _ _ W gw g _ ((pc_uW w0 _ g gw x cs hk (below_step hb (below_alloc (Below.refl _ _) _)) (blk_below (below_alloc (Below.refl _ _) _) hbx) ho base v bs hbase hgb (hp.alloc _) hl).mono fun e W' ⟨he, hw⟩ => ⟨he, wrote_alloc hw⟩)
 case le => exact write_put _ (fun _ _ => by kernel_rfl) _ _ _ W gw g _ ((pc_le w0 _ g gw x cs hk (below_step hb (below_alloc (Below.refl _ _) _)) (blk_below (below_alloc (Below.refl _ _) _) hbx) ho base v bs hbase hgb (hp.alloc _) hl).mono fun e W' ⟨he, hw⟩ => ⟨he, wrote_alloc hw⟩)
 case lv => exact write_put _ (fun _ _ => by kernel_rfl) _ _ _ W gw g _ ((pc_lv w0 _ g gw x cs hk (below_step hb (below_alloc (Below.refl _ _) _)) (blk_below (below_alloc (Below.refl _ _) _) hbx) ho base v bs hbase hgb (hp.alloc _) hl).mono fun e W' ⟨he, hw⟩ => ⟨he, wrote_alloc hw⟩)
 case ly => exact write_put _ (fun _ _ => by kernel_rfl) _ _ _ W gw g _ ((pc_ly w0 _ g gw x cs hk (below_step hb (below_alloc (Below.refl _ _) _)) (blk_below (below_alloc (Below.refl _ _) _) hbx) ho base v bs hbase hgb (hp.alloc _) hl).mono fun e W' ⟨he, hw⟩ => ⟨he, wrote_alloc hw⟩)
 case la => exact write_put _ (fun _ _ => by kernel_rfl) _ _ _ W gw g _ ((pc_la w0 _ g gw x cs hk (below_step hb (below_alloc (Below.refl _ _) _)) (blk_below (below_alloc (Below.refl _ _) _) hbx) ho base v bs hbase hgb (hp.alloc _) hl).mono fun e W' ⟨he, hw⟩ => ⟨he, wrote_alloc hw⟩)
 case lo => exact write_put _ (fun _ _ => by kernel_rfl) _ _ _ W gw g _ ((pc_lo w0 _ g gw x cs hk (below_step hb (below_alloc (Below.refl _ _) _)) (blk_below (below_alloc (Below.refl _ _) _) hbx) ho base v bs hbase hgb (hp.alloc _) hl).mono fun e W' ⟨he, hw⟩ => ⟨he, wrote_alloc hw⟩)
 case uE => exact write_put _ (fun _ _ => by kernel_rfl) _ _ _ W gw g _ ((pc_uE w0 _ g gw x cs hk (below_step hb (below_alloc (Below.refl _ _) _)) (blk_below (below_alloc (Below.refl _ _) _) hbx) ho base v bs hbase hgb (hp.alloc _) hl).mono fun e W' ⟨he, hw⟩ => ⟨he, wrote_alloc hw⟩)
 case uI => exact write_put _ (fun _ _ => by kernel_rfl) _ _ _ W gw g _ ((pc_uI w0 _ g gw x cs hk (below_step hb (below_alloc (Below.refl _ _) _)) (blk_below (below_alloc (Below.refl _ _) _) hbx) ho base v bs hbase hgb (hp.alloc _) hl).mono fun e W' ⟨he, hw⟩ => ⟨he, wrote_alloc hw⟩)
 case uP => exact write_put _ (fun _ _ => by kernel_rfl) _ _ _ W gw g _ ((pc_uP w0 _ g gw x cs hk (below_step hb (below_alloc (Below.refl _ _) _)) (blk_below (below_alloc (Below.refl _ _) _) hbx) ho base v bs hbase hgb (hp.alloc _) hl).mono fun e W' ⟨he, hw⟩ => ⟨he, wrote_alloc hw⟩)
end Go.Proofs.YtmneemhplffemaaGreatDoorRR.Tab
namespace Go.Proofs.YtmneemhplffemaaGreatDoorRR.Tab
open Go.RowKit Go.Proofs.YtmneemhplffemaaGreatDoorRR.Ord Go.Proofs.YtmneemhplffemaaGreatDoorRR.Name Go.Proofs.YtmneemhplffemaaGreatDoorRR.Ext Go.Proofs.YtmneemhplffemaaGreatDoorRR.Wire Go.Proofs.YtmneemhplffemaaGreatDoorRR.Mem Go.Proofs.YtmneemhplffemaaGreatDoorRR.Put Go.Proofs.YtmneemhplffemaaGreatDoorRR.Law Go.Proofs.YtmneemhplffemaaGreatDoorRR.Row Go.Proofs.YtmneemhplffemaaGreatDoorRR.Ki Go.Proofs.YtmneemhplffemaaGreatDoorRR.Chk Go.Proofs.YtmneemhplffemaaGreatDoorRR.May Go.Proofs.YtmneemhplffemaaGreatDoorRRW.PrintWords


theorem Pend.quiet {T : Nat} {W0 W W1 : World} {base g : Nat} {v0 v : Value} {bs : List Int} {B : Nat → Obj → Prop} (h : Pend T W0 W base g v0 v bs B) (hb : Below W.heap.size W W1) : Pend T W0 W1 base g v0 v bs B :=
 ⟨h.pen.below hb, h.mov.step hb, h.keep, fun k o hk => ⟨blk_below hb (h.box k o hk).1, (h.box k o hk).2⟩⟩
theorem R_pens {α : Type} {d : Kd α} {e T : Nat} {w w1 : World} {base b g : Nat} {u v : Value} {xs : List α} {bs : List Int} (h : d.R e w base (fun _ => True) u xs) (hp : Pen T w b g v bs) (ht : ∀ q, q ∈ e :: d.E → q ≠ T) (hu : ∀ q, q ∈ e :: d.E → q ≠ 5) (hm : Moved w w1 (pens g v)) : d.R e w1 base (fun _ => True) u xs := by
 have h1 := Kd.R_types h hp.blk ht
 cases hv : v.ownBlock with
 | none => exact Kd.R_mono (Kd.R_step h1 (fun k hk hl => hm.block k hl (fun hs => hs.elim hk.2 (fun h => by rw [hv] at h; cases h)))) (fun _ _ => trivial)
 | some j =>
   obtain ⟨cells, hc⟩ := own_typed hp.own j hv
   exact Kd.R_mono (Kd.R_step (Kd.R_types h1 hc hu) (fun k hk hl => hm.block k hl (fun hs => hs.elim hk.1.2 (fun h => hk.2 (by rw [hv] at h; exact (Option.some.inj h).symm))))) (fun _ _ => trivial)
theorem flat_len {x : Note} : ∀ {w : List Ltr}, (∀ l ∈ w, (encF l x).length ≤ 10000000) → (w.flatMap (fun l => encF l x)).length ≤ w.length * 10000000
 | [], _ => by simp
 | l :: w, h => by
   have h1 := h l List.mem_cons_self
   have h2 := flat_len (w := w) (fun l hl => h l (List.mem_cons_of_mem _ hl))
   rw [List.flatMap_cons, List.length_append, List.length_cons]
   omega
theorem enc_len {l : Ltr} {x : Note} (h : OkL l x) : (encF l x).length ≤ 10000000 := by
 have e0 := num_le x.f1.f0
 have e1 := num_le x.f1.f1
 have e2 := num_le x.f1.f2
 cases l
 case ln => exact Nat.le_trans (num_le _) (by omega)
 case ls => exact Nat.le_trans (num_le _) (by omega)
 case lc => exact Nat.le_trans (num_le _) (by omega)
 case lr => exact Nat.le_trans (num_le _) (by omega)
 case lt => exact Nat.le_trans (num_le _) (by omega)
 case lf => exact Nat.le_trans (num_le _) (by omega)
 case lm => exact Nat.le_trans (num_le _) (by omega)
 case le => exact Nat.le_trans (num_le _) (by omega)
 case lv => simp only [encF, List.length_append]; omega
 case la => have h1 := txt_le x.f15; have h2 : x.f15.size ≤ 262144 := h; simp only [encF]; omega
 case ly => have h1 := len_Reply x.f11 h; simp only [encF]; omega
 case uW => have h1 := list_le len_Watch h.2; have h2 := h.1; simp only [encF]; omega
 case lw => have h1 := list_le len_Watch h.2; have h2 := h.1; simp only [encF]; omega
 case ld => have h1 := list_le len_Watch h.2; have h2 := h.1; simp only [encF]; omega
 case uD => have h1 := list_le len_Watch h.2; have h2 := h.1; simp only [encF]; omega
 case lo => have h1 := list_le len_Op h.2; have h2 := h.1; simp only [encF]; omega
 case uE => have h1 := list_le len_Entry h.2; have h2 := h.1; simp only [encF]; omega
 case uI => have h1 := list_le len_Item (fun y hy => (h.2 y hy).ok); have h2 := h.1; simp only [encF]; omega
 case uP => have h1 := list_le len_Part h.2; have h2 := h.1; simp only [encF]; omega
set_option maxRecDepth 100000 in
set_option maxHeartbeats 8000000 in
theorem c_encodeP (w0 W : World) (x : Note) (cs : List Value) (hk : k34.K w0 x cs) (hb : Below w0.heap.size w0 W) (HE : EnvN w0) (hz : Sane x) :
   Calls Tryz.prog 21 #[.agg cs.toArray] W fun e W' => Below W.heap.size W W' ∧ (mCheck x = false → e = .returned (.tuple #[.slice none 0 0, .int .i64 30])) ∧ (mCheck x = true → ∃ v, e = .returned (.tuple #[v, .int .i64 0]) ∧ BRow W' W.heap.size v (encNote x)) := by
 have HK := Aside0.mk hk
 have HE := Aside0.mk HE
 have HZ := Aside0.mk hz
 have HA0 := Aside0.mk hb
 have HSZ := Aside0.mk (cs_size hk)
 have hn0 : cs.toArray[0]? = some (.int .i64 x.f0) := by
   obtain ⟨A11, c11, A12, c12, A16, c16, A17, c17, A18, c18, A19, c19, rfl, l11, g11, l12, g12, l16, g16, l17, g17, l18, g18, l19, g19⟩ := k34_open hk
   rfl
 clear hk hz hb
 go_enter Tryz.func21, Tryz.ntmps21
 go_upto_region 1 with ((with_reducible refine gate_box (t := 34) rfl ?_); refine box_row rfl rfl rfl ?_; intro gb hgb w1 hbx hb1; have HBX := Aside0.mk hbx; have HB1 := Aside0.mk hb1; have HGB := Aside0.mk hgb; clear hbx hb1 hgb)
 cases hm : mCheck x with
 | false =>
   go_wp2_with (first | ((with_reducible refine gate_load (t := 34) rfl ?_); refine load_row rfl rfl Tryz.underlying34 rfl HBX.out rfl HSZ.out ?_) | (go_at_call 17; have hch := c_checkP w0 _ x cs HK.out (below_step HA0.out HB1.out) HE.out HZ.out; rw [hm] at hch; (with_reducible refine hch.mono ?_); clear hch; rintro e w2 ⟨rfl, hb2⟩; have HB2 := Aside0.mk (below_step HB1.out hb2); have HG2 := Aside0.mk (blk_below hb2 HBX.out); clear hb2))
   go_ret2
   exact ⟨HB2.out, (fun _ => rfl), fun h => (by rw [hm] at h; cases h)⟩
 | true =>
   have hck := checked hm
   have HCK := Aside0.mk hck
   obtain ⟨k, hkx⟩ := Int.eq_ofNat_of_zero_le (show 0 ≤ x.f0 by have := hck.lo; omega)
   have HKX := Aside0.mk hkx
   have hk25 : k < 25 := by have := hck.hi; omega
   have hcr := hck.right
   clear hck hkx hcr
   go_upto_region 5 with (first | ((with_reducible refine gate_load (t := 34) rfl ?_); refine load_row rfl rfl Tryz.underlying34 rfl HBX.out rfl HSZ.out ?_) | (go_at_call 17; have hch := c_checkP w0 _ x cs HK.out (below_step HA0.out HB1.out) HE.out HZ.out; rw [hm] at hch; (with_reducible refine hch.mono ?_); clear hch; rintro e w2 ⟨rfl, hb2⟩; have HB2 := Aside0.mk (below_step HB1.out hb2); have HG2 := Aside0.mk (blk_below hb2 HBX.out); clear hb2))
   have n_0 := (blk_cell HG2.out 0).trans hn0
   rw [HKX.out] at n_0
   have hP0 : Pen 127 (w2.alloc (Obj.cells #[.slice none 0 0] 127 (0, 0))) w2.heap.size w2.heap.size (.slice none 0 0) [] := ⟨blk_alloc _, Kd.own_of_R (Kd.R_nil (Kd.int .u8) _ _ _ (fun _ => True)), Nat.le_refl _, by decide⟩
   have hbW := below_alloc (Below.refl w2.heap.size w2) (Obj.cells #[.slice none 0 0] 127 (0, 0))
   have HS0 : Aside0 (Pend 127 (w2.alloc (Obj.cells #[.slice none 0 0] 127 (0, 0))) (w2.alloc (Obj.cells #[.slice none 0 0] 127 (0, 0))) w2.heap.size w2.heap.size (.slice none 0 0) (.slice none 0 0) [] (fun j o => j = gb ∧ o = Obj.cells cs.toArray 34 (0, 0))) := ⟨⟨hP0, Moved.refl _ _, fun _ hs => .inl hs, fun j o h => by obtain ⟨rfl, rfl⟩ := h; exact ⟨blk_below hbW HG2.out, fun hs => by have h1 := hP0.base_le _ hs; have h2 := blk_lt HG2.out; omega⟩⟩⟩
   have HP0 := Aside0.mk hP0
   have HGL := Aside0.mk (blk_lt HG2.out)
   have HBW := Aside0.mk (below_step HB2.out hbW)
   have HAW := Aside0.mk (below_step HA0.out HBW.out)
   have HLE := Aside0.mk (Nat.le_trans HA0.out.size HB2.out.size)
   replace n_0 := pw_cell_below hbW n_0
   have e0 := num_le (k : Int)
   have HNK : isN (k : Int) := ⟨by omega, by omega⟩
   have hfd : ∀ (A : Option Addr) (n c : Nat) (b : Value) (w : World), (Instr.field 102 (.agg #[.slice A n c, b]) 0).run Tryz.prog w = .ok (.slice A n c) w := fun _ _ _ _ _ => rfl
   have hn0' := hn0
   clear hP0 hbW hn0
   go_upto_region 7 with (first | (go_at_call 61; (with_reducible refine (Pend.num HS0.out (k : Int) HNK (by decide)).mono ?_); rintro e w3 ⟨rfl, v3, hs3⟩; have HS3 := Aside0.mk hs3; have HA3 := Aside0.mk (hs3.above HP0.out HAW.out HLE.out); replace n_0 := ((blk_cell (hs3.box gb _ ⟨rfl, rfl⟩).1 0).trans hn0').trans (by rw [HKX.out]); clear hs3) | (go_at_call 41; (with_reducible refine (t_shape k hk25 _ (HE.out.at_ HA3.out)).mono ?_); rintro e w4 ⟨hb4, v, rfl, ho⟩; obtain ⟨mf, hmf⟩ : ∃ mf, mf = (if k = 13 then (.func (.func 90) #[] #[] : Value) else .nilFunc) := ⟨_, rfl⟩; rw [← hmf]; clear hmf; obtain ⟨A, c, rfl⟩ := Kd.R_slice ho; have HO4 := Aside0.mk ho; have HS4 := Aside0.mk (Pend.quiet HS3.out hb4); clear hb4 ho))
   have hwl : (word k).length ≤ 6 := word_len k hk25
   have HOKL : Aside0 (∀ l ∈ word k, OkL l x) := ⟨by have h := HCK.out.ok; rw [HKX.out, Int.toNat_natCast] at h; exact h⟩
   have HFL : Aside0 (∀ i, (((word k).take i).flatMap (fun l => encF l x)).length ≤ 60000000) := ⟨fun i => by
    have h := flat_len (x := x) (w := (word k).take i) (fun l hl => enc_len (HOKL.out l (List.mem_of_mem_take hl)))
    have h2 : ((word k).take i).length ≤ 6 := Nat.le_trans (List.length_take_le' _ _) hwl
    have h3 := Nat.mul_le_mul_right 10000000 h2
    omega⟩
   go_loopw [24] (fun vi wr => ∃ i : Nat, vi = .int .i64 i ∧ i ≤ (word k).length ∧ ∃ v' : Value, Aside0 (Pend 127 (w2.alloc (Obj.cells #[.slice none 0 0] 127 (0, 0))) wr w2.heap.size w2.heap.size (.slice none 0 0) v' (encNum (k : Int) ++ ((word k).take i).flatMap (fun l => encF l x)) (fun j o => j = gb ∧ o = Obj.cells cs.toArray 34 (0, 0))) ∧ Aside0 (kField.R 109 wr w3.heap.size (fun _ => True) (.slice A (word k).length c) (word k))) (fun vi _ => (word k).length - (intOf vi).toNat)
   case atStart => exact ⟨0, rfl, Nat.zero_le _, _, ⟨by simpa using HS4.out⟩, HO4⟩
   case round =>
    clear HS4 HO4
    obtain ⟨i, rfl, hi, v', HS, HO⟩ := hrel
    obtain ⟨wo, rfl⟩ : ∃ wo : World, wo = wr := ⟨_, rfl⟩
    by_cases hlt : i < (word k).length
    · obtain ⟨l, hl⟩ : ∃ l, (word k)[i]? = some l := ⟨_, List.getElem?_eq_getElem hlt⟩
      have HLT := Aside0.mk hl
      obtain ⟨q0, q1, q2, q3, q4, q5, hq⟩ := fCells_open l
      have HQ := Aside0.mk hq
      obtain ⟨ad, rfl, a_0, a_1, a_2, a_3, a_4, a_5⟩ := at_field (Kd.R_reads' HO.out).2.2 i l hl hq
      have hfl := HFL.out i
      clear hl hq
      go_wp2_with (first | ((with_reducible refine gate_store2 (t := 109) rfl ?_); refine store_row (old := #[.int .i64 0, .nilFunc, .nilFunc, .nilFunc, .nilFunc, .nilFunc]) (cs := #[q0, q1, q2, q3, q4, q5]) rfl rfl rfl (blk_alloc _) rfl rfl infoField rfl (q_one HQ.out) ?_; intro w5 hm5 hx5; have HF := Aside0.mk hx5; have HS5 := Aside0.mk (Pend.quiet HS.out (Moved.above_ hm5 (Nat.le_refl _))); have HO5 := Aside0.mk (Kd.R_below HO.out (Moved.above_ hm5 (Nat.le_refl _))); clear hm5 hx5 a_0 a_1 a_2 a_3 a_4 a_5) | ((with_reducible refine gate_load (t := 109) rfl ?_); refine load_row rfl rfl Tryz.underlying109 rfl HF.out rfl infoField ?_) | (go_at_call 62; have hwi := c_write l w0 _ gb w2.heap.size x cs HK.out (HS5.out.above HP0.out HAW.out HLE.out) (HS5.out.box gb _ ⟨rfl, rfl⟩).1 (HOKL.out l (List.mem_of_getElem? HLT.out)) w2.heap.size v' _ HLE.out HGL.out HS5.out.pen (by simp only [List.length_append]; omega); rw [HQ.out] at hwi; (with_reducible refine hwi.mono ?_); clear hwi; rintro e w7 ⟨rfl, hw7⟩; have HO7 := Aside0.mk (R_pens HO5.out HS5.out.pen (by decide) (by decide) hw7.choose_spec.2.1); obtain ⟨v7, hs7⟩ := HS5.out.step hw7; have HS7 := Aside0.mk hs7; clear hw7 hs7))
      go_roundw
      case rel => exact ⟨i + 1, by go_num, by omega, v7, ⟨by rw [List.take_add_one, HLT.out]; simpa using HS7.out⟩, HO7⟩
      case measure => simp [intOf]; omega
    · have htk : (word k).take i = word k := List.take_of_length_le (by omega)
      rw [htk] at HS
      have hcell := HS.out.pen.cell
      clear htk
      go_wp2_with fail
      go_ret2
      refine ⟨HS.out.mov.above HBW.out (fun j hs => Nat.le_trans HB2.out.size (HP0.out.base_le j hs)), (fun h => (by rw [hm] at h; cases h)), fun _ => ⟨v', rfl, ?_⟩⟩
      have hr := Kd.R_lower (d := Kd.int .u8) (ok := fun _ => True) (Kd.R_of_own HS.out.pen.own (fun _ _ => trivial)) HB2.out.size
      unfold encNote
      rw [HKX.out, Int.toNat_natCast]
      exact hr
end Go.Proofs.YtmneemhplffemaaGreatDoorRR.Tab
namespace Go.Proofs.YtmneemhplffemaaGreatDoorRR.Same
open Go.RowKit Go.Proofs.YtmneemhplffemaaGreatDoorRR.Ext Go.Proofs.YtmneemhplffemaaGreatDoorRR.Wire Go.Proofs.YtmneemhplffemaaGreatDoorRR.Mem Go.Proofs.YtmneemhplffemaaGreatDoorRR.Put Go.Proofs.YtmneemhplffemaaGreatDoorRR.Get Go.Proofs.YtmneemhplffemaaGreatDoorRR.Law Go.Proofs.YtmneemhplffemaaGreatDoorRR.Ki Go.Proofs.YtmneemhplffemaaGreatDoorRRW.PrintWords

theorem drewn {B : Nat} {a w : World} (h : Below B a w) (q : Nat) : Below B a (w.drewN q) := ⟨h.os, h.tape, h.output, h.size, h.block⟩
theorem same_upto {xs ys : List Int} {k : Nat} (h : ∀ j, j < k → xs[j]? = ys[j]?) {x y : Int} (hx : xs[k]? = some x) (hy : ys[k]? = some y) (he : x = y) : ∀ j, j < k + 1 → xs[j]? = ys[j]? := by
 intro j hj
 rcases Nat.lt_or_ge j k with h1 | h1
 · exact h j h1
 · obtain rfl : j = k := by omega
   rw [hx, hy, he]
theorem same_all {xs ys : List Int} {k : Nat} (h : ∀ j, j < k → xs[j]? = ys[j]?) (hl : xs.length = ys.length) (hk : xs.length ≤ k) : xs = ys := by
 refine List.ext_getElem? (fun j => ?_)
 rcases Nat.lt_or_ge j k with h1 | h1
 · exact h j h1
 · rw [List.getElem?_eq_none (by omega), List.getElem?_eq_none (by omega)]
set_option maxRecDepth 100000 in
set_option maxHeartbeats 1000000 in
theorem c_bytes (W : World) (A B : Option Addr) (c d : Nat) (xs ys : List Int) (hA : (Kd.int .u8).C W A xs.length xs) (hB : (Kd.int .u8).C W B ys.length ys) :
   Calls Tryz.prog 23 #[.slice A xs.length c, .slice B ys.length d] W fun e W' => e = .returned (.bool (decide (xs = ys))) ∧ Below W.heap.size W W' := by
 have HA := Aside0.mk hA
 have HB := Aside0.mk hB
 have hm : xs.length ≤ 9223372036854775807 := hA.2.1
 have hm2 : ys.length ≤ 9223372036854775807 := hB.2.1
 clear hA hB
 go_enter Tryz.func23, Tryz.ntmps23
 by_cases hl : xs.length = ys.length
 · have HL := Aside0.mk hl
   have h0 : ((xs.length : Int) != (ys.length : Int)) = false := by simp [hl]
   have h0' : ((xs.length : Int) == (ys.length : Int)) = true := by simp [hl]
   clear hl
   go_wp2_with fail
   go_loopw [5] (fun v W1 => ∃ k : Nat, v = .int .i64 k ∧ k ≤ xs.length ∧ Aside0 (∀ j, j < k → xs[j]? = ys[j]?) ∧ Aside0 (Below W.heap.size W W1)) (fun v _ => xs.length - (intOf v).toNat)
   case atStart => exact ⟨0, rfl, Nat.zero_le _, ⟨fun j hj => by omega⟩, ⟨Below.refl _ _⟩⟩
   case round =>
    obtain ⟨k, rfl, hk, HS, HBW⟩ := hrel
    by_cases hlt : k < xs.length
    · have hl2 := HL.out
      obtain ⟨x, hx⟩ : ∃ x, xs[k]? = some x := ⟨_, List.getElem?_eq_getElem hlt⟩
      obtain ⟨y, hy⟩ : ∃ y, ys[k]? = some y := ⟨_, List.getElem?_eq_getElem (by omega)⟩
      obtain ⟨ad, rfl, a0⟩ := Kd.at_int (Kd.C_below HA.out HBW.out) (k : Int) (by omega) (by omega)
      obtain ⟨bd, rfl, b0⟩ := Kd.at_int (Kd.C_below HB.out HBW.out) (k : Int) (by omega) (by omega)
      rw [show rd xs (k : Int) = x by unfold rd; rw [Int.toNat_natCast, List.getD_eq_getElem?_getD, hx]; rfl, Int.toNat_natCast] at a0
      rw [show rd ys (k : Int) = y by unfold rd; rw [Int.toNat_natCast, List.getD_eq_getElem?_getD, hy]; rfl, Int.toNat_natCast] at b0
      have HX := Aside0.mk hx
      have HY := Aside0.mk hy
      have hky : k < ys.length := by omega
      clear hx hy hl2
      cases h1 : (x == y) with
      | true =>
        have h2 : (x != y) = false := by simp [bne, h1]
        have HE := Aside0.mk (eq_of_beq h1)
        go_wp2_with (go_quiet (fail))
        go_roundw
        case rel => exact ⟨k + 1, by go_num, by omega, ⟨same_upto HS.out HX.out HY.out HE.out⟩, ⟨drewn HBW.out nq⟩⟩
        case measure => simp [intOf]; omega
      | false =>
        have h2 : (x != y) = true := by simp [bne, h1]
        have HE := Aside0.mk (show xs ≠ ys from fun he => by have h3 := HX.out; rw [he, HY.out] at h3; have h4 := Option.some.inj h3; rw [h4] at h1; simp at h1)
        go_wp2_with (go_quiet (fail))
        go_ret
        exact ⟨by rw [decide_eq_false HE.out]; rfl, drewn HBW.out nq⟩
    · go_wp2_with fail
      go_ret
      exact ⟨by rw [decide_eq_true (same_all HS.out HL.out (by omega))]; rfl, HBW.out⟩
 · have HE := Aside0.mk (show xs ≠ ys from fun he => hl (by rw [he]))
   have h0 : ((xs.length : Int) != (ys.length : Int)) = true := by simp; omega
   have h0' : ((xs.length : Int) == (ys.length : Int)) = false := by simp; omega
   go_wp2_with fail
   go_ret
   exact ⟨by rw [decide_eq_false HE.out]; rfl, Below.refl _ _⟩
end Go.Proofs.YtmneemhplffemaaGreatDoorRR.Same
namespace Go.Proofs.YtmneemhplffemaaGreatDoorRR.Same
open Go.RowKit Go.Proofs.YtmneemhplffemaaGreatDoorRR.Ord Go.Proofs.YtmneemhplffemaaGreatDoorRR.Name Go.Proofs.YtmneemhplffemaaGreatDoorRR.Ext Go.Proofs.YtmneemhplffemaaGreatDoorRR.Wire Go.Proofs.YtmneemhplffemaaGreatDoorRR.Mem Go.Proofs.YtmneemhplffemaaGreatDoorRR.Put Go.Proofs.YtmneemhplffemaaGreatDoorRR.Get Go.Proofs.YtmneemhplffemaaGreatDoorRR.Law Go.Proofs.YtmneemhplffemaaGreatDoorRR.Row Go.Proofs.YtmneemhplffemaaGreatDoorRR.Ki Go.Proofs.YtmneemhplffemaaGreatDoorRR.Chk Go.Proofs.YtmneemhplffemaaGreatDoorRR.May Go.Proofs.YtmneemhplffemaaGreatDoorRR.Tab Go.Proofs.YtmneemhplffemaaGreatDoorRRW.PrintWords


theorem lit_R {α : Type} (d : Kd α) (W : World) (e : Nat) (xs : List α) (inner : List Value) (hrep : Reps (d.M W W.heap.size (fun _ => True)) d.sz xs inner) (hm : xs.length ≤ 9223372036854775807) :
   d.R e (W.alloc (.cells inner.toArray e)) W.heap.size (fun _ => True) (.slice (some ⟨W.heap.size, 0, none⟩) xs.length xs.length) xs := by
 refine ⟨fun _ _ => trivial, inner, ?_, ?_⟩
 · have h2 := World.ownsRow_lit (base := W.heap.size) (e := e) (size := d.sz) W inner.toArray xs.length (Nat.le_refl _) (by simpa [maxLen] using hm) (by simpa using hrep.1)
   simpa using h2
 · refine hrep.imp_ (fun p c hp => d.M_mono (fun k hk => ⟨trivial, fun he => ?_⟩) (Kd.M_below (d.M_bound hp) (below_alloc (Below.refl _ _) _)))
   have h3 : k = W.heap.size := by simpa [Value.ownBlock] using he
   have := hk.2.2.1
   omega
def opA : S78 := ⟨2, ⟨#[47, 97]⟩, ⟨#[120]⟩, -1, 0⟩
def noteA : Note := { zeroNote 2 with f2 := 1, f4 := 2, f9 := [opA] }
def noteB : Note := { zeroNote 22 with f1 := ⟨3, 2, 1⟩ }
theorem okA : mCheck noteA = true := by kernel_rfl
theorem encA : encNote noteA = [2, 1, 2, 1, 2, 2, 47, 97, 1, 120, 0, 0] := by kernel_rfl
theorem okB : mCheck noteB = true := by kernel_rfl
theorem decB : dNote [22, 3, 2, 1] = some noteB := by kernel_rfl
theorem okC : mCheck (zeroNote 1) = false := by kernel_rfl
theorem saneA : Sane noteA := ⟨(fun r hr => absurd hr (by simp [noteA, zeroNote])), by simp [noteA], Nat.zero_le _, Nat.zero_le _, Nat.zero_le _, Nat.zero_le _, Nat.zero_le _⟩
theorem opsA (W : World) : Reps (k78.M W W.heap.size (fun _ => True)) k78.sz [opA] [.int .i64 2, .string ⟨#[47, 97]⟩, .string ⟨#[120]⟩, .int .i64 (-1), .int .i64 0] := by
 refine ⟨rfl, fun j p h => ?_⟩
 match j, h with
 | 0, h =>
   simp only [List.getElem?_cons_zero, Option.some.injEq] at h
   subst h
   exact k78_mkM W W.heap.size _ opA
 | j + 1, h => simp at h
theorem bytesLit (W : World) (xs : List Int) : Reps ((Kd.int .u8).M W W.heap.size (fun _ => True)) (Kd.int .u8).sz xs (xs.map (Value.int .u8)) := by
 refine ⟨by rw [List.length_map]; exact (Nat.mul_one _).symm, fun j p h => ?_⟩
 obtain ⟨hj, hp⟩ := List.getElem?_eq_some_iff.1 h
 have e : (((xs.map (Value.int .u8)).drop (j * 1)).take 1) = [Value.int .u8 p] := by
  rw [Nat.mul_one, List.drop_eq_getElem_cons (by rw [List.length_map]; exact hj), List.take_succ_cons, List.take_zero, List.getElem_map, hp]
 exact e
theorem litA (W : World) : BRow (W.alloc (.cells #[.int .u8 2, .int .u8 1, .int .u8 2, .int .u8 1, .int .u8 2, .int .u8 2, .int .u8 47, .int .u8 97, .int .u8 1, .int .u8 120, .int .u8 0, .int .u8 0] 5)) W.heap.size (.slice (some ⟨W.heap.size, 0, none⟩) 12 12) [2, 1, 2, 1, 2, 2, 47, 97, 1, 120, 0, 0] :=
 lit_R (Kd.int .u8) W 5 [2, 1, 2, 1, 2, 2, 47, 97, 1, 120, 0, 0] _ (bytesLit W _) (by decide)
theorem litB (W : World) : BRow (W.alloc (.cells #[.int .u8 22, .int .u8 3, .int .u8 2, .int .u8 1] 5)) W.heap.size (.slice (some ⟨W.heap.size, 0, none⟩) 4 4) [22, 3, 2, 1] :=
 lit_R (Kd.int .u8) W 5 [22, 3, 2, 1] _ (bytesLit W _) (by decide)
theorem keyA (W : World) : k34.M (W.alloc (.cells #[.int .i64 2, .string ⟨#[47, 97]⟩, .string ⟨#[120]⟩, .int .i64 (-1), .int .i64 0] 78)) W.heap.size (fun _ => True) noteA [.int .i64 2, .int .i64 0, .int .i64 0, .int .i64 0, .int .i64 1, .int .i64 0, .int .i64 2, .int .i64 0, .int .i64 0, .int .i64 0, .int .i64 0, .slice (some ⟨W.heap.size, 0, none⟩) 1 1, .slice none 0 0, .int .i64 0, .int .i64 0, .int .i64 0, .slice none 0 0, .slice none 0 0, .slice none 0 0, .slice none 0 0, .string ⟨#[]⟩] :=
 k34_mkM _ _ _ noteA (Kd.R_mono (lit_R k78 W 78 [opA] _ (opsA W) (by decide)) (fun _ _ => trivial)) (Kd.R_nil _ _ _ _ _) (Kd.R_nil _ _ _ _ _) (Kd.R_nil _ _ _ _ _) (Kd.R_nil _ _ _ _ _) (Kd.R_nil _ _ _ _ _)
set_option maxRecDepth 100000 in
set_option maxHeartbeats 8000000 in
theorem c_begins (W : World) (HE : EnvN W) : Calls Tryz.prog 15 #[] W fun e W' => e = .returned (.bool true) ∧ Below W.heap.size W W' := by
 have HE := Aside0.mk HE
 have HKA := Aside0.mk (keyA W)
 go_enter Tryz.func15, Tryz.ntmps15
 have HMA := Aside0.mk okA
 have hbA := below_alloc (Below.refl W.heap.size W) (Obj.cells #[.int .i64 2, .string ⟨#[47, 97]⟩, .string ⟨#[120]⟩, .int .i64 (-1), .int .i64 0] 78 (0, 0))
 have HBA := Aside0.mk hbA
 have hea := c_encodeP _ _ noteA _ (k34.K_of_M HKA.out) (Below.refl _ _) (HE.out.at_ hbA) saneA
 have HEA := Aside0.mk hea
 clear hbA hea
 go_upto_region 2 with (go_at_call 21; (with_reducible refine HEA.out.mono ?_); rintro e w2 ⟨hb2, _, hok⟩; obtain ⟨va, rfl, hva⟩ := hok okA; rw [encA] at hva; obtain ⟨A, c, hea⟩ := Kd.R_slice hva; rw [show ([2, 1, 2, 1, 2, 2, 47, 97, 1, 120, 0, 0] : List Int).length = 12 from rfl] at hea; subst hea; have HVA := Aside0.mk hva; have HB2 := Aside0.mk (below_step HBA.out hb2); clear hok hb2 hva)
 clear HEA HKA HBA HMA
 have hb3 := below_alloc (Below.refl w2.heap.size w2) (Obj.cells #[.int .u8 22, .int .u8 3, .int .u8 2, .int .u8 1] 5 (0, 0))
 have HB3 := Aside0.mk (below_step HB2.out hb3)
 have HV3 := Aside0.mk (Kd.R_below HVA.out hb3)
 have hdd : Get.Data (w2.alloc (Obj.cells #[.int .u8 22, .int .u8 3, .int .u8 2, .int .u8 1] 5 (0, 0))) (some ⟨w2.heap.size, 0, none⟩) 4 [22, 3, 2, 1] := ⟨(Kd.R_reads' (litB w2)).2.2, (by intro b hb; simp at hb; omega), by decide, by decide⟩
 have hed := c_decodeP _ _ _ 4 [22, 3, 2, 1] hdd (Below.refl _ _) (HE.out.at_ HB3.out)
 rw [show ([22, 3, 2, 1] : List Int).length = 4 from rfl] at hed
 have HED := Aside0.mk hed
 clear hb3 hdd hed
 go_upto_region 3 with (first | (go_at_call 24; (with_reducible refine HED.out.mono ?_); rintro e w4 ⟨hb4, _, hok, _⟩; obtain ⟨cs, hM, rfl⟩ := hok (by decide) noteB decB okB; have HM4 := Aside0.mk hM; have HV4 := Aside0.mk (Kd.R_below HV3.out hb4); have HB4 := Aside0.mk (below_step HB3.out hb4); have HK4 := Aside0.mk (k34.K_of_M hM); have HSZ := Aside0.mk (cs_size HK4.out); clear hok hb4 hM) | ((with_reducible refine gate_store2 (t := 34) rfl ?_); refine store_row (old := zeroCells.toArray) (cs := cs.toArray) rfl rfl rfl (Mem.blk_alloc _) rfl rfl HSZ.out (note_size HK4.out) (note_one HK4.out) ?_; intro w5 hm5 hx5; have HX5 := Aside0.mk hx5; have hb5 := Moved.above_ hm5 (Nat.le_refl _); have HV5 := Aside0.mk (Kd.R_below HV4.out hb5); have HB5 := Aside0.mk (below_step HB4.out hb5); clear hm5 hx5 hb5))
 have hv0 : w5.cell? ⟨w4.heap.size, 0, none⟩ = some (.int .i64 22) ∧ w5.cell? ⟨w4.heap.size, 1, none⟩ = some (.int .i64 3) ∧ w5.cell? ⟨w4.heap.size, 2, none⟩ = some (.int .i64 2) ∧ w5.cell? ⟨w4.heap.size, 3, none⟩ = some (.int .i64 1) := by
  obtain ⟨v11, v12, v16, v17, v18, v19, rfl, _⟩ := k34_openM HM4.out
  exact ⟨blk_cell HX5.out 0, blk_cell HX5.out 1, blk_cell HX5.out 2, blk_cell HX5.out 3⟩
 have HV0 := Aside0.mk hv0
 have hee := c_encodeP w5 w5 (zeroNote 1) [.int .i64 1, .int .i64 0, .int .i64 0, .int .i64 0, .int .i64 0, .int .i64 0, .int .i64 0, .int .i64 0, .int .i64 0, .int .i64 0, .int .i64 0, .slice none 0 0, .slice none 0 0, .int .i64 0, .int .i64 0, .int .i64 0, .slice none 0 0, .slice none 0 0, .slice none 0 0, .slice none 0 0, .string ⟨#[]⟩] (k34.K_of_M (zero_M w5 w5.heap.size 1)) (Below.refl _ _) (HE.out.at_ HB5.out) (sane_zero 1)
 have HEE := Aside0.mk hee
 clear hv0 hee HED HSZ HK4 HM4 HX5 HV4 HB4 HV3 HB3 HB2 HVA
 go_upto_region 4 with (go_loud (go_at_call 21; (with_reducible refine HEE.out.mono ?_); rintro e w6 ⟨hb6, hok, _⟩; obtain rfl := hok okC; have HV6 := Aside0.mk (Kd.R_below HV5.out hb6); have HB6 := Aside0.mk (below_step HB5.out hb6); have hbl := below_alloc (Below.refl w6.heap.size w6) (Obj.cells #[.int .u8 2, .int .u8 1, .int .u8 2, .int .u8 1, .int .u8 2, .int .u8 2, .int .u8 47, .int .u8 97, .int .u8 1, .int .u8 120, .int .u8 0, .int .u8 0] 5 (0, 0)); have HBL := Aside0.mk (below_step HB6.out hbl); have HB67 := Aside0.mk hb6; have HBL7 := Aside0.mk hbl; clear hb6 hbl hok))
 have hn1 := pw_cell_below HBL7.out (pw_cell_below HB67.out HV0.out.1)
 have hn2 := pw_cell_below HBL7.out (pw_cell_below HB67.out HV0.out.2.1)
 have hn3 := pw_cell_below HBL7.out (pw_cell_below HB67.out HV0.out.2.2.1)
 have hn4 := pw_cell_below HBL7.out (pw_cell_below HB67.out HV0.out.2.2.2)
 have hN := Aside0.mk (And.intro hn1 (And.intro hn2 (And.intro hn3 hn4)))
 have hcb : Calls Tryz.prog 23 #[.slice A 12 c, .slice (some ⟨w6.heap.size, 0, none⟩) 12 12] (w6.alloc (Obj.cells #[.int .u8 2, .int .u8 1, .int .u8 2, .int .u8 1, .int .u8 2, .int .u8 2, .int .u8 47, .int .u8 97, .int .u8 1, .int .u8 120, .int .u8 0, .int .u8 0] 5 (0, 0))) fun e W' => e = .returned (.bool (decide (([2, 1, 2, 1, 2, 2, 47, 97, 1, 120, 0, 0] : List Int) = [2, 1, 2, 1, 2, 2, 47, 97, 1, 120, 0, 0]))) ∧ Below _ _ W' :=
  c_bytes _ A _ c 12 [2, 1, 2, 1, 2, 2, 47, 97, 1, 120, 0, 0] [2, 1, 2, 1, 2, 2, 47, 97, 1, 120, 0, 0] (Kd.C_below (Kd.R_reads' HV6.out).2.2 HBL7.out) (Kd.R_reads' (litA w6)).2.2
 rw [decide_eq_true rfl] at hcb
 have HCB := Aside0.mk hcb
 clear hcb HEE HV5 HB5 HV0 HB67 hn1 hn2 hn3 hn4 HBL7 HV6 HB6
 go_wp2_with (go_loud (go_at_call 23; (with_reducible refine HCB.out.mono ?_); rintro e w8 ⟨rfl, hb8⟩; obtain ⟨hm1, hm2, hm3, hm4⟩ := hN.out; have m_1 := pw_cell_below hb8 hm1; have m_2 := pw_cell_below hb8 hm2; have m_3 := pw_cell_below hb8 hm3; have m_4 := pw_cell_below hb8 hm4; have HB8 := Aside0.mk (below_step HBL.out hb8); clear hb8 hm1 hm2 hm3 hm4 hN))
 go_ret
 exact ⟨rfl, HB8.out⟩
end Go.Proofs.YtmneemhplffemaaGreatDoorRR.Same
namespace Go.Proofs.YtmneemhplffemaaGreatDoorRR.Law
open Go.RowKit Go.Proofs.YtmneemhplffemaaGreatDoorRR.Ord Go.Proofs.YtmneemhplffemaaGreatDoorRR.Name Go.Proofs.YtmneemhplffemaaGreatDoorRR.Ext Go.Proofs.YtmneemhplffemaaGreatDoorRR.Wire Go.Proofs.YtmneemhplffemaaGreatDoorRR.Mem Go.Proofs.YtmneemhplffemaaGreatDoorRR.Put Go.Proofs.YtmneemhplffemaaGreatDoorRR.Get Go.Proofs.YtmneemhplffemaaGreatDoorRR.Ki Go.Proofs.YtmneemhplffemaaGreatDoorRR.Chk Go.Proofs.YtmneemhplffemaaGreatDoorRR.May Go.Proofs.YtmneemhplffemaaGreatDoorRRW.PrintWords

def Fine (xs : List Int) (n : Nat) : Prop := xs.length ≤ n ∧ ∀ b ∈ xs, 0 ≤ b ∧ b < 256
theorem Fine.mono {xs : List Int} {n m : Nat} (h : Fine xs n) (hm : n ≤ m) : Fine xs m := ⟨Nat.le_trans h.1 hm, h.2⟩
theorem fine_app {xs ys : List Int} {n m : Nat} (h : Fine xs n) (k : Fine ys m) : Fine (xs ++ ys) (n + m) := by
 refine ⟨?_, fun b hb => ?_⟩
 · rw [List.length_append]
   exact Nat.add_le_add h.1 k.1
 · rcases List.mem_append.1 hb with hb | hb
   · exact h.2 b hb
   · exact k.2 b hb
theorem fine_flat {α : Type} {f : α → List Int} {B : Nat} : ∀ {l : List α} {n : Nat}, l.length ≤ n → (∀ y ∈ l, Fine (f y) B) → Fine (l.flatMap f) (n * B) := by
 intro l
 induction l with
 | nil => intro n _ _; exact ⟨by simp, by simp⟩
 | cons a l ih =>
   intro n hn h
   obtain ⟨m, rfl⟩ : ∃ m, n = m + 1 := ⟨n - 1, by simp at hn; omega⟩
   rw [List.flatMap_cons, Nat.succ_mul, Nat.add_comm]
   exact fine_app (h a List.mem_cons_self) (ih (by simp at hn; omega) (fun y hy => h y (List.mem_cons_of_mem _ hy)))
theorem fine_enc (f : Nat) : ∀ v : Nat, v < 128 ^ (f + 1) → ∀ b ∈ encN f v, 0 ≤ b ∧ b < 256 := by
 induction f with
 | zero =>
   intro v hv b hb
   simp only [encN, List.mem_singleton] at hb
   subst hb
   simp at hv
   omega
 | succ f ih =>
   intro v hv b hb
   unfold encN at hb
   split at hb
   · simp only [List.mem_singleton] at hb
     subst hb
     omega
   · rcases List.mem_cons.1 hb with rfl | hb
     · omega
     · refine ih (v / 128) ?_ b hb
       rw [Nat.pow_succ] at hv
       exact Nat.div_lt_of_lt_mul (by rw [Nat.mul_comm]; exact hv)
theorem fine_num {v : Int} (h : isN v) : Fine (encNum v) 5 := by
 refine ⟨(encNum_len v).2, fine_enc 4 v.toNat ?_⟩
 have h1 := h.1
 have h2 := h.2
 have : (128 : Nat) ^ (4 + 1) = 34359738368 := by decide
 rw [this]
 omega
theorem fine_txt {s : ByteArray} {n : Nat} (h : s.size ≤ n) (hn : n ≤ 2147483647) : Fine (encTxt s) (5 + n) := by
 refine fine_app (fine_num ⟨by omega, by omega⟩) ⟨by rw [bytesOf_length]; exact h, fun b hb => ?_⟩
 simp only [bytesOf, List.mem_map] at hb
 obtain ⟨c, _, rfl⟩ := hb
 have := c.toNat_lt
 omega
theorem fine_list {α : Type} {f : α → List Int} {B n : Nat} {l : List α} (hn : l.length ≤ n) (hm : n ≤ 2147483647) (h : ∀ y ∈ l, Fine (f y) B) : Fine (encList f l) (5 + n * B) :=
 fine_app (fine_num ⟨by omega, by omega⟩) (fine_flat hn h)
theorem fine_op {x : S78} (h : OpOk x) : Fine (encOp x) 542 := by
 obtain ⟨n0, t1, t2, n3, n4⟩ := h
 refine (fine_app (fine_app (fine_app (fine_app (fine_num n0) (fine_txt t1 (by decide))) (fine_txt t2 (by decide))) (m := 10) ?_) (fine_num n4)).mono (by decide)
 split
 · exact (fine_num ⟨by decide, by decide⟩).mono (by decide)
 · rename_i hn
   exact fine_app (fine_num ⟨by decide, by decide⟩) (fine_num (n3.resolve_left hn))
theorem fine_entry {x : S55} (h : EntryOk x) : Fine (encEntry x) 2198 := by
 obtain ⟨n0, n1, n2, n3, n4, m5, l5⟩ := h
 refine (fine_app (fine_flat (n := 5) (B := 5) (Nat.le_refl _) (fun y hy => ?_)) (fine_list m5 (by decide) (fun y hy => fine_op (l5 y hy)))).mono (by decide)
 simp only [List.mem_cons, List.not_mem_nil, or_false] at hy
 rcases hy with rfl | rfl | rfl | rfl | rfl <;> exact fine_num (by assumption)
theorem fine_result {x : S81} (h : ResultOk x) : Fine (encResult x) 17300 := by
 obtain ⟨t0, t1, n2, n3, n4, n5, m6, l6⟩ := h
 refine (fine_app (fine_app (fine_app (fine_txt t0 (by decide)) (fine_txt t1 (by decide))) (fine_flat (n := 4) (B := 5) (Nat.le_refl _) (fun y hy => ?_))) (fine_list m6 (by decide) (fun y hy => fine_txt (l6 y hy) (by decide)))).mono (by decide)
 simp only [List.mem_cons, List.not_mem_nil, or_false] at hy
 rcases hy with rfl | rfl | rfl | rfl <;> exact fine_num (by assumption)
theorem fine_reply {x : S29} (h : ReplyOk x) : Fine (encReply x) 69220 := by
 obtain ⟨n0, n1, n2, m3, l3⟩ := h
 exact (fine_app (fine_app (fine_app (fine_num n0) (fine_num n1)) (fine_num n2)) (fine_list m3 (by decide) (fun y hy => fine_result (l3 y hy)))).mono (by decide)
theorem fine_watch {x : S96} (h : WatchOk x) : Fine (encWatch x) 276 := by
 obtain ⟨n0, n2, n3, t1⟩ := h
 exact (fine_app (fine_app (fine_app (fine_num n0) (fine_txt t1 (by decide))) (fine_num n2)) (fine_num n3)).mono (by decide)
theorem fine_seen {x : S88} (h : mSeen x = true) : Fine (encSeen x) 181 := by
 unfold mSeen at h
 simp only [Bool.and_eq_true, decide_eq_true_eq] at h
 obtain ⟨⟨h0, h1⟩, h2⟩ := h
 exact (fine_app (fine_app (fine_txt (is_size h0) (by decide)) (fine_txt (n := 64) (by omega) (by decide))) (fine_num (isN_ok h2))).mono (by decide)
theorem fine_shot {i : Int} {x : S84} (hi : isN i) (h : mShot x = true) : Fine (encPart ⟨i, x⟩) 11800 := by
 unfold mShot at h
 simp only [Bool.and_eq_true, decide_eq_true_eq] at h
 obtain ⟨⟨⟨h0, h1⟩, h2⟩, h3, h4⟩ := h
 exact (fine_app (fine_app (fine_app (fine_app (fine_num hi) (fine_num (isN_ok h0))) (fine_txt (is_size h1) (by decide))) (fine_num (kind_num h2))) (fine_list (n := 64) (by omega) (by decide) (fun y hy => fine_seen (List.all_eq_true.1 h4 y hy)))).mono (by decide)
theorem fine_part {x : S86} (h : mPart x = true) : Fine (encPart x) 11800 := by
 unfold mPart at h
 simp only [Bool.and_eq_true, decide_eq_true_eq] at h
 exact fine_shot (i := x.f0) (x := x.f1) (isN_ok h.1.1) h.2
theorem fine_empty {i : Int} {x : S84} (hi : isN i) (h : mEmpty x = true) : Fine (encPart ⟨i, x⟩) 11800 := by
 unfold mEmpty at h
 simp only [Bool.and_eq_true, beq_iff_eq] at h
 obtain ⟨⟨⟨h0, h1⟩, h2⟩, h3⟩ := h
 have h1' := empty_size h1
 exact (fine_app (fine_app (fine_app (fine_app (fine_num hi) (fine_num (v := x.f0) ⟨by omega, by omega⟩)) (fine_txt (s := x.f1) (n := 102) (by omega) (by decide))) (fine_num (v := x.f2) ⟨by omega, by omega⟩)) (fine_list (l := x.f3) (n := 0) (B := 181) (by omega) (by decide) (fun y hy => by rw [List.eq_nil_of_length_eq_zero h3] at hy; cases hy))).mono (by decide)
theorem fine_tagged {x : S148} (h : mTagged x = true) : Fine (encTagged x) 212 := by
 have hk := tagged_ok h
 unfold mTagged at h
 simp only [Bool.and_eq_true, decide_eq_true_eq] at h
 obtain ⟨⟨⟨⟨⟨⟨h0, h1⟩, h2⟩, h3⟩, h4⟩, h5⟩, h6⟩ := h
 exact (fine_app (fine_app (fine_app (fine_app (fine_num (kind_num h0)) (fine_txt (is_size h1) (by decide))) (fine_txt (n := 64) (by omega) (by decide))) (fine_num (isN_ok h3))) (fine_list (n := 4) (by omega) (by decide) (fun y hy => fine_num (hk.l4 y hy)))).mono (by decide)
theorem fine_event {x : S91} (h : mItem x = true) (hm : x.f2 = false) : Fine (encItem x) 13600 := by
 unfold mItem at h
 rw [hm] at h
 simp only [Bool.and_eq_true, Bool.false_eq_true, if_false, decide_eq_true_eq, beq_iff_eq] at h
 obtain ⟨⟨h0, h1⟩, ⟨h3, h4⟩, h5, h6⟩ := h
 unfold encItem
 rw [hm, if_neg (by decide)]
 exact (fine_app (fine_app (fine_num (isN_ok h0)) (fine_num (isN_ok h1))) (fine_app (fine_num ⟨by decide, by decide⟩) (fine_list (n := 64) (by omega) (by decide) (fun y hy => fine_tagged (List.all_eq_true.1 h6 y hy))))).mono (by decide)
theorem fine_item {x : S91} (h : mItem x = true) : Fine (encItem x) 47300 := by
 cases hm : x.f2 with
 | false => exact (fine_event h hm).mono (by decide)
 | true =>
   unfold mItem at h
   rw [hm] at h
   simp only [Bool.and_eq_true, if_true, decide_eq_true_eq, beq_iff_eq] at h
   obtain ⟨⟨h0, h1⟩, ⟨h3, h4⟩, h5, h6⟩ := h
   unfold encItem
   rw [hm, if_pos rfl]
   exact (fine_app (fine_app (fine_num (isN_ok h0)) (fine_num (isN_ok h1))) (fine_app (fine_num ⟨by decide, by decide⟩) (fine_list (n := 4) (by omega) (by decide) (fun y hy => fine_part (List.all_eq_true.1 h6 y hy))))).mono (by decide)
theorem fine_items {l : List S91} (h : mItems l = true) : Fine (encList encItem l) 142600 := by
 unfold mItems at h
 simp only [Bool.and_eq_true, Bool.not_eq_true', decide_eq_false_iff_not, decide_eq_true_eq] at h
 obtain ⟨⟨h0, h1, h2⟩, h3⟩ := h
 match l, h0, h1, h2, h3 with
 | [], h0, _, _, _ => exact absurd (by simp) h0
 | a :: r, _, h1, h2, h3 =>
   have ha := List.all_eq_true.1 h2 a List.mem_cons_self
   have hr : ∀ y ∈ r, y.f2 = false := by
    intro y hy
    obtain ⟨i, hi⟩ := List.getElem?_of_mem hy
    have hl : i < r.length := (List.getElem?_eq_some_iff.1 hi).1
    have h4 := List.all_eq_true.1 h3 i (List.mem_range.2 (by simpa using hl))
    simp only [List.drop_succ_cons, List.drop_zero, mPairAt, hi, Option.elim_some, Bool.and_eq_true, Bool.not_eq_true'] at h4
    exact h4.1
   have hlr : r.length ≤ 7 := by simp at h1; omega
   refine (fine_app (fine_num (v := ((a :: r).length : Int)) ⟨by omega, by simp at h1 ⊢; omega⟩) (m := 47300 + 7 * 13600) ?_).mono (by decide)
   rw [List.flatMap_cons]
   exact fine_app (fine_item ha) (fine_flat hlr (fun y hy => fine_event (List.all_eq_true.1 h2 y (List.mem_cons_of_mem _ hy)) (hr y hy)))
def lim : Ltr → Nat
 | .lv => 15
 | .uW | .lw | .ld | .uD => 4421
 | .ly => 69220
 | .la => 200005
 | .lo => 8677
 | .uE => 35173
 | .uI => 142600
 | .uP => 11805
 | _ => 5
theorem fine_F {x : Note} (l : Ltr) (hk : OkL l x) (h : okF l x = true) (hP : l = .uP → mGranted x = true) : Fine (encF l x) (lim l) := by
 cases l
 case lv => exact fine_app (m := 10) (fine_num hk.1) (fine_app (fine_num hk.2.1) (fine_num hk.2.2))
 case uW => exact (fine_list hk.1 (by decide) (fun y hy => fine_watch (hk.2 y hy))).mono (by decide)
 case lw => exact (fine_list hk.1 (by decide) (fun y hy => fine_watch (hk.2 y hy))).mono (by decide)
 case ld => exact (fine_list hk.1 (by decide) (fun y hy => fine_watch (hk.2 y hy))).mono (by decide)
 case uD => exact (fine_list hk.1 (by decide) (fun y hy => fine_watch (hk.2 y hy))).mono (by decide)
 case ly => exact fine_reply hk
 case la =>
  simp only [okF, decide_eq_true_eq] at h
  exact fine_txt (n := 200000) (by omega) (by decide)
 case lo => exact (fine_list hk.1 (by decide) (fun y hy => fine_op (hk.2 y hy))).mono (by decide)
 case uE => exact (fine_list hk.1 (by decide) (fun y hy => fine_entry (hk.2 y hy))).mono (by decide)
 case uI => exact fine_items h
 case uP =>
  obtain ⟨p, hp, h1⟩ := one_of h
  simp only [Bool.and_eq_true] at h1
  have hg := hP rfl
  unfold mGranted at hg
  rw [hp] at hg
  simp only [List.getElem?_cons_zero, Option.elim_some] at hg
  have hf : Fine (encPart p) 11800 := by
   split at hg
   · exact fine_shot (i := p.f0) (x := p.f1) (isN_ok h1.1) hg
   · exact fine_empty (i := p.f0) (x := p.f1) (isN_ok h1.1) hg
  show Fine (encList encPart x.f13) 11805
  rw [hp]
  exact (fine_list (n := 1) (l := [p]) (Nat.le_refl _) (by decide) (fun y hy => by rw [List.mem_singleton.1 hy]; exact hf)).mono (by decide)
 all_goals exact fine_num hk
theorem fine_word {x : Note} : ∀ {w : List Ltr}, (∀ l ∈ w, Fine (encF l x) (lim l)) → Fine (w.flatMap fun l => encF l x) ((w.map lim).foldr (· + ·) 0) := by
 intro w
 induction w with
 | nil => intro _; exact ⟨by simp, by simp⟩
 | cons l w ih =>
   intro h
   rw [List.flatMap_cons, List.map_cons, List.foldr_cons]
   exact fine_app (h l List.mem_cons_self) (ih (fun y hy => h y (List.mem_cons_of_mem _ hy)))
theorem lim_word : ∀ k : Fin 25, ((word k.val).map lim).foldr (· + ·) 0 ≤ 262107 := by decide
theorem fine_note {x : Note} (h : mCheck x = true) : Fine (encNote x) 262112 := by
 have hc := checked h
 have h0 := hc.lo
 have h1 := hc.hi
 refine (fine_app (fine_num ⟨by omega, by omega⟩) (fine_word (fun l hl => fine_F l (hc.ok l hl) (hc.right l hl) (fun hP => hc.granted (by
  subst hP
  have := word_P (k := x.f0.toNat) (by omega) hl
  omega))))).mono ?_
 have := lim_word ⟨x.f0.toNat, by omega⟩
 simp only at this
 omega
end Go.Proofs.YtmneemhplffemaaGreatDoorRR.Law
namespace Go.Proofs.YtmneemhplffemaaGreatDoorRR.Same
open Go.RowKit Go.Proofs.YtmneemhplffemaaGreatDoorRR.Ext Go.Proofs.YtmneemhplffemaaGreatDoorRR.Mem Go.Proofs.YtmneemhplffemaaGreatDoorRR.Row Go.Proofs.YtmneemhplffemaaGreatDoorRR.Ki Go.Proofs.YtmneemhplffemaaGreatDoorRRW.PrintWords


theorem drewn_ {B : Nat} {a w : World} (h : Below B a w) (q : Nat) : Below B a (w.drewN q) := ⟨h.os, h.tape, h.output, h.size, h.block⟩
theorem false_of {b : Bool} {p : Prop} (h : b = true ↔ p) (hn : ¬ p) : b = false := by
 cases b with
 | false => rfl
 | true => exact absurd (h.1 rfl) hn
theorem true_of {b : Bool} {p : Prop} (h : b = true ↔ p) (hp : p) : b = true := h.2 hp
theorem some_bool (p : Prop) : ∃ b : Bool, b = true ↔ p := by
 classical
 exact ⟨decide p, decide_eq_true_iff⟩
theorem str_eq {a b : ByteArray} (h : (a.toList == b.toList) = true) : a = b := by
 have h1 := eq_of_beq h
 rw [ByteArray.toList_eq, ByteArray.toList_eq] at h1
 cases a; cases b
 simp only at h1
 simp_all
theorem neq_agg {t : Nat} {xs ys : Array Value} {b : Bool} (h : ∀ d w, (Op.equalIn (d + 2) t (.agg xs) (.agg ys)).run Tryz.prog w = .ok b w) : ∀ w, (binOp BinOp.neq t (.agg xs) (.agg ys)).run Tryz.prog w = .ok (.bool (!b)) w := by
 intro w
 have h1 := h (Op.maxDepth - 2) w
 rw [show Op.maxDepth - 2 + 2 = Op.maxDepth from rfl] at h1
 simp [binOp, Op.equal, h1, go_sem]
theorem iff_t {p : Prop} (h : p) : (true = true ↔ p) := ⟨fun _ => h, fun _ => rfl⟩
theorem iff_f {p : Prop} (h : ¬ p) : (false = true ↔ p) := ⟨fun k => (by cases k), fun k => absurd k h⟩
theorem row_upto {α : Type} {xs ys : List α} {k : Nat} (h : ∀ j, j < k → xs[j]? = ys[j]?) {x y : α} (hx : xs[k]? = some x) (hy : ys[k]? = some y) (he : x = y) : ∀ j, j < k + 1 → xs[j]? = ys[j]? := by
 intro j hj
 rcases Nat.lt_or_ge j k with h1 | h1
 · exact h j h1
 · obtain rfl : j = k := by omega
   rw [hx, hy, he]
theorem row_all {α : Type} {xs ys : List α} {k : Nat} (h : ∀ j, j < k → xs[j]? = ys[j]?) (hl : xs.length = ys.length) (hk : xs.length ≤ k) : xs = ys := by
 refine List.ext_getElem? (fun j => ?_)
 rcases Nat.lt_or_ge j k with h1 | h1
 · exact h j h1
 · rw [List.getElem?_eq_none (by omega), List.getElem?_eq_none (by omega)]
theorem str_b {a b : ByteArray} {c : Bool} (h : c = true ↔ a = b) : (a.toList == b.toList) = c := by
 rw [Bool.eq_iff_iff, h]
 exact ⟨fun h => str_eq h, fun h => by subst h; simp⟩
theorem bool_Op {x y : S78} : (x.f0 == y.f0 && (x.f1.toList == y.f1.toList && (x.f2.toList == y.f2.toList && (x.f3 == y.f3 && (x.f4 == y.f4))))) = true ↔ x = y := by
 constructor
 · intro h
   simp only [Bool.and_eq_true] at h
   obtain ⟨h0, h1, h2, h3, h4⟩ := h
   cases x; cases y
   simp only [S78.mk.injEq]
   exact ⟨eq_of_beq h0, str_eq h1, str_eq h2, eq_of_beq h3, eq_of_beq h4⟩
 · rintro rfl
   simp
theorem neq_Op (x y : S78) {b : Bool} (h : b = true ↔ x = y) : ∀ w, (binOp BinOp.neq 78 (.agg #[.int .i64 x.f0, .string x.f1, .string x.f2, .int .i64 x.f3, .int .i64 x.f4]) (.agg #[.int .i64 y.f0, .string y.f1, .string y.f2, .int .i64 y.f3, .int .i64 y.f4])).run Tryz.prog w = .ok (.bool (!b)) w :=
 neq_agg (fun d w => by
  rw [Eqs.eqOp]
  congr 1
  rw [Bool.eq_iff_iff, h]
  exact bool_Op)
theorem bool_Watch {x y : S96} : (x.f0 == y.f0 && (x.f1.toList == y.f1.toList && (x.f2 == y.f2 && (x.f3 == y.f3)))) = true ↔ x = y := by
 constructor
 · intro h
   simp only [Bool.and_eq_true] at h
   obtain ⟨h0, h1, h2, h3⟩ := h
   cases x; cases y
   simp only [S96.mk.injEq]
   exact ⟨eq_of_beq h0, str_eq h1, eq_of_beq h2, eq_of_beq h3⟩
 · rintro rfl
   simp
theorem neq_Watch (x y : S96) {b : Bool} (h : b = true ↔ x = y) : ∀ w, (binOp BinOp.neq 96 (.agg #[.int .i64 x.f0, .string x.f1, .int .i64 x.f2, .int .i64 x.f3]) (.agg #[.int .i64 y.f0, .string y.f1, .int .i64 y.f2, .int .i64 y.f3])).run Tryz.prog w = .ok (.bool (!b)) w :=
 neq_agg (fun d w => by
  rw [Eqs.eqWatch]
  congr 1
  rw [Bool.eq_iff_iff, h]
  exact bool_Watch)
theorem bool_Seen {x y : S88} : (x.f0.toList == y.f0.toList && (x.f1.toList == y.f1.toList && (x.f2 == y.f2))) = true ↔ x = y := by
 constructor
 · intro h
   simp only [Bool.and_eq_true] at h
   obtain ⟨h0, h1, h2⟩ := h
   cases x; cases y
   simp only [S88.mk.injEq]
   exact ⟨str_eq h0, str_eq h1, eq_of_beq h2⟩
 · rintro rfl
   simp
theorem neq_Seen (x y : S88) {b : Bool} (h : b = true ↔ x = y) : ∀ w, (binOp BinOp.neq 88 (.agg #[.string x.f0, .string x.f1, .int .i64 x.f2]) (.agg #[.string y.f0, .string y.f1, .int .i64 y.f2])).run Tryz.prog w = .ok (.bool (!b)) w :=
 neq_agg (fun d w => by
  rw [Eqs.eqSeen]
  congr 1
  rw [Bool.eq_iff_iff, h]
  exact bool_Seen)
theorem bool_Change {x y : S145} : (x.f0 == y.f0 && (x.f1.toList == y.f1.toList && (x.f2.toList == y.f2.toList && (x.f3 == y.f3)))) = true ↔ x = y := by
 constructor
 · intro h
   simp only [Bool.and_eq_true] at h
   obtain ⟨h0, h1, h2, h3⟩ := h
   cases x; cases y
   simp only [S145.mk.injEq]
   exact ⟨eq_of_beq h0, str_eq h1, str_eq h2, eq_of_beq h3⟩
 · rintro rfl
   simp
theorem neq_Change (x y : S145) {b : Bool} (h : b = true ↔ x = y) : ∀ w, (binOp BinOp.neq 145 (.agg #[.int .i64 x.f0, .string x.f1, .string x.f2, .int .i64 x.f3]) (.agg #[.int .i64 y.f0, .string y.f1, .string y.f2, .int .i64 y.f3])).run Tryz.prog w = .ok (.bool (!b)) w :=
 neq_agg (fun d w => by
  rw [Eqs.eqChange]
  congr 1
  rw [Bool.eq_iff_iff, h]
  exact bool_Change)
set_option maxRecDepth 100000 in
set_option maxHeartbeats 1000000 in
theorem c_sameOps (w0 W : World) (A B : Option Addr) (c d : Nat) (xs ys : List S78) (hA : k78.C w0 A xs.length xs) (hB : k78.C w0 B ys.length ys) (hb : Below w0.heap.size w0 W) (b : Bool) (h : b = true ↔ xs = ys) :
   Calls Tryz.prog 55 #[.slice A xs.length c, .slice B ys.length d] W fun e W' => e = .returned (.bool b) ∧ Below W.heap.size W W' := by
 have HA := Aside0.mk hA
 have HB := Aside0.mk hB
 have HH := Aside0.mk h
 have H0 := Aside0.mk hb
 have hm : xs.length ≤ 9223372036854775807 := hA.2.1
 have hm2 : ys.length ≤ 9223372036854775807 := hB.2.1
 clear hA hB h hb
 go_enter Tryz.func55, Tryz.ntmps55
 by_cases hl : xs.length = ys.length
 · have HL := Aside0.mk hl
   have h0 : ((xs.length : Int) != (ys.length : Int)) = false := by simp [hl]
   have h0' : ((xs.length : Int) == (ys.length : Int)) = true := by simp [hl]
   clear hl
   go_wp2_with fail
   go_loopw [5] (fun v W1 => ∃ k : Nat, v = .int .i64 k ∧ k ≤ xs.length ∧ Aside0 (∀ j, j < k → xs[j]? = ys[j]?) ∧ Aside0 (Below W.heap.size W W1)) (fun v _ => xs.length - (intOf v).toNat)
   case atStart => exact ⟨0, rfl, Nat.zero_le _, ⟨fun j hj => by omega⟩, ⟨Below.refl _ _⟩⟩
   case round =>
    obtain ⟨k, rfl, hk, HS, HBW⟩ := hrel
    by_cases hlt : k < xs.length
    · have hl2 := HL.out
      obtain ⟨x, hx⟩ : ∃ x, xs[k]? = some x := ⟨_, List.getElem?_eq_getElem hlt⟩
      obtain ⟨y, hy⟩ : ∃ y, ys[k]? = some y := ⟨_, List.getElem?_eq_getElem (by omega)⟩
      have HC := Aside0.mk (below_step H0.out HBW.out)
      have hata := at_T78 HA.out (k : Int) (by omega) (by omega)
      rw [show rd_T78 xs (k : Int) = x by unfold rd_T78; rw [Int.toNat_natCast, List.getD_eq_getElem?_getD, hx]; rfl, Int.toNat_natCast] at hata
      obtain ⟨ad, rfl, a_0, a_1, a_2, a_3, a_4⟩ := hata
      replace a_0 := pw_cell_below HC.out a_0
      replace a_1 := pw_cell_below HC.out a_1
      replace a_2 := pw_cell_below HC.out a_2
      replace a_3 := pw_cell_below HC.out a_3
      replace a_4 := pw_cell_below HC.out a_4
      have hatb := at_T78 HB.out (k : Int) (by omega) (by omega)
      rw [show rd_T78 ys (k : Int) = y by unfold rd_T78; rw [Int.toNat_natCast, List.getD_eq_getElem?_getD, hy]; rfl, Int.toNat_natCast] at hatb
      obtain ⟨bd, rfl, b_0, b_1, b_2, b_3, b_4⟩ := hatb
      replace b_0 := pw_cell_below HC.out b_0
      replace b_1 := pw_cell_below HC.out b_1
      replace b_2 := pw_cell_below HC.out b_2
      replace b_3 := pw_cell_below HC.out b_3
      replace b_4 := pw_cell_below HC.out b_4
      have HX := Aside0.mk hx
      have HY := Aside0.mk hy
      have hky : k < ys.length := by omega
      clear hx hy hl2
      obtain ⟨q, hq⟩ := some_bool (x = y)
      cases q with
      | true =>
        have hne := neq_Op x y hq
        have HE := Aside0.mk (hq.1 rfl)
        clear hq
        go_wp2_with (go_quiet (fail))
        go_roundw
        case rel => exact ⟨k + 1, by go_num, by omega, ⟨row_upto HS.out HX.out HY.out HE.out⟩, ⟨drewn_ HBW.out nq⟩⟩
        case measure => simp [intOf]; omega
      | false =>
        have hne := neq_Op x y hq
        have HE := Aside0.mk (false_of HH.out (fun he => by subst he; have h3 := HX.out.symm.trans HY.out; have h4 := hq.2 (Option.some.inj h3); cases h4))
        clear hq
        go_wp2_with (go_quiet (fail))
        go_ret
        exact ⟨by rw [HE.out]; rfl, drewn_ HBW.out nq⟩
    · go_wp2_with fail
      go_ret
      exact ⟨by rw [true_of HH.out (row_all HS.out HL.out (by omega))]; rfl, HBW.out⟩
 · have HE := Aside0.mk (false_of HH.out (fun he => hl (by rw [he])))
   have h0 : ((xs.length : Int) != (ys.length : Int)) = true := by simp; omega
   have h0' : ((xs.length : Int) == (ys.length : Int)) = false := by simp; omega
   go_wp2_with fail
   go_ret
   exact ⟨by rw [HE.out]; rfl, Below.refl _ _⟩
set_option maxRecDepth 100000 in
set_option maxHeartbeats 1000000 in
theorem c_sameTexts (w0 W : World) (A B : Option Addr) (c d : Nat) (xs ys : List ByteArray) (hA : Kd.string.C w0 A xs.length xs) (hB : Kd.string.C w0 B ys.length ys) (hb : Below w0.heap.size w0 W) (b : Bool) (h : b = true ↔ xs = ys) :
   Calls Tryz.prog 99 #[.slice A xs.length c, .slice B ys.length d] W fun e W' => e = .returned (.bool b) ∧ Below W.heap.size W W' := by
 have HA := Aside0.mk hA
 have HB := Aside0.mk hB
 have HH := Aside0.mk h
 have H0 := Aside0.mk hb
 have hm : xs.length ≤ 9223372036854775807 := hA.2.1
 have hm2 : ys.length ≤ 9223372036854775807 := hB.2.1
 clear hA hB h hb
 go_enter Tryz.func99, Tryz.ntmps99
 by_cases hl : xs.length = ys.length
 · have HL := Aside0.mk hl
   have h0 : ((xs.length : Int) != (ys.length : Int)) = false := by simp [hl]
   have h0' : ((xs.length : Int) == (ys.length : Int)) = true := by simp [hl]
   clear hl
   go_wp2_with fail
   go_loopw [5] (fun v W1 => ∃ k : Nat, v = .int .i64 k ∧ k ≤ xs.length ∧ Aside0 (∀ j, j < k → xs[j]? = ys[j]?) ∧ Aside0 (Below W.heap.size W W1)) (fun v _ => xs.length - (intOf v).toNat)
   case atStart => exact ⟨0, rfl, Nat.zero_le _, ⟨fun j hj => by omega⟩, ⟨Below.refl _ _⟩⟩
   case round =>
    obtain ⟨k, rfl, hk, HS, HBW⟩ := hrel
    by_cases hlt : k < xs.length
    · have hl2 := HL.out
      obtain ⟨x, hx⟩ : ∃ x, xs[k]? = some x := ⟨_, List.getElem?_eq_getElem hlt⟩
      obtain ⟨y, hy⟩ : ∃ y, ys[k]? = some y := ⟨_, List.getElem?_eq_getElem (by omega)⟩
      have HC := Aside0.mk (below_step H0.out HBW.out)
      obtain ⟨ad, rfl, a_0⟩ := Kd.at_string HA.out (k : Int) (by omega) (by omega)
      obtain ⟨bd, rfl, b_0⟩ := Kd.at_string HB.out (k : Int) (by omega) (by omega)
      rw [show rdOf ByteArray.empty xs (k : Int) = x by unfold rdOf; rw [Int.toNat_natCast, List.getD_eq_getElem?_getD, hx]; rfl, Int.toNat_natCast] at a_0
      rw [show rdOf ByteArray.empty ys (k : Int) = y by unfold rdOf; rw [Int.toNat_natCast, List.getD_eq_getElem?_getD, hy]; rfl, Int.toNat_natCast] at b_0
      replace a_0 := pw_cell_below HC.out a_0
      replace b_0 := pw_cell_below HC.out b_0
      have HX := Aside0.mk hx
      have HY := Aside0.mk hy
      have hky : k < ys.length := by omega
      clear hx hy hl2
      obtain ⟨q, hq⟩ := some_bool (x = y)
      cases q with
      | true =>
        have hne := str_b hq
        have HE := Aside0.mk (hq.1 rfl)
        clear hq
        go_wp2_with (go_quiet (fail))
        go_roundw
        case rel => exact ⟨k + 1, by go_num, by omega, ⟨row_upto HS.out HX.out HY.out HE.out⟩, ⟨drewn_ HBW.out nq⟩⟩
        case measure => simp [intOf]; omega
      | false =>
        have hne := str_b hq
        have HE := Aside0.mk (false_of HH.out (fun he => by subst he; have h3 := HX.out.symm.trans HY.out; have h4 := hq.2 (Option.some.inj h3); cases h4))
        clear hq
        go_wp2_with (go_quiet (fail))
        go_ret
        exact ⟨by rw [HE.out]; rfl, drewn_ HBW.out nq⟩
    · go_wp2_with fail
      go_ret
      exact ⟨by rw [true_of HH.out (row_all HS.out HL.out (by omega))]; rfl, HBW.out⟩
 · have HE := Aside0.mk (false_of HH.out (fun he => hl (by rw [he])))
   have h0 : ((xs.length : Int) != (ys.length : Int)) = true := by simp; omega
   have h0' : ((xs.length : Int) == (ys.length : Int)) = false := by simp; omega
   go_wp2_with fail
   go_ret
   exact ⟨by rw [HE.out]; rfl, Below.refl _ _⟩
end Go.Proofs.YtmneemhplffemaaGreatDoorRR.Same
