/- Texts of the proof, joined. -/
import Derived.ArgAppend
import Derived.Below
import Derived.BigQuiet
import Derived.Deep.AppendLies
import Derived.Deep.CutBlock
import Derived.Deep.DeepCutAuto
import Derived.Deep.DeepHandedRow
import Derived.Deep.Draws
import Derived.Deep.LoopGhost
import Derived.Deep.OwnRows
import Derived.Deep.QuietTactic
import Derived.Deep.RegionHeld3
import Derived.Deep.RegionLaw
import Derived.Deep.RegionLawGrows
import Derived.Deep.Slices
import Derived.Deep.WholeRow
import Derived.Defers
import Derived.HandedShaped
import Derived.KernelRfl
import Derived.Laws.BitsLemmas
import Derived.Laws.BytesArg
import Derived.Laws.EntriesVeiled
import Derived.Laws.IdiomCopy
import Derived.Laws.MakeOwn
import Derived.Laws.OwnMore
import Derived.Laws.Rows
import Derived.Laws.Slices
import Derived.Laws.StructEq
import Derived.Laws.Tables
import Derived.Lib.AppendStr
import Derived.Lib.ConvBytes
import Derived.Lib.Hide
import Derived.Lib.Join
import Derived.Lib.LaidTab
import Derived.Lib.SplitLaws
import Derived.LoopTactic
import Derived.Maps.AppendAt
import Derived.OpenShut
import Derived.OrdersHeld
import Derived.Outline
import Derived.OwnWalk
import Derived.ProofKit
import Derived.Recover
import Derived.RowKit
import Derived.RowKit3
import Derived.Shelf.LaysM
import Derived.Shelf.Strings.Count
import Derived.Shelf.Strings.Explode
import Derived.Shelf.Strings.Prefix
import Derived.Shelf.Strings.RuneCount
import Derived.Shelf.Strings.Search1
import Derived.Shelf.Strings.Search2
import Derived.Shelf.Strings.Search3
import Derived.Shelf.Strings.Shaped
import Derived.Shelf.Strings.Split
import Derived.Shelf.Strings.SplitShaped
import Derived.Shelf.Unicode.Decode
import Derived.Shelf.Unicode.DecodeSlow
import Derived.Shelf.Utf8.RuneCount
import Derived.Shelf.Vars
import Derived.SizedLaws
import Derived.StillTailTactics
import Derived.Tactics
import Derived.Test.YtmneemhplffemaaGreatDoorRRCards
import Derived.Test.YtmneemhplffemaaGreatDoorRRProg
import Derived.Test.YtmneemhplffemaaGreatDoorRRTie
import Derived.WalkKit
import Derived.WalkLawsBesides
import Derived.WideLaws
import Derived.Test.YtmneemhplffemaaGreatDoorRRJEd
set_option linter.unusedVariables false
set_option linter.unusedSimpArgs false
namespace Go.Proofs.YtmneemhplffemaaGreatDoorRR.Tab
open Go.RowKit Go.Proofs.YtmneemhplffemaaGreatDoorRR.Ord Go.Proofs.YtmneemhplffemaaGreatDoorRR.Name Go.Proofs.YtmneemhplffemaaGreatDoorRR.Ext Go.Proofs.YtmneemhplffemaaGreatDoorRR.Wire Go.Proofs.YtmneemhplffemaaGreatDoorRR.Mem Go.Proofs.YtmneemhplffemaaGreatDoorRR.Put Go.Proofs.YtmneemhplffemaaGreatDoorRR.Get Go.Proofs.YtmneemhplffemaaGreatDoorRR.Law Go.Proofs.YtmneemhplffemaaGreatDoorRR.Row Go.Proofs.YtmneemhplffemaaGreatDoorRR.Ki Go.Proofs.YtmneemhplffemaaGreatDoorRR.Chk Go.Proofs.YtmneemhplffemaaGreatDoorRR.May Go.Proofs.YtmneemhplffemaaGreatDoorRRW.PrintWords


structure ReadOk (W : World) (gr g : Nat) (A : Option Addr) (n c base : Nat) (r : Option (Note × Nat)) (e : Ending) (W' : World) : Prop where mk ::
 mov : Moved W W' (fun k => k = gr ∨ k = g)
 bad : r = none → e = .panicked flaw
 good : ∀ y' a', r = some (y', a') → e = .returned (.tuple #[]) ∧ Eye W' gr A n c a' ∧ ∃ cs' : List Value, k34.M W' base (fun _ => True) y' cs' ∧ W'.heap[g]? = some (.cells cs'.toArray 34 (0, 0))
theorem read_ends {W : World} {gr g : Nat} {A : Option Addr} {n c base : Nat} {r : Option (Note × Nat)} : ∀ e W', ReadOk W gr g A n c base r e W' → e = .returned (.tuple #[]) ∨ e = .panicked flaw := by
 intro e W' h
 cases r with
 | none => exact .inr (h.bad rfl)
 | some p => exact .inl (h.good p.1 p.2 rfl).1
theorem M_set {w : World} {base g : Nat} {y : Note} {cs : List Value} {cells : Array Value} (h : k34.M w base (fun _ => True) y cs) (hb : w.heap[g]? = some (.cells cells 34 (0, 0))) (i : Nat) (u : Value) : k34.M (w.setCell ⟨g, i, none⟩ u) base (fun _ => True) y cs :=
 k34.M_mono (fun _ _ => trivial) (Kd.M_far (p := ⟨g, i, none⟩) (Kd.M_types h hb (by decide)) (fun _ hk => hk.2) u)
theorem note_cells {w : World} {base : Nat} {y : Note} {cs : List Value} (h : k34.M w base (fun _ => True) y cs) (j : Nat) (hj : j < 21) : ∃ u, cs.toArray[j]? = some u := by
 have hl := k34.K_len (k34.K_of_M h)
 exact ⟨_, Array.getElem?_eq_getElem (by rw [List.size_toArray, hl]; exact hj)⟩
set_option maxRecDepth 100000 in
set_option maxHeartbeats 2000000 in
theorem gc_uW (w0 W : World) (gr g : Nat) (A : Option Addr) (c a : Nat) (xs : List Int) (hD : Get.Data w0 A c xs) (ha : a ≤ xs.length) (hb : Below w0.heap.size w0 W) (hgr : w0.heap.size ≤ gr) (hE : Eye W gr A xs.length c a) (hne : g ≠ gr) (base : Nat) (hbW : base ≤ W.heap.size) (y : Note) (cs : List Value) (hm : k34.M W base (fun _ => True) y cs) (hbx : W.heap[g]? = some (.cells cs.toArray 34 (0, 0))) :
   Calls Tryz.prog 171 #[.pointer (some ⟨gr, 0, none⟩), .pointer (some ⟨g, 0, none⟩)] W (ReadOk W gr g A xs.length c base (dF .uW xs a y)) := by
 have HD := Aside0.mk hD
 have HB := Aside0.mk hb
 have HE := Aside0.mk hE
 have HM := Aside0.mk hm
 have HX := Aside0.mk hbx
 clear hD hb hE hm hbx
 go_enter Tryz.func171, Tryz.ntmps171
 go_wp2_with fail
 refine (getList_Watch 232 (fun args w => by kernel_rfl) dWatch w0 W gr A c a xs (get_Watch w0 A c xs HD.out) (goes_Watch HD.out.bytes) HD.out ha HB.out hgr HE.out).mono ?_
 rintro e w1 ⟨hm1, hn, hs⟩
 cases hr : dLst dWatch xs a with
 | none =>
   obtain rfl := hn hr
   have HR := Aside0.mk (show dF .uW xs a y = none by simp only [dF, hr, Option.bind_none])
   exact ⟨rfl, hm1.mono (fun _ _ h => .inl h), (fun _ => rfl), fun y' a' h => by rw [HR.out] at h; cases h⟩
 | some p =>
   obtain ⟨x, a1⟩ := p
   obtain ⟨v, rfl, ho, he⟩ := hs _ _ hr
   have HR := Aside0.mk (show dF .uW xs a y = _ by simp only [dF, hr, Option.bind_some]; rfl)
   obtain ⟨A2, n2, c2, rfl⟩ : ∃ A n c, v = .slice A n c := (by obtain ⟨A, c, h⟩ := Kd.R_slice ho; exact ⟨A, _, c, h⟩)
   have HO := Aside0.mk (Kd.R_lower ho hbW)
   clear ho
   have HX1 := Aside0.mk (hm1.blk HX.out hne)
   have HM1 := Aside0.mk (Get.M_moved HM.out HE.out (by decide) hm1)
   have HV1 := Aside0.mk (hm1.mono (S' := fun k => k = gr ∨ k = g) (fun _ _ h => .inl h))
   have HE1 := Aside0.mk he
   have hl := note_cells HM.out
   obtain ⟨u17, hu17⟩ := hl 17 (by omega)
   have hc17 := (blk_cell HX1.out 17).trans hu17
   have hf17 := blk_frozen HX1.out 17
   clear hl hm1 hn hs he hr
   go_wp2_with fail
   first | go_end0 | refine bodyPost_ret (results_none rfl _ _ _) rfl ?_
   have HXF := (blk_set HX1.out 17 (.slice A2 n2 c2))
   have HMF := (M_set HM1.out HX1.out 17 (.slice A2 n2 c2))
   have HEF : Eye _ gr A xs.length c a1 := (blk_far (p := ⟨g, 17, none⟩) HE1.out (fun h => hne h.symm) (.slice A2 n2 c2))
   have HVF := (HV1.out).set_ (p := ⟨g, 17, none⟩) (.inl (.inr rfl)) (.slice A2 n2 c2)
   have HL17 := (Kd.R_set HO.out HX1.out (by decide) 17 (.slice A2 n2 c2))
   obtain ⟨v11, v12, v16, v17, v18, v19, hcs, g11, g12, g16, g17, g18, g19⟩ := k34_openM HMF
   subst hcs
   refine ⟨HVF, (fun h => by rw [HR.out] at h; cases h), fun y' a' h => ?_⟩
   rw [HR.out] at h
   simp only [Option.some.injEq, Prod.mk.injEq] at h
   obtain ⟨rfl, rfl⟩ := h
   exact ⟨rfl, HEF, _, k34_mkM _ base _ { y with f12 := x } g11 g12 g16 HL17 g18 g19, by simpa using HXF⟩
set_option maxRecDepth 100000 in
set_option maxHeartbeats 2000000 in
theorem gc_lo (w0 W : World) (gr g : Nat) (A : Option Addr) (c a : Nat) (xs : List Int) (hD : Get.Data w0 A c xs) (ha : a ≤ xs.length) (hb : Below w0.heap.size w0 W) (hgr : w0.heap.size ≤ gr) (hE : Eye W gr A xs.length c a) (hne : g ≠ gr) (base : Nat) (hbW : base ≤ W.heap.size) (y : Note) (cs : List Value) (hm : k34.M W base (fun _ => True) y cs) (hbx : W.heap[g]? = some (.cells cs.toArray 34 (0, 0))) :
   Calls Tryz.prog 192 #[.pointer (some ⟨gr, 0, none⟩), .pointer (some ⟨g, 0, none⟩)] W (ReadOk W gr g A xs.length c base (dF .lo xs a y)) := by
 have HD := Aside0.mk hD
 have HB := Aside0.mk hb
 have HE := Aside0.mk hE
 have HM := Aside0.mk hm
 have HX := Aside0.mk hbx
 clear hD hb hE hm hbx
 go_enter Tryz.func192, Tryz.ntmps192
 go_wp2_with fail
 refine (getList_Op 123 (fun args w => by kernel_rfl) dOp w0 W gr A c a xs (get_Op w0 A c xs HD.out) (goes_Op HD.out.bytes) HD.out ha HB.out hgr HE.out).mono ?_
 rintro e w1 ⟨hm1, hn, hs⟩
 cases hr : dLst dOp xs a with
 | none =>
   obtain rfl := hn hr
   have HR := Aside0.mk (show dF .lo xs a y = none by simp only [dF, hr, Option.bind_none])
   exact ⟨rfl, hm1.mono (fun _ _ h => .inl h), (fun _ => rfl), fun y' a' h => by rw [HR.out] at h; cases h⟩
 | some p =>
   obtain ⟨x, a1⟩ := p
   obtain ⟨v, rfl, ho, he⟩ := hs _ _ hr
   have HR := Aside0.mk (show dF .lo xs a y = _ by simp only [dF, hr, Option.bind_some]; rfl)
   obtain ⟨A2, n2, c2, rfl⟩ : ∃ A n c, v = .slice A n c := (by obtain ⟨A, c, h⟩ := Kd.R_slice ho; exact ⟨A, _, c, h⟩)
   have HO := Aside0.mk (Kd.R_lower ho hbW)
   clear ho
   have HX1 := Aside0.mk (hm1.blk HX.out hne)
   have HM1 := Aside0.mk (Get.M_moved HM.out HE.out (by decide) hm1)
   have HV1 := Aside0.mk (hm1.mono (S' := fun k => k = gr ∨ k = g) (fun _ _ h => .inl h))
   have HE1 := Aside0.mk he
   have hl := note_cells HM.out
   obtain ⟨u11, hu11⟩ := hl 11 (by omega)
   have hc11 := (blk_cell HX1.out 11).trans hu11
   have hf11 := blk_frozen HX1.out 11
   clear hl hm1 hn hs he hr
   go_wp2_with fail
   first | go_end0 | refine bodyPost_ret (results_none rfl _ _ _) rfl ?_
   have HXF := (blk_set HX1.out 11 (.slice A2 n2 c2))
   have HMF := (M_set HM1.out HX1.out 11 (.slice A2 n2 c2))
   have HEF : Eye _ gr A xs.length c a1 := (blk_far (p := ⟨g, 11, none⟩) HE1.out (fun h => hne h.symm) (.slice A2 n2 c2))
   have HVF := (HV1.out).set_ (p := ⟨g, 11, none⟩) (.inl (.inr rfl)) (.slice A2 n2 c2)
   have HL11 := (Kd.R_set HO.out HX1.out (by decide) 11 (.slice A2 n2 c2))
   obtain ⟨v11, v12, v16, v17, v18, v19, hcs, g11, g12, g16, g17, g18, g19⟩ := k34_openM HMF
   subst hcs
   refine ⟨HVF, (fun h => by rw [HR.out] at h; cases h), fun y' a' h => ?_⟩
   rw [HR.out] at h
   simp only [Option.some.injEq, Prod.mk.injEq] at h
   obtain ⟨rfl, rfl⟩ := h
   exact ⟨rfl, HEF, _, k34_mkM _ base _ { y with f9 := x } HL11 g12 g16 g17 g18 g19, by simpa using HXF⟩
set_option maxRecDepth 100000 in
set_option maxHeartbeats 2000000 in
theorem gc_uE (w0 W : World) (gr g : Nat) (A : Option Addr) (c a : Nat) (xs : List Int) (hD : Get.Data w0 A c xs) (ha : a ≤ xs.length) (hb : Below w0.heap.size w0 W) (hgr : w0.heap.size ≤ gr) (hE : Eye W gr A xs.length c a) (hne : g ≠ gr) (base : Nat) (hbW : base ≤ W.heap.size) (y : Note) (cs : List Value) (hm : k34.M W base (fun _ => True) y cs) (hbx : W.heap[g]? = some (.cells cs.toArray 34 (0, 0))) :
   Calls Tryz.prog 197 #[.pointer (some ⟨gr, 0, none⟩), .pointer (some ⟨g, 0, none⟩)] W (ReadOk W gr g A xs.length c base (dF .uE xs a y)) := by
 have HD := Aside0.mk hD
 have HB := Aside0.mk hb
 have HE := Aside0.mk hE
 have HM := Aside0.mk hm
 have HX := Aside0.mk hbx
 clear hD hb hE hm hbx
 go_enter Tryz.func197, Tryz.ntmps197
 go_wp2_with fail
 refine (getList_Entry 79 (fun args w => by kernel_rfl) dEntry w0 W gr A c a xs (get_Entry w0 A c xs HD.out) (goes_Entry HD.out.bytes) HD.out ha HB.out hgr HE.out).mono ?_
 rintro e w1 ⟨hm1, hn, hs⟩
 cases hr : dLst dEntry xs a with
 | none =>
   obtain rfl := hn hr
   have HR := Aside0.mk (show dF .uE xs a y = none by simp only [dF, hr, Option.bind_none])
   exact ⟨rfl, hm1.mono (fun _ _ h => .inl h), (fun _ => rfl), fun y' a' h => by rw [HR.out] at h; cases h⟩
 | some p =>
   obtain ⟨x, a1⟩ := p
   obtain ⟨v, rfl, ho, he⟩ := hs _ _ hr
   have HR := Aside0.mk (show dF .uE xs a y = _ by simp only [dF, hr, Option.bind_some]; rfl)
   obtain ⟨A2, n2, c2, rfl⟩ : ∃ A n c, v = .slice A n c := (by obtain ⟨A, c, h⟩ := Kd.R_slice ho; exact ⟨A, _, c, h⟩)
   have HO := Aside0.mk (Kd.R_lower ho hbW)
   clear ho
   have HX1 := Aside0.mk (hm1.blk HX.out hne)
   have HM1 := Aside0.mk (Get.M_moved HM.out HE.out (by decide) hm1)
   have HV1 := Aside0.mk (hm1.mono (S' := fun k => k = gr ∨ k = g) (fun _ _ h => .inl h))
   have HE1 := Aside0.mk he
   have hl := note_cells HM.out
   obtain ⟨u12, hu12⟩ := hl 12 (by omega)
   have hc12 := (blk_cell HX1.out 12).trans hu12
   have hf12 := blk_frozen HX1.out 12
   clear hl hm1 hn hs he hr
   go_wp2_with fail
   first | go_end0 | refine bodyPost_ret (results_none rfl _ _ _) rfl ?_
   have HXF := (blk_set HX1.out 12 (.slice A2 n2 c2))
   have HMF := (M_set HM1.out HX1.out 12 (.slice A2 n2 c2))
   have HEF : Eye _ gr A xs.length c a1 := (blk_far (p := ⟨g, 12, none⟩) HE1.out (fun h => hne h.symm) (.slice A2 n2 c2))
   have HVF := (HV1.out).set_ (p := ⟨g, 12, none⟩) (.inl (.inr rfl)) (.slice A2 n2 c2)
   have HL12 := (Kd.R_set HO.out HX1.out (by decide) 12 (.slice A2 n2 c2))
   obtain ⟨v11, v12, v16, v17, v18, v19, hcs, g11, g12, g16, g17, g18, g19⟩ := k34_openM HMF
   subst hcs
   refine ⟨HVF, (fun h => by rw [HR.out] at h; cases h), fun y' a' h => ?_⟩
   rw [HR.out] at h
   simp only [Option.some.injEq, Prod.mk.injEq] at h
   obtain ⟨rfl, rfl⟩ := h
   exact ⟨rfl, HEF, _, k34_mkM _ base _ { y with f10 := x } g11 HL12 g16 g17 g18 g19, by simpa using HXF⟩
set_option maxRecDepth 100000 in
set_option maxHeartbeats 2000000 in
theorem gc_uI (w0 W : World) (gr g : Nat) (A : Option Addr) (c a : Nat) (xs : List Int) (hD : Get.Data w0 A c xs) (ha : a ≤ xs.length) (hb : Below w0.heap.size w0 W) (hgr : w0.heap.size ≤ gr) (hE : Eye W gr A xs.length c a) (hne : g ≠ gr) (base : Nat) (hbW : base ≤ W.heap.size) (y : Note) (cs : List Value) (hm : k34.M W base (fun _ => True) y cs) (hbx : W.heap[g]? = some (.cells cs.toArray 34 (0, 0))) :
   Calls Tryz.prog 205 #[.pointer (some ⟨gr, 0, none⟩), .pointer (some ⟨g, 0, none⟩)] W (ReadOk W gr g A xs.length c base (dF .uI xs a y)) := by
 have HD := Aside0.mk hD
 have HB := Aside0.mk hb
 have HE := Aside0.mk hE
 have HM := Aside0.mk hm
 have HX := Aside0.mk hbx
 clear hD hb hE hm hbx
 go_enter Tryz.func205, Tryz.ntmps205
 go_wp2_with fail
 refine (getList_Item 207 (fun args w => by kernel_rfl) dItem w0 W gr A c a xs (get_Item w0 A c xs HD.out) (goes_Item HD.out.bytes) HD.out ha HB.out hgr HE.out).mono ?_
 rintro e w1 ⟨hm1, hn, hs⟩
 cases hr : dLst dItem xs a with
 | none =>
   obtain rfl := hn hr
   have HR := Aside0.mk (show dF .uI xs a y = none by simp only [dF, hr, Option.bind_none])
   exact ⟨rfl, hm1.mono (fun _ _ h => .inl h), (fun _ => rfl), fun y' a' h => by rw [HR.out] at h; cases h⟩
 | some p =>
   obtain ⟨x, a1⟩ := p
   obtain ⟨v, rfl, ho, he⟩ := hs _ _ hr
   have HR := Aside0.mk (show dF .uI xs a y = _ by simp only [dF, hr, Option.bind_some]; rfl)
   obtain ⟨A2, n2, c2, rfl⟩ : ∃ A n c, v = .slice A n c := (by obtain ⟨A, c, h⟩ := Kd.R_slice ho; exact ⟨A, _, c, h⟩)
   have HO := Aside0.mk (Kd.R_lower ho hbW)
   clear ho
   have HX1 := Aside0.mk (hm1.blk HX.out hne)
   have HM1 := Aside0.mk (Get.M_moved HM.out HE.out (by decide) hm1)
   have HV1 := Aside0.mk (hm1.mono (S' := fun k => k = gr ∨ k = g) (fun _ _ h => .inl h))
   have HE1 := Aside0.mk he
   have hl := note_cells HM.out
   obtain ⟨u19, hu19⟩ := hl 19 (by omega)
   have hc19 := (blk_cell HX1.out 19).trans hu19
   have hf19 := blk_frozen HX1.out 19
   clear hl hm1 hn hs he hr
   go_wp2_with fail
   first | go_end0 | refine bodyPost_ret (results_none rfl _ _ _) rfl ?_
   have HXF := (blk_set HX1.out 19 (.slice A2 n2 c2))
   have HMF := (M_set HM1.out HX1.out 19 (.slice A2 n2 c2))
   have HEF : Eye _ gr A xs.length c a1 := (blk_far (p := ⟨g, 19, none⟩) HE1.out (fun h => hne h.symm) (.slice A2 n2 c2))
   have HVF := (HV1.out).set_ (p := ⟨g, 19, none⟩) (.inl (.inr rfl)) (.slice A2 n2 c2)
   have HL19 := (Kd.R_set HO.out HX1.out (by decide) 19 (.slice A2 n2 c2))
   obtain ⟨v11, v12, v16, v17, v18, v19, hcs, g11, g12, g16, g17, g18, g19⟩ := k34_openM HMF
   subst hcs
   refine ⟨HVF, (fun h => by rw [HR.out] at h; cases h), fun y' a' h => ?_⟩
   rw [HR.out] at h
   simp only [Option.some.injEq, Prod.mk.injEq] at h
   obtain ⟨rfl, rfl⟩ := h
   exact ⟨rfl, HEF, _, k34_mkM _ base _ { y with f14 := x } g11 g12 g16 g17 g18 HL19, by simpa using HXF⟩
set_option maxRecDepth 100000 in
set_option maxHeartbeats 2000000 in
theorem gc_uP (w0 W : World) (gr g : Nat) (A : Option Addr) (c a : Nat) (xs : List Int) (hD : Get.Data w0 A c xs) (ha : a ≤ xs.length) (hb : Below w0.heap.size w0 W) (hgr : w0.heap.size ≤ gr) (hE : Eye W gr A xs.length c a) (hne : g ≠ gr) (base : Nat) (hbW : base ≤ W.heap.size) (y : Note) (cs : List Value) (hm : k34.M W base (fun _ => True) y cs) (hbx : W.heap[g]? = some (.cells cs.toArray 34 (0, 0))) :
   Calls Tryz.prog 214 #[.pointer (some ⟨gr, 0, none⟩), .pointer (some ⟨g, 0, none⟩)] W (ReadOk W gr g A xs.length c base (dF .uP xs a y)) := by
 have HD := Aside0.mk hD
 have HB := Aside0.mk hb
 have HE := Aside0.mk hE
 have HM := Aside0.mk hm
 have HX := Aside0.mk hbx
 clear hD hb hE hm hbx
 go_enter Tryz.func214, Tryz.ntmps214
 go_wp2_with fail
 refine (getList_Part 216 (fun args w => by kernel_rfl) dPart w0 W gr A c a xs (get_Part w0 A c xs HD.out) (goes_Part HD.out.bytes) HD.out ha HB.out hgr HE.out).mono ?_
 rintro e w1 ⟨hm1, hn, hs⟩
 cases hr : dLst dPart xs a with
 | none =>
   obtain rfl := hn hr
   have HR := Aside0.mk (show dF .uP xs a y = none by simp only [dF, hr, Option.bind_none])
   exact ⟨rfl, hm1.mono (fun _ _ h => .inl h), (fun _ => rfl), fun y' a' h => by rw [HR.out] at h; cases h⟩
 | some p =>
   obtain ⟨x, a1⟩ := p
   obtain ⟨v, rfl, ho, he⟩ := hs _ _ hr
   have HR := Aside0.mk (show dF .uP xs a y = _ by simp only [dF, hr, Option.bind_some]; rfl)
   obtain ⟨A2, n2, c2, rfl⟩ : ∃ A n c, v = .slice A n c := (by obtain ⟨A, c, h⟩ := Kd.R_slice ho; exact ⟨A, _, c, h⟩)
   have HO := Aside0.mk (Kd.R_lower ho hbW)
   clear ho
   have HX1 := Aside0.mk (hm1.blk HX.out hne)
   have HM1 := Aside0.mk (Get.M_moved HM.out HE.out (by decide) hm1)
   have HV1 := Aside0.mk (hm1.mono (S' := fun k => k = gr ∨ k = g) (fun _ _ h => .inl h))
   have HE1 := Aside0.mk he
   have hl := note_cells HM.out
   obtain ⟨u18, hu18⟩ := hl 18 (by omega)
   have hc18 := (blk_cell HX1.out 18).trans hu18
   have hf18 := blk_frozen HX1.out 18
   clear hl hm1 hn hs he hr
   go_wp2_with fail
   first | go_end0 | refine bodyPost_ret (results_none rfl _ _ _) rfl ?_
   have HXF := (blk_set HX1.out 18 (.slice A2 n2 c2))
   have HMF := (M_set HM1.out HX1.out 18 (.slice A2 n2 c2))
   have HEF : Eye _ gr A xs.length c a1 := (blk_far (p := ⟨g, 18, none⟩) HE1.out (fun h => hne h.symm) (.slice A2 n2 c2))
   have HVF := (HV1.out).set_ (p := ⟨g, 18, none⟩) (.inl (.inr rfl)) (.slice A2 n2 c2)
   have HL18 := (Kd.R_set HO.out HX1.out (by decide) 18 (.slice A2 n2 c2))
   obtain ⟨v11, v12, v16, v17, v18, v19, hcs, g11, g12, g16, g17, g18, g19⟩ := k34_openM HMF
   subst hcs
   refine ⟨HVF, (fun h => by rw [HR.out] at h; cases h), fun y' a' h => ?_⟩
   rw [HR.out] at h
   simp only [Option.some.injEq, Prod.mk.injEq] at h
   obtain ⟨rfl, rfl⟩ := h
   exact ⟨rfl, HEF, _, k34_mkM _ base _ { y with f13 := x } g11 g12 g16 g17 HL18 g19, by simpa using HXF⟩
set_option maxRecDepth 100000 in
set_option maxHeartbeats 2000000 in
theorem gc_ly (w0 W : World) (gr g : Nat) (A : Option Addr) (c a : Nat) (xs : List Int) (hD : Get.Data w0 A c xs) (ha : a ≤ xs.length) (hb : Below w0.heap.size w0 W) (hgr : w0.heap.size ≤ gr) (hE : Eye W gr A xs.length c a) (hne : g ≠ gr) (base : Nat) (hbW : base ≤ W.heap.size) (y : Note) (cs : List Value) (hm : k34.M W base (fun _ => True) y cs) (hbx : W.heap[g]? = some (.cells cs.toArray 34 (0, 0))) :
   Calls Tryz.prog 182 #[.pointer (some ⟨gr, 0, none⟩), .pointer (some ⟨g, 0, none⟩)] W (ReadOk W gr g A xs.length c base (dF .ly xs a y)) := by
 have HD := Aside0.mk hD
 have HB := Aside0.mk hb
 have HE := Aside0.mk hE
 have HM := Aside0.mk hm
 have HX := Aside0.mk hbx
 clear hD hb hE hm hbx
 go_enter Tryz.func182, Tryz.ntmps182
 go_wp2_with fail
 refine (get_Reply w0 A c xs HD.out W gr a ha HB.out hgr HE.out).mono ?_
 rintro e w1 ⟨hm1, hn, hs⟩
 cases hr : dReply xs a with
 | none =>
   obtain rfl := hn hr
   have HR := Aside0.mk (show dF .ly xs a y = none by simp only [dF, hr, Option.bind_none])
   exact ⟨rfl, hm1.mono (fun _ _ h => .inl h), (fun _ => rfl), fun y' a' h => by rw [HR.out] at h; cases h⟩
 | some p =>
   obtain ⟨x, a1⟩ := p
   obtain ⟨v, rfl, ⟨cs2, rfl, hy⟩, he⟩ := hs _ _ hr
   have HR := Aside0.mk (show dF .ly xs a y = _ by simp only [dF, hr, Option.bind_some]; rfl)
   obtain ⟨v3, hcs2, ho⟩ := k29_openM hy
   subst hcs2
   obtain ⟨A2, n2, c2, rfl⟩ : ∃ A n c, v3 = .slice A n c := (by obtain ⟨A, c, h⟩ := Kd.R_slice ho; exact ⟨A, _, c, h⟩)
   have HO := Aside0.mk (Kd.R_lower ho hbW)
   clear ho hy
   have HX1 := Aside0.mk (hm1.blk HX.out hne)
   have HM1 := Aside0.mk (Get.M_moved HM.out HE.out (by decide) hm1)
   have HV1 := Aside0.mk (hm1.mono (S' := fun k => k = gr ∨ k = g) (fun _ _ h => .inl h))
   have HE1 := Aside0.mk he
   have hl := note_cells HM.out
   obtain ⟨u13, hu13⟩ := hl 13 (by omega)
   have hc13 := (blk_cell HX1.out 13).trans hu13
   have hf13 := blk_frozen HX1.out 13
   obtain ⟨u14, hu14⟩ := hl 14 (by omega)
   have hc14 := (blk_cell HX1.out 14).trans hu14
   have hf14 := blk_frozen HX1.out 14
   obtain ⟨u15, hu15⟩ := hl 15 (by omega)
   have hc15 := (blk_cell HX1.out 15).trans hu15
   have hf15 := blk_frozen HX1.out 15
   obtain ⟨u16, hu16⟩ := hl 16 (by omega)
   have hc16 := (blk_cell HX1.out 16).trans hu16
   have hf16 := blk_frozen HX1.out 16
   clear hl hm1 hn hs he hr
   go_wp2_with fail
   first | go_end0 | refine bodyPost_ret (results_none rfl _ _ _) rfl ?_
   have HXF := (blk_set (blk_set (blk_set (blk_set HX1.out 13 (.int .i64 x.f0)) 14 (.int .i64 x.f1)) 15 (.int .i64 x.f2)) 16 (.slice A2 n2 c2))
   have HMF := (M_set (M_set (M_set (M_set HM1.out HX1.out 13 (.int .i64 x.f0)) (blk_set HX1.out 13 (.int .i64 x.f0)) 14 (.int .i64 x.f1)) (blk_set (blk_set HX1.out 13 (.int .i64 x.f0)) 14 (.int .i64 x.f1)) 15 (.int .i64 x.f2)) (blk_set (blk_set (blk_set HX1.out 13 (.int .i64 x.f0)) 14 (.int .i64 x.f1)) 15 (.int .i64 x.f2)) 16 (.slice A2 n2 c2))
   have HEF : Eye _ gr A xs.length c a1 := (blk_far (p := ⟨g, 16, none⟩) (blk_far (p := ⟨g, 15, none⟩) (blk_far (p := ⟨g, 14, none⟩) (blk_far (p := ⟨g, 13, none⟩) HE1.out (fun h => hne h.symm) (.int .i64 x.f0)) (fun h => hne h.symm) (.int .i64 x.f1)) (fun h => hne h.symm) (.int .i64 x.f2)) (fun h => hne h.symm) (.slice A2 n2 c2))
   have HVF := ((((HV1.out).set_ (p := ⟨g, 13, none⟩) (.inl (.inr rfl)) (.int .i64 x.f0)).set_ (p := ⟨g, 14, none⟩) (.inl (.inr rfl)) (.int .i64 x.f1)).set_ (p := ⟨g, 15, none⟩) (.inl (.inr rfl)) (.int .i64 x.f2)).set_ (p := ⟨g, 16, none⟩) (.inl (.inr rfl)) (.slice A2 n2 c2)
   have HL16 := (Kd.R_set (Kd.R_set (Kd.R_set (Kd.R_set HO.out HX1.out (by decide) 13 (.int .i64 x.f0)) (blk_set HX1.out 13 (.int .i64 x.f0)) (by decide) 14 (.int .i64 x.f1)) (blk_set (blk_set HX1.out 13 (.int .i64 x.f0)) 14 (.int .i64 x.f1)) (by decide) 15 (.int .i64 x.f2)) (blk_set (blk_set (blk_set HX1.out 13 (.int .i64 x.f0)) 14 (.int .i64 x.f1)) 15 (.int .i64 x.f2)) (by decide) 16 (.slice A2 n2 c2))
   obtain ⟨v11, v12, v16, v17, v18, v19, hcs, g11, g12, g16, g17, g18, g19⟩ := k34_openM HMF
   subst hcs
   refine ⟨HVF, (fun h => by rw [HR.out] at h; cases h), fun y' a' h => ?_⟩
   rw [HR.out] at h
   simp only [Option.some.injEq, Prod.mk.injEq] at h
   obtain ⟨rfl, rfl⟩ := h
   exact ⟨rfl, HEF, _, k34_mkM _ base _ { y with f11 := x } g11 g12 HL16 g17 g18 g19, by simpa using HXF⟩
set_option maxRecDepth 100000 in
set_option maxHeartbeats 2000000 in
theorem gc_la (w0 W : World) (gr g : Nat) (A : Option Addr) (c a : Nat) (xs : List Int) (hD : Get.Data w0 A c xs) (ha : a ≤ xs.length) (hb : Below w0.heap.size w0 W) (hgr : w0.heap.size ≤ gr) (hE : Eye W gr A xs.length c a) (hne : g ≠ gr) (base : Nat) (hbW : base ≤ W.heap.size) (y : Note) (cs : List Value) (hm : k34.M W base (fun _ => True) y cs) (hbx : W.heap[g]? = some (.cells cs.toArray 34 (0, 0))) :
   Calls Tryz.prog 188 #[.pointer (some ⟨gr, 0, none⟩), .pointer (some ⟨g, 0, none⟩)] W (ReadOk W gr g A xs.length c base (dF .la xs a y)) := by
 have HD := Aside0.mk hD
 have HB := Aside0.mk hb
 have HE := Aside0.mk hE
 have HM := Aside0.mk hm
 have HX := Aside0.mk hbx
 clear hD hb hE hm hbx
 go_enter Tryz.func188, Tryz.ntmps188
 go_wp2_with fail
 refine (rtxt w0 W gr A c a xs HD.out ha HB.out hgr HE.out).mono ?_
 rintro e w1 ⟨hm1, hn, hs⟩
 cases hr : dTxt xs a with
 | none =>
   obtain rfl := hn hr
   have HR := Aside0.mk (show dF .la xs a y = none by simp only [dF, hr, Option.bind_none])
   exact ⟨rfl, hm1.mono (fun _ _ h => .inl h), (fun _ => rfl), fun y' a' h => by rw [HR.out] at h; cases h⟩
 | some p =>
   obtain ⟨x, a1⟩ := p
   obtain ⟨v, rfl, rfl, he⟩ := hs _ _ hr
   have HR := Aside0.mk (show dF .la xs a y = _ by simp only [dF, hr, Option.bind_some]; rfl)
   have HX1 := Aside0.mk (hm1.blk HX.out hne)
   have HM1 := Aside0.mk (Get.M_moved HM.out HE.out (by decide) hm1)
   have HV1 := Aside0.mk (hm1.mono (S' := fun k => k = gr ∨ k = g) (fun _ _ h => .inl h))
   have HE1 := Aside0.mk he
   have hl := note_cells HM.out
   obtain ⟨u20, hu20⟩ := hl 20 (by omega)
   have hc20 := (blk_cell HX1.out 20).trans hu20
   have hf20 := blk_frozen HX1.out 20
   clear hl hm1 hn hs he hr
   go_wp2_with fail
   first | go_end0 | refine bodyPost_ret (results_none rfl _ _ _) rfl ?_
   have HXF := (blk_set HX1.out 20 (.string x))
   have HMF := (M_set HM1.out HX1.out 20 (.string x))
   have HEF : Eye _ gr A xs.length c a1 := (blk_far (p := ⟨g, 20, none⟩) HE1.out (fun h => hne h.symm) (.string x))
   have HVF := (HV1.out).set_ (p := ⟨g, 20, none⟩) (.inl (.inr rfl)) (.string x)
   obtain ⟨v11, v12, v16, v17, v18, v19, hcs, g11, g12, g16, g17, g18, g19⟩ := k34_openM HMF
   subst hcs
   refine ⟨HVF, (fun h => by rw [HR.out] at h; cases h), fun y' a' h => ?_⟩
   rw [HR.out] at h
   simp only [Option.some.injEq, Prod.mk.injEq] at h
   obtain ⟨rfl, rfl⟩ := h
   exact ⟨rfl, HEF, _, k34_mkM _ base _ { y with f15 := x } g11 g12 g16 g17 g18 g19, by simpa using HXF⟩
set_option maxRecDepth 100000 in
set_option maxHeartbeats 2000000 in
theorem gc_le (w0 W : World) (gr g : Nat) (A : Option Addr) (c a : Nat) (xs : List Int) (hD : Get.Data w0 A c xs) (ha : a ≤ xs.length) (hb : Below w0.heap.size w0 W) (hgr : w0.heap.size ≤ gr) (hE : Eye W gr A xs.length c a) (hne : g ≠ gr) (base : Nat) (hbW : base ≤ W.heap.size) (y : Note) (cs : List Value) (hm : k34.M W base (fun _ => True) y cs) (hbx : W.heap[g]? = some (.cells cs.toArray 34 (0, 0))) :
   Calls Tryz.prog 236 #[.pointer (some ⟨gr, 0, none⟩), .pointer (some ⟨g, 0, none⟩)] W (ReadOk W gr g A xs.length c base (dF .le xs a y)) := by
 have HD := Aside0.mk hD
 have HB := Aside0.mk hb
 have HE := Aside0.mk hE
 have HM := Aside0.mk hm
 have HX := Aside0.mk hbx
 clear hD hb hE hm hbx
 go_enter Tryz.func236, Tryz.ntmps236
 go_wp2_with fail
 refine (rnum w0 W gr A c a xs HD.out ha HB.out hgr HE.out).mono ?_
 rintro e w1 ⟨hm1, hn, hs⟩
 cases hr : dNum xs a with
 | none =>
   obtain rfl := hn hr
   have HR := Aside0.mk (show dF .le xs a y = none by simp only [dF, hr, Option.bind_none])
   exact ⟨rfl, hm1.mono (fun _ _ h => .inl h), (fun _ => rfl), fun y' a' h => by rw [HR.out] at h; cases h⟩
 | some p =>
   obtain ⟨x, a1⟩ := p
   obtain ⟨v, rfl, rfl, he⟩ := hs _ _ hr
   have HR := Aside0.mk (show dF .le xs a y = _ by simp only [dF, hr, Option.bind_some]; rfl)
   have HX1 := Aside0.mk (hm1.blk HX.out hne)
   have HM1 := Aside0.mk (Get.M_moved HM.out HE.out (by decide) hm1)
   have HV1 := Aside0.mk (hm1.mono (S' := fun k => k = gr ∨ k = g) (fun _ _ h => .inl h))
   have HE1 := Aside0.mk he
   have hl := note_cells HM.out
   obtain ⟨u10, hu10⟩ := hl 10 (by omega)
   have hc10 := (blk_cell HX1.out 10).trans hu10
   have hf10 := blk_frozen HX1.out 10
   clear hl hm1 hn hs he hr
   go_wp2_with fail
   first | go_end0 | refine bodyPost_ret (results_none rfl _ _ _) rfl ?_
   have HXF := (blk_set HX1.out 10 (.int .i64 x))
   have HMF := (M_set HM1.out HX1.out 10 (.int .i64 x))
   have HEF : Eye _ gr A xs.length c a1 := (blk_far (p := ⟨g, 10, none⟩) HE1.out (fun h => hne h.symm) (.int .i64 x))
   have HVF := (HV1.out).set_ (p := ⟨g, 10, none⟩) (.inl (.inr rfl)) (.int .i64 x)
   obtain ⟨v11, v12, v16, v17, v18, v19, hcs, g11, g12, g16, g17, g18, g19⟩ := k34_openM HMF
   subst hcs
   refine ⟨HVF, (fun h => by rw [HR.out] at h; cases h), fun y' a' h => ?_⟩
   rw [HR.out] at h
   simp only [Option.some.injEq, Prod.mk.injEq] at h
   obtain ⟨rfl, rfl⟩ := h
   exact ⟨rfl, HEF, _, k34_mkM _ base _ { y with f8 := x } g11 g12 g16 g17 g18 g19, by simpa using HXF⟩
set_option maxRecDepth 100000 in
set_option maxHeartbeats 2000000 in
theorem gc_lv (w0 W : World) (gr g : Nat) (A : Option Addr) (c a : Nat) (xs : List Int) (hD : Get.Data w0 A c xs) (ha : a ≤ xs.length) (hb : Below w0.heap.size w0 W) (hgr : w0.heap.size ≤ gr) (hE : Eye W gr A xs.length c a) (hne : g ≠ gr) (base : Nat) (hbW : base ≤ W.heap.size) (y : Note) (cs : List Value) (hm : k34.M W base (fun _ => True) y cs) (hbx : W.heap[g]? = some (.cells cs.toArray 34 (0, 0))) :
   Calls Tryz.prog 240 #[.pointer (some ⟨gr, 0, none⟩), .pointer (some ⟨g, 0, none⟩)] W (ReadOk W gr g A xs.length c base (dF .lv xs a y)) := by
 have HD := Aside0.mk hD
 have HB := Aside0.mk hb
 have HE := Aside0.mk hE
 have HM := Aside0.mk hm
 have HX := Aside0.mk hbx
 clear hD hb hE hm hbx
 go_enter Tryz.func240, Tryz.ntmps240
 go_wp2_with fail
 have HV0 := Aside0.mk (Moved.refl W (fun k => k = gr))
 have ha0 := ha
 refine (rnum w0 W gr A c a xs HD.out ha0 (HV0.out.above HB.out (fun k hk => by omega)) hgr HE.out).mono ?_
 rintro e w1 ⟨hm1, hn, hs⟩
 cases hr : dNum xs a with
 | none =>
   obtain rfl := hn hr
   have HR := Aside0.mk (show dF .lv xs a y = none by simp only [dF, hr, Option.bind_none, Option.bind_some])
   exact ⟨rfl, (HV0.out.trans hm1 (fun _ _ h => h)).mono (fun _ _ h => .inl h), (fun _ => rfl), fun y' a' h => by rw [HR.out] at h; cases h⟩
 | some p =>
   obtain ⟨x0, a1⟩ := p
   obtain ⟨v, rfl, rfl, he⟩ := hs _ _ hr
   have ha1 := goes_num HD.out.bytes _ _ _ ha0 hr
   have HI0 := Aside0.mk hr
   have HE1 := Aside0.mk he
   have HV1 := Aside0.mk (HV0.out.trans hm1 (fun _ _ h => h))
   clear hm1 hn hs he hr
   go_wp2_with fail
   refine (rnum w0 w1 gr A c a1 xs HD.out ha1 (HV1.out.above HB.out (fun k hk => by omega)) hgr HE1.out).mono ?_
   rintro e w2 ⟨hm1, hn, hs⟩
   cases hr : dNum xs a1 with
   | none =>
     obtain rfl := hn hr
     have HR := Aside0.mk (show dF .lv xs a y = none by simp only [dF, HI0.out, hr, Option.bind_none, Option.bind_some])
     exact ⟨rfl, (HV1.out.trans hm1 (fun _ _ h => h)).mono (fun _ _ h => .inl h), (fun _ => rfl), fun y' a' h => by rw [HR.out] at h; cases h⟩
   | some p =>
     obtain ⟨x1, a2⟩ := p
     obtain ⟨v, rfl, rfl, he⟩ := hs _ _ hr
     have ha2 := goes_num HD.out.bytes _ _ _ ha1 hr
     have HI1 := Aside0.mk hr
     have HE2 := Aside0.mk he
     have HV2 := Aside0.mk (HV1.out.trans hm1 (fun _ _ h => h))
     clear hm1 hn hs he hr
     go_wp2_with fail
     refine (rnum w0 w2 gr A c a2 xs HD.out ha2 (HV2.out.above HB.out (fun k hk => by omega)) hgr HE2.out).mono ?_
     rintro e w3 ⟨hm1, hn, hs⟩
     cases hr : dNum xs a2 with
     | none =>
       obtain rfl := hn hr
       have HR := Aside0.mk (show dF .lv xs a y = none by simp only [dF, HI0.out, HI1.out, hr, Option.bind_none, Option.bind_some])
       exact ⟨rfl, (HV2.out.trans hm1 (fun _ _ h => h)).mono (fun _ _ h => .inl h), (fun _ => rfl), fun y' a' h => by rw [HR.out] at h; cases h⟩
     | some p =>
       obtain ⟨x2, a3⟩ := p
       obtain ⟨v, rfl, rfl, he⟩ := hs _ _ hr
       have ha3 := goes_num HD.out.bytes _ _ _ ha2 hr
       have HI2 := Aside0.mk hr
       have HE3 := Aside0.mk he
       have HV3 := Aside0.mk (HV2.out.trans hm1 (fun _ _ h => h))
       clear hm1 hn hs he hr
       have HR := Aside0.mk (show dF .lv xs a y = _ by simp only [dF, HI0.out, HI1.out, HI2.out, Option.bind_some]; rfl)
       have HX1 := Aside0.mk (HV3.out.blk HX.out hne)
       have HM1 := Aside0.mk (Get.M_moved HM.out HE.out (by decide) HV3.out)
       have HV1 := Aside0.mk (HV3.out.mono (S' := fun k => k = gr ∨ k = g) (fun _ _ h => .inl h))
       have hl := note_cells HM.out
       obtain ⟨u1, hu1⟩ := hl 1 (by omega)
       have hc1 := (blk_cell HX1.out 1).trans hu1
       have hf1 := blk_frozen HX1.out 1
       obtain ⟨u2, hu2⟩ := hl 2 (by omega)
       have hc2 := (blk_cell HX1.out 2).trans hu2
       have hf2 := blk_frozen HX1.out 2
       obtain ⟨u3, hu3⟩ := hl 3 (by omega)
       have hc3 := (blk_cell HX1.out 3).trans hu3
       have hf3 := blk_frozen HX1.out 3
       clear hl
       go_wp2_with fail
       first | go_end0 | refine bodyPost_ret (results_none rfl _ _ _) rfl ?_
       have HXF := (blk_set (blk_set (blk_set HX1.out 1 (.int .i64 x0)) 2 (.int .i64 x1)) 3 (.int .i64 x2))
       have HMF := (M_set (M_set (M_set HM1.out HX1.out 1 (.int .i64 x0)) (blk_set HX1.out 1 (.int .i64 x0)) 2 (.int .i64 x1)) (blk_set (blk_set HX1.out 1 (.int .i64 x0)) 2 (.int .i64 x1)) 3 (.int .i64 x2))
       have HEF : Eye _ gr A xs.length c a3 := (blk_far (p := ⟨g, 3, none⟩) (blk_far (p := ⟨g, 2, none⟩) (blk_far (p := ⟨g, 1, none⟩) HE3.out (fun h => hne h.symm) (.int .i64 x0)) (fun h => hne h.symm) (.int .i64 x1)) (fun h => hne h.symm) (.int .i64 x2))
       have HVF := (((HV1.out).set_ (p := ⟨g, 1, none⟩) (.inl (.inr rfl)) (.int .i64 x0)).set_ (p := ⟨g, 2, none⟩) (.inl (.inr rfl)) (.int .i64 x1)).set_ (p := ⟨g, 3, none⟩) (.inl (.inr rfl)) (.int .i64 x2)
       obtain ⟨v11, v12, v16, v17, v18, v19, hcs, g11, g12, g16, g17, g18, g19⟩ := k34_openM HMF
       subst hcs
       refine ⟨HVF, (fun h => by rw [HR.out] at h; cases h), fun y' a' h => ?_⟩
       rw [HR.out] at h
       simp only [Option.some.injEq, Prod.mk.injEq] at h
       obtain ⟨rfl, rfl⟩ := h
       exact ⟨rfl, HEF, _, k34_mkM _ base _ { y with f1 := ⟨x0, x1, x2⟩ } g11 g12 g16 g17 g18 g19, by simpa using HXF⟩
theorem M_moved2 {α : Type} {d : Kd α} {w w1 : World} {base g g' : Nat} {x : α} {cs : List Value} {t t' : Nat} {cells cells' : Array Value} (h : d.M w base (fun _ => True) x cs) (hb : w.heap[g]? = some (.cells cells t (0, 0))) (hb' : w.heap[g']? = some (.cells cells' t' (0, 0))) (ht : ∀ q, q ∈ d.E → q ≠ t) (ht' : ∀ q, q ∈ d.E → q ≠ t') (hm : Moved w w1 (fun k => k = g ∨ k = g')) : d.M w1 base (fun _ => True) x cs :=
 d.M_mono (fun _ _ => trivial) (Kd.M_step (Kd.M_types (Kd.M_types h hb ht) hb' ht') (fun k hk hl => hm.block k hl (fun hs => hs.elim hk.1.2 hk.2)))
theorem c_read (l : Ltr) (w0 W : World) (gr g : Nat) (A : Option Addr) (c a : Nat) (xs : List Int) (hD : Get.Data w0 A c xs) (ha : a ≤ xs.length) (hb : Below w0.heap.size w0 W) (hgr : w0.heap.size ≤ gr) (hE : Eye W gr A xs.length c a) (hne : g ≠ gr) (base : Nat) (hbW : base ≤ W.heap.size) (y : Note) (cs : List Value) (hm : k34.M W base (fun _ => True) y cs) (hbx : W.heap[g]? = some (.cells cs.toArray 34 (0, 0))) :
  Calls Tryz.prog 68 #[.agg (fCells l).toArray, .pointer (some ⟨gr, 0, none⟩), .pointer (some ⟨g, 0, none⟩)] W (ReadOk W gr g A xs.length c base (dF l xs a y)) := by
 cases l
 case ln =>
  have hv : cs.toArray[1]? = some (.int .i64 y.f1.f0) := by
    obtain ⟨v11, v12, v16, v17, v18, v19, hcs, _⟩ := k34_openM hm
    rw [hcs]
    rfl
  have hi : 1 < cs.toArray.size := (Array.getElem?_eq_some_iff.1 hv).1
  refine (read_num _ 1 (fun _ _ => by kernel_rfl) n_ln 1 y.f1.f0 w0 W gr g A c a xs hD ha hb hgr hE hne cs.toArray hbx hi hv).mono ?_
  rintro e W' ⟨h1, h2, h3⟩
  refine ⟨h1, fun h => h2 ?_, fun y' a' h => ?_⟩
  · cases hr : dNum xs a with
    | none => rfl
    | some p => simp [dF, hr] at h
  · cases hr : dNum xs a with
    | none => simp [dF, hr] at h
    | some p =>
      obtain ⟨v, a1⟩ := p
      simp only [dF, hr, Option.bind_some, Option.some.injEq, Prod.mk.injEq] at h
      obtain ⟨rfl, rfl⟩ := h
      obtain ⟨h4, h5, h6⟩ := h3 v a1 hr
      have hM := M_moved2 hm hE hbx (by decide) (by decide) h1
      obtain ⟨v11, v12, v16, v17, v18, v19, hcs, g11, g12, g16, g17, g18, g19⟩ := k34_openM hM
      subst hcs
      exact ⟨h4, h5, _, k34_mkM _ base _ ({ y with f1 := { y.f1 with f0 := v } }) g11 g12 g16 g17 g18 g19, by simpa using h6⟩
 case ls =>
  have hv : cs.toArray[4]? = some (.int .i64 y.f2) := by
    obtain ⟨v11, v12, v16, v17, v18, v19, hcs, _⟩ := k34_openM hm
    rw [hcs]
    rfl
  have hi : 4 < cs.toArray.size := (Array.getElem?_eq_some_iff.1 hv).1
  refine (read_num _ 4 (fun _ _ => by kernel_rfl) n_ls 1 y.f2 w0 W gr g A c a xs hD ha hb hgr hE hne cs.toArray hbx hi hv).mono ?_
  rintro e W' ⟨h1, h2, h3⟩
  refine ⟨h1, fun h => h2 ?_, fun y' a' h => ?_⟩
  · cases hr : dNum xs a with
    | none => rfl
    | some p => simp [dF, hr] at h
  · cases hr : dNum xs a with
    | none => simp [dF, hr] at h
    | some p =>
      obtain ⟨v, a1⟩ := p
      simp only [dF, hr, Option.bind_some, Option.some.injEq, Prod.mk.injEq] at h
      obtain ⟨rfl, rfl⟩ := h
      obtain ⟨h4, h5, h6⟩ := h3 v a1 hr
      have hM := M_moved2 hm hE hbx (by decide) (by decide) h1
      obtain ⟨v11, v12, v16, v17, v18, v19, hcs, g11, g12, g16, g17, g18, g19⟩ := k34_openM hM
      subst hcs
      exact ⟨h4, h5, _, k34_mkM _ base _ ({ y with f2 := v }) g11 g12 g16 g17 g18 g19, by simpa using h6⟩
 case lc =>
  have hv : cs.toArray[5]? = some (.int .i64 y.f3) := by
    obtain ⟨v11, v12, v16, v17, v18, v19, hcs, _⟩ := k34_openM hm
    rw [hcs]
    rfl
  have hi : 5 < cs.toArray.size := (Array.getElem?_eq_some_iff.1 hv).1
  refine (read_num _ 5 (fun _ _ => by kernel_rfl) n_lc 1 y.f3 w0 W gr g A c a xs hD ha hb hgr hE hne cs.toArray hbx hi hv).mono ?_
  rintro e W' ⟨h1, h2, h3⟩
  refine ⟨h1, fun h => h2 ?_, fun y' a' h => ?_⟩
  · cases hr : dNum xs a with
    | none => rfl
    | some p => simp [dF, hr] at h
  · cases hr : dNum xs a with
    | none => simp [dF, hr] at h
    | some p =>
      obtain ⟨v, a1⟩ := p
      simp only [dF, hr, Option.bind_some, Option.some.injEq, Prod.mk.injEq] at h
      obtain ⟨rfl, rfl⟩ := h
      obtain ⟨h4, h5, h6⟩ := h3 v a1 hr
      have hM := M_moved2 hm hE hbx (by decide) (by decide) h1
      obtain ⟨v11, v12, v16, v17, v18, v19, hcs, g11, g12, g16, g17, g18, g19⟩ := k34_openM hM
      subst hcs
      exact ⟨h4, h5, _, k34_mkM _ base _ ({ y with f3 := v }) g11 g12 g16 g17 g18 g19, by simpa using h6⟩
 case lr =>
  have hv : cs.toArray[6]? = some (.int .i64 y.f4) := by
    obtain ⟨v11, v12, v16, v17, v18, v19, hcs, _⟩ := k34_openM hm
    rw [hcs]
    rfl
  have hi : 6 < cs.toArray.size := (Array.getElem?_eq_some_iff.1 hv).1
  refine (read_num _ 6 (fun _ _ => by kernel_rfl) n_lr 1 y.f4 w0 W gr g A c a xs hD ha hb hgr hE hne cs.toArray hbx hi hv).mono ?_
  rintro e W' ⟨h1, h2, h3⟩
  refine ⟨h1, fun h => h2 ?_, fun y' a' h => ?_⟩
  · cases hr : dNum xs a with
    | none => rfl
    | some p => simp [dF, hr] at h
  · cases hr : dNum xs a with
    | none => simp [dF, hr] at h
    | some p =>
      obtain ⟨v, a1⟩ := p
      simp only [dF, hr, Option.bind_some, Option.some.injEq, Prod.mk.injEq] at h
      obtain ⟨rfl, rfl⟩ := h
      obtain ⟨h4, h5, h6⟩ := h3 v a1 hr
      have hM := M_moved2 hm hE hbx (by decide) (by decide) h1
      obtain ⟨v11, v12, v16, v17, v18, v19, hcs, g11, g12, g16, g17, g18, g19⟩ := k34_openM hM
      subst hcs
      exact ⟨h4, h5, _, k34_mkM _ base _ ({ y with f4 := v }) g11 g12 g16 g17 g18 g19, by simpa using h6⟩
 case lt =>
  have hv : cs.toArray[7]? = some (.int .i64 y.f5) := by
    obtain ⟨v11, v12, v16, v17, v18, v19, hcs, _⟩ := k34_openM hm
    rw [hcs]
    rfl
  have hi : 7 < cs.toArray.size := (Array.getElem?_eq_some_iff.1 hv).1
  refine (read_num _ 7 (fun _ _ => by kernel_rfl) n_lt 0 y.f5 w0 W gr g A c a xs hD ha hb hgr hE hne cs.toArray hbx hi hv).mono ?_
  rintro e W' ⟨h1, h2, h3⟩
  refine ⟨h1, fun h => h2 ?_, fun y' a' h => ?_⟩
  · cases hr : dNum xs a with
    | none => rfl
    | some p => simp [dF, hr] at h
  · cases hr : dNum xs a with
    | none => simp [dF, hr] at h
    | some p =>
      obtain ⟨v, a1⟩ := p
      simp only [dF, hr, Option.bind_some, Option.some.injEq, Prod.mk.injEq] at h
      obtain ⟨rfl, rfl⟩ := h
      obtain ⟨h4, h5, h6⟩ := h3 v a1 hr
      have hM := M_moved2 hm hE hbx (by decide) (by decide) h1
      obtain ⟨v11, v12, v16, v17, v18, v19, hcs, g11, g12, g16, g17, g18, g19⟩ := k34_openM hM
      subst hcs
      exact ⟨h4, h5, _, k34_mkM _ base _ ({ y with f5 := v }) g11 g12 g16 g17 g18 g19, by simpa using h6⟩
 case lf =>
  have hv : cs.toArray[8]? = some (.int .i64 y.f6) := by
    obtain ⟨v11, v12, v16, v17, v18, v19, hcs, _⟩ := k34_openM hm
    rw [hcs]
    rfl
  have hi : 8 < cs.toArray.size := (Array.getElem?_eq_some_iff.1 hv).1
  refine (read_num _ 8 (fun _ _ => by kernel_rfl) n_lf 0 y.f6 w0 W gr g A c a xs hD ha hb hgr hE hne cs.toArray hbx hi hv).mono ?_
  rintro e W' ⟨h1, h2, h3⟩
  refine ⟨h1, fun h => h2 ?_, fun y' a' h => ?_⟩
  · cases hr : dNum xs a with
    | none => rfl
    | some p => simp [dF, hr] at h
  · cases hr : dNum xs a with
    | none => simp [dF, hr] at h
    | some p =>
      obtain ⟨v, a1⟩ := p
      simp only [dF, hr, Option.bind_some, Option.some.injEq, Prod.mk.injEq] at h
      obtain ⟨rfl, rfl⟩ := h
      obtain ⟨h4, h5, h6⟩ := h3 v a1 hr
      have hM := M_moved2 hm hE hbx (by decide) (by decide) h1
      obtain ⟨v11, v12, v16, v17, v18, v19, hcs, g11, g12, g16, g17, g18, g19⟩ := k34_openM hM
      subst hcs
      exact ⟨h4, h5, _, k34_mkM _ base _ ({ y with f6 := v }) g11 g12 g16 g17 g18 g19, by simpa using h6⟩
 case lm =>
  have hv : cs.toArray[9]? = some (.int .i64 y.f7) := by
    obtain ⟨v11, v12, v16, v17, v18, v19, hcs, _⟩ := k34_openM hm
    rw [hcs]
    rfl
  have hi : 9 < cs.toArray.size := (Array.getElem?_eq_some_iff.1 hv).1
  refine (read_num _ 9 (fun _ _ => by kernel_rfl) n_lm 0 y.f7 w0 W gr g A c a xs hD ha hb hgr hE hne cs.toArray hbx hi hv).mono ?_
  rintro e W' ⟨h1, h2, h3⟩
  refine ⟨h1, fun h => h2 ?_, fun y' a' h => ?_⟩
  · cases hr : dNum xs a with
    | none => rfl
    | some p => simp [dF, hr] at h
  · cases hr : dNum xs a with
    | none => simp [dF, hr] at h
    | some p =>
      obtain ⟨v, a1⟩ := p
      simp only [dF, hr, Option.bind_some, Option.some.injEq, Prod.mk.injEq] at h
      obtain ⟨rfl, rfl⟩ := h
      obtain ⟨h4, h5, h6⟩ := h3 v a1 hr
      have hM := M_moved2 hm hE hbx (by decide) (by decide) h1
      obtain ⟨v11, v12, v16, v17, v18, v19, hcs, g11, g12, g16, g17, g18, g19⟩ := k34_openM hM
      subst hcs
      exact ⟨h4, h5, _, k34_mkM _ base _ ({ y with f7 := v }) g11 g12 g16 g17 g18 g19, by simpa using h6⟩
 case uW =>
  have hbA := fun o => below_alloc (Below.refl W.heap.size W) o
  exact read_get _ (fun _ _ => by kernel_rfl) _ _ _ W gr g (ReadOk W gr g A xs.length c base (dF .uW xs a y)) (read_ends) ((gc_uW w0 _ gr g A c a xs hD ha (below_step hb (hbA _)) hgr (blk_below (hbA _) hE) hne base (Nat.le_trans hbW (hbA _).size) y cs (Kd.M_below hm (hbA _)) (blk_below (hbA _) hbx)).mono fun e W' h => ⟨(Moved.of_below (hbA _) (fun k => k = gr ∨ k = g)).trans h.mov (fun _ _ h => h), h.bad, h.good⟩)
 case lw =>
  have hbA := fun o => below_alloc (Below.refl W.heap.size W) o
  exact read_get _ (fun _ _ => by kernel_rfl) _ _ _ W gr g (ReadOk W gr g A xs.length c base (dF .lw xs a y)) (read_ends) ((gc_uW w0 _ gr g A c a xs hD ha (below_step hb (hbA _)) hgr (blk_below (hbA _) hE) hne base (Nat.le_trans hbW (hbA _).size) y cs (Kd.M_below hm (hbA _)) (blk_below (hbA _) hbx)).mono fun e W' h => ⟨(Moved.of_below (hbA _) (fun k => k = gr ∨ k = g)).trans h.mov (fun _ _ h => h), h.bad, h.good⟩)
 case ld =>
  have hbA := fun o => below_alloc (Below.refl W.heap.size W) o
  exact read_get _ (fun _ _ => by kernel_rfl) _ _ _ W gr g (ReadOk W gr g A xs.length c base (dF .ld xs a y)) (read_ends) ((gc_uW w0 _ gr g A c a xs hD ha (below_step hb (hbA _)) hgr (blk_below (hbA _) hE) hne base (Nat.le_trans hbW (hbA _).size) y cs (Kd.M_below hm (hbA _)) (blk_below (hbA _) hbx)).mono fun e W' h => ⟨(Moved.of_below (hbA _) (fun k => k = gr ∨ k = g)).trans h.mov (fun _ _ h => h), h.bad, h.good⟩)
 case uD =>
  have hbA := fun o => below_alloc (Below.refl W.heap.size W) o
  exact read_get _ (fun _ _ => by kernel_rfl) _ _ _ W gr g (ReadOk W gr g A xs.length c base (dF .uD xs a y)) (read_ends) ((gc_uW w0 _ gr g A c a xs hD ha (below_step hb (hbA _)) hgr (blk_below (hbA _) hE) hne base (Nat.le_trans hbW (hbA _).size) y cs (Kd.M_below hm (hbA _)) (blk_below (hbA _) hbx)).mono fun e W' h => ⟨(Moved.of_below (hbA _) (fun k => k = gr ∨ k = g)).trans h.mov (fun _ _ h => h), h.bad, h.good⟩)
 case le =>
  have hbA := fun o => below_alloc (Below.refl W.heap.size W) o
  exact read_get _ (fun _ _ => by kernel_rfl) _ _ _ W gr g (ReadOk W gr g A xs.length c base (dF .le xs a y)) (read_ends) ((gc_le w0 _ gr g A c a xs hD ha (below_step hb (hbA _)) hgr (blk_below (hbA _) hE) hne base (Nat.le_trans hbW (hbA _).size) y cs (Kd.M_below hm (hbA _)) (blk_below (hbA _) hbx)).mono fun e W' h => ⟨(Moved.of_below (hbA _) (fun k => k = gr ∨ k = g)).trans h.mov (fun _ _ h => h), h.bad, h.good⟩)
 case lv =>
  have hbA := fun o => below_alloc (Below.refl W.heap.size W) o
  exact read_get _ (fun _ _ => by kernel_rfl) _ _ _ W gr g (ReadOk W gr g A xs.length c base (dF .lv xs a y)) (read_ends) ((gc_lv w0 _ gr g A c a xs hD ha (below_step hb (hbA _)) hgr (blk_below (hbA _) hE) hne base (Nat.le_trans hbW (hbA _).size) y cs (Kd.M_below hm (hbA _)) (blk_below (hbA _) hbx)).mono fun e W' h => ⟨(Moved.of_below (hbA _) (fun k => k = gr ∨ k = g)).trans h.mov (fun _ _ h => h), h.bad, h.good⟩)
 case ly =>
  have hbA := fun o => below_alloc (Below.refl W.heap.size W) o
  exact read_get _ (fun _ _ => by kernel_rfl) _ _ _ W gr g (ReadOk W gr g A xs.length c base (dF .ly xs a y)) (read_ends) ((gc_ly w0 _ gr g A c a xs hD ha (below_step hb (hbA _)) hgr (blk_below (hbA _) hE) hne base (Nat.le_trans hbW (hbA _).size) y cs (Kd.M_below hm (hbA _)) (blk_below (hbA _) hbx)).mono fun e W' h => ⟨(Moved.of_below (hbA _) (fun k => k = gr ∨ k = g)).trans h.mov (fun _ _ h => h), h.bad, h.good⟩)
 case la =>
  have hbA := fun o => below_alloc (Below.refl W.heap.size W) o
  exact read_get _ (fun _ _ => by kernel_rfl) _ _ _ W gr g (ReadOk W gr g A xs.length c base (dF .la xs a y)) (read_ends) ((gc_la w0 _ gr g A c a xs hD ha (below_step hb (hbA _)) hgr (blk_below (hbA _) hE) hne base (Nat.le_trans hbW (hbA _).size) y cs (Kd.M_below hm (hbA _)) (blk_below (hbA _) hbx)).mono fun e W' h => ⟨(Moved.of_below (hbA _) (fun k => k = gr ∨ k = g)).trans h.mov (fun _ _ h => h), h.bad, h.good⟩)
 case lo =>
  have hbA := fun o => below_alloc (Below.refl W.heap.size W) o
  exact read_get _ (fun _ _ => by kernel_rfl) _ _ _ W gr g (ReadOk W gr g A xs.length c base (dF .lo xs a y)) (read_ends) ((gc_lo w0 _ gr g A c a xs hD ha (below_step hb (hbA _)) hgr (blk_below (hbA _) hE) hne base (Nat.le_trans hbW (hbA _).size) y cs (Kd.M_below hm (hbA _)) (blk_below (hbA _) hbx)).mono fun e W' h => ⟨(Moved.of_below (hbA _) (fun k => k = gr ∨ k = g)).trans h.mov (fun _ _ h => h), h.bad, h.good⟩)
 case uE =>
  have hbA := fun o => below_alloc (Below.refl W.heap.size W) o
  exact read_get _ (fun _ _ => by kernel_rfl) _ _ _ W gr g (ReadOk W gr g A xs.length c base (dF .uE xs a y)) (read_ends) ((gc_uE w0 _ gr g A c a xs hD ha (below_step hb (hbA _)) hgr (blk_below (hbA _) hE) hne base (Nat.le_trans hbW (hbA _).size) y cs (Kd.M_below hm (hbA _)) (blk_below (hbA _) hbx)).mono fun e W' h => ⟨(Moved.of_below (hbA _) (fun k => k = gr ∨ k = g)).trans h.mov (fun _ _ h => h), h.bad, h.good⟩)
 case uI =>
  have hbA := fun o => below_alloc (Below.refl W.heap.size W) o
  exact read_get _ (fun _ _ => by kernel_rfl) _ _ _ W gr g (ReadOk W gr g A xs.length c base (dF .uI xs a y)) (read_ends) ((gc_uI w0 _ gr g A c a xs hD ha (below_step hb (hbA _)) hgr (blk_below (hbA _) hE) hne base (Nat.le_trans hbW (hbA _).size) y cs (Kd.M_below hm (hbA _)) (blk_below (hbA _) hbx)).mono fun e W' h => ⟨(Moved.of_below (hbA _) (fun k => k = gr ∨ k = g)).trans h.mov (fun _ _ h => h), h.bad, h.good⟩)
 case uP =>
  have hbA := fun o => below_alloc (Below.refl W.heap.size W) o
  exact read_get _ (fun _ _ => by kernel_rfl) _ _ _ W gr g (ReadOk W gr g A xs.length c base (dF .uP xs a y)) (read_ends) ((gc_uP w0 _ gr g A c a xs hD ha (below_step hb (hbA _)) hgr (blk_below (hbA _) hE) hne base (Nat.le_trans hbW (hbA _).size) y cs (Kd.M_below hm (hbA _)) (blk_below (hbA _) hbx)).mono fun e W' h => ⟨(Moved.of_below (hbA _) (fun k => k = gr ∨ k = g)).trans h.mov (fun _ _ h => h), h.bad, h.good⟩)
end Go.Proofs.YtmneemhplffemaaGreatDoorRR.Tab
namespace Go.Proofs.YtmneemhplffemaaGreatDoorRR.Tab
open Go.RowKit Go.Proofs.YtmneemhplffemaaGreatDoorRR.Ext Go.Proofs.YtmneemhplffemaaGreatDoorRR.Mem Go.Proofs.YtmneemhplffemaaGreatDoorRR.Get Go.Proofs.YtmneemhplffemaaGreatDoorRR.Row Go.Proofs.YtmneemhplffemaaGreatDoorRRW.PrintWords


theorem catch_flaw (g : Nat) (x : Bool) (older : List PanicEntry) (w : World) (hb : w.heap[g]? = some (.cells #[.bool x] 4 (0, 0))) :
  CallsD Tryz.prog 109 #[.pointer (some ⟨g, 0, none⟩)] (.panicking ({ v := .iface 139 (.agg #[]), recovered := false } :: older)) w fun e u' w' =>
   e = .returned (.tuple #[]) ∧ u' = .panicking ({ v := .iface 139 (.agg #[]), recovered := true } :: older) ∧ Moved w w' (fun k => k = g) ∧ w'.heap[g]? = some (.cells #[.bool false] 4 (0, 0)) := by
 have hb2 := blk_below (below_alloc (Below.refl _ _) (Obj.cells #[] 139 (0, 0))) hb
 have hc2 := blk_cell hb2 0
 have hz2 := blk_frozen hb2 0
 have HX := Aside0.mk (blk_set hb2 0 (.bool false))
 refine callsD_of_wpS Tryz.func109 rfl fun c₀ cs hu => ?_
 apply wpS_seq
 apply wpS_region
 simp [wpOpsS, go_sem, recoverD, hu, Tryz.ntmps109, Exit.thenS]
 refine wpS_of_wp ?_
 change Code.wp _ _ _ { tmps := #[.pointer (some ⟨g, 0, none⟩), .iface 139 (.agg #[]), undef, undef, .iface 139 (.agg #[]), undef, undef, undef, undef, undef, undef, undef, undef, undef, undef], defers := [] } _
 have hta : ∀ w : World, (Instr.typeAssert (.iface 139 (.agg #[])) 20 139 true).run Tryz.prog w = .ok (.tuple #[.agg #[], .bool true]) w := fun _ => by kernel_rfl
 have hno : ∀ (x : Bool) (w : World), (Op.unary .not (.bool x)).run Tryz.prog w = .ok (.bool (!x)) w := fun _ _ => rfl
 go_wp2
 cases c₀
 simp_all [bodyPostS, results, Tryz.results109, Exit.thenS]
 exact ⟨(Moved.of_below (below_alloc (Below.refl _ _) _) (fun k => k = g)).set_ (p := ⟨g, 0, none⟩) (.inl rfl) _, by simpa using HX.out⟩
theorem catch_none (p : Addr) (w : World) :
  CallsD Tryz.prog 109 #[.pointer (some p)] .returning w fun e u' w' => e = .returned (.tuple #[]) ∧ u' = .returning ∧ w' = w := by
 refine callsD_of_wpS Tryz.func109 rfl fun c₀ cs hu => ?_
 apply wpS_seq
 apply wpS_region
 simp [wpOpsS, go_sem, recoverD, hu, Tryz.ntmps109, Exit.thenS]
 refine wpS_of_wp ?_
 change Code.wp _ _ _ { tmps := #[.pointer (some p), .nilIface, undef, undef, .nilIface, undef, undef, undef, undef, undef, undef, undef, undef, undef, undef], defers := [] } _
 go_wp2
 cases c₀
 simp_all [bodyPostS, results, Tryz.results109, Exit.thenS]
set_option maxRecDepth 100000 in
theorem guarded_any (KF : FuncId) (caps : Array Value) (hK : ∀ (args : Array Value) (w : World), (callFunc KF args).run Tryz.prog w = .ok (.enter KF args) w) (W : World) (b : Bool) (Q : World → Prop)
   (hM : Calls Tryz.prog KF caps (W.alloc (Obj.cells #[.bool false] 4 (0, 0))) fun e W' => e = (if b = true then .returned (.tuple #[]) else .panicked flaw) ∧ W'.heap[W.heap.size]? = some (Obj.cells #[.bool false] 4 (0, 0)) ∧ Q W') :
   Calls Tryz.prog 65 #[.func (.func KF) #[] caps] W fun e W' => e = .returned (.bool b) ∧ ∃ W1, Q W1 ∧ Moved W1 W' (fun k => k = W.heap.size) := by
 have HM := Aside0.mk hM
 have hmf : ∀ (fn : Fn) (first cap : Array Value) (w : World), (Instr.makeFunc fn first cap).run Tryz.prog w = .ok (.func fn first cap) w := fun _ _ _ _ => rfl
 clear hM
 go_enter_defers Tryz.func65, Tryz.ntmps65
 go_wp2_with fail
 refine HM.out.mono ?_
 rintro e w1 ⟨he, hx, hq⟩
 have HX := Aside0.mk hx
 have HQ := Aside0.mk hq
 clear hq HM
 cases b with
 | true =>
   simp only [if_true] at he
   subst he
   have hc := blk_cell hx 0
   have hf := blk_frozen hx 0
   have hx2 := blk_cell (blk_set hx 0 (.bool true)) 0
   clear hx
   go_wp2_with fail
   refine leaves_cons (f := 109) (args := #[.pointer (some ⟨W.heap.size, 0, none⟩)]) (by simp) (by simp [go_sem]) ?_
   refine (catch_none ⟨W.heap.size, 0, none⟩ _).mono ?_
   rintro e u' w'' ⟨rfl, rfl, rfl⟩
   simp at hx2
   simp [Leaves, settle, results, Tryz.results65, go_sem, hx2]
   exact ⟨w1, HQ.out, (Moved.refl w1 (fun k => k = W.heap.size)).set_ (p := ⟨W.heap.size, 0, none⟩) (.inl rfl) _⟩
 | false =>
   simp only [Bool.false_eq_true, if_false] at he
   subst he
   refine leaves_cons (f := 109) (args := #[.pointer (some ⟨W.heap.size, 0, none⟩)]) (by simp) (by simp [go_sem]) ?_
   refine (catch_flaw W.heap.size false [] w1 hx).mono ?_
   rintro e u' w'' ⟨rfl, rfl, hm, hx3⟩
   have hx2 := blk_cell hx3 0
   simp at hx2
   simp [Leaves, settle, results, Tryz.results65, go_sem, hx2]
   exact ⟨w1, HQ.out, hm⟩
end Go.Proofs.YtmneemhplffemaaGreatDoorRR.Tab
namespace Go.Proofs.YtmneemhplffemaaGreatDoorRR.Tab
open Go.RowKit Go.Proofs.YtmneemhplffemaaGreatDoorRR.Ord Go.Proofs.YtmneemhplffemaaGreatDoorRR.Name Go.Proofs.YtmneemhplffemaaGreatDoorRR.Ext Go.Proofs.YtmneemhplffemaaGreatDoorRR.Wire Go.Proofs.YtmneemhplffemaaGreatDoorRR.Mem Go.Proofs.YtmneemhplffemaaGreatDoorRR.Put Go.Proofs.YtmneemhplffemaaGreatDoorRR.Get Go.Proofs.YtmneemhplffemaaGreatDoorRR.Law Go.Proofs.YtmneemhplffemaaGreatDoorRR.Row Go.Proofs.YtmneemhplffemaaGreatDoorRR.Ki Go.Proofs.YtmneemhplffemaaGreatDoorRR.Chk Go.Proofs.YtmneemhplffemaaGreatDoorRR.May Go.Proofs.YtmneemhplffemaaGreatDoorRRW.PrintWords


def zeroCells : List Value := [.int .i64 0, .int .i64 0, .int .i64 0, .int .i64 0, .int .i64 0, .int .i64 0, .int .i64 0, .int .i64 0, .int .i64 0, .int .i64 0, .int .i64 0, .slice none 0 0, .slice none 0 0, .int .i64 0, .int .i64 0, .int .i64 0, .slice none 0 0, .slice none 0 0, .slice none 0 0, .slice none 0 0, .string ⟨#[]⟩]
theorem zero_M (w : World) (base : Nat) (k : Int) : k34.M w base (fun _ => True) (zeroNote k) (.int .i64 k :: zeroCells.drop 1) :=
 k34_mkM w base _ (zeroNote k) (Kd.R_nil _ _ _ _ _) (Kd.R_nil _ _ _ _ _) (Kd.R_nil _ _ _ _ _) (Kd.R_nil _ _ _ _ _) (Kd.R_nil _ _ _ _ _) (Kd.R_nil _ _ _ _ _)
theorem goes_F {xs : List Int} (hB : Bytes xs) {l : Ltr} {a a' : Nat} {y y' : Note} (ha : a ≤ xs.length) (h : dF l xs a y = some (y', a')) : a' ≤ xs.length := by
 cases l
 all_goals simp only [dF] at h
 all_goals obtain ⟨p, h0, h⟩ := Option.bind_eq_some_iff.1 h
 case lv =>
  obtain ⟨q, h1, h⟩ := Option.bind_eq_some_iff.1 h
  obtain ⟨r, h2, h⟩ := Option.bind_eq_some_iff.1 h
  simp only [Option.some.injEq, Prod.mk.injEq] at h
  obtain ⟨_, rfl⟩ := h
  exact goes_num hB _ _ _ (goes_num hB _ _ _ (goes_num hB _ _ _ ha h0) h1) h2
 all_goals simp only [Option.some.injEq, Prod.mk.injEq] at h
 all_goals obtain ⟨_, rfl⟩ := h
 case la => exact goes_txt hB _ _ _ ha h0
 case ly => exact goes_Reply hB _ _ _ ha h0
 case uW => exact goes_lst hB (goes_Watch hB) _ _ _ ha h0
 case lw => exact goes_lst hB (goes_Watch hB) _ _ _ ha h0
 case ld => exact goes_lst hB (goes_Watch hB) _ _ _ ha h0
 case uD => exact goes_lst hB (goes_Watch hB) _ _ _ ha h0
 case lo => exact goes_lst hB (goes_Op hB) _ _ _ ha h0
 case uE => exact goes_lst hB (goes_Entry hB) _ _ _ ha h0
 case uI => exact goes_lst hB (goes_Item hB) _ _ _ ha h0
 case uP => exact goes_lst hB (goes_Part hB) _ _ _ ha h0
 all_goals exact goes_num hB _ _ _ ha h0
theorem dFs_at {w : List Ltr} {i : Nat} {l : Ltr} (hl : w[i]? = some l) (xs : List Int) (a : Nat) (y : Note) : dFs (w.drop i) xs a y = (dF l xs a y).bind fun p => dFs (w.drop (i + 1)) xs p.2 p.1 := by
 obtain ⟨hi, he⟩ := List.getElem?_eq_some_iff.1 hl
 rw [List.drop_eq_getElem_cons hi, he]
 rfl
theorem R_moved3 {α : Type} {d : Kd α} {e : Nat} {w w1 : World} {base g g' : Nat} {v : Value} {xs : List α} {t t' : Nat} {cs cs' : Array Value} (h : d.R e w base (fun _ => True) v xs) (hb : w.heap[g]? = some (.cells cs t (0, 0))) (hb' : w.heap[g']? = some (.cells cs' t' (0, 0))) (ht : ∀ q, q ∈ e :: d.E → q ≠ t) (ht' : ∀ q, q ∈ e :: d.E → q ≠ t') (hm : Moved w w1 (fun k => k = g ∨ k = g')) : d.R e w1 base (fun _ => True) v xs :=
 Kd.R_mono (Kd.R_step (Kd.R_types (Kd.R_types h hb ht) hb' ht') (fun k hk hl => hm.block k hl (fun h => h.elim hk.1.2 hk.2))) (fun _ _ => trivial)
theorem dNote_none1 {xs : List Int} (h : dNum xs 0 = none) : dNote xs = none := by unfold dNote; rw [h]; rfl
theorem dNote_none2 {xs : List Int} {v : Int} {a : Nat} (h : dNum xs 0 = some (v, a)) (hv : v < 1 ∨ 25 ≤ v) : dNote xs = none := by
 unfold dNote
 rw [h]
 simp only [Option.bind_some]
 rw [if_pos hv]
theorem dNote_some {xs : List Int} {k a : Nat} (h : dNum xs 0 = some ((k : Int), a)) (h1 : 1 ≤ k) (h2 : k < 25) : dNote xs = (dFs (word k) xs a (zeroNote k)).bind fun r => if r.2 = xs.length then some r.1 else none := by
 unfold dNote
 rw [h]
 simp only [Option.bind_some]
 rw [if_neg (by omega), Int.toNat_natCast]
set_option maxRecDepth 100000 in
set_option maxHeartbeats 8000000 in
theorem c_work (w0 W : World) (gd g : Nat) (A : Option Addr) (c : Nat) (xs : List Int) (hD : Get.Data w0 A c xs) (hb : Below w0.heap.size w0 W) (hcd : W.cell? ⟨gd, 0, none⟩ = some (.slice A xs.length c)) (hbx : W.heap[g]? = some (.cells zeroCells.toArray 34 (0, 0))) (HE : EnvN w0) (hg0 : w0.heap.size ≤ g) :
   Calls Tryz.prog 66 #[.pointer (some ⟨gd, 0, none⟩), .pointer (some ⟨g, 0, none⟩)] W fun e W' => Moved W W' (fun k => k = g) ∧ (dNote xs = none → e = .panicked flaw) ∧ ∀ y, dNote xs = some y → e = .returned (.tuple #[]) ∧ ∃ cs' : List Value, k34.M W' W.heap.size (fun _ => True) y cs' ∧ W'.heap[g]? = some (.cells cs'.toArray 34 (0, 0)) := by
 have HD := Aside0.mk hD
 have HE := Aside0.mk HE
 have HB := Aside0.mk hb
 have hbA := below_alloc (Below.refl W.heap.size W) (Obj.cells #[.slice A xs.length c, .int .i64 ((0 : Nat) : Int)] 136 (0, 0))
 have HX := Aside0.mk (blk_below hbA hbx)
 have hEye : Eye (W.alloc (Obj.cells #[.slice A xs.length c, .int .i64 ((0 : Nat) : Int)] 136 (0, 0))) W.heap.size A xs.length c 0 := blk_alloc _
 have HEY := Aside0.mk hEye
 have HBA := Aside0.mk hbA
 have HGR := Aside0.mk (hb.size)
 have hgl := blk_lt hbx
 have hne : g ≠ W.heap.size := by omega
 clear hD hb hbA hbx hEye
 go_enter Tryz.func66, Tryz.ntmps66
 go_wp2_with fail
 refine (rnum w0 _ W.heap.size A c 0 xs HD.out (Nat.zero_le _) (below_step HB.out HBA.out) HGR.out HEY.out).mono ?_
 rintro e w1 ⟨hm1, hn, hs⟩
 cases hr : dNum xs 0 with
 | none =>
   obtain rfl := hn hr
   have HR := Aside0.mk (dNote_none1 hr)
   exact ⟨rfl, ((Moved.of_below HBA.out (fun k => k = W.heap.size ∨ k = g)).trans hm1 (fun _ _ h => .inl h)).mono (fun k hk hs => hs.elim (fun h => by omega) (fun h => h)), (fun _ => rfl), fun y h => by rw [HR.out] at h; cases h⟩
 | some p =>
   obtain ⟨v, a1⟩ := p
   obtain ⟨v1, rfl, rfl, he⟩ := hs _ _ hr
   obtain ⟨_, hv0, _⟩ := dNum_some HD.out.bytes hr
   obtain ⟨k, rfl⟩ := Int.eq_ofNat_of_zero_le hv0
   have ha1 := goes_num HD.out.bytes _ _ _ (Nat.zero_le _) hr
   have HX1 := Aside0.mk (hm1.blk HX.out hne)
   have HV1 := Aside0.mk ((Moved.of_below HBA.out (fun k => k = W.heap.size ∨ k = g)).trans hm1 (fun _ _ h => .inl h))
   have hc0 : w1.cell? ⟨g, 0, none⟩ = some (.int .i64 0) := blk_cell HX1.out 0
   have hf0 := blk_frozen HX1.out 0
   have HX2 : Aside0 ((w1.setCell ⟨g, 0, none⟩ (.int .i64 (k : Int))).heap[g]? = some (.cells ((.int .i64 (k : Int) :: zeroCells.drop 1) : List Value).toArray 34 (0, 0))) := ⟨blk_set HX1.out 0 (.int .i64 (k : Int))⟩
   have HE2 : Aside0 (Eye (w1.setCell ⟨g, 0, none⟩ (.int .i64 (k : Int))) W.heap.size A xs.length c a1) := ⟨blk_far he (p := ⟨g, 0, none⟩) (fun h => hne h.symm) _⟩
   have HV2 := Aside0.mk (HV1.out.set_ (p := ⟨g, 0, none⟩) (.inl (.inr rfl)) (.int .i64 (k : Int)))
   have HRR := Aside0.mk hr
   clear hm1 hn hs he hr hv0 HX1 HV1 HX HEY
   go_upto_region 2 with fail
   clear hc0 hf0
   generalize w1.setCell ⟨g, 0, none⟩ (.int .i64 (k : Int)) = w2 at HX2 HE2 HV2 ⊢
   have n_0 : w2.cell? ⟨g, 0, none⟩ = some (.int .i64 (k : Int)) := blk_cell HX2.out 0
   have HA2 := Aside0.mk (HV2.out.above HB.out (fun k hk => hk.elim (fun h => by rw [h]; exact HGR.out) (fun h => by rw [h]; exact hg0)))
   cases h1 : decide ((k : Int) < 1) with
   | true =>
     have HR := Aside0.mk (dNote_none2 HRR.out (.inl (of_decide_eq_true h1)))
     go_wp2_with fail
     exact ⟨rfl, HV2.out.mono (fun k hk hs => hs.elim (fun h => by omega) (fun h => h)), (fun _ => rfl), fun y h => by rw [HR.out] at h; cases h⟩
   | false =>
     cases h2 : decide ((k : Int) ≥ 25) with
     | true =>
       have h2_0 : decide ((25 : Int) ≤ k) = true := h2
       have HR := Aside0.mk (dNote_none2 HRR.out (.inr (of_decide_eq_true h2)))
       go_wp2_with fail
       exact ⟨rfl, HV2.out.mono (fun k hk hs => hs.elim (fun h => by omega) (fun h => h)), (fun _ => rfl), fun y h => by rw [HR.out] at h; cases h⟩
     | false =>
       have h2_0 : decide ((25 : Int) ≤ k) = false := h2
       have q1 := of_decide_eq_false h1
       have q2 := of_decide_eq_false h2
       have hk25 : k < 25 := by omega
       have HDN := Aside0.mk (dNote_some HRR.out (by omega) hk25)
       have hfd : ∀ (A : Option Addr) (n c : Nat) (b : Value) (w : World), (Instr.field 102 (.agg #[.slice A n c, b]) 0).run Tryz.prog w = .ok (.slice A n c) w := fun _ _ _ _ _ => rfl
       go_upto_region 5 with (go_at_call 41; (with_reducible refine (t_shape k hk25 _ (HE.out.at_ HA2.out)).mono ?_); rintro e w3 ⟨hb3, v, rfl, ho⟩; obtain ⟨mf, hmf⟩ : ∃ mf, mf = (if k = 13 then (.func (.func 90) #[] #[] : Value) else .nilFunc) := ⟨_, rfl⟩; rw [← hmf]; clear hmf; obtain ⟨A2, c2, rfl⟩ := Kd.R_slice ho; have HO3 := Aside0.mk ho; have HX3 := Aside0.mk (blk_below hb3 HX2.out); have HE3 : Aside0 (Eye w3 W.heap.size A xs.length c a1) := ⟨blk_below hb3 HE2.out⟩; have HV3 := Aside0.mk (HV2.out.step hb3); clear hb3 ho)
       have hwl : (word k).length ≤ 6 := word_len k hk25
       have HM3 := Aside0.mk (zero_M w3 W.heap.size (k : Int))
       go_loopw [26] (fun vi wr => ∃ (i a : Nat) (y : Note) (cs' : List Value), vi = .int .i64 i ∧ i ≤ (word k).length ∧ a ≤ xs.length ∧ Aside0 (dFs ((word k).drop i) xs a y = dFs (word k) xs a1 (zeroNote k)) ∧ Aside0 (Eye wr W.heap.size A xs.length c a) ∧ Aside0 (k34.M wr W.heap.size (fun _ => True) y cs') ∧ Aside0 (wr.heap[g]? = some (.cells cs'.toArray 34 (0, 0))) ∧ Aside0 (Moved W wr (fun k => k = W.heap.size ∨ k = g)) ∧ Aside0 (kField.R 109 wr w2.heap.size (fun _ => True) (.slice A2 (word k).length c2) (word k))) (fun vi _ => (word k).length - (intOf vi).toNat)
       case atStart => exact ⟨0, a1, zeroNote k, _, rfl, Nat.zero_le _, ha1, ⟨rfl⟩, HE3, HM3, HX3, HV3, HO3⟩
       case round =>
        clear HE3 HM3 HX3 HV3 HO3 n_0
        obtain ⟨i, a, y, cs', rfl, hi, ha, HF, HEY, HM, HX, HV, HO⟩ := hrel
        obtain ⟨wo, rfl⟩ : ∃ wo : World, wo = wr := ⟨_, rfl⟩
        by_cases hlt : i < (word k).length
        · obtain ⟨l, hl⟩ : ∃ l, (word k)[i]? = some l := ⟨_, List.getElem?_eq_getElem hlt⟩
          have HLT := Aside0.mk hl
          obtain ⟨q0, q1', q2', q3, q4, q5, hq⟩ := fCells_open l
          have HQ := Aside0.mk hq
          obtain ⟨ad, rfl, a_0, a_1, a_2, a_3, a_4, a_5⟩ := at_field (Kd.R_reads' HO.out).2.2 i l hl hq
          clear hl hq
          go_wp2_with (first | ((with_reducible refine gate_store2 (t := 109) rfl ?_); refine store_row (old := #[.int .i64 0, .nilFunc, .nilFunc, .nilFunc, .nilFunc, .nilFunc]) (cs := #[q0, q1', q2', q3, q4, q5]) rfl rfl rfl (blk_alloc _) rfl rfl infoField rfl (q_one HQ.out) ?_; intro w5 hm5 hx5; have HFB := Aside0.mk hx5; have hb5 := Moved.above_ hm5 (Nat.le_refl _); have HO5 := Aside0.mk (Kd.R_below HO.out hb5); have HEY5 : Aside0 (Eye w5 W.heap.size A xs.length c a) := ⟨blk_below hb5 HEY.out⟩; have HM5 := Aside0.mk (Kd.M_below HM.out hb5); have HX5 := Aside0.mk (blk_below hb5 HX.out); have HV5 := Aside0.mk (HV.out.step hb5); clear hm5 hx5 hb5 a_0 a_1 a_2 a_3 a_4 a_5) | ((with_reducible refine gate_load (t := 109) rfl ?_); refine load_row rfl rfl Tryz.underlying109 rfl HFB.out rfl infoField ?_))
          have hA5 := HV5.out.above HB.out (fun k hk => hk.elim (fun h => by rw [h]; exact HGR.out) (fun h => by rw [h]; exact hg0))
          have hri := c_read l w0 _ W.heap.size g A c a xs HD.out ha hA5 HGR.out HEY5.out hne W.heap.size HV5.out.size y cs' HM5.out HX5.out
          rw [HQ.out] at hri
          refine hri.mono ?_
          clear hri hA5
          rintro e w6 ⟨hm6, hn6, hs6⟩
          have HV6 := Aside0.mk (HV5.out.trans hm6 (fun _ _ h => h))
          cases hr2 : dF l xs a y with
          | none =>
            obtain rfl := hn6 hr2
            have HR := Aside0.mk (show dNote xs = none by rw [HDN.out, ← HF.out, dFs_at HLT.out, hr2]; rfl)
            exact ⟨rfl, HV6.out.mono (fun k hk hs => hs.elim (fun h => by omega) (fun h => h)), (fun _ => rfl), fun y h => by rw [HR.out] at h; cases h⟩
          | some p =>
            obtain ⟨y', a'⟩ := p
            obtain ⟨rfl, he6, cs6, hM6, hX6⟩ := hs6 _ _ hr2
            have ha' := goes_F HD.out.bytes ha hr2
            have HF6 := Aside0.mk (show dFs ((word k).drop (i + 1)) xs a' y' = dFs (word k) xs a1 (zeroNote k) by rw [← HF.out, dFs_at HLT.out, hr2]; rfl)
            have HO6 := Aside0.mk (R_moved3 HO5.out HEY5.out HX5.out (by decide) (by decide) hm6)
            have HE6 := Aside0.mk he6
            have HM6 := Aside0.mk hM6
            have HX6 := Aside0.mk hX6
            clear hm6 hn6 hs6 he6 hM6 hX6 hr2
            go_wp2_with fail
            go_roundw
            case rel => exact ⟨i + 1, a', y', cs6, by go_num, by omega, ha', HF6, HE6, HM6, HX6, HV6, HO6⟩
            case measure => simp [intOf]; omega
        · have hdr : (word k).drop i = [] := List.drop_eq_nil_of_le (by omega)
          rw [hdr] at HF
          have HDN2 := Aside0.mk (show dNote xs = if a = xs.length then some y else none by rw [HDN.out, ← HF.out]; rfl)
          clear hdr
          go_wp2_with fail
          refine (rend _ W.heap.size A xs.length c a HEY.out).mono ?_
          rintro e w9 ⟨hm9, he9⟩
          have HV9 := Aside0.mk (HV.out.trans hm9 (fun _ _ h => .inl h))
          by_cases hae : a = xs.length
          · rw [if_pos hae] at he9 HDN2
            subst he9
            have HM9 := Aside0.mk (Get.M_moved HM.out HEY.out (by decide) hm9)
            have HX9 := Aside0.mk (hm9.blk HX.out hne)
            clear hm9
            go_wp2_with fail
            first | go_end0 | refine bodyPost_ret (results_none rfl _ _ _) rfl ?_
            refine ⟨HV9.out.mono (fun k hk hs => hs.elim (fun h => by omega) (fun h => h)), (fun h => by rw [HDN2.out] at h; cases h), fun y' h => ?_⟩
            rw [HDN2.out] at h
            obtain rfl := Option.some.inj h
            exact ⟨rfl, cs', HM9.out, HX9.out⟩
          · rw [if_neg hae] at he9 HDN2
            subst he9
            exact ⟨rfl, HV9.out.mono (fun k hk hs => hs.elim (fun h => by omega) (fun h => h)), (fun _ => rfl), fun y h => by rw [HDN2.out] at h; cases h⟩
end Go.Proofs.YtmneemhplffemaaGreatDoorRR.Tab
namespace Go.Proofs.YtmneemhplffemaaGreatDoorRR.Tab
open Go.RowKit Go.Proofs.YtmneemhplffemaaGreatDoorRR.Ext Go.Proofs.YtmneemhplffemaaGreatDoorRR.Wire Go.Proofs.YtmneemhplffemaaGreatDoorRR.Mem Go.Proofs.YtmneemhplffemaaGreatDoorRR.Put Go.Proofs.YtmneemhplffemaaGreatDoorRR.Get Go.Proofs.YtmneemhplffemaaGreatDoorRR.Law Go.Proofs.YtmneemhplffemaaGreatDoorRR.Ki Go.Proofs.YtmneemhplffemaaGreatDoorRRW.PrintWords

theorem rep_all {β : Type} {d : List Int → Nat → Option (β × Nat)} {xs : List Int} {P : β → Prop} (h : ∀ a x b, d xs a = some (x, b) → P x) (n : Nat) : ∀ a l z, dRep d xs n a = some (l, z) → l.length = n ∧ ∀ x ∈ l, P x := by
 induction n with
 | zero =>
   intro a l z he
   simp only [dRep, Option.some.injEq, Prod.mk.injEq] at he
   obtain ⟨rfl, _⟩ := he
   exact ⟨rfl, by simp⟩
 | succ n ih =>
   intro a l z he
   rw [dRep] at he
   cases hr : d xs a with
   | none => rw [hr] at he; cases he
   | some p =>
     obtain ⟨x, b⟩ := p
     rw [hr] at he
     simp only at he
     cases hr2 : dRep d xs n b with
     | none => rw [hr2] at he; cases he
     | some p2 =>
       obtain ⟨l2, z2⟩ := p2
       rw [hr2] at he
       simp only [Option.some.injEq, Prod.mk.injEq] at he
       obtain ⟨rfl, rfl⟩ := he
       obtain ⟨e1, e2⟩ := ih b l2 z2 hr2
       refine ⟨by rw [List.length_cons, e1], fun y hy => ?_⟩
       rcases List.mem_cons.1 hy with rfl | hy
       · exact h a _ b hr
       · exact e2 y hy
theorem rep_far {β : Type} {d : List Int → Nat → Option (β × Nat)} {xs : List Int} (h : ∀ a x b, d xs a = some (x, b) → a < b) (n : Nat) : ∀ a l z, dRep d xs n a = some (l, z) → a + n ≤ z := by
 induction n with
 | zero =>
   intro a l z he
   simp only [dRep, Option.some.injEq, Prod.mk.injEq] at he
   omega
 | succ n ih =>
   intro a l z he
   rw [dRep] at he
   cases hr : d xs a with
   | none => rw [hr] at he; cases he
   | some p =>
     obtain ⟨x, b⟩ := p
     rw [hr] at he
     simp only at he
     cases hr2 : dRep d xs n b with
     | none => rw [hr2] at he; cases he
     | some p2 =>
       obtain ⟨l2, z2⟩ := p2
       rw [hr2] at he
       simp only [Option.some.injEq, Prod.mk.injEq] at he
       obtain ⟨rfl, rfl⟩ := he
       have e1 := ih b l2 z2 hr2
       have e2 := h _ _ _ hr
       omega
theorem lst_all {β : Type} {d : List Int → Nat → Option (β × Nat)} {xs : List Int} {P : β → Prop} (hB : Bytes xs) (h : ∀ a x b, d xs a = some (x, b) → P x) {a : Nat} {p : List β × Nat} (he : dLst d xs a = some p) : p.1.length ≤ 2147483647 ∧ ∀ x ∈ p.1, P x := by
 unfold dLst at he
 cases hr : dNum xs a with
 | none => rw [hr] at he; cases he
 | some q =>
   obtain ⟨n, b⟩ := q
   rw [hr] at he
   obtain ⟨_, h0, h1, _⟩ := dNum_some hB hr
   obtain ⟨e1, e2⟩ := rep_all h _ b p.1 p.2 he
   exact ⟨by omega, e2⟩
theorem lst_len {β : Type} {d : List Int → Nat → Option (β × Nat)} {xs : List Int} (hB : Bytes xs) {a : Nat} {p : List β × Nat} (he : dLst d xs a = some p) : p.1.length ≤ 1000000000000000 := by
 have := (lst_all (P := fun _ => True) hB (fun _ _ _ _ => trivial) he).1
 omega
theorem far_Watch {xs : List Int} (hB : Bytes xs) : ∀ a x b, dWatch xs a = some (x, b) → a < b := by
 intro a x b h
 unfold dWatch at h
 obtain ⟨p0, h0, h⟩ := Option.bind_eq_some_iff.1 h
 have g0 := (dNum_some hB h0).2.2.2.1
 obtain ⟨p1, h1, h⟩ := Option.bind_eq_some_iff.1 h
 have g1 := (dTxt_some hB h1).2.2.1
 obtain ⟨p2, h2, h⟩ := Option.bind_eq_some_iff.1 h
 have g2 := (dNum_some hB h2).2.2.2.1
 obtain ⟨p3, h3, h⟩ := Option.bind_eq_some_iff.1 h
 have g3 := (dNum_some hB h3).2.2.2.1
 simp only [Option.some.injEq, Prod.mk.injEq] at h
 omega
theorem lst_watch {xs : List Int} (hB : Bytes xs) (hL : xs.length ≤ 262144) {a : Nat} {p : List S96 × Nat} (ha : a ≤ xs.length) (he : dLst dWatch xs a = some p) : p.1.length ≤ 17592186043904 := by
 have hz := goes_rep (goes_Watch hB)
 unfold dLst at he
 cases hr : dNum xs a with
 | none => rw [hr] at he; cases he
 | some q =>
   obtain ⟨n, b⟩ := q
   rw [hr] at he
   obtain ⟨_, h0, h1, _, hb, _⟩ := dNum_some hB hr
   have e1 := (rep_all (P := fun _ => True) (fun _ _ _ _ => trivial) _ b p.1 p.2 he).1
   have e2 := rep_far (far_Watch hB) _ b p.1 p.2 he
   have e3 := hz _ b p.1 p.2 hb he
   omega
theorem kids_reply {xs : List Int} (hB : Bytes xs) {a : Nat} {p : S29 × Nat} (he : dReply xs a = some p) : (∀ r ∈ p.1.f3, ∀ y ∈ r.f6, y.size ≤ 140737488355328) ∧ p.1.f3.length ≤ 1000000000000000 := by
 unfold dReply at he
 obtain ⟨p0, h0, h⟩ := Option.bind_eq_some_iff.1 he
 obtain ⟨p1, h1, h⟩ := Option.bind_eq_some_iff.1 h
 obtain ⟨p2, h2, h⟩ := Option.bind_eq_some_iff.1 h
 obtain ⟨p3, h3, h⟩ := Option.bind_eq_some_iff.1 h
 simp only [Option.some.injEq] at h
 subst h
 refine ⟨(lst_all (P := fun r => ∀ y ∈ r.f6, y.size ≤ 140737488355328) hB (fun a r b hr => ?_) h3).2, lst_len hB h3⟩
 unfold dResult at hr
 obtain ⟨q0, k0, hr⟩ := Option.bind_eq_some_iff.1 hr
 obtain ⟨q1, k1, hr⟩ := Option.bind_eq_some_iff.1 hr
 obtain ⟨q2, k2, hr⟩ := Option.bind_eq_some_iff.1 hr
 obtain ⟨q3, k3, hr⟩ := Option.bind_eq_some_iff.1 hr
 obtain ⟨q4, k4, hr⟩ := Option.bind_eq_some_iff.1 hr
 obtain ⟨q5, k5, hr⟩ := Option.bind_eq_some_iff.1 hr
 obtain ⟨q6, k6, hr⟩ := Option.bind_eq_some_iff.1 hr
 simp only [Option.some.injEq, Prod.mk.injEq] at hr
 obtain ⟨rfl, _⟩ := hr
 exact (lst_all (P := fun y : ByteArray => y.size ≤ 140737488355328) hB (fun a y b hy => by have := (dTxt_some hB hy).2.1; omega) k6).2
theorem sane_F {xs : List Int} (hB : Bytes xs) (hL : xs.length ≤ 262144) {l : Ltr} {a a' : Nat} {y y' : Note} (ha : a ≤ xs.length) (h : dF l xs a y = some (y', a')) (hs : Sane y) : Sane y' := by
 obtain ⟨s0, s1, s2, s3, s4, s5, s6⟩ := hs
 cases l
 all_goals simp only [dF] at h
 all_goals obtain ⟨p, h0, h⟩ := Option.bind_eq_some_iff.1 h
 case lv =>
  obtain ⟨q, h1, h⟩ := Option.bind_eq_some_iff.1 h
  obtain ⟨r, h2, h⟩ := Option.bind_eq_some_iff.1 h
  simp only [Option.some.injEq, Prod.mk.injEq] at h
  obtain ⟨rfl, _⟩ := h
  exact ⟨s0, s1, s2, s3, s4, s5, s6⟩
 all_goals simp only [Option.some.injEq, Prod.mk.injEq] at h
 all_goals obtain ⟨rfl, _⟩ := h
 all_goals first
  | exact ⟨s0, s1, s2, s3, s4, s5, s6⟩
  | exact ⟨s0, s1, s2, s3, lst_watch hB hL ha h0, s5, s6⟩
  | exact ⟨(kids_reply hB h0).1, s1, s2, (kids_reply hB h0).2, s4, s5, s6⟩
  | exact ⟨s0, lst_len hB h0, s2, s3, s4, s5, s6⟩
  | exact ⟨s0, s1, lst_len hB h0, s3, s4, s5, s6⟩
  | exact ⟨s0, s1, s2, s3, s4, lst_len hB h0, s6⟩
  | exact ⟨s0, s1, s2, s3, s4, s5, lst_len hB h0⟩
theorem end_F {xs : List Int} (hB : Bytes xs) {l : Ltr} {a a' : Nat} {y y' : Note} (ha : a ≤ xs.length) (h : dF l xs a y = some (y', a')) : a' ≤ xs.length := by
 cases l
 all_goals simp only [dF] at h
 all_goals obtain ⟨p, h0, h⟩ := Option.bind_eq_some_iff.1 h
 case lv =>
  obtain ⟨q, h1, h⟩ := Option.bind_eq_some_iff.1 h
  obtain ⟨r, h2, h⟩ := Option.bind_eq_some_iff.1 h
  simp only [Option.some.injEq, Prod.mk.injEq] at h
  obtain ⟨_, rfl⟩ := h
  exact goes_num hB _ r.1 _ (goes_num hB _ q.1 _ (goes_num hB _ p.1 _ ha h0) h1) h2
 all_goals simp only [Option.some.injEq, Prod.mk.injEq] at h
 all_goals obtain ⟨_, rfl⟩ := h
 all_goals first
  | exact goes_num hB _ p.1 _ ha h0
  | exact goes_txt hB _ p.1 _ ha h0
  | exact goes_lst hB (goes_Watch hB) _ p.1 _ ha h0
  | exact goes_lst hB (goes_Op hB) _ p.1 _ ha h0
  | exact goes_lst hB (goes_Entry hB) _ p.1 _ ha h0
  | exact goes_lst hB (goes_Item hB) _ p.1 _ ha h0
  | exact goes_lst hB (goes_Part hB) _ p.1 _ ha h0
  | exact goes_Reply hB _ p.1 _ ha h0
theorem sane_zero (k : Int) : Sane (zeroNote k) := ⟨(fun r hr => absurd hr (by simp [zeroNote])), Nat.zero_le _, Nat.zero_le _, Nat.zero_le _, Nat.zero_le _, Nat.zero_le _, Nat.zero_le _⟩
theorem sane_Fs {xs : List Int} (hB : Bytes xs) (hL : xs.length ≤ 262144) (w : List Ltr) : ∀ {a a' : Nat} {y y' : Note}, a ≤ xs.length → dFs w xs a y = some (y', a') → Sane y → Sane y' := by
 induction w with
 | nil =>
   intro a a' y y' _ h hs
   simp only [dFs, Option.some.injEq, Prod.mk.injEq] at h
   exact h.1 ▸ hs
 | cons l w ih =>
   intro a a' y y' ha h hs
   obtain ⟨p, h0, h⟩ := Option.bind_eq_some_iff.1 h
   exact ih (end_F hB ha h0) h (sane_F hB hL ha h0 hs)
theorem sane_note {xs : List Int} {x : Note} (hB : Bytes xs) (hL : xs.length ≤ 262144) (h : dNote xs = some x) : Sane x := by
 unfold dNote at h
 obtain ⟨p, h0, h⟩ := Option.bind_eq_some_iff.1 h
 split at h
 · cases h
 · obtain ⟨r, h1, h⟩ := Option.bind_eq_some_iff.1 h
   split at h
   · simp only [Option.some.injEq] at h
     subst h
     exact sane_Fs hB hL _ (dNum_some hB (show dNum xs 0 = some (p.1, p.2) from h0)).2.2.2.2.1 h1 (sane_zero _)
   · cases h
end Go.Proofs.YtmneemhplffemaaGreatDoorRR.Tab
namespace Go.Proofs.YtmneemhplffemaaGreatDoorRR.Tab
open Go.RowKit Go.Proofs.YtmneemhplffemaaGreatDoorRR.Ord Go.Proofs.YtmneemhplffemaaGreatDoorRR.Name Go.Proofs.YtmneemhplffemaaGreatDoorRR.Ext Go.Proofs.YtmneemhplffemaaGreatDoorRR.Wire Go.Proofs.YtmneemhplffemaaGreatDoorRR.Mem Go.Proofs.YtmneemhplffemaaGreatDoorRR.Put Go.Proofs.YtmneemhplffemaaGreatDoorRR.Get Go.Proofs.YtmneemhplffemaaGreatDoorRR.Law Go.Proofs.YtmneemhplffemaaGreatDoorRR.Row Go.Proofs.YtmneemhplffemaaGreatDoorRR.Ki Go.Proofs.YtmneemhplffemaaGreatDoorRR.Chk Go.Proofs.YtmneemhplffemaaGreatDoorRR.May Go.Proofs.YtmneemhplffemaaGreatDoorRRW.PrintWords


theorem results_ct {P : Program} {fn : Func} {p q : Tmp} {ty : TypeId} (h : fn.results = #[.cell p ty, .tmp q]) (tmps : Array Value) (w : World) (g : Nat) (t : TypeId) (cs : Array Value) (fr : Nat × Nat) (d : TypeDesc) (b : Value)
  (hp : tmps.getD p undef = .pointer (some ⟨g, 0, none⟩)) (hq : tmps.getD q undef = b) (hg : w.heap[g]? = some (.cells cs t fr))
  (hu : P.underlying ty = some d) (hd : (match d with | .struct _ | .array _ _ => true | _ => false) = true) (hi : (P.info? ty).map (·.size) = some cs.size) :
  (results fn tmps).run P w = .ok (.tuple #[.agg cs, b]) w := by
 have hp' : tmps[p]?.getD undef = .pointer (some ⟨g, 0, none⟩) := by simpa using hp
 have hq' : tmps[q]?.getD undef = b := by simpa using hq
 simp [results, h, hp', hq', asAddr, run_loadVar_row w g t ty cs fr d hg hu hd hi]
theorem zero_size : (Tryz.prog.info? 34).map (·.size) = some (zeroCells.toArray).size := infoNote
theorem zero_one : ∀ u ∈ zeroCells.toArray.toList, u.oneCell' = true := by decide
def DecOk (W W' : World) (xs : List Int) (e : Ending) : Prop :=
 (262144 < xs.length → e = .returned (.tuple #[.agg zeroCells.toArray, .int .i64 2])) ∧
 (xs.length ≤ 262144 → ∀ y, dNote xs = some y → mCheck y = true → ∃ cs : List Value, k34.M W' W.heap.size (fun _ => True) y cs ∧ e = .returned (.tuple #[.agg cs.toArray, .int .i64 0])) ∧
 (xs.length ≤ 262144 → (∀ y, dNote xs = some y → mCheck y = false) → e = .returned (.tuple #[.agg zeroCells.toArray, .int .i64 30]))
set_option maxRecDepth 100000 in
set_option maxHeartbeats 8000000 in
theorem c_decodeP (w0 W : World) (A : Option Addr) (c : Nat) (xs : List Int) (hD : Get.Data w0 A c xs) (hb : Below w0.heap.size w0 W) (HE : EnvN w0) :
   Calls Tryz.prog 24 #[.slice A xs.length c] W fun e W' => Below W.heap.size W W' ∧ DecOk W W' xs e := by
 have HD := Aside0.mk hD
 have HE := Aside0.mk HE
 have HB := Aside0.mk hb
 have HGE := Aside0.mk hb.size
 have hlen := hD.len
 have hb1 := below_alloc (Below.refl W.heap.size W) (Obj.cells #[.slice A xs.length c] 41 (0, 0))
 have hx1 : (W.alloc (Obj.cells #[.slice A xs.length c] 41 (0, 0))).heap[W.heap.size]? = _ := blk_alloc _
 have hs1 : (W.alloc (Obj.cells #[.slice A xs.length c] 41 (0, 0))).heap.size = W.heap.size + 1 := by simp
 have hb2 := below_alloc hb1 (Obj.cells zeroCells.toArray 34 (0, 0))
 have hx2 : ((W.alloc (Obj.cells #[.slice A xs.length c] 41 (0, 0))).alloc (Obj.cells zeroCells.toArray 34 (0, 0))).heap[(W.alloc (Obj.cells #[.slice A xs.length c] 41 (0, 0))).heap.size]? = some (.cells zeroCells.toArray 34 (0, 0)) := Mem.blk_alloc _
 rw [hs1] at hx2
 have hy1 := blk_below (below_alloc (Below.refl _ _) (Obj.cells zeroCells.toArray 34 (0, 0))) hx1
 obtain ⟨w1, hw1⟩ : ∃ w1, w1 = (W.alloc (Obj.cells #[.slice A xs.length c] 41 (0, 0))).alloc (Obj.cells zeroCells.toArray 34 (0, 0)) := ⟨_, rfl⟩
 rw [← hw1] at hx2 hy1 hb2
 have n_0 : w1.cell? ⟨W.heap.size, 0, none⟩ = some (.slice A xs.length c) := blk_cell hy1 0
 have HX2 := Aside0.mk hx2
 have HB2 := Aside0.mk hb2
 have HW1 := Aside0.mk (show (W.alloc (Obj.cells #[.slice A xs.length c] 41 (0, 0))).alloc (Obj.cells #[.int .i64 0, .int .i64 0, .int .i64 0, .int .i64 0, .int .i64 0, .int .i64 0, .int .i64 0, .int .i64 0, .int .i64 0, .int .i64 0, .int .i64 0, .slice none 0 0, .slice none 0 0, .int .i64 0, .int .i64 0, .int .i64 0, .slice none 0 0, .slice none 0 0, .slice none 0 0, .slice none 0 0, .string ⟨#[]⟩] 34 (0, 0)) = w1 from hw1.symm)
 clear hD hb hb1 hx1 hs1 hb2 hx2 hy1 hw1
 go_enter Tryz.func24, Tryz.ntmps24
 go_upto_region 1 with fail
 rw [HW1.out]
 clear HW1
 cases h1 : decide ((262144 : Int) < xs.length) with
 | true =>
   have hq_ := of_decide_eq_true h1
   have HGT := Aside0.mk (show 262144 < xs.length by omega)
   go_wp2_with ((with_reducible refine gate_store2 (t := 34) rfl ?_); refine store_row (old := zeroCells.toArray) (cs := zeroCells.toArray) rfl rfl rfl HX2.out rfl rfl zero_size rfl zero_one ?_; intro w3 hm3 hx3; have HX3 := Aside0.mk hx3; have HB3 := Aside0.mk ((Moved.of_below HB2.out (fun k => k = W.heap.size + 1)).trans hm3 (fun _ _ h => h) |>.below (fun k hk h => by omega)); clear hm3 hx3)
   refine bodyPost_ret (results_ct rfl _ _ _ _ _ _ _ _ rfl rfl HX3.out Tryz.underlying34 rfl zero_size) rfl ?_
   exact ⟨HB3.out, fun _ => rfl, fun h => absurd HGT.out (by omega), fun h => absurd HGT.out (by omega)⟩
 | false =>
   have hq_ := of_decide_eq_false h1
   have HLE := Aside0.mk (show xs.length ≤ 262144 by omega)
   clear hq_
   go_upto_region 4 with fail
   have hbn := below_alloc (Below.refl w1.heap.size w1) (Obj.cells zeroCells.toArray 34 (0, 0))
   have hgn : (w1.alloc (Obj.cells zeroCells.toArray 34 (0, 0))).heap[w1.heap.size]? = some (.cells zeroCells.toArray 34 (0, 0)) := Mem.blk_alloc _
   obtain ⟨w2, hw2⟩ : ∃ w2, w2 = w1.alloc (Obj.cells zeroCells.toArray 34 (0, 0)) := ⟨_, rfl⟩
   have HW2 := Aside0.mk (show w1.alloc (Obj.cells #[.int .i64 0, .int .i64 0, .int .i64 0, .int .i64 0, .int .i64 0, .int .i64 0, .int .i64 0, .int .i64 0, .int .i64 0, .int .i64 0, .int .i64 0, .slice none 0 0, .slice none 0 0, .int .i64 0, .int .i64 0, .int .i64 0, .slice none 0 0, .slice none 0 0, .slice none 0 0, .slice none 0 0, .string ⟨#[]⟩] 34 (0, 0)) = w2 from hw2.symm)
   rw [← hw2] at hbn hgn
   have hc2 := pw_cell_below hbn n_0
   have hx2 := blk_below hbn HX2.out
   have hne : W.heap.size + 1 ≠ w1.heap.size := Nat.ne_of_lt (blk_lt HX2.out)
   have hge : W.heap.size + 2 ≤ w1.heap.size := blk_lt HX2.out
   have hbf := below_alloc (Below.refl w2.heap.size w2) (Obj.cells #[.bool false] 4 (0, 0))
   have hnf : w1.heap.size < w2.heap.size := blk_lt hgn
   obtain ⟨w3, hw3⟩ : ∃ w3, w3 = w2.alloc (Obj.cells #[.bool false] 4 (0, 0)) := ⟨_, rfl⟩
   have hxf : (w2.alloc (Obj.cells #[.bool false] 4 (0, 0))).heap[w2.heap.size]? = some (Obj.cells #[.bool false] 4 (0, 0)) := Mem.blk_alloc _
   rw [← hw3] at hbf hxf
   have hwk := c_work w0 w3 W.heap.size w1.heap.size A c xs HD.out (below_step (below_step (below_step HB.out HB2.out) hbn) hbf) (pw_cell_below hbf hc2) (blk_below hbf hgn) HE.out (by have := HGE.out; omega)
   have HWORK : Aside0 (Calls Tryz.prog 66 #[.pointer (some ⟨W.heap.size, 0, none⟩), .pointer (some ⟨w1.heap.size, 0, none⟩)] (w2.alloc (Obj.cells #[.bool false] 4 (0, 0))) fun e W' => e = (if (dNote xs).isSome = true then .returned (.tuple #[]) else .panicked flaw) ∧ W'.heap[w2.heap.size]? = some (Obj.cells #[.bool false] 4 (0, 0)) ∧ (Moved w2 W' (fun k => k = w1.heap.size) ∧ W'.heap[w2.heap.size]? = some (Obj.cells #[.bool false] 4 (0, 0)) ∧ ∀ y, dNote xs = some y → ∃ cs', k34.M W' w2.heap.size (fun _ => True) y cs' ∧ W'.heap[w1.heap.size]? = some (.cells cs'.toArray 34 (0, 0)))) := ⟨by
     rw [← hw3]
     refine hwk.mono ?_
     rintro e w' ⟨hm, hn, hs⟩
     have hf := hm.blk hxf (Nat.ne_of_gt hnf)
     refine ⟨?_, hf, ((Moved.of_below hbf (fun k => k = w1.heap.size)).trans hm (fun _ _ h => h)), hf, fun y hy => ?_⟩
     · cases hd : dNote xs with
       | none => exact hn hd
       | some y => exact (hs y hd).1
     · obtain ⟨_, cs', hM, hX⟩ := hs y hy
       exact ⟨cs', k34.M_lower hbf.size hM, hX⟩⟩
   have HB3 := Aside0.mk (below_step HB2.out hbn)
   have HX3 := Aside0.mk hx2
   have HNE := Aside0.mk hne
   have HGT := Aside0.mk hge
   have HNF := Aside0.mk hnf
   clear hbn hgn hw2 hc2 hx2 hne hge hbf hnf hw3 hxf hwk n_0
   rw [HW2.out]
   clear HW2
   have hmf : ∀ (fn : Fn) (first cap : Array Value) (w : World), (Instr.makeFunc fn first cap).run Tryz.prog w = .ok (.func fn first cap) w := fun _ _ _ _ => rfl
   go_upto_region 5 with (go_at_call 65; (with_reducible refine (guarded_any 66 #[.pointer (some ⟨W.heap.size, 0, none⟩), .pointer (some ⟨w1.heap.size, 0, none⟩)] (fun _ _ => rfl) w2 (dNote xs).isSome _ HWORK.out).mono ?_); rintro e w5 ⟨rfl, w4, ⟨hm4, hf4, hs4⟩, hm5⟩)
   have HX5 := Aside0.mk (hm5.blk (hm4.blk HX3.out HNE.out) (by have := HNE.out; have := HGT.out; have := HNF.out; omega))
   have HB5 := Aside0.mk (((Moved.of_below HB3.out (fun k => k = w1.heap.size ∨ k = w2.heap.size)).trans (hm4.trans hm5 (fun k hk h => absurd hk (by omega))) (fun _ _ h => .inl h)).below (fun k hk h => by have := HGT.out; have := HNF.out; omega))
   cases hd : dNote xs with
   | none =>
     have HDN := Aside0.mk hd
     clear hm4 hm5 hf4 hs4 HWORK hd
     rw [show (none : Option Note).isSome = false from rfl]
     have hno : ∀ (x : Bool) (w : World), (Op.unary .not (.bool x)).run Tryz.prog w = .ok (.bool (!x)) w := fun _ _ => rfl
     go_wp2_with ((with_reducible refine gate_store2 (t := 34) rfl ?_); refine store_row (old := zeroCells.toArray) (cs := zeroCells.toArray) rfl rfl rfl HX5.out rfl rfl zero_size rfl zero_one ?_; intro w9 hm9 hx9; have HX9 := Aside0.mk hx9; have HB9 := Aside0.mk ((Moved.of_below HB5.out (fun k => k = W.heap.size + 1)).trans hm9 (fun _ _ h => h) |>.below (fun k hk h => by omega)); clear hm9 hx9)
     refine bodyPost_ret (results_ct rfl _ _ _ _ _ _ _ _ rfl rfl HX9.out Tryz.underlying34 rfl zero_size) rfl ?_
     exact ⟨HB9.out, fun h => absurd HLE.out (by omega), (fun _ y h => by rw [HDN.out] at h; cases h), fun _ _ => rfl⟩
   | some y =>
     obtain ⟨cs, hM, hX⟩ := hs4 y hd
     have HDN := Aside0.mk hd
     have HM5 := Aside0.mk (Get.M_moved hM hf4 (by decide) hm5)
     have HG5 := Aside0.mk (hm5.blk hX (by have := HNF.out; omega))
     have HK5 := Aside0.mk (k34.K_of_M HM5.out)
     have HSZ := Aside0.mk (cs_size HK5.out)
     have HSA := Aside0.mk (sane_note HD.out.bytes HLE.out hd)
     have HE5 := Aside0.mk ((HE.out.at_ HB.out).at_ HB5.out)
     clear hm4 hm5 hf4 hs4 HWORK hd hM hX
     rw [show (some y : Option Note).isSome = true from rfl]
     have hno : ∀ (x : Bool) (w : World), (Op.unary .not (.bool x)).run Tryz.prog w = .ok (.bool (!x)) w := fun _ _ => rfl
     have HN5 := Aside0.mk (show w1.heap.size < w2.heap.size from HNF.out)
     cases hmc : mCheck y with
     | true =>
       go_wp2_with (first | (first | ((with_reducible refine gate_load (t := 34) rfl ?_); refine gate_guard (by rfl) ?_; refine load_row rfl rfl Tryz.underlying34 rfl HG5.out rfl HSZ.out ?_) | ((with_reducible refine gate_load (t := 34) rfl ?_); refine load_row rfl rfl Tryz.underlying34 rfl HG6.out rfl HSZ.out ?_) | ((with_reducible refine gate_store2 (t := 34) rfl ?_); refine store_row (old := zeroCells.toArray) (cs := cs.toArray) rfl rfl rfl HX6.out rfl rfl HSZ.out (note_size HK5.out) (note_one HK5.out) ?_; intro w9 hm9 hx9; have HX9 := Aside0.mk hx9; have HM9 := Aside0.mk (k34.M_lower (Nat.le_trans HB3.out.size (Nat.le_refl _)) (Get.M_moved HM6.out HX6.out (by decide) hm9)); have HB9 := Aside0.mk ((Moved.of_below HB6.out (fun k => k = W.heap.size + 1)).trans hm9 (fun _ _ h => h) |>.below (fun k hk h => by omega)); clear hm9 hx9)) | (go_at_call 17; have hch := c_checkP w5 w5 y cs HK5.out (Below.refl _ _) HE5.out HSA.out; have HMC := Aside0.mk hmc; rw [hmc] at hch; (with_reducible refine hch.mono ?_); clear hch; rintro e w6 ⟨rfl, hb6⟩; have HX6 := Aside0.mk (blk_below hb6 HX5.out); have HG6 := Aside0.mk (blk_below hb6 HG5.out); have HM6 := Aside0.mk (Kd.M_below HM5.out hb6); have HB6 := Aside0.mk (below_step HB5.out hb6); clear hb6))
       refine bodyPost_ret (results_ct rfl _ _ _ _ _ _ _ _ rfl rfl HX9.out Tryz.underlying34 rfl HSZ.out) rfl ?_
       exact ⟨HB9.out, fun h => absurd HLE.out (by omega), (fun _ y' h _ => by rw [HDN.out] at h; obtain rfl := Option.some.inj h; exact ⟨cs, HM9.out, rfl⟩), fun _ h => absurd (h y HDN.out) (by rw [HMC.out]; simp)⟩
     | false =>
       go_wp2_with (first | (first | ((with_reducible refine gate_load (t := 34) rfl ?_); refine gate_guard (by rfl) ?_; refine load_row rfl rfl Tryz.underlying34 rfl HG5.out rfl HSZ.out ?_) | ((with_reducible refine gate_load (t := 34) rfl ?_); refine load_row rfl rfl Tryz.underlying34 rfl HG6.out rfl HSZ.out ?_) | ((with_reducible refine gate_store2 (t := 34) rfl ?_); refine store_row (old := zeroCells.toArray) (cs := cs.toArray) rfl rfl rfl HX6.out rfl rfl HSZ.out (note_size HK5.out) (note_one HK5.out) ?_; intro w9 hm9 hx9; have HX9 := Aside0.mk hx9; have HM9 := Aside0.mk (k34.M_lower (Nat.le_trans HB3.out.size (Nat.le_refl _)) (Get.M_moved HM6.out HX6.out (by decide) hm9)); have HB9 := Aside0.mk ((Moved.of_below HB6.out (fun k => k = W.heap.size + 1)).trans hm9 (fun _ _ h => h) |>.below (fun k hk h => by omega)); clear hm9 hx9)) | (go_at_call 17; have hch := c_checkP w5 w5 y cs HK5.out (Below.refl _ _) HE5.out HSA.out; have HMC := Aside0.mk hmc; rw [hmc] at hch; (with_reducible refine hch.mono ?_); clear hch; rintro e w6 ⟨rfl, hb6⟩; have HX6 := Aside0.mk (blk_below hb6 HX5.out); have HG6 := Aside0.mk (blk_below hb6 HG5.out); have HM6 := Aside0.mk (Kd.M_below HM5.out hb6); have HB6 := Aside0.mk (below_step HB5.out hb6); clear hb6) | ((with_reducible refine gate_store2 (t := 34) rfl ?_); refine store_row (old := zeroCells.toArray) (cs := zeroCells.toArray) rfl rfl rfl HX6.out rfl rfl zero_size rfl zero_one ?_; intro w9 hm9 hx9; have HX9 := Aside0.mk hx9; have HB9 := Aside0.mk ((Moved.of_below HB6.out (fun k => k = W.heap.size + 1)).trans hm9 (fun _ _ h => h) |>.below (fun k hk h => by omega)); clear hm9 hx9))
       refine bodyPost_ret (results_ct rfl _ _ _ _ _ _ _ _ rfl rfl HX9.out Tryz.underlying34 rfl zero_size) rfl ?_
       exact ⟨HB9.out, fun h => absurd HLE.out (by omega), (fun _ y' h hm => by rw [HDN.out] at h; obtain rfl := Option.some.inj h; rw [HMC.out] at hm; cases hm), fun _ _ => rfl⟩
end Go.Proofs.YtmneemhplffemaaGreatDoorRR.Tab
namespace Go.Proofs.YtmneemhplffemaaGreatDoorRR.Cop
open Go.RowKit Go.Proofs.YtmneemhplffemaaGreatDoorRR.Ext Go.Proofs.YtmneemhplffemaaGreatDoorRR.Wire Go.Proofs.YtmneemhplffemaaGreatDoorRR.Mem Go.Proofs.YtmneemhplffemaaGreatDoorRR.Row Go.Proofs.YtmneemhplffemaaGreatDoorRR.Ki Go.Proofs.YtmneemhplffemaaGreatDoorRR.Get Go.Proofs.YtmneemhplffemaaGreatDoorRR.Arg Go.Proofs.YtmneemhplffemaaGreatDoorRR.Tab Go.Proofs.YtmneemhplffemaaGreatDoorRRW.PrintWords


theorem row_at {α : Type} {d : Kd α} {w0 : World} {A : Option Addr} {n : Nat} {xs : List α} (h : d.C w0 A n xs) (w : World) (hb : Below w0.heap.size w0 w) : ReadsRow (d.K w0) d.sz w A n xs := ReadsRow.imp_ h hb (fun _ _ hp => hp)
end Go.Proofs.YtmneemhplffemaaGreatDoorRR.Cop
namespace Go.Proofs.YtmneemhplffemaaGreatDoorRR.Put
open Go.RowKit Go.Proofs.YtmneemhplffemaaGreatDoorRR.Ext Go.Proofs.YtmneemhplffemaaGreatDoorRR.Wire Go.Proofs.YtmneemhplffemaaGreatDoorRR.Mem Go.Proofs.YtmneemhplffemaaGreatDoorRR.Ki Go.Proofs.YtmneemhplffemaaGreatDoorRRW.PrintWords

section
variable {W0 W : World} {base g : Nat} {v0 v : Value} {bs : List Int} {B : Nat → Obj → Prop}
theorem Pend.pnum (h : Pend 131 W0 W base g v0 v bs B) (x : Int) (hx : isN x) (hl : bs.length + 5 ≤ 140737488355328) :
  Calls Tryz.prog 63 #[.pointer (some ⟨g, 0, none⟩), .int .i64 x] W fun e W' => e = .returned (.tuple #[]) ∧ ∃ v', Pend 131 W0 W' base g v0 v' (bs ++ encNum x) B :=
 (Mem.pnum x hx.1 hx.2 W base g v bs h.pen hl).mono fun _ _ ⟨he, hw⟩ => ⟨he, h.step hw⟩
theorem Pend.ptxt (h : Pend 131 W0 W base g v0 v bs B) (s : ByteArray) (hs : s.size ≤ 262144) (hl : bs.length + (s.size + 5) ≤ 140737488355328) :
  Calls Tryz.prog 108 #[.pointer (some ⟨g, 0, none⟩), .string s] W fun e W' => e = .returned (.tuple #[]) ∧ ∃ v', Pend 131 W0 W' base g v0 v' (bs ++ encTxt s) B :=
 (Mem.ptxt s hs W base g v bs h.pen hl).mono fun _ _ ⟨he, hw⟩ => ⟨he, h.step hw⟩
end
set_option maxRecDepth 100000 in
set_option maxHeartbeats 2000000 in
theorem pageOps (A : Option Addr) (c : Nat) (xs : List S78) (w0 W : World) (hC : k78.C w0 A xs.length xs) (hall : ∀ x ∈ xs, OpOk x) (hb : Below w0.heap.size w0 W) (base g : Nat) (v : Value) (bs : List Int) (hbase : w0.heap.size ≤ base) (hp : Pen 131 W base g v bs) (hlen : xs.length ≤ 4) (hl : bs.length + 10000 ≤ 140737488355328) :
  Calls Tryz.prog 103 #[.pointer (some ⟨g, 0, none⟩), .slice A xs.length c] W fun e W' => e = .returned (.tuple #[]) ∧ Wrote 131 W W' base g v (bs ++ encList encOp xs) := by
 have HS0 := Aside0.mk (Pend.begin_ hp)
 have HP := Aside0.mk hp
 have HB := Aside0.mk hb
 have HC := Aside0.mk hC
 have HL := Aside0.mk hall
 have HF : Aside0 (∀ k, ((xs.take k).flatMap encOp).length ≤ xs.length * 2000) := ⟨fun k => flat_take k len_Op hall⟩
 have e0 := num_le (xs.length : Int)
 have e90 := num_le 0
 have e91 := num_le 1
 clear hp hb hC hall
 go_enter Tryz.func103, Tryz.ntmps103
 have en1 := num_le (xs.length : Int)
 go_wp2_with fail
 refine (Pend.pnum HS0.out (xs.length : Int) ⟨by omega, by omega⟩ (by first | omega | (simp only [List.length_append]; omega))).mono ?_
 rintro e w1 ⟨rfl, v1, hs1⟩
 have HS1 := Aside0.mk hs1
 have HA1 := Aside0.mk (hs1.above HP.out HB.out hbase)
 clear hs1
 go_wp2_with fail
 go_loopw [4] (fun vi wr => ∃ k : Nat, vi = .int .i64 k ∧ k ≤ xs.length ∧ ∃ v' : Value, Aside0 (Pend 131 W wr base g v v' (bs ++ encNum (xs.length : Int) ++ (xs.take k).flatMap encOp) (fun (k : Nat) (o : Obj) => False))) (fun vi _ => xs.length - (intOf vi).toNat)
 case atStart => exact ⟨0, rfl, Nat.zero_le _, _, ⟨by simpa using HS1.out⟩⟩
 case round =>
  obtain ⟨k1, rfl, hk1, vr1, HR1⟩ := hrel
  obtain ⟨wo1, rfl⟩ : ∃ wo1 : World, wo1 = wr := ⟨_, rfl⟩
  have HAR1 := Aside0.mk (HR1.out.above HP.out HB.out hbase)
  have hfk1 := HF.out k1
  by_cases hlt1 : k1 < xs.length
  · obtain ⟨x, hxe⟩ : ∃ e_, xs[k1]? = some e_ := ⟨_, List.getElem?_eq_getElem hlt1⟩
    have hat := at_T78 HC.out (k1 : Int) (by omega) (by omega)
    rw [show rd_T78 xs (k1 : Int) = x by unfold rd_T78; rw [Int.toNat_natCast, List.getD_eq_getElem?_getD, hxe]; rfl, Int.toNat_natCast] at hat
    have HX1 := Aside0.mk hxe
    have HO1 := Aside0.mk (HL.out x (List.mem_of_getElem? hxe))
    clear hxe
    obtain ⟨ad1, rfl, h0, h1, h2, h3, h4⟩ := hat
    have F1_0 := Aside0.mk h0
    have F1_1 := Aside0.mk h1
    have F1_2 := Aside0.mk h2
    have F1_3 := Aside0.mk h3
    have F1_4 := Aside0.mk h4
    replace h0 := pw_cell_below HAR1.out h0
    replace h1 := pw_cell_below HAR1.out h1
    replace h2 := pw_cell_below HAR1.out h2
    replace h3 := pw_cell_below HAR1.out h3
    replace h4 := pw_cell_below HAR1.out h4
    have e1_0 := num_le x.f0
    have e1_1 := txt_le x.f1
    have t1_1 := HO1.out.t1
    have e1_2 := txt_le x.f2
    have t1_2 := HO1.out.t2
    have e1_3 := num_le x.f3
    have e1_4 := num_le x.f4
    by_cases hv : x.f3 = -1
    · have hvd : (x.f3 == -1) = true := by simp [hv]
      have HE := Aside0.mk (show encOp x = encNum x.f0 ++ encTxt x.f1 ++ encTxt x.f2 ++ encNum 0 ++ encNum x.f4 by unfold encOp; rw [if_pos hv])
      clear hv
      go_wp2_with fail
      refine (Pend.pnum HR1.out x.f0 HO1.out.n0 (by first | omega | (simp only [List.length_append]; omega))).mono ?_
      rintro e w2 ⟨rfl, v2, hs2⟩
      have HS2 := Aside0.mk hs2
      have HA2 := Aside0.mk (hs2.above HP.out HB.out hbase)
      clear hs2
      have c2_1_0 := pw_cell_below HA2.out F1_0.out
      have c2_1_1 := pw_cell_below HA2.out F1_1.out
      have c2_1_2 := pw_cell_below HA2.out F1_2.out
      have c2_1_3 := pw_cell_below HA2.out F1_3.out
      have c2_1_4 := pw_cell_below HA2.out F1_4.out
      clear h0 h1 h2 h3 h4
      go_wp2_with fail
      refine (Pend.ptxt HS2.out x.f1 (by omega) (by first | omega | (simp only [List.length_append]; omega))).mono ?_
      rintro e w3 ⟨rfl, v3, hs3⟩
      have HS3 := Aside0.mk hs3
      have HA3 := Aside0.mk (hs3.above HP.out HB.out hbase)
      clear hs3
      have c3_1_0 := pw_cell_below HA3.out F1_0.out
      have c3_1_1 := pw_cell_below HA3.out F1_1.out
      have c3_1_2 := pw_cell_below HA3.out F1_2.out
      have c3_1_3 := pw_cell_below HA3.out F1_3.out
      have c3_1_4 := pw_cell_below HA3.out F1_4.out
      clear c2_1_0 c2_1_1 c2_1_2 c2_1_3 c2_1_4
      go_wp2_with fail
      refine (Pend.ptxt HS3.out x.f2 (by omega) (by first | omega | (simp only [List.length_append]; omega))).mono ?_
      rintro e w4 ⟨rfl, v4, hs4⟩
      have HS4 := Aside0.mk hs4
      have HA4 := Aside0.mk (hs4.above HP.out HB.out hbase)
      clear hs4
      have c4_1_0 := pw_cell_below HA4.out F1_0.out
      have c4_1_1 := pw_cell_below HA4.out F1_1.out
      have c4_1_2 := pw_cell_below HA4.out F1_2.out
      have c4_1_3 := pw_cell_below HA4.out F1_3.out
      have c4_1_4 := pw_cell_below HA4.out F1_4.out
      clear c3_1_0 c3_1_1 c3_1_2 c3_1_3 c3_1_4
      go_wp2_with fail
      refine (Pend.pnum HS4.out 0 ⟨by omega, by omega⟩ (by first | omega | (simp only [List.length_append]; omega))).mono ?_
      rintro e w5 ⟨rfl, v5, hs5⟩
      have HS5 := Aside0.mk hs5
      have HA5 := Aside0.mk (hs5.above HP.out HB.out hbase)
      clear hs5
      have c5_1_0 := pw_cell_below HA5.out F1_0.out
      have c5_1_1 := pw_cell_below HA5.out F1_1.out
      have c5_1_2 := pw_cell_below HA5.out F1_2.out
      have c5_1_3 := pw_cell_below HA5.out F1_3.out
      have c5_1_4 := pw_cell_below HA5.out F1_4.out
      clear c4_1_0 c4_1_1 c4_1_2 c4_1_3 c4_1_4
      go_wp2_with fail
      refine (Pend.pnum HS5.out x.f4 HO1.out.n4 (by first | omega | (simp only [List.length_append]; omega))).mono ?_
      rintro e w6 ⟨rfl, v6, hs6⟩
      have HS6 := Aside0.mk hs6
      have HA6 := Aside0.mk (hs6.above HP.out HB.out hbase)
      clear hs6
      have c6_1_0 := pw_cell_below HA6.out F1_0.out
      have c6_1_1 := pw_cell_below HA6.out F1_1.out
      have c6_1_2 := pw_cell_below HA6.out F1_2.out
      have c6_1_3 := pw_cell_below HA6.out F1_3.out
      have c6_1_4 := pw_cell_below HA6.out F1_4.out
      clear c5_1_0 c5_1_1 c5_1_2 c5_1_3 c5_1_4
      go_wp2_with fail
      go_roundw
      case rel => exact ⟨k1 + 1, by go_num, by omega, _, ⟨by rw [flat_snoc HX1.out]; rw [HE.out]; simpa only [List.append_assoc] using HS6.out⟩⟩
      case measure => simp [intOf]; omega
    · have hvd : (x.f3 == -1) = false := by simp [hv]
      have HN := Aside0.mk (HO1.out.n3.resolve_left hv)
      have HE := Aside0.mk (show encOp x = encNum x.f0 ++ encTxt x.f1 ++ encTxt x.f2 ++ encNum 1 ++ encNum x.f3 ++ encNum x.f4 by unfold encOp; rw [if_neg hv]; simp only [List.append_assoc])
      clear hv
      go_wp2_with fail
      refine (Pend.pnum HR1.out x.f0 HO1.out.n0 (by first | omega | (simp only [List.length_append]; omega))).mono ?_
      rintro e w7 ⟨rfl, v7, hs7⟩
      have HS7 := Aside0.mk hs7
      have HA7 := Aside0.mk (hs7.above HP.out HB.out hbase)
      clear hs7
      have c7_1_0 := pw_cell_below HA7.out F1_0.out
      have c7_1_1 := pw_cell_below HA7.out F1_1.out
      have c7_1_2 := pw_cell_below HA7.out F1_2.out
      have c7_1_3 := pw_cell_below HA7.out F1_3.out
      have c7_1_4 := pw_cell_below HA7.out F1_4.out
      clear h0 h1 h2 h3 h4
      go_wp2_with fail
      refine (Pend.ptxt HS7.out x.f1 (by omega) (by first | omega | (simp only [List.length_append]; omega))).mono ?_
      rintro e w8 ⟨rfl, v8, hs8⟩
      have HS8 := Aside0.mk hs8
      have HA8 := Aside0.mk (hs8.above HP.out HB.out hbase)
      clear hs8
      have c8_1_0 := pw_cell_below HA8.out F1_0.out
      have c8_1_1 := pw_cell_below HA8.out F1_1.out
      have c8_1_2 := pw_cell_below HA8.out F1_2.out
      have c8_1_3 := pw_cell_below HA8.out F1_3.out
      have c8_1_4 := pw_cell_below HA8.out F1_4.out
      clear c7_1_0 c7_1_1 c7_1_2 c7_1_3 c7_1_4
      go_wp2_with fail
      refine (Pend.ptxt HS8.out x.f2 (by omega) (by first | omega | (simp only [List.length_append]; omega))).mono ?_
      rintro e w9 ⟨rfl, v9, hs9⟩
      have HS9 := Aside0.mk hs9
      have HA9 := Aside0.mk (hs9.above HP.out HB.out hbase)
      clear hs9
      have c9_1_0 := pw_cell_below HA9.out F1_0.out
      have c9_1_1 := pw_cell_below HA9.out F1_1.out
      have c9_1_2 := pw_cell_below HA9.out F1_2.out
      have c9_1_3 := pw_cell_below HA9.out F1_3.out
      have c9_1_4 := pw_cell_below HA9.out F1_4.out
      clear c8_1_0 c8_1_1 c8_1_2 c8_1_3 c8_1_4
      go_wp2_with fail
      refine (Pend.pnum HS9.out 1 ⟨by omega, by omega⟩ (by first | omega | (simp only [List.length_append]; omega))).mono ?_
      rintro e w10 ⟨rfl, v10, hs10⟩
      have HS10 := Aside0.mk hs10
      have HA10 := Aside0.mk (hs10.above HP.out HB.out hbase)
      clear hs10
      have c10_1_0 := pw_cell_below HA10.out F1_0.out
      have c10_1_1 := pw_cell_below HA10.out F1_1.out
      have c10_1_2 := pw_cell_below HA10.out F1_2.out
      have c10_1_3 := pw_cell_below HA10.out F1_3.out
      have c10_1_4 := pw_cell_below HA10.out F1_4.out
      clear c9_1_0 c9_1_1 c9_1_2 c9_1_3 c9_1_4
      go_wp2_with fail
      refine (Pend.pnum HS10.out x.f3 HN.out (by first | omega | (simp only [List.length_append]; omega))).mono ?_
      rintro e w11 ⟨rfl, v11, hs11⟩
      have HS11 := Aside0.mk hs11
      have HA11 := Aside0.mk (hs11.above HP.out HB.out hbase)
      clear hs11
      have c11_1_0 := pw_cell_below HA11.out F1_0.out
      have c11_1_1 := pw_cell_below HA11.out F1_1.out
      have c11_1_2 := pw_cell_below HA11.out F1_2.out
      have c11_1_3 := pw_cell_below HA11.out F1_3.out
      have c11_1_4 := pw_cell_below HA11.out F1_4.out
      clear c10_1_0 c10_1_1 c10_1_2 c10_1_3 c10_1_4
      go_wp2_with fail
      refine (Pend.pnum HS11.out x.f4 HO1.out.n4 (by first | omega | (simp only [List.length_append]; omega))).mono ?_
      rintro e w12 ⟨rfl, v12, hs12⟩
      have HS12 := Aside0.mk hs12
      have HA12 := Aside0.mk (hs12.above HP.out HB.out hbase)
      clear hs12
      have c12_1_0 := pw_cell_below HA12.out F1_0.out
      have c12_1_1 := pw_cell_below HA12.out F1_1.out
      have c12_1_2 := pw_cell_below HA12.out F1_2.out
      have c12_1_3 := pw_cell_below HA12.out F1_3.out
      have c12_1_4 := pw_cell_below HA12.out F1_4.out
      clear c11_1_0 c11_1_1 c11_1_2 c11_1_3 c11_1_4
      go_wp2_with fail
      go_roundw
      case rel => exact ⟨k1 + 1, by go_num, by omega, _, ⟨by rw [flat_snoc HX1.out]; rw [HE.out]; simpa only [List.append_assoc] using HS12.out⟩⟩
      case measure => simp [intOf]; omega
  · have HS13 : Aside0 (Pend 131 W wo1 base g v vr1 (bs ++ encNum (xs.length : Int) ++ xs.flatMap encOp) (fun (k : Nat) (o : Obj) => False)) := ⟨by have h := HR1.out; rw [List.take_of_length_le (show xs.length ≤ k1 by omega)] at h; exact h⟩
    have hfl1 : (xs.flatMap encOp).length ≤ xs.length * 2000 := by have h := HF.out k1; rw [List.take_of_length_le (by omega)] at h; exact h
    go_wp2_with fail
    first | go_end0 | refine bodyPost_ret (results_none rfl _ _ _) rfl ?_
    exact ⟨rfl, by unfold encList; simpa only [List.append_assoc] using HS13.out.wrote⟩
set_option maxRecDepth 100000 in
set_option maxHeartbeats 2000000 in
theorem pageEntry (x : S55) (hx : EntryOk x) (cs : List Value) (w0 W : World) (hk : k55.K w0 x cs) (hb : Below w0.heap.size w0 W) (base g : Nat) (v : Value) (bs : List Int) (hbase : w0.heap.size ≤ base) (hp : Pen 131 W base g v bs) (hl : bs.length + 12000 ≤ 140737488355328) :
  Calls Tryz.prog 77 #[.pointer (some ⟨g, 0, none⟩), .agg cs.toArray] W fun e W' => e = .returned (.tuple #[]) ∧ Wrote 131 W W' base g v (bs ++ encEntry x) := by
 obtain ⟨A1_5, c1_5, rfl, l1_5, g1_5⟩ := k55_open hk
 have HO1 := Aside0.mk hx
 have e1_0 := num_le x.f0
 have e1_1 := num_le x.f1
 have e1_2 := num_le x.f2
 have e1_3 := num_le x.f3
 have e1_4 := num_le x.f4
 have m1_5 := HO1.out.m5
 have GG1_5 := Aside0.mk g1_5
 have HS0 := Aside0.mk ((Pend.begin_ hp).lay (Obj.cells #[.int .i64 x.f0, .int .i64 x.f1, .int .i64 x.f2, .int .i64 x.f3, .int .i64 x.f4, .slice A1_5 x.f5.length c1_5] 55 (0, 0)))
 have HP := Aside0.mk hp
 have HB := Aside0.mk hb
 have e90 := num_le 0
 have e91 := num_le 1
 clear hp hb hk hx g1_5
 go_enter Tryz.func77, Tryz.ntmps77
 go_wp2_with fail
 refine (Pend.pnum HS0.out x.f0 HO1.out.n0 (by first | omega | (simp only [List.length_append]; omega))).mono ?_
 rintro e w66 ⟨rfl, v66, hs66⟩
 have HS66 := Aside0.mk hs66
 have HA66 := Aside0.mk (hs66.above HP.out HB.out hbase)
 clear hs66
 have b66_0 := HS66.out.cells (k := W.heap.size) (.inr ⟨rfl, rfl⟩)
 go_wp2_with fail
 refine (Pend.pnum HS66.out x.f1 HO1.out.n1 (by first | omega | (simp only [List.length_append]; omega))).mono ?_
 rintro e w67 ⟨rfl, v67, hs67⟩
 have HS67 := Aside0.mk hs67
 have HA67 := Aside0.mk (hs67.above HP.out HB.out hbase)
 clear hs67
 have b67_0 := HS67.out.cells (k := W.heap.size) (.inr ⟨rfl, rfl⟩)
 clear b66_0
 go_wp2_with fail
 refine (Pend.pnum HS67.out x.f2 HO1.out.n2 (by first | omega | (simp only [List.length_append]; omega))).mono ?_
 rintro e w68 ⟨rfl, v68, hs68⟩
 have HS68 := Aside0.mk hs68
 have HA68 := Aside0.mk (hs68.above HP.out HB.out hbase)
 clear hs68
 have b68_0 := HS68.out.cells (k := W.heap.size) (.inr ⟨rfl, rfl⟩)
 clear b67_0
 go_wp2_with fail
 refine (Pend.pnum HS68.out x.f3 HO1.out.n3 (by first | omega | (simp only [List.length_append]; omega))).mono ?_
 rintro e w69 ⟨rfl, v69, hs69⟩
 have HS69 := Aside0.mk hs69
 have HA69 := Aside0.mk (hs69.above HP.out HB.out hbase)
 clear hs69
 have b69_0 := HS69.out.cells (k := W.heap.size) (.inr ⟨rfl, rfl⟩)
 clear b68_0
 go_wp2_with fail
 refine (Pend.pnum HS69.out x.f4 HO1.out.n4 (by first | omega | (simp only [List.length_append]; omega))).mono ?_
 rintro e w70 ⟨rfl, v70, hs70⟩
 have HS70 := Aside0.mk hs70
 have HA70 := Aside0.mk (hs70.above HP.out HB.out hbase)
 clear hs70
 have b70_0 := HS70.out.cells (k := W.heap.size) (.inr ⟨rfl, rfl⟩)
 clear b69_0
 go_wp2_with fail
 refine (pageOps A1_5 c1_5 x.f5 w0 _ GG1_5.out HO1.out.l5 (HS70.out.above HP.out HB.out hbase) base g _ _ hbase HS70.out.pen HO1.out.m5 (by first | omega | (simp only [List.length_append]; omega))).mono ?_
 rintro e w71 ⟨rfl, hw71⟩
 obtain ⟨v71, hs71⟩ := HS70.out.step hw71
 clear hw71
 have HS71 := Aside0.mk hs71
 have HA71 := Aside0.mk (hs71.above HP.out HB.out hbase)
 clear hs71
 have b71_0 := HS71.out.cells (k := W.heap.size) (.inr ⟨rfl, rfl⟩)
 clear b70_0
 go_wp2_with fail
 first | go_end0 | refine bodyPost_ret (results_none rfl _ _ _) rfl ?_
 exact ⟨rfl, by unfold encEntry; simp only [List.flatMap_cons, List.flatMap_nil, List.append_nil]; simpa only [List.append_assoc] using HS71.out.wrote⟩
end Go.Proofs.YtmneemhplffemaaGreatDoorRR.Put
namespace Go.Proofs.YtmneemhplffemaaGreatDoorRR.PRe
open Go.RowKit Go.Proofs.YtmneemhplffemaaGreatDoorRR.Ext Go.Proofs.YtmneemhplffemaaGreatDoorRRW.PrintWords Go.Proofs.YtmneemhplffemaaGreatDoorRRW.PrintLast Go.Proofs.YtmneemhplffemaaGreatDoorRRW.PrintMore
attribute [local go_sem] max2_int min2_int max_two min_two max_three min_three max_four min_four   -- for this text's walks alone


def errW : Option Int → Value
 | none => .nilIface
 | some c => .iface 0 (.int .i64 c)
theorem errW_none : errW none = .nilIface := rfl
theorem errW_some (c : Int) : errW (some c) = .iface 0 (.int .i64 c) := rfl
theorem info9 : (Tryz.prog.info? 9).map (fun i => (i.zero, i.size, i.bytes)) = some (some (.string ⟨#[]⟩), 1, 16) := by kernel_rfl
end Go.Proofs.YtmneemhplffemaaGreatDoorRR.PRe
namespace Go.Proofs.YtmneemhplffemaaGreatDoorRR.PRe
open Go.RowKit Go.Proofs.YtmneemhplffemaaGreatDoorRR.Ext Go.Proofs.YtmneemhplffemaaGreatDoorRRW.PrintWords Go.Proofs.YtmneemhplffemaaGreatDoorRRW.PrintLast Go.Proofs.YtmneemhplffemaaGreatDoorRRW.PrintMore
attribute [local go_sem] max2_int min2_int max_two min_two max_three min_three max_four min_four   -- for this text's walks alone


mutual
def heraldref1_NameOf.j0 : Nat → ByteArray → Bool → Option (Bool)
 | 0, _, _ => none
 | k + 1, x0, x21 => if x21 = true then (some false) else (heraldref1_NameOf.l0 k x0 0)
def heraldref1_NameOf.l0 : Nat → ByteArray → Int → Option (Bool)
 | 0, _, _ => none
 | k + 1, x0, x3 => if x3 < (x0.size : Int) then (if 0 ≤ x3 then (if (bt x0 x3) ≥ 97 then (if (bt x0 x3) ≤ 122 then (heraldref1_NameOf.l0 k x0 (wrap64 (x3 + 1))) else (if (bt x0 x3) ≥ 65 then (if ((bt x0 x3) ≤ 90) then (heraldref1_NameOf.l0 k x0 (wrap64 (x3 + 1))) else (if (bt x0 x3) < 48 then (if (bt x0 x3) = 95 then (heraldref1_NameOf.l0 k x0 (wrap64 (x3 + 1))) else (if (bt x0 x3) = 45 then (heraldref1_NameOf.l0 k x0 (wrap64 (x3 + 1))) else (if (bt x0 x3) = 46 then (heraldref1_NameOf.l0 k x0 (wrap64 (x3 + 1))) else (some false)))) else (if (bt x0 x3) > 57 then (if (bt x0 x3) = 95 then (heraldref1_NameOf.l0 k x0 (wrap64 (x3 + 1))) else (if (bt x0 x3) = 45 then (heraldref1_NameOf.l0 k x0 (wrap64 (x3 + 1))) else (if (bt x0 x3) = 46 then (heraldref1_NameOf.l0 k x0 (wrap64 (x3 + 1))) else (some false)))) else (heraldref1_NameOf.l0 k x0 (wrap64 (x3 + 1)))))) else (if (bt x0 x3) < 48 then (if (bt x0 x3) = 95 then (heraldref1_NameOf.l0 k x0 (wrap64 (x3 + 1))) else (if (bt x0 x3) = 45 then (heraldref1_NameOf.l0 k x0 (wrap64 (x3 + 1))) else (if (bt x0 x3) = 46 then (heraldref1_NameOf.l0 k x0 (wrap64 (x3 + 1))) else (some false)))) else (if (bt x0 x3) > 57 then (if (bt x0 x3) = 95 then (heraldref1_NameOf.l0 k x0 (wrap64 (x3 + 1))) else (if (bt x0 x3) = 45 then (heraldref1_NameOf.l0 k x0 (wrap64 (x3 + 1))) else (if (bt x0 x3) = 46 then (heraldref1_NameOf.l0 k x0 (wrap64 (x3 + 1))) else (some false)))) else (heraldref1_NameOf.l0 k x0 (wrap64 (x3 + 1))))))) else (if (bt x0 x3) ≥ 65 then (if ((bt x0 x3) ≤ 90) then (heraldref1_NameOf.l0 k x0 (wrap64 (x3 + 1))) else (if (bt x0 x3) < 48 then (if (bt x0 x3) = 95 then (heraldref1_NameOf.l0 k x0 (wrap64 (x3 + 1))) else (if (bt x0 x3) = 45 then (heraldref1_NameOf.l0 k x0 (wrap64 (x3 + 1))) else (if (bt x0 x3) = 46 then (heraldref1_NameOf.l0 k x0 (wrap64 (x3 + 1))) else (some false)))) else (if (bt x0 x3) > 57 then (if (bt x0 x3) = 95 then (heraldref1_NameOf.l0 k x0 (wrap64 (x3 + 1))) else (if (bt x0 x3) = 45 then (heraldref1_NameOf.l0 k x0 (wrap64 (x3 + 1))) else (if (bt x0 x3) = 46 then (heraldref1_NameOf.l0 k x0 (wrap64 (x3 + 1))) else (some false)))) else (heraldref1_NameOf.l0 k x0 (wrap64 (x3 + 1)))))) else (if (bt x0 x3) < 48 then (if (bt x0 x3) = 95 then (heraldref1_NameOf.l0 k x0 (wrap64 (x3 + 1))) else (if (bt x0 x3) = 45 then (heraldref1_NameOf.l0 k x0 (wrap64 (x3 + 1))) else (if (bt x0 x3) = 46 then (heraldref1_NameOf.l0 k x0 (wrap64 (x3 + 1))) else (some false)))) else (if (bt x0 x3) > 57 then (if (bt x0 x3) = 95 then (heraldref1_NameOf.l0 k x0 (wrap64 (x3 + 1))) else (if (bt x0 x3) = 45 then (heraldref1_NameOf.l0 k x0 (wrap64 (x3 + 1))) else (if (bt x0 x3) = 46 then (heraldref1_NameOf.l0 k x0 (wrap64 (x3 + 1))) else (some false)))) else (heraldref1_NameOf.l0 k x0 (wrap64 (x3 + 1))))))) else (none)) else (some true)
end
def heraldref1_NameOf.f (k : Nat) (a0 : ByteArray) : Option (Bool) := if (a0.size : Int) < 1 then (heraldref1_NameOf.j0 k a0 true) else (if (a0.size : Int) > 16 then (heraldref1_NameOf.j0 k a0 true) else (if a0.toList = ([46] : List UInt8) then (heraldref1_NameOf.j0 k a0 true) else (heraldref1_NameOf.j0 k a0 (a0.toList == ([46, 46] : List UInt8)))))
theorem heraldref1_NameOf.mono_l : ∀ k, (∀ y0 y1, LeO (heraldref1_NameOf.j0 k y0 y1) (heraldref1_NameOf.j0 (k + 1) y0 y1)) ∧ (∀ y0 y1, LeO (heraldref1_NameOf.l0 k y0 y1) (heraldref1_NameOf.l0 (k + 1) y0 y1))
 | 0 => ⟨fun _ _ r h => by simp [heraldref1_NameOf.j0] at h, fun _ _ r h => by simp [heraldref1_NameOf.l0] at h⟩
 | k + 1 => by
   obtain ⟨ih0, ih1⟩ := heraldref1_NameOf.mono_l k
   refine ⟨?_, ?_⟩
   · intro y0 y1
     unfold heraldref1_NameOf.j0
     repeat' first
     | (with_reducible exact ih0 _ _)
     | (with_reducible exact ih1 _ _)
     | (with_reducible exact LeO.refl _)
     | (with_reducible exact LeO.none _)
     | (with_reducible refine LeO.ite ?_ ?_)
     | (with_reducible refine LeO.bind ?_ (fun _ => ?_))
     | exact ih0 _ _
     | exact ih1 _ _
     | exact LeO.none _
     | refine LeO.ite ?_ ?_
     | refine LeO.bind ?_ (fun _ => ?_)
   · intro y0 y1
     unfold heraldref1_NameOf.l0
     repeat' first
     | (with_reducible exact ih0 _ _)
     | (with_reducible exact ih1 _ _)
     | (with_reducible exact LeO.refl _)
     | (with_reducible exact LeO.none _)
     | (with_reducible refine LeO.ite ?_ ?_)
     | (with_reducible refine LeO.bind ?_ (fun _ => ?_))
     | exact ih0 _ _
     | exact ih1 _ _
     | exact LeO.none _
     | refine LeO.ite ?_ ?_
     | refine LeO.bind ?_ (fun _ => ?_)
theorem heraldref1_NameOf.mono : ∀ a0 k, LeO (heraldref1_NameOf.f k a0) (heraldref1_NameOf.f (k + 1) a0) := by
 intro a0 k
 obtain ⟨ih0, ih1⟩ := heraldref1_NameOf.mono_l k
 unfold heraldref1_NameOf.f
 repeat' first
  | (with_reducible exact ih0 _ _)
  | (with_reducible exact ih1 _ _)
  | (with_reducible exact LeO.refl _)
  | (with_reducible exact LeO.none _)
  | (with_reducible refine LeO.ite ?_ ?_)
  | (with_reducible refine LeO.bind ?_ (fun _ => ?_))
  | exact ih0 _ _
  | exact ih1 _ _
  | exact LeO.none _
  | refine LeO.ite ?_ ?_
  | refine LeO.bind ?_ (fun _ => ?_)
set_option maxHeartbeats 8000000 in
set_option maxRecDepth 100000 in
theorem heraldref1_NameOf.calls (k : Nat) (a0 : ByteArray) (r : Bool) (w : World) (h : heraldref1_NameOf.f k a0 = some r) :
  Calls Tryz.prog 153 #[.string a0] w fun e w' => e = .returned (.bool r) ∧ Drawn0 w w' := by
 have H : (if (a0.size : Int) < 1 then (heraldref1_NameOf.j0 k a0 true) else (if (a0.size : Int) > 16 then (heraldref1_NameOf.j0 k a0 true) else (if a0.toList = ([46] : List UInt8) then (heraldref1_NameOf.j0 k a0 true) else (heraldref1_NameOf.j0 k a0 (a0.toList == ([46, 46] : List UInt8)))))) = some r := h
 clear h
 have HC2 := Aside0.mk H
 clear H
 go_enter Tryz.func153, Tryz.ntmps153
 go_upto_region 1 with (fail)
 go_cut [21] (fun v21 wc => ∃ (kq : Nat) (x21_1 : Bool), v21 = .bool x21_1 ∧ Aside0 (heraldref1_NameOf.j0 kq a0 x21_1 = some r) ∧ Aside0 (kq ≤ k) ∧ Drawn0 w wc)
 case first =>
  have H := HC2.out
  clear HC2
  by_cases c3 : (a0.size : Int) < 1
  · rw [if_pos c3] at H
    have c3b0 : decide ((a0.size : Int) < 1) = true := decide_eq_true c3
    have c3b1 : decide (a0.size < 1) = true := decide_eq_true (by omega)
    clear c3
    (first | rw [c3b0] | (simp only [i64_w, i32_w]; rw [c3b0]) | skip)
    have H' := Aside0.mk H
    clear H
    go_wp2
    go_meet
    case rel => exact ⟨_, (true), (by first | rfl | (simp; done) | (simp [*]; done)), H', ⟨by first | omega | exact Nat.le_refl _⟩, by repeat (first | exact Drawn0.refl _ | apply Drawn0.step)⟩
  · rw [if_neg c3] at H
    have c3b0 : decide ((a0.size : Int) < 1) = false := decide_eq_false c3
    have c3b1 : decide (a0.size < 1) = false := decide_eq_false (by omega)
    clear c3
    (first | rw [c3b0] | (simp only [i64_w, i32_w]; rw [c3b0]) | skip)
    by_cases c4 : (a0.size : Int) > 16
    · rw [if_pos c4] at H
      have c4b0 : decide (16 < (a0.size : Int)) = true := decide_eq_true c4
      have c4b1 : decide (16 < a0.size) = true := decide_eq_true (by omega)
      clear c4
      have H' := Aside0.mk H
      clear H
      go_wp2
      go_meet
      case rel => exact ⟨_, (true), (by first | rfl | (simp; done) | (simp [*]; done)), H', ⟨by first | omega | exact Nat.le_refl _⟩, by repeat (first | exact Drawn0.refl _ | apply Drawn0.step)⟩
    · rw [if_neg c4] at H
      have c4b0 : decide (16 < (a0.size : Int)) = false := decide_eq_false c4
      have c4b1 : decide (16 < a0.size) = false := decide_eq_false (by omega)
      clear c4
      by_cases c5 : a0.toList = ([46] : List UInt8)
      · rw [if_pos c5] at H
        have c5b0 : (a0.toList == ([46] : List UInt8)) = true := beq_iff_eq.mpr c5
        have c5b1 : (a0.toList != ([46] : List UInt8)) = false := bne_eq_false_iff_eq.mpr c5
        clear c5
        have H' := Aside0.mk H
        clear H
        go_wp2
        go_meet
        case rel => exact ⟨_, (true), (by first | rfl | (simp; done) | (simp [*]; done)), H', ⟨by first | omega | exact Nat.le_refl _⟩, by repeat (first | exact Drawn0.refl _ | apply Drawn0.step)⟩
      · rw [if_neg c5] at H
        have c5b0 : (a0.toList == ([46] : List UInt8)) = false := beq_eq_false_iff_ne.mpr c5
        have c5b1 : (a0.toList != ([46] : List UInt8)) = true := bne_iff_ne.mpr c5
        have H' := Aside0.mk H
        clear H
        go_wp2
        go_meet
        case rel => exact ⟨_, ((a0.toList == ([46, 46] : List UInt8))), (by first | rfl | (simp; done) | (simp [*]; done)), H', ⟨by first | omega | exact Nat.le_refl _⟩, by repeat (first | exact Drawn0.refl _ | apply Drawn0.step)⟩
 case rest =>
  clear HC2
  try clear c1
  try clear p2
  try clear c3
  try clear c3b0
  try clear c3b1
  try clear c4
  try clear c4b0
  try clear c4b1
  try clear c5
  try clear c5b0
  try clear c5b1
  obtain ⟨kq, x21_1, rfl, HA, HJ1, ⟨mc1, rfl⟩⟩ := hcut
  cases kq with
  | zero => exact absurd HA.out (by simp [heraldref1_NameOf.j0])
  | succ kj1 =>
    have H := HA.out
    clear HA
    simp only [heraldref1_NameOf.j0] at H
    by_cases c6 : x21_1 = true
    · subst c6
      have H1 : (some false) = some r := by rw [if_pos rfl] at H; exact H
      clear H
      have H := H1
      clear H1
      obtain rfl := Option.some.inj H
      go_wp2
      go_ret
      exact ⟨by first | rfl | (simp; done) | (simp [*]; done), by repeat (first | exact Drawn0.refl _ | apply Drawn0.step)⟩
    · replace c6 := Bool.eq_false_iff.mpr c6
      subst c6
      have H1 : (heraldref1_NameOf.l0 kj1 a0 0) = some r := by rw [if_neg (show ¬ (false = true) by decide)] at H; exact H
      clear H
      have H := H1
      clear H1
      have H' := Aside0.mk H
      clear H
      go_wp2
      go_loopg [3] kj1 (fun kq v3 w' => ∃ (x3_2 : Int), v3 = .int .i64 x3_2 ∧ Aside0 (heraldref1_NameOf.l0 kq a0 x3_2 = some r) ∧ Aside0 (kq ≤ kj1) ∧ Drawn0 w w')
      case atStart => exact ⟨(0), (by first | rfl | (simp; done) | (simp [*]; done)), H', ⟨Nat.le_refl _⟩, by repeat (first | exact Drawn0.refl _ | apply Drawn0.step)⟩
      case round =>
        clear H'
        try clear c1
        try clear p2
        try clear c3
        try clear c3b0
        try clear c3b1
        try clear c4
        try clear c4b0
        try clear c4b1
        try clear c5
        try clear c5b0
        try clear c5b1
        try clear c6
        try clear p2
        obtain ⟨x3_2, rfl, HA, HK2, ⟨m2, rfl⟩⟩ := hrel
        cases gk with
        | zero => exact absurd HA.out (by simp [heraldref1_NameOf.l0])
        | succ k2 =>
          have H := HA.out
          clear HA
          simp only [heraldref1_NameOf.l0] at H
          by_cases c7 : x3_2 < (a0.size : Int)
          · rw [if_pos c7] at H
            have c7b0 : decide (x3_2 < (a0.size : Int)) = true := decide_eq_true c7
            clear c7
            by_cases c8 : 0 ≤ x3_2
            · rw [if_pos c8] at H
              have c8b0 : decide (0 ≤ x3_2) = true := decide_eq_true c8
              clear c8
              by_cases c10 : (bt a0 x3_2) ≥ 97
              · rw [if_pos c10] at H
                have c10b0 : decide (97 ≤ (bt a0 x3_2)) = true := decide_eq_true c10
                clear c10
                by_cases c11 : (bt a0 x3_2) ≤ 122
                · rw [if_pos c11] at H
                  have c11b0 : decide ((bt a0 x3_2) ≤ 122) = true := decide_eq_true c11
                  clear c11
                  have H' := Aside0.mk H
                  clear H
                  have p9 : 0 ≤ (x3_2 : Int) := of_decide_eq_true (by first | (with_reducible assumption) | assumption)
                  have q9 : x3_2 < (a0.size : Int) := of_decide_eq_true (by first | (with_reducible assumption) | assumption)
                  have hx9 := bt_at a0 x3_2
                  replace p9 := eq_true p9
                  replace q9 := eq_true q9
                  go_wp2
                  go_roundg k2
                  case measure => have := HJ1.out; have := HK2.out; omega
                  case rel => exact ⟨(wrap64 (x3_2 + 1)), (by first | rfl | (simp; done) | (simp [*]; done)), H', ⟨by have := HJ1.out; have := HK2.out; omega⟩, by repeat (first | exact Drawn0.refl _ | apply Drawn0.step)⟩
                · rw [if_neg c11] at H
                  have c11b0 : decide ((bt a0 x3_2) ≤ 122) = false := decide_eq_false c11
                  clear c11
                  by_cases c12 : (bt a0 x3_2) ≥ 65
                  · rw [if_pos c12] at H
                    have c12b0 : decide (65 ≤ (bt a0 x3_2)) = true := decide_eq_true c12
                    clear c12
                    by_cases c13 : ((bt a0 x3_2) ≤ 90)
                    · rw [if_pos c13] at H
                      have c13b0 : decide ((bt a0 x3_2) ≤ 90) = true := decide_eq_true c13
                      clear c13
                      have H' := Aside0.mk H
                      clear H
                      have p9 : 0 ≤ (x3_2 : Int) := of_decide_eq_true (by first | (with_reducible assumption) | assumption)
                      have q9 : x3_2 < (a0.size : Int) := of_decide_eq_true (by first | (with_reducible assumption) | assumption)
                      have hx9 := bt_at a0 x3_2
                      replace p9 := eq_true p9
                      replace q9 := eq_true q9
                      go_wp2
                      go_roundg k2
                      case measure => have := HJ1.out; have := HK2.out; omega
                      case rel => exact ⟨(wrap64 (x3_2 + 1)), (by first | rfl | (simp; done) | (simp [*]; done)), H', ⟨by have := HJ1.out; have := HK2.out; omega⟩, by repeat (first | exact Drawn0.refl _ | apply Drawn0.step)⟩
                    · rw [if_neg c13] at H
                      have c13b0 : decide ((bt a0 x3_2) ≤ 90) = false := decide_eq_false c13
                      clear c13
                      by_cases c14 : (bt a0 x3_2) < 48
                      · rw [if_pos c14] at H
                        have c14b0 : decide ((bt a0 x3_2) < 48) = true := decide_eq_true c14
                        clear c14
                        by_cases c15 : (bt a0 x3_2) = 95
                        · rw [if_pos c15] at H
                          have c15b0 : ((bt a0 x3_2) == 95) = true := beq_iff_eq.mpr c15
                          have c15b1 : ((bt a0 x3_2) != 95) = false := bne_eq_false_iff_eq.mpr c15
                          clear c15
                          have H' := Aside0.mk H
                          clear H
                          have p9 : 0 ≤ (x3_2 : Int) := of_decide_eq_true (by first | (with_reducible assumption) | assumption)
                          have q9 : x3_2 < (a0.size : Int) := of_decide_eq_true (by first | (with_reducible assumption) | assumption)
                          have hx9 := bt_at a0 x3_2
                          replace p9 := eq_true p9
                          replace q9 := eq_true q9
                          go_wp2
                          go_roundg k2
                          case measure => have := HJ1.out; have := HK2.out; omega
                          case rel => exact ⟨(wrap64 (x3_2 + 1)), (by first | rfl | (simp; done) | (simp [*]; done)), H', ⟨by have := HJ1.out; have := HK2.out; omega⟩, by repeat (first | exact Drawn0.refl _ | apply Drawn0.step)⟩
                        · rw [if_neg c15] at H
                          have c15b0 : ((bt a0 x3_2) == 95) = false := beq_eq_false_iff_ne.mpr c15
                          have c15b1 : ((bt a0 x3_2) != 95) = true := bne_iff_ne.mpr c15
                          by_cases c16 : (bt a0 x3_2) = 45
                          · rw [if_pos c16] at H
                            have c16b0 : ((bt a0 x3_2) == 45) = true := beq_iff_eq.mpr c16
                            have c16b1 : ((bt a0 x3_2) != 45) = false := bne_eq_false_iff_eq.mpr c16
                            clear c16
                            have H' := Aside0.mk H
                            clear H
                            have p9 : 0 ≤ (x3_2 : Int) := of_decide_eq_true (by first | (with_reducible assumption) | assumption)
                            have q9 : x3_2 < (a0.size : Int) := of_decide_eq_true (by first | (with_reducible assumption) | assumption)
                            have hx9 := bt_at a0 x3_2
                            replace p9 := eq_true p9
                            replace q9 := eq_true q9
                            go_wp2
                            go_roundg k2
                            case measure => have := HJ1.out; have := HK2.out; omega
                            case rel => exact ⟨(wrap64 (x3_2 + 1)), (by first | rfl | (simp; done) | (simp [*]; done)), H', ⟨by have := HJ1.out; have := HK2.out; omega⟩, by repeat (first | exact Drawn0.refl _ | apply Drawn0.step)⟩
                          · rw [if_neg c16] at H
                            have c16b0 : ((bt a0 x3_2) == 45) = false := beq_eq_false_iff_ne.mpr c16
                            have c16b1 : ((bt a0 x3_2) != 45) = true := bne_iff_ne.mpr c16
                            by_cases c17 : (bt a0 x3_2) = 46
                            · rw [if_pos c17] at H
                              have c17b0 : ((bt a0 x3_2) == 46) = true := beq_iff_eq.mpr c17
                              have c17b1 : ((bt a0 x3_2) != 46) = false := bne_eq_false_iff_eq.mpr c17
                              clear c17
                              have H' := Aside0.mk H
                              clear H
                              have p9 : 0 ≤ (x3_2 : Int) := of_decide_eq_true (by first | (with_reducible assumption) | assumption)
                              have q9 : x3_2 < (a0.size : Int) := of_decide_eq_true (by first | (with_reducible assumption) | assumption)
                              have hx9 := bt_at a0 x3_2
                              replace p9 := eq_true p9
                              replace q9 := eq_true q9
                              go_wp2
                              go_roundg k2
                              case measure => have := HJ1.out; have := HK2.out; omega
                              case rel => exact ⟨(wrap64 (x3_2 + 1)), (by first | rfl | (simp; done) | (simp [*]; done)), H', ⟨by have := HJ1.out; have := HK2.out; omega⟩, by repeat (first | exact Drawn0.refl _ | apply Drawn0.step)⟩
                            · rw [if_neg c17] at H
                              have c17b0 : ((bt a0 x3_2) == 46) = false := beq_eq_false_iff_ne.mpr c17
                              have c17b1 : ((bt a0 x3_2) != 46) = true := bne_iff_ne.mpr c17
                              obtain rfl := Option.some.inj H
                              have p9 : 0 ≤ (x3_2 : Int) := of_decide_eq_true (by first | (with_reducible assumption) | assumption)
                              have q9 : x3_2 < (a0.size : Int) := of_decide_eq_true (by first | (with_reducible assumption) | assumption)
                              have hx9 := bt_at a0 x3_2
                              replace p9 := eq_true p9
                              replace q9 := eq_true q9
                              go_wp2
                              go_ret
                              exact ⟨by first | rfl | (simp; done) | (simp [*]; done), by repeat (first | exact Drawn0.refl _ | apply Drawn0.step)⟩
                      · rw [if_neg c14] at H
                        have c14b0 : decide ((bt a0 x3_2) < 48) = false := decide_eq_false c14
                        clear c14
                        by_cases c18 : (bt a0 x3_2) > 57
                        · rw [if_pos c18] at H
                          have c18b0 : decide (57 < (bt a0 x3_2)) = true := decide_eq_true c18
                          clear c18
                          by_cases c19 : (bt a0 x3_2) = 95
                          · rw [if_pos c19] at H
                            have c19b0 : ((bt a0 x3_2) == 95) = true := beq_iff_eq.mpr c19
                            have c19b1 : ((bt a0 x3_2) != 95) = false := bne_eq_false_iff_eq.mpr c19
                            clear c19
                            have H' := Aside0.mk H
                            clear H
                            have p9 : 0 ≤ (x3_2 : Int) := of_decide_eq_true (by first | (with_reducible assumption) | assumption)
                            have q9 : x3_2 < (a0.size : Int) := of_decide_eq_true (by first | (with_reducible assumption) | assumption)
                            have hx9 := bt_at a0 x3_2
                            replace p9 := eq_true p9
                            replace q9 := eq_true q9
                            go_wp2
                            go_roundg k2
                            case measure => have := HJ1.out; have := HK2.out; omega
                            case rel => exact ⟨(wrap64 (x3_2 + 1)), (by first | rfl | (simp; done) | (simp [*]; done)), H', ⟨by have := HJ1.out; have := HK2.out; omega⟩, by repeat (first | exact Drawn0.refl _ | apply Drawn0.step)⟩
                          · rw [if_neg c19] at H
                            have c19b0 : ((bt a0 x3_2) == 95) = false := beq_eq_false_iff_ne.mpr c19
                            have c19b1 : ((bt a0 x3_2) != 95) = true := bne_iff_ne.mpr c19
                            by_cases c20 : (bt a0 x3_2) = 45
                            · rw [if_pos c20] at H
                              have c20b0 : ((bt a0 x3_2) == 45) = true := beq_iff_eq.mpr c20
                              have c20b1 : ((bt a0 x3_2) != 45) = false := bne_eq_false_iff_eq.mpr c20
                              clear c20
                              have H' := Aside0.mk H
                              clear H
                              have p9 : 0 ≤ (x3_2 : Int) := of_decide_eq_true (by first | (with_reducible assumption) | assumption)
                              have q9 : x3_2 < (a0.size : Int) := of_decide_eq_true (by first | (with_reducible assumption) | assumption)
                              have hx9 := bt_at a0 x3_2
                              replace p9 := eq_true p9
                              replace q9 := eq_true q9
                              go_wp2
                              go_roundg k2
                              case measure => have := HJ1.out; have := HK2.out; omega
                              case rel => exact ⟨(wrap64 (x3_2 + 1)), (by first | rfl | (simp; done) | (simp [*]; done)), H', ⟨by have := HJ1.out; have := HK2.out; omega⟩, by repeat (first | exact Drawn0.refl _ | apply Drawn0.step)⟩
                            · rw [if_neg c20] at H
                              have c20b0 : ((bt a0 x3_2) == 45) = false := beq_eq_false_iff_ne.mpr c20
                              have c20b1 : ((bt a0 x3_2) != 45) = true := bne_iff_ne.mpr c20
                              by_cases c21 : (bt a0 x3_2) = 46
                              · rw [if_pos c21] at H
                                have c21b0 : ((bt a0 x3_2) == 46) = true := beq_iff_eq.mpr c21
                                have c21b1 : ((bt a0 x3_2) != 46) = false := bne_eq_false_iff_eq.mpr c21
                                clear c21
                                have H' := Aside0.mk H
                                clear H
                                have p9 : 0 ≤ (x3_2 : Int) := of_decide_eq_true (by first | (with_reducible assumption) | assumption)
                                have q9 : x3_2 < (a0.size : Int) := of_decide_eq_true (by first | (with_reducible assumption) | assumption)
                                have hx9 := bt_at a0 x3_2
                                replace p9 := eq_true p9
                                replace q9 := eq_true q9
                                go_wp2
                                go_roundg k2
                                case measure => have := HJ1.out; have := HK2.out; omega
                                case rel => exact ⟨(wrap64 (x3_2 + 1)), (by first | rfl | (simp; done) | (simp [*]; done)), H', ⟨by have := HJ1.out; have := HK2.out; omega⟩, by repeat (first | exact Drawn0.refl _ | apply Drawn0.step)⟩
                              · rw [if_neg c21] at H
                                have c21b0 : ((bt a0 x3_2) == 46) = false := beq_eq_false_iff_ne.mpr c21
                                have c21b1 : ((bt a0 x3_2) != 46) = true := bne_iff_ne.mpr c21
                                obtain rfl := Option.some.inj H
                                have p9 : 0 ≤ (x3_2 : Int) := of_decide_eq_true (by first | (with_reducible assumption) | assumption)
                                have q9 : x3_2 < (a0.size : Int) := of_decide_eq_true (by first | (with_reducible assumption) | assumption)
                                have hx9 := bt_at a0 x3_2
                                replace p9 := eq_true p9
                                replace q9 := eq_true q9
                                go_wp2
                                go_ret
                                exact ⟨by first | rfl | (simp; done) | (simp [*]; done), by repeat (first | exact Drawn0.refl _ | apply Drawn0.step)⟩
                        · rw [if_neg c18] at H
                          have c18b0 : decide (57 < (bt a0 x3_2)) = false := decide_eq_false c18
                          clear c18
                          have H' := Aside0.mk H
                          clear H
                          have p9 : 0 ≤ (x3_2 : Int) := of_decide_eq_true (by first | (with_reducible assumption) | assumption)
                          have q9 : x3_2 < (a0.size : Int) := of_decide_eq_true (by first | (with_reducible assumption) | assumption)
                          have hx9 := bt_at a0 x3_2
                          replace p9 := eq_true p9
                          replace q9 := eq_true q9
                          go_wp2
                          go_roundg k2
                          case measure => have := HJ1.out; have := HK2.out; omega
                          case rel => exact ⟨(wrap64 (x3_2 + 1)), (by first | rfl | (simp; done) | (simp [*]; done)), H', ⟨by have := HJ1.out; have := HK2.out; omega⟩, by repeat (first | exact Drawn0.refl _ | apply Drawn0.step)⟩
                  · rw [if_neg c12] at H
                    have c12b0 : decide (65 ≤ (bt a0 x3_2)) = false := decide_eq_false c12
                    clear c12
                    by_cases c22 : (bt a0 x3_2) < 48
                    · rw [if_pos c22] at H
                      have c22b0 : decide ((bt a0 x3_2) < 48) = true := decide_eq_true c22
                      clear c22
                      by_cases c23 : (bt a0 x3_2) = 95
                      · rw [if_pos c23] at H
                        have c23b0 : ((bt a0 x3_2) == 95) = true := beq_iff_eq.mpr c23
                        have c23b1 : ((bt a0 x3_2) != 95) = false := bne_eq_false_iff_eq.mpr c23
                        clear c23
                        have H' := Aside0.mk H
                        clear H
                        have p9 : 0 ≤ (x3_2 : Int) := of_decide_eq_true (by first | (with_reducible assumption) | assumption)
                        have q9 : x3_2 < (a0.size : Int) := of_decide_eq_true (by first | (with_reducible assumption) | assumption)
                        have hx9 := bt_at a0 x3_2
                        replace p9 := eq_true p9
                        replace q9 := eq_true q9
                        go_wp2
                        go_roundg k2
                        case measure => have := HJ1.out; have := HK2.out; omega
                        case rel => exact ⟨(wrap64 (x3_2 + 1)), (by first | rfl | (simp; done) | (simp [*]; done)), H', ⟨by have := HJ1.out; have := HK2.out; omega⟩, by repeat (first | exact Drawn0.refl _ | apply Drawn0.step)⟩
                      · rw [if_neg c23] at H
                        have c23b0 : ((bt a0 x3_2) == 95) = false := beq_eq_false_iff_ne.mpr c23
                        have c23b1 : ((bt a0 x3_2) != 95) = true := bne_iff_ne.mpr c23
                        by_cases c24 : (bt a0 x3_2) = 45
                        · rw [if_pos c24] at H
                          have c24b0 : ((bt a0 x3_2) == 45) = true := beq_iff_eq.mpr c24
                          have c24b1 : ((bt a0 x3_2) != 45) = false := bne_eq_false_iff_eq.mpr c24
                          clear c24
                          have H' := Aside0.mk H
                          clear H
                          have p9 : 0 ≤ (x3_2 : Int) := of_decide_eq_true (by first | (with_reducible assumption) | assumption)
                          have q9 : x3_2 < (a0.size : Int) := of_decide_eq_true (by first | (with_reducible assumption) | assumption)
                          have hx9 := bt_at a0 x3_2
                          replace p9 := eq_true p9
                          replace q9 := eq_true q9
                          go_wp2
                          go_roundg k2
                          case measure => have := HJ1.out; have := HK2.out; omega
                          case rel => exact ⟨(wrap64 (x3_2 + 1)), (by first | rfl | (simp; done) | (simp [*]; done)), H', ⟨by have := HJ1.out; have := HK2.out; omega⟩, by repeat (first | exact Drawn0.refl _ | apply Drawn0.step)⟩
                        · rw [if_neg c24] at H
                          have c24b0 : ((bt a0 x3_2) == 45) = false := beq_eq_false_iff_ne.mpr c24
                          have c24b1 : ((bt a0 x3_2) != 45) = true := bne_iff_ne.mpr c24
                          by_cases c25 : (bt a0 x3_2) = 46
                          · rw [if_pos c25] at H
                            have c25b0 : ((bt a0 x3_2) == 46) = true := beq_iff_eq.mpr c25
                            have c25b1 : ((bt a0 x3_2) != 46) = false := bne_eq_false_iff_eq.mpr c25
                            clear c25
                            have H' := Aside0.mk H
                            clear H
                            have p9 : 0 ≤ (x3_2 : Int) := of_decide_eq_true (by first | (with_reducible assumption) | assumption)
                            have q9 : x3_2 < (a0.size : Int) := of_decide_eq_true (by first | (with_reducible assumption) | assumption)
                            have hx9 := bt_at a0 x3_2
                            replace p9 := eq_true p9
                            replace q9 := eq_true q9
                            go_wp2
                            go_roundg k2
                            case measure => have := HJ1.out; have := HK2.out; omega
                            case rel => exact ⟨(wrap64 (x3_2 + 1)), (by first | rfl | (simp; done) | (simp [*]; done)), H', ⟨by have := HJ1.out; have := HK2.out; omega⟩, by repeat (first | exact Drawn0.refl _ | apply Drawn0.step)⟩
                          · rw [if_neg c25] at H
                            have c25b0 : ((bt a0 x3_2) == 46) = false := beq_eq_false_iff_ne.mpr c25
                            have c25b1 : ((bt a0 x3_2) != 46) = true := bne_iff_ne.mpr c25
                            obtain rfl := Option.some.inj H
                            have p9 : 0 ≤ (x3_2 : Int) := of_decide_eq_true (by first | (with_reducible assumption) | assumption)
                            have q9 : x3_2 < (a0.size : Int) := of_decide_eq_true (by first | (with_reducible assumption) | assumption)
                            have hx9 := bt_at a0 x3_2
                            replace p9 := eq_true p9
                            replace q9 := eq_true q9
                            go_wp2
                            go_ret
                            exact ⟨by first | rfl | (simp; done) | (simp [*]; done), by repeat (first | exact Drawn0.refl _ | apply Drawn0.step)⟩
                    · rw [if_neg c22] at H
                      have c22b0 : decide ((bt a0 x3_2) < 48) = false := decide_eq_false c22
                      clear c22
                      by_cases c26 : (bt a0 x3_2) > 57
                      · rw [if_pos c26] at H
                        have c26b0 : decide (57 < (bt a0 x3_2)) = true := decide_eq_true c26
                        clear c26
                        by_cases c27 : (bt a0 x3_2) = 95
                        · rw [if_pos c27] at H
                          have c27b0 : ((bt a0 x3_2) == 95) = true := beq_iff_eq.mpr c27
                          have c27b1 : ((bt a0 x3_2) != 95) = false := bne_eq_false_iff_eq.mpr c27
                          clear c27
                          have H' := Aside0.mk H
                          clear H
                          have p9 : 0 ≤ (x3_2 : Int) := of_decide_eq_true (by first | (with_reducible assumption) | assumption)
                          have q9 : x3_2 < (a0.size : Int) := of_decide_eq_true (by first | (with_reducible assumption) | assumption)
                          have hx9 := bt_at a0 x3_2
                          replace p9 := eq_true p9
                          replace q9 := eq_true q9
                          go_wp2
                          go_roundg k2
                          case measure => have := HJ1.out; have := HK2.out; omega
                          case rel => exact ⟨(wrap64 (x3_2 + 1)), (by first | rfl | (simp; done) | (simp [*]; done)), H', ⟨by have := HJ1.out; have := HK2.out; omega⟩, by repeat (first | exact Drawn0.refl _ | apply Drawn0.step)⟩
                        · rw [if_neg c27] at H
                          have c27b0 : ((bt a0 x3_2) == 95) = false := beq_eq_false_iff_ne.mpr c27
                          have c27b1 : ((bt a0 x3_2) != 95) = true := bne_iff_ne.mpr c27
                          by_cases c28 : (bt a0 x3_2) = 45
                          · rw [if_pos c28] at H
                            have c28b0 : ((bt a0 x3_2) == 45) = true := beq_iff_eq.mpr c28
                            have c28b1 : ((bt a0 x3_2) != 45) = false := bne_eq_false_iff_eq.mpr c28
                            clear c28
                            have H' := Aside0.mk H
                            clear H
                            have p9 : 0 ≤ (x3_2 : Int) := of_decide_eq_true (by first | (with_reducible assumption) | assumption)
                            have q9 : x3_2 < (a0.size : Int) := of_decide_eq_true (by first | (with_reducible assumption) | assumption)
                            have hx9 := bt_at a0 x3_2
                            replace p9 := eq_true p9
                            replace q9 := eq_true q9
                            go_wp2
                            go_roundg k2
                            case measure => have := HJ1.out; have := HK2.out; omega
                            case rel => exact ⟨(wrap64 (x3_2 + 1)), (by first | rfl | (simp; done) | (simp [*]; done)), H', ⟨by have := HJ1.out; have := HK2.out; omega⟩, by repeat (first | exact Drawn0.refl _ | apply Drawn0.step)⟩
                          · rw [if_neg c28] at H
                            have c28b0 : ((bt a0 x3_2) == 45) = false := beq_eq_false_iff_ne.mpr c28
                            have c28b1 : ((bt a0 x3_2) != 45) = true := bne_iff_ne.mpr c28
                            by_cases c29 : (bt a0 x3_2) = 46
                            · rw [if_pos c29] at H
                              have c29b0 : ((bt a0 x3_2) == 46) = true := beq_iff_eq.mpr c29
                              have c29b1 : ((bt a0 x3_2) != 46) = false := bne_eq_false_iff_eq.mpr c29
                              clear c29
                              have H' := Aside0.mk H
                              clear H
                              have p9 : 0 ≤ (x3_2 : Int) := of_decide_eq_true (by first | (with_reducible assumption) | assumption)
                              have q9 : x3_2 < (a0.size : Int) := of_decide_eq_true (by first | (with_reducible assumption) | assumption)
                              have hx9 := bt_at a0 x3_2
                              replace p9 := eq_true p9
                              replace q9 := eq_true q9
                              go_wp2
                              go_roundg k2
                              case measure => have := HJ1.out; have := HK2.out; omega
                              case rel => exact ⟨(wrap64 (x3_2 + 1)), (by first | rfl | (simp; done) | (simp [*]; done)), H', ⟨by have := HJ1.out; have := HK2.out; omega⟩, by repeat (first | exact Drawn0.refl _ | apply Drawn0.step)⟩
                            · rw [if_neg c29] at H
                              have c29b0 : ((bt a0 x3_2) == 46) = false := beq_eq_false_iff_ne.mpr c29
                              have c29b1 : ((bt a0 x3_2) != 46) = true := bne_iff_ne.mpr c29
                              obtain rfl := Option.some.inj H
                              have p9 : 0 ≤ (x3_2 : Int) := of_decide_eq_true (by first | (with_reducible assumption) | assumption)
                              have q9 : x3_2 < (a0.size : Int) := of_decide_eq_true (by first | (with_reducible assumption) | assumption)
                              have hx9 := bt_at a0 x3_2
                              replace p9 := eq_true p9
                              replace q9 := eq_true q9
                              go_wp2
                              go_ret
                              exact ⟨by first | rfl | (simp; done) | (simp [*]; done), by repeat (first | exact Drawn0.refl _ | apply Drawn0.step)⟩
                      · rw [if_neg c26] at H
                        have c26b0 : decide (57 < (bt a0 x3_2)) = false := decide_eq_false c26
                        clear c26
                        have H' := Aside0.mk H
                        clear H
                        have p9 : 0 ≤ (x3_2 : Int) := of_decide_eq_true (by first | (with_reducible assumption) | assumption)
                        have q9 : x3_2 < (a0.size : Int) := of_decide_eq_true (by first | (with_reducible assumption) | assumption)
                        have hx9 := bt_at a0 x3_2
                        replace p9 := eq_true p9
                        replace q9 := eq_true q9
                        go_wp2
                        go_roundg k2
                        case measure => have := HJ1.out; have := HK2.out; omega
                        case rel => exact ⟨(wrap64 (x3_2 + 1)), (by first | rfl | (simp; done) | (simp [*]; done)), H', ⟨by have := HJ1.out; have := HK2.out; omega⟩, by repeat (first | exact Drawn0.refl _ | apply Drawn0.step)⟩
              · rw [if_neg c10] at H
                have c10b0 : decide (97 ≤ (bt a0 x3_2)) = false := decide_eq_false c10
                clear c10
                by_cases c30 : (bt a0 x3_2) ≥ 65
                · rw [if_pos c30] at H
                  have c30b0 : decide (65 ≤ (bt a0 x3_2)) = true := decide_eq_true c30
                  clear c30
                  by_cases c31 : ((bt a0 x3_2) ≤ 90)
                  · rw [if_pos c31] at H
                    have c31b0 : decide ((bt a0 x3_2) ≤ 90) = true := decide_eq_true c31
                    clear c31
                    have H' := Aside0.mk H
                    clear H
                    have p9 : 0 ≤ (x3_2 : Int) := of_decide_eq_true (by first | (with_reducible assumption) | assumption)
                    have q9 : x3_2 < (a0.size : Int) := of_decide_eq_true (by first | (with_reducible assumption) | assumption)
                    have hx9 := bt_at a0 x3_2
                    replace p9 := eq_true p9
                    replace q9 := eq_true q9
                    go_wp2
                    go_roundg k2
                    case measure => have := HJ1.out; have := HK2.out; omega
                    case rel => exact ⟨(wrap64 (x3_2 + 1)), (by first | rfl | (simp; done) | (simp [*]; done)), H', ⟨by have := HJ1.out; have := HK2.out; omega⟩, by repeat (first | exact Drawn0.refl _ | apply Drawn0.step)⟩
                  · rw [if_neg c31] at H
                    have c31b0 : decide ((bt a0 x3_2) ≤ 90) = false := decide_eq_false c31
                    clear c31
                    by_cases c32 : (bt a0 x3_2) < 48
                    · rw [if_pos c32] at H
                      have c32b0 : decide ((bt a0 x3_2) < 48) = true := decide_eq_true c32
                      clear c32
                      by_cases c33 : (bt a0 x3_2) = 95
                      · rw [if_pos c33] at H
                        have c33b0 : ((bt a0 x3_2) == 95) = true := beq_iff_eq.mpr c33
                        have c33b1 : ((bt a0 x3_2) != 95) = false := bne_eq_false_iff_eq.mpr c33
                        clear c33
                        have H' := Aside0.mk H
                        clear H
                        have p9 : 0 ≤ (x3_2 : Int) := of_decide_eq_true (by first | (with_reducible assumption) | assumption)
                        have q9 : x3_2 < (a0.size : Int) := of_decide_eq_true (by first | (with_reducible assumption) | assumption)
                        have hx9 := bt_at a0 x3_2
                        replace p9 := eq_true p9
                        replace q9 := eq_true q9
                        go_wp2
                        go_roundg k2
                        case measure => have := HJ1.out; have := HK2.out; omega
                        case rel => exact ⟨(wrap64 (x3_2 + 1)), (by first | rfl | (simp; done) | (simp [*]; done)), H', ⟨by have := HJ1.out; have := HK2.out; omega⟩, by repeat (first | exact Drawn0.refl _ | apply Drawn0.step)⟩
                      · rw [if_neg c33] at H
                        have c33b0 : ((bt a0 x3_2) == 95) = false := beq_eq_false_iff_ne.mpr c33
                        have c33b1 : ((bt a0 x3_2) != 95) = true := bne_iff_ne.mpr c33
                        by_cases c34 : (bt a0 x3_2) = 45
                        · rw [if_pos c34] at H
                          have c34b0 : ((bt a0 x3_2) == 45) = true := beq_iff_eq.mpr c34
                          have c34b1 : ((bt a0 x3_2) != 45) = false := bne_eq_false_iff_eq.mpr c34
                          clear c34
                          have H' := Aside0.mk H
                          clear H
                          have p9 : 0 ≤ (x3_2 : Int) := of_decide_eq_true (by first | (with_reducible assumption) | assumption)
                          have q9 : x3_2 < (a0.size : Int) := of_decide_eq_true (by first | (with_reducible assumption) | assumption)
                          have hx9 := bt_at a0 x3_2
                          replace p9 := eq_true p9
                          replace q9 := eq_true q9
                          go_wp2
                          go_roundg k2
                          case measure => have := HJ1.out; have := HK2.out; omega
                          case rel => exact ⟨(wrap64 (x3_2 + 1)), (by first | rfl | (simp; done) | (simp [*]; done)), H', ⟨by have := HJ1.out; have := HK2.out; omega⟩, by repeat (first | exact Drawn0.refl _ | apply Drawn0.step)⟩
                        · rw [if_neg c34] at H
                          have c34b0 : ((bt a0 x3_2) == 45) = false := beq_eq_false_iff_ne.mpr c34
                          have c34b1 : ((bt a0 x3_2) != 45) = true := bne_iff_ne.mpr c34
                          by_cases c35 : (bt a0 x3_2) = 46
                          · rw [if_pos c35] at H
                            have c35b0 : ((bt a0 x3_2) == 46) = true := beq_iff_eq.mpr c35
                            have c35b1 : ((bt a0 x3_2) != 46) = false := bne_eq_false_iff_eq.mpr c35
                            clear c35
                            have H' := Aside0.mk H
                            clear H
                            have p9 : 0 ≤ (x3_2 : Int) := of_decide_eq_true (by first | (with_reducible assumption) | assumption)
                            have q9 : x3_2 < (a0.size : Int) := of_decide_eq_true (by first | (with_reducible assumption) | assumption)
                            have hx9 := bt_at a0 x3_2
                            replace p9 := eq_true p9
                            replace q9 := eq_true q9
                            go_wp2
                            go_roundg k2
                            case measure => have := HJ1.out; have := HK2.out; omega
                            case rel => exact ⟨(wrap64 (x3_2 + 1)), (by first | rfl | (simp; done) | (simp [*]; done)), H', ⟨by have := HJ1.out; have := HK2.out; omega⟩, by repeat (first | exact Drawn0.refl _ | apply Drawn0.step)⟩
                          · rw [if_neg c35] at H
                            have c35b0 : ((bt a0 x3_2) == 46) = false := beq_eq_false_iff_ne.mpr c35
                            have c35b1 : ((bt a0 x3_2) != 46) = true := bne_iff_ne.mpr c35
                            obtain rfl := Option.some.inj H
                            have p9 : 0 ≤ (x3_2 : Int) := of_decide_eq_true (by first | (with_reducible assumption) | assumption)
                            have q9 : x3_2 < (a0.size : Int) := of_decide_eq_true (by first | (with_reducible assumption) | assumption)
                            have hx9 := bt_at a0 x3_2
                            replace p9 := eq_true p9
                            replace q9 := eq_true q9
                            go_wp2
                            go_ret
                            exact ⟨by first | rfl | (simp; done) | (simp [*]; done), by repeat (first | exact Drawn0.refl _ | apply Drawn0.step)⟩
                    · rw [if_neg c32] at H
                      have c32b0 : decide ((bt a0 x3_2) < 48) = false := decide_eq_false c32
                      clear c32
                      by_cases c36 : (bt a0 x3_2) > 57
                      · rw [if_pos c36] at H
                        have c36b0 : decide (57 < (bt a0 x3_2)) = true := decide_eq_true c36
                        clear c36
                        by_cases c37 : (bt a0 x3_2) = 95
                        · rw [if_pos c37] at H
                          have c37b0 : ((bt a0 x3_2) == 95) = true := beq_iff_eq.mpr c37
                          have c37b1 : ((bt a0 x3_2) != 95) = false := bne_eq_false_iff_eq.mpr c37
                          clear c37
                          have H' := Aside0.mk H
                          clear H
                          have p9 : 0 ≤ (x3_2 : Int) := of_decide_eq_true (by first | (with_reducible assumption) | assumption)
                          have q9 : x3_2 < (a0.size : Int) := of_decide_eq_true (by first | (with_reducible assumption) | assumption)
                          have hx9 := bt_at a0 x3_2
                          replace p9 := eq_true p9
                          replace q9 := eq_true q9
                          go_wp2
                          go_roundg k2
                          case measure => have := HJ1.out; have := HK2.out; omega
                          case rel => exact ⟨(wrap64 (x3_2 + 1)), (by first | rfl | (simp; done) | (simp [*]; done)), H', ⟨by have := HJ1.out; have := HK2.out; omega⟩, by repeat (first | exact Drawn0.refl _ | apply Drawn0.step)⟩
                        · rw [if_neg c37] at H
                          have c37b0 : ((bt a0 x3_2) == 95) = false := beq_eq_false_iff_ne.mpr c37
                          have c37b1 : ((bt a0 x3_2) != 95) = true := bne_iff_ne.mpr c37
                          by_cases c38 : (bt a0 x3_2) = 45
                          · rw [if_pos c38] at H
                            have c38b0 : ((bt a0 x3_2) == 45) = true := beq_iff_eq.mpr c38
                            have c38b1 : ((bt a0 x3_2) != 45) = false := bne_eq_false_iff_eq.mpr c38
                            clear c38
                            have H' := Aside0.mk H
                            clear H
                            have p9 : 0 ≤ (x3_2 : Int) := of_decide_eq_true (by first | (with_reducible assumption) | assumption)
                            have q9 : x3_2 < (a0.size : Int) := of_decide_eq_true (by first | (with_reducible assumption) | assumption)
                            have hx9 := bt_at a0 x3_2
                            replace p9 := eq_true p9
                            replace q9 := eq_true q9
                            go_wp2
                            go_roundg k2
                            case measure => have := HJ1.out; have := HK2.out; omega
                            case rel => exact ⟨(wrap64 (x3_2 + 1)), (by first | rfl | (simp; done) | (simp [*]; done)), H', ⟨by have := HJ1.out; have := HK2.out; omega⟩, by repeat (first | exact Drawn0.refl _ | apply Drawn0.step)⟩
                          · rw [if_neg c38] at H
                            have c38b0 : ((bt a0 x3_2) == 45) = false := beq_eq_false_iff_ne.mpr c38
                            have c38b1 : ((bt a0 x3_2) != 45) = true := bne_iff_ne.mpr c38
                            by_cases c39 : (bt a0 x3_2) = 46
                            · rw [if_pos c39] at H
                              have c39b0 : ((bt a0 x3_2) == 46) = true := beq_iff_eq.mpr c39
                              have c39b1 : ((bt a0 x3_2) != 46) = false := bne_eq_false_iff_eq.mpr c39
                              clear c39
                              have H' := Aside0.mk H
                              clear H
                              have p9 : 0 ≤ (x3_2 : Int) := of_decide_eq_true (by first | (with_reducible assumption) | assumption)
                              have q9 : x3_2 < (a0.size : Int) := of_decide_eq_true (by first | (with_reducible assumption) | assumption)
                              have hx9 := bt_at a0 x3_2
                              replace p9 := eq_true p9
                              replace q9 := eq_true q9
                              go_wp2
                              go_roundg k2
                              case measure => have := HJ1.out; have := HK2.out; omega
                              case rel => exact ⟨(wrap64 (x3_2 + 1)), (by first | rfl | (simp; done) | (simp [*]; done)), H', ⟨by have := HJ1.out; have := HK2.out; omega⟩, by repeat (first | exact Drawn0.refl _ | apply Drawn0.step)⟩
                            · rw [if_neg c39] at H
                              have c39b0 : ((bt a0 x3_2) == 46) = false := beq_eq_false_iff_ne.mpr c39
                              have c39b1 : ((bt a0 x3_2) != 46) = true := bne_iff_ne.mpr c39
                              obtain rfl := Option.some.inj H
                              have p9 : 0 ≤ (x3_2 : Int) := of_decide_eq_true (by first | (with_reducible assumption) | assumption)
                              have q9 : x3_2 < (a0.size : Int) := of_decide_eq_true (by first | (with_reducible assumption) | assumption)
                              have hx9 := bt_at a0 x3_2
                              replace p9 := eq_true p9
                              replace q9 := eq_true q9
                              go_wp2
                              go_ret
                              exact ⟨by first | rfl | (simp; done) | (simp [*]; done), by repeat (first | exact Drawn0.refl _ | apply Drawn0.step)⟩
                      · rw [if_neg c36] at H
                        have c36b0 : decide (57 < (bt a0 x3_2)) = false := decide_eq_false c36
                        clear c36
                        have H' := Aside0.mk H
                        clear H
                        have p9 : 0 ≤ (x3_2 : Int) := of_decide_eq_true (by first | (with_reducible assumption) | assumption)
                        have q9 : x3_2 < (a0.size : Int) := of_decide_eq_true (by first | (with_reducible assumption) | assumption)
                        have hx9 := bt_at a0 x3_2
                        replace p9 := eq_true p9
                        replace q9 := eq_true q9
                        go_wp2
                        go_roundg k2
                        case measure => have := HJ1.out; have := HK2.out; omega
                        case rel => exact ⟨(wrap64 (x3_2 + 1)), (by first | rfl | (simp; done) | (simp [*]; done)), H', ⟨by have := HJ1.out; have := HK2.out; omega⟩, by repeat (first | exact Drawn0.refl _ | apply Drawn0.step)⟩
                · rw [if_neg c30] at H
                  have c30b0 : decide (65 ≤ (bt a0 x3_2)) = false := decide_eq_false c30
                  clear c30
                  by_cases c40 : (bt a0 x3_2) < 48
                  · rw [if_pos c40] at H
                    have c40b0 : decide ((bt a0 x3_2) < 48) = true := decide_eq_true c40
                    clear c40
                    by_cases c41 : (bt a0 x3_2) = 95
                    · rw [if_pos c41] at H
                      have c41b0 : ((bt a0 x3_2) == 95) = true := beq_iff_eq.mpr c41
                      have c41b1 : ((bt a0 x3_2) != 95) = false := bne_eq_false_iff_eq.mpr c41
                      clear c41
                      have H' := Aside0.mk H
                      clear H
                      have p9 : 0 ≤ (x3_2 : Int) := of_decide_eq_true (by first | (with_reducible assumption) | assumption)
                      have q9 : x3_2 < (a0.size : Int) := of_decide_eq_true (by first | (with_reducible assumption) | assumption)
                      have hx9 := bt_at a0 x3_2
                      replace p9 := eq_true p9
                      replace q9 := eq_true q9
                      go_wp2
                      go_roundg k2
                      case measure => have := HJ1.out; have := HK2.out; omega
                      case rel => exact ⟨(wrap64 (x3_2 + 1)), (by first | rfl | (simp; done) | (simp [*]; done)), H', ⟨by have := HJ1.out; have := HK2.out; omega⟩, by repeat (first | exact Drawn0.refl _ | apply Drawn0.step)⟩
                    · rw [if_neg c41] at H
                      have c41b0 : ((bt a0 x3_2) == 95) = false := beq_eq_false_iff_ne.mpr c41
                      have c41b1 : ((bt a0 x3_2) != 95) = true := bne_iff_ne.mpr c41
                      by_cases c42 : (bt a0 x3_2) = 45
                      · rw [if_pos c42] at H
                        have c42b0 : ((bt a0 x3_2) == 45) = true := beq_iff_eq.mpr c42
                        have c42b1 : ((bt a0 x3_2) != 45) = false := bne_eq_false_iff_eq.mpr c42
                        clear c42
                        have H' := Aside0.mk H
                        clear H
                        have p9 : 0 ≤ (x3_2 : Int) := of_decide_eq_true (by first | (with_reducible assumption) | assumption)
                        have q9 : x3_2 < (a0.size : Int) := of_decide_eq_true (by first | (with_reducible assumption) | assumption)
                        have hx9 := bt_at a0 x3_2
                        replace p9 := eq_true p9
                        replace q9 := eq_true q9
                        go_wp2
                        go_roundg k2
                        case measure => have := HJ1.out; have := HK2.out; omega
                        case rel => exact ⟨(wrap64 (x3_2 + 1)), (by first | rfl | (simp; done) | (simp [*]; done)), H', ⟨by have := HJ1.out; have := HK2.out; omega⟩, by repeat (first | exact Drawn0.refl _ | apply Drawn0.step)⟩
                      · rw [if_neg c42] at H
                        have c42b0 : ((bt a0 x3_2) == 45) = false := beq_eq_false_iff_ne.mpr c42
                        have c42b1 : ((bt a0 x3_2) != 45) = true := bne_iff_ne.mpr c42
                        by_cases c43 : (bt a0 x3_2) = 46
                        · rw [if_pos c43] at H
                          have c43b0 : ((bt a0 x3_2) == 46) = true := beq_iff_eq.mpr c43
                          have c43b1 : ((bt a0 x3_2) != 46) = false := bne_eq_false_iff_eq.mpr c43
                          clear c43
                          have H' := Aside0.mk H
                          clear H
                          have p9 : 0 ≤ (x3_2 : Int) := of_decide_eq_true (by first | (with_reducible assumption) | assumption)
                          have q9 : x3_2 < (a0.size : Int) := of_decide_eq_true (by first | (with_reducible assumption) | assumption)
                          have hx9 := bt_at a0 x3_2
                          replace p9 := eq_true p9
                          replace q9 := eq_true q9
                          go_wp2
                          go_roundg k2
                          case measure => have := HJ1.out; have := HK2.out; omega
                          case rel => exact ⟨(wrap64 (x3_2 + 1)), (by first | rfl | (simp; done) | (simp [*]; done)), H', ⟨by have := HJ1.out; have := HK2.out; omega⟩, by repeat (first | exact Drawn0.refl _ | apply Drawn0.step)⟩
                        · rw [if_neg c43] at H
                          have c43b0 : ((bt a0 x3_2) == 46) = false := beq_eq_false_iff_ne.mpr c43
                          have c43b1 : ((bt a0 x3_2) != 46) = true := bne_iff_ne.mpr c43
                          obtain rfl := Option.some.inj H
                          have p9 : 0 ≤ (x3_2 : Int) := of_decide_eq_true (by first | (with_reducible assumption) | assumption)
                          have q9 : x3_2 < (a0.size : Int) := of_decide_eq_true (by first | (with_reducible assumption) | assumption)
                          have hx9 := bt_at a0 x3_2
                          replace p9 := eq_true p9
                          replace q9 := eq_true q9
                          go_wp2
                          go_ret
                          exact ⟨by first | rfl | (simp; done) | (simp [*]; done), by repeat (first | exact Drawn0.refl _ | apply Drawn0.step)⟩
                  · rw [if_neg c40] at H
                    have c40b0 : decide ((bt a0 x3_2) < 48) = false := decide_eq_false c40
                    clear c40
                    by_cases c44 : (bt a0 x3_2) > 57
                    · rw [if_pos c44] at H
                      have c44b0 : decide (57 < (bt a0 x3_2)) = true := decide_eq_true c44
                      clear c44
                      by_cases c45 : (bt a0 x3_2) = 95
                      · rw [if_pos c45] at H
                        have c45b0 : ((bt a0 x3_2) == 95) = true := beq_iff_eq.mpr c45
                        have c45b1 : ((bt a0 x3_2) != 95) = false := bne_eq_false_iff_eq.mpr c45
                        clear c45
                        have H' := Aside0.mk H
                        clear H
                        have p9 : 0 ≤ (x3_2 : Int) := of_decide_eq_true (by first | (with_reducible assumption) | assumption)
                        have q9 : x3_2 < (a0.size : Int) := of_decide_eq_true (by first | (with_reducible assumption) | assumption)
                        have hx9 := bt_at a0 x3_2
                        replace p9 := eq_true p9
                        replace q9 := eq_true q9
                        go_wp2
                        go_roundg k2
                        case measure => have := HJ1.out; have := HK2.out; omega
                        case rel => exact ⟨(wrap64 (x3_2 + 1)), (by first | rfl | (simp; done) | (simp [*]; done)), H', ⟨by have := HJ1.out; have := HK2.out; omega⟩, by repeat (first | exact Drawn0.refl _ | apply Drawn0.step)⟩
                      · rw [if_neg c45] at H
                        have c45b0 : ((bt a0 x3_2) == 95) = false := beq_eq_false_iff_ne.mpr c45
                        have c45b1 : ((bt a0 x3_2) != 95) = true := bne_iff_ne.mpr c45
                        by_cases c46 : (bt a0 x3_2) = 45
                        · rw [if_pos c46] at H
                          have c46b0 : ((bt a0 x3_2) == 45) = true := beq_iff_eq.mpr c46
                          have c46b1 : ((bt a0 x3_2) != 45) = false := bne_eq_false_iff_eq.mpr c46
                          clear c46
                          have H' := Aside0.mk H
                          clear H
                          have p9 : 0 ≤ (x3_2 : Int) := of_decide_eq_true (by first | (with_reducible assumption) | assumption)
                          have q9 : x3_2 < (a0.size : Int) := of_decide_eq_true (by first | (with_reducible assumption) | assumption)
                          have hx9 := bt_at a0 x3_2
                          replace p9 := eq_true p9
                          replace q9 := eq_true q9
                          go_wp2
                          go_roundg k2
                          case measure => have := HJ1.out; have := HK2.out; omega
                          case rel => exact ⟨(wrap64 (x3_2 + 1)), (by first | rfl | (simp; done) | (simp [*]; done)), H', ⟨by have := HJ1.out; have := HK2.out; omega⟩, by repeat (first | exact Drawn0.refl _ | apply Drawn0.step)⟩
                        · rw [if_neg c46] at H
                          have c46b0 : ((bt a0 x3_2) == 45) = false := beq_eq_false_iff_ne.mpr c46
                          have c46b1 : ((bt a0 x3_2) != 45) = true := bne_iff_ne.mpr c46
                          by_cases c47 : (bt a0 x3_2) = 46
                          · rw [if_pos c47] at H
                            have c47b0 : ((bt a0 x3_2) == 46) = true := beq_iff_eq.mpr c47
                            have c47b1 : ((bt a0 x3_2) != 46) = false := bne_eq_false_iff_eq.mpr c47
                            clear c47
                            have H' := Aside0.mk H
                            clear H
                            have p9 : 0 ≤ (x3_2 : Int) := of_decide_eq_true (by first | (with_reducible assumption) | assumption)
                            have q9 : x3_2 < (a0.size : Int) := of_decide_eq_true (by first | (with_reducible assumption) | assumption)
                            have hx9 := bt_at a0 x3_2
                            replace p9 := eq_true p9
                            replace q9 := eq_true q9
                            go_wp2
                            go_roundg k2
                            case measure => have := HJ1.out; have := HK2.out; omega
                            case rel => exact ⟨(wrap64 (x3_2 + 1)), (by first | rfl | (simp; done) | (simp [*]; done)), H', ⟨by have := HJ1.out; have := HK2.out; omega⟩, by repeat (first | exact Drawn0.refl _ | apply Drawn0.step)⟩
                          · rw [if_neg c47] at H
                            have c47b0 : ((bt a0 x3_2) == 46) = false := beq_eq_false_iff_ne.mpr c47
                            have c47b1 : ((bt a0 x3_2) != 46) = true := bne_iff_ne.mpr c47
                            obtain rfl := Option.some.inj H
                            have p9 : 0 ≤ (x3_2 : Int) := of_decide_eq_true (by first | (with_reducible assumption) | assumption)
                            have q9 : x3_2 < (a0.size : Int) := of_decide_eq_true (by first | (with_reducible assumption) | assumption)
                            have hx9 := bt_at a0 x3_2
                            replace p9 := eq_true p9
                            replace q9 := eq_true q9
                            go_wp2
                            go_ret
                            exact ⟨by first | rfl | (simp; done) | (simp [*]; done), by repeat (first | exact Drawn0.refl _ | apply Drawn0.step)⟩
                    · rw [if_neg c44] at H
                      have c44b0 : decide (57 < (bt a0 x3_2)) = false := decide_eq_false c44
                      clear c44
                      have H' := Aside0.mk H
                      clear H
                      have p9 : 0 ≤ (x3_2 : Int) := of_decide_eq_true (by first | (with_reducible assumption) | assumption)
                      have q9 : x3_2 < (a0.size : Int) := of_decide_eq_true (by first | (with_reducible assumption) | assumption)
                      have hx9 := bt_at a0 x3_2
                      replace p9 := eq_true p9
                      replace q9 := eq_true q9
                      go_wp2
                      go_roundg k2
                      case measure => have := HJ1.out; have := HK2.out; omega
                      case rel => exact ⟨(wrap64 (x3_2 + 1)), (by first | rfl | (simp; done) | (simp [*]; done)), H', ⟨by have := HJ1.out; have := HK2.out; omega⟩, by repeat (first | exact Drawn0.refl _ | apply Drawn0.step)⟩
            · rw [if_neg c8] at H
              exact absurd H (by simp)
          · rw [if_neg c7] at H
            have c7b0 : decide (x3_2 < (a0.size : Int)) = false := decide_eq_false c7
            clear c7
            obtain rfl := Option.some.inj H
            go_wp2
            go_ret
            exact ⟨by first | rfl | (simp; done) | (simp [*]; done), by repeat (first | exact Drawn0.refl _ | apply Drawn0.step)⟩
def heraldref1_NameOf.Pure : Prop := ∀ (a0 : ByteArray), a0.size ≤ 140737488351232 → ∃ k, heraldref1_NameOf.f k a0 = some true
theorem heraldref1_NameOf.walk (P : heraldref1_NameOf.Pure) (a0 : ByteArray) (w : World) (w0 : a0.size ≤ 140737488351232) :
  Calls Tryz.prog 153 #[.string a0] w fun e w' => e = .returned (.bool true) ∧ Below w.heap.size w w' := by
 obtain ⟨k, h⟩ := P a0 w0
 refine (heraldref1_NameOf.calls k a0 true w h).mono ?_
 rintro e w' ⟨rfl, hd⟩
 exact ⟨rfl, hd.below⟩
end Go.Proofs.YtmneemhplffemaaGreatDoorRR.PRe
namespace Go.Proofs.YtmneemhplffemaaGreatDoorRR.PRe
open Go.RowKit Go.Proofs.YtmneemhplffemaaGreatDoorRR.Ext Go.Proofs.YtmneemhplffemaaGreatDoorRRW.PrintWords Go.Proofs.YtmneemhplffemaaGreatDoorRRW.PrintLast Go.Proofs.YtmneemhplffemaaGreatDoorRRW.PrintMore
attribute [local go_sem] max2_int min2_int max_two min_two max_three min_three max_four min_four   -- for this text's walks alone


def heraldref1_pieces.l0 : Nat → ByteArray → List ByteArray → Int → Int → Option (List ByteArray)
 | 0, _, _, _, _ => none
 | k + 1, x0, x3, x4, x5 => if x5 ≤ (x0.size : Int) then (if x5 = (x0.size : Int) then (if 0 ≤ x4 then (if x4 ≤ x5 then (if x3.length < 8796093022208 then (heraldref1_pieces.l0 k x0 (x3 ++ [x0.extract (x4 : Int).toNat (x5 : Int).toNat]) (wrap64 (x5 + 1)) (wrap64 (x5 + 1))) else (none)) else (none)) else (none)) else (if 0 ≤ x5 then (if x5 < (x0.size : Int) then (if (bt x0 x5) = 47 then (if 0 ≤ x4 then (if x4 ≤ x5 then (if x3.length < 8796093022208 then (heraldref1_pieces.l0 k x0 (x3 ++ [x0.extract (x4 : Int).toNat (x5 : Int).toNat]) (wrap64 (x5 + 1)) (wrap64 (x5 + 1))) else (none)) else (none)) else (none)) else (heraldref1_pieces.l0 k x0 x3 x4 (wrap64 (x5 + 1)))) else (none)) else (none))) else (some x3)
def heraldref1_pieces.f (k : Nat) (a0 : ByteArray) : Option (List ByteArray) := heraldref1_pieces.l0 k a0 ([] : List ByteArray) 1 1
theorem heraldref1_pieces.mono_l : ∀ k, (∀ y0 y1 y2 y3, LeO (heraldref1_pieces.l0 k y0 y1 y2 y3) (heraldref1_pieces.l0 (k + 1) y0 y1 y2 y3))
 | 0 => fun _ _ _ _ r h => by simp [heraldref1_pieces.l0] at h
 | k + 1 => by
   have ih0 := heraldref1_pieces.mono_l k
   · intro y0 y1 y2 y3
     unfold heraldref1_pieces.l0
     repeat' first
     | (with_reducible exact ih0 _ _ _ _)
     | (with_reducible exact LeO.refl _)
     | (with_reducible exact LeO.none _)
     | (with_reducible refine LeO.ite ?_ ?_)
     | (with_reducible refine LeO.bind ?_ (fun _ => ?_))
     | exact ih0 _ _ _ _
     | exact LeO.none _
     | refine LeO.ite ?_ ?_
     | refine LeO.bind ?_ (fun _ => ?_)
theorem heraldref1_pieces.mono : ∀ a0 k, LeO (heraldref1_pieces.f k a0) (heraldref1_pieces.f (k + 1) a0) := by
 intro a0 k
 have ih0 := heraldref1_pieces.mono_l k
 unfold heraldref1_pieces.f
 repeat' first
  | (with_reducible exact ih0 _ _ _ _)
  | (with_reducible exact LeO.refl _)
  | (with_reducible exact LeO.none _)
  | (with_reducible refine LeO.ite ?_ ?_)
  | (with_reducible refine LeO.bind ?_ (fun _ => ?_))
  | exact ih0 _ _ _ _
  | exact LeO.none _
  | refine LeO.ite ?_ ?_
  | refine LeO.bind ?_ (fun _ => ?_)
set_option maxHeartbeats 8000000 in
set_option maxRecDepth 100000 in
theorem heraldref1_pieces.calls (k : Nat) (a0 : ByteArray) (r : List ByteArray) (w : World) (h : heraldref1_pieces.f k a0 = some r) :
  Calls Tryz.prog 222 #[.string a0] w fun e w' => ∃ v0_ : Value, e = .returned (v0_) ∧ Kd.R Kd.string 9 w' w.heap.size (fun _ => True) v0_ r ∧ Below w.heap.size w w' := by
 have HB := Aside0.mk (Below.refl w.heap.size w)
 have H : (heraldref1_pieces.l0 k a0 ([] : List ByteArray) 1 1) = some r := h
 clear h
 have H' := Aside0.mk H
 clear H
 go_enter Tryz.func222, Tryz.ntmps222
 go_wp2
 go_loopg [3, 4, 5] k (fun kq v3 v4 v5 w' => ∃ (x3_1 : List ByteArray) (x4_1 : Int) (x5_1 : Int), v4 = .int .i64 x4_1 ∧ v5 = .int .i64 x5_1 ∧ Aside0 (heraldref1_pieces.l0 kq a0 x3_1 x4_1 x5_1 = some r) ∧ Aside0 (kq ≤ k) ∧ Aside0 (Kd.R Kd.string 9 w' w.heap.size (fun _ => True) v3 x3_1) ∧ Aside0 (Below w.heap.size w w'))
 case atStart => exact ⟨(([] : List ByteArray)), (1), (1), (by first | rfl | (simp; done) | (simp [*]; done)), (by first | rfl | (simp; done) | (simp [*]; done)), H', ⟨Nat.le_refl _⟩, ⟨by first | exact Kd.R_nil _ _ _ _ _ | exact Kd.N_nil _ _ _ _ _ | exact Kd.V_nil _ _ _ _ _ | exact Kd.Q_nil _ _ _ _ _ | exact Kd.S_nil _ _ _ _ _⟩, ⟨by repeat (first | (with_reducible first | exact HB.out | apply below_alloc | apply pw_below_drewN | apply below_drew1) | exact HB.out)⟩⟩
 case round =>
  clear H'
  obtain ⟨x3_1, x4_1, x5_1, rfl, rfl, HA, HK1, HO_3, HB⟩ := hrel
  cases gk with
  | zero => exact absurd HA.out (by simp [heraldref1_pieces.l0])
  | succ k1 =>
    have H := HA.out
    clear HA
    simp only [heraldref1_pieces.l0] at H
    by_cases c2 : x5_1 ≤ (a0.size : Int)
    · rw [if_pos c2] at H
      have c2b0 : decide (x5_1 ≤ (a0.size : Int)) = true := decide_eq_true c2
      clear c2
      by_cases c3 : x5_1 = (a0.size : Int)
      · rw [if_pos c3] at H
        have c3b0 : (x5_1 == (a0.size : Int)) = true := beq_iff_eq.mpr c3
        have c3b1 : (x5_1 != (a0.size : Int)) = false := bne_eq_false_iff_eq.mpr c3
        clear c3
        by_cases c4 : 0 ≤ x4_1
        · rw [if_pos c4] at H
          have c4b0 := eq_true c4
          have c4b1 : decide (0 ≤ x4_1) = true := decide_eq_true c4
          clear c4
          by_cases c5 : x4_1 ≤ x5_1
          · rw [if_pos c5] at H
            have c5b0 := eq_true c5
            have c5b1 : decide (x4_1 ≤ x5_1) = true := decide_eq_true c5
            clear c5
            have c6b0 := eq_true (of_decide_eq_true (by first | (with_reducible assumption) | assumption) : x5_1 ≤ (a0.size : Int))
            by_cases c7 : x3_1.length < 8796093022208
            · rw [if_pos c7] at H
              have LMc7 := Aside0.mk c7
              clear c7
              obtain ⟨y101, hy101⟩ : ∃ y_ : List ByteArray, y_ = (x3_1 ++ [a0.extract (x4_1 : Int).toNat (x5_1 : Int).toNat]) := ⟨_, rfl⟩
              replace H : (heraldref1_pieces.l0 k1 a0 y101 (wrap64 (x5_1 + 1)) (wrap64 (x5_1 + 1))) = some r := by first | (rw [hy101]; with_reducible exact H) | (have H2_ := (Option.bind_some _ _).symm.trans H; rw [hy101]; with_reducible exact H2_) | (have H2_ := (Option.bind_some _ _).symm.trans H; with_reducible exact H2_) | with_reducible exact H | (rw [hy101]; exact H) | exact H
              have Ny101 := Aside0.mk hy101
              clear hy101
              have H' := Aside0.mk H
              clear H
              go_wp2_with (first | ((with_reducible refine gate_builtin (b := .append) (xs := #[.tmp 22, .tmp 27]) rfl ?_); at_builtin; refine Kd.R_append Kd.string (w0 := w) w.heap.size rfl (.tmp 22) (.tmp 27) 79 9 (.string ⟨#[]⟩) 16 rfl Tryz.underlying79 info9 rfl (by decide) (by omega) u3 x3_1 (a0.extract (x4_1 : Int).toNat (x5_1 : Int).toNat) [.string (a0.extract (x4_1 : Int).toNat (x5_1 : Int).toNat)] (fun _ => True) (fun _ => False) rfl rfl ?aP (fun _ hk => hk.elim) ?aF ?aO ?aB ?aS ?aL ?_; (case aP => exact rfl); (case aB => exact (by repeat (first | (with_reducible first | exact HB.out | apply below_alloc | apply pw_below_drewN | apply below_drew1) | exact HB.out))); (case aF => exact (fun _ _ => trivial)); (case aO => exact (by (with_reducible repeat (first | apply Kd.R_alloc | apply Kd.R_drewN | apply Kd.R_drew)); exact HO_3.out)); (case aS => exact (below_size (by repeat (first | (with_reducible first | exact HB.out | apply below_alloc | apply pw_below_drewN | apply below_drew1) | exact HB.out)))); (case aL => have := LMc7.out; omega); intro v102 w8 ho hb hg hat; rw [← Ny101.out] at ho; have n0_ := Aside0.mk (hb); have n1_ := Aside0.mk (ho); clear HB; clear HO_3; have HB := n0_; have HO103 := n1_; clear n0_ n1_; clear ho hb hg hat))
              go_roundg k1
              case measure => have := HK1.out; omega
              case rel => exact ⟨(y101), (wrap64 (x5_1 + 1)), (wrap64 (x5_1 + 1)), (by first | rfl | (simp; done) | (simp [*]; done)), (by first | rfl | (simp; done) | (simp [*]; done)), H', ⟨by have := HK1.out; omega⟩, ⟨by (with_reducible repeat (first | apply Kd.R_alloc | apply Kd.R_drewN | apply Kd.R_drew)); exact HO103.out⟩, ⟨by repeat (first | (with_reducible first | exact HB.out | apply below_alloc | apply pw_below_drewN | apply below_drew1) | exact HB.out)⟩⟩
            · rw [if_neg c7] at H
              exact absurd H (by simp)
          · rw [if_neg c5] at H
            exact absurd H (by simp)
        · rw [if_neg c4] at H
          exact absurd H (by simp)
      · rw [if_neg c3] at H
        have c3b0 : (x5_1 == (a0.size : Int)) = false := beq_eq_false_iff_ne.mpr c3
        have c3b1 : (x5_1 != (a0.size : Int)) = true := bne_iff_ne.mpr c3
        by_cases c9 : 0 ≤ x5_1
        · rw [if_pos c9] at H
          have c9b0 : decide (0 ≤ x5_1) = true := decide_eq_true c9
          clear c9
          by_cases c10 : x5_1 < (a0.size : Int)
          · rw [if_pos c10] at H
            have c10b0 : decide (x5_1 < (a0.size : Int)) = true := decide_eq_true c10
            clear c10
            by_cases c12 : (bt a0 x5_1) = 47
            · rw [if_pos c12] at H
              have c12b0 : ((bt a0 x5_1) == 47) = true := beq_iff_eq.mpr c12
              have c12b1 : ((bt a0 x5_1) != 47) = false := bne_eq_false_iff_eq.mpr c12
              clear c12
              by_cases c13 : 0 ≤ x4_1
              · rw [if_pos c13] at H
                have c13b0 := eq_true c13
                have c13b1 : decide (0 ≤ x4_1) = true := decide_eq_true c13
                clear c13
                by_cases c14 : x4_1 ≤ x5_1
                · rw [if_pos c14] at H
                  have c14b0 := eq_true c14
                  have c14b1 : decide (x4_1 ≤ x5_1) = true := decide_eq_true c14
                  clear c14
                  have c15b0 := eq_true (of_decide_eq_true (by first | (with_reducible assumption) | assumption) : x5_1 ≤ (a0.size : Int))
                  by_cases c16 : x3_1.length < 8796093022208
                  · rw [if_pos c16] at H
                    have LMc16 := Aside0.mk c16
                    clear c16
                    obtain ⟨y104, hy104⟩ : ∃ y_ : List ByteArray, y_ = (x3_1 ++ [a0.extract (x4_1 : Int).toNat (x5_1 : Int).toNat]) := ⟨_, rfl⟩
                    replace H : (heraldref1_pieces.l0 k1 a0 y104 (wrap64 (x5_1 + 1)) (wrap64 (x5_1 + 1))) = some r := by first | (rw [hy104]; with_reducible exact H) | (have H2_ := (Option.bind_some _ _).symm.trans H; rw [hy104]; with_reducible exact H2_) | (have H2_ := (Option.bind_some _ _).symm.trans H; with_reducible exact H2_) | with_reducible exact H | (rw [hy104]; exact H) | exact H
                    have Ny104 := Aside0.mk hy104
                    clear hy104
                    have H' := Aside0.mk H
                    clear H
                    have p11 : 0 ≤ (x5_1 : Int) := of_decide_eq_true (by first | (with_reducible assumption) | assumption)
                    have q11 : x5_1 < (a0.size : Int) := of_decide_eq_true (by first | (with_reducible assumption) | assumption)
                    have hx11 := bt_at a0 x5_1
                    replace p11 := eq_true p11
                    replace q11 := eq_true q11
                    go_wp2_with (first | ((with_reducible refine gate_builtin (b := .append) (xs := #[.tmp 22, .tmp 27]) rfl ?_); at_builtin; refine Kd.R_append Kd.string (w0 := w) w.heap.size rfl (.tmp 22) (.tmp 27) 79 9 (.string ⟨#[]⟩) 16 rfl Tryz.underlying79 info9 rfl (by decide) (by omega) u3 x3_1 (a0.extract (x4_1 : Int).toNat (x5_1 : Int).toNat) [.string (a0.extract (x4_1 : Int).toNat (x5_1 : Int).toNat)] (fun _ => True) (fun _ => False) rfl rfl ?aP (fun _ hk => hk.elim) ?aF ?aO ?aB ?aS ?aL ?_; (case aP => exact rfl); (case aB => exact (by repeat (first | (with_reducible first | exact HB.out | apply below_alloc | apply pw_below_drewN | apply below_drew1) | exact HB.out))); (case aF => exact (fun _ _ => trivial)); (case aO => exact (by (with_reducible repeat (first | apply Kd.R_alloc | apply Kd.R_drewN | apply Kd.R_drew)); exact HO_3.out)); (case aS => exact (below_size (by repeat (first | (with_reducible first | exact HB.out | apply below_alloc | apply pw_below_drewN | apply below_drew1) | exact HB.out)))); (case aL => have := LMc16.out; omega); intro v105 w17 ho hb hg hat; rw [← Ny104.out] at ho; have n0_ := Aside0.mk (hb); have n1_ := Aside0.mk (ho); clear HB; clear HO_3; have HB := n0_; have HO106 := n1_; clear n0_ n1_; clear ho hb hg hat))
                    go_roundg k1
                    case measure => have := HK1.out; omega
                    case rel => exact ⟨(y104), (wrap64 (x5_1 + 1)), (wrap64 (x5_1 + 1)), (by first | rfl | (simp; done) | (simp [*]; done)), (by first | rfl | (simp; done) | (simp [*]; done)), H', ⟨by have := HK1.out; omega⟩, ⟨by (with_reducible repeat (first | apply Kd.R_alloc | apply Kd.R_drewN | apply Kd.R_drew)); exact HO106.out⟩, ⟨by repeat (first | (with_reducible first | exact HB.out | apply below_alloc | apply pw_below_drewN | apply below_drew1) | exact HB.out)⟩⟩
                  · rw [if_neg c16] at H
                    exact absurd H (by simp)
                · rw [if_neg c14] at H
                  exact absurd H (by simp)
              · rw [if_neg c13] at H
                exact absurd H (by simp)
            · rw [if_neg c12] at H
              have c12b0 : ((bt a0 x5_1) == 47) = false := beq_eq_false_iff_ne.mpr c12
              have c12b1 : ((bt a0 x5_1) != 47) = true := bne_iff_ne.mpr c12
              have H' := Aside0.mk H
              clear H
              have p11 : 0 ≤ (x5_1 : Int) := of_decide_eq_true (by first | (with_reducible assumption) | assumption)
              have q11 : x5_1 < (a0.size : Int) := of_decide_eq_true (by first | (with_reducible assumption) | assumption)
              have hx11 := bt_at a0 x5_1
              replace p11 := eq_true p11
              replace q11 := eq_true q11
              go_wp2
              go_roundg k1
              case measure => have := HK1.out; omega
              case rel => exact ⟨(x3_1), (x4_1), (wrap64 (x5_1 + 1)), (by first | rfl | (simp; done) | (simp [*]; done)), (by first | rfl | (simp; done) | (simp [*]; done)), H', ⟨by have := HK1.out; omega⟩, ⟨by (with_reducible repeat (first | apply Kd.R_alloc | apply Kd.R_drewN | apply Kd.R_drew)); exact HO_3.out⟩, ⟨by repeat (first | (with_reducible first | exact HB.out | apply below_alloc | apply pw_below_drewN | apply below_drew1) | exact HB.out)⟩⟩
          · rw [if_neg c10] at H
            exact absurd H (by simp)
        · rw [if_neg c9] at H
          exact absurd H (by simp)
    · rw [if_neg c2] at H
      have c2b0 : decide (x5_1 ≤ (a0.size : Int)) = false := decide_eq_false c2
      clear c2
      obtain rfl := Option.some.inj H
      go_wp2
      go_ret
      exact ⟨_, by first | rfl | (simp [errW_none, errW_some] <;> rfl) | (simp [*, errW_none, errW_some] <;> rfl), by (with_reducible repeat (first | apply Kd.R_alloc | apply Kd.R_drewN | apply Kd.R_drew)); exact HO_3.out, by repeat (first | (with_reducible first | exact HB.out | apply below_alloc | apply pw_below_drewN | apply below_drew1) | exact HB.out)⟩
mutual
def heraldref1_Parse.j0 : Nat → ByteArray → Bool → Option (List ByteArray × Int)
 | 0, _, _ => none
 | k + 1, x0, x18 => if x18 = true then (some (([] : List ByteArray), 10)) else ((heraldref1_pieces.f k x0).bind fun t107 => (if (t107.length : Int) > 6 then (some (([] : List ByteArray), 10)) else (heraldref1_Parse.l0 k t107 0)))
def heraldref1_Parse.l0 : Nat → List ByteArray → Int → Option (List ByteArray × Int)
 | 0, _, _ => none
 | k + 1, x4, x5 => if x5 < (x4.length : Int) then (if 0 ≤ x5 then ((heraldref1_NameOf.f k (rdOf ByteArray.empty x4 x5)).bind fun t111 => (if t111 = true then (heraldref1_Parse.l0 k x4 (wrap64 (x5 + 1))) else (some (([] : List ByteArray), 10)))) else (none)) else (some (x4, 0))
end
def heraldref1_Parse.f (k : Nat) (a0 : ByteArray) : Option (List ByteArray × Int) := if (a0.size : Int) > 102 then (some (([] : List ByteArray), 2)) else (if a0.toList = ([47] : List UInt8) then (some (([] : List ByteArray), 0)) else (if a0.toList = ([] : List UInt8) then (heraldref1_Parse.j0 k a0 true) else (if 0 < (a0.size : Int) then (heraldref1_Parse.j0 k a0 ((bt a0 0) != 47)) else (none))))
theorem heraldref1_Parse.mono_l : ∀ k, (∀ y0 y1, LeO (heraldref1_Parse.j0 k y0 y1) (heraldref1_Parse.j0 (k + 1) y0 y1)) ∧ (∀ y0 y1, LeO (heraldref1_Parse.l0 k y0 y1) (heraldref1_Parse.l0 (k + 1) y0 y1))
 | 0 => ⟨fun _ _ r h => by simp [heraldref1_Parse.j0] at h, fun _ _ r h => by simp [heraldref1_Parse.l0] at h⟩
 | k + 1 => by
   obtain ⟨ih0, ih1⟩ := heraldref1_Parse.mono_l k
   refine ⟨?_, ?_⟩
   · intro y0 y1
     unfold heraldref1_Parse.j0
     repeat' first
     | (with_reducible exact ih0 _ _)
     | (with_reducible exact ih1 _ _)
     | (with_reducible exact heraldref1_NameOf.mono _ _)
     | (with_reducible exact heraldref1_pieces.mono _ _)
     | (with_reducible exact LeO.refl _)
     | (with_reducible exact LeO.none _)
     | (with_reducible refine LeO.ite ?_ ?_)
     | (with_reducible refine LeO.bind ?_ (fun _ => ?_))
     | exact ih0 _ _
     | exact ih1 _ _
     | exact heraldref1_NameOf.mono _ _
     | exact heraldref1_pieces.mono _ _
     | exact LeO.none _
     | refine LeO.ite ?_ ?_
     | refine LeO.bind ?_ (fun _ => ?_)
   · intro y0 y1
     unfold heraldref1_Parse.l0
     repeat' first
     | (with_reducible exact ih0 _ _)
     | (with_reducible exact ih1 _ _)
     | (with_reducible exact heraldref1_NameOf.mono _ _)
     | (with_reducible exact heraldref1_pieces.mono _ _)
     | (with_reducible exact LeO.refl _)
     | (with_reducible exact LeO.none _)
     | (with_reducible refine LeO.ite ?_ ?_)
     | (with_reducible refine LeO.bind ?_ (fun _ => ?_))
     | exact ih0 _ _
     | exact ih1 _ _
     | exact heraldref1_NameOf.mono _ _
     | exact heraldref1_pieces.mono _ _
     | exact LeO.none _
     | refine LeO.ite ?_ ?_
     | refine LeO.bind ?_ (fun _ => ?_)
theorem heraldref1_Parse.mono : ∀ a0 k, LeO (heraldref1_Parse.f k a0) (heraldref1_Parse.f (k + 1) a0) := by
 intro a0 k
 obtain ⟨ih0, ih1⟩ := heraldref1_Parse.mono_l k
 unfold heraldref1_Parse.f
 repeat' first
  | (with_reducible exact ih0 _ _)
  | (with_reducible exact ih1 _ _)
  | (with_reducible exact heraldref1_NameOf.mono _ _)
  | (with_reducible exact heraldref1_pieces.mono _ _)
  | (with_reducible exact LeO.refl _)
  | (with_reducible exact LeO.none _)
  | (with_reducible refine LeO.ite ?_ ?_)
  | (with_reducible refine LeO.bind ?_ (fun _ => ?_))
  | exact ih0 _ _
  | exact ih1 _ _
  | exact heraldref1_NameOf.mono _ _
  | exact heraldref1_pieces.mono _ _
  | exact LeO.none _
  | refine LeO.ite ?_ ?_
  | refine LeO.bind ?_ (fun _ => ?_)
set_option maxHeartbeats 8000000 in
set_option maxRecDepth 100000 in
theorem heraldref1_Parse.calls (k : Nat) (a0 : ByteArray) (r1 : List ByteArray) (r2 : Int) (w : World) (h : heraldref1_Parse.f k a0 = some (r1, r2)) :
   Calls Tryz.prog 154 #[.string a0] w fun e w' => ∃ v0_ : Value, e = .returned (.tuple #[v0_, .int .i64 r2]) ∧ Kd.R Kd.string 9 w' w.heap.size (fun _ => True) v0_ r1 ∧ Below w.heap.size w w' := by
 have HB := Aside0.mk (Below.refl w.heap.size w)
 have H : (if (a0.size : Int) > 102 then (some (([] : List ByteArray), 2)) else (if a0.toList = ([47] : List UInt8) then (some (([] : List ByteArray), 0)) else (if a0.toList = ([] : List UInt8) then (heraldref1_Parse.j0 k a0 true) else (if 0 < (a0.size : Int) then (heraldref1_Parse.j0 k a0 ((bt a0 0) != 47)) else (none))))) = some (r1, r2) := h
 clear h
 by_cases c2 : (a0.size : Int) > 102
 · rw [if_pos c2] at H
   have c2b0 : decide (102 < (a0.size : Int)) = true := decide_eq_true c2
   have c2b1 : decide (102 < a0.size) = true := decide_eq_true (by omega)
   clear c2
   simp only [Option.some.injEq, Prod.mk.injEq] at H
   obtain ⟨rfl, rfl⟩ := H
   go_enter Tryz.func154, Tryz.ntmps154
   go_wp2
   go_ret2
   exact ⟨_, by first | rfl | (simp [errW_none, errW_some] <;> rfl) | (simp [*, errW_none, errW_some] <;> rfl), by first | exact Kd.R_nil _ _ _ _ _ | exact Kd.N_nil _ _ _ _ _ | exact Kd.V_nil _ _ _ _ _ | exact Kd.Q_nil _ _ _ _ _ | exact Kd.S_nil _ _ _ _ _, by repeat (first | (with_reducible first | exact HB.out | apply below_alloc | apply pw_below_drewN | apply below_drew1) | exact HB.out)⟩
 · rw [if_neg c2] at H
   have c2b0 : decide (102 < (a0.size : Int)) = false := decide_eq_false c2
   have c2b1 : decide (102 < a0.size) = false := decide_eq_false (by omega)
   clear c2
   by_cases c3 : a0.toList = ([47] : List UInt8)
   · rw [if_pos c3] at H
     have c3b0 : (a0.toList == ([47] : List UInt8)) = true := beq_iff_eq.mpr c3
     have c3b1 : (a0.toList != ([47] : List UInt8)) = false := bne_eq_false_iff_eq.mpr c3
     clear c3
     simp only [Option.some.injEq, Prod.mk.injEq] at H
     obtain ⟨rfl, rfl⟩ := H
     go_enter Tryz.func154, Tryz.ntmps154
     go_wp2
     go_ret2
     exact ⟨_, by first | rfl | (simp [errW_none, errW_some] <;> rfl) | (simp [*, errW_none, errW_some] <;> rfl), by first | exact Kd.R_nil _ _ _ _ _ | exact Kd.N_nil _ _ _ _ _ | exact Kd.V_nil _ _ _ _ _ | exact Kd.Q_nil _ _ _ _ _ | exact Kd.S_nil _ _ _ _ _, by repeat (first | (with_reducible first | exact HB.out | apply below_alloc | apply pw_below_drewN | apply below_drew1) | exact HB.out)⟩
   · rw [if_neg c3] at H
     have c3b0 : (a0.toList == ([47] : List UInt8)) = false := beq_eq_false_iff_ne.mpr c3
     have c3b1 : (a0.toList != ([47] : List UInt8)) = true := bne_iff_ne.mpr c3
     have HC4 := Aside0.mk H
     clear H
     go_enter Tryz.func154, Tryz.ntmps154
     go_upto_region 5 with (fail)
     go_cut [18] (fun v18 wc => ∃ (kq : Nat) (x18_3 : Bool), v18 = .bool x18_3 ∧ Aside0 (heraldref1_Parse.j0 kq a0 x18_3 = some (r1, r2)) ∧ Aside0 (kq ≤ k) ∧ Aside0 (Below w.heap.size w wc))
     case first =>
      have H := HC4.out
      clear HC4
      by_cases c5 : a0.toList = ([] : List UInt8)
      · rw [if_pos c5] at H
        have c5b0 : (a0.toList == ([] : List UInt8)) = true := beq_iff_eq.mpr c5
        have c5b1 : (a0.toList != ([] : List UInt8)) = false := bne_eq_false_iff_eq.mpr c5
        clear c5
        (first | rw [c5b0] | (simp only [i64_w, i32_w]; rw [c5b0]) | skip)
        have H' := Aside0.mk H
        clear H
        go_wp2
        go_meet
        case rel => exact ⟨_, (true), (by first | rfl | (simp; done) | (simp [*]; done)), H', ⟨by first | omega | exact Nat.le_refl _⟩, ⟨by repeat (first | (with_reducible first | exact HB.out | apply below_alloc | apply pw_below_drewN | apply below_drew1) | exact HB.out)⟩⟩
      · rw [if_neg c5] at H
        have c5b0 : (a0.toList == ([] : List UInt8)) = false := beq_eq_false_iff_ne.mpr c5
        have c5b1 : (a0.toList != ([] : List UInt8)) = true := bne_iff_ne.mpr c5
        (first | rw [c5b0] | (simp only [i64_w, i32_w]; rw [c5b0]) | skip)
        by_cases c6 : 0 < (a0.size : Int)
        · rw [if_pos c6] at H
          have c6b0 : decide (0 < (a0.size : Int)) = true := decide_eq_true c6
          have c6b1 : decide (0 < a0.size) = true := decide_eq_true (by omega)
          clear c6
          have H' := Aside0.mk H
          clear H
          have p7 : 0 ≤ (0 : Int) := (by omega)
          have q7 : 0 < a0.size := (by have : (0 : Int) < (a0.size : Int) := of_decide_eq_true (by first | (with_reducible assumption) | assumption); omega)
          have hx7 : ∀ h : 0 < a0.size, ((a0[0]'h).toNat : Int) = bt a0 0 := bt_at a0 0
          clear p7
          have qi7 : (0 < (a0.size : Int)) = True := eq_true (of_decide_eq_true (by first | (with_reducible assumption) | assumption))
          replace q7 := eq_true q7
          go_wp2
          go_meet
          case rel => exact ⟨_, (((bt a0 0) != 47)), (by first | rfl | (simp; done) | (simp [*]; done)), H', ⟨by first | omega | exact Nat.le_refl _⟩, ⟨by repeat (first | (with_reducible first | exact HB.out | apply below_alloc | apply pw_below_drewN | apply below_drew1) | exact HB.out)⟩⟩
        · rw [if_neg c6] at H
          exact absurd H (by simp)
     case rest =>
      clear HC4
      try clear c1
      try clear c2
      try clear c2b0
      try clear c2b1
      try clear p2
      try clear c3
      try clear c3b0
      try clear c3b1
      try clear c5
      try clear c5b0
      try clear c5b1
      try clear c6
      try clear c6b0
      try clear c6b1
      try clear p7
      try clear q7
      try clear hx7
      try clear qi7
      try clear p7
      try clear q7
      obtain ⟨kq, x18_3, rfl, HA, HJ3, HB⟩ := hcut
      cases kq with
      | zero => exact absurd HA.out (by simp [heraldref1_Parse.j0])
      | succ kj3 =>
        have H := HA.out
        clear HA
        simp only [heraldref1_Parse.j0] at H
        by_cases c8 : x18_3 = true
        · subst c8
          have H1 : (some (([] : List ByteArray), 10)) = some (r1, r2) := by rw [if_pos rfl] at H; exact H
          clear H
          have H := H1
          clear H1
          simp only [Option.some.injEq, Prod.mk.injEq] at H
          obtain ⟨rfl, rfl⟩ := H
          go_wp2
          go_ret2
          exact ⟨_, by first | rfl | (simp [errW_none, errW_some] <;> rfl) | (simp [*, errW_none, errW_some] <;> rfl), by first | exact Kd.R_nil _ _ _ _ _ | exact Kd.N_nil _ _ _ _ _ | exact Kd.V_nil _ _ _ _ _ | exact Kd.Q_nil _ _ _ _ _ | exact Kd.S_nil _ _ _ _ _, by repeat (first | (with_reducible first | exact HB.out | apply below_alloc | apply pw_below_drewN | apply below_drew1) | exact HB.out)⟩
        · replace c8 := Bool.eq_false_iff.mpr c8
          subst c8
          have H1 : ((heraldref1_pieces.f kj3 a0).bind fun t107 => (if (t107.length : Int) > 6 then (some (([] : List ByteArray), 10)) else (heraldref1_Parse.l0 kj3 t107 0))) = some (r1, r2) := by rw [if_neg (show ¬ (false = true) by decide)] at H; exact H
          clear H
          have H := H1
          clear H1
          replace H := Option.bind_eq_some_iff.mp H
          obtain ⟨t107, A90, H⟩ := H
          replace H : (if (t107.length : Int) > 6 then (some (([] : List ByteArray), 10)) else (heraldref1_Parse.l0 kj3 t107 0)) = some (r1, r2) := H
          have A9 := Aside0.mk A90
          clear A90
          by_cases c10 : (t107.length : Int) > 6
          · rw [if_pos c10] at H
            have c10b0 : decide (6 < (t107.length : Int)) = true := decide_eq_true c10
            have c10b1 : decide (6 < t107.length) = true := decide_eq_true (by omega)
            clear c10
            simp only [Option.some.injEq, Prod.mk.injEq] at H
            obtain ⟨rfl, rfl⟩ := H
            go_wp2_with (first | ((with_reducible refine gate_callee (f := 222) rfl ?_); refine goesL_ (some 20) rfl rfl Tryz.func222 (by kernel_rfl) rfl #[.string a0] rfl (by (try simp only [List.map_toArray, List.map_cons, List.map_nil]); first | done | rfl | (simp only [List.length_drop, List.length_take]; rfl)) ?_; (with_reducible refine (heraldref1_pieces.calls kj3 a0 t107 _ A9.out).mono ?_); rintro e w11 ⟨v108, rfl, ho0, hb⟩; refine ⟨_, rfl, ?_⟩; have n0_ := Aside0.mk (Kd.R_lower ho0 (below_size (by repeat (first | (with_reducible first | exact HB.out | apply below_alloc | apply pw_below_drewN | apply below_drew1) | exact HB.out)))); have n1_ := Aside0.mk (below_step (by repeat (first | (with_reducible first | exact HB.out | apply below_alloc | apply pw_below_drewN | apply below_drew1) | exact HB.out)) hb); clear HB; have HO109 := n0_; have HB := n1_; clear n0_ n1_; (try clear hb); (try clear hb2); (try clear hk); (try clear hi); (try clear ho0); obtain ⟨Ao12, co12, eo12⟩ := Kd.R_slice HO109.out; subst eo12))
            go_ret2
            exact ⟨_, by first | rfl | (simp [errW_none, errW_some] <;> rfl) | (simp [*, errW_none, errW_some] <;> rfl), by first | exact Kd.R_nil _ _ _ _ _ | exact Kd.N_nil _ _ _ _ _ | exact Kd.V_nil _ _ _ _ _ | exact Kd.Q_nil _ _ _ _ _ | exact Kd.S_nil _ _ _ _ _, by repeat (first | (with_reducible first | exact HB.out | apply below_alloc | apply pw_below_drewN | apply below_drew1) | exact HB.out)⟩
          · rw [if_neg c10] at H
            have c10b0 : decide (6 < (t107.length : Int)) = false := decide_eq_false c10
            have c10b1 : decide (6 < t107.length) = false := decide_eq_false (by omega)
            clear c10
            have H' := Aside0.mk H
            clear H
            go_wp2_with (first | ((with_reducible refine gate_callee (f := 222) rfl ?_); refine goesL_ (some 20) rfl rfl Tryz.func222 (by kernel_rfl) rfl #[.string a0] rfl (by (try simp only [List.map_toArray, List.map_cons, List.map_nil]); first | done | rfl | (simp only [List.length_drop, List.length_take]; rfl)) ?_; (with_reducible refine (heraldref1_pieces.calls kj3 a0 t107 _ A9.out).mono ?_); rintro e w13 ⟨v108, rfl, ho0, hb⟩; refine ⟨_, rfl, ?_⟩; have n0_ := Aside0.mk (Kd.R_lower ho0 (below_size (by repeat (first | (with_reducible first | exact HB.out | apply below_alloc | apply pw_below_drewN | apply below_drew1) | exact HB.out)))); have n1_ := Aside0.mk (below_step (by repeat (first | (with_reducible first | exact HB.out | apply below_alloc | apply pw_below_drewN | apply below_drew1) | exact HB.out)) hb); clear HB; have HO109 := n0_; have HB := n1_; clear n0_ n1_; (try clear hb); (try clear hb2); (try clear hk); (try clear hi); (try clear ho0); obtain ⟨Ao14, co14, eo14⟩ := Kd.R_slice HO109.out; subst eo14))
            go_loopg [5] kj3 (fun kq v5 w' => ∃ (x5_2 : Int), v5 = .int .i64 x5_2 ∧ Aside0 (heraldref1_Parse.l0 kq t107 x5_2 = some (r1, r2)) ∧ Aside0 (kq ≤ kj3) ∧ Aside0 (Kd.R Kd.string 9 w' w.heap.size (fun _ => True) (.slice Ao14 t107.length co14) t107) ∧ Aside0 (Below w.heap.size w w'))
            case atStart => exact ⟨(0), (by first | rfl | (simp; done) | (simp [*]; done)), H', ⟨Nat.le_refl _⟩, ⟨by (with_reducible repeat (first | apply Kd.R_alloc | apply Kd.R_drewN | apply Kd.R_drew)); exact HO109.out⟩, ⟨by repeat (first | (with_reducible first | exact HB.out | apply below_alloc | apply pw_below_drewN | apply below_drew1) | exact HB.out)⟩⟩
            case round =>
             clear H'
             try clear c1
             try clear c2
             try clear c2b0
             try clear c2b1
             try clear p2
             try clear c3
             try clear c3b0
             try clear c3b1
             try clear c5
             try clear c5b0
             try clear c5b1
             try clear c6
             try clear c6b0
             try clear c6b1
             try clear p7
             try clear q7
             try clear hx7
             try clear qi7
             try clear c8
             try clear c10
             try clear c10b0
             try clear c10b1
             try clear p2
             try clear p7
             try clear q7
             obtain ⟨x5_2, rfl, HA, HK2, HO_4, HB⟩ := hrel
             cases gk with
             | zero => exact absurd HA.out (by simp [heraldref1_Parse.l0])
             | succ k2 =>
               have H := HA.out
               clear HA
               simp only [heraldref1_Parse.l0] at H
               by_cases c15 : x5_2 < (t107.length : Int)
               · rw [if_pos c15] at H
                 have c15b0 : decide (x5_2 < (t107.length : Int)) = true := decide_eq_true c15
                 clear c15
                 by_cases c16 : 0 ≤ x5_2
                 · rw [if_pos c16] at H
                   have c16b0 : decide (0 ≤ x5_2) = true := decide_eq_true c16
                   clear c16
                   replace H := Option.bind_eq_some_iff.mp H
                   obtain ⟨t111, A170, H⟩ := H
                   replace H : (if t111 = true then (heraldref1_Parse.l0 k2 t107 (wrap64 (x5_2 + 1))) else (some (([] : List ByteArray), 10))) = some (r1, r2) := H
                   have A17 := Aside0.mk A170
                   clear A170
                   by_cases c18 : t111 = true
                   · subst c18
                     have H1 : (heraldref1_Parse.l0 k2 t107 (wrap64 (x5_2 + 1))) = some (r1, r2) := by rw [if_pos rfl] at H; exact H
                     clear H
                     have H := H1
                     clear H1
                     have H' := Aside0.mk H
                     clear H
                     have p110 : 0 ≤ (x5_2 : Int) := of_decide_eq_true (by first | (with_reducible assumption) | assumption)
                     have q110 : x5_2 < (t107.length : Int) := of_decide_eq_true (by first | (with_reducible assumption) | assumption)
                     obtain ⟨ad110, e110, hx110_0⟩ := Kd.at_string (Kd.R_reads' HO_4.out).2.2 x5_2 p110 q110
                     cases e110
                     replace p110 := eq_true p110
                     replace q110 := eq_true q110
                     go_wp2_with (first | ((with_reducible refine gate_callee (f := 153) rfl ?_); refine goesL_ (some 34) rfl rfl Tryz.func153 (by kernel_rfl) rfl #[.string (rdOf ByteArray.empty t107 x5_2)] rfl (by (try simp only [List.map_toArray, List.map_cons, List.map_nil]); first | done | rfl | (simp only [List.length_drop, List.length_take]; rfl)) ?_; (with_reducible refine (heraldref1_NameOf.calls k2 (rdOf ByteArray.empty t107 x5_2) true _ A17.out).mono ?_); rintro e w' ⟨rfl, ⟨nd, rfl⟩⟩; refine ⟨_, rfl, ?_⟩))
                     go_roundg k2
                     case measure => have := HJ3.out; have := HK2.out; omega
                     case rel => exact ⟨(wrap64 (x5_2 + 1)), (by first | rfl | (simp; done) | (simp [*]; done)), H', ⟨by have := HJ3.out; have := HK2.out; omega⟩, ⟨by (with_reducible repeat (first | apply Kd.R_alloc | apply Kd.R_drewN | apply Kd.R_drew)); exact HO_4.out⟩, ⟨by repeat (first | (with_reducible first | exact HB.out | apply below_alloc | apply pw_below_drewN | apply below_drew1) | exact HB.out)⟩⟩
                   · replace c18 := Bool.eq_false_iff.mpr c18
                     subst c18
                     have H1 : (some (([] : List ByteArray), 10)) = some (r1, r2) := by rw [if_neg (show ¬ (false = true) by decide)] at H; exact H
                     clear H
                     have H := H1
                     clear H1
                     simp only [Option.some.injEq, Prod.mk.injEq] at H
                     obtain ⟨rfl, rfl⟩ := H
                     have p110 : 0 ≤ (x5_2 : Int) := of_decide_eq_true (by first | (with_reducible assumption) | assumption)
                     have q110 : x5_2 < (t107.length : Int) := of_decide_eq_true (by first | (with_reducible assumption) | assumption)
                     obtain ⟨ad110, e110, hx110_0⟩ := Kd.at_string (Kd.R_reads' HO_4.out).2.2 x5_2 p110 q110
                     cases e110
                     replace p110 := eq_true p110
                     replace q110 := eq_true q110
                     go_wp2_with (first | ((with_reducible refine gate_callee (f := 153) rfl ?_); refine goesL_ (some 34) rfl rfl Tryz.func153 (by kernel_rfl) rfl #[.string (rdOf ByteArray.empty t107 x5_2)] rfl (by (try simp only [List.map_toArray, List.map_cons, List.map_nil]); first | done | rfl | (simp only [List.length_drop, List.length_take]; rfl)) ?_; (with_reducible refine (heraldref1_NameOf.calls k2 (rdOf ByteArray.empty t107 x5_2) false _ A17.out).mono ?_); rintro e w' ⟨rfl, ⟨nd, rfl⟩⟩; refine ⟨_, rfl, ?_⟩))
                     go_ret2
                     exact ⟨_, by first | rfl | (simp [errW_none, errW_some] <;> rfl) | (simp [*, errW_none, errW_some] <;> rfl), by first | exact Kd.R_nil _ _ _ _ _ | exact Kd.N_nil _ _ _ _ _ | exact Kd.V_nil _ _ _ _ _ | exact Kd.Q_nil _ _ _ _ _ | exact Kd.S_nil _ _ _ _ _, by repeat (first | (with_reducible first | exact HB.out | apply below_alloc | apply pw_below_drewN | apply below_drew1) | exact HB.out)⟩
                 · rw [if_neg c16] at H
                   exact absurd H (by simp)
               · rw [if_neg c15] at H
                 have c15b0 : decide (x5_2 < (t107.length : Int)) = false := decide_eq_false c15
                 clear c15
                 simp only [Option.some.injEq, Prod.mk.injEq] at H
                 obtain ⟨rfl, rfl⟩ := H
                 go_wp2
                 go_ret2
                 exact ⟨_, by first | rfl | (simp [errW_none, errW_some] <;> rfl) | (simp [*, errW_none, errW_some] <;> rfl), by (with_reducible repeat (first | apply Kd.R_alloc | apply Kd.R_drewN | apply Kd.R_drew)); exact HO_4.out, by repeat (first | (with_reducible first | exact HB.out | apply below_alloc | apply pw_below_drewN | apply below_drew1) | exact HB.out)⟩
def heraldref1_Is.f (k : Nat) (a0 : ByteArray) : Option (Bool) := (heraldref1_Parse.f k a0).bind fun bt112 => (some (bt112.2 == 0))
theorem heraldref1_Is.mono : ∀ a0 k, LeO (heraldref1_Is.f k a0) (heraldref1_Is.f (k + 1) a0) := by
 intro a0 k
 unfold heraldref1_Is.f
 repeat' first
  | (with_reducible exact heraldref1_Parse.mono _ _)
  | (with_reducible exact LeO.refl _)
  | (with_reducible exact LeO.none _)
  | (with_reducible refine LeO.ite ?_ ?_)
  | (with_reducible refine LeO.bind ?_ (fun _ => ?_))
  | exact heraldref1_Parse.mono _ _
  | exact LeO.none _
  | refine LeO.ite ?_ ?_
  | refine LeO.bind ?_ (fun _ => ?_)
set_option maxHeartbeats 8000000 in
set_option maxRecDepth 100000 in
theorem heraldref1_Is.calls (k : Nat) (a0 : ByteArray) (r : Bool) (w : World) (h : heraldref1_Is.f k a0 = some r) :
  Calls Tryz.prog 95 #[.string a0] w fun e w' => e = .returned (.bool r) ∧ Below w.heap.size w w' := by
 have HB := Aside0.mk (Below.refl w.heap.size w)
 have H : ((heraldref1_Parse.f k a0).bind fun bt112 => (some (bt112.2 == 0))) = some r := h
 clear h
 replace H := Option.bind_eq_some_iff.mp H
 obtain ⟨⟨t112, t113⟩, A20, H⟩ := H
 replace H : (some (t113 == 0)) = some r := H
 have A2 := Aside0.mk A20
 clear A20
 obtain rfl := Option.some.inj H
 go_enter Tryz.func95, Tryz.ntmps95
 go_wp2_with (first | ((with_reducible refine gate_callee (f := 154) rfl ?_); refine goesL_ (some 7) rfl rfl Tryz.func154 (by kernel_rfl) rfl #[.string a0] rfl (by (try simp only [List.map_toArray, List.map_cons, List.map_nil]); first | done | rfl | (simp only [List.length_drop, List.length_take]; rfl)) ?_; (with_reducible refine (heraldref1_Parse.calls k a0 t112 t113 _ A2.out).mono ?_); rintro e w3 ⟨v114, rfl, ho0, hb⟩; refine ⟨_, rfl, ?_⟩; have n0_ := Aside0.mk (Kd.R_lower ho0 (below_size (by repeat (first | (with_reducible first | exact HB.out | apply below_alloc | apply pw_below_drewN | apply below_drew1) | exact HB.out)))); have n1_ := Aside0.mk (below_step (by repeat (first | (with_reducible first | exact HB.out | apply below_alloc | apply pw_below_drewN | apply below_drew1) | exact HB.out)) hb); clear HB; have HO115 := n0_; have HB := n1_; clear n0_ n1_; (try clear hb); (try clear hb2); (try clear hk); (try clear hi); (try clear ho0)))
 go_ret
 exact ⟨by first | rfl | (simp [errW_none, errW_some] <;> rfl) | (simp [*, errW_none, errW_some] <;> rfl), by repeat (first | (with_reducible first | exact HB.out | apply below_alloc | apply pw_below_drewN | apply below_drew1) | exact HB.out)⟩
def heraldref1_Is.Pure : Prop := ∀ (a0 : ByteArray), a0.size ≤ 140737488351232 → ∃ k, heraldref1_Is.f k a0 = some true
theorem heraldref1_Is.walk (P : heraldref1_Is.Pure) (a0 : ByteArray) (w : World) (w0 : a0.size ≤ 140737488351232) :
  Calls Tryz.prog 95 #[.string a0] w fun e w' => e = .returned (.bool true) ∧ Below w.heap.size w w' := by
 obtain ⟨k, h⟩ := P a0 w0
 refine (heraldref1_Is.calls k a0 true w h).mono ?_
 rintro e w' ⟨rfl, hd⟩
 exact ⟨rfl, hd⟩
end Go.Proofs.YtmneemhplffemaaGreatDoorRR.PRe
namespace Go.Proofs.YtmneemhplffemaaGreatDoorRR.Chk
open Go.RowKit Go.Proofs.YtmneemhplffemaaGreatDoorRR.Ord Go.Proofs.YtmneemhplffemaaGreatDoorRR.Name Go.Proofs.YtmneemhplffemaaGreatDoorRR.Ext Go.Proofs.YtmneemhplffemaaGreatDoorRR.Wire Go.Proofs.YtmneemhplffemaaGreatDoorRR.Mem Go.Proofs.YtmneemhplffemaaGreatDoorRR.Ki Go.Proofs.YtmneemhplffemaaGreatDoorRRW.PrintWords


def rNum (v : Int) : Bool := decide (0 ≤ v) && decide (v ≤ 2147483647)
theorem c_number (v : Int) (b : Bool) (W : World) (h : rNum v = b) : Calls Tryz.prog 92 #[.int .i64 v] W fun e W' => e = .returned (.bool b) ∧ W' = W := by
 subst h
 go_enter Tryz.func92, Tryz.ntmps92
 refine bt (decide (0 ≤ v)) (fun h1 => have h1_0 : (decide (v ≥ 0)) = true := h1; bt (decide (v ≤ 2147483647)) (fun h2 => have h2_0 : (decide (2147483647 ≥ v)) = true := h2; ?_) (fun h2 => have h2_0 : (decide (2147483647 ≥ v)) = false := h2; ?_)) (fun h1 => have h1_0 : (decide (v ≥ 0)) = false := h1; ?_)
 all_goals
  go_wp2_with fail
  go_ret
  exact ⟨by simp only [rNum, *, Bool.not_true, Bool.not_false, Bool.true_and, Bool.false_and, Bool.and_true, Bool.and_false, Bool.true_or, Bool.false_or, Bool.or_true, Bool.or_false, Bool.false_eq_true, if_true, if_false] <;> rfl, rfl⟩
def rCnt (v : Int) : Bool := decide (1 ≤ v) && decide (v ≤ 2147483647)
theorem c_count (v : Int) (b : Bool) (W : World) (h : rCnt v = b) : Calls Tryz.prog 94 #[.int .i64 v] W fun e W' => e = .returned (.bool b) ∧ W' = W := by
 subst h
 go_enter Tryz.func94, Tryz.ntmps94
 refine bt (decide (1 ≤ v)) (fun h1 => have h1_0 : (decide (v ≥ 1)) = true := h1; bt (decide (v ≤ 2147483647)) (fun h2 => have h2_0 : (decide (2147483647 ≥ v)) = true := h2; ?_) (fun h2 => have h2_0 : (decide (2147483647 ≥ v)) = false := h2; ?_)) (fun h1 => have h1_0 : (decide (v ≥ 1)) = false := h1; ?_)
 all_goals
  go_wp2_with fail
  go_ret
  exact ⟨by simp only [rCnt, *, Bool.not_true, Bool.not_false, Bool.true_and, Bool.false_and, Bool.and_true, Bool.and_false, Bool.true_or, Bool.false_or, Bool.or_true, Bool.or_false, Bool.false_eq_true, if_true, if_false] <;> rfl, rfl⟩
def rOp (x : S78) : Bool := rNum x.f0 && rNum x.f4 && !(!(x.f3 == -1) && !rNum x.f3) && !decide ((256 : Int) < x.f1.size) && !decide ((256 : Int) < x.f2.size)
def rOps (l : List S78) : Bool := l.all rOp && decide ((l.length : Int) ≤ 4)
set_option maxRecDepth 100000 in
set_option maxHeartbeats 1000000 in
theorem c_ops (w0 W : World) (A : Option Addr) (c : Nat) (xs : List S78) (b : Bool) (h : rOps xs = b) (hC : k78.C w0 A xs.length xs) (hb : Below w0.heap.size w0 W) :
  Calls Tryz.prog 48 #[.slice A xs.length c] W fun e W' => e = .returned (.bool b) ∧ Below W.heap.size W W' := by
 subst h
 have HW := Aside0.mk (Below.refl W.heap.size W)
 have HA := Aside0.mk hb
 have HC := Aside0.mk hC
 have hm : xs.length ≤ 9223372036854775807 := hC.2.1
 clear hb hC
 go_enter Tryz.func48, Tryz.ntmps48
 go_wp2_with fail
 go_loopw [3] (fun vi wr => ∃ k : Nat, vi = .int .i64 k ∧ k ≤ xs.length ∧ Aside0 ((xs.take k).all rOp = true) ∧ Aside0 (Below W.heap.size W wr) ∧ Aside0 (Below w0.heap.size w0 wr)) (fun vi _ => xs.length - (intOf vi).toNat)
 case atStart => exact ⟨0, rfl, Nat.zero_le _, ⟨rfl⟩, HW, HA⟩
 case round =>
  clear HW HA
  obtain ⟨k, rfl, hk, HQ, HW, HA⟩ := hrel
  obtain ⟨wo, rfl⟩ : ∃ wo : World, wo = wr := ⟨_, rfl⟩
  by_cases hlt : k < xs.length
  · obtain ⟨y, hye⟩ : ∃ y, xs[k]? = some y := ⟨_, List.getElem?_eq_getElem hlt⟩
    have HX := Aside0.mk hye
    have hat := at_T78 HC.out (k : Int) (by omega) (by omega)
    rw [show rd_T78 xs (k : Int) = y by unfold rd_T78; rw [Int.toNat_natCast, List.getD_eq_getElem?_getD, hye]; rfl, Int.toNat_natCast] at hat
    obtain ⟨adc, rfl, c_0, c_1, c_2, c_3, c_4⟩ := hat
    replace c_0 := pw_cell_below HA.out c_0
    replace c_1 := pw_cell_below HA.out c_1
    replace c_2 := pw_cell_below HA.out c_2
    replace c_3 := pw_cell_below HA.out c_3
    replace c_4 := pw_cell_below HA.out c_4
    clear hye
    have HBY := Aside0.mk (blk_alloc (W := wo) (Obj.cells #[.int .i64 y.f0, .string y.f1, .string y.f2, .int .i64 y.f3, .int .i64 y.f4] 78 (0, 0)))
    have hcY := blk_cell HBY.out
    have hfY := blk_frozen HBY.out
    replace HW := Aside0.mk (below_alloc HW.out (Obj.cells #[.int .i64 y.f0, .string y.f1, .string y.f2, .int .i64 y.f3, .int .i64 y.f4] 78 (0, 0)))
    replace HA := Aside0.mk (below_alloc HA.out (Obj.cells #[.int .i64 y.f0, .string y.f1, .string y.f2, .int .i64 y.f3, .int .i64 y.f4] 78 (0, 0)))
    refine bt (rNum y.f0) (fun h1 => bt (rNum y.f4) (fun h2 => bt ((y.f3 == -1)) (fun h3 => have h3_0 : ((y.f3 != -1)) = false := congrArg not h3; bt (decide ((256 : Int) < y.f1.size)) (fun h4 => have h4_0 : (decide (256 < y.f1.size)) = true := dq (by omega) h4; have m0 := trivial; ?_) (fun h4 => have h4_0 : (decide (256 < y.f1.size)) = false := dq (by omega) h4; bt (decide ((256 : Int) < y.f2.size)) (fun h5 => have h5_0 : (decide (256 < y.f2.size)) = true := dq (by omega) h5; have m0 := trivial; ?_) (fun h5 => have h5_0 : (decide (256 < y.f2.size)) = false := dq (by omega) h5; ?_))) (fun h3 => have h3_0 : ((y.f3 != -1)) = true := congrArg not h3; bt (rNum y.f3) (fun h6 => bt (decide ((256 : Int) < y.f1.size)) (fun h7 => have h7_0 : (decide (256 < y.f1.size)) = true := dq (by omega) h7; have m0 := trivial; ?_) (fun h7 => have h7_0 : (decide (256 < y.f1.size)) = false := dq (by omega) h7; bt (decide ((256 : Int) < y.f2.size)) (fun h8 => have h8_0 : (decide (256 < y.f2.size)) = true := dq (by omega) h8; have m0 := trivial; ?_) (fun h8 => have h8_0 : (decide (256 < y.f2.size)) = false := dq (by omega) h8; ?_))) (fun h6 => have m0 := trivial; ?_))) (fun h2 => have m0 := trivial; ?_)) (fun h1 => have m0 := trivial; ?_)
    all_goals first
     | clear m0
       have HR := Aside0.mk (show rOp y = false by simp only [rOp, *, Bool.not_true, Bool.not_false, Bool.true_and, Bool.false_and, Bool.and_true, Bool.and_false, Bool.true_or, Bool.false_or, Bool.or_true, Bool.or_false, Bool.false_eq_true, if_true, if_false])
       go_wp2_with (first | (go_at_call 92; (with_reducible refine (c_number _ _ _ (by assumption)).mono ?_); rintro e w1 ⟨rfl, rfl⟩) | (go_at_call 94; (with_reducible refine (c_count _ _ _ (by assumption)).mono ?_); rintro e w1 ⟨rfl, rfl⟩))
       go_ret
       exact ⟨by simp only [rOps, all_stop HX.out HR.out, Bool.not_true, Bool.not_false, Bool.true_and, Bool.false_and, Bool.and_true, Bool.and_false, Bool.true_or, Bool.false_or, Bool.or_true, Bool.or_false, Bool.false_eq_true, if_true, if_false] <;> rfl, HW.out⟩
     | skip
       have HR := Aside0.mk (show rOp y = true by simp only [rOp, *, Bool.not_true, Bool.not_false, Bool.true_and, Bool.false_and, Bool.and_true, Bool.and_false, Bool.true_or, Bool.false_or, Bool.or_true, Bool.or_false, Bool.false_eq_true, if_true, if_false])
       go_wp2_with (first | (go_at_call 92; (with_reducible refine (c_number _ _ _ (by assumption)).mono ?_); rintro e w1 ⟨rfl, rfl⟩) | (go_at_call 94; (with_reducible refine (c_count _ _ _ (by assumption)).mono ?_); rintro e w1 ⟨rfl, rfl⟩))
       go_roundw
       case rel => exact ⟨k + 1, by go_num, by omega, ⟨all_step HX.out HQ.out HR.out⟩, ⟨HW.out⟩, ⟨HA.out⟩⟩
       case measure => simp [intOf]; omega
  · have HL := all_done HQ.out (by omega)
    refine bt (decide ((xs.length : Int) ≤ 4)) (fun h9 => have h9_0 : (decide ((4 : Int) ≥ xs.length)) = true := h9; ?_) (fun h9 => have h9_0 : (decide ((4 : Int) ≥ xs.length)) = false := h9; ?_)
    all_goals
     go_wp2_with (first | (go_at_call 92; (with_reducible refine (c_number _ _ _ (by assumption)).mono ?_); rintro e w1 ⟨rfl, rfl⟩) | (go_at_call 94; (with_reducible refine (c_count _ _ _ (by assumption)).mono ?_); rintro e w1 ⟨rfl, rfl⟩))
     go_ret
     exact ⟨by simp only [rOps, HL, *, Bool.not_true, Bool.not_false, Bool.true_and, Bool.false_and, Bool.and_true, Bool.and_false, Bool.true_or, Bool.false_or, Bool.or_true, Bool.or_false, Bool.false_eq_true, if_true, if_false] <;> rfl, HW.out⟩
def rEntry (x : S55) : Bool := rCnt x.f0 && rNum x.f1 && rCnt x.f3 && rNum x.f4 && !decide (x.f2 < 1) && !decide (4 < x.f2) && (if (x.f2 == 1) = true then decide (1 ≤ x.f4) && rOps x.f5 else (x.f4 == 0) && (x.f5.length == 0))
set_option maxRecDepth 100000 in
set_option maxHeartbeats 1000000 in
theorem c_entry (w0 W : World) (x : S55) (cs : List Value) (b : Bool) (h : rEntry x = b) (hk : k55.K w0 x cs) (hb : Below w0.heap.size w0 W) :
  Calls Tryz.prog 76 #[.agg cs.toArray] W fun e W' => e = .returned (.bool b) ∧ Below W.heap.size W W' := by
 subst h
 obtain ⟨A5, c5, rfl, l5, g5⟩ := k55_open hk
 have G5 := Aside0.mk g5
 have hm5 : x.f5.length ≤ 9223372036854775807 := g5.2.1
 have HW := Aside0.mk (below_alloc (Below.refl W.heap.size W) (Obj.cells #[.int .i64 x.f0, .int .i64 x.f1, .int .i64 x.f2, .int .i64 x.f3, .int .i64 x.f4, .slice A5 x.f5.length c5] 55 (0, 0)))
 have HA := Aside0.mk (below_alloc hb (Obj.cells #[.int .i64 x.f0, .int .i64 x.f1, .int .i64 x.f2, .int .i64 x.f3, .int .i64 x.f4, .slice A5 x.f5.length c5] 55 (0, 0)))
 have HBR := Aside0.mk (blk_alloc (W := W) (Obj.cells #[.int .i64 x.f0, .int .i64 x.f1, .int .i64 x.f2, .int .i64 x.f3, .int .i64 x.f4, .slice A5 x.f5.length c5] 55 (0, 0)))
 have hcR := blk_cell HBR.out
 have hfR := blk_frozen HBR.out
 clear hk hb g5
 go_enter Tryz.func76, Tryz.ntmps76
 refine bt (rCnt x.f0) (fun h1 => bt (rNum x.f1) (fun h2 => bt (rCnt x.f3) (fun h3 => bt (rNum x.f4) (fun h4 => bt (decide (x.f2 < 1)) (fun h5 => have h5_0 : (decide (1 > x.f2)) = true := h5; ?_) (fun h5 => have h5_0 : (decide (1 > x.f2)) = false := h5; bt (decide (4 < x.f2)) (fun h6 => have h6_0 : (decide (x.f2 > 4)) = true := h6; ?_) (fun h6 => have h6_0 : (decide (x.f2 > 4)) = false := h6; bt ((x.f2 == 1)) (fun h7 => have h7_0 : ((x.f2 != 1)) = false := congrArg not h7; bt (decide (1 ≤ x.f4)) (fun h8 => have h8_0 : (decide (x.f4 ≥ 1)) = true := h8; bt (rOps x.f5) (fun h9 => ?_) (fun h9 => ?_)) (fun h8 => have h8_0 : (decide (x.f4 ≥ 1)) = false := h8; ?_)) (fun h7 => have h7_0 : ((x.f2 != 1)) = true := congrArg not h7; bt ((x.f4 == 0)) (fun h10 => have h10_0 : ((x.f4 != 0)) = false := congrArg not h10; bt ((x.f5.length == 0)) (fun h11 => have h11_0 : (((x.f5.length : Int) == 0)) = true := zq (by omega) h11; have h11_1 : (((x.f5.length : Int) != 0)) = false := yq (by omega) h11; ?_) (fun h11 => have h11_0 : (((x.f5.length : Int) == 0)) = false := zq (by omega) h11; have h11_1 : (((x.f5.length : Int) != 0)) = true := yq (by omega) h11; ?_)) (fun h10 => have h10_0 : ((x.f4 != 0)) = true := congrArg not h10; ?_))))) (fun h4 => ?_)) (fun h3 => ?_)) (fun h2 => ?_)) (fun h1 => ?_)
 all_goals
  go_wp2_with (first | (go_at_call 92; (with_reducible refine (c_number _ _ _ (by assumption)).mono ?_); rintro e w1 ⟨rfl, rfl⟩) | (go_at_call 94; (with_reducible refine (c_count _ _ _ (by assumption)).mono ?_); rintro e w1 ⟨rfl, rfl⟩) | (go_at_call 48; (with_reducible refine (c_ops w0 _ _ _ _ _ (by assumption) G5.out HA.out).mono ?_); rintro e w1 ⟨rfl, hb1⟩; replace HW := Aside0.mk (below_step HW.out hb1); replace HA := Aside0.mk (below_step HA.out hb1); replace HBR := Aside0.mk (blk_below hb1 HBR.out); replace hcR := blk_cell HBR.out; replace hfR := blk_frozen HBR.out; clear hb1))
  go_ret
  exact ⟨by simp only [rEntry, *, Bool.not_true, Bool.not_false, Bool.true_and, Bool.false_and, Bool.and_true, Bool.and_false, Bool.true_or, Bool.false_or, Bool.or_true, Bool.or_false, Bool.false_eq_true, if_true, if_false] <;> rfl, HW.out⟩
end Go.Proofs.YtmneemhplffemaaGreatDoorRR.Chk
namespace Go.Proofs.YtmneemhplffemaaGreatDoorRR.Law
open Go.RowKit Go.Proofs.YtmneemhplffemaaGreatDoorRR.Ord Go.Proofs.YtmneemhplffemaaGreatDoorRR.Name Go.Proofs.YtmneemhplffemaaGreatDoorRR.Ext Go.Proofs.YtmneemhplffemaaGreatDoorRR.Wire Go.Proofs.YtmneemhplffemaaGreatDoorRR.Mem Go.Proofs.YtmneemhplffemaaGreatDoorRR.Put Go.Proofs.YtmneemhplffemaaGreatDoorRR.Get Go.Proofs.YtmneemhplffemaaGreatDoorRR.Ki Go.Proofs.YtmneemhplffemaaGreatDoorRR.Chk Go.Proofs.YtmneemhplffemaaGreatDoorRR.May Go.Proofs.YtmneemhplffemaaGreatDoorRRW.PrintWords


theorem rCnt_iff (v : Int) : rCnt v = true ↔ okNum v = true ∧ 1 ≤ v := by
 simp only [rCnt, okNum, Bool.and_eq_true, decide_eq_true_eq]
 omega
theorem rNum_iff (v : Int) : rNum v = true ↔ okNum v = true := Iff.rfl
theorem all_iff {α : Type} {p q : α → Bool} (h : ∀ y, p y = true ↔ q y = true) (l : List α) : l.all p = true ↔ l.all q = true := by
 rw [List.all_eq_true, List.all_eq_true]
 exact ⟨fun k y hy => (h y).1 (k y hy), fun k y hy => (h y).2 (k y hy)⟩
theorem op_iff (x : S78) : rOp x = true ↔ mOp x = true := by
 simp only [rOp, mOp, Bool.and_eq_true, Bool.or_eq_true, Bool.not_eq_true', Bool.and_eq_false_iff, decide_eq_true_eq, decide_eq_false_iff_not, Bool.not_eq_false', rNum_iff]
 constructor <;> intro h <;> grind
theorem ops_iff (l : List S78) : rOps l = true ↔ mOps l = true := by
 simp only [rOps, mOps, Bool.and_eq_true, all_iff op_iff l]
 exact And.comm
theorem mOps_nil {l : List S78} (h : l.length = 0) : mOps l = true := by
 rw [List.eq_nil_of_length_eq_zero h]
 rfl
theorem entry_iff (x : S55) : rEntry x = true ↔ mEntry x = true := by
 simp only [rEntry, mEntry, Bool.and_eq_true, Bool.not_eq_true', decide_eq_true_eq, decide_eq_false_iff_not, rNum_iff, rCnt_iff]
 cases h : (x.f2 == 1) with
 | true =>
   simp only [if_true, Bool.and_eq_true, decide_eq_true_eq, ops_iff]
   constructor <;> intro h <;> grind
 | false =>
   simp only [Bool.false_eq_true, if_false, Bool.and_eq_true, beq_iff_eq]
   constructor
   · intro h
     have := mOps_nil h.2.2
     grind
   · intro h
     grind
end Go.Proofs.YtmneemhplffemaaGreatDoorRR.Law
namespace Go.Proofs.YtmneemhplffemaaGreatDoorRR.Ent
open Go.RowKit Go.Proofs.YtmneemhplffemaaGreatDoorRR.Ext Go.Proofs.YtmneemhplffemaaGreatDoorRR.Wire Go.Proofs.YtmneemhplffemaaGreatDoorRR.Mem Go.Proofs.YtmneemhplffemaaGreatDoorRR.Row Go.Proofs.YtmneemhplffemaaGreatDoorRR.Ki Go.Proofs.YtmneemhplffemaaGreatDoorRR.Put Go.Proofs.YtmneemhplffemaaGreatDoorRR.Get Go.Proofs.YtmneemhplffemaaGreatDoorRR.Law Go.Proofs.YtmneemhplffemaaGreatDoorRR.Chk Go.Proofs.YtmneemhplffemaaGreatDoorRR.May Go.Proofs.YtmneemhplffemaaGreatDoorRR.Tab Go.Proofs.YtmneemhplffemaaGreatDoorRR.Cop Go.Proofs.YtmneemhplffemaaGreatDoorRRW.PrintWords


set_option maxRecDepth 100000 in
set_option maxHeartbeats 4000000 in
theorem cut_h {t e : TypeId} {i : TypeInfo} (hu : Tryz.prog.underlying t = some (.slice e)) (hi : Tryz.prog.info? e = some i) (A : Option Addr) (n c m : Nat) (hm : m ≤ c) (w : World) : (Instr.slice t (.slice A n c) none (some (.int .i64 (m : Int))) none).run Tryz.prog w = .ok (.slice A m c) w := by
 have e' : A.map (·.add 0) = A := by cases A with | none => rfl | some a => simp [Addr.add]
 have hel : Tryz.prog.elem t = e := by simp [Program.elem, hu]
 have hu' : Tryz.prog.underlying t = some (.slice (Tryz.prog.elem t)) := by rw [hel]; exact hu
 rw [run_slice_h w t A n c hu' .i64 (m : Int) (by omega) (by omega), hel]
 simp [sizeOf, typeInfo, hi, sliced, Result.andThen, e', go_sem]
def markOp : S78 := ⟨-77, ⟨#[]⟩, ⟨#[]⟩, 0, 0⟩
set_option maxRecDepth 100000 in
set_option maxHeartbeats 4000000 in
theorem info_of {t : TypeId} {z : Value} {n b : Nat} (h : (Tryz.prog.info? t).map (fun i => (i.zero, i.size, i.bytes)) = some (some z, n, b)) : ∃ i, Tryz.prog.info? t = some i := by
 obtain ⟨i, hi, _⟩ := Option.map_eq_some_iff.1 h
 exact ⟨i, hi⟩
set_option maxRecDepth 100000 in
set_option maxHeartbeats 4000000 in
theorem c_roomOps (w0 W : World) (A : Option Addr) (c : Nat) (xs : List S78) (hC : k78.C w0 A xs.length xs) (hl : xs.length * 56 ≤ 140737488351232) (hb : Below w0.heap.size w0 W) :
  Calls Tryz.prog 27 #[.slice A xs.length c] W fun e W' => ∃ A' c', e = .returned (.slice A' xs.length c') ∧ Below W.heap.size W W' ∧ k78.R 78 W' W.heap.size (fun _ => True) (.slice A' (xs.length + 1) c') (xs ++ [markOp]) := by
 have HC := Aside0.mk hC
 have HB := Aside0.mk hb
 have HL := Aside0.mk hl
 have hm : xs.length ≤ 9223372036854775807 := hC.2.1
 have HRR := Aside0.mk (row_at hC)
 have hsl : ∀ (A' : Option Addr) (n c' : Nat), xs.length ≤ c' → ∀ w, (Instr.slice 25 (.slice A' n c') none (some (.int .i64 (xs.length : Int))) none).run Tryz.prog w = .ok (.slice A' xs.length c') w := fun A' n c' h w => cut_h Tryz.underlying25 (info_of infoOp).choose_spec A' n c' xs.length h w
 have HSL := Aside0.mk hsl
 clear hC hb hl hsl
 go_enter Tryz.func27, Tryz.ntmps27
 go_wp2_with (first | (((with_reducible refine gate_builtin (b := .append) (xs := #[.tmp 3, .tmp 4]) rfl ?_); at_builtin; refine Kd.R_append_rows k78 (Rr := k78.K w0) (w0 := W) W.heap.size rfl (.tmp 3) (.tmp 4) 25 78 _ 56 rfl Tryz.underlying25 infoOp rfl (by decide) (by decide) _ [] xs A xs.length c (fun _ => True) (fun _ => False) rfl rfl (R_lit0 _ _ _) (HRR.out _ (below_step HB.out (below_alloc (Below.refl _ _) _))) (fun x cs h => op_KM x cs h) (fun _ h => h.elim) (fun _ _ => trivial) (below_alloc (Below.refl _ _) _) (below_alloc (Below.refl _ _) _).size (by have := HL.out; simp only [List.length_nil]; omega) ?_; intro v1 w1 ho1 hb1 hg1 hat1; have HO1 := Aside0.mk (show k78.R 78 w1 W.heap.size (fun _ => True) v1 xs from ho1); have HB1 := Aside0.mk hb1; clear ho1 hb1 hg1 hat1)) | (((with_reducible refine gate_builtin (b := .append) (xs := #[.tmp 5, .tmp 7]) rfl ?_); at_builtin; refine Kd.R_append k78 (w0 := W) W.heap.size rfl (.tmp 5) (.tmp 7) 25 78 _ 56 rfl Tryz.underlying25 infoOp rfl (by decide) (by decide) v1 xs markOp [.int .i64 (-77), .string ⟨#[]⟩, .string ⟨#[]⟩, .int .i64 0, .int .i64 0] (fun _ => True) (fun _ => False) rfl rfl (k78_mkM _ _ _ markOp) (fun _ h => h.elim) (fun _ _ => trivial) HO1.out HB1.out HB1.out.size (by have := HL.out; omega) ?_; intro v2 w2 ho2 hb2 hg2 hat2; obtain ⟨A2, c2, hv2⟩ := Kd.R_slice ho2; rw [List.length_append, List.length_singleton] at hv2; subst hv2; have hle2 : xs.length ≤ c2 := (by have h := (Kd.R_reads' ho2).2.1; omega); have hsl2 := HSL.out A2 (xs.length + 1) c2 hle2; have HO2 := Aside0.mk ho2; have HB2 := Aside0.mk hb2; clear ho2 hb2 hg2 hat2)))
 go_ret
 exact ⟨_, _, rfl, HB2.out, HO2.out⟩
set_option maxRecDepth 100000 in
set_option maxHeartbeats 4000000 in
theorem c_opsMarked (W : World) (A : Option Addr) (n c : Nat) (xs : List S78) (hn : xs.length = n) (hC : k78.C W A (xs ++ [markOp]).length (xs ++ [markOp])) (hc : n + 1 ≤ c) :
  Calls Tryz.prog 31 #[.slice A n c] W fun e W' => e = .returned (.bool true) ∧ Below W.heap.size W W' := by
 subst hn
 have hmx := hC.2.1
 rw [List.length_append, List.length_singleton] at hmx
 have hat := at_T78 hC (xs.length : Int) (by omega) (by rw [List.length_append, List.length_singleton]; omega)
 rw [show rd_T78 (xs ++ [markOp]) (xs.length : Int) = markOp by unfold rd_T78; rw [Int.toNat_natCast, List.getD_eq_getElem?_getD, List.getElem?_append_right (Nat.le_refl _), Nat.sub_self]; rfl, Int.toNat_natCast] at hat
 obtain ⟨ad, rfl, a_0, a_1, a_2, a_3, a_4⟩ := hat
 have hsl : ∀ w, (Instr.slice 25 (.slice (some ad) xs.length c) none (some (.int .i64 ((xs.length : Int) + 1))) none).run Tryz.prog w = .ok (.slice (some ad) (xs.length + 1) c) w := fun w => cut_h Tryz.underlying25 (info_of infoOp).choose_spec (some ad) xs.length c (xs.length + 1) hc w
 have hw1 : wrap64 ((xs.length : Int) + 1) = (xs.length : Int) + 1 := by unfold wrap64; omega
 have heq : ∀ w, (binOp BinOp.eql 78 (.agg #[.int .i64 (-77), .string ⟨#[]⟩, .string ⟨#[]⟩, .int .i64 0, .int .i64 0]) (.agg #[.int .i64 (-77), .string ⟨#[]⟩, .string ⟨#[]⟩, .int .i64 0, .int .i64 0])).run Tryz.prog w = .ok (.bool true) w := fun w => by
  have h := Eqs.eqOp (Op.maxDepth - 2) w (-77) (-77) ⟨#[]⟩ ⟨#[]⟩ ⟨#[]⟩ ⟨#[]⟩ 0 0 0 0
  rw [show Op.maxDepth - 2 + 2 = Op.maxDepth from rfl] at h
  simp [binOp, Op.equal, h, go_sem]
 simp only [markOp] at a_0 a_1 a_2 a_3 a_4
 clear hC
 go_enter Tryz.func31, Tryz.ntmps31
 go_wp2_with fail
 go_ret
 exact ⟨rfl, Below.refl _ _⟩
theorem rEntry_m {x : S55} {b : Bool} (h : mEntry x = b) : rEntry x = b := by
 cases b with
 | true => exact (entry_iff x).2 h
 | false => cases hr : rEntry x with
   | false => rfl
   | true => rw [(entry_iff x).1 hr] at h; cases h
set_option maxRecDepth 100000 in
set_option maxHeartbeats 4000000 in
theorem c_encEntry (w0 W : World) (x : S55) (cs : List Value) (hk : k55.K w0 x cs) (hb : Below w0.heap.size w0 W) :
   Calls Tryz.prog 28 #[.agg cs.toArray] W fun e W' => Below W.heap.size W W' ∧ (mEntry x = false → e = .returned (.tuple #[.slice none 0 0, .int .i64 30])) ∧ (mEntry x = true → ∃ v, e = .returned (.tuple #[v, .int .i64 0]) ∧ BRow W' W.heap.size v (encEntry x)) := by
 have HK := Aside0.mk hk
 have HP : Aside0 (∀ w : World, Pen 127 (w.alloc (Obj.cells #[.slice none 0 0] 127 (0, 0))) w.heap.size w.heap.size (.slice none 0 0) []) := ⟨fun w => ⟨blk_alloc _, Kd.own_of_R (Kd.R_nil (Kd.int .u8) _ _ _ (fun _ => True)), Nat.le_refl _, by decide⟩⟩
 obtain ⟨A5, c5, rfl, l5, g5⟩ := k55_open hk
 have HW := Aside0.mk (below_alloc (Below.refl W.heap.size W) (Obj.cells #[.int .i64 x.f0, .int .i64 x.f1, .int .i64 x.f2, .int .i64 x.f3, .int .i64 x.f4, .slice A5 x.f5.length c5] 55 (0, 0)))
 have HA := Aside0.mk (below_alloc hb (Obj.cells #[.int .i64 x.f0, .int .i64 x.f1, .int .i64 x.f2, .int .i64 x.f3, .int .i64 x.f4, .slice A5 x.f5.length c5] 55 (0, 0)))
 have HBR := Aside0.mk (blk_alloc (W := W) (Obj.cells #[.int .i64 x.f0, .int .i64 x.f1, .int .i64 x.f2, .int .i64 x.f3, .int .i64 x.f4, .slice A5 x.f5.length c5] 55 (0, 0)))
 have hcR := blk_cell HBR.out
 have hfR := blk_frozen HBR.out
 clear hk hb l5 g5
 go_enter Tryz.func28, Tryz.ntmps28
 obtain ⟨b, hm⟩ : ∃ b, mEntry x = b := ⟨_, rfl⟩
 cases b with
 | false =>
   have HM := Aside0.mk hm
   clear hm
   go_wp2_with (go_at_call 74; (with_reducible refine (m_entry w0 _ x _ _ HM.out HK.out HA.out).mono ?_); rintro e w1 ⟨rfl, hb1⟩; replace HW := Aside0.mk (below_step HW.out hb1); replace HA := Aside0.mk (below_step HA.out hb1); replace HBR := Aside0.mk (blk_below hb1 HBR.out); replace hcR := blk_cell HBR.out; replace hfR := blk_frozen HBR.out; clear hb1)
   go_ret2
   exact ⟨HW.out, (fun _ => rfl), fun h => (by rw [HM.out] at h; cases h)⟩
 | true =>
   have HM := Aside0.mk hm
   clear hm
   go_wp2_with (first | ((with_reducible refine gate_load (t := 55) rfl ?_); first | refine load_row rfl rfl Tryz.underlying55 rfl HBR.out rfl (size_of infoEntry) ?_ | refine load_row rfl rfl Tryz.underlying55 rfl (blk_below (below_alloc (Below.refl _ _) _) HBR.out) rfl (size_of infoEntry) ?_) | (go_at_call 74; (with_reducible refine (m_entry w0 _ x _ _ HM.out HK.out HA.out).mono ?_); rintro e w1 ⟨rfl, hb1⟩; replace HW := Aside0.mk (below_step HW.out hb1); replace HA := Aside0.mk (below_step HA.out hb1); replace HBR := Aside0.mk (blk_below hb1 HBR.out); replace hcR := blk_cell HBR.out; replace hfR := blk_frozen HBR.out; clear hb1) | (go_at_call 75; (with_reducible refine (putEntry_any x (entry_ok HM.out) _ w0 _ HK.out (below_step HA.out (below_alloc (Below.refl _ _) _)) w1.heap.size w1.heap.size _ [] (HA.out.size) (HP.out _) (by decide)).mono ?_); rintro e w2 ⟨rfl, v2, hp2, hm2, hk2⟩; have HV := Aside0.mk hp2.own; have n_0 := hp2.cell; have HB2 := Aside0.mk (hm2.above (below_step HW.out (below_alloc (Below.refl _ _) _)) (fun k hs => Nat.le_trans HW.out.size ((HP.out _).base_le k hs))); have hle := HW.out.size; clear hp2 hm2 hk2))
   go_ret2
   exact ⟨HB2.out, (fun h => (by rw [HM.out] at h; cases h)), fun _ => ⟨v2, rfl, Kd.R_lower (d := Kd.int .u8) (ok := fun _ => True) (Kd.R_of_own HV.out (fun _ _ => trivial)) hle⟩⟩
set_option maxRecDepth 100000 in
set_option maxHeartbeats 4000000 in
theorem r_encEntry (w0 W : World) (x : S55) (cs : List Value) (hk : k55.K w0 x cs) (hb : Below w0.heap.size w0 W) :
   Calls Tryz.prog 29 #[.agg cs.toArray] W fun e W' => Below W.heap.size W W' ∧ (mEntry x = false → e = .returned (.tuple #[.slice none 0 0, .int .i64 30])) ∧ (mEntry x = true → ∃ v, e = .returned (.tuple #[v, .int .i64 0]) ∧ BRow W' W.heap.size v (encEntry x)) := by
 have HK := Aside0.mk hk
 have HP : Aside0 (∀ w : World, Pen 131 (w.alloc (Obj.cells #[.slice none 0 0] 131 (0, 0))) w.heap.size w.heap.size (.slice none 0 0) []) := ⟨fun w => ⟨blk_alloc _, Kd.own_of_R (Kd.R_nil (Kd.int .u8) _ _ _ (fun _ => True)), Nat.le_refl _, by decide⟩⟩
 obtain ⟨A5, c5, rfl, l5, g5⟩ := k55_open hk
 have HW := Aside0.mk (below_alloc (Below.refl W.heap.size W) (Obj.cells #[.int .i64 x.f0, .int .i64 x.f1, .int .i64 x.f2, .int .i64 x.f3, .int .i64 x.f4, .slice A5 x.f5.length c5] 55 (0, 0)))
 have HA := Aside0.mk (below_alloc hb (Obj.cells #[.int .i64 x.f0, .int .i64 x.f1, .int .i64 x.f2, .int .i64 x.f3, .int .i64 x.f4, .slice A5 x.f5.length c5] 55 (0, 0)))
 have HBR := Aside0.mk (blk_alloc (W := W) (Obj.cells #[.int .i64 x.f0, .int .i64 x.f1, .int .i64 x.f2, .int .i64 x.f3, .int .i64 x.f4, .slice A5 x.f5.length c5] 55 (0, 0)))
 have hcR := blk_cell HBR.out
 have hfR := blk_frozen HBR.out
 clear hk hb l5 g5
 go_enter Tryz.func29, Tryz.ntmps29
 obtain ⟨b, hm⟩ : ∃ b, mEntry x = b := ⟨_, rfl⟩
 cases b with
 | false =>
   have HM := Aside0.mk hm
   clear hm
   go_wp2_with (go_at_call 76; (with_reducible refine (Chk.c_entry w0 _ x _ _ (rEntry_m HM.out) HK.out HA.out).mono ?_); rintro e w1 ⟨rfl, hb1⟩; replace HW := Aside0.mk (below_step HW.out hb1); replace HA := Aside0.mk (below_step HA.out hb1); replace HBR := Aside0.mk (blk_below hb1 HBR.out); replace hcR := blk_cell HBR.out; replace hfR := blk_frozen HBR.out; clear hb1)
   go_ret2
   exact ⟨HW.out, (fun _ => rfl), fun h => (by rw [HM.out] at h; cases h)⟩
 | true =>
   have HM := Aside0.mk hm
   clear hm
   go_wp2_with (first | ((with_reducible refine gate_load (t := 55) rfl ?_); first | refine load_row rfl rfl Tryz.underlying55 rfl HBR.out rfl (size_of infoEntry) ?_ | refine load_row rfl rfl Tryz.underlying55 rfl (blk_below (below_alloc (Below.refl _ _) _) HBR.out) rfl (size_of infoEntry) ?_) | (go_at_call 76; (with_reducible refine (Chk.c_entry w0 _ x _ _ (rEntry_m HM.out) HK.out HA.out).mono ?_); rintro e w1 ⟨rfl, hb1⟩; replace HW := Aside0.mk (below_step HW.out hb1); replace HA := Aside0.mk (below_step HA.out hb1); replace HBR := Aside0.mk (blk_below hb1 HBR.out); replace hcR := blk_cell HBR.out; replace hfR := blk_frozen HBR.out; clear hb1) | (go_at_call 77; (with_reducible refine (pageEntry x (entry_ok HM.out) _ w0 _ HK.out (below_step HA.out (below_alloc (Below.refl _ _) _)) w1.heap.size w1.heap.size _ [] (HA.out.size) (HP.out _) (by decide)).mono ?_); rintro e w2 ⟨rfl, v2, hp2, hm2, hk2⟩; have HV := Aside0.mk hp2.own; have n_0 := hp2.cell; have HB2 := Aside0.mk (hm2.above (below_step HW.out (below_alloc (Below.refl _ _) _)) (fun k hs => Nat.le_trans HW.out.size ((HP.out _).base_le k hs))); have hle := HW.out.size; clear hp2 hm2 hk2))
   go_ret2
   exact ⟨HB2.out, (fun h => (by rw [HM.out] at h; cases h)), fun _ => ⟨v2, rfl, Kd.R_lower (d := Kd.int .u8) (ok := fun _ => True) (Kd.R_of_own HV.out (fun _ _ => trivial)) hle⟩⟩
end Go.Proofs.YtmneemhplffemaaGreatDoorRR.Ent
namespace Go.Proofs.YtmneemhplffemaaGreatDoorRR.Eye
open Go.RowKit Go.Proofs.YtmneemhplffemaaGreatDoorRR.Ext Go.Proofs.YtmneemhplffemaaGreatDoorRR.Wire Go.Proofs.YtmneemhplffemaaGreatDoorRR.Mem Go.Proofs.YtmneemhplffemaaGreatDoorRR.Get Go.Proofs.YtmneemhplffemaaGreatDoorRR.Ki Go.Proofs.YtmneemhplffemaaGreatDoorRRW.PrintWords

abbrev ES := Nat × Bool
def eN (xs : List Int) (s : ES) : Int × ES := if s.2 = true then (0, s) else match dNum xs s.1 with
 | none => (0, (s.1, true))
 | some (v, b) => (v, (b, false))
def eT (xs : List Int) (s : ES) : ByteArray × ES := if s.2 = true then (⟨#[]⟩, s) else match dTxt xs s.1 with
 | none => (⟨#[]⟩, (s.1, true))
 | some (v, b) => (v, (b, false))
def eM (xs : List Int) (m : Int) (s : ES) : Int × ES := if m < (eN xs s).1 then (0, ((eN xs s).2.1, true)) else eN xs s
def eRep {β : Type} (f : ES → β × ES) : Nat → ES → List β × ES
 | 0, s => ([], s)
 | n + 1, s => if s.2 = true then ([], s) else ((f s).1 :: (eRep f n (f s).2).1, (eRep f n (f s).2).2)
theorem eN_bad (xs : List Int) (a : Nat) : eN xs (a, true) = (0, (a, true)) := rfl
theorem eT_bad (xs : List Int) (a : Nat) : eT xs (a, true) = (⟨#[]⟩, (a, true)) := rfl
theorem eN_none {xs : List Int} {a : Nat} (h : dNum xs a = none) : eN xs (a, false) = (0, (a, true)) := by
 show (match dNum xs a with | none => ((0 : Int), (a, true)) | some (v, b) => (v, (b, false))) = _
 rw [h]
theorem eN_some {xs : List Int} {a b : Nat} {v : Int} (h : dNum xs a = some (v, b)) : eN xs (a, false) = (v, (b, false)) := by
 show (match dNum xs a with | none => ((0 : Int), (a, true)) | some (v, b) => (v, (b, false))) = _
 rw [h]
theorem eT_none {xs : List Int} {a : Nat} (h : dTxt xs a = none) : eT xs (a, false) = (⟨#[]⟩, (a, true)) := by
 show (match dTxt xs a with | none => ((⟨#[]⟩ : ByteArray), (a, true)) | some (v, b) => (v, (b, false))) = _
 rw [h]
theorem eT_some {xs : List Int} {a b : Nat} {v : ByteArray} (h : dTxt xs a = some (v, b)) : eT xs (a, false) = (v, (b, false)) := by
 show (match dTxt xs a with | none => ((⟨#[]⟩ : ByteArray), (a, true)) | some (v, b) => (v, (b, false))) = _
 rw [h]
theorem eN_ok {xs : List Int} (hB : Bytes xs) {s s' : ES} {v : Int} (hs : s.1 ≤ xs.length) (h : eN xs s = (v, s')) : s'.1 ≤ xs.length ∧ 0 ≤ v ∧ v ≤ 2147483647 := by
 obtain ⟨a, b⟩ := s
 cases b with
 | true =>
   rw [eN_bad] at h
   simp only [Prod.mk.injEq] at h
   obtain ⟨rfl, rfl⟩ := h
   exact ⟨hs, by omega, by omega⟩
 | false =>
   cases hr : dNum xs a with
   | none =>
     rw [eN_none hr] at h
     simp only [Prod.mk.injEq] at h
     obtain ⟨rfl, rfl⟩ := h
     exact ⟨hs, by omega, by omega⟩
   | some p =>
     obtain ⟨v', b'⟩ := p
     rw [eN_some hr] at h
     simp only [Prod.mk.injEq] at h
     obtain ⟨rfl, rfl⟩ := h
     obtain ⟨_, h1, h2, _, h3, _⟩ := dNum_some hB hr
     exact ⟨h3, h1, h2⟩
theorem eT_ok {xs : List Int} (hB : Bytes xs) {s s' : ES} {v : ByteArray} (hs : s.1 ≤ xs.length) (h : eT xs s = (v, s')) : s'.1 ≤ xs.length ∧ v.size ≤ 262144 := by
 obtain ⟨a, b⟩ := s
 cases b with
 | true =>
   rw [eT_bad] at h
   simp only [Prod.mk.injEq] at h
   obtain ⟨rfl, rfl⟩ := h
   exact ⟨hs, by show 0 ≤ _; omega⟩
 | false =>
   cases hr : dTxt xs a with
   | none =>
     rw [eT_none hr] at h
     simp only [Prod.mk.injEq] at h
     obtain ⟨rfl, rfl⟩ := h
     exact ⟨hs, by show 0 ≤ _; omega⟩
   | some p =>
     obtain ⟨v', b'⟩ := p
     rw [eT_some hr] at h
     simp only [Prod.mk.injEq] at h
     obtain ⟨rfl, rfl⟩ := h
     obtain ⟨_, h1, _, h3, _⟩ := dTxt_some hB hr
     exact ⟨h3, h1⟩
theorem eM_ok {xs : List Int} (hB : Bytes xs) {m : Int} (hm : 0 ≤ m) {s s' : ES} {v : Int} (hs : s.1 ≤ xs.length) (h : eM xs m s = (v, s')) : s'.1 ≤ xs.length ∧ 0 ≤ v ∧ v ≤ m := by
 obtain ⟨⟨x, t⟩, hx⟩ : ∃ p, eN xs s = p := ⟨_, rfl⟩
 have h1 := eN_ok hB hs hx
 unfold eM at h
 rw [hx] at h
 split at h
 · simp only [Prod.mk.injEq] at h
   obtain ⟨rfl, rfl⟩ := h
   exact ⟨h1.1, by omega, hm⟩
 · simp only [Prod.mk.injEq] at h
   obtain ⟨rfl, rfl⟩ := h
   rename_i hlt
   exact ⟨h1.1, h1.2.1, by simp only at hlt; omega⟩
def EyeR (W : World) (g : Nat) (A : Option Addr) (n c : Nat) (s : ES) : Prop := W.heap[g]? = some (.cells #[.slice A n c, .int .i64 (s.1 : Int), .bool s.2] 142 (0, 0))
set_option maxRecDepth 100000 in
theorem enum (w0 W : World) (g : Nat) (A : Option Addr) (c : Nat) (xs : List Int) (s s' : ES) (x : Int) (hI : eN xs s = (x, s')) (hD : Get.Data w0 A c xs) (ha : s.1 ≤ xs.length) (hb : Below w0.heap.size w0 W) (hg : w0.heap.size ≤ g) (hE : EyeR W g A xs.length c s) :
   Calls Tryz.prog 70 #[.pointer (some ⟨g, 0, none⟩)] W fun e W' => e = .returned (.int .i64 x) ∧ Moved W W' (fun k => k = g) ∧ EyeR W' g A xs.length c s' := by
 obtain ⟨a, b⟩ := s
 have hc0 : W.cell? ⟨g, 0, none⟩ = some (.slice A xs.length c) := blk_cell hE 0
 have hc1 : W.cell? ⟨g, 1, none⟩ = some (.int .i64 (a : Int)) := blk_cell hE 1
 have hc2 : W.cell? ⟨g, 2, none⟩ = some (.bool b) := blk_cell hE 2
 have hf1 : W.frozen? ⟨g, 1, none⟩ = false := blk_frozen hE 1
 have hf2 : W.frozen? ⟨g, 2, none⟩ = false := blk_frozen hE 2
 have hl := hD.len
 have HN := Aside0.mk (fun n => (refReadNumber_any A c xs a hD.bytes ha (by omega) (W.drewN n) (Kd.C_below hD.reads (pw_below_drewN hb n)) hD.cap).mono (fun _ _ h => And.intro h.1 h.2.symm))
 have HE := Aside0.mk hE
 cases b with
 | true =>
   rw [eN_bad] at hI
   simp only [Prod.mk.injEq] at hI
   obtain ⟨rfl, rfl⟩ := hI
   clear hb hE hD HN
   go_enter Tryz.func70, Tryz.ntmps70
   go_wp2_with fail
   go_ret
   exact ⟨rfl, Moved.refl _ _, HE.out⟩
 | false =>
   cases hr : dNum xs a with
   | none =>
     rw [eN_none hr] at hI
     simp only [Prod.mk.injEq] at hI
     obtain ⟨rfl, rfl⟩ := hI
     have hd := dNum_none hr
     clear hb hE hD hr
     go_enter Tryz.func70, Tryz.ntmps70
     go_wp2_with fail
     go_quiet ((go_at_call 111; exact Calls.quiet_of_same (HN.out _)))
     go_wp2_with fail
     go_ret
     exact ⟨rfl, (moved_drewN _ _ (fun k => k = g)).set_ (.inl rfl) _, by have h := blk_set HE.out 2 (.bool true); simp at h; exact h⟩
   | some p =>
     obtain ⟨v, a'⟩ := p
     rw [eN_some hr] at hI
     simp only [Prod.mk.injEq] at hI
     obtain ⟨rfl, rfl⟩ := hI
     obtain ⟨hn, hv0, hv1, ha0, ha1, _⟩ := dNum_some hD.bytes hr
     rw [hn] at HN
     clear hb hE hD hr hn
     go_enter Tryz.func70, Tryz.ntmps70
     go_wp2_with fail
     go_quiet ((go_at_call 111; exact Calls.quiet_of_same (HN.out _)))
     go_wp2_with fail
     go_ret
     exact ⟨rfl, (moved_drewN _ _ (fun k => k = g)).set_ (.inl rfl) _, by have h := blk_set HE.out 1 (.int .i64 (a' : Int)); simp at h; exact h⟩
set_option maxRecDepth 100000 in
theorem etxt (w0 W : World) (g : Nat) (A : Option Addr) (c : Nat) (xs : List Int) (s s' : ES) (x : ByteArray) (hI : eT xs s = (x, s')) (hD : Get.Data w0 A c xs) (ha : s.1 ≤ xs.length) (hb : Below w0.heap.size w0 W) (hg : w0.heap.size ≤ g) (hE : EyeR W g A xs.length c s) :
   Calls Tryz.prog 118 #[.pointer (some ⟨g, 0, none⟩)] W fun e W' => e = .returned (.string x) ∧ Moved W W' (fun k => k = g) ∧ EyeR W' g A xs.length c s' := by
 obtain ⟨a, b⟩ := s
 have hc0 : W.cell? ⟨g, 0, none⟩ = some (.slice A xs.length c) := blk_cell hE 0
 have hc1 : W.cell? ⟨g, 1, none⟩ = some (.int .i64 (a : Int)) := blk_cell hE 1
 have hc2 : W.cell? ⟨g, 2, none⟩ = some (.bool b) := blk_cell hE 2
 have hf1 : W.frozen? ⟨g, 1, none⟩ = false := blk_frozen hE 1
 have hf2 : W.frozen? ⟨g, 2, none⟩ = false := blk_frozen hE 2
 have hl := hD.len
 have HN := Aside0.mk (fun n => (refReadText_any A c xs a hD.bytes ha (by omega) (W.drewN n) (Kd.C_below hD.reads (pw_below_drewN hb n)) hD.cap).mono (fun _ _ h => And.intro h.1 h.2.symm))
 have HE := Aside0.mk hE
 cases b with
 | true =>
   rw [eT_bad] at hI
   simp only [Prod.mk.injEq] at hI
   obtain ⟨rfl, rfl⟩ := hI
   clear hb hE hD HN
   go_enter Tryz.func118, Tryz.ntmps118
   go_wp2_with fail
   go_ret
   exact ⟨rfl, Moved.refl _ _, HE.out⟩
 | false =>
   cases hr : dTxt xs a with
   | none =>
     rw [eT_none hr] at hI
     simp only [Prod.mk.injEq] at hI
     obtain ⟨rfl, rfl⟩ := hI
     have hd := dTxt_none hr
     clear hb hE hD hr
     go_enter Tryz.func118, Tryz.ntmps118
     go_wp2_with fail
     go_quiet ((go_at_call 162; exact Calls.quiet_of_same (HN.out _)))
     go_wp2_with fail
     go_ret
     exact ⟨rfl, (moved_drewN _ _ (fun k => k = g)).set_ (.inl rfl) _, by have h := blk_set HE.out 2 (.bool true); simp at h; exact h⟩
   | some p =>
     obtain ⟨v, a'⟩ := p
     rw [eT_some hr] at hI
     simp only [Prod.mk.injEq] at hI
     obtain ⟨rfl, rfl⟩ := hI
     obtain ⟨hn, hv0, ha0, ha1, _⟩ := dTxt_some hD.bytes hr
     rw [hn] at HN
     clear hb hE hD hr hn
     go_enter Tryz.func118, Tryz.ntmps118
     go_wp2_with fail
     go_quiet ((go_at_call 162; exact Calls.quiet_of_same (HN.out _)))
     go_wp2_with fail
     go_ret
     exact ⟨rfl, (moved_drewN _ _ (fun k => k = g)).set_ (.inl rfl) _, by have h := blk_set HE.out 1 (.int .i64 (a' : Int)); simp at h; exact h⟩
set_option maxRecDepth 100000 in
theorem emany (w0 W : World) (g : Nat) (A : Option Addr) (c : Nat) (xs : List Int) (m : Int) (s s' : ES) (x : Int) (hI : eM xs m s = (x, s')) (hD : Get.Data w0 A c xs) (ha : s.1 ≤ xs.length) (hb : Below w0.heap.size w0 W) (hg : w0.heap.size ≤ g) (hE : EyeR W g A xs.length c s) :
   Calls Tryz.prog 158 #[.pointer (some ⟨g, 0, none⟩), .int .i64 m] W fun e W' => e = .returned (.int .i64 x) ∧ Moved W W' (fun k => k = g) ∧ EyeR W' g A xs.length c s' := by
 obtain ⟨⟨y, t⟩, hy⟩ : ∃ p, eN xs s = p := ⟨_, rfl⟩
 have HN := Aside0.mk (enum w0 W g A c xs s t y hy hD ha hb hg hE)
 unfold eM at hI
 rw [hy] at hI
 clear hb hE hD hy
 by_cases h : m < y
 · rw [if_pos h] at hI
   simp only [Prod.mk.injEq] at hI
   obtain ⟨rfl, rfl⟩ := hI
   have hd : decide (m < y) = true := by simp [h]
   clear h
   go_enter Tryz.func158, Tryz.ntmps158
   go_wp2_with fail
   refine HN.out.mono ?_
   rintro e w1 ⟨rfl, hm, he⟩
   have hc := blk_cell he
   have hf := blk_frozen he
   have HM := Aside0.mk hm
   have HE := Aside0.mk he
   clear hm he
   go_wp2_with fail
   go_ret
   exact ⟨rfl, HM.out.set_ (.inl rfl) _, by have h := blk_set HE.out 2 (.bool true); simp at h; exact h⟩
 · rw [if_neg h] at hI
   simp only [Prod.mk.injEq] at hI
   obtain ⟨rfl, rfl⟩ := hI
   have hd : decide (m < y) = false := by simp; omega
   clear h
   go_enter Tryz.func158, Tryz.ntmps158
   go_wp2_with fail
   refine HN.out.mono ?_
   rintro e w1 ⟨rfl, hm, he⟩
   have HM := Aside0.mk hm
   have HE := Aside0.mk he
   clear hm he
   go_wp2_with fail
   go_ret
   exact ⟨rfl, HM.out, HE.out⟩
end Go.Proofs.YtmneemhplffemaaGreatDoorRR.Eye
namespace Go.Proofs.YtmneemhplffemaaGreatDoorRR.Eye
open Go.RowKit Go.Proofs.YtmneemhplffemaaGreatDoorRR.Ext Go.Proofs.YtmneemhplffemaaGreatDoorRR.Wire Go.Proofs.YtmneemhplffemaaGreatDoorRR.Mem Go.Proofs.YtmneemhplffemaaGreatDoorRR.Get Go.Proofs.YtmneemhplffemaaGreatDoorRR.Ki Go.Proofs.YtmneemhplffemaaGreatDoorRRW.PrintWords


theorem eye_lt {W : World} {g n c : Nat} {A : Option Addr} {s : ES} (h : EyeR W g A n c s) : g < W.heap.size := blk_lt h
theorem blk_alloc2 (W : World) (o o' : Obj) : ((W.alloc o).alloc o').heap[W.heap.size + 1]? = some o' := by
 have h := blk_alloc (W := W.alloc o) o'
 rwa [show (W.alloc o).heap.size = W.heap.size + 1 by simp] at h
theorem R_mov {α : Type} {d : Kd α} {e : Nat} {w w1 : World} {base g : Nat} {ok : Nat → Prop} {v : Value} {xs : List α} {t : Nat} {cs : Array Value} (h : d.R e w base ok v xs) (hb : w.heap[g]? = some (.cells cs t (0, 0))) (ht : ∀ q, q ∈ e :: d.E → q ≠ t) (hm : Moved w w1 (fun k => k = g)) : d.R e w1 base ok v xs :=
 Kd.R_mono (Kd.R_step (Kd.R_types h hb ht) (fun k hk hl => hm.block k hl hk.2)) (fun _ hk => hk.1)
theorem R_lt {α : Type} {d : Kd α} {e : Nat} {w : World} {base : Nat} {ok : Nat → Prop} {v : Value} {xs : List α} (h : d.R e w base ok v xs) : d.R e w base (fun k => k < w.heap.size) v xs := Kd.R_mono (Kd.R_bound h) (fun _ hk => hk.2.2.1)
theorem R_far2 {α : Type} {d : Kd α} {e : Nat} {w : World} {base n : Nat} {v : Value} {xs : List α} (h : d.R e w base (fun k => k < n) v xs) (j : Nat) (u : Value) : d.R e (w.setCell ⟨n, j, none⟩ u) base (fun k => k < n) v xs := Kd.R_far (p := ⟨n, j, none⟩) h (fun k hk => by simp only; omega) u
theorem rep_step {β : Type} {f : ES → β × ES} {n : Nat} {l : List β} {s s1 : ES} {x : β} (hb : s.2 = false) (h : f s = (x, s1)) : (l ++ (eRep f (n + 1) s).1, (eRep f (n + 1) s).2) = ((l ++ [x]) ++ (eRep f n s1).1, (eRep f n s1).2) := by
 rw [eRep, if_neg (by rw [hb]; simp), h]
 simp
theorem rep_stop {β : Type} {f : ES → β × ES} {n : Nat} {l : List β} {s : ES} (h : n = 0 ∨ s.2 = true) : (l ++ (eRep f n s).1, (eRep f n s).2) = (l, s) := by
 cases n with
 | zero => simp [eRep]
 | succ n =>
   rw [eRep, if_pos (h.resolve_left (by omega))]
   simp
theorem eN_le {xs : List Int} (hB : Bytes xs) {s : ES} (hs : s.1 ≤ xs.length) : (eN xs s).2.1 ≤ xs.length := (eN_ok hB hs (v := (eN xs s).1) (s' := (eN xs s).2) rfl).1
theorem eT_le {xs : List Int} (hB : Bytes xs) {s : ES} (hs : s.1 ≤ xs.length) : (eT xs s).2.1 ≤ xs.length := (eT_ok hB hs (v := (eT xs s).1) (s' := (eT xs s).2) rfl).1
theorem eM_le {xs : List Int} (hB : Bytes xs) {m : Int} (hm : 0 ≤ m) {s : ES} (hs : s.1 ≤ xs.length) : (eM xs m s).2.1 ≤ xs.length := (eM_ok hB hm hs (v := (eM xs m s).1) (s' := (eM xs m s).2) rfl).1
theorem rep_ok {β : Type} {f : ES → β × ES} {N : Nat} (hf : ∀ s s' x, s.1 ≤ N → f s = (x, s') → s'.1 ≤ N) (n : Nat) : ∀ s s' l, s.1 ≤ N → eRep f n s = (l, s') → s'.1 ≤ N := by
 induction n with
 | zero =>
   intro s s' l hs h
   simp only [eRep, Prod.mk.injEq] at h
   rw [← h.2]
   exact hs
 | succ n ih =>
   intro s s' l hs h
   rw [eRep] at h
   split at h
   · simp only [Prod.mk.injEq] at h
     rw [← h.2]
     exact hs
   · simp only [Prod.mk.injEq] at h
     exact ih (f s).2 s' (eRep f n (f s).2).1 (hf s (f s).2 (f s).1 hs rfl) (by rw [← h.2])
def eVer (xs : List Int) (r : Int × ES) : Int × ES := if r.1 ≠ 0 then eN xs r.2 else (-1, r.2)
def eOp (xs : List Int) (s : ES) : S78 × ES :=
 let r0 := eN xs s; let r1 := eT xs r0.2; let r2 := eT xs r1.2; let r3 := eN xs r2.2; let r4 := eVer xs r3; let r5 := eN xs r4.2
 (⟨r0.1, r1.1, r2.1, r4.1, r5.1⟩, r5.2)
def eOps (xs : List Int) (s : ES) : List S78 × ES := eRep (eOp xs) (eM xs 4 s).1.toNat (eM xs 4 s).2
theorem eVer_yes {xs : List Int} {x : Int} {s : ES} (h : x ≠ 0) : eVer xs (x, s) = eN xs s := if_pos h
theorem eVer_no {xs : List Int} {x : Int} {s : ES} (h : ¬ x ≠ 0) : eVer xs (x, s) = (-1, s) := if_neg h
theorem eVer_le {xs : List Int} (hB : Bytes xs) {r : Int × ES} (hs : r.2.1 ≤ xs.length) : (eVer xs r).2.1 ≤ xs.length := by
 unfold eVer
 split
 · exact eN_le hB hs
 · exact hs
theorem eOp_ok {xs : List Int} (hB : Bytes xs) {s s' : ES} {x : S78} (hs : s.1 ≤ xs.length) (h : eOp xs s = (x, s')) : s'.1 ≤ xs.length := by
 simp only [eOp, Prod.mk.injEq] at h
 rw [← h.2]
 have h0 := eN_le hB hs
 have h1 := eT_le hB h0
 have h2 := eT_le hB h1
 have h3 := eN_le hB h2
 have h4 := eVer_le hB h3
 exact eN_le hB h4
theorem eOps_ok {xs : List Int} (hB : Bytes xs) {s s' : ES} {x : List S78} (hs : s.1 ≤ xs.length) (h : eOps xs s = (x, s')) : s'.1 ≤ xs.length :=
 rep_ok (fun _ _ _ hs h => eOp_ok hB hs h) _ _ _ _ (eM_le hB (by omega) hs) h
set_option maxRecDepth 100000 in
set_option maxHeartbeats 4000000 in
theorem e_ops (w0 W : World) (g : Nat) (A : Option Addr) (c : Nat) (xs : List Int) (s0 s' : ES) (r : List S78) (hI : eOps xs s0 = (r, s')) (hD : Get.Data w0 A c xs) (hl0 : s0.1 ≤ xs.length) (hb : Below w0.heap.size w0 W) (hg : w0.heap.size ≤ g) (hE : EyeR W g A xs.length c s0) :
  Calls Tryz.prog 112 #[.pointer (some ⟨g, 0, none⟩)] W fun e W' => ∃ v : Value, e = .returned v ∧ k78.R 78 W' W.heap.size (fun _ => True) v r ∧ Moved W W' (fun k => k = g) ∧ EyeR W' g A xs.length c s' := by
 have HI := Aside0.mk hI
 have HD := Aside0.mk hD
 have HB := Aside0.mk hb
 have HE0 := Aside0.mk hE
 have HM0 := Aside0.mk (Moved.refl W (fun k => k = g))
 have hgl := eye_lt hE
 clear hI hD hb hE
 go_enter Tryz.func112, Tryz.ntmps112
 obtain ⟨⟨y1, s1⟩, hi⟩ : ∃ p, eM xs 4 s0 = p := ⟨_, rfl⟩
 obtain ⟨hl1, hy0, hm1⟩ := eM_ok HD.out.bytes (by omega) hl0 hi
 obtain ⟨m1, rfl⟩ := Int.eq_ofNat_of_zero_le hy0
 clear hy0
 have HI1 := Aside0.mk hi
 clear hi
 go_wp2_with fail
 refine (emany w0 _ g A c xs 4 s0 s1 (m1 : Int) HI1.out HD.out hl0 (HM0.out.above HB.out (fun k hk => by omega)) hg HE0.out).mono ?_
 rintro e w1 ⟨rfl, hm, he⟩
 have HM1 := Aside0.mk (HM0.out.trans hm (fun _ _ h => h))
 have HE1 := Aside0.mk he
 clear hm he
 go_wp2_with fail
 go_loopw [3, 5] (fun vl vi wr => ∃ (k : Nat) (l : List S78) (s : ES), vi = .int .i64 k ∧ k ≤ m1 ∧ l.length ≤ k ∧ s.1 ≤ xs.length ∧ Aside0 (k78.R 78 wr W.heap.size (fun _ => True) vl l) ∧ Aside0 (EyeR wr g A xs.length c s) ∧ Aside0 (Moved W wr (fun k => k = g)) ∧ Aside0 (eRep (eOp xs) m1 s1 = (l ++ (eRep (eOp xs) (m1 - k) s).1, (eRep (eOp xs) (m1 - k) s).2))) (fun vl vi _ => m1 - (intOf vi).toNat)
 case atStart => exact ⟨0, [], s1, rfl, Nat.zero_le _, Nat.le_refl _, hl1, ⟨Kd.R_nil _ _ _ _ _⟩, HE1, HM1, ⟨by simp⟩⟩
 case round =>
  obtain ⟨k3, l3, s3, rfl, hk3, hll3, hl3, HOL3, HE3, HM3, HQ3⟩ := hrel
  obtain ⟨wo3, rfl⟩ : ∃ wo : World, wo = wr := ⟨_, rfl⟩
  obtain ⟨A3, c3, rfl, _, _⟩ := Kd.R_reads HOL3.out
  have hcb3 : wo3.cell? ⟨g, 2, none⟩ = some (.bool s3.2) := blk_cell HE3.out 2
  by_cases hgo3 : k3 < m1 ∧ s3.2 = false
  · obtain ⟨hlt3, hbf3⟩ := hgo3
    rw [hbf3] at hcb3
    have HBF3 := Aside0.mk hbf3
    clear hbf3
    have hsz5 := HM3.out.size
    have HBX_5 : Aside0 ((wo3.alloc (Obj.cells #[.int .i64 0, .string ⟨#[]⟩, .string ⟨#[]⟩, .int .i64 (-1), .int .i64 0] 78 (0, 0))).heap[wo3.heap.size]? = some (Obj.cells #[.int .i64 0, .string ⟨#[]⟩, .string ⟨#[]⟩, .int .i64 (-1), .int .i64 0] 78 (0, 0))) := ⟨blk_alloc _⟩
    have NEX : Aside0 (wo3.heap.size ≠ g) := ⟨by omega⟩
    have LEX : Aside0 (W.heap.size ≤ wo3.heap.size) := ⟨by omega⟩
    clear hsz5
    have HOL_5 := Aside0.mk (Kd.R_below (R_lt HOL3.out) (below_alloc (Below.refl _ _) (Obj.cells #[.int .i64 0, .string ⟨#[]⟩, .string ⟨#[]⟩, .int .i64 (-1), .int .i64 0] 78 (0, 0))))
    have HE5 := Aside0.mk (show EyeR (wo3.alloc (Obj.cells #[.int .i64 0, .string ⟨#[]⟩, .string ⟨#[]⟩, .int .i64 (-1), .int .i64 0] 78 (0, 0))) g A xs.length c s3 from blk_below (below_alloc (Below.refl _ _) (Obj.cells #[.int .i64 0, .string ⟨#[]⟩, .string ⟨#[]⟩, .int .i64 (-1), .int .i64 0] 78 (0, 0))) HE3.out)
    have HM5 := Aside0.mk (HM3.out.alloc (Obj.cells #[.int .i64 0, .string ⟨#[]⟩, .string ⟨#[]⟩, .int .i64 (-1), .int .i64 0] 78 (0, 0)))
    obtain ⟨⟨x6, s6⟩, hi⟩ : ∃ p, eN xs s3 = p := ⟨_, rfl⟩
    have hl6 := (eN_ok HD.out.bytes hl3 hi).1
    have HI6 := Aside0.mk hi
    clear hi
    go_wp2_with fail
    refine (enum w0 _ g A c xs s3 s6 x6 HI6.out HD.out hl3 (HM5.out.above HB.out (fun k hk => by omega)) hg HE5.out).mono ?_
    rintro e w6 ⟨rfl, hm, he⟩
    have HM6 := Aside0.mk (HM5.out.trans hm (fun _ _ h => h))
    have HBX_6 := Aside0.mk (hm.blk HBX_5.out NEX.out)
    have HOL_6 := Aside0.mk (R_mov HOL_5.out HE5.out (by decide) hm)
    have HE6 := Aside0.mk he
    clear hm he
    have hc7_X := blk_cell HBX_6.out
    have hf7_X := blk_frozen HBX_6.out
    clear hcb3
    have HOL_8 := Aside0.mk (R_far2 HOL_6.out 0 (.int .i64 x6))
    have HE8 := Aside0.mk (show EyeR (w6.setCell ⟨wo3.heap.size, 0, none⟩ (.int .i64 x6)) g A xs.length c s6 from blk_far HE6.out (p := ⟨wo3.heap.size, 0, none⟩) NEX.out.symm (.int .i64 x6))
    have HM8 := Aside0.mk (HM6.out.set_ (p := ⟨wo3.heap.size, 0, none⟩) (.inr LEX.out) (.int .i64 x6))
    have HBX_8 := Aside0.mk (show (w6.setCell ⟨wo3.heap.size, 0, none⟩ (.int .i64 x6)).heap[wo3.heap.size]? = some (Obj.cells #[.int .i64 x6, .string ⟨#[]⟩, .string ⟨#[]⟩, .int .i64 (-1), .int .i64 0] 78 (0, 0)) from blk_set HBX_6.out 0 (.int .i64 x6))
    obtain ⟨⟨x9, s9⟩, hi⟩ : ∃ p, eT xs s6 = p := ⟨_, rfl⟩
    have hl9 := (eT_ok HD.out.bytes hl6 hi).1
    have HI9 := Aside0.mk hi
    clear hi
    go_wp2_with fail
    refine (etxt w0 _ g A c xs s6 s9 x9 HI9.out HD.out hl6 (HM8.out.above HB.out (fun k hk => by omega)) hg HE8.out).mono ?_
    rintro e w9 ⟨rfl, hm, he⟩
    have HM9 := Aside0.mk (HM8.out.trans hm (fun _ _ h => h))
    have HBX_9 := Aside0.mk (hm.blk HBX_8.out NEX.out)
    have HOL_9 := Aside0.mk (R_mov HOL_8.out HE8.out (by decide) hm)
    have HE9 := Aside0.mk he
    clear hm he
    have hc10_X := blk_cell HBX_9.out
    have hf10_X := blk_frozen HBX_9.out
    clear hc7_X hf7_X
    have HOL_11 := Aside0.mk (R_far2 HOL_9.out 1 (.string x9))
    have HE11 := Aside0.mk (show EyeR (w9.setCell ⟨wo3.heap.size, 1, none⟩ (.string x9)) g A xs.length c s9 from blk_far HE9.out (p := ⟨wo3.heap.size, 1, none⟩) NEX.out.symm (.string x9))
    have HM11 := Aside0.mk (HM9.out.set_ (p := ⟨wo3.heap.size, 1, none⟩) (.inr LEX.out) (.string x9))
    have HBX_11 := Aside0.mk (show (w9.setCell ⟨wo3.heap.size, 1, none⟩ (.string x9)).heap[wo3.heap.size]? = some (Obj.cells #[.int .i64 x6, .string x9, .string ⟨#[]⟩, .int .i64 (-1), .int .i64 0] 78 (0, 0)) from blk_set HBX_9.out 1 (.string x9))
    obtain ⟨⟨x12, s12⟩, hi⟩ : ∃ p, eT xs s9 = p := ⟨_, rfl⟩
    have hl12 := (eT_ok HD.out.bytes hl9 hi).1
    have HI12 := Aside0.mk hi
    clear hi
    go_wp2_with fail
    refine (etxt w0 _ g A c xs s9 s12 x12 HI12.out HD.out hl9 (HM11.out.above HB.out (fun k hk => by omega)) hg HE11.out).mono ?_
    rintro e w12 ⟨rfl, hm, he⟩
    have HM12 := Aside0.mk (HM11.out.trans hm (fun _ _ h => h))
    have HBX_12 := Aside0.mk (hm.blk HBX_11.out NEX.out)
    have HOL_12 := Aside0.mk (R_mov HOL_11.out HE11.out (by decide) hm)
    have HE12 := Aside0.mk he
    clear hm he
    have hc13_X := blk_cell HBX_12.out
    have hf13_X := blk_frozen HBX_12.out
    clear hc10_X hf10_X
    have HOL_14 := Aside0.mk (R_far2 HOL_12.out 2 (.string x12))
    have HE14 := Aside0.mk (show EyeR (w12.setCell ⟨wo3.heap.size, 2, none⟩ (.string x12)) g A xs.length c s12 from blk_far HE12.out (p := ⟨wo3.heap.size, 2, none⟩) NEX.out.symm (.string x12))
    have HM14 := Aside0.mk (HM12.out.set_ (p := ⟨wo3.heap.size, 2, none⟩) (.inr LEX.out) (.string x12))
    have HBX_14 := Aside0.mk (show (w12.setCell ⟨wo3.heap.size, 2, none⟩ (.string x12)).heap[wo3.heap.size]? = some (Obj.cells #[.int .i64 x6, .string x9, .string x12, .int .i64 (-1), .int .i64 0] 78 (0, 0)) from blk_set HBX_12.out 2 (.string x12))
    obtain ⟨⟨x15, s15⟩, hi⟩ : ∃ p, eN xs s12 = p := ⟨_, rfl⟩
    have hl15 := (eN_ok HD.out.bytes hl12 hi).1
    have HI15 := Aside0.mk hi
    clear hi
    go_wp2_with fail
    refine (enum w0 _ g A c xs s12 s15 x15 HI15.out HD.out hl12 (HM14.out.above HB.out (fun k hk => by omega)) hg HE14.out).mono ?_
    rintro e w15 ⟨rfl, hm, he⟩
    have HM15 := Aside0.mk (HM14.out.trans hm (fun _ _ h => h))
    have HBX_15 := Aside0.mk (hm.blk HBX_14.out NEX.out)
    have HOL_15 := Aside0.mk (R_mov HOL_14.out HE14.out (by decide) hm)
    have HE15 := Aside0.mk he
    clear hm he
    have hc16_X := blk_cell HBX_15.out
    have hf16_X := blk_frozen HBX_15.out
    clear hc13_X hf13_X
    by_cases hv : x15 ≠ 0
    · have hvd : (x15 != 0) = true := by simp [hv]
      have HV := Aside0.mk hv
      clear hv
      obtain ⟨⟨x17, s17⟩, hi⟩ : ∃ p, eN xs s15 = p := ⟨_, rfl⟩
      have hl17 := (eN_ok HD.out.bytes hl15 hi).1
      have HI17 := Aside0.mk hi
      clear hi
      go_wp2_with fail
      refine (enum w0 _ g A c xs s15 s17 x17 HI17.out HD.out hl15 (HM15.out.above HB.out (fun k hk => by omega)) hg HE15.out).mono ?_
      rintro e w17 ⟨rfl, hm, he⟩
      have HM17 := Aside0.mk (HM15.out.trans hm (fun _ _ h => h))
      have HBX_17 := Aside0.mk (hm.blk HBX_15.out NEX.out)
      have HOL_17 := Aside0.mk (R_mov HOL_15.out HE15.out (by decide) hm)
      have HE17 := Aside0.mk he
      clear hm he
      have hc18_X := blk_cell HBX_17.out
      have hf18_X := blk_frozen HBX_17.out
      clear hc16_X hf16_X
      have HOL_19 := Aside0.mk (R_far2 HOL_17.out 3 (.int .i64 x17))
      have HE19 := Aside0.mk (show EyeR (w17.setCell ⟨wo3.heap.size, 3, none⟩ (.int .i64 x17)) g A xs.length c s17 from blk_far HE17.out (p := ⟨wo3.heap.size, 3, none⟩) NEX.out.symm (.int .i64 x17))
      have HM19 := Aside0.mk (HM17.out.set_ (p := ⟨wo3.heap.size, 3, none⟩) (.inr LEX.out) (.int .i64 x17))
      have HBX_19 := Aside0.mk (show (w17.setCell ⟨wo3.heap.size, 3, none⟩ (.int .i64 x17)).heap[wo3.heap.size]? = some (Obj.cells #[.int .i64 x6, .string x9, .string x12, .int .i64 x17, .int .i64 0] 78 (0, 0)) from blk_set HBX_17.out 3 (.int .i64 x17))
      obtain ⟨⟨x20, s20⟩, hi⟩ : ∃ p, eN xs s17 = p := ⟨_, rfl⟩
      have hl20 := (eN_ok HD.out.bytes hl17 hi).1
      have HI20 := Aside0.mk hi
      clear hi
      go_wp2_with fail
      refine (enum w0 _ g A c xs s17 s20 x20 HI20.out HD.out hl17 (HM19.out.above HB.out (fun k hk => by omega)) hg HE19.out).mono ?_
      rintro e w20 ⟨rfl, hm, he⟩
      have HM20 := Aside0.mk (HM19.out.trans hm (fun _ _ h => h))
      have HBX_20 := Aside0.mk (hm.blk HBX_19.out NEX.out)
      have HOL_20 := Aside0.mk (R_mov HOL_19.out HE19.out (by decide) hm)
      have HE20 := Aside0.mk he
      clear hm he
      have hc21_X := blk_cell HBX_20.out
      have hf21_X := blk_frozen HBX_20.out
      clear hc18_X hf18_X
      have HOL_22 := Aside0.mk (R_far2 HOL_20.out 4 (.int .i64 x20))
      have HE22 := Aside0.mk (show EyeR (w20.setCell ⟨wo3.heap.size, 4, none⟩ (.int .i64 x20)) g A xs.length c s20 from blk_far HE20.out (p := ⟨wo3.heap.size, 4, none⟩) NEX.out.symm (.int .i64 x20))
      have HM22 := Aside0.mk (HM20.out.set_ (p := ⟨wo3.heap.size, 4, none⟩) (.inr LEX.out) (.int .i64 x20))
      have HBX_22 := Aside0.mk (show (w20.setCell ⟨wo3.heap.size, 4, none⟩ (.int .i64 x20)).heap[wo3.heap.size]? = some (Obj.cells #[.int .i64 x6, .string x9, .string x12, .int .i64 x17, .int .i64 x20] 78 (0, 0)) from blk_set HBX_20.out 4 (.int .i64 x20))
      go_wp2_with ((with_reducible refine gate_builtin (b := .append) (xs := #[.tmp 40, .tmp 42]) rfl ?_); at_builtin; refine Kd.R_append k78 (w0 := (w20.setCell ⟨wo3.heap.size, 4, none⟩ (.int .i64 x20))) W.heap.size rfl (.tmp 40) (.tmp 42) 25 78 _ 56 rfl Tryz.underlying25 infoOp rfl (by decide) (by omega) (.slice A3 l3.length c3) l3 ((⟨x6, x9, x12, x17, x20⟩ : S78)) [.int .i64 x6, .string x9, .string x12, .int .i64 x17, .int .i64 x20] (fun _ => True) (fun k => some k ≠ (Value.ownBlock (.slice A3 l3.length c3))) rfl (by first | rfl | simp [Act.eval]) (M_apart (show k78.M _ W.heap.size (fun _ => True) ((⟨x6, x9, x12, x17, x20⟩ : S78)) [.int .i64 x6, .string x9, .string x12, .int .i64 x17, .int .i64 x20] from k78_mkM _ _ _ _ ) HOL_22.out (by decide)) (fun _ hk => ⟨trivial, hk⟩) (fun _ _ => trivial) (Kd.R_mono HOL_22.out (fun _ _ => trivial)) (Below.refl _ _) HM22.out.size (by first | omega | (simp only [List.length_append, List.length_singleton]; omega)) ?_; intro v23 w23 ho hb2 hg2 hat2; have HE23 := Aside0.mk (show EyeR w23 g A xs.length c s20 from blk_grown HE22.out hg2 (Kd.R_ne HOL_22.out HE22.out (by decide))); have HM23 := Aside0.mk (grew HM22.out HOL_22.out hg2); obtain ⟨A23, c23, rfl⟩ := Kd.R_slice ho; rw [show (l3 ++ [(⟨x6, x9, x12, x17, x20⟩ : S78)]).length = l3.length + 1 by simp] at ho; have HOL_23 := Aside0.mk ho; clear ho hb2 hg2 hat2 hc21_X hf21_X)
      have HR3 := Aside0.mk (show (eOp xs) s3 = (⟨x6, x9, x12, x17, x20⟩, s20) by simp only [eOp, eVer_yes HV.out, HI6.out, HI9.out, HI12.out, HI15.out, HI17.out, HI20.out])
      go_wp2_with fail
      go_roundw
      case rel => exact ⟨k3 + 1, _, _, by go_num, by omega, by simp only [List.length_append, List.length_singleton]; omega, hl20, HOL_23, HE23, HM23, ⟨HQ3.out.trans (by rw [show m1 - k3 = (m1 - (k3 + 1)) + 1 by omega]; exact rep_step HBF3.out HR3.out)⟩⟩
      case measure => simp [intOf]; omega
    · have hvd : (x15 != 0) = false := by simpa using hv
      have HV := Aside0.mk hv
      clear hv
      obtain ⟨⟨x25, s25⟩, hi⟩ : ∃ p, eN xs s15 = p := ⟨_, rfl⟩
      have hl25 := (eN_ok HD.out.bytes hl15 hi).1
      have HI25 := Aside0.mk hi
      clear hi
      go_wp2_with fail
      refine (enum w0 _ g A c xs s15 s25 x25 HI25.out HD.out hl15 (HM15.out.above HB.out (fun k hk => by omega)) hg HE15.out).mono ?_
      rintro e w25 ⟨rfl, hm, he⟩
      have HM25 := Aside0.mk (HM15.out.trans hm (fun _ _ h => h))
      have HBX_25 := Aside0.mk (hm.blk HBX_15.out NEX.out)
      have HOL_25 := Aside0.mk (R_mov HOL_15.out HE15.out (by decide) hm)
      have HE25 := Aside0.mk he
      clear hm he
      have hc26_X := blk_cell HBX_25.out
      have hf26_X := blk_frozen HBX_25.out
      clear hc16_X hf16_X
      have HOL_27 := Aside0.mk (R_far2 HOL_25.out 4 (.int .i64 x25))
      have HE27 := Aside0.mk (show EyeR (w25.setCell ⟨wo3.heap.size, 4, none⟩ (.int .i64 x25)) g A xs.length c s25 from blk_far HE25.out (p := ⟨wo3.heap.size, 4, none⟩) NEX.out.symm (.int .i64 x25))
      have HM27 := Aside0.mk (HM25.out.set_ (p := ⟨wo3.heap.size, 4, none⟩) (.inr LEX.out) (.int .i64 x25))
      have HBX_27 := Aside0.mk (show (w25.setCell ⟨wo3.heap.size, 4, none⟩ (.int .i64 x25)).heap[wo3.heap.size]? = some (Obj.cells #[.int .i64 x6, .string x9, .string x12, .int .i64 (-1), .int .i64 x25] 78 (0, 0)) from blk_set HBX_25.out 4 (.int .i64 x25))
      go_wp2_with ((with_reducible refine gate_builtin (b := .append) (xs := #[.tmp 40, .tmp 42]) rfl ?_); at_builtin; refine Kd.R_append k78 (w0 := (w25.setCell ⟨wo3.heap.size, 4, none⟩ (.int .i64 x25))) W.heap.size rfl (.tmp 40) (.tmp 42) 25 78 _ 56 rfl Tryz.underlying25 infoOp rfl (by decide) (by omega) (.slice A3 l3.length c3) l3 ((⟨x6, x9, x12, -1, x25⟩ : S78)) [.int .i64 x6, .string x9, .string x12, .int .i64 (-1), .int .i64 x25] (fun _ => True) (fun k => some k ≠ (Value.ownBlock (.slice A3 l3.length c3))) rfl (by first | rfl | simp [Act.eval]) (M_apart (show k78.M _ W.heap.size (fun _ => True) ((⟨x6, x9, x12, -1, x25⟩ : S78)) [.int .i64 x6, .string x9, .string x12, .int .i64 (-1), .int .i64 x25] from k78_mkM _ _ _ _ ) HOL_27.out (by decide)) (fun _ hk => ⟨trivial, hk⟩) (fun _ _ => trivial) (Kd.R_mono HOL_27.out (fun _ _ => trivial)) (Below.refl _ _) HM27.out.size (by first | omega | (simp only [List.length_append, List.length_singleton]; omega)) ?_; intro v28 w28 ho hb2 hg2 hat2; have HE28 := Aside0.mk (show EyeR w28 g A xs.length c s25 from blk_grown HE27.out hg2 (Kd.R_ne HOL_27.out HE27.out (by decide))); have HM28 := Aside0.mk (grew HM27.out HOL_27.out hg2); obtain ⟨A28, c28, rfl⟩ := Kd.R_slice ho; rw [show (l3 ++ [(⟨x6, x9, x12, -1, x25⟩ : S78)]).length = l3.length + 1 by simp] at ho; have HOL_28 := Aside0.mk ho; clear ho hb2 hg2 hat2 hc26_X hf26_X)
      have HR3 := Aside0.mk (show (eOp xs) s3 = (⟨x6, x9, x12, -1, x25⟩, s25) by simp only [eOp, eVer_no HV.out, HI6.out, HI9.out, HI12.out, HI15.out, HI25.out])
      go_wp2_with fail
      go_roundw
      case rel => exact ⟨k3 + 1, _, _, by go_num, by omega, by simp only [List.length_append, List.length_singleton]; omega, hl25, HOL_28, HE28, HM28, ⟨HQ3.out.trans (by rw [show m1 - k3 = (m1 - (k3 + 1)) + 1 by omega]; exact rep_step HBF3.out HR3.out)⟩⟩
      case measure => simp [intOf]; omega
  · have HS3 := Aside0.mk (show eRep (eOp xs) m1 s1 = (l3, s3) from HQ3.out.trans (rep_stop ((Nat.lt_or_ge k3 m1).elim (fun h => .inr (by cases hb : s3.2 with | true => rfl | false => exact absurd ⟨h, hb⟩ hgo3)) (fun h => .inl (by omega)))))
    by_cases hlt3 : k3 < m1
    · have hbt3 : s3.2 = true := by cases hb : s3.2 with | true => rfl | false => exact absurd ⟨hlt3, hb⟩ hgo3
      rw [hbt3] at hcb3
      clear hbt3 hgo3
      go_wp2_with fail
      go_ret
      have HRR := (HI.out.symm.trans (show eOps xs s0 = (l3, s3) by simp only [eOps, HI1.out, HS3.out, Int.toNat_natCast]))
      simp only [Prod.mk.injEq] at HRR
      obtain ⟨rfl, rfl⟩ := HRR
      exact ⟨_, rfl, HOL3.out, HM3.out, HE3.out⟩
    · clear hgo3 hcb3
      go_wp2_with fail
      go_ret
      have HRR := (HI.out.symm.trans (show eOps xs s0 = (l3, s3) by simp only [eOps, HI1.out, HS3.out, Int.toNat_natCast]))
      simp only [Prod.mk.injEq] at HRR
      obtain ⟨rfl, rfl⟩ := HRR
      exact ⟨_, rfl, HOL3.out, HM3.out, HE3.out⟩
end Go.Proofs.YtmneemhplffemaaGreatDoorRR.Eye
