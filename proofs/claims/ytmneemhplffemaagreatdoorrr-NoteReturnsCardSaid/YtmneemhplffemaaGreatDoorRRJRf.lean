/- NoteReturns: a note that may be is written and read again as just that note; one that may not be is not written. No condition beyond the row's own. -/
import Derived.ArgAppend
import Derived.Below
import Derived.BigQuiet
import Derived.ChangeOld
import Derived.ChangeSlices
import Derived.Deep.AppendLies
import Derived.Deep.CutBlock
import Derived.Deep.DeepCutAuto
import Derived.Deep.DeepHandedRow
import Derived.Deep.Draws
import Derived.Deep.LoopGhost
import Derived.Deep.OwnRows
import Derived.Deep.QuietTactic
import Derived.Deep.RegionHeld3
import Derived.Deep.RegionLaw
import Derived.Deep.RegionLawGrows
import Derived.Deep.Slices
import Derived.Deep.WholeRow
import Derived.Defers
import Derived.HandedShaped
import Derived.KernelRfl
import Derived.Laws.BitsLemmas
import Derived.Laws.BytesArg
import Derived.Laws.EntriesVeiled
import Derived.Laws.IdiomCopy
import Derived.Laws.MakeOwn
import Derived.Laws.OwnMore
import Derived.Laws.Rows
import Derived.Laws.Slices
import Derived.Laws.StructEq
import Derived.Laws.Tables
import Derived.Lib.AppendStr
import Derived.Lib.ConvBytes
import Derived.Lib.Hide
import Derived.Lib.Join
import Derived.Lib.LaidTab
import Derived.Lib.SplitLaws
import Derived.LoopTactic
import Derived.Maps.AppendAt
import Derived.OpenShut
import Derived.OrdersHeld
import Derived.Outline
import Derived.OwnWalk
import Derived.ProofKit
import Derived.Recover
import Derived.RowKit
import Derived.RowKit3
import Derived.Shelf.LaysM
import Derived.Shelf.Strings.Count
import Derived.Shelf.Strings.Explode
import Derived.Shelf.Strings.Prefix
import Derived.Shelf.Strings.RuneCount
import Derived.Shelf.Strings.Search1
import Derived.Shelf.Strings.Search2
import Derived.Shelf.Strings.Search3
import Derived.Shelf.Strings.Shaped
import Derived.Shelf.Strings.Split
import Derived.Shelf.Strings.SplitShaped
import Derived.Shelf.Unicode.Decode
import Derived.Shelf.Unicode.DecodeSlow
import Derived.Shelf.Utf8.RuneCount
import Derived.Shelf.Vars
import Derived.ShutString
import Derived.SizedLaws
import Derived.StillTailTactics
import Derived.Tactics
import Derived.Test.YtmneemhplffemaaGreatDoorRRCards
import Derived.Test.YtmneemhplffemaaGreatDoorRRProg
import Derived.Test.YtmneemhplffemaaGreatDoorRRTie
import Derived.WalkKit
import Derived.WalkLawsBesides
import Derived.WideLaws
import Derived.Test.YtmneemhplffemaaGreatDoorRRJRe
set_option linter.unusedVariables false
set_option linter.unusedSimpArgs false
namespace Go.Proofs.YtmneemhplffemaaGreatDoorRR.Same
open Go.RowKit Go.Proofs.YtmneemhplffemaaGreatDoorRR.Ext Go.Proofs.YtmneemhplffemaaGreatDoorRR.Mem Go.Proofs.YtmneemhplffemaaGreatDoorRR.Row Go.Proofs.YtmneemhplffemaaGreatDoorRR.Ki Go.Proofs.YtmneemhplffemaaGreatDoorRRW.PrintWords


theorem ext_Tagged {x y : S148} (h0 : x.f0 = y.f0) (h1 : x.f1 = y.f1) : x = y := by
 cases x; cases y
 simp_all
set_option maxRecDepth 100000 in
set_option maxHeartbeats 8000000 in
theorem c_sameTagged (w0 W : World) (x y : S148) (cs ds : List Value) (hx : k148.K w0 x cs) (hy : k148.K w0 y ds) (hb : Below w0.heap.size w0 W) (b : Bool) (h : b = true ↔ x = y) :
   Calls Tryz.prog 100 #[.agg cs.toArray, .agg ds.toArray] W fun e W' => e = .returned (.bool b) ∧ Below W.heap.size W W' := by
 have HH := Aside0.mk h
 have H0 := Aside0.mk hb
 obtain ⟨A4, c4, rfl, l4, g4⟩ := k148_open hx
 obtain ⟨B4, d4, rfl, m4, e4⟩ := k148_open hy
 have GA4 := Aside0.mk g4
 have GB4 := Aside0.mk e4
 have hm4 : x.f1.length ≤ 9223372036854775807 := g4.2.1
 have hn4 : y.f1.length ≤ 9223372036854775807 := e4.2.1
 clear g4 e4
 clear h hb
 go_enter Tryz.func100, Tryz.ntmps100
 go_upto_region 1 with (first | ((with_reducible refine gate_box (t := 148) rfl ?_); refine box_row rfl rfl rfl ?_; intro g2 hg2 w2 hx2 hb2; have HX2 := Aside0.mk hx2; replace HX1 := Aside0.mk (blk_below hb2 HX1.out); have HW := Aside0.mk (below_step HB1.out hb2); have HA := Aside0.mk (below_step H0.out HW.out); have p_0 : w2.cell? ⟨g1, 0, none⟩ = some (.int .i64 x.f0.f0) := blk_cell HX1.out 0; have p_1 : w2.cell? ⟨g1, 1, none⟩ = some (.string x.f0.f1) := blk_cell HX1.out 1; have p_2 : w2.cell? ⟨g1, 2, none⟩ = some (.string x.f0.f2) := blk_cell HX1.out 2; have p_3 : w2.cell? ⟨g1, 3, none⟩ = some (.int .i64 x.f0.f3) := blk_cell HX1.out 3; have p_4 : w2.cell? ⟨g1, 4, none⟩ = some (.slice A4 x.f1.length c4) := blk_cell HX1.out 4; have q_0 : w2.cell? ⟨g2, 0, none⟩ = some (.int .i64 y.f0.f0) := blk_cell HX2.out 0; have q_1 : w2.cell? ⟨g2, 1, none⟩ = some (.string y.f0.f1) := blk_cell HX2.out 1; have q_2 : w2.cell? ⟨g2, 2, none⟩ = some (.string y.f0.f2) := blk_cell HX2.out 2; have q_3 : w2.cell? ⟨g2, 3, none⟩ = some (.int .i64 y.f0.f3) := blk_cell HX2.out 3; have q_4 : w2.cell? ⟨g2, 4, none⟩ = some (.slice B4 y.f1.length d4) := blk_cell HX2.out 4; clear hx2 hb2 hg2) | ((with_reducible refine gate_box (t := 148) rfl ?_); refine box_row rfl rfl rfl ?_; intro g1 hg1 w1 hx1 hb1; have HX1 := Aside0.mk hx1; have HB1 := Aside0.mk hb1; clear hx1 hb1 hg1))
 obtain ⟨z1, z1q⟩ := some_bool (x.f0 = y.f0)
 cases z1 with
 | false =>
   have z1m : ¬ (x.f0 = y.f0) := fun he => by have h4 := z1q.2 he; cases h4
   have z1n := neq_Change x.f0 y.f0 z1q
   go_wp2_with fail
   go_ret
   exact ⟨by rw [false_of HH.out (fun he => z1m (by rw [he]))]; rfl, HW.out⟩
 | true =>
   have z1n := neq_Change x.f0 y.f0 z1q
   have z1m := Aside0.mk (z1q.1 rfl)
   clear z1q
   cases z2 : ((x.f1.length : Int) == (y.f1.length : Int)) with
   | false =>
     have z2n : ((x.f1.length : Int) != (y.f1.length : Int)) = true := by rw [bne, z2]; rfl
     go_wp2_with fail
     go_ret
     exact ⟨by rw [false_of HH.out (fun he => by subst he; simp at z2)]; rfl, HW.out⟩
   | true =>
     have z2n : ((x.f1.length : Int) != (y.f1.length : Int)) = false := by rw [bne, z2]; rfl
     have HEQ := Aside0.mk z1m.out
     have HL := Aside0.mk (Int.ofNat.inj (eq_of_beq z2))
     go_wp2_with fail
     go_loopw [5] (fun v wr => ∃ k : Nat, v = .int .i64 k ∧ k ≤ x.f1.length ∧ Aside0 (∀ j, j < k → x.f1[j]? = y.f1[j]?) ∧ Aside0 (Below W.heap.size W wr) ∧ Aside0 (wr.heap[g1]? = some (.cells #[.int .i64 x.f0.f0, .string x.f0.f1, .string x.f0.f2, .int .i64 x.f0.f3, .slice A4 x.f1.length c4] 148 (0, 0))) ∧ Aside0 (wr.heap[g2]? = some (.cells #[.int .i64 y.f0.f0, .string y.f0.f1, .string y.f0.f2, .int .i64 y.f0.f3, .slice B4 y.f1.length d4] 148 (0, 0)))) (fun v _ => x.f1.length - (intOf v).toNat)
     case atStart => exact ⟨0, rfl, Nat.zero_le _, ⟨fun j hj => by omega⟩, HW, HX1, HX2⟩
     case round =>
      clear HW HX1 HX2 HA p_0 q_0 p_1 q_1 p_2 q_2 p_3 q_3 p_4 q_4
      obtain ⟨k, rfl, hk, HS, HW, HX1, HX2⟩ := hrel
      have HA := Aside0.mk (below_step H0.out HW.out)
      have p_0 : wr.cell? ⟨g1, 0, none⟩ = some (.int .i64 x.f0.f0) := blk_cell HX1.out 0
      have p_1 : wr.cell? ⟨g1, 1, none⟩ = some (.string x.f0.f1) := blk_cell HX1.out 1
      have p_2 : wr.cell? ⟨g1, 2, none⟩ = some (.string x.f0.f2) := blk_cell HX1.out 2
      have p_3 : wr.cell? ⟨g1, 3, none⟩ = some (.int .i64 x.f0.f3) := blk_cell HX1.out 3
      have p_4 : wr.cell? ⟨g1, 4, none⟩ = some (.slice A4 x.f1.length c4) := blk_cell HX1.out 4
      have q_0 : wr.cell? ⟨g2, 0, none⟩ = some (.int .i64 y.f0.f0) := blk_cell HX2.out 0
      have q_1 : wr.cell? ⟨g2, 1, none⟩ = some (.string y.f0.f1) := blk_cell HX2.out 1
      have q_2 : wr.cell? ⟨g2, 2, none⟩ = some (.string y.f0.f2) := blk_cell HX2.out 2
      have q_3 : wr.cell? ⟨g2, 3, none⟩ = some (.int .i64 y.f0.f3) := blk_cell HX2.out 3
      have q_4 : wr.cell? ⟨g2, 4, none⟩ = some (.slice B4 y.f1.length d4) := blk_cell HX2.out 4
      have hl2 := HL.out
      by_cases hlt : k < x.f1.length
      · obtain ⟨u, hu⟩ : ∃ u, x.f1[k]? = some u := ⟨_, List.getElem?_eq_getElem hlt⟩
        obtain ⟨v, hv⟩ : ∃ v, y.f1[k]? = some v := ⟨_, List.getElem?_eq_getElem (by omega)⟩
        obtain ⟨ad, rfl, a_0⟩ := Kd.at_int GA4.out (k : Int) (by omega) (by omega)
        obtain ⟨bd, rfl, b_0⟩ := Kd.at_int GB4.out (k : Int) (by omega) (by omega)
        rw [show rd x.f1 (k : Int) = u by unfold rd; rw [Int.toNat_natCast, List.getD_eq_getElem?_getD, hu]; rfl, Int.toNat_natCast] at a_0
        rw [show rd y.f1 (k : Int) = v by unfold rd; rw [Int.toNat_natCast, List.getD_eq_getElem?_getD, hv]; rfl, Int.toNat_natCast] at b_0
        replace a_0 := pw_cell_below HA.out a_0
        replace b_0 := pw_cell_below HA.out b_0
        have HU := Aside0.mk hu
        have HV := Aside0.mk hv
        have hky : k < y.f1.length := by omega
        clear hu hv hl2
        cases h1 : (u == v) with
        | true =>
          have h2 : (u != v) = false := by simp [bne, h1]
          have HE := Aside0.mk (eq_of_beq h1)
          go_wp2_with (go_quiet (fail))
          go_roundw
          case rel => exact ⟨k + 1, by go_num, by omega, ⟨row_upto HS.out HU.out HV.out HE.out⟩, ⟨drewn_ HW.out nq⟩, HX1, HX2⟩
          case measure => simp [intOf]; omega
        | false =>
          have h2 : (u != v) = true := by simp [bne, h1]
          have HE := Aside0.mk (false_of HH.out (fun he => by subst he; have h3 := HU.out.symm.trans HV.out; rw [Option.some.inj h3] at h1; simp at h1))
          go_wp2_with (go_quiet (fail))
          go_ret
          exact ⟨by rw [HE.out]; rfl, drewn_ HW.out nq⟩
      · go_wp2_with fail
        go_ret
        exact ⟨by rw [true_of HH.out (ext_Tagged HEQ.out (row_all HS.out HL.out (by omega)))]; rfl, HW.out⟩
theorem ext_Entry {x y : S55} (h0 : x.f0 = y.f0) (h1 : x.f1 = y.f1) (h2 : x.f2 = y.f2) (h3 : x.f3 = y.f3) (h4 : x.f4 = y.f4) (h5 : x.f5 = y.f5) : x = y := by
 cases x; cases y
 simp_all
set_option maxRecDepth 100000 in
set_option maxHeartbeats 8000000 in
theorem c_sameEntry (w0 W : World) (x y : S55) (cs ds : List Value) (hx : k55.K w0 x cs) (hy : k55.K w0 y ds) (hb : Below w0.heap.size w0 W) (b : Bool) (h : b = true ↔ x = y) :
   Calls Tryz.prog 30 #[.agg cs.toArray, .agg ds.toArray] W fun e W' => e = .returned (.bool b) ∧ Below W.heap.size W W' := by
 have HH := Aside0.mk h
 have H0 := Aside0.mk hb
 obtain ⟨A5, c5, rfl, l5, g5⟩ := k55_open hx
 obtain ⟨B5, d5, rfl, m5, e5⟩ := k55_open hy
 have GA5 := Aside0.mk g5
 have GB5 := Aside0.mk e5
 have hm5 : x.f5.length ≤ 9223372036854775807 := g5.2.1
 have hn5 : y.f5.length ≤ 9223372036854775807 := e5.2.1
 clear g5 e5
 clear h hb
 go_enter Tryz.func30, Tryz.ntmps30
 go_upto_region 1 with (first | ((with_reducible refine gate_box (t := 55) rfl ?_); refine box_row rfl rfl rfl ?_; intro g2 hg2 w2 hx2 hb2; have HX2 := Aside0.mk hx2; replace HX1 := Aside0.mk (blk_below hb2 HX1.out); have HW := Aside0.mk (below_step HB1.out hb2); have HA := Aside0.mk (below_step H0.out HW.out); have p_0 : w2.cell? ⟨g1, 0, none⟩ = some (.int .i64 x.f0) := blk_cell HX1.out 0; have p_1 : w2.cell? ⟨g1, 1, none⟩ = some (.int .i64 x.f1) := blk_cell HX1.out 1; have p_2 : w2.cell? ⟨g1, 2, none⟩ = some (.int .i64 x.f2) := blk_cell HX1.out 2; have p_3 : w2.cell? ⟨g1, 3, none⟩ = some (.int .i64 x.f3) := blk_cell HX1.out 3; have p_4 : w2.cell? ⟨g1, 4, none⟩ = some (.int .i64 x.f4) := blk_cell HX1.out 4; have p_5 : w2.cell? ⟨g1, 5, none⟩ = some (.slice A5 x.f5.length c5) := blk_cell HX1.out 5; have q_0 : w2.cell? ⟨g2, 0, none⟩ = some (.int .i64 y.f0) := blk_cell HX2.out 0; have q_1 : w2.cell? ⟨g2, 1, none⟩ = some (.int .i64 y.f1) := blk_cell HX2.out 1; have q_2 : w2.cell? ⟨g2, 2, none⟩ = some (.int .i64 y.f2) := blk_cell HX2.out 2; have q_3 : w2.cell? ⟨g2, 3, none⟩ = some (.int .i64 y.f3) := blk_cell HX2.out 3; have q_4 : w2.cell? ⟨g2, 4, none⟩ = some (.int .i64 y.f4) := blk_cell HX2.out 4; have q_5 : w2.cell? ⟨g2, 5, none⟩ = some (.slice B5 y.f5.length d5) := blk_cell HX2.out 5; clear hx2 hb2 hg2) | ((with_reducible refine gate_box (t := 55) rfl ?_); refine box_row rfl rfl rfl ?_; intro g1 hg1 w1 hx1 hb1; have HX1 := Aside0.mk hx1; have HB1 := Aside0.mk hb1; clear hx1 hb1 hg1))
 cases z1 : (x.f0 == y.f0) with
 | false =>
   have z1n : (x.f0 != y.f0) = true := by rw [bne, z1]; rfl
   go_wp2_with fail
   go_ret
   exact ⟨by rw [false_of HH.out (fun he => by subst he; simp at z1)]; rfl, HW.out⟩
 | true =>
   have z1n : (x.f0 != y.f0) = false := by rw [bne, z1]; rfl
   cases z2 : (x.f1 == y.f1) with
   | false =>
     have z2n : (x.f1 != y.f1) = true := by rw [bne, z2]; rfl
     go_wp2_with fail
     go_ret
     exact ⟨by rw [false_of HH.out (fun he => by subst he; simp at z2)]; rfl, HW.out⟩
   | true =>
     have z2n : (x.f1 != y.f1) = false := by rw [bne, z2]; rfl
     cases z3 : (x.f2 == y.f2) with
     | false =>
       have z3n : (x.f2 != y.f2) = true := by rw [bne, z3]; rfl
       go_wp2_with fail
       go_ret
       exact ⟨by rw [false_of HH.out (fun he => by subst he; simp at z3)]; rfl, HW.out⟩
     | true =>
       have z3n : (x.f2 != y.f2) = false := by rw [bne, z3]; rfl
       cases z4 : (x.f3 == y.f3) with
       | false =>
         have z4n : (x.f3 != y.f3) = true := by rw [bne, z4]; rfl
         go_wp2_with fail
         go_ret
         exact ⟨by rw [false_of HH.out (fun he => by subst he; simp at z4)]; rfl, HW.out⟩
       | true =>
         have z4n : (x.f3 != y.f3) = false := by rw [bne, z4]; rfl
         cases z5 : (x.f4 == y.f4) with
         | false =>
           have z5n : (x.f4 != y.f4) = true := by rw [bne, z5]; rfl
           go_wp2_with fail
           go_ret
           exact ⟨by rw [false_of HH.out (fun he => by subst he; simp at z5)]; rfl, HW.out⟩
         | true =>
           have z5n : (x.f4 != y.f4) = false := by rw [bne, z5]; rfl
           obtain ⟨z6, z6q⟩ := some_bool (x.f5 = y.f5)
           cases z6 with
           | false =>
             have z6m : ¬ (x.f5 = y.f5) := fun he => by have h4 := z6q.2 he; cases h4
             have z6A := Aside0.mk z6m
             clear z6q
             go_wp2_with (go_at_call 55; (with_reducible refine (c_sameOps w0 _ _ _ _ _ _ _ GA5.out GB5.out HA.out false (iff_f z6A.out)).mono ?_); rintro e w3 ⟨rfl, hb3⟩; replace HX1 := Aside0.mk (blk_below hb3 HX1.out); replace HX2 := Aside0.mk (blk_below hb3 HX2.out); replace HW := Aside0.mk (below_step HW.out hb3); replace HA := Aside0.mk (below_step HA.out hb3); replace p_0 := pw_cell_below hb3 p_0; replace q_0 := pw_cell_below hb3 q_0; replace p_1 := pw_cell_below hb3 p_1; replace q_1 := pw_cell_below hb3 q_1; replace p_2 := pw_cell_below hb3 p_2; replace q_2 := pw_cell_below hb3 q_2; replace p_3 := pw_cell_below hb3 p_3; replace q_3 := pw_cell_below hb3 q_3; replace p_4 := pw_cell_below hb3 p_4; replace q_4 := pw_cell_below hb3 q_4; replace p_5 := pw_cell_below hb3 p_5; replace q_5 := pw_cell_below hb3 q_5; clear hb3)
             go_ret
             exact ⟨by rw [false_of HH.out (fun he => z6A.out (by rw [he]))]; rfl, HW.out⟩
           | true =>
             have z6m := Aside0.mk (z6q.1 rfl)
             clear z6q
             go_wp2_with (go_at_call 55; (with_reducible refine (c_sameOps w0 _ _ _ _ _ _ _ GA5.out GB5.out HA.out true (iff_t z6m.out)).mono ?_); rintro e w3 ⟨rfl, hb3⟩; replace HX1 := Aside0.mk (blk_below hb3 HX1.out); replace HX2 := Aside0.mk (blk_below hb3 HX2.out); replace HW := Aside0.mk (below_step HW.out hb3); replace HA := Aside0.mk (below_step HA.out hb3); replace p_0 := pw_cell_below hb3 p_0; replace q_0 := pw_cell_below hb3 q_0; replace p_1 := pw_cell_below hb3 p_1; replace q_1 := pw_cell_below hb3 q_1; replace p_2 := pw_cell_below hb3 p_2; replace q_2 := pw_cell_below hb3 q_2; replace p_3 := pw_cell_below hb3 p_3; replace q_3 := pw_cell_below hb3 q_3; replace p_4 := pw_cell_below hb3 p_4; replace q_4 := pw_cell_below hb3 q_4; replace p_5 := pw_cell_below hb3 p_5; replace q_5 := pw_cell_below hb3 q_5; clear hb3)
             go_ret
             exact ⟨by rw [true_of HH.out (ext_Entry (eq_of_beq z1) (eq_of_beq z2) (eq_of_beq z3) (eq_of_beq z4) (eq_of_beq z5) z6m.out)]; rfl, HW.out⟩
end Go.Proofs.YtmneemhplffemaaGreatDoorRR.Same
namespace Go.Proofs.YtmneemhplffemaaGreatDoorRR.Same
open Go.RowKit Go.Proofs.YtmneemhplffemaaGreatDoorRR.Ext Go.Proofs.YtmneemhplffemaaGreatDoorRR.Mem Go.Proofs.YtmneemhplffemaaGreatDoorRR.Row Go.Proofs.YtmneemhplffemaaGreatDoorRR.Ki Go.Proofs.YtmneemhplffemaaGreatDoorRRW.PrintWords


theorem Moved.above__ {w w1 : World} {o : Obj} {g : Nat} (h : Moved (w.alloc o) w1 (fun k => k = g)) (hg : w.heap.size ≤ g) : Below w.heap.size w w1 := h.above (below_alloc (Below.refl _ _) _) (fun k hk => by omega)
theorem ext_Reply {x y : S29} (h0 : x.f0 = y.f0) (h1 : x.f1 = y.f1) (h2 : x.f2 = y.f2) (h3 : x.f3 = y.f3) : x = y := by
 cases x; cases y
 simp_all
theorem ext_Result {x y : S81} (h0 : x.f0 = y.f0) (h1 : x.f1 = y.f1) (h2 : x.f2 = y.f2) (h3 : x.f3 = y.f3) (h4 : x.f4 = y.f4) (h5 : x.f5 = y.f5) (h6 : x.f6 = y.f6) : x = y := by
 cases x; cases y
 simp_all
theorem infoSResult : (Tryz.prog.info? 81).map (·.size) = some 7 := by kernel_rfl
set_option maxRecDepth 100000 in
set_option maxHeartbeats 8000000 in
theorem c_sameReply (w0 W : World) (x y : S29) (cs ds : List Value) (hx : k29.K w0 x cs) (hy : k29.K w0 y ds) (hb : Below w0.heap.size w0 W) (b : Bool) (h : b = true ↔ x = y) :
   Calls Tryz.prog 56 #[.agg cs.toArray, .agg ds.toArray] W fun e W' => e = .returned (.bool b) ∧ Below W.heap.size W W' := by
 have HH := Aside0.mk h
 have H0 := Aside0.mk hb
 obtain ⟨A3, c3, rfl, l3, g3⟩ := k29_open hx
 obtain ⟨B3, d3, rfl, m3, e3⟩ := k29_open hy
 have GA3 := Aside0.mk g3
 have GB3 := Aside0.mk e3
 have hm3 : x.f3.length ≤ 9223372036854775807 := g3.2.1
 have hn3 : y.f3.length ≤ 9223372036854775807 := e3.2.1
 clear g3 e3
 clear h hb
 go_enter Tryz.func56, Tryz.ntmps56
 go_upto_region 1 with (first | ((with_reducible refine gate_box (t := 29) rfl ?_); refine box_row rfl rfl rfl ?_; intro g2 hg2 w2 hx2 hb2; have HX2 := Aside0.mk hx2; replace HX1 := Aside0.mk (blk_below hb2 HX1.out); have HW := Aside0.mk (below_step HB1.out hb2); have HA := Aside0.mk (below_step H0.out HW.out); have p_0 : w2.cell? ⟨g1, 0, none⟩ = some (.int .i64 x.f0) := blk_cell HX1.out 0; have p_1 : w2.cell? ⟨g1, 1, none⟩ = some (.int .i64 x.f1) := blk_cell HX1.out 1; have p_2 : w2.cell? ⟨g1, 2, none⟩ = some (.int .i64 x.f2) := blk_cell HX1.out 2; have p_3 : w2.cell? ⟨g1, 3, none⟩ = some (.slice A3 x.f3.length c3) := blk_cell HX1.out 3; have q_0 : w2.cell? ⟨g2, 0, none⟩ = some (.int .i64 y.f0) := blk_cell HX2.out 0; have q_1 : w2.cell? ⟨g2, 1, none⟩ = some (.int .i64 y.f1) := blk_cell HX2.out 1; have q_2 : w2.cell? ⟨g2, 2, none⟩ = some (.int .i64 y.f2) := blk_cell HX2.out 2; have q_3 : w2.cell? ⟨g2, 3, none⟩ = some (.slice B3 y.f3.length d3) := blk_cell HX2.out 3; clear hx2 hb2 hg2) | ((with_reducible refine gate_box (t := 29) rfl ?_); refine box_row rfl rfl rfl ?_; intro g1 hg1 w1 hx1 hb1; have HX1 := Aside0.mk hx1; have HB1 := Aside0.mk hb1; clear hx1 hb1 hg1))
 cases z1 : (x.f0 == y.f0) with
 | false =>
   have z1n : (x.f0 != y.f0) = true := by rw [bne, z1]; rfl
   go_wp2_with fail
   go_ret
   exact ⟨by rw [false_of HH.out (fun he => by subst he; simp at z1)]; rfl, HW.out⟩
 | true =>
   have z1n : (x.f0 != y.f0) = false := by rw [bne, z1]; rfl
   cases z2 : (x.f1 == y.f1) with
   | false =>
     have z2n : (x.f1 != y.f1) = true := by rw [bne, z2]; rfl
     go_wp2_with fail
     go_ret
     exact ⟨by rw [false_of HH.out (fun he => by subst he; simp at z2)]; rfl, HW.out⟩
   | true =>
     have z2n : (x.f1 != y.f1) = false := by rw [bne, z2]; rfl
     cases z3 : (x.f2 == y.f2) with
     | false =>
       have z3n : (x.f2 != y.f2) = true := by rw [bne, z3]; rfl
       go_wp2_with fail
       go_ret
       exact ⟨by rw [false_of HH.out (fun he => by subst he; simp at z3)]; rfl, HW.out⟩
     | true =>
       have z3n : (x.f2 != y.f2) = false := by rw [bne, z3]; rfl
       cases z4 : ((x.f3.length : Int) == (y.f3.length : Int)) with
       | false =>
         have z4n : ((x.f3.length : Int) != (y.f3.length : Int)) = true := by rw [bne, z4]; rfl
         go_wp2_with fail
         go_ret
         exact ⟨by rw [false_of HH.out (fun he => by subst he; simp at z4)]; rfl, HW.out⟩
       | true =>
         have z4n : ((x.f3.length : Int) != (y.f3.length : Int)) = false := by rw [bne, z4]; rfl
         have HK0 := Aside0.mk (eq_of_beq z1)
         have HK1 := Aside0.mk (eq_of_beq z2)
         have HK2 := Aside0.mk (eq_of_beq z3)
         have HK3 := Aside0.mk (Int.ofNat.inj (eq_of_beq z4))
         go_wp2_with fail
         go_loopw [5] (fun v wr => ∃ k : Nat, v = .int .i64 k ∧ k ≤ x.f3.length ∧ Aside0 (∀ j, j < k → x.f3[j]? = y.f3[j]?) ∧ Aside0 (Below W.heap.size W wr) ∧ Aside0 (wr.heap[g1]? = some (.cells #[.int .i64 x.f0, .int .i64 x.f1, .int .i64 x.f2, .slice A3 x.f3.length c3] 29 (0, 0))) ∧ Aside0 (wr.heap[g2]? = some (.cells #[.int .i64 y.f0, .int .i64 y.f1, .int .i64 y.f2, .slice B3 y.f3.length d3] 29 (0, 0)))) (fun v _ => x.f3.length - (intOf v).toNat)
         case atStart => exact ⟨0, rfl, Nat.zero_le _, ⟨fun j hj => by omega⟩, HW, HX1, HX2⟩
         case round =>
          clear HW HX1 HX2 HA p_0 q_0 p_1 q_1 p_2 q_2 p_3 q_3
          obtain ⟨k, rfl, hk, HS, HW, HX1, HX2⟩ := hrel
          have HA := Aside0.mk (below_step H0.out HW.out)
          have p_0 : wr.cell? ⟨g1, 0, none⟩ = some (.int .i64 x.f0) := blk_cell HX1.out 0
          have p_1 : wr.cell? ⟨g1, 1, none⟩ = some (.int .i64 x.f1) := blk_cell HX1.out 1
          have p_2 : wr.cell? ⟨g1, 2, none⟩ = some (.int .i64 x.f2) := blk_cell HX1.out 2
          have p_3 : wr.cell? ⟨g1, 3, none⟩ = some (.slice A3 x.f3.length c3) := blk_cell HX1.out 3
          have q_0 : wr.cell? ⟨g2, 0, none⟩ = some (.int .i64 y.f0) := blk_cell HX2.out 0
          have q_1 : wr.cell? ⟨g2, 1, none⟩ = some (.int .i64 y.f1) := blk_cell HX2.out 1
          have q_2 : wr.cell? ⟨g2, 2, none⟩ = some (.int .i64 y.f2) := blk_cell HX2.out 2
          have q_3 : wr.cell? ⟨g2, 3, none⟩ = some (.slice B3 y.f3.length d3) := blk_cell HX2.out 3
          have hl2 := HK3.out
          by_cases hlt : k < x.f3.length
          · obtain ⟨u, hu⟩ : ∃ u, x.f3[k]? = some u := ⟨_, List.getElem?_eq_getElem hlt⟩
            obtain ⟨v, hv⟩ : ∃ v, y.f3[k]? = some v := ⟨_, List.getElem?_eq_getElem (by omega)⟩
            have hata := at_T81 GA3.out (k : Int) (by omega) (by omega)
            rw [show rd_T81 x.f3 (k : Int) = u by unfold rd_T81; rw [Int.toNat_natCast, List.getD_eq_getElem?_getD, hu]; rfl, Int.toNat_natCast] at hata
            obtain ⟨ad, P6, s6, rfl, a_0, a_1, a_2, a_3, a_4, a_5, a_6, l6, g6⟩ := hata
            have hku := k81_mk w0 u l6 g6
            replace a_0 := pw_cell_below HA.out a_0
            replace a_1 := pw_cell_below HA.out a_1
            replace a_2 := pw_cell_below HA.out a_2
            replace a_3 := pw_cell_below HA.out a_3
            replace a_4 := pw_cell_below HA.out a_4
            replace a_5 := pw_cell_below HA.out a_5
            replace a_6 := pw_cell_below HA.out a_6
            have hatb := at_T81 GB3.out (k : Int) (by omega) (by omega)
            rw [show rd_T81 y.f3 (k : Int) = v by unfold rd_T81; rw [Int.toNat_natCast, List.getD_eq_getElem?_getD, hv]; rfl, Int.toNat_natCast] at hatb
            obtain ⟨bd, Q6, t6, rfl, b_0, b_1, b_2, b_3, b_4, b_5, b_6, m6, e6⟩ := hatb
            have hkv := k81_mk w0 v m6 e6
            replace b_0 := pw_cell_below HA.out b_0
            replace b_1 := pw_cell_below HA.out b_1
            replace b_2 := pw_cell_below HA.out b_2
            replace b_3 := pw_cell_below HA.out b_3
            replace b_4 := pw_cell_below HA.out b_4
            replace b_5 := pw_cell_below HA.out b_5
            replace b_6 := pw_cell_below HA.out b_6
            have HU := Aside0.mk hu
            have HV := Aside0.mk hv
            have HKU := Aside0.mk hku
            have HKV := Aside0.mk hkv
            have GP := Aside0.mk g6
            have GQ := Aside0.mk e6
            have hmp : u.f6.length ≤ 9223372036854775807 := g6.2.1
            have hmq : v.f6.length ≤ 9223372036854775807 := e6.2.1
            have hky : k < y.f3.length := by omega
            clear hu hv hl2 hku hkv g6 e6 p_0 p_1 p_2 q_0 q_1 q_2
            go_upto_region 8 with (first | ((with_reducible refine gate_store2 (t := 81) rfl ?_); refine store_row (old := #[.string ⟨#[]⟩, .string ⟨#[]⟩, .int .i64 0, .int .i64 0, .int .i64 0, .int .i64 0, .slice none 0 0]) (cs := #[.string v.f0, .string v.f1, .int .i64 v.f2, .int .i64 v.f3, .int .i64 v.f4, .int .i64 v.f5, .slice Q6 v.f6.length t6]) rfl rfl rfl (Mem.blk_alloc _) rfl rfl infoSResult rfl (k81.K_one HKV.out) ?_; intro w7 hm hx; have hbm := Moved.above__ hm (Nat.le_refl _); replace HX1 := Aside0.mk (blk_below hbm HX1.out); replace HX2 := Aside0.mk (blk_below hbm HX2.out); replace HW := Aside0.mk (below_step HW.out hbm); replace HA := Aside0.mk (below_step HA.out hbm); replace p_3 := pw_cell_below hbm p_3; replace q_3 := pw_cell_below hbm q_3; replace HX6 := Aside0.mk (blk_below hbm HX6.out); have HX7 := Aside0.mk hx; clear hm hx hbm) | ((with_reducible refine gate_store2 (t := 81) rfl ?_); refine store_row (old := #[.string ⟨#[]⟩, .string ⟨#[]⟩, .int .i64 0, .int .i64 0, .int .i64 0, .int .i64 0, .slice none 0 0]) (cs := #[.string u.f0, .string u.f1, .int .i64 u.f2, .int .i64 u.f3, .int .i64 u.f4, .int .i64 u.f5, .slice P6 u.f6.length s6]) rfl rfl rfl (Mem.blk_alloc _) rfl rfl infoSResult rfl (k81.K_one HKU.out) ?_; intro w6 hm hx; have hbm := Moved.above__ hm (Nat.le_refl _); replace HX1 := Aside0.mk (blk_below hbm HX1.out); replace HX2 := Aside0.mk (blk_below hbm HX2.out); replace HW := Aside0.mk (below_step HW.out hbm); replace HA := Aside0.mk (below_step HA.out hbm); replace p_3 := pw_cell_below hbm p_3; replace q_3 := pw_cell_below hbm q_3; replace b_0 := pw_cell_below hbm b_0; replace b_1 := pw_cell_below hbm b_1; replace b_2 := pw_cell_below hbm b_2; replace b_3 := pw_cell_below hbm b_3; replace b_4 := pw_cell_below hbm b_4; replace b_5 := pw_cell_below hbm b_5; replace b_6 := pw_cell_below hbm b_6; have HX6 := Aside0.mk hx; clear hm hx hbm))
            clear a_0 a_1 a_2 a_3 a_4 a_5 a_6 b_0 b_1 b_2 b_3 b_4 b_5 b_6
            have a_0 : w7.cell? ⟨wr.heap.size, 0, none⟩ = some (.string u.f0) := blk_cell HX6.out 0
            have a_1 : w7.cell? ⟨wr.heap.size, 1, none⟩ = some (.string u.f1) := blk_cell HX6.out 1
            have a_2 : w7.cell? ⟨wr.heap.size, 2, none⟩ = some (.int .i64 u.f2) := blk_cell HX6.out 2
            have a_3 : w7.cell? ⟨wr.heap.size, 3, none⟩ = some (.int .i64 u.f3) := blk_cell HX6.out 3
            have a_4 : w7.cell? ⟨wr.heap.size, 4, none⟩ = some (.int .i64 u.f4) := blk_cell HX6.out 4
            have a_5 : w7.cell? ⟨wr.heap.size, 5, none⟩ = some (.int .i64 u.f5) := blk_cell HX6.out 5
            have a_6 : w7.cell? ⟨wr.heap.size, 6, none⟩ = some (.slice P6 u.f6.length s6) := blk_cell HX6.out 6
            have b_0 : w7.cell? ⟨w6.heap.size, 0, none⟩ = some (.string v.f0) := blk_cell HX7.out 0
            have b_1 : w7.cell? ⟨w6.heap.size, 1, none⟩ = some (.string v.f1) := blk_cell HX7.out 1
            have b_2 : w7.cell? ⟨w6.heap.size, 2, none⟩ = some (.int .i64 v.f2) := blk_cell HX7.out 2
            have b_3 : w7.cell? ⟨w6.heap.size, 3, none⟩ = some (.int .i64 v.f3) := blk_cell HX7.out 3
            have b_4 : w7.cell? ⟨w6.heap.size, 4, none⟩ = some (.int .i64 v.f4) := blk_cell HX7.out 4
            have b_5 : w7.cell? ⟨w6.heap.size, 5, none⟩ = some (.int .i64 v.f5) := blk_cell HX7.out 5
            have b_6 : w7.cell? ⟨w6.heap.size, 6, none⟩ = some (.slice Q6 v.f6.length t6) := blk_cell HX7.out 6
            cases z51 : (u.f0.toList == v.f0.toList) with
            | false =>
              go_wp2_with fail
              go_ret
              exact ⟨by rw [false_of HH.out (fun he => by subst he; have h3 := HU.out.symm.trans HV.out; have h4 := Option.some.inj h3; exact ((fun he => by subst he; simp at z51)) h4)]; rfl, HW.out⟩
            | true =>
              cases z52 : (u.f1.toList == v.f1.toList) with
              | false =>
                go_wp2_with fail
                go_ret
                exact ⟨by rw [false_of HH.out (fun he => by subst he; have h3 := HU.out.symm.trans HV.out; have h4 := Option.some.inj h3; exact ((fun he => by subst he; simp at z52)) h4)]; rfl, HW.out⟩
              | true =>
                cases z53 : (u.f2 == v.f2) with
                | false =>
                  have z53n : (u.f2 != v.f2) = true := by rw [bne, z53]; rfl
                  go_wp2_with fail
                  go_ret
                  exact ⟨by rw [false_of HH.out (fun he => by subst he; have h3 := HU.out.symm.trans HV.out; have h4 := Option.some.inj h3; exact ((fun he => by subst he; simp at z53)) h4)]; rfl, HW.out⟩
                | true =>
                  have z53n : (u.f2 != v.f2) = false := by rw [bne, z53]; rfl
                  cases z54 : (u.f3 == v.f3) with
                  | false =>
                    have z54n : (u.f3 != v.f3) = true := by rw [bne, z54]; rfl
                    go_wp2_with fail
                    go_ret
                    exact ⟨by rw [false_of HH.out (fun he => by subst he; have h3 := HU.out.symm.trans HV.out; have h4 := Option.some.inj h3; exact ((fun he => by subst he; simp at z54)) h4)]; rfl, HW.out⟩
                  | true =>
                    have z54n : (u.f3 != v.f3) = false := by rw [bne, z54]; rfl
                    cases z55 : (u.f4 == v.f4) with
                    | false =>
                      have z55n : (u.f4 != v.f4) = true := by rw [bne, z55]; rfl
                      go_wp2_with fail
                      go_ret
                      exact ⟨by rw [false_of HH.out (fun he => by subst he; have h3 := HU.out.symm.trans HV.out; have h4 := Option.some.inj h3; exact ((fun he => by subst he; simp at z55)) h4)]; rfl, HW.out⟩
                    | true =>
                      have z55n : (u.f4 != v.f4) = false := by rw [bne, z55]; rfl
                      cases z56 : (u.f5 == v.f5) with
                      | false =>
                        have z56n : (u.f5 != v.f5) = true := by rw [bne, z56]; rfl
                        go_wp2_with fail
                        go_ret
                        exact ⟨by rw [false_of HH.out (fun he => by subst he; have h3 := HU.out.symm.trans HV.out; have h4 := Option.some.inj h3; exact ((fun he => by subst he; simp at z56)) h4)]; rfl, HW.out⟩
                      | true =>
                        have z56n : (u.f5 != v.f5) = false := by rw [bne, z56]; rfl
                        obtain ⟨z57, z57q⟩ := some_bool (u.f6 = v.f6)
                        cases z57 with
                        | false =>
                          have z57m : ¬ (u.f6 = v.f6) := fun he => by have h4 := z57q.2 he; cases h4
                          have z57A := Aside0.mk z57m
                          clear z57q
                          go_wp2_with (go_at_call 99; (with_reducible refine (c_sameTexts w0 _ _ _ _ _ _ _ GP.out GQ.out HA.out false (iff_f z57A.out)).mono ?_); rintro e w3 ⟨rfl, hb3⟩; replace HX1 := Aside0.mk (blk_below hb3 HX1.out); replace HX2 := Aside0.mk (blk_below hb3 HX2.out); replace HW := Aside0.mk (below_step HW.out hb3); clear hb3)
                          go_ret
                          exact ⟨by rw [false_of HH.out (fun he => by subst he; have h3 := HU.out.symm.trans HV.out; have h4 := Option.some.inj h3; exact ((fun he => z57A.out (by rw [he]))) h4)]; rfl, HW.out⟩
                        | true =>
                          have z57m := Aside0.mk (z57q.1 rfl)
                          clear z57q
                          have HR0 := Aside0.mk (str_eq z51)
                          have HR1 := Aside0.mk (str_eq z52)
                          have HR2 := Aside0.mk (eq_of_beq z53)
                          have HR3 := Aside0.mk (eq_of_beq z54)
                          have HR4 := Aside0.mk (eq_of_beq z55)
                          have HR5 := Aside0.mk (eq_of_beq z56)
                          have HR6 := Aside0.mk z57m.out
                          go_wp2_with (go_at_call 99; (with_reducible refine (c_sameTexts w0 _ _ _ _ _ _ _ GP.out GQ.out HA.out true (iff_t z57m.out)).mono ?_); rintro e w3 ⟨rfl, hb3⟩; replace HX1 := Aside0.mk (blk_below hb3 HX1.out); replace HX2 := Aside0.mk (blk_below hb3 HX2.out); replace HW := Aside0.mk (below_step HW.out hb3); clear hb3)
                          go_roundw
                          case rel => exact ⟨k + 1, by go_num, by omega, ⟨row_upto HS.out HU.out HV.out (ext_Result HR0.out HR1.out HR2.out HR3.out HR4.out HR5.out HR6.out)⟩, HW, HX1, HX2⟩
                          case measure => simp [intOf]; omega
          · go_wp2_with fail
            go_ret
            exact ⟨by rw [true_of HH.out (ext_Reply HK0.out HK1.out HK2.out (row_all HS.out HK3.out (by omega)))]; rfl, HW.out⟩
theorem ext_Part {x y : S86} (h0 : x.f0 = y.f0) (h1 : x.f1 = y.f1) : x = y := by
 cases x; cases y
 simp_all
theorem ext_Shot {x y : S84} (h0 : x.f0 = y.f0) (h1 : x.f1 = y.f1) (h2 : x.f2 = y.f2) (h3 : x.f3 = y.f3) : x = y := by
 cases x; cases y
 simp_all
theorem infoSShot : (Tryz.prog.info? 84).map (·.size) = some 4 := by kernel_rfl
set_option maxRecDepth 100000 in
set_option maxHeartbeats 8000000 in
theorem c_sameParts (w0 W : World) (A B : Option Addr) (c d : Nat) (xs ys : List S86) (hA : k86.C w0 A xs.length xs) (hB : k86.C w0 B ys.length ys) (hb : Below w0.heap.size w0 W) (b : Bool) (h : b = true ↔ xs = ys) :
   Calls Tryz.prog 57 #[.slice A xs.length c, .slice B ys.length d] W fun e W' => e = .returned (.bool b) ∧ Below W.heap.size W W' := by
 have HGA := Aside0.mk hA
 have HGB := Aside0.mk hB
 have HH := Aside0.mk h
 have H0 := Aside0.mk hb
 have hm : xs.length ≤ 9223372036854775807 := hA.2.1
 have hm2 : ys.length ≤ 9223372036854775807 := hB.2.1
 clear hA hB h hb
 go_enter Tryz.func57, Tryz.ntmps57
 by_cases hl : xs.length = ys.length
 · have HL := Aside0.mk hl
   have h0 : ((xs.length : Int) != (ys.length : Int)) = false := by simp [hl]
   have h0' : ((xs.length : Int) == (ys.length : Int)) = true := by simp [hl]
   clear hl
   go_wp2_with fail
   go_loopw [5] (fun v wr => ∃ k : Nat, v = .int .i64 k ∧ k ≤ xs.length ∧ Aside0 (∀ j, j < k → xs[j]? = ys[j]?) ∧ Aside0 (Below W.heap.size W wr)) (fun v _ => xs.length - (intOf v).toNat)
   case atStart => exact ⟨0, rfl, Nat.zero_le _, ⟨fun j hj => by omega⟩, ⟨Below.refl _ _⟩⟩
   case round =>
    obtain ⟨k, rfl, hk, HS, HW⟩ := hrel
    obtain ⟨wo, rfl⟩ : ∃ wo : World, wo = wr := ⟨_, rfl⟩
    have HA := Aside0.mk (below_step H0.out HW.out)
    have hl2 := HL.out
    by_cases hlt : k < xs.length
    · obtain ⟨u, hu⟩ : ∃ u, xs[k]? = some u := ⟨_, List.getElem?_eq_getElem hlt⟩
      obtain ⟨v, hv⟩ : ∃ v, ys[k]? = some v := ⟨_, List.getElem?_eq_getElem (by omega)⟩
      have hata := at_T86 HGA.out (k : Int) (by omega) (by omega)
      rw [show rd_T86 xs (k : Int) = u by unfold rd_T86; rw [Int.toNat_natCast, List.getD_eq_getElem?_getD, hu]; rfl, Int.toNat_natCast] at hata
      obtain ⟨ad, P4, s4, rfl, a_0, a_1, a_2, a_3, a_4, l4, g4⟩ := hata
      have hku := k86_mk w0 u l4 g4
      replace a_0 := pw_cell_below HA.out a_0
      replace a_1 := pw_cell_below HA.out a_1
      replace a_2 := pw_cell_below HA.out a_2
      replace a_3 := pw_cell_below HA.out a_3
      replace a_4 := pw_cell_below HA.out a_4
      have hatb := at_T86 HGB.out (k : Int) (by omega) (by omega)
      rw [show rd_T86 ys (k : Int) = v by unfold rd_T86; rw [Int.toNat_natCast, List.getD_eq_getElem?_getD, hv]; rfl, Int.toNat_natCast] at hatb
      obtain ⟨bd, Q4, t4, rfl, b_0, b_1, b_2, b_3, b_4, m4, e4⟩ := hatb
      have hkv := k86_mk w0 v m4 e4
      replace b_0 := pw_cell_below HA.out b_0
      replace b_1 := pw_cell_below HA.out b_1
      replace b_2 := pw_cell_below HA.out b_2
      replace b_3 := pw_cell_below HA.out b_3
      replace b_4 := pw_cell_below HA.out b_4
      have HU := Aside0.mk hu
      have HV := Aside0.mk hv
      have HKU := Aside0.mk (k84_mk w0 u.f1 l4 g4)
      have HKV := Aside0.mk (k84_mk w0 v.f1 m4 e4)
      have GP := Aside0.mk g4
      have GQ := Aside0.mk e4
      have hmp : u.f1.f3.length ≤ 9223372036854775807 := g4.2.1
      have hmq : v.f1.f3.length ≤ 9223372036854775807 := e4.2.1
      have hky : k < ys.length := by omega
      clear hu hv hl2 hku hkv g4 e4
      go_upto_region 8 with (first | ((with_reducible refine gate_store2 (t := 84) rfl ?_); refine store_row (old := #[.int .i64 0, .string ⟨#[]⟩, .int .i64 0, .slice none 0 0]) (cs := #[.int .i64 v.f1.f0, .string v.f1.f1, .int .i64 v.f1.f2, .slice Q4 v.f1.f3.length t4]) rfl rfl rfl (Mem.blk_alloc _) rfl rfl infoSShot rfl (k84.K_one HKV.out) ?_; intro w7 hm hx; have hbm := Moved.above__ hm (Nat.le_refl _); replace HW := Aside0.mk (below_step HW.out hbm); replace HA := Aside0.mk (below_step HA.out hbm); replace a_0 := pw_cell_below hbm a_0; replace b_0 := pw_cell_below hbm b_0; replace b_1 := pw_cell_below hbm b_1; replace b_2 := pw_cell_below hbm b_2; replace b_3 := pw_cell_below hbm b_3; replace b_4 := pw_cell_below hbm b_4; replace HX6 := Aside0.mk (blk_below hbm HX6.out); have HX7 := Aside0.mk hx; clear hm hx hbm) | ((with_reducible refine gate_store2 (t := 84) rfl ?_); refine store_row (old := #[.int .i64 0, .string ⟨#[]⟩, .int .i64 0, .slice none 0 0]) (cs := #[.int .i64 u.f1.f0, .string u.f1.f1, .int .i64 u.f1.f2, .slice P4 u.f1.f3.length s4]) rfl rfl rfl (Mem.blk_alloc _) rfl rfl infoSShot rfl (k84.K_one HKU.out) ?_; intro w6 hm hx; have hbm := Moved.above__ hm (Nat.le_refl _); replace HW := Aside0.mk (below_step HW.out hbm); replace HA := Aside0.mk (below_step HA.out hbm); replace a_0 := pw_cell_below hbm a_0; replace b_0 := pw_cell_below hbm b_0; replace b_1 := pw_cell_below hbm b_1; replace b_2 := pw_cell_below hbm b_2; replace b_3 := pw_cell_below hbm b_3; replace b_4 := pw_cell_below hbm b_4; have HX6 := Aside0.mk hx; clear hm hx hbm))
      clear a_1 a_2 a_3 a_4 b_1 b_2 b_3 b_4
      have s_0 : w7.cell? ⟨wo.heap.size, 0, none⟩ = some (.int .i64 u.f1.f0) := blk_cell HX6.out 0
      have s_1 : w7.cell? ⟨wo.heap.size, 1, none⟩ = some (.string u.f1.f1) := blk_cell HX6.out 1
      have s_2 : w7.cell? ⟨wo.heap.size, 2, none⟩ = some (.int .i64 u.f1.f2) := blk_cell HX6.out 2
      have s_3 : w7.cell? ⟨wo.heap.size, 3, none⟩ = some (.slice P4 u.f1.f3.length s4) := blk_cell HX6.out 3
      have t_0 : w7.cell? ⟨w6.heap.size, 0, none⟩ = some (.int .i64 v.f1.f0) := blk_cell HX7.out 0
      have t_1 : w7.cell? ⟨w6.heap.size, 1, none⟩ = some (.string v.f1.f1) := blk_cell HX7.out 1
      have t_2 : w7.cell? ⟨w6.heap.size, 2, none⟩ = some (.int .i64 v.f1.f2) := blk_cell HX7.out 2
      have t_3 : w7.cell? ⟨w6.heap.size, 3, none⟩ = some (.slice Q4 v.f1.f3.length t4) := blk_cell HX7.out 3
      cases z1 : (u.f0 == v.f0) with
      | false =>
        have z1n : (u.f0 != v.f0) = true := by rw [bne, z1]; rfl
        go_wp2_with (go_quiet (fail))
        go_ret
        exact ⟨by rw [false_of HH.out (fun he => by subst he; have h3 := HU.out.symm.trans HV.out; have h4 := Option.some.inj h3; exact ((fun he => by subst he; simp at z1)) h4)]; rfl, drewn_ HW.out nq⟩
      | true =>
        have z1n : (u.f0 != v.f0) = false := by rw [bne, z1]; rfl
        cases z2 : (u.f1.f0 == v.f1.f0) with
        | false =>
          have z2n : (u.f1.f0 != v.f1.f0) = true := by rw [bne, z2]; rfl
          go_wp2_with (go_quiet (fail))
          go_ret
          exact ⟨by rw [false_of HH.out (fun he => by subst he; have h3 := HU.out.symm.trans HV.out; have h4 := Option.some.inj h3; exact ((fun he => by subst he; simp at z2)) h4)]; rfl, drewn_ HW.out nq⟩
        | true =>
          have z2n : (u.f1.f0 != v.f1.f0) = false := by rw [bne, z2]; rfl
          cases z3 : (u.f1.f1.toList == v.f1.f1.toList) with
          | false =>
            go_wp2_with (go_quiet (fail))
            go_ret
            exact ⟨by rw [false_of HH.out (fun he => by subst he; have h3 := HU.out.symm.trans HV.out; have h4 := Option.some.inj h3; exact ((fun he => by subst he; simp at z3)) h4)]; rfl, drewn_ HW.out nq⟩
          | true =>
            cases z4 : (u.f1.f2 == v.f1.f2) with
            | false =>
              have z4n : (u.f1.f2 != v.f1.f2) = true := by rw [bne, z4]; rfl
              go_wp2_with (go_quiet (fail))
              go_ret
              exact ⟨by rw [false_of HH.out (fun he => by subst he; have h3 := HU.out.symm.trans HV.out; have h4 := Option.some.inj h3; exact ((fun he => by subst he; simp at z4)) h4)]; rfl, drewn_ HW.out nq⟩
            | true =>
              have z4n : (u.f1.f2 != v.f1.f2) = false := by rw [bne, z4]; rfl
              cases z5 : ((u.f1.f3.length : Int) == (v.f1.f3.length : Int)) with
              | false =>
                have z5n : ((u.f1.f3.length : Int) != (v.f1.f3.length : Int)) = true := by rw [bne, z5]; rfl
                go_wp2_with (go_quiet (fail))
                go_ret
                exact ⟨by rw [false_of HH.out (fun he => by subst he; have h3 := HU.out.symm.trans HV.out; have h4 := Option.some.inj h3; exact ((fun he => by subst he; simp at z5)) h4)]; rfl, drewn_ HW.out nq⟩
              | true =>
                have z5n : ((u.f1.f3.length : Int) != (v.f1.f3.length : Int)) = false := by rw [bne, z5]; rfl
                have HR0 := Aside0.mk (eq_of_beq z1)
                have HR1 := Aside0.mk (eq_of_beq z2)
                have HR2 := Aside0.mk (str_eq z3)
                have HR3 := Aside0.mk (eq_of_beq z4)
                have HR4 := Aside0.mk (Int.ofNat.inj (eq_of_beq z5))
                go_wp2_with (go_quiet (fail))
                go_loopw [8] (fun vm wq => ∃ m : Nat, vm = .int .i64 m ∧ m ≤ u.f1.f3.length ∧ Aside0 (∀ j, j < m → u.f1.f3[j]? = v.f1.f3[j]?) ∧ Aside0 (Below W.heap.size W wq) ∧ Aside0 (wq.heap[wo.heap.size]? = some (.cells #[.int .i64 u.f1.f0, .string u.f1.f1, .int .i64 u.f1.f2, .slice P4 u.f1.f3.length s4] 84 (0, 0))) ∧ Aside0 (wq.heap[w6.heap.size]? = some (.cells #[.int .i64 v.f1.f0, .string v.f1.f1, .int .i64 v.f1.f2, .slice Q4 v.f1.f3.length t4] 84 (0, 0)))) (fun vm _ => u.f1.f3.length - (intOf vm).toNat)
                case atStart => exact ⟨0, rfl, Nat.zero_le _, ⟨fun j hj => by omega⟩, ⟨drewn_ HW.out nq⟩, ⟨HX6.out⟩, ⟨HX7.out⟩⟩
                case round =>
                 clear s_0 s_1 s_2 s_3 t_0 t_1 t_2 t_3 a_0 b_0 HW HA HX6 HX7
                 obtain ⟨m, rfl, hmk, HSM, HW, HX6, HX7⟩ := hrel
                 obtain ⟨wp, rfl⟩ : ∃ wp : World, wp = wr := ⟨_, rfl⟩
                 have HA := Aside0.mk (below_step H0.out HW.out)
                 have s_0 : wp.cell? ⟨wo.heap.size, 0, none⟩ = some (.int .i64 u.f1.f0) := blk_cell HX6.out 0
                 have s_1 : wp.cell? ⟨wo.heap.size, 1, none⟩ = some (.string u.f1.f1) := blk_cell HX6.out 1
                 have s_2 : wp.cell? ⟨wo.heap.size, 2, none⟩ = some (.int .i64 u.f1.f2) := blk_cell HX6.out 2
                 have s_3 : wp.cell? ⟨wo.heap.size, 3, none⟩ = some (.slice P4 u.f1.f3.length s4) := blk_cell HX6.out 3
                 have t_0 : wp.cell? ⟨w6.heap.size, 0, none⟩ = some (.int .i64 v.f1.f0) := blk_cell HX7.out 0
                 have t_1 : wp.cell? ⟨w6.heap.size, 1, none⟩ = some (.string v.f1.f1) := blk_cell HX7.out 1
                 have t_2 : wp.cell? ⟨w6.heap.size, 2, none⟩ = some (.int .i64 v.f1.f2) := blk_cell HX7.out 2
                 have t_3 : wp.cell? ⟨w6.heap.size, 3, none⟩ = some (.slice Q4 v.f1.f3.length t4) := blk_cell HX7.out 3
                 have hl3 := HR4.out
                 by_cases hlm : m < u.f1.f3.length
                 · obtain ⟨x, hx⟩ : ∃ x, u.f1.f3[m]? = some x := ⟨_, List.getElem?_eq_getElem hlm⟩
                   obtain ⟨y, hy⟩ : ∃ y, v.f1.f3[m]? = some y := ⟨_, List.getElem?_eq_getElem (by omega)⟩
                   have hatc := at_T88 GP.out (m : Int) (by omega) (by omega)
                   rw [show rd_T88 u.f1.f3 (m : Int) = x by unfold rd_T88; rw [Int.toNat_natCast, List.getD_eq_getElem?_getD, hx]; rfl, Int.toNat_natCast] at hatc
                   obtain ⟨cad, rfl, c_0, c_1, c_2⟩ := hatc
                   replace c_0 := pw_cell_below HA.out c_0
                   replace c_1 := pw_cell_below HA.out c_1
                   replace c_2 := pw_cell_below HA.out c_2
                   have hatd := at_T88 GQ.out (m : Int) (by omega) (by omega)
                   rw [show rd_T88 v.f1.f3 (m : Int) = y by unfold rd_T88; rw [Int.toNat_natCast, List.getD_eq_getElem?_getD, hy]; rfl, Int.toNat_natCast] at hatd
                   obtain ⟨dad, rfl, d_0, d_1, d_2⟩ := hatd
                   replace d_0 := pw_cell_below HA.out d_0
                   replace d_1 := pw_cell_below HA.out d_1
                   replace d_2 := pw_cell_below HA.out d_2
                   have HX := Aside0.mk hx
                   have HY := Aside0.mk hy
                   have hmy : m < v.f1.f3.length := by omega
                   clear hx hy hl3
                   obtain ⟨z, hz⟩ := some_bool (x = y)
                   cases z with
                   | true =>
                     have hne := neq_Seen x y hz
                     have HE := Aside0.mk (hz.1 rfl)
                     clear hz
                     go_wp2_with (go_quiet (fail))
                     go_roundw
                     case rel => exact ⟨m + 1, by go_num, by omega, ⟨row_upto HSM.out HX.out HY.out HE.out⟩, ⟨drewn_ HW.out nq⟩, ⟨HX6.out⟩, ⟨HX7.out⟩⟩
                     case measure => simp [intOf]; omega
                   | false =>
                     have hne := neq_Seen x y hz
                     have HE := Aside0.mk (false_of HH.out (fun he => by subst he; have h3 := HU.out.symm.trans HV.out; have h4 := Option.some.inj h3; subst h4; have h5 := HX.out.symm.trans HY.out; have h6 := hz.2 (Option.some.inj h5); cases h6))
                     clear hz
                     go_wp2_with (go_quiet (fail))
                     go_ret
                     exact ⟨by rw [HE.out]; rfl, drewn_ HW.out nq⟩
                 · go_wp2_with fail
                   go_roundw
                   case rel => exact ⟨k + 1, by go_num, by omega, ⟨row_upto HS.out HU.out HV.out (ext_Part HR0.out (ext_Shot HR1.out HR2.out HR3.out (row_all HSM.out HR4.out (by omega))))⟩, HW⟩
                   case measure => simp [intOf]; omega
    · go_wp2_with fail
      go_ret
      exact ⟨by rw [true_of HH.out (row_all HS.out HL.out (by omega))]; rfl, HW.out⟩
 · have HE := Aside0.mk (false_of HH.out (fun he => hl (by rw [he])))
   have h0 : ((xs.length : Int) != (ys.length : Int)) = true := by simp; omega
   have h0' : ((xs.length : Int) == (ys.length : Int)) = false := by simp; omega
   go_wp2_with fail
   go_ret
   exact ⟨by rw [HE.out]; rfl, Below.refl _ _⟩
theorem ext_Item {x y : S91} (h0 : x.f0 = y.f0) (h1 : x.f1 = y.f1) (h2 : x.f2 = y.f2) (h3 : x.f3 = y.f3) (h4 : x.f4 = y.f4) : x = y := by
 cases x; cases y
 simp_all
set_option maxRecDepth 100000 in
set_option maxHeartbeats 8000000 in
theorem c_sameItem (w0 W : World) (x y : S91) (cs ds : List Value) (hx : k91.K w0 x cs) (hy : k91.K w0 y ds) (hb : Below w0.heap.size w0 W) (b : Bool) (h : b = true ↔ x = y) :
   Calls Tryz.prog 58 #[.agg cs.toArray, .agg ds.toArray] W fun e W' => e = .returned (.bool b) ∧ Below W.heap.size W W' := by
 have HH := Aside0.mk h
 have H0 := Aside0.mk hb
 obtain ⟨A3, c3, A4, c4, rfl, l3, g3, l4, g4⟩ := k91_open hx
 obtain ⟨B3, d3, B4, d4, rfl, m3, e3, m4, e4⟩ := k91_open hy
 have GA3 := Aside0.mk g3
 have GB3 := Aside0.mk e3
 have hm3 : x.f3.length ≤ 9223372036854775807 := g3.2.1
 have hn3 : y.f3.length ≤ 9223372036854775807 := e3.2.1
 have GA4 := Aside0.mk g4
 have GB4 := Aside0.mk e4
 have hm4 : x.f4.length ≤ 9223372036854775807 := g4.2.1
 have hn4 : y.f4.length ≤ 9223372036854775807 := e4.2.1
 clear g3 e3 g4 e4
 clear h hb
 go_enter Tryz.func58, Tryz.ntmps58
 go_upto_region 1 with (first | ((with_reducible refine gate_box (t := 91) rfl ?_); refine box_row rfl rfl rfl ?_; intro g2 hg2 w2 hx2 hb2; have HX2 := Aside0.mk hx2; replace HX1 := Aside0.mk (blk_below hb2 HX1.out); have HW := Aside0.mk (below_step HB1.out hb2); have HA := Aside0.mk (below_step H0.out HW.out); have p_0 : w2.cell? ⟨g1, 0, none⟩ = some (.int .i64 x.f0) := blk_cell HX1.out 0; have p_1 : w2.cell? ⟨g1, 1, none⟩ = some (.int .i64 x.f1) := blk_cell HX1.out 1; have p_2 : w2.cell? ⟨g1, 2, none⟩ = some (.bool x.f2) := blk_cell HX1.out 2; have p_3 : w2.cell? ⟨g1, 3, none⟩ = some (.slice A3 x.f3.length c3) := blk_cell HX1.out 3; have p_4 : w2.cell? ⟨g1, 4, none⟩ = some (.slice A4 x.f4.length c4) := blk_cell HX1.out 4; have q_0 : w2.cell? ⟨g2, 0, none⟩ = some (.int .i64 y.f0) := blk_cell HX2.out 0; have q_1 : w2.cell? ⟨g2, 1, none⟩ = some (.int .i64 y.f1) := blk_cell HX2.out 1; have q_2 : w2.cell? ⟨g2, 2, none⟩ = some (.bool y.f2) := blk_cell HX2.out 2; have q_3 : w2.cell? ⟨g2, 3, none⟩ = some (.slice B3 y.f3.length d3) := blk_cell HX2.out 3; have q_4 : w2.cell? ⟨g2, 4, none⟩ = some (.slice B4 y.f4.length d4) := blk_cell HX2.out 4; clear hx2 hb2 hg2) | ((with_reducible refine gate_box (t := 91) rfl ?_); refine box_row rfl rfl rfl ?_; intro g1 hg1 w1 hx1 hb1; have HX1 := Aside0.mk hx1; have HB1 := Aside0.mk hb1; clear hx1 hb1 hg1))
 cases z1 : (x.f0 == y.f0) with
 | false =>
   have z1n : (x.f0 != y.f0) = true := by rw [bne, z1]; rfl
   go_wp2_with fail
   go_ret
   exact ⟨by rw [false_of HH.out (fun he => by subst he; simp at z1)]; rfl, HW.out⟩
 | true =>
   have z1n : (x.f0 != y.f0) = false := by rw [bne, z1]; rfl
   cases z2 : (x.f1 == y.f1) with
   | false =>
     have z2n : (x.f1 != y.f1) = true := by rw [bne, z2]; rfl
     go_wp2_with fail
     go_ret
     exact ⟨by rw [false_of HH.out (fun he => by subst he; simp at z2)]; rfl, HW.out⟩
   | true =>
     have z2n : (x.f1 != y.f1) = false := by rw [bne, z2]; rfl
     cases z3 : (x.f2 == y.f2) with
     | false =>
       have z3n : (x.f2 != y.f2) = true := by rw [bne, z3]; rfl
       go_wp2_with fail
       go_ret
       exact ⟨by rw [false_of HH.out (fun he => by subst he; simp at z3)]; rfl, HW.out⟩
     | true =>
       have z3n : (x.f2 != y.f2) = false := by rw [bne, z3]; rfl
       cases z4 : ((x.f3.length : Int) == (y.f3.length : Int)) with
       | false =>
         have z4n : ((x.f3.length : Int) != (y.f3.length : Int)) = true := by rw [bne, z4]; rfl
         go_wp2_with fail
         go_ret
         exact ⟨by rw [false_of HH.out (fun he => by subst he; simp at z4)]; rfl, HW.out⟩
       | true =>
         have z4n : ((x.f3.length : Int) != (y.f3.length : Int)) = false := by rw [bne, z4]; rfl
         obtain ⟨z5, z5q⟩ := some_bool (x.f4 = y.f4)
         cases z5 with
         | false =>
           have z5m : ¬ (x.f4 = y.f4) := fun he => by have h4 := z5q.2 he; cases h4
           have z5A := Aside0.mk z5m
           clear z5q
           go_wp2_with (go_at_call 57; (with_reducible refine (c_sameParts w0 _ _ _ _ _ _ _ GA4.out GB4.out HA.out false (iff_f z5A.out)).mono ?_); rintro e w3 ⟨rfl, hb3⟩; replace HX1 := Aside0.mk (blk_below hb3 HX1.out); replace HX2 := Aside0.mk (blk_below hb3 HX2.out); replace HW := Aside0.mk (below_step HW.out hb3); replace HA := Aside0.mk (below_step HA.out hb3); replace p_0 := pw_cell_below hb3 p_0; replace q_0 := pw_cell_below hb3 q_0; replace p_1 := pw_cell_below hb3 p_1; replace q_1 := pw_cell_below hb3 q_1; replace p_2 := pw_cell_below hb3 p_2; replace q_2 := pw_cell_below hb3 q_2; replace p_3 := pw_cell_below hb3 p_3; replace q_3 := pw_cell_below hb3 q_3; replace p_4 := pw_cell_below hb3 p_4; replace q_4 := pw_cell_below hb3 q_4; clear hb3)
           go_ret
           exact ⟨by rw [false_of HH.out (fun he => z5A.out (by rw [he]))]; rfl, HW.out⟩
         | true =>
           have z5m := Aside0.mk (z5q.1 rfl)
           clear z5q
           have HK0 := Aside0.mk (eq_of_beq z1)
           have HK1 := Aside0.mk (eq_of_beq z2)
           have HK2 := Aside0.mk (eq_of_beq z3)
           have HK3 := Aside0.mk (Int.ofNat.inj (eq_of_beq z4))
           have HK4 := Aside0.mk z5m.out
           go_wp2_with (go_at_call 57; (with_reducible refine (c_sameParts w0 _ _ _ _ _ _ _ GA4.out GB4.out HA.out true (iff_t z5m.out)).mono ?_); rintro e w3 ⟨rfl, hb3⟩; replace HX1 := Aside0.mk (blk_below hb3 HX1.out); replace HX2 := Aside0.mk (blk_below hb3 HX2.out); replace HW := Aside0.mk (below_step HW.out hb3); replace HA := Aside0.mk (below_step HA.out hb3); replace p_0 := pw_cell_below hb3 p_0; replace q_0 := pw_cell_below hb3 q_0; replace p_1 := pw_cell_below hb3 p_1; replace q_1 := pw_cell_below hb3 q_1; replace p_2 := pw_cell_below hb3 p_2; replace q_2 := pw_cell_below hb3 q_2; replace p_3 := pw_cell_below hb3 p_3; replace q_3 := pw_cell_below hb3 q_3; replace p_4 := pw_cell_below hb3 p_4; replace q_4 := pw_cell_below hb3 q_4; clear hb3)
           go_loopw [5] (fun v wr => ∃ k : Nat, v = .int .i64 k ∧ k ≤ x.f3.length ∧ Aside0 (∀ j, j < k → x.f3[j]? = y.f3[j]?) ∧ Aside0 (Below W.heap.size W wr) ∧ Aside0 (wr.heap[g1]? = some (.cells #[.int .i64 x.f0, .int .i64 x.f1, .bool x.f2, .slice A3 x.f3.length c3, .slice A4 x.f4.length c4] 91 (0, 0))) ∧ Aside0 (wr.heap[g2]? = some (.cells #[.int .i64 y.f0, .int .i64 y.f1, .bool y.f2, .slice B3 y.f3.length d3, .slice B4 y.f4.length d4] 91 (0, 0)))) (fun v _ => x.f3.length - (intOf v).toNat)
           case atStart => exact ⟨0, rfl, Nat.zero_le _, ⟨fun j hj => by omega⟩, HW, HX1, HX2⟩
           case round =>
            clear HW HX1 HX2 HA p_0 q_0 p_1 q_1 p_2 q_2 p_3 q_3 p_4 q_4
            obtain ⟨k, rfl, hk, HS, HW, HX1, HX2⟩ := hrel
            have HA := Aside0.mk (below_step H0.out HW.out)
            have p_0 : wr.cell? ⟨g1, 0, none⟩ = some (.int .i64 x.f0) := blk_cell HX1.out 0
            have p_1 : wr.cell? ⟨g1, 1, none⟩ = some (.int .i64 x.f1) := blk_cell HX1.out 1
            have p_2 : wr.cell? ⟨g1, 2, none⟩ = some (.bool x.f2) := blk_cell HX1.out 2
            have p_3 : wr.cell? ⟨g1, 3, none⟩ = some (.slice A3 x.f3.length c3) := blk_cell HX1.out 3
            have p_4 : wr.cell? ⟨g1, 4, none⟩ = some (.slice A4 x.f4.length c4) := blk_cell HX1.out 4
            have q_0 : wr.cell? ⟨g2, 0, none⟩ = some (.int .i64 y.f0) := blk_cell HX2.out 0
            have q_1 : wr.cell? ⟨g2, 1, none⟩ = some (.int .i64 y.f1) := blk_cell HX2.out 1
            have q_2 : wr.cell? ⟨g2, 2, none⟩ = some (.bool y.f2) := blk_cell HX2.out 2
            have q_3 : wr.cell? ⟨g2, 3, none⟩ = some (.slice B3 y.f3.length d3) := blk_cell HX2.out 3
            have q_4 : wr.cell? ⟨g2, 4, none⟩ = some (.slice B4 y.f4.length d4) := blk_cell HX2.out 4
            have hl2 := HK3.out
            by_cases hlt : k < x.f3.length
            · obtain ⟨u, hu⟩ : ∃ u, x.f3[k]? = some u := ⟨_, List.getElem?_eq_getElem hlt⟩
              obtain ⟨v, hv⟩ : ∃ v, y.f3[k]? = some v := ⟨_, List.getElem?_eq_getElem (by omega)⟩
              have hata := at_T148 GA3.out (k : Int) (by omega) (by omega)
              rw [show rd_T148 x.f3 (k : Int) = u by unfold rd_T148; rw [Int.toNat_natCast, List.getD_eq_getElem?_getD, hu]; rfl, Int.toNat_natCast] at hata
              obtain ⟨ad, P4, s4, rfl, a_0, a_1, a_2, a_3, a_4, l4, g4⟩ := hata
              have hku := k148_mk w0 u l4 g4
              replace a_0 := pw_cell_below HA.out a_0
              replace a_1 := pw_cell_below HA.out a_1
              replace a_2 := pw_cell_below HA.out a_2
              replace a_3 := pw_cell_below HA.out a_3
              replace a_4 := pw_cell_below HA.out a_4
              have hatb := at_T148 GB3.out (k : Int) (by omega) (by omega)
              rw [show rd_T148 y.f3 (k : Int) = v by unfold rd_T148; rw [Int.toNat_natCast, List.getD_eq_getElem?_getD, hv]; rfl, Int.toNat_natCast] at hatb
              obtain ⟨bd, Q4, t4, rfl, b_0, b_1, b_2, b_3, b_4, m4, e4⟩ := hatb
              have hkv := k148_mk w0 v m4 e4
              replace b_0 := pw_cell_below HA.out b_0
              replace b_1 := pw_cell_below HA.out b_1
              replace b_2 := pw_cell_below HA.out b_2
              replace b_3 := pw_cell_below HA.out b_3
              replace b_4 := pw_cell_below HA.out b_4
              have HU := Aside0.mk hu
              have HV := Aside0.mk hv
              have HKU := Aside0.mk hku
              have HKV := Aside0.mk hkv
              have hky : k < y.f3.length := by omega
              clear hu hv hl2 hku hkv
              by_cases hz : u = v
              · have HQ := Aside0.mk hz
                clear hz
                go_wp2_with fail
                go_still_tail 10, (by kernel_rfl)
                change wpList _ _ _ _ _ wr.drew
                have hd : Below wr.heap.size wr wr.drew := below_drew (Below.refl _ _)
                generalize wr.drew = w5 at hd ⊢
                replace HX1 := Aside0.mk (blk_below hd HX1.out)
                replace HX2 := Aside0.mk (blk_below hd HX2.out)
                replace HW := Aside0.mk (below_step HW.out hd)
                replace HA := Aside0.mk (below_step HA.out hd)
                clear hd
                go_wp2_with (go_at_call 100; (with_reducible refine (c_sameTagged w0 _ u v _ _ HKU.out HKV.out HA.out true (iff_t HQ.out)).mono ?_); rintro e w6 ⟨rfl, hb6⟩; have HX1' := Aside0.mk (blk_below hb6 HX1.out); have HX2' := Aside0.mk (blk_below hb6 HX2.out); have HW' := Aside0.mk (below_step HW.out hb6); clear hb6)
                go_roundw
                case rel => exact ⟨k + 1, by go_num, by omega, ⟨row_upto HS.out HU.out HV.out HQ.out⟩, HW', HX1', HX2'⟩
                case measure => simp [intOf]; omega
              · have HQ := Aside0.mk hz
                clear hz
                go_wp2_with fail
                go_still_tail 10, (by kernel_rfl)
                change wpList _ _ _ _ _ wr.drew
                have hd : Below wr.heap.size wr wr.drew := below_drew (Below.refl _ _)
                generalize wr.drew = w5 at hd ⊢
                replace HX1 := Aside0.mk (blk_below hd HX1.out)
                replace HX2 := Aside0.mk (blk_below hd HX2.out)
                replace HW := Aside0.mk (below_step HW.out hd)
                replace HA := Aside0.mk (below_step HA.out hd)
                clear hd
                go_wp2_with (go_at_call 100; (with_reducible refine (c_sameTagged w0 _ u v _ _ HKU.out HKV.out HA.out false (iff_f HQ.out)).mono ?_); rintro e w6 ⟨rfl, hb6⟩; have HX1' := Aside0.mk (blk_below hb6 HX1.out); have HX2' := Aside0.mk (blk_below hb6 HX2.out); have HW' := Aside0.mk (below_step HW.out hb6); clear hb6)
                go_ret
                exact ⟨by rw [false_of HH.out (fun he => by subst he; have h3 := HU.out.symm.trans HV.out; exact HQ.out (Option.some.inj h3))]; rfl, HW'.out⟩
            · go_wp2_with fail
              go_ret
              exact ⟨by rw [true_of HH.out (ext_Item HK0.out HK1.out HK2.out (row_all HS.out HK3.out (by omega)) HK4.out)]; rfl, HW.out⟩
end Go.Proofs.YtmneemhplffemaaGreatDoorRR.Same
namespace Go.Proofs.YtmneemhplffemaaGreatDoorRR.Same
open Go.RowKit Go.Proofs.YtmneemhplffemaaGreatDoorRR.Ext Go.Proofs.YtmneemhplffemaaGreatDoorRR.Mem Go.Proofs.YtmneemhplffemaaGreatDoorRR.Row Go.Proofs.YtmneemhplffemaaGreatDoorRR.Ki Go.Proofs.YtmneemhplffemaaGreatDoorRR.Tab Go.Proofs.YtmneemhplffemaaGreatDoorRRW.PrintWords


theorem bool_View {x y : S23} : (x.f0 == y.f0 && (x.f1 == y.f1 && (x.f2 == y.f2))) = true ↔ x = y := by
 constructor
 · intro h
   simp only [Bool.and_eq_true] at h
   obtain ⟨h0, h1, h2⟩ := h
   cases x; cases y
   simp only [S23.mk.injEq]
   exact ⟨eq_of_beq h0, eq_of_beq h1, eq_of_beq h2⟩
 · rintro rfl
   simp
theorem neq_View (x y : S23) {b : Bool} (h : b = true ↔ x = y) : ∀ w, (binOp BinOp.neq 23 (.agg #[.int .i64 x.f0, .int .i64 x.f1, .int .i64 x.f2]) (.agg #[.int .i64 y.f0, .int .i64 y.f1, .int .i64 y.f2])).run Tryz.prog w = .ok (.bool (!b)) w :=
 neq_agg (fun d w => by
  rw [Eqs.eqView]
  congr 1
  rw [Bool.eq_iff_iff, h]
  exact bool_View)
theorem ext_Note {x y : S34} (h0 : x.f0 = y.f0) (h1 : x.f1 = y.f1) (h2 : x.f2 = y.f2) (h3 : x.f3 = y.f3) (h4 : x.f4 = y.f4) (h5 : x.f5 = y.f5) (h6 : x.f6 = y.f6) (h7 : x.f7 = y.f7) (h8 : x.f8 = y.f8) (h9 : x.f9 = y.f9) (h10 : x.f10 = y.f10) (h11 : x.f11 = y.f11) (h12 : x.f12 = y.f12) (h13 : x.f13 = y.f13) (h14 : x.f14 = y.f14) (h15 : x.f15 = y.f15) : x = y := by
 cases x; cases y
 simp_all
theorem cells21 {w : World} {g : Nat} {x : S34} {cs : List Value} {A11 : Option Addr} {c11 : Nat} {A12 : Option Addr} {c12 : Nat} {A16 : Option Addr} {c16 : Nat} {A17 : Option Addr} {c17 : Nat} {A18 : Option Addr} {c18 : Nat} {A19 : Option Addr} {c19 : Nat} (hc : cs = [.int .i64 x.f0, .int .i64 x.f1.f0, .int .i64 x.f1.f1, .int .i64 x.f1.f2, .int .i64 x.f2, .int .i64 x.f3, .int .i64 x.f4, .int .i64 x.f5, .int .i64 x.f6, .int .i64 x.f7, .int .i64 x.f8, .slice A11 x.f9.length c11, .slice A12 x.f10.length c12, .int .i64 x.f11.f0, .int .i64 x.f11.f1, .int .i64 x.f11.f2, .slice A16 x.f11.f3.length c16, .slice A17 x.f12.length c17, .slice A18 x.f13.length c18, .slice A19 x.f14.length c19, .string x.f15]) (h : w.heap[g]? = some (.cells cs.toArray 34 (0, 0))) :
  w.cell? ⟨g, 0, none⟩ = some (.int .i64 x.f0) ∧ w.cell? ⟨g, 1, none⟩ = some (.int .i64 x.f1.f0) ∧ w.cell? ⟨g, 2, none⟩ = some (.int .i64 x.f1.f1) ∧ w.cell? ⟨g, 3, none⟩ = some (.int .i64 x.f1.f2) ∧ w.cell? ⟨g, 4, none⟩ = some (.int .i64 x.f2) ∧ w.cell? ⟨g, 5, none⟩ = some (.int .i64 x.f3) ∧ w.cell? ⟨g, 6, none⟩ = some (.int .i64 x.f4) ∧ w.cell? ⟨g, 7, none⟩ = some (.int .i64 x.f5) ∧ w.cell? ⟨g, 8, none⟩ = some (.int .i64 x.f6) ∧ w.cell? ⟨g, 9, none⟩ = some (.int .i64 x.f7) ∧ w.cell? ⟨g, 10, none⟩ = some (.int .i64 x.f8) ∧ w.cell? ⟨g, 11, none⟩ = some (.slice A11 x.f9.length c11) ∧ w.cell? ⟨g, 12, none⟩ = some (.slice A12 x.f10.length c12) ∧ w.cell? ⟨g, 13, none⟩ = some (.int .i64 x.f11.f0) ∧ w.cell? ⟨g, 14, none⟩ = some (.int .i64 x.f11.f1) ∧ w.cell? ⟨g, 15, none⟩ = some (.int .i64 x.f11.f2) ∧ w.cell? ⟨g, 16, none⟩ = some (.slice A16 x.f11.f3.length c16) ∧ w.cell? ⟨g, 17, none⟩ = some (.slice A17 x.f12.length c17) ∧ w.cell? ⟨g, 18, none⟩ = some (.slice A18 x.f13.length c18) ∧ w.cell? ⟨g, 19, none⟩ = some (.slice A19 x.f14.length c19) ∧ w.cell? ⟨g, 20, none⟩ = some (.string x.f15) := by
 subst hc
 exact ⟨blk_cell h 0, blk_cell h 1, blk_cell h 2, blk_cell h 3, blk_cell h 4, blk_cell h 5, blk_cell h 6, blk_cell h 7, blk_cell h 8, blk_cell h 9, blk_cell h 10, blk_cell h 11, blk_cell h 12, blk_cell h 13, blk_cell h 14, blk_cell h 15, blk_cell h 16, blk_cell h 17, blk_cell h 18, blk_cell h 19, blk_cell h 20⟩
set_option maxRecDepth 100000 in
set_option maxHeartbeats 8000000 in
theorem c_same (w0 W : World) (x y : S34) (cs ds : List Value) (hx : k34.K w0 x cs) (hy : k34.K w0 y ds) (hb : Below w0.heap.size w0 W) (b : Bool) (h : b = true ↔ x = y) :
   Calls Tryz.prog 19 #[.agg cs.toArray, .agg ds.toArray] W fun e W' => e = .returned (.bool b) ∧ Below W.heap.size W W' := by
 have HH := Aside0.mk h
 have H0 := Aside0.mk hb
 obtain ⟨A11, c11, A12, c12, A16, c16, A17, c17, A18, c18, A19, c19, hcx, l11, g11, l12, g12, l16, g16, l17, g17, l18, g18, l19, g19⟩ := k34_open hx
 have HCx := Aside0.mk hcx
 have GA11 := Aside0.mk g11
 have hm11 : x.f9.length ≤ 9223372036854775807 := g11.2.1
 have GA12 := Aside0.mk g12
 have hm12 : x.f10.length ≤ 9223372036854775807 := g12.2.1
 have GA16 := Aside0.mk g16
 have hm16 : x.f11.f3.length ≤ 9223372036854775807 := g16.2.1
 have GA17 := Aside0.mk g17
 have hm17 : x.f12.length ≤ 9223372036854775807 := g17.2.1
 have GA18 := Aside0.mk g18
 have hm18 : x.f13.length ≤ 9223372036854775807 := g18.2.1
 have GA19 := Aside0.mk g19
 have hm19 : x.f14.length ≤ 9223372036854775807 := g19.2.1
 have HRx := Aside0.mk (k29_mk w0 x.f11 l16 g16)
 clear hcx g11 g12 g16 g17 g18 g19
 obtain ⟨B11, d11, B12, d12, B16, d16, B17, d17, B18, d18, B19, d19, hcy, m11, e11, m12, e12, m16, e16, m17, e17, m18, e18, m19, e19⟩ := k34_open hy
 have HCy := Aside0.mk hcy
 have GB11 := Aside0.mk e11
 have hn11 : y.f9.length ≤ 9223372036854775807 := e11.2.1
 have GB12 := Aside0.mk e12
 have hn12 : y.f10.length ≤ 9223372036854775807 := e12.2.1
 have GB16 := Aside0.mk e16
 have hn16 : y.f11.f3.length ≤ 9223372036854775807 := e16.2.1
 have GB17 := Aside0.mk e17
 have hn17 : y.f12.length ≤ 9223372036854775807 := e17.2.1
 have GB18 := Aside0.mk e18
 have hn18 : y.f13.length ≤ 9223372036854775807 := e18.2.1
 have GB19 := Aside0.mk e19
 have hn19 : y.f14.length ≤ 9223372036854775807 := e19.2.1
 have HRy := Aside0.mk (k29_mk w0 y.f11 m16 e16)
 clear hcy e11 e12 e16 e17 e18 e19
 clear h hb hx hy
 go_enter Tryz.func19, Tryz.ntmps19
 cases z1 : (x.f0 == y.f0) with
 | false =>
   have z1n : (x.f0 != y.f0) = true := by rw [bne, z1]; rfl
   go_wp2_with (first | ((with_reducible refine gate_box (t := 34) rfl ?_); refine box_row rfl rfl rfl ?_; intro g2 hg2 w2 hx2 hb2; have HX2 := Aside0.mk hx2; replace HX1 := Aside0.mk (blk_below hb2 HX1.out); have HW := Aside0.mk (below_step HB1.out hb2); have HA := Aside0.mk (below_step H0.out HW.out); obtain ⟨p_0, p_1, p_2, p_3, p_4, p_5, p_6, p_7, p_8, p_9, p_10, p_11, p_12, p_13, p_14, p_15, p_16, p_17, p_18, p_19, p_20⟩ := cells21 HCx.out HX1.out; obtain ⟨q_0, q_1, q_2, q_3, q_4, q_5, q_6, q_7, q_8, q_9, q_10, q_11, q_12, q_13, q_14, q_15, q_16, q_17, q_18, q_19, q_20⟩ := cells21 HCy.out HX2.out; clear hx2 hb2 hg2) | ((with_reducible refine gate_box (t := 34) rfl ?_); refine box_row rfl rfl rfl ?_; intro g1 hg1 w1 hx1 hb1; have HX1 := Aside0.mk hx1; have HB1 := Aside0.mk hb1; clear hx1 hb1 hg1))
   go_ret
   exact ⟨by rw [false_of HH.out (fun he => by subst he; simp at z1)]; rfl, HW.out⟩
 | true =>
   have z1n : (x.f0 != y.f0) = false := by rw [bne, z1]; rfl
   obtain ⟨z2, z2q⟩ := some_bool (x.f1 = y.f1)
   cases z2 with
   | false =>
     have z2m : ¬ (x.f1 = y.f1) := fun he => by have h4 := z2q.2 he; cases h4
     have z2n := neq_View x.f1 y.f1 z2q
     go_wp2_with (first | ((with_reducible refine gate_box (t := 34) rfl ?_); refine box_row rfl rfl rfl ?_; intro g2 hg2 w2 hx2 hb2; have HX2 := Aside0.mk hx2; replace HX1 := Aside0.mk (blk_below hb2 HX1.out); have HW := Aside0.mk (below_step HB1.out hb2); have HA := Aside0.mk (below_step H0.out HW.out); obtain ⟨p_0, p_1, p_2, p_3, p_4, p_5, p_6, p_7, p_8, p_9, p_10, p_11, p_12, p_13, p_14, p_15, p_16, p_17, p_18, p_19, p_20⟩ := cells21 HCx.out HX1.out; obtain ⟨q_0, q_1, q_2, q_3, q_4, q_5, q_6, q_7, q_8, q_9, q_10, q_11, q_12, q_13, q_14, q_15, q_16, q_17, q_18, q_19, q_20⟩ := cells21 HCy.out HX2.out; clear hx2 hb2 hg2) | ((with_reducible refine gate_box (t := 34) rfl ?_); refine box_row rfl rfl rfl ?_; intro g1 hg1 w1 hx1 hb1; have HX1 := Aside0.mk hx1; have HB1 := Aside0.mk hb1; clear hx1 hb1 hg1))
     go_ret
     exact ⟨by rw [false_of HH.out (fun he => z2m (by rw [he]))]; rfl, HW.out⟩
   | true =>
     have z2n := neq_View x.f1 y.f1 z2q
     have z2m := Aside0.mk (z2q.1 rfl)
     clear z2q
     cases z3 : (x.f2 == y.f2) with
     | false =>
       have z3n : (x.f2 != y.f2) = true := by rw [bne, z3]; rfl
       go_wp2_with (first | ((with_reducible refine gate_box (t := 34) rfl ?_); refine box_row rfl rfl rfl ?_; intro g2 hg2 w2 hx2 hb2; have HX2 := Aside0.mk hx2; replace HX1 := Aside0.mk (blk_below hb2 HX1.out); have HW := Aside0.mk (below_step HB1.out hb2); have HA := Aside0.mk (below_step H0.out HW.out); obtain ⟨p_0, p_1, p_2, p_3, p_4, p_5, p_6, p_7, p_8, p_9, p_10, p_11, p_12, p_13, p_14, p_15, p_16, p_17, p_18, p_19, p_20⟩ := cells21 HCx.out HX1.out; obtain ⟨q_0, q_1, q_2, q_3, q_4, q_5, q_6, q_7, q_8, q_9, q_10, q_11, q_12, q_13, q_14, q_15, q_16, q_17, q_18, q_19, q_20⟩ := cells21 HCy.out HX2.out; clear hx2 hb2 hg2) | ((with_reducible refine gate_box (t := 34) rfl ?_); refine box_row rfl rfl rfl ?_; intro g1 hg1 w1 hx1 hb1; have HX1 := Aside0.mk hx1; have HB1 := Aside0.mk hb1; clear hx1 hb1 hg1))
       go_ret
       exact ⟨by rw [false_of HH.out (fun he => by subst he; simp at z3)]; rfl, HW.out⟩
     | true =>
       have z3n : (x.f2 != y.f2) = false := by rw [bne, z3]; rfl
       cases z4 : (x.f3 == y.f3) with
       | false =>
         have z4n : (x.f3 != y.f3) = true := by rw [bne, z4]; rfl
         go_wp2_with (first | ((with_reducible refine gate_box (t := 34) rfl ?_); refine box_row rfl rfl rfl ?_; intro g2 hg2 w2 hx2 hb2; have HX2 := Aside0.mk hx2; replace HX1 := Aside0.mk (blk_below hb2 HX1.out); have HW := Aside0.mk (below_step HB1.out hb2); have HA := Aside0.mk (below_step H0.out HW.out); obtain ⟨p_0, p_1, p_2, p_3, p_4, p_5, p_6, p_7, p_8, p_9, p_10, p_11, p_12, p_13, p_14, p_15, p_16, p_17, p_18, p_19, p_20⟩ := cells21 HCx.out HX1.out; obtain ⟨q_0, q_1, q_2, q_3, q_4, q_5, q_6, q_7, q_8, q_9, q_10, q_11, q_12, q_13, q_14, q_15, q_16, q_17, q_18, q_19, q_20⟩ := cells21 HCy.out HX2.out; clear hx2 hb2 hg2) | ((with_reducible refine gate_box (t := 34) rfl ?_); refine box_row rfl rfl rfl ?_; intro g1 hg1 w1 hx1 hb1; have HX1 := Aside0.mk hx1; have HB1 := Aside0.mk hb1; clear hx1 hb1 hg1))
         go_ret
         exact ⟨by rw [false_of HH.out (fun he => by subst he; simp at z4)]; rfl, HW.out⟩
       | true =>
         have z4n : (x.f3 != y.f3) = false := by rw [bne, z4]; rfl
         cases z5 : (x.f4 == y.f4) with
         | false =>
           have z5n : (x.f4 != y.f4) = true := by rw [bne, z5]; rfl
           go_wp2_with (first | ((with_reducible refine gate_box (t := 34) rfl ?_); refine box_row rfl rfl rfl ?_; intro g2 hg2 w2 hx2 hb2; have HX2 := Aside0.mk hx2; replace HX1 := Aside0.mk (blk_below hb2 HX1.out); have HW := Aside0.mk (below_step HB1.out hb2); have HA := Aside0.mk (below_step H0.out HW.out); obtain ⟨p_0, p_1, p_2, p_3, p_4, p_5, p_6, p_7, p_8, p_9, p_10, p_11, p_12, p_13, p_14, p_15, p_16, p_17, p_18, p_19, p_20⟩ := cells21 HCx.out HX1.out; obtain ⟨q_0, q_1, q_2, q_3, q_4, q_5, q_6, q_7, q_8, q_9, q_10, q_11, q_12, q_13, q_14, q_15, q_16, q_17, q_18, q_19, q_20⟩ := cells21 HCy.out HX2.out; clear hx2 hb2 hg2) | ((with_reducible refine gate_box (t := 34) rfl ?_); refine box_row rfl rfl rfl ?_; intro g1 hg1 w1 hx1 hb1; have HX1 := Aside0.mk hx1; have HB1 := Aside0.mk hb1; clear hx1 hb1 hg1))
           go_ret
           exact ⟨by rw [false_of HH.out (fun he => by subst he; simp at z5)]; rfl, HW.out⟩
         | true =>
           have z5n : (x.f4 != y.f4) = false := by rw [bne, z5]; rfl
           cases z6 : (x.f5 == y.f5) with
           | false =>
             have z6n : (x.f5 != y.f5) = true := by rw [bne, z6]; rfl
             go_wp2_with (first | ((with_reducible refine gate_box (t := 34) rfl ?_); refine box_row rfl rfl rfl ?_; intro g2 hg2 w2 hx2 hb2; have HX2 := Aside0.mk hx2; replace HX1 := Aside0.mk (blk_below hb2 HX1.out); have HW := Aside0.mk (below_step HB1.out hb2); have HA := Aside0.mk (below_step H0.out HW.out); obtain ⟨p_0, p_1, p_2, p_3, p_4, p_5, p_6, p_7, p_8, p_9, p_10, p_11, p_12, p_13, p_14, p_15, p_16, p_17, p_18, p_19, p_20⟩ := cells21 HCx.out HX1.out; obtain ⟨q_0, q_1, q_2, q_3, q_4, q_5, q_6, q_7, q_8, q_9, q_10, q_11, q_12, q_13, q_14, q_15, q_16, q_17, q_18, q_19, q_20⟩ := cells21 HCy.out HX2.out; clear hx2 hb2 hg2) | ((with_reducible refine gate_box (t := 34) rfl ?_); refine box_row rfl rfl rfl ?_; intro g1 hg1 w1 hx1 hb1; have HX1 := Aside0.mk hx1; have HB1 := Aside0.mk hb1; clear hx1 hb1 hg1))
             go_ret
             exact ⟨by rw [false_of HH.out (fun he => by subst he; simp at z6)]; rfl, HW.out⟩
           | true =>
             have z6n : (x.f5 != y.f5) = false := by rw [bne, z6]; rfl
             cases z7 : (x.f6 == y.f6) with
             | false =>
               have z7n : (x.f6 != y.f6) = true := by rw [bne, z7]; rfl
               go_wp2_with (first | ((with_reducible refine gate_box (t := 34) rfl ?_); refine box_row rfl rfl rfl ?_; intro g2 hg2 w2 hx2 hb2; have HX2 := Aside0.mk hx2; replace HX1 := Aside0.mk (blk_below hb2 HX1.out); have HW := Aside0.mk (below_step HB1.out hb2); have HA := Aside0.mk (below_step H0.out HW.out); obtain ⟨p_0, p_1, p_2, p_3, p_4, p_5, p_6, p_7, p_8, p_9, p_10, p_11, p_12, p_13, p_14, p_15, p_16, p_17, p_18, p_19, p_20⟩ := cells21 HCx.out HX1.out; obtain ⟨q_0, q_1, q_2, q_3, q_4, q_5, q_6, q_7, q_8, q_9, q_10, q_11, q_12, q_13, q_14, q_15, q_16, q_17, q_18, q_19, q_20⟩ := cells21 HCy.out HX2.out; clear hx2 hb2 hg2) | ((with_reducible refine gate_box (t := 34) rfl ?_); refine box_row rfl rfl rfl ?_; intro g1 hg1 w1 hx1 hb1; have HX1 := Aside0.mk hx1; have HB1 := Aside0.mk hb1; clear hx1 hb1 hg1))
               go_ret
               exact ⟨by rw [false_of HH.out (fun he => by subst he; simp at z7)]; rfl, HW.out⟩
             | true =>
               have z7n : (x.f6 != y.f6) = false := by rw [bne, z7]; rfl
               cases z8 : (x.f7 == y.f7) with
               | false =>
                 have z8n : (x.f7 != y.f7) = true := by rw [bne, z8]; rfl
                 go_wp2_with (first | ((with_reducible refine gate_box (t := 34) rfl ?_); refine box_row rfl rfl rfl ?_; intro g2 hg2 w2 hx2 hb2; have HX2 := Aside0.mk hx2; replace HX1 := Aside0.mk (blk_below hb2 HX1.out); have HW := Aside0.mk (below_step HB1.out hb2); have HA := Aside0.mk (below_step H0.out HW.out); obtain ⟨p_0, p_1, p_2, p_3, p_4, p_5, p_6, p_7, p_8, p_9, p_10, p_11, p_12, p_13, p_14, p_15, p_16, p_17, p_18, p_19, p_20⟩ := cells21 HCx.out HX1.out; obtain ⟨q_0, q_1, q_2, q_3, q_4, q_5, q_6, q_7, q_8, q_9, q_10, q_11, q_12, q_13, q_14, q_15, q_16, q_17, q_18, q_19, q_20⟩ := cells21 HCy.out HX2.out; clear hx2 hb2 hg2) | ((with_reducible refine gate_box (t := 34) rfl ?_); refine box_row rfl rfl rfl ?_; intro g1 hg1 w1 hx1 hb1; have HX1 := Aside0.mk hx1; have HB1 := Aside0.mk hb1; clear hx1 hb1 hg1))
                 go_ret
                 exact ⟨by rw [false_of HH.out (fun he => by subst he; simp at z8)]; rfl, HW.out⟩
               | true =>
                 have z8n : (x.f7 != y.f7) = false := by rw [bne, z8]; rfl
                 cases z9 : (x.f8 == y.f8) with
                 | false =>
                   have z9n : (x.f8 != y.f8) = true := by rw [bne, z9]; rfl
                   go_wp2_with (first | ((with_reducible refine gate_box (t := 34) rfl ?_); refine box_row rfl rfl rfl ?_; intro g2 hg2 w2 hx2 hb2; have HX2 := Aside0.mk hx2; replace HX1 := Aside0.mk (blk_below hb2 HX1.out); have HW := Aside0.mk (below_step HB1.out hb2); have HA := Aside0.mk (below_step H0.out HW.out); obtain ⟨p_0, p_1, p_2, p_3, p_4, p_5, p_6, p_7, p_8, p_9, p_10, p_11, p_12, p_13, p_14, p_15, p_16, p_17, p_18, p_19, p_20⟩ := cells21 HCx.out HX1.out; obtain ⟨q_0, q_1, q_2, q_3, q_4, q_5, q_6, q_7, q_8, q_9, q_10, q_11, q_12, q_13, q_14, q_15, q_16, q_17, q_18, q_19, q_20⟩ := cells21 HCy.out HX2.out; clear hx2 hb2 hg2) | ((with_reducible refine gate_box (t := 34) rfl ?_); refine box_row rfl rfl rfl ?_; intro g1 hg1 w1 hx1 hb1; have HX1 := Aside0.mk hx1; have HB1 := Aside0.mk hb1; clear hx1 hb1 hg1))
                   go_ret
                   exact ⟨by rw [false_of HH.out (fun he => by subst he; simp at z9)]; rfl, HW.out⟩
                 | true =>
                   have z9n : (x.f8 != y.f8) = false := by rw [bne, z9]; rfl
                   cases z10 : (x.f15.toList == y.f15.toList) with
                   | false =>
                     go_wp2_with (first | ((with_reducible refine gate_box (t := 34) rfl ?_); refine box_row rfl rfl rfl ?_; intro g2 hg2 w2 hx2 hb2; have HX2 := Aside0.mk hx2; replace HX1 := Aside0.mk (blk_below hb2 HX1.out); have HW := Aside0.mk (below_step HB1.out hb2); have HA := Aside0.mk (below_step H0.out HW.out); obtain ⟨p_0, p_1, p_2, p_3, p_4, p_5, p_6, p_7, p_8, p_9, p_10, p_11, p_12, p_13, p_14, p_15, p_16, p_17, p_18, p_19, p_20⟩ := cells21 HCx.out HX1.out; obtain ⟨q_0, q_1, q_2, q_3, q_4, q_5, q_6, q_7, q_8, q_9, q_10, q_11, q_12, q_13, q_14, q_15, q_16, q_17, q_18, q_19, q_20⟩ := cells21 HCy.out HX2.out; clear hx2 hb2 hg2) | ((with_reducible refine gate_box (t := 34) rfl ?_); refine box_row rfl rfl rfl ?_; intro g1 hg1 w1 hx1 hb1; have HX1 := Aside0.mk hx1; have HB1 := Aside0.mk hb1; clear hx1 hb1 hg1))
                     go_ret
                     exact ⟨by rw [false_of HH.out (fun he => by subst he; simp at z10)]; rfl, HW.out⟩
                   | true =>
                     go_upto_region 3 with (first | ((with_reducible refine gate_box (t := 34) rfl ?_); refine box_row rfl rfl rfl ?_; intro g2 hg2 w2 hx2 hb2; have HX2 := Aside0.mk hx2; replace HX1 := Aside0.mk (blk_below hb2 HX1.out); have HW := Aside0.mk (below_step HB1.out hb2); have HA := Aside0.mk (below_step H0.out HW.out); obtain ⟨p_0, p_1, p_2, p_3, p_4, p_5, p_6, p_7, p_8, p_9, p_10, p_11, p_12, p_13, p_14, p_15, p_16, p_17, p_18, p_19, p_20⟩ := cells21 HCx.out HX1.out; obtain ⟨q_0, q_1, q_2, q_3, q_4, q_5, q_6, q_7, q_8, q_9, q_10, q_11, q_12, q_13, q_14, q_15, q_16, q_17, q_18, q_19, q_20⟩ := cells21 HCy.out HX2.out; clear hx2 hb2 hg2) | ((with_reducible refine gate_box (t := 34) rfl ?_); refine box_row rfl rfl rfl ?_; intro g1 hg1 w1 hx1 hb1; have HX1 := Aside0.mk hx1; have HB1 := Aside0.mk hb1; clear hx1 hb1 hg1))
                     clear p_0 q_0 p_1 q_1 p_2 q_2 p_3 q_3 p_4 q_4 p_5 q_5 p_6 q_6 p_7 q_7 p_8 q_8 p_9 q_9 p_10 q_10 p_20 q_20
                     cases z51 : ((x.f10.length : Int) == (y.f10.length : Int)) with
                     | false =>
                       have z51n : ((x.f10.length : Int) != (y.f10.length : Int)) = true := by rw [bne, z51]; rfl
                       go_wp2_with fail
                       go_ret
                       exact ⟨by rw [false_of HH.out (fun he => by subst he; simp at z51)]; rfl, HW.out⟩
                     | true =>
                       have z51n : ((x.f10.length : Int) != (y.f10.length : Int)) = false := by rw [bne, z51]; rfl
                       cases z52 : ((x.f12.length : Int) == (y.f12.length : Int)) with
                       | false =>
                         have z52n : ((x.f12.length : Int) != (y.f12.length : Int)) = true := by rw [bne, z52]; rfl
                         go_wp2_with fail
                         go_ret
                         exact ⟨by rw [false_of HH.out (fun he => by subst he; simp at z52)]; rfl, HW.out⟩
                       | true =>
                         have z52n : ((x.f12.length : Int) != (y.f12.length : Int)) = false := by rw [bne, z52]; rfl
                         cases z53 : ((x.f14.length : Int) == (y.f14.length : Int)) with
                         | false =>
                           have z53n : ((x.f14.length : Int) != (y.f14.length : Int)) = true := by rw [bne, z53]; rfl
                           go_wp2_with fail
                           go_ret
                           exact ⟨by rw [false_of HH.out (fun he => by subst he; simp at z53)]; rfl, HW.out⟩
                         | true =>
                           have z53n : ((x.f14.length : Int) != (y.f14.length : Int)) = false := by rw [bne, z53]; rfl
                           obtain ⟨z54, z54q⟩ := some_bool (x.f9 = y.f9)
                           cases z54 with
                           | false =>
                             have z54m : ¬ (x.f9 = y.f9) := fun he => by have h4 := z54q.2 he; cases h4
                             have z54A := Aside0.mk z54m
                             clear z54q
                             go_wp2_with (go_at_call 55; (with_reducible refine (c_sameOps w0 _ _ _ _ _ _ _ GA11.out GB11.out HA.out false (iff_f z54A.out)).mono ?_); rintro e w3 ⟨rfl, hb3⟩; replace HX1 := Aside0.mk (blk_below hb3 HX1.out); replace HX2 := Aside0.mk (blk_below hb3 HX2.out); replace HW := Aside0.mk (below_step HW.out hb3); replace HA := Aside0.mk (below_step HA.out hb3); clear p_11 q_11 p_12 q_12 p_13 q_13 p_14 q_14 p_15 q_15 p_16 q_16 p_17 q_17 p_18 q_18 p_19 q_19; obtain ⟨_, _, _, _, _, _, _, _, _, _, _, p_11, p_12, p_13, p_14, p_15, p_16, p_17, p_18, p_19, _⟩ := cells21 HCx.out HX1.out; obtain ⟨_, _, _, _, _, _, _, _, _, _, _, q_11, q_12, q_13, q_14, q_15, q_16, q_17, q_18, q_19, _⟩ := cells21 HCy.out HX2.out; clear hb3)
                             go_ret
                             exact ⟨by rw [false_of HH.out (fun he => z54A.out (by rw [he]))]; rfl, HW.out⟩
                           | true =>
                             have z54m := Aside0.mk (z54q.1 rfl)
                             clear z54q
                             obtain ⟨z55, z55q⟩ := some_bool (x.f11 = y.f11)
                             cases z55 with
                             | false =>
                               have z55m : ¬ (x.f11 = y.f11) := fun he => by have h4 := z55q.2 he; cases h4
                               have z55A := Aside0.mk z55m
                               clear z55q
                               go_wp2_with (first | (go_at_call 55; (with_reducible refine (c_sameOps w0 _ _ _ _ _ _ _ GA11.out GB11.out HA.out true (iff_t z54m.out)).mono ?_); rintro e w3 ⟨rfl, hb3⟩; replace HX1 := Aside0.mk (blk_below hb3 HX1.out); replace HX2 := Aside0.mk (blk_below hb3 HX2.out); replace HW := Aside0.mk (below_step HW.out hb3); replace HA := Aside0.mk (below_step HA.out hb3); clear p_11 q_11 p_12 q_12 p_13 q_13 p_14 q_14 p_15 q_15 p_16 q_16 p_17 q_17 p_18 q_18 p_19 q_19; obtain ⟨_, _, _, _, _, _, _, _, _, _, _, p_11, p_12, p_13, p_14, p_15, p_16, p_17, p_18, p_19, _⟩ := cells21 HCx.out HX1.out; obtain ⟨_, _, _, _, _, _, _, _, _, _, _, q_11, q_12, q_13, q_14, q_15, q_16, q_17, q_18, q_19, _⟩ := cells21 HCy.out HX2.out; clear hb3) | (go_at_call 56; (with_reducible refine (c_sameReply w0 _ x.f11 y.f11 _ _ HRx.out HRy.out HA.out false (iff_f z55A.out)).mono ?_); rintro e w3 ⟨rfl, hb3⟩; replace HX1 := Aside0.mk (blk_below hb3 HX1.out); replace HX2 := Aside0.mk (blk_below hb3 HX2.out); replace HW := Aside0.mk (below_step HW.out hb3); replace HA := Aside0.mk (below_step HA.out hb3); clear p_11 q_11 p_12 q_12 p_13 q_13 p_14 q_14 p_15 q_15 p_16 q_16 p_17 q_17 p_18 q_18 p_19 q_19; obtain ⟨_, _, _, _, _, _, _, _, _, _, _, p_11, p_12, p_13, p_14, p_15, p_16, p_17, p_18, p_19, _⟩ := cells21 HCx.out HX1.out; obtain ⟨_, _, _, _, _, _, _, _, _, _, _, q_11, q_12, q_13, q_14, q_15, q_16, q_17, q_18, q_19, _⟩ := cells21 HCy.out HX2.out; clear hb3))
                               go_ret
                               exact ⟨by rw [false_of HH.out (fun he => z55A.out (by rw [he]))]; rfl, HW.out⟩
                             | true =>
                               have z55m := Aside0.mk (z55q.1 rfl)
                               clear z55q
                               obtain ⟨z56, z56q⟩ := some_bool (x.f13 = y.f13)
                               cases z56 with
                               | false =>
                                 have z56m : ¬ (x.f13 = y.f13) := fun he => by have h4 := z56q.2 he; cases h4
                                 have z56A := Aside0.mk z56m
                                 clear z56q
                                 go_wp2_with (first | (go_at_call 55; (with_reducible refine (c_sameOps w0 _ _ _ _ _ _ _ GA11.out GB11.out HA.out true (iff_t z54m.out)).mono ?_); rintro e w3 ⟨rfl, hb3⟩; replace HX1 := Aside0.mk (blk_below hb3 HX1.out); replace HX2 := Aside0.mk (blk_below hb3 HX2.out); replace HW := Aside0.mk (below_step HW.out hb3); replace HA := Aside0.mk (below_step HA.out hb3); clear p_11 q_11 p_12 q_12 p_13 q_13 p_14 q_14 p_15 q_15 p_16 q_16 p_17 q_17 p_18 q_18 p_19 q_19; obtain ⟨_, _, _, _, _, _, _, _, _, _, _, p_11, p_12, p_13, p_14, p_15, p_16, p_17, p_18, p_19, _⟩ := cells21 HCx.out HX1.out; obtain ⟨_, _, _, _, _, _, _, _, _, _, _, q_11, q_12, q_13, q_14, q_15, q_16, q_17, q_18, q_19, _⟩ := cells21 HCy.out HX2.out; clear hb3) | (go_at_call 56; (with_reducible refine (c_sameReply w0 _ x.f11 y.f11 _ _ HRx.out HRy.out HA.out true (iff_t z55m.out)).mono ?_); rintro e w3 ⟨rfl, hb3⟩; replace HX1 := Aside0.mk (blk_below hb3 HX1.out); replace HX2 := Aside0.mk (blk_below hb3 HX2.out); replace HW := Aside0.mk (below_step HW.out hb3); replace HA := Aside0.mk (below_step HA.out hb3); clear p_11 q_11 p_12 q_12 p_13 q_13 p_14 q_14 p_15 q_15 p_16 q_16 p_17 q_17 p_18 q_18 p_19 q_19; obtain ⟨_, _, _, _, _, _, _, _, _, _, _, p_11, p_12, p_13, p_14, p_15, p_16, p_17, p_18, p_19, _⟩ := cells21 HCx.out HX1.out; obtain ⟨_, _, _, _, _, _, _, _, _, _, _, q_11, q_12, q_13, q_14, q_15, q_16, q_17, q_18, q_19, _⟩ := cells21 HCy.out HX2.out; clear hb3) | (go_at_call 57; (with_reducible refine (c_sameParts w0 _ _ _ _ _ _ _ GA18.out GB18.out HA.out false (iff_f z56A.out)).mono ?_); rintro e w3 ⟨rfl, hb3⟩; replace HX1 := Aside0.mk (blk_below hb3 HX1.out); replace HX2 := Aside0.mk (blk_below hb3 HX2.out); replace HW := Aside0.mk (below_step HW.out hb3); replace HA := Aside0.mk (below_step HA.out hb3); clear p_11 q_11 p_12 q_12 p_13 q_13 p_14 q_14 p_15 q_15 p_16 q_16 p_17 q_17 p_18 q_18 p_19 q_19; obtain ⟨_, _, _, _, _, _, _, _, _, _, _, p_11, p_12, p_13, p_14, p_15, p_16, p_17, p_18, p_19, _⟩ := cells21 HCx.out HX1.out; obtain ⟨_, _, _, _, _, _, _, _, _, _, _, q_11, q_12, q_13, q_14, q_15, q_16, q_17, q_18, q_19, _⟩ := cells21 HCy.out HX2.out; clear hb3))
                                 go_ret
                                 exact ⟨by rw [false_of HH.out (fun he => z56A.out (by rw [he]))]; rfl, HW.out⟩
                               | true =>
                                 have z56m := Aside0.mk (z56q.1 rfl)
                                 clear z56q
                                 have HK0 := Aside0.mk (eq_of_beq z1)
                                 have HK1 := Aside0.mk z2m.out
                                 have HK2 := Aside0.mk (eq_of_beq z3)
                                 have HK3 := Aside0.mk (eq_of_beq z4)
                                 have HK4 := Aside0.mk (eq_of_beq z5)
                                 have HK5 := Aside0.mk (eq_of_beq z6)
                                 have HK6 := Aside0.mk (eq_of_beq z7)
                                 have HK7 := Aside0.mk (eq_of_beq z8)
                                 have HK8 := Aside0.mk (eq_of_beq z9)
                                 have HK9 := Aside0.mk (str_eq z10)
                                 have HK10 := Aside0.mk (Int.ofNat.inj (eq_of_beq z51))
                                 have HK11 := Aside0.mk (Int.ofNat.inj (eq_of_beq z52))
                                 have HK12 := Aside0.mk (Int.ofNat.inj (eq_of_beq z53))
                                 have HK13 := Aside0.mk z54m.out
                                 have HK14 := Aside0.mk z55m.out
                                 have HK15 := Aside0.mk z56m.out
                                 go_wp2_with (first | (go_at_call 55; (with_reducible refine (c_sameOps w0 _ _ _ _ _ _ _ GA11.out GB11.out HA.out true (iff_t z54m.out)).mono ?_); rintro e w3 ⟨rfl, hb3⟩; replace HX1 := Aside0.mk (blk_below hb3 HX1.out); replace HX2 := Aside0.mk (blk_below hb3 HX2.out); replace HW := Aside0.mk (below_step HW.out hb3); replace HA := Aside0.mk (below_step HA.out hb3); clear p_11 q_11 p_12 q_12 p_13 q_13 p_14 q_14 p_15 q_15 p_16 q_16 p_17 q_17 p_18 q_18 p_19 q_19; obtain ⟨_, _, _, _, _, _, _, _, _, _, _, p_11, p_12, p_13, p_14, p_15, p_16, p_17, p_18, p_19, _⟩ := cells21 HCx.out HX1.out; obtain ⟨_, _, _, _, _, _, _, _, _, _, _, q_11, q_12, q_13, q_14, q_15, q_16, q_17, q_18, q_19, _⟩ := cells21 HCy.out HX2.out; clear hb3) | (go_at_call 56; (with_reducible refine (c_sameReply w0 _ x.f11 y.f11 _ _ HRx.out HRy.out HA.out true (iff_t z55m.out)).mono ?_); rintro e w3 ⟨rfl, hb3⟩; replace HX1 := Aside0.mk (blk_below hb3 HX1.out); replace HX2 := Aside0.mk (blk_below hb3 HX2.out); replace HW := Aside0.mk (below_step HW.out hb3); replace HA := Aside0.mk (below_step HA.out hb3); clear p_11 q_11 p_12 q_12 p_13 q_13 p_14 q_14 p_15 q_15 p_16 q_16 p_17 q_17 p_18 q_18 p_19 q_19; obtain ⟨_, _, _, _, _, _, _, _, _, _, _, p_11, p_12, p_13, p_14, p_15, p_16, p_17, p_18, p_19, _⟩ := cells21 HCx.out HX1.out; obtain ⟨_, _, _, _, _, _, _, _, _, _, _, q_11, q_12, q_13, q_14, q_15, q_16, q_17, q_18, q_19, _⟩ := cells21 HCy.out HX2.out; clear hb3) | (go_at_call 57; (with_reducible refine (c_sameParts w0 _ _ _ _ _ _ _ GA18.out GB18.out HA.out true (iff_t z56m.out)).mono ?_); rintro e w3 ⟨rfl, hb3⟩; replace HX1 := Aside0.mk (blk_below hb3 HX1.out); replace HX2 := Aside0.mk (blk_below hb3 HX2.out); replace HW := Aside0.mk (below_step HW.out hb3); replace HA := Aside0.mk (below_step HA.out hb3); clear p_11 q_11 p_12 q_12 p_13 q_13 p_14 q_14 p_15 q_15 p_16 q_16 p_17 q_17 p_18 q_18 p_19 q_19; obtain ⟨_, _, _, _, _, _, _, _, _, _, _, p_11, p_12, p_13, p_14, p_15, p_16, p_17, p_18, p_19, _⟩ := cells21 HCx.out HX1.out; obtain ⟨_, _, _, _, _, _, _, _, _, _, _, q_11, q_12, q_13, q_14, q_15, q_16, q_17, q_18, q_19, _⟩ := cells21 HCy.out HX2.out; clear hb3))
                                 go_loopw [5] (fun v wr => ∃ k : Nat, v = .int .i64 k ∧ k ≤ x.f10.length ∧ Aside0 (∀ j, j < k → x.f10[j]? = y.f10[j]?) ∧ Aside0 (Below W.heap.size W wr) ∧ Aside0 (wr.heap[g1]? = some (.cells cs.toArray 34 (0, 0))) ∧ Aside0 (wr.heap[g2]? = some (.cells ds.toArray 34 (0, 0)))) (fun v _ => x.f10.length - (intOf v).toNat)
                                 case atStart => exact ⟨0, rfl, Nat.zero_le _, ⟨fun j hj => by omega⟩, HW, HX1, HX2⟩
                                 case round =>
                                  clear HW HX1 HX2 HA p_11 q_11 p_12 q_12 p_13 q_13 p_14 q_14 p_15 q_15 p_16 q_16 p_17 q_17 p_18 q_18 p_19 q_19
                                  obtain ⟨k, rfl, hk, HS, HW, HX1, HX2⟩ := hrel
                                  have HA := Aside0.mk (below_step H0.out HW.out)
                                  obtain ⟨_, _, _, _, _, _, _, _, _, _, _, _, p_12, _, _, _, _, p_17, _, p_19, _⟩ := cells21 HCx.out HX1.out
                                  obtain ⟨_, _, _, _, _, _, _, _, _, _, _, _, q_12, _, _, _, _, q_17, _, q_19, _⟩ := cells21 HCy.out HX2.out
                                  have hl2 := HK10.out
                                  by_cases hlt : k < x.f10.length
                                  · obtain ⟨u, hu⟩ : ∃ u, x.f10[k]? = some u := ⟨_, List.getElem?_eq_getElem hlt⟩
                                    obtain ⟨v, hv⟩ : ∃ v, y.f10[k]? = some v := ⟨_, List.getElem?_eq_getElem (by omega)⟩
                                    have hata := at_T55 GA12.out (k : Int) (by omega) (by omega)
                                    rw [show rd_T55 x.f10 (k : Int) = u by unfold rd_T55; rw [Int.toNat_natCast, List.getD_eq_getElem?_getD, hu]; rfl, Int.toNat_natCast] at hata
                                    obtain ⟨ad, P5, s5, rfl, a_0, a_1, a_2, a_3, a_4, a_5, l5, g5⟩ := hata
                                    have hku := k55_mk w0 u l5 g5
                                    replace a_0 := pw_cell_below HA.out a_0
                                    replace a_1 := pw_cell_below HA.out a_1
                                    replace a_2 := pw_cell_below HA.out a_2
                                    replace a_3 := pw_cell_below HA.out a_3
                                    replace a_4 := pw_cell_below HA.out a_4
                                    replace a_5 := pw_cell_below HA.out a_5
                                    have hatb := at_T55 GB12.out (k : Int) (by omega) (by omega)
                                    rw [show rd_T55 y.f10 (k : Int) = v by unfold rd_T55; rw [Int.toNat_natCast, List.getD_eq_getElem?_getD, hv]; rfl, Int.toNat_natCast] at hatb
                                    obtain ⟨bd, Q5, t5, rfl, b_0, b_1, b_2, b_3, b_4, b_5, m5, e5⟩ := hatb
                                    have hkv := k55_mk w0 v m5 e5
                                    replace b_0 := pw_cell_below HA.out b_0
                                    replace b_1 := pw_cell_below HA.out b_1
                                    replace b_2 := pw_cell_below HA.out b_2
                                    replace b_3 := pw_cell_below HA.out b_3
                                    replace b_4 := pw_cell_below HA.out b_4
                                    replace b_5 := pw_cell_below HA.out b_5
                                    have HU := Aside0.mk hu
                                    have HV := Aside0.mk hv
                                    have HKU := Aside0.mk hku
                                    have HKV := Aside0.mk hkv
                                    have hky : k < y.f10.length := by omega
                                    clear hu hv hl2 hku hkv
                                    by_cases hz : u = v
                                    · have HQ := Aside0.mk hz
                                      clear hz
                                      go_wp2_with fail
                                      go_still_tail 10, (by kernel_rfl)
                                      change wpList _ _ _ _ _ wr.drew
                                      have hd : Below wr.heap.size wr wr.drew := below_drew (Below.refl _ _)
                                      generalize wr.drew = w5 at hd ⊢
                                      replace HX1 := Aside0.mk (blk_below hd HX1.out)
                                      replace HX2 := Aside0.mk (blk_below hd HX2.out)
                                      replace HW := Aside0.mk (below_step HW.out hd)
                                      replace HA := Aside0.mk (below_step HA.out hd)
                                      clear hd
                                      go_wp2_with (go_at_call 30; (with_reducible refine (c_sameEntry w0 _ u v _ _ HKU.out HKV.out HA.out true (iff_t HQ.out)).mono ?_); rintro e w6 ⟨rfl, hb6⟩; have HX1' := Aside0.mk (blk_below hb6 HX1.out); have HX2' := Aside0.mk (blk_below hb6 HX2.out); have HW' := Aside0.mk (below_step HW.out hb6); clear hb6)
                                      go_roundw
                                      case rel => exact ⟨k + 1, by go_num, by omega, ⟨row_upto HS.out HU.out HV.out HQ.out⟩, HW', HX1', HX2'⟩
                                      case measure => simp [intOf]; omega
                                    · have HQ := Aside0.mk hz
                                      clear hz
                                      go_wp2_with fail
                                      go_still_tail 10, (by kernel_rfl)
                                      change wpList _ _ _ _ _ wr.drew
                                      have hd : Below wr.heap.size wr wr.drew := below_drew (Below.refl _ _)
                                      generalize wr.drew = w5 at hd ⊢
                                      replace HX1 := Aside0.mk (blk_below hd HX1.out)
                                      replace HX2 := Aside0.mk (blk_below hd HX2.out)
                                      replace HW := Aside0.mk (below_step HW.out hd)
                                      replace HA := Aside0.mk (below_step HA.out hd)
                                      clear hd
                                      go_wp2_with (go_at_call 30; (with_reducible refine (c_sameEntry w0 _ u v _ _ HKU.out HKV.out HA.out false (iff_f HQ.out)).mono ?_); rintro e w6 ⟨rfl, hb6⟩; have HX1' := Aside0.mk (blk_below hb6 HX1.out); have HX2' := Aside0.mk (blk_below hb6 HX2.out); have HW' := Aside0.mk (below_step HW.out hb6); clear hb6)
                                      go_ret
                                      exact ⟨by rw [false_of HH.out (fun he => by subst he; have h3 := HU.out.symm.trans HV.out; exact HQ.out (Option.some.inj h3))]; rfl, HW'.out⟩
                                  · clear hl2
                                    have HE10 := Aside0.mk (row_all HS.out HK10.out (by omega))
                                    go_wp2_with fail
                                    go_loopw [7] (fun v wr => ∃ k : Nat, v = .int .i64 k ∧ k ≤ x.f12.length ∧ Aside0 (∀ j, j < k → x.f12[j]? = y.f12[j]?) ∧ Aside0 (Below W.heap.size W wr) ∧ Aside0 (wr.heap[g1]? = some (.cells cs.toArray 34 (0, 0))) ∧ Aside0 (wr.heap[g2]? = some (.cells ds.toArray 34 (0, 0)))) (fun v _ => x.f12.length - (intOf v).toNat)
                                    case atStart => exact ⟨0, rfl, Nat.zero_le _, ⟨fun j hj => by omega⟩, HW, HX1, HX2⟩
                                    case round =>
                                      clear HW HX1 HX2 HA p_12 q_12 p_17 q_17 p_19 q_19
                                      obtain ⟨k, rfl, hk, HS, HW, HX1, HX2⟩ := hrel
                                      have HA := Aside0.mk (below_step H0.out HW.out)
                                      obtain ⟨_, _, _, _, _, _, _, _, _, _, _, _, p_12, _, _, _, _, p_17, _, p_19, _⟩ := cells21 HCx.out HX1.out
                                      obtain ⟨_, _, _, _, _, _, _, _, _, _, _, _, q_12, _, _, _, _, q_17, _, q_19, _⟩ := cells21 HCy.out HX2.out
                                      have hl2 := HK11.out
                                      by_cases hlt : k < x.f12.length
                                      · obtain ⟨u, hu⟩ : ∃ u, x.f12[k]? = some u := ⟨_, List.getElem?_eq_getElem hlt⟩
                                        obtain ⟨v, hv⟩ : ∃ v, y.f12[k]? = some v := ⟨_, List.getElem?_eq_getElem (by omega)⟩
                                        have hata := at_T96 GA17.out (k : Int) (by omega) (by omega)
                                        rw [show rd_T96 x.f12 (k : Int) = u by unfold rd_T96; rw [Int.toNat_natCast, List.getD_eq_getElem?_getD, hu]; rfl, Int.toNat_natCast] at hata
                                        obtain ⟨ad, rfl, a_0, a_1, a_2, a_3⟩ := hata
                                        replace a_0 := pw_cell_below HA.out a_0
                                        replace a_1 := pw_cell_below HA.out a_1
                                        replace a_2 := pw_cell_below HA.out a_2
                                        replace a_3 := pw_cell_below HA.out a_3
                                        have hatb := at_T96 GB17.out (k : Int) (by omega) (by omega)
                                        rw [show rd_T96 y.f12 (k : Int) = v by unfold rd_T96; rw [Int.toNat_natCast, List.getD_eq_getElem?_getD, hv]; rfl, Int.toNat_natCast] at hatb
                                        obtain ⟨bd, rfl, b_0, b_1, b_2, b_3⟩ := hatb
                                        replace b_0 := pw_cell_below HA.out b_0
                                        replace b_1 := pw_cell_below HA.out b_1
                                        replace b_2 := pw_cell_below HA.out b_2
                                        replace b_3 := pw_cell_below HA.out b_3
                                        have HU := Aside0.mk hu
                                        have HV := Aside0.mk hv
                                        have hky : k < y.f12.length := by omega
                                        clear hu hv hl2
                                        obtain ⟨z, hz⟩ := some_bool (u = v)
                                        cases z with
                                        | true =>
                                          have hne := neq_Watch u v hz
                                          have HE := Aside0.mk (hz.1 rfl)
                                          clear hz
                                          go_wp2_with (go_quiet (fail))
                                          go_roundw
                                          case rel => exact ⟨k + 1, by go_num, by omega, ⟨row_upto HS.out HU.out HV.out HE.out⟩, ⟨drewn_ HW.out nq⟩, ⟨HX1.out⟩, ⟨HX2.out⟩⟩
                                          case measure => simp [intOf]; omega
                                        | false =>
                                          have hne := neq_Watch u v hz
                                          have HE := Aside0.mk (false_of HH.out (fun he => by subst he; have h3 := HU.out.symm.trans HV.out; have h4 := hz.2 (Option.some.inj h3); cases h4))
                                          clear hz
                                          go_wp2_with (go_quiet (fail))
                                          go_ret
                                          exact ⟨by rw [HE.out]; rfl, drewn_ HW.out nq⟩
                                      · clear hl2
                                        have HE12 := Aside0.mk (row_all HS.out HK11.out (by omega))
                                        go_wp2_with fail
                                        go_loopw [8] (fun v wr => ∃ k : Nat, v = .int .i64 k ∧ k ≤ x.f14.length ∧ Aside0 (∀ j, j < k → x.f14[j]? = y.f14[j]?) ∧ Aside0 (Below W.heap.size W wr) ∧ Aside0 (wr.heap[g1]? = some (.cells cs.toArray 34 (0, 0))) ∧ Aside0 (wr.heap[g2]? = some (.cells ds.toArray 34 (0, 0)))) (fun v _ => x.f14.length - (intOf v).toNat)
                                        case atStart => exact ⟨0, rfl, Nat.zero_le _, ⟨fun j hj => by omega⟩, HW, HX1, HX2⟩
                                        case round =>
                                          clear HW HX1 HX2 HA p_12 q_12 p_17 q_17 p_19 q_19
                                          obtain ⟨k, rfl, hk, HS, HW, HX1, HX2⟩ := hrel
                                          have HA := Aside0.mk (below_step H0.out HW.out)
                                          obtain ⟨_, _, _, _, _, _, _, _, _, _, _, _, p_12, _, _, _, _, p_17, _, p_19, _⟩ := cells21 HCx.out HX1.out
                                          obtain ⟨_, _, _, _, _, _, _, _, _, _, _, _, q_12, _, _, _, _, q_17, _, q_19, _⟩ := cells21 HCy.out HX2.out
                                          have hl2 := HK12.out
                                          by_cases hlt : k < x.f14.length
                                          · obtain ⟨u, hu⟩ : ∃ u, x.f14[k]? = some u := ⟨_, List.getElem?_eq_getElem hlt⟩
                                            obtain ⟨v, hv⟩ : ∃ v, y.f14[k]? = some v := ⟨_, List.getElem?_eq_getElem (by omega)⟩
                                            have hata := at_T91 GA19.out (k : Int) (by omega) (by omega)
                                            rw [show rd_T91 x.f14 (k : Int) = u by unfold rd_T91; rw [Int.toNat_natCast, List.getD_eq_getElem?_getD, hu]; rfl, Int.toNat_natCast] at hata
                                            obtain ⟨ad, P3, s3, P4, s4, rfl, a_0, a_1, a_2, a_3, a_4, l3, g3, l4, g4⟩ := hata
                                            have hku := k91_mk w0 u l3 g3 l4 g4
                                            replace a_0 := pw_cell_below HA.out a_0
                                            replace a_1 := pw_cell_below HA.out a_1
                                            replace a_2 := pw_cell_below HA.out a_2
                                            replace a_3 := pw_cell_below HA.out a_3
                                            replace a_4 := pw_cell_below HA.out a_4
                                            have hatb := at_T91 GB19.out (k : Int) (by omega) (by omega)
                                            rw [show rd_T91 y.f14 (k : Int) = v by unfold rd_T91; rw [Int.toNat_natCast, List.getD_eq_getElem?_getD, hv]; rfl, Int.toNat_natCast] at hatb
                                            obtain ⟨bd, Q3, t3, Q4, t4, rfl, b_0, b_1, b_2, b_3, b_4, m3, e3, m4, e4⟩ := hatb
                                            have hkv := k91_mk w0 v m3 e3 m4 e4
                                            replace b_0 := pw_cell_below HA.out b_0
                                            replace b_1 := pw_cell_below HA.out b_1
                                            replace b_2 := pw_cell_below HA.out b_2
                                            replace b_3 := pw_cell_below HA.out b_3
                                            replace b_4 := pw_cell_below HA.out b_4
                                            have HU := Aside0.mk hu
                                            have HV := Aside0.mk hv
                                            have HKU := Aside0.mk hku
                                            have HKV := Aside0.mk hkv
                                            have hky : k < y.f14.length := by omega
                                            clear hu hv hl2 hku hkv
                                            by_cases hz : u = v
                                            · have HQ := Aside0.mk hz
                                              clear hz
                                              go_wp2_with fail
                                              go_still_tail 10, (by kernel_rfl)
                                              change wpList _ _ _ _ _ wr.drew
                                              have hd : Below wr.heap.size wr wr.drew := below_drew (Below.refl _ _)
                                              generalize wr.drew = w5 at hd ⊢
                                              replace HX1 := Aside0.mk (blk_below hd HX1.out)
                                              replace HX2 := Aside0.mk (blk_below hd HX2.out)
                                              replace HW := Aside0.mk (below_step HW.out hd)
                                              replace HA := Aside0.mk (below_step HA.out hd)
                                              clear hd
                                              go_wp2_with (go_at_call 58; (with_reducible refine (c_sameItem w0 _ u v _ _ HKU.out HKV.out HA.out true (iff_t HQ.out)).mono ?_); rintro e w6 ⟨rfl, hb6⟩; have HX1' := Aside0.mk (blk_below hb6 HX1.out); have HX2' := Aside0.mk (blk_below hb6 HX2.out); have HW' := Aside0.mk (below_step HW.out hb6); clear hb6)
                                              go_roundw
                                              case rel => exact ⟨k + 1, by go_num, by omega, ⟨row_upto HS.out HU.out HV.out HQ.out⟩, HW', HX1', HX2'⟩
                                              case measure => simp [intOf]; omega
                                            · have HQ := Aside0.mk hz
                                              clear hz
                                              go_wp2_with fail
                                              go_still_tail 10, (by kernel_rfl)
                                              change wpList _ _ _ _ _ wr.drew
                                              have hd : Below wr.heap.size wr wr.drew := below_drew (Below.refl _ _)
                                              generalize wr.drew = w5 at hd ⊢
                                              replace HX1 := Aside0.mk (blk_below hd HX1.out)
                                              replace HX2 := Aside0.mk (blk_below hd HX2.out)
                                              replace HW := Aside0.mk (below_step HW.out hd)
                                              replace HA := Aside0.mk (below_step HA.out hd)
                                              clear hd
                                              go_wp2_with (go_at_call 58; (with_reducible refine (c_sameItem w0 _ u v _ _ HKU.out HKV.out HA.out false (iff_f HQ.out)).mono ?_); rintro e w6 ⟨rfl, hb6⟩; have HX1' := Aside0.mk (blk_below hb6 HX1.out); have HX2' := Aside0.mk (blk_below hb6 HX2.out); have HW' := Aside0.mk (below_step HW.out hb6); clear hb6)
                                              go_ret
                                              exact ⟨by rw [false_of HH.out (fun he => by subst he; have h3 := HU.out.symm.trans HV.out; exact HQ.out (Option.some.inj h3))]; rfl, HW'.out⟩
                                          · clear hl2
                                            have HE14 := Aside0.mk (row_all HS.out HK12.out (by omega))
                                            go_wp2_with fail
                                            go_ret
                                            exact ⟨by rw [true_of HH.out (ext_Note HK0.out HK1.out HK2.out HK3.out HK4.out HK5.out HK6.out HK7.out HK8.out HK13.out HE10.out HK14.out HE12.out HK15.out HE14.out HK9.out)]; rfl, HW.out⟩
end Go.Proofs.YtmneemhplffemaaGreatDoorRR.Same
namespace Go.Proofs.YtmneemhplffemaaGreatDoorRR.Same
open Go.RowKit Go.Proofs.YtmneemhplffemaaGreatDoorRR.Row Go.Proofs.YtmneemhplffemaaGreatDoorRR.Ord Go.Proofs.YtmneemhplffemaaGreatDoorRR.Name Go.Proofs.YtmneemhplffemaaGreatDoorRR.Chk Go.Proofs.YtmneemhplffemaaGreatDoorRR.May Go.Proofs.YtmneemhplffemaaGreatDoorRR.Ext Go.Proofs.YtmneemhplffemaaGreatDoorRR.Wire Go.Proofs.YtmneemhplffemaaGreatDoorRR.Mem Go.Proofs.YtmneemhplffemaaGreatDoorRR.Put Go.Proofs.YtmneemhplffemaaGreatDoorRR.Get Go.Proofs.YtmneemhplffemaaGreatDoorRR.Law Go.Proofs.YtmneemhplffemaaGreatDoorRR.Ki Go.Proofs.YtmneemhplffemaaGreatDoorRR.Tab Go.Proofs.YtmneemhplffemaaGreatDoorRR.Arg Go.Proofs.YtmneemhplffemaaGreatDoorRRW.PrintWords


set_option maxRecDepth 100000 in
set_option maxHeartbeats 8000000 in
theorem c_returns (W : World) (x : Note) (cs : List Value) (hK : k34.K W x cs) (hO : OkNote x) (HE : EnvN W) :
   Calls Tryz.prog 6 #[.agg cs.toArray] W fun e W' => e = .returned (.bool true) ∧ Below W.heap.size W W' := by
 have HE := Aside0.mk HE
 have HK := Aside0.mk hK
 have HO := Aside0.mk hO
 have HSZ := Aside0.mk (cs_size hK)
 have HSA := Aside0.mk (ok_sane hO)
 clear hK hO
 go_enter Tryz.func6, Tryz.ntmps6
 go_upto_region 4 with (first | ((with_reducible refine gate_box (t := 34) rfl ?_); refine box_row rfl rfl rfl ?_; intro g1 hg1 w1 hbx hb1; have HX1 := Aside0.mk hbx; have HB1 := Aside0.mk hb1; clear hbx hb1 hg1) | (go_at_call 15; (with_reducible refine (c_begins _ (HE.out.at_ HB1.out)).mono ?_); rintro e w2 ⟨rfl, hb2⟩; have HX2 := Aside0.mk (blk_below hb2 HX1.out); have HB2 := Aside0.mk (below_step HB1.out hb2); clear hb2))
 go_upto_region 5 with (first | ((with_reducible refine gate_load (t := 34) rfl ?_); (try refine gate_guard (by rfl) ?_); first | refine load_row rfl rfl Tryz.underlying34 rfl HX2.out rfl HSZ.out ?_) | (go_at_call 26; (with_reducible refine (Cop.c_copied W w2 x cs HK.out HO.out HB2.out).mono ?_); rintro e w3 ⟨ds, rfl, hb3, hm3⟩; have HX3 := Aside0.mk (blk_below hb3 HX2.out); have HB3 := Aside0.mk (below_step HB2.out hb3); have HKD := Aside0.mk (k34.K_of_M hm3); have HSD := Aside0.mk (cs_size HKD.out); clear hb3 hm3) | ((with_reducible refine gate_store2 (t := 34) rfl ?_); refine store_row (old := zeroCells.toArray) (cs := ds.toArray) rfl rfl rfl (Mem.blk_alloc _) rfl rfl HSD.out (note_size HKD.out) (note_one HKD.out) ?_; intro w4 hm4 hx4; have hb4 := Moved.above_ hm4 (Nat.le_refl _); have HY4 := Aside0.mk hx4; have HKD4 := Aside0.mk (k34.K_below hb4 HKD.out); have HX4 := Aside0.mk (blk_below hb4 HX3.out); have HB4 := Aside0.mk (below_step HB3.out hb4); clear hm4 hx4 hb4))
 cases hmx : mCheck x with
 | false =>
   have HMX := Aside0.mk hmx
   clear hmx
   go_wp2_with (first | ((with_reducible refine gate_load (t := 34) rfl ?_); (try refine gate_guard (by rfl) ?_); first | refine load_row rfl rfl Tryz.underlying34 rfl HX5.out rfl HSZ.out ?_ | refine load_row rfl rfl Tryz.underlying34 rfl HX4.out rfl HSZ.out ?_) | (go_at_call 17; have hcf := c_checkP W w4 x cs HK.out HB4.out HE.out HSA.out; rw [HMX.out] at hcf; (with_reducible refine hcf.mono ?_); clear hcf; rintro e w5 ⟨rfl, hb⟩; have HX5 := Aside0.mk (blk_below hb HX4.out); have HY5 := Aside0.mk (blk_below hb HY4.out); have HKD5 := Aside0.mk (k34.K_below hb HKD4.out); have HB5 := Aside0.mk (below_step HB4.out hb); clear hb) | (go_at_call 21; (with_reducible refine (c_encodeP W w5 x cs HK.out HB5.out HE.out HSA.out).mono ?_); rintro e w6 ⟨hb, hno, _⟩; obtain rfl := hno HMX.out; have HB6 := Aside0.mk (below_step HB5.out hb); clear hno hb))
   go_ret
   exact ⟨rfl, HB6.out⟩
 | true =>
   have HMX := Aside0.mk hmx
   have HFN := Aside0.mk (fine_note hmx)
   have HDN := Aside0.mk (dNote_of (checked hmx))
   clear hmx
   go_upto_region 11 with (first | ((with_reducible refine gate_load (t := 34) rfl ?_); (try refine gate_guard (by rfl) ?_); first | refine load_row rfl rfl Tryz.underlying34 rfl HX5.out rfl HSZ.out ?_ | refine load_row rfl rfl Tryz.underlying34 rfl HX4.out rfl HSZ.out ?_) | (go_at_call 17; have hcf := c_checkP W w4 x cs HK.out HB4.out HE.out HSA.out; rw [HMX.out] at hcf; (with_reducible refine hcf.mono ?_); clear hcf; rintro e w5 ⟨rfl, hb⟩; have HX5 := Aside0.mk (blk_below hb HX4.out); have HY5 := Aside0.mk (blk_below hb HY4.out); have HKD5 := Aside0.mk (k34.K_below hb HKD4.out); have HB5 := Aside0.mk (below_step HB4.out hb); clear hb) | (go_at_call 21; (with_reducible refine (c_encodeP W w5 x cs HK.out HB5.out HE.out HSA.out).mono ?_); rintro e w6 ⟨hb, _, hok⟩; obtain ⟨v, rfl, hv⟩ := hok HMX.out; obtain ⟨B, d, rfl⟩ := Kd.R_slice hv; have hv3 := Kd.R_reads' hv; have HV6 := Aside0.mk hv3.2.2; have HVC := Aside0.mk hv3.2.1; have HY6 := Aside0.mk (blk_below hb HY5.out); have HKD6 := Aside0.mk (k34.K_below hb HKD5.out); have HB6 := Aside0.mk (below_step HB5.out hb); clear hok hv hv3 hb))
   go_upto_region 12 with (first | (go_at_call 24; have hcf := c_decodeP w6 w6 B d (encNote x) (Get.Data.mk HV6.out HFN.out.2 HVC.out (by have := HFN.out.1; omega)) (Below.refl _ _) (HE.out.at_ HB6.out); (with_reducible refine hcf.mono ?_); clear hcf; rintro e w7 ⟨hb, _, hok, _⟩; obtain ⟨es, hM7, rfl⟩ := hok (by have := HFN.out.1; omega) x HDN.out HMX.out; have HKE := Aside0.mk (k34.K_of_M hM7); have HSE := Aside0.mk (cs_size HKE.out); have HY7 := Aside0.mk (blk_below hb HY6.out); have HKD7 := Aside0.mk (k34.K_below hb HKD6.out); have HV7 := Aside0.mk (Kd.C_below HV6.out hb); have HB7 := Aside0.mk (below_step HB6.out hb); clear hok hM7 hb) | ((with_reducible refine gate_store2 (t := 34) rfl ?_); refine store_row (old := zeroCells.toArray) (cs := es.toArray) rfl rfl rfl (Mem.blk_alloc _) rfl rfl HSE.out (note_size HKE.out) (note_one HKE.out) ?_; intro w8 hm8 hx8; have hb8 := Moved.above_ hm8 (Nat.le_refl _); have HZ8 := Aside0.mk hx8; have HKE8 := Aside0.mk (k34.K_below hb8 HKE.out); have HY8 := Aside0.mk (blk_below hb8 HY7.out); have HKD8 := Aside0.mk (k34.K_below hb8 HKD7.out); have HV8 := Aside0.mk (Kd.C_below HV7.out hb8); have HB8 := Aside0.mk (below_step HB7.out hb8); clear hm8 hx8 hb8))
   go_upto_region 13 with (first | ((with_reducible refine gate_load (t := 34) rfl ?_); (try refine gate_guard (by rfl) ?_); first | refine load_row rfl rfl Tryz.underlying34 rfl HZ8.out rfl HSE.out ?_) | (go_at_call 21; (with_reducible refine (c_encodeP w8 w8 x es HKE8.out (Below.refl _ _) (HE.out.at_ HB8.out) HSA.out).mono ?_); rintro e w9 ⟨hb, _, hok⟩; obtain ⟨v, rfl, hv⟩ := hok HMX.out; obtain ⟨B2, d2, rfl⟩ := Kd.R_slice hv; have HU9 := Aside0.mk (Kd.R_reads' hv).2.2; have HV9 := Aside0.mk (Kd.C_below HV8.out hb); have HZ9 := Aside0.mk (blk_below hb HZ8.out); have HY9 := Aside0.mk (blk_below hb HY8.out); have HKE9 := Aside0.mk (k34.K_below hb HKE8.out); have HKD9 := Aside0.mk (k34.K_below hb HKD8.out); have HB9 := Aside0.mk (below_step HB8.out hb); clear hok hv hb))
   go_wp2_with (first | ((with_reducible refine gate_load (t := 34) rfl ?_); (try refine gate_guard (by rfl) ?_); first | refine load_row rfl rfl Tryz.underlying34 rfl HZ9.out rfl HSE.out ?_ | refine load_row rfl rfl Tryz.underlying34 rfl HY9.out rfl HSD.out ?_) | (go_at_call 19; have hcf := c_same w9 w9 x x es ds HKE9.out HKD9.out (Below.refl _ _) true (iff_t rfl); (refine hcf.mono ?_); clear hcf; rintro e w10 ⟨rfl, hb⟩; have HV10 := Aside0.mk (Kd.C_below HV9.out hb); have HU10 := Aside0.mk (Kd.C_below HU9.out hb); have HB10 := Aside0.mk (below_step HB9.out hb); clear hb) | (go_at_call 23; have hcb := c_bytes w10 B B2 d d2 (encNote x) (encNote x) HV10.out HU10.out; rw [decide_eq_true rfl] at hcb; (refine hcb.mono ?_); clear hcb; rintro e w11 ⟨rfl, hb⟩; have HB11 := Aside0.mk (below_step HB10.out hb); clear hb))
   go_ret
   exact ⟨rfl, HB11.out⟩
end Go.Proofs.YtmneemhplffemaaGreatDoorRR.Same
namespace Go.Proofs.YtmneemhplffemaaGreatDoorRR.Law3
open Go.RowKit Go.Proofs.YtmneemhplffemaaGreatDoorRR.Chk Go.Proofs.YtmneemhplffemaaGreatDoorRR.Law Go.Proofs.YtmneemhplffemaaGreatDoorRR.Ki Go.Proofs.YtmneemhplffemaaGreatDoorRR.Arg Go.Proofs.YtmneemhplffemaaGreatDoorRRW.PrintWords
theorem returns (x : Note) (cs : List Value) (W : World) (hK : k34.K W x cs) (hO : OkNote x) (HE : EnvN W) :
  Calls Tryz.prog 6 #[.agg cs.toArray] W fun e W' => e = .returned (.bool true) ∧ Below W.heap.size W W' :=
 Same.c_returns W x cs hK hO HE
end Go.Proofs.YtmneemhplffemaaGreatDoorRR.Law3
namespace Go.Proofs.YtmneemhplffemaaGreatDoorRR.noteReturns
open Go.ChangeShapes Go.WideShapes Go.ChangeAt Go.RowKit Go.Proofs.YtmneemhplffemaaGreatDoorRRW
open Go.ChangeMaps (open_string shut_string)


theorem own : ownKnob Tryz.prog.godebug = none := by kernel_rfl
theorem laidOut : laidOutB Tryz.prog = true := by kernel_rfl
theorem laid_met (os : Os) : laidMet Tryz.prog Rows.noteReturnsRow.laid ((Ext.laidWorld os).forCall (fun _ _ => 0) ⟨#[], #[.agg #[.int .i64 0, .int .i64 0, .int .i64 0, .int .i64 0, .int .i64 0, .int .i64 0, .int .i64 0, .int .i64 0, .int .i64 0, .int .i64 0, .int .i64 0, .slice none 0 0, .slice none 0 0, .int .i64 0, .int .i64 0, .int .i64 0, .slice none 0 0, .slice none 0 0, .slice none 0 0, .slice none 0 0, .string ByteArray.empty]], []⟩).memory := laidMet_of_run' 8 (by kernel_rfl) (by kernel_rfl)
theorem reads (os : Os) {H : Type} (enc : TypeId × Value → H) : ∃ places, DataW.whole enc Tryz.prog ((Ext.laidWorld os).forCall (fun _ _ => 0) ⟨#[], #[.agg #[.int .i64 0, .int .i64 0, .int .i64 0, .int .i64 0, .int .i64 0, .int .i64 0, .int .i64 0, .int .i64 0, .int .i64 0, .int .i64 0, .int .i64 0, .slice none 0 0, .slice none 0 0, .int .i64 0, .int .i64 0, .int .i64 0, .slice none 0 0, .slice none 0 0, .slice none 0 0, .slice none 0 0, .string ByteArray.empty]], []⟩).memory Tryz.f6.params.toList Rows.noteReturnsSpec.vars false (#[.agg #[.int .i64 0, .int .i64 0, .int .i64 0, .int .i64 0, .int .i64 0, .int .i64 0, .int .i64 0, .int .i64 0, .int .i64 0, .int .i64 0, .int .i64 0, .slice none 0 0, .slice none 0 0, .int .i64 0, .int .i64 0, .int .i64 0, .slice none 0 0, .slice none 0 0, .slice none 0 0, .slice none 0 0, .string ByteArray.empty]] : Array Value).toList 8 = some ([.agg [.lit (.int .i64 0), .agg [.lit (.int .i64 0), .lit (.int .i64 0), .lit (.int .i64 0)], .lit (.int .i64 0), .lit (.int .i64 0), .lit (.int .i64 0), .lit (.int .i64 0), .lit (.int .i64 0), .lit (.int .i64 0), .lit (.int .i64 0), .nil, .nil, .agg [.lit (.int .i64 0), .lit (.int .i64 0), .lit (.int .i64 0), .nil], .nil, .nil, .nil, .lit (.string [])]], [], places) := ⟨[], by kernel_rfl⟩
set_option maxRecDepth 100000 in
theorem contract (H : Type) (enc : TypeId × Value → H) (W : World) (base : Nat) (args : Array Value) (ds gs : List (DataW H)) (before : List MemPlace)
  (hval0 : ∀ (j : Nat) t v, Tryz.f6.params[j]? = some t → args[j]? = some v → Value.okWide Tryz.prog W .any base t v)
  (hW : DataW.Whole enc Tryz.prog Tryz.f6.params.toList Rows.noteReturnsSpec.vars false W args.toList ds gs before)
  (hsz0 : (DataW.weightsEach Tryz.prog (Tryz.f6.params.toList ++ Rows.noteReturnsSpec.plain.varTypes Tryz.prog) (ds ++ gs)).all (· ≤ reachBytes) = true) (HE : Chk.EnvN W) :
  Calls Tryz.prog 6 args W fun e W' => ∃ v, e = .returned v ∧ Rows.noteReturnsSpec.post enc Tryz.prog Tryz.f6 false true false false W args v W' := by
 have hsz := hsz0
 have hval := hval0
 have hW' := hW
 obtain ⟨p, q, hA0, hV, rfl, hfz, hnd⟩ := hW
 have hA : DataW.TrodAll enc Tryz.prog W 0 (fun _ => true) true Tryz.f6.params.toList args.toList ds p := hA0
 rw [Tryz.params6] at hA hval hsz
 obtain ⟨v0, vs0, d0, ds0, p0, q0, hargs, rfl, rfl, h0, r0⟩ := trodAll_cons hA
 obtain ⟨rfl, rfl, rfl⟩ := trodAll_nil r0
 obtain rfl : args = #[v0] := by cases args; simp_all
 obtain ⟨rfl, rfl⟩ := trodVars_none hV
 have k0 := h0
 have lt0 : ∀ x ∈ p0, x.block < W.heap.size := by obtain ⟨m, hm⟩ := k0; exact DataW.trod_lt m _ _ _ hm
 obtain ⟨a0, c0, rfl, w0, o0⟩ := Arg.in_any Arg.u_note.choose_spec Arg.oNote hsz (j := 0) rfl rfl (hval 0 34 v0 rfl rfl) h0
 clear hA0 hval0 hsz0 hsz
 refine (Law3.returns a0 c0 W w0 o0 HE).mono fun e W' ⟨he, bel⟩ => ?_
 subst he
 exact ⟨_, rfl, _, _, _, [], _, [], hW', trodAll_mk1 (shut_bool Tryz.underlying4 _), (trodAll_cons_mk (Below.trod laidOut (by kernel_rfl) (of_decide_eq_true (by kernel_rfl)) k0 bel lt0) trodAll_mk0), rfl, bel.frame _, fun h => by cases h⟩
set_option maxRecDepth 100000 in
theorem lifted (os : Os) (started : os.Started) (H : Type) (enc : TypeId × Value → H) (F : Stop.Interp) :
  ReturnsInHanded {} Tryz.checked os 6 .any ((OpenSpec.ofChange Rows.noteReturnsSpec).preRow enc Tryz.prog Tryz.f6 Rows.noteReturnsRow.domain false Rows.noteReturnsRow.laid) (((OpenSpec.ofChange Rows.noteReturnsSpec).at F).post enc Tryz.prog Tryz.f6 false true false false) := by
 obtain ⟨places, hx⟩ := reads os enc
 refine returnsInHanded_of_row (C := Tryz.checked) (s := OpenSpec.ofChange Rows.noteReturnsSpec) own started (by kernel_rfl) Tryz.func6
  (witness_row_at (enc := enc) (C := Tryz.checked) false (Ext.laidWorld os) #[.agg #[.int .i64 0, .int .i64 0, .int .i64 0, .int .i64 0, .int .i64 0, .int .i64 0, .int .i64 0, .int .i64 0, .int .i64 0, .int .i64 0, .int .i64 0, .slice none 0 0, .slice none 0 0, .int .i64 0, .int .i64 0, .int .i64 0, .slice none 0 0, .slice none 0 0, .slice none 0 0, .slice none 0 0, .string ByteArray.empty]] rfl (by kernel_rfl) (by kernel_rfl) (by kernel_rfl)
   (OpenSpec.preRow_of_cond 8 hx (by kernel_rfl) (fun k hk => by cases hk) (by kernel_rfl) (laid_met os))) ?_
 intro W base args ds gs before hval hW _ _ hsz hL hS _
 exact contract H enc W base args ds gs before hval hW hsz (Ext.env_note hS hL)
theorem f_inPlace : (Rows.noteReturnsRow.inPlace == Tryz.prog.inPlace 6) = true := by kernel_rfl
theorem f_unfollowed : (Rows.noteReturnsRow.unfollowed == Tryz.prog.unfollowed 6) = true := by kernel_rfl
theorem f_recurses : (Rows.noteReturnsRow.recurses == Tryz.prog.recurses 6) = true := by kernel_rfl
theorem f_named : (Rows.noteReturnsRow.named == Tryz.prog.varsNamed 6) = true := by kernel_rfl
theorem f_maps : mapsRowed Tryz.prog = true := by kernel_rfl
theorem f_laid : laidOutB Tryz.prog = true := by kernel_rfl
set_option maxRecDepth 100000 in
set_option maxHeartbeats 8000000 in
theorem closed : joinedFacts Tryz.pinned.checked.prog 6 Tryz.f6 (OpenSpec.ofChange Rows.noteReturnsSpec).bare Rows.noteReturnsRow = true := by
 show joinedFacts Tryz.prog 6 Tryz.f6 (OpenSpec.ofChange Rows.noteReturnsSpec).bare Rows.noteReturnsRow = true
 unfold joinedFacts
 simp only [Bool.and_eq_true]
 repeat' (with_reducible apply And.intro)
 all_goals first | with_reducible exact f_inPlace | with_reducible exact f_unfollowed | with_reducible exact f_recurses | with_reducible exact f_named | with_reducible exact f_maps | with_reducible exact f_laid | (as_aux_lemma => kernel_rfl)
theorem hinst : Tryz.f6.isInstance Tryz.pinned.checked.prog Rows.noteReturnsRow.origin Rows.noteReturnsRow.targs := of_decide_eq_true (by kernel_rfl)
theorem hwrap : Tryz.f6.isWrapper Tryz.pinned.checked.prog Rows.noteReturnsRow.wrapper Rows.noteReturnsRow.mainSum := by unfold Func.isWrapper; first | (rw [if_pos (by decide +kernel)]; kernel_rfl) | (rw [if_neg (by decide +kernel)]; exact ⟨rfl, rfl⟩)
theorem hfn : Tryz.pinned.checked.prog.funcNamed Rows.noteReturnsRow.func = some 6 := by kernel_rfl
theorem said : Rows.NoteReturnsSaid :=
 OpenClaim.holds_of_cond 6 Tryz.f6 rfl rfl rfl rfl rfl rfl rfl ⟨rfl, rfl, rfl, rfl, rfl⟩ rfl rfl rfl rfl rfl hfn Tryz.func6 closed hinst hwrap
  (fun os started H enc _ F => by rw [OpenClaim.pre_eq_preRow]; exact lifted os started H enc F)
theorem looks_on : true = Tryz.pinned.checked.prog.looks [] := by kernel_rfl
theorem plain (f : FuncId) (fn : Func) (hf : Tryz.pinned.checked.prog.funcNamed "herald/heraldlaw3.NoteReturns" = some f) (hfn : Tryz.pinned.checked.prog.funcs[f]? = some fn) :
  true = Tryz.pinned.checked.prog.looks [] ∧ ∀ (j : Nat) t, fn.params[j]? = some t → Tryz.pinned.checked.prog.wantsStandIn t = false := by
 obtain rfl : f = 6 := Option.some.inj ((show Tryz.prog.funcNamed "herald/heraldlaw3.NoteReturns" = some 6 by kernel_rfl).symm.trans hf) |>.symm
 obtain rfl : fn = Tryz.f6 := (Option.some.inj (Tryz.func6.symm.trans hfn)).symm
 refine ⟨looks_on, fun j t ht => ?_⟩
 rw [Tryz.params6] at ht
 have hm := Array.mem_of_getElem? ht
 simp only [Array.mem_def, List.mem_cons, or_false, List.not_mem_nil] at hm
 subst hm
 exact (show Tryz.prog.wantsStandIn 34 = false by kernel_rfl)
theorem wfText : Rows.noteReturnsRow.wfByText (OpenSpec.ofChange Rows.noteReturnsSpec) = true := by kernel_rfl
theorem goesBy : false = Rows.noteReturnsRow.goesBy Tryz.pinned.checked.prog := by kernel_rfl
theorem card : Rows.NoteReturnsCardSaid :=
 Claim7.holds_tied_plain_at .later [] _ _ _ _ said (fun _ h => by cases h) wfText (fun _ h => by cases h) noteReturns_row_tie rfl ⟨rfl, rfl⟩ (by kernel_rfl) rfl plain goesBy
end Go.Proofs.YtmneemhplffemaaGreatDoorRR.noteReturns
namespace Go.Proofs.YtmneemhplffemaaGreatDoorRR
theorem noteReturns_holds : Rows.NoteReturnsCardSaid := noteReturns.card
end Go.Proofs.YtmneemhplffemaaGreatDoorRR
