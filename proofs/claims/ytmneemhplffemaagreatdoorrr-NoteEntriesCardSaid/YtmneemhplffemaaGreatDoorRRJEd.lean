/- Texts of the proof, joined. -/
import Derived.ArgAppend
import Derived.Below
import Derived.BigQuiet
import Derived.Deep.AppendLies
import Derived.Deep.CutBlock
import Derived.Deep.DeepCutAuto
import Derived.Deep.DeepHandedRow
import Derived.Deep.Draws
import Derived.Deep.LoopGhost
import Derived.Deep.OwnRows
import Derived.Deep.QuietTactic
import Derived.Deep.RegionHeld3
import Derived.Deep.RegionLaw
import Derived.Deep.RegionLawGrows
import Derived.Deep.Slices
import Derived.Deep.WholeRow
import Derived.HandedShaped
import Derived.KernelRfl
import Derived.Laws.BitsLemmas
import Derived.Laws.BytesArg
import Derived.Laws.EntriesVeiled
import Derived.Laws.IdiomCopy
import Derived.Laws.MakeOwn
import Derived.Laws.OwnMore
import Derived.Laws.Rows
import Derived.Laws.Slices
import Derived.Laws.StructEq
import Derived.Laws.Tables
import Derived.Lib.AppendStr
import Derived.Lib.ConvBytes
import Derived.Lib.Hide
import Derived.Lib.Join
import Derived.Lib.LaidTab
import Derived.Lib.SplitLaws
import Derived.LoopTactic
import Derived.Maps.AppendAt
import Derived.OpenShut
import Derived.OrdersHeld
import Derived.Outline
import Derived.OwnWalk
import Derived.ProofKit
import Derived.RowKit
import Derived.RowKit3
import Derived.Shelf.LaysM
import Derived.Shelf.Strings.Count
import Derived.Shelf.Strings.Explode
import Derived.Shelf.Strings.Prefix
import Derived.Shelf.Strings.RuneCount
import Derived.Shelf.Strings.Search1
import Derived.Shelf.Strings.Search2
import Derived.Shelf.Strings.Search3
import Derived.Shelf.Strings.Shaped
import Derived.Shelf.Strings.Split
import Derived.Shelf.Strings.SplitShaped
import Derived.Shelf.Unicode.Decode
import Derived.Shelf.Unicode.DecodeSlow
import Derived.Shelf.Utf8.RuneCount
import Derived.Shelf.Vars
import Derived.SizedLaws
import Derived.StillTailTactics
import Derived.Tactics
import Derived.Test.YtmneemhplffemaaGreatDoorRRCards
import Derived.Test.YtmneemhplffemaaGreatDoorRRProg
import Derived.Test.YtmneemhplffemaaGreatDoorRRTie
import Derived.WalkKit
import Derived.WalkLawsBesides
import Derived.WideLaws
import Derived.Test.YtmneemhplffemaaGreatDoorRRJEc
set_option linter.unusedVariables false
set_option linter.unusedSimpArgs false
namespace Go.Proofs.YtmneemhplffemaaGreatDoorRR.May
open Go.RowKit Go.Proofs.YtmneemhplffemaaGreatDoorRR.Ord Go.Proofs.YtmneemhplffemaaGreatDoorRR.Name Go.Proofs.YtmneemhplffemaaGreatDoorRR.Pl Go.Proofs.YtmneemhplffemaaGreatDoorRR.PPa Go.Proofs.YtmneemhplffemaaGreatDoorRR.Ext Go.Proofs.YtmneemhplffemaaGreatDoorRR.Wire Go.Proofs.YtmneemhplffemaaGreatDoorRR.Mem Go.Proofs.YtmneemhplffemaaGreatDoorRR.Ki Go.Proofs.YtmneemhplffemaaGreatDoorRR.Chk Go.Proofs.YtmneemhplffemaaGreatDoorRRW.PrintWords


def mShot (x : S84) : Bool := okNum x.f0 && rIs x.f1 && mKind x.f2 && (decide ((x.f3.length : Int) ≤ 64) && x.f3.all mSeen)
set_option maxRecDepth 100000 in
set_option maxHeartbeats 1000000 in
theorem m_shot (w0 W : World) (x : S84) (cs : List Value) (b : Bool) (h : mShot x = b) (hk : k84.K w0 x cs) (hb : Below w0.heap.size w0 W) (HE : Env w0) :
  Calls Tryz.prog 150 #[.agg cs.toArray] W fun e W' => e = .returned (.bool b) ∧ Below W.heap.size W W' := by
 subst h
 obtain ⟨A3, c3, rfl, l3, g3⟩ := k84_open hk
 have G3 := Aside0.mk g3
 have hm3 : x.f3.length ≤ 9223372036854775807 := g3.2.1
 have HW := Aside0.mk (below_alloc (Below.refl W.heap.size W) (Obj.cells #[.int .i64 x.f0, .string x.f1, .int .i64 x.f2, .slice A3 x.f3.length c3] 84 (0, 0)))
 have HA := Aside0.mk (below_alloc hb (Obj.cells #[.int .i64 x.f0, .string x.f1, .int .i64 x.f2, .slice A3 x.f3.length c3] 84 (0, 0)))
 have HBR := Aside0.mk (blk_alloc (W := W) (Obj.cells #[.int .i64 x.f0, .string x.f1, .int .i64 x.f2, .slice A3 x.f3.length c3] 84 (0, 0)))
 have hcR := blk_cell HBR.out
 have hfR := blk_frozen HBR.out
 have HE := Aside0.mk HE
 clear hk hb g3
 have HPSeen := Aside0.mk (show MaySeen w0 220 mSeen x.f3 from (fun x cs W _ hb hk => m_seen W W x cs _ rfl hk (Below.refl _ _) (HE.out.at_ hb)))
 go_enter Tryz.func150, Tryz.ntmps150
 refine bt (okNum x.f0) (fun h1 => bt (rIs x.f1) (fun h2 => bt (mKind x.f2) (fun h3 => bt ((decide ((x.f3.length : Int) ≤ 64) && x.f3.all mSeen)) (fun h4 => ?_) (fun h4 => ?_)) (fun h3 => ?_)) (fun h2 => ?_)) (fun h1 => ?_)
 all_goals
  go_wp2_with (first | (go_at_call 91; (with_reducible refine (c_num1 _ _ (by first | rfl | simp) _ _ (by assumption)).mono ?_); rintro e w1 ⟨rfl, hb1⟩; replace HW := Aside0.mk (below_step HW.out hb1); replace HA := Aside0.mk (below_step HA.out hb1); replace HBR := Aside0.mk (blk_below hb1 HBR.out); replace hcR := blk_cell HBR.out; replace hfR := blk_frozen HBR.out; clear hb1) | (go_at_call 175; (with_reducible refine (m_placed _ _ _ (HE.out.at_ HA.out) (by assumption)).mono ?_); rintro e w1 ⟨rfl, hb1⟩; replace HW := Aside0.mk (below_step HW.out hb1); replace HA := Aside0.mk (below_step HA.out hb1); replace HBR := Aside0.mk (blk_below hb1 HBR.out); replace hcR := blk_cell HBR.out; replace hfR := blk_frozen HBR.out; clear hb1) | (go_at_call 176; (with_reducible refine (m_kind _ _ _ (by assumption)).mono ?_); rintro e w1 ⟨rfl, rfl⟩; skip) | (go_at_call 219; (with_reducible refine (all_Seen mSeen 220 (fun _ _ => by kernel_rfl) w0 _ _ _ _ _ _ (by assumption) HPSeen.out G3.out HA.out).mono ?_); rintro e w1 ⟨rfl, hb1⟩; replace HW := Aside0.mk (below_step HW.out hb1); replace HA := Aside0.mk (below_step HA.out hb1); replace HBR := Aside0.mk (blk_below hb1 HBR.out); replace hcR := blk_cell HBR.out; replace hfR := blk_frozen HBR.out; clear hb1))
  go_ret
  exact ⟨by simp only [mShot, *, Bool.not_true, Bool.not_false, Bool.true_and, Bool.false_and, Bool.and_true, Bool.and_false, Bool.true_or, Bool.false_or, Bool.or_true, Bool.or_false, Bool.false_eq_true, if_true, if_false] <;> rfl, HW.out⟩
def mPart (x : S86) : Bool := okNum x.f0 && decide (1 ≤ x.f0) && mShot x.f1
set_option maxRecDepth 100000 in
set_option maxHeartbeats 1000000 in
theorem m_part (w0 W : World) (x : S86) (cs : List Value) (b : Bool) (h : mPart x = b) (hk : k86.K w0 x cs) (hb : Below w0.heap.size w0 W) (HE : Env w0) :
  Calls Tryz.prog 283 #[.agg cs.toArray] W fun e W' => e = .returned (.bool b) ∧ Below W.heap.size W W' := by
 subst h
 obtain ⟨A4, c4, rfl, l4, g4⟩ := k86_open hk
 have G4 := Aside0.mk g4
 have hm4 : x.f1.f3.length ≤ 9223372036854775807 := g4.2.1
 have HW := Aside0.mk (below_alloc (Below.refl W.heap.size W) (Obj.cells #[.int .i64 x.f0, .int .i64 x.f1.f0, .string x.f1.f1, .int .i64 x.f1.f2, .slice A4 x.f1.f3.length c4] 86 (0, 0)))
 have HA := Aside0.mk (below_alloc hb (Obj.cells #[.int .i64 x.f0, .int .i64 x.f1.f0, .string x.f1.f1, .int .i64 x.f1.f2, .slice A4 x.f1.f3.length c4] 86 (0, 0)))
 have HBR := Aside0.mk (blk_alloc (W := W) (Obj.cells #[.int .i64 x.f0, .int .i64 x.f1.f0, .string x.f1.f1, .int .i64 x.f1.f2, .slice A4 x.f1.f3.length c4] 86 (0, 0)))
 have hcR := blk_cell HBR.out
 have hfR := blk_frozen HBR.out
 have HE := Aside0.mk HE
 clear hk hb g4
 go_enter Tryz.func283, Tryz.ntmps283
 refine bt (okNum x.f0) (fun h1 => bt (decide (1 ≤ x.f0)) (fun h2 => have h2_0 : (decide (x.f0 ≥ 1)) = true := h2; bt (mShot x.f1) (fun h3 => ?_) (fun h3 => ?_)) (fun h2 => have h2_0 : (decide (x.f0 ≥ 1)) = false := h2; ?_)) (fun h1 => ?_)
 all_goals
  go_wp2_with (first | (go_at_call 91; (with_reducible refine (c_num1 _ _ (by first | rfl | simp) _ _ (by assumption)).mono ?_); rintro e w1 ⟨rfl, hb1⟩; replace HW := Aside0.mk (below_step HW.out hb1); replace HA := Aside0.mk (below_step HA.out hb1); replace HBR := Aside0.mk (blk_below hb1 HBR.out); replace hcR := blk_cell HBR.out; replace hfR := blk_frozen HBR.out; clear hb1) | (go_at_call 150; (with_reducible refine (m_shot w0 _ x.f1 _ _ (by assumption) (k84_mk w0 x.f1 l4 G4.out) HA.out HE.out).mono ?_); rintro e w1 ⟨rfl, hb1⟩; replace HW := Aside0.mk (below_step HW.out hb1); replace HA := Aside0.mk (below_step HA.out hb1); replace HBR := Aside0.mk (blk_below hb1 HBR.out); replace hcR := blk_cell HBR.out; replace hfR := blk_frozen HBR.out; clear hb1))
  go_ret
  exact ⟨by simp only [mPart, *, Bool.not_true, Bool.not_false, Bool.true_and, Bool.false_and, Bool.and_true, Bool.and_false, Bool.true_or, Bool.false_or, Bool.or_true, Bool.or_false, Bool.false_eq_true, if_true, if_false] <;> rfl, HW.out⟩
def mEmpty (x : S84) : Bool := (x.f0 == 0) && x.f1.toList.isEmpty && (x.f2 == 0) && (x.f3.length == 0)
set_option maxRecDepth 100000 in
set_option maxHeartbeats 1000000 in
theorem m_empty (w0 W : World) (x : S84) (cs : List Value) (b : Bool) (h : mEmpty x = b) (hk : k84.K w0 x cs) (hb : Below w0.heap.size w0 W) :
  Calls Tryz.prog 149 #[.agg cs.toArray] W fun e W' => e = .returned (.bool b) ∧ Below W.heap.size W W' := by
 subst h
 obtain ⟨A3, c3, rfl, l3, g3⟩ := k84_open hk
 have G3 := Aside0.mk g3
 have hm3 : x.f3.length ≤ 9223372036854775807 := g3.2.1
 have HW := Aside0.mk (below_alloc (Below.refl W.heap.size W) (Obj.cells #[.int .i64 x.f0, .string x.f1, .int .i64 x.f2, .slice A3 x.f3.length c3] 84 (0, 0)))
 have HA := Aside0.mk (below_alloc hb (Obj.cells #[.int .i64 x.f0, .string x.f1, .int .i64 x.f2, .slice A3 x.f3.length c3] 84 (0, 0)))
 have HBR := Aside0.mk (blk_alloc (W := W) (Obj.cells #[.int .i64 x.f0, .string x.f1, .int .i64 x.f2, .slice A3 x.f3.length c3] 84 (0, 0)))
 have hcR := blk_cell HBR.out
 have hfR := blk_frozen HBR.out
 clear hk hb g3
 go_enter Tryz.func149, Tryz.ntmps149
 refine bt ((x.f0 == 0)) (fun h1 => have h1_0 : ((x.f0 != 0)) = false := congrArg not h1; bt (x.f1.toList.isEmpty) (fun h2 => bt ((x.f2 == 0)) (fun h3 => have h3_0 : ((x.f2 != 0)) = false := congrArg not h3; bt ((x.f3.length == 0)) (fun h4 => have h4_0 : (((x.f3.length : Int) == 0)) = true := zq (by omega) h4; have h4_1 : (((x.f3.length : Int) != 0)) = false := yq (by omega) h4; ?_) (fun h4 => have h4_0 : (((x.f3.length : Int) == 0)) = false := zq (by omega) h4; have h4_1 : (((x.f3.length : Int) != 0)) = true := yq (by omega) h4; ?_)) (fun h3 => have h3_0 : ((x.f2 != 0)) = true := congrArg not h3; ?_)) (fun h2 => ?_)) (fun h1 => have h1_0 : ((x.f0 != 0)) = true := congrArg not h1; ?_)
 all_goals
  go_wp2_with fail
  go_ret
  exact ⟨by simp only [mEmpty, *, Bool.not_true, Bool.not_false, Bool.true_and, Bool.false_and, Bool.and_true, Bool.and_false, Bool.true_or, Bool.false_or, Bool.or_true, Bool.or_false, Bool.false_eq_true, if_true, if_false] <;> rfl, HW.out⟩
def mRise : Int → List Int → Bool
 | _, [] => true
 | z, y :: l => !decide (y ≤ z) && !decide (2147483647 < y) && mRise y l
def mRising (l : List Int) : Bool := mRise 0 l
theorem rise_drop {xs : List Int} {k : Nat} {y z : Int} (h : xs[k]? = some y) : mRise z (xs.drop k) = (!decide (y ≤ z) && !decide (2147483647 < y) && mRise y (xs.drop (k + 1))) := by
 obtain ⟨hl, he⟩ := List.getElem?_eq_some_iff.1 h
 rw [List.drop_eq_getElem_cons hl, he]
 rfl
set_option maxRecDepth 100000 in
theorem m_rising (w0 W : World) (A : Option Addr) (c : Nat) (xs : List Int) (b : Bool) (h : mRising xs = b) (hC : (Kd.int .i64).C w0 A xs.length xs) (hb : Below w0.heap.size w0 W) :
  Calls Tryz.prog 177 #[.slice A xs.length c] W fun e W' => e = .returned (.bool b) ∧ W' = W := by
 subst h
 have HA := Aside0.mk hb
 have HC := Aside0.mk hC
 have hm : xs.length ≤ 9223372036854775807 := hC.2.1
 clear hb hC
 go_enter Tryz.func177, Tryz.ntmps177
 go_wp2_with fail
 go_loopw [3, 8] (fun vl vi wr => ∃ (k : Nat) (z : Int), vi = .int .i64 k ∧ vl = .int .i64 z ∧ k ≤ xs.length ∧ Aside0 (mRise z (xs.drop k) = mRising xs) ∧ W = wr) (fun _ vi _ => xs.length - (intOf vi).toNat)
 case atStart => exact ⟨0, 0, rfl, rfl, Nat.zero_le _, ⟨rfl⟩, rfl⟩
 case round =>
  obtain ⟨k, z, rfl, rfl, hk, HQ, rfl⟩ := hrel
  by_cases hlt : k < xs.length
  · obtain ⟨y, hye⟩ : ∃ y, xs[k]? = some y := ⟨_, List.getElem?_eq_getElem hlt⟩
    have HX := Aside0.mk hye
    have HR := Aside0.mk (HQ.out.symm.trans (rise_drop hye))
    obtain ⟨ad, rfl, c_0⟩ := Kd.at_int HC.out (k : Int) (by omega) (by omega)
    rw [show rd xs (k : Int) = y by unfold rd; rw [Int.toNat_natCast, List.getD_eq_getElem?_getD, hye]; rfl, Int.toNat_natCast] at c_0
    replace c_0 := pw_cell_below HA.out c_0
    clear hye
    cases h1 : decide (y ≤ z) with
    | true =>
      have h1_0 : decide (z ≥ y) = true := h1
      go_wp2_with fail
      go_ret
      exact ⟨by rw [HR.out]; simp [h1], rfl⟩
    | false =>
      have h1_0 : decide (z ≥ y) = false := h1
      cases h2 : decide (2147483647 < y) with
      | true =>
        have h2_0 : decide (y > 2147483647) = true := h2
        go_wp2_with fail
        go_ret
        exact ⟨by rw [HR.out]; simp [h2], rfl⟩
      | false =>
        have h2_0 : decide (y > 2147483647) = false := h2
        go_wp2_with fail
        go_roundw
        case rel => exact ⟨k + 1, y, by go_num, rfl, by omega, ⟨by rw [HR.out, h1, h2]; simp⟩, (by first | rfl | trivial)⟩
        case measure => simp [intOf]; omega
  · have HL := Aside0.mk (show mRising xs = true by rw [← HQ.out, List.drop_eq_nil_of_le (by omega)]; rfl)
    go_wp2_with fail
    go_ret
    exact ⟨by rw [HL.out]; rfl, rfl⟩
def mTagged (x : S148) : Bool := mKind x.f0.f0 && rIs x.f0.f1 && decide ((x.f0.f2.size : Int) ≤ 64) && okNum x.f0.f3 && decide ((1 : Int) ≤ x.f1.length) && decide ((x.f1.length : Int) ≤ 4) && mRising x.f1
set_option maxRecDepth 100000 in
set_option maxHeartbeats 1000000 in
theorem m_tagged (w0 W : World) (x : S148) (cs : List Value) (b : Bool) (h : mTagged x = b) (hk : k148.K w0 x cs) (hb : Below w0.heap.size w0 W) (HE : Env w0) :
  Calls Tryz.prog 285 #[.agg cs.toArray] W fun e W' => e = .returned (.bool b) ∧ Below W.heap.size W W' := by
 subst h
 obtain ⟨A4, c4, rfl, l4, g4⟩ := k148_open hk
 have G4 := Aside0.mk g4
 have hm4 : x.f1.length ≤ 9223372036854775807 := g4.2.1
 have HW := Aside0.mk (below_alloc (Below.refl W.heap.size W) (Obj.cells #[.int .i64 x.f0.f0, .string x.f0.f1, .string x.f0.f2, .int .i64 x.f0.f3, .slice A4 x.f1.length c4] 148 (0, 0)))
 have HA := Aside0.mk (below_alloc hb (Obj.cells #[.int .i64 x.f0.f0, .string x.f0.f1, .string x.f0.f2, .int .i64 x.f0.f3, .slice A4 x.f1.length c4] 148 (0, 0)))
 have HBR := Aside0.mk (blk_alloc (W := W) (Obj.cells #[.int .i64 x.f0.f0, .string x.f0.f1, .string x.f0.f2, .int .i64 x.f0.f3, .slice A4 x.f1.length c4] 148 (0, 0)))
 have hcR := blk_cell HBR.out
 have hfR := blk_frozen HBR.out
 have HE := Aside0.mk HE
 clear hk hb g4
 have hsR := blk_lt HBR.out
 have HBY := Aside0.mk (blk_alloc2 W (Obj.cells #[.int .i64 x.f0.f0, .string x.f0.f1, .string x.f0.f2, .int .i64 x.f0.f3, .slice A4 x.f1.length c4] 148 (0, 0)) (Obj.cells #[.int .i64 x.f0.f0, .string x.f0.f1, .string x.f0.f2, .int .i64 x.f0.f3] 145 (0, 0)))
 have hcY := blk_cell HBY.out
 have hfY := blk_frozen HBY.out
 replace HW := Aside0.mk (below_alloc HW.out (Obj.cells #[.int .i64 x.f0.f0, .string x.f0.f1, .string x.f0.f2, .int .i64 x.f0.f3] 145 (0, 0)))
 replace HA := Aside0.mk (below_alloc HA.out (Obj.cells #[.int .i64 x.f0.f0, .string x.f0.f1, .string x.f0.f2, .int .i64 x.f0.f3] 145 (0, 0)))
 replace HBR := Aside0.mk (blk_below (below_alloc (Below.refl _ _) (Obj.cells #[.int .i64 x.f0.f0, .string x.f0.f1, .string x.f0.f2, .int .i64 x.f0.f3] 145 (0, 0))) HBR.out)
 go_enter Tryz.func285, Tryz.ntmps285
 refine bt (mKind x.f0.f0) (fun h1 => bt (rIs x.f0.f1) (fun h2 => bt (decide ((x.f0.f2.size : Int) ≤ 64)) (fun h3 => have h3_0 : (decide (x.f0.f2.size ≤ 64)) = true := dq (by omega) h3; have h3_1 : (decide ((64 : Int) ≥ x.f0.f2.size)) = true := h3; bt (okNum x.f0.f3) (fun h4 => bt (decide ((1 : Int) ≤ x.f1.length)) (fun h5 => have h5_0 : (decide ((x.f1.length : Int) ≥ 1)) = true := h5; have h5_1 : (decide (1 ≤ x.f1.length)) = true := dq (by omega) h5; bt (decide ((x.f1.length : Int) ≤ 4)) (fun h6 => have h6_0 : (decide ((4 : Int) ≥ x.f1.length)) = true := h6; bt (mRising x.f1) (fun h7 => ?_) (fun h7 => ?_)) (fun h6 => have h6_0 : (decide ((4 : Int) ≥ x.f1.length)) = false := h6; ?_)) (fun h5 => have h5_0 : (decide ((x.f1.length : Int) ≥ 1)) = false := h5; have h5_1 : (decide (1 ≤ x.f1.length)) = false := dq (by omega) h5; ?_)) (fun h4 => ?_)) (fun h3 => have h3_0 : (decide (x.f0.f2.size ≤ 64)) = false := dq (by omega) h3; have h3_1 : (decide ((64 : Int) ≥ x.f0.f2.size)) = false := h3; ?_)) (fun h2 => ?_)) (fun h1 => ?_)
 all_goals
  go_wp2_with (first | (go_at_call 91; (with_reducible refine (c_num1 _ _ (by first | rfl | simp) _ _ (by assumption)).mono ?_); rintro e w1 ⟨rfl, hb1⟩; replace HW := Aside0.mk (below_step HW.out hb1); replace HA := Aside0.mk (below_step HA.out hb1); replace HBR := Aside0.mk (blk_below hb1 HBR.out); replace hcR := blk_cell HBR.out; replace hfR := blk_frozen HBR.out; replace HBY := Aside0.mk (blk_below hb1 HBY.out); replace hcY := blk_cell HBY.out; replace hfY := blk_frozen HBY.out; clear hb1) | (go_at_call 175; (with_reducible refine (m_placed _ _ _ (HE.out.at_ HA.out) (by assumption)).mono ?_); rintro e w1 ⟨rfl, hb1⟩; replace HW := Aside0.mk (below_step HW.out hb1); replace HA := Aside0.mk (below_step HA.out hb1); replace HBR := Aside0.mk (blk_below hb1 HBR.out); replace hcR := blk_cell HBR.out; replace hfR := blk_frozen HBR.out; replace HBY := Aside0.mk (blk_below hb1 HBY.out); replace hcY := blk_cell HBY.out; replace hfY := blk_frozen HBY.out; clear hb1) | (go_at_call 176; (with_reducible refine (m_kind _ _ _ (by assumption)).mono ?_); rintro e w1 ⟨rfl, rfl⟩; skip) | (go_at_call 177; (with_reducible refine (m_rising w0 _ _ _ _ _ (by assumption) G4.out HA.out).mono ?_); rintro e w1 ⟨rfl, rfl⟩; skip))
  go_ret
  exact ⟨by simp only [mTagged, *, Bool.not_true, Bool.not_false, Bool.true_and, Bool.false_and, Bool.and_true, Bool.and_false, Bool.true_or, Bool.false_or, Bool.or_true, Bool.or_false, Bool.false_eq_true, if_true, if_false] <;> rfl, HW.out⟩
def mItem (x : S91) : Bool := (okNum x.f0 && okNum x.f1) && (if x.f2 = true then (x.f3.length == 0) && decide ((1 : Int) ≤ x.f4.length) && (decide ((x.f4.length : Int) ≤ 4) && x.f4.all mPart) else (x.f4.length == 0) && decide ((1 : Int) ≤ x.f3.length) && (decide ((x.f3.length : Int) ≤ 64) && x.f3.all mTagged))
set_option maxRecDepth 100000 in
set_option maxHeartbeats 1000000 in
theorem m_item (w0 W : World) (x : S91) (cs : List Value) (b : Bool) (h : mItem x = b) (hk : k91.K w0 x cs) (hb : Below w0.heap.size w0 W) (HE : Env w0) :
  Calls Tryz.prog 256 #[.agg cs.toArray] W fun e W' => e = .returned (.bool b) ∧ Below W.heap.size W W' := by
 subst h
 obtain ⟨A3, c3, A4, c4, rfl, l3, g3, l4, g4⟩ := k91_open hk
 have G3 := Aside0.mk g3
 have hm3 : x.f3.length ≤ 9223372036854775807 := g3.2.1
 have G4 := Aside0.mk g4
 have hm4 : x.f4.length ≤ 9223372036854775807 := g4.2.1
 have HW := Aside0.mk (below_alloc (Below.refl W.heap.size W) (Obj.cells #[.int .i64 x.f0, .int .i64 x.f1, .bool x.f2, .slice A3 x.f3.length c3, .slice A4 x.f4.length c4] 91 (0, 0)))
 have HA := Aside0.mk (below_alloc hb (Obj.cells #[.int .i64 x.f0, .int .i64 x.f1, .bool x.f2, .slice A3 x.f3.length c3, .slice A4 x.f4.length c4] 91 (0, 0)))
 have HBR := Aside0.mk (blk_alloc (W := W) (Obj.cells #[.int .i64 x.f0, .int .i64 x.f1, .bool x.f2, .slice A3 x.f3.length c3, .slice A4 x.f4.length c4] 91 (0, 0)))
 have hcR := blk_cell HBR.out
 have hfR := blk_frozen HBR.out
 have HE := Aside0.mk HE
 clear hk hb g3 g4
 have HPPart := Aside0.mk (show MayPart w0 283 mPart x.f4 from (fun x cs W _ hb hk => m_part W W x cs _ rfl hk (Below.refl _ _) (HE.out.at_ hb)))
 have HPTagged := Aside0.mk (show MayTagged w0 285 mTagged x.f3 from (fun x cs W _ hb hk => m_tagged W W x cs _ rfl hk (Below.refl _ _) (HE.out.at_ hb)))
 go_enter Tryz.func256, Tryz.ntmps256
 refine bt ((okNum x.f0 && okNum x.f1)) (fun h1 => bt (x.f2) (fun h2 => ?g5) (fun h2 => ?g9)) (fun h1 => ?_)
 case g5 =>
  rw [h2] at HW HA HBR hcR hfR
  refine bt ((x.f3.length == 0)) (fun h3 => have h3_0 : (((x.f3.length : Int) == 0)) = true := zq (by omega) h3; have h3_1 : (((x.f3.length : Int) != 0)) = false := yq (by omega) h3; bt (decide ((1 : Int) ≤ x.f4.length)) (fun h4 => have h4_0 : (decide ((x.f4.length : Int) ≥ 1)) = true := h4; have h4_1 : (decide (1 ≤ x.f4.length)) = true := dq (by omega) h4; bt ((decide ((x.f4.length : Int) ≤ 4) && x.f4.all mPart)) (fun h5 => ?_) (fun h5 => ?_)) (fun h4 => have h4_0 : (decide ((x.f4.length : Int) ≥ 1)) = false := h4; have h4_1 : (decide (1 ≤ x.f4.length)) = false := dq (by omega) h4; ?_)) (fun h3 => have h3_0 : (((x.f3.length : Int) == 0)) = false := zq (by omega) h3; have h3_1 : (((x.f3.length : Int) != 0)) = true := yq (by omega) h3; ?_)
  all_goals
   go_wp2_with (first | (go_at_call 91; (with_reducible refine (c_num2 _ _ (by first | rfl | simp) _ _ _ (by assumption)).mono ?_); rintro e w1 ⟨rfl, hb1⟩; replace HW := Aside0.mk (below_step HW.out hb1); replace HA := Aside0.mk (below_step HA.out hb1); replace HBR := Aside0.mk (blk_below hb1 HBR.out); replace hcR := blk_cell HBR.out; replace hfR := blk_frozen HBR.out; clear hb1) | (go_at_call 282; (with_reducible refine (all_Part mPart 283 (fun _ _ => by kernel_rfl) w0 _ _ _ _ _ _ (by assumption) HPPart.out G4.out HA.out).mono ?_); rintro e w1 ⟨rfl, hb1⟩; replace HW := Aside0.mk (below_step HW.out hb1); replace HA := Aside0.mk (below_step HA.out hb1); replace HBR := Aside0.mk (blk_below hb1 HBR.out); replace hcR := blk_cell HBR.out; replace hfR := blk_frozen HBR.out; clear hb1) | (go_at_call 284; (with_reducible refine (all_Tagged mTagged 285 (fun _ _ => by kernel_rfl) w0 _ _ _ _ _ _ (by assumption) HPTagged.out G3.out HA.out).mono ?_); rintro e w1 ⟨rfl, hb1⟩; replace HW := Aside0.mk (below_step HW.out hb1); replace HA := Aside0.mk (below_step HA.out hb1); replace HBR := Aside0.mk (blk_below hb1 HBR.out); replace hcR := blk_cell HBR.out; replace hfR := blk_frozen HBR.out; clear hb1))
   go_ret
   exact ⟨by simp only [mItem, *, Bool.not_true, Bool.not_false, Bool.true_and, Bool.false_and, Bool.and_true, Bool.and_false, Bool.true_or, Bool.false_or, Bool.or_true, Bool.or_false, Bool.false_eq_true, if_true, if_false] <;> rfl, HW.out⟩
 case g9 =>
  rw [h2] at HW HA HBR hcR hfR
  refine bt ((x.f4.length == 0)) (fun h7 => have h7_0 : (((x.f4.length : Int) == 0)) = true := zq (by omega) h7; have h7_1 : (((x.f4.length : Int) != 0)) = false := yq (by omega) h7; bt (decide ((1 : Int) ≤ x.f3.length)) (fun h8 => have h8_0 : (decide ((x.f3.length : Int) ≥ 1)) = true := h8; have h8_1 : (decide (1 ≤ x.f3.length)) = true := dq (by omega) h8; bt ((decide ((x.f3.length : Int) ≤ 64) && x.f3.all mTagged)) (fun h9 => ?_) (fun h9 => ?_)) (fun h8 => have h8_0 : (decide ((x.f3.length : Int) ≥ 1)) = false := h8; have h8_1 : (decide (1 ≤ x.f3.length)) = false := dq (by omega) h8; ?_)) (fun h7 => have h7_0 : (((x.f4.length : Int) == 0)) = false := zq (by omega) h7; have h7_1 : (((x.f4.length : Int) != 0)) = true := yq (by omega) h7; ?_)
  all_goals
   go_wp2_with (first | (go_at_call 91; (with_reducible refine (c_num2 _ _ (by first | rfl | simp) _ _ _ (by assumption)).mono ?_); rintro e w1 ⟨rfl, hb1⟩; replace HW := Aside0.mk (below_step HW.out hb1); replace HA := Aside0.mk (below_step HA.out hb1); replace HBR := Aside0.mk (blk_below hb1 HBR.out); replace hcR := blk_cell HBR.out; replace hfR := blk_frozen HBR.out; clear hb1) | (go_at_call 282; (with_reducible refine (all_Part mPart 283 (fun _ _ => by kernel_rfl) w0 _ _ _ _ _ _ (by assumption) HPPart.out G4.out HA.out).mono ?_); rintro e w1 ⟨rfl, hb1⟩; replace HW := Aside0.mk (below_step HW.out hb1); replace HA := Aside0.mk (below_step HA.out hb1); replace HBR := Aside0.mk (blk_below hb1 HBR.out); replace hcR := blk_cell HBR.out; replace hfR := blk_frozen HBR.out; clear hb1) | (go_at_call 284; (with_reducible refine (all_Tagged mTagged 285 (fun _ _ => by kernel_rfl) w0 _ _ _ _ _ _ (by assumption) HPTagged.out G3.out HA.out).mono ?_); rintro e w1 ⟨rfl, hb1⟩; replace HW := Aside0.mk (below_step HW.out hb1); replace HA := Aside0.mk (below_step HA.out hb1); replace HBR := Aside0.mk (blk_below hb1 HBR.out); replace hcR := blk_cell HBR.out; replace hfR := blk_frozen HBR.out; clear hb1))
   go_ret
   exact ⟨by simp only [mItem, *, Bool.not_true, Bool.not_false, Bool.true_and, Bool.false_and, Bool.and_true, Bool.and_false, Bool.true_or, Bool.false_or, Bool.or_true, Bool.or_false, Bool.false_eq_true, if_true, if_false] <;> rfl, HW.out⟩
 all_goals
  go_wp2_with (first | (go_at_call 91; (with_reducible refine (c_num2 _ _ (by first | rfl | simp) _ _ _ (by assumption)).mono ?_); rintro e w1 ⟨rfl, hb1⟩; replace HW := Aside0.mk (below_step HW.out hb1); replace HA := Aside0.mk (below_step HA.out hb1); replace HBR := Aside0.mk (blk_below hb1 HBR.out); replace hcR := blk_cell HBR.out; replace hfR := blk_frozen HBR.out; clear hb1) | (go_at_call 282; (with_reducible refine (all_Part mPart 283 (fun _ _ => by kernel_rfl) w0 _ _ _ _ _ _ (by assumption) HPPart.out G4.out HA.out).mono ?_); rintro e w1 ⟨rfl, hb1⟩; replace HW := Aside0.mk (below_step HW.out hb1); replace HA := Aside0.mk (below_step HA.out hb1); replace HBR := Aside0.mk (blk_below hb1 HBR.out); replace hcR := blk_cell HBR.out; replace hfR := blk_frozen HBR.out; clear hb1) | (go_at_call 284; (with_reducible refine (all_Tagged mTagged 285 (fun _ _ => by kernel_rfl) w0 _ _ _ _ _ _ (by assumption) HPTagged.out G3.out HA.out).mono ?_); rintro e w1 ⟨rfl, hb1⟩; replace HW := Aside0.mk (below_step HW.out hb1); replace HA := Aside0.mk (below_step HA.out hb1); replace HBR := Aside0.mk (blk_below hb1 HBR.out); replace hcR := blk_cell HBR.out; replace hfR := blk_frozen HBR.out; clear hb1))
  go_ret
  exact ⟨by simp only [mItem, *, Bool.not_true, Bool.not_false, Bool.true_and, Bool.false_and, Bool.and_true, Bool.and_false, Bool.true_or, Bool.false_or, Bool.or_true, Bool.or_false, Bool.false_eq_true, if_true, if_false] <;> rfl, HW.out⟩
theorem infoI64 : (Tryz.prog.info? 3).map (fun i => (i.zero, i.size, i.bytes)) = some (some (.int .i64 0), 1, 8) := by kernel_rfl
def mIds (l : List S96) : Bool := mRising (l.map fun y => y.f0)
set_option maxRecDepth 100000 in
theorem m_ids (w0 W : World) (A : Option Addr) (c : Nat) (xs : List S96) (b : Bool) (h : mIds xs = b) (hl : xs.length ≤ 17592186043904) (hC : k96.C w0 A xs.length xs) (hb : Below w0.heap.size w0 W) :
  Calls Tryz.prog 147 #[.slice A xs.length c] W fun e W' => e = .returned (.bool b) ∧ Below W.heap.size W W' := by
 have HH := Aside0.mk h
 have HC := Aside0.mk hC
 have HB := Aside0.mk hb
 have hm : xs.length ≤ 9223372036854775807 := hC.2.1
 clear hb hC h
 go_enter Tryz.func147, Tryz.ntmps147
 go_wp2_with fail
 go_loopw [3, 8] (fun v3 vi wr => ∃ k : Nat, vi = .int .i64 k ∧ k ≤ xs.length ∧ Aside0 ((Kd.int .i64).R 3 wr W.heap.size (fun _ => True) v3 ((xs.take k).map fun y => y.f0)) ∧ Aside0 (Below W.heap.size W wr)) (fun _ vi _ => xs.length - (intOf vi).toNat)
 case atStart => exact ⟨0, rfl, Nat.zero_le _, ⟨Kd.R_nil _ _ _ _ _⟩, ⟨Below.refl _ _⟩⟩
 case round =>
  obtain ⟨k, rfl, hk, HO, HW⟩ := hrel
  obtain ⟨wo, rfl⟩ : ∃ wo : World, wo = wr := ⟨_, rfl⟩
  by_cases hlt : k < xs.length
  · obtain ⟨y, hye⟩ : ∃ y, xs[k]? = some y := ⟨_, List.getElem?_eq_getElem hlt⟩
    have HX := Aside0.mk hye
    have HA := Aside0.mk (below_step HB.out HW.out)
    have hat := at_T96 HC.out (k : Int) (by omega) (by omega)
    rw [show rd_T96 xs (k : Int) = y by unfold rd_T96; rw [Int.toNat_natCast, List.getD_eq_getElem?_getD, hye]; rfl, Int.toNat_natCast] at hat
    obtain ⟨adc, rfl, c_0, c_1, c_2, c_3⟩ := hat
    replace c_0 := pw_cell_below HA.out c_0
    replace c_1 := pw_cell_below HA.out c_1
    replace c_2 := pw_cell_below HA.out c_2
    replace c_3 := pw_cell_below HA.out c_3
    have HO1 := Aside0.mk (Kd.R_below HO.out (below_alloc (Below.refl _ _) (Obj.cells #[.int .i64 y.f0, .string y.f1, .int .i64 y.f2, .int .i64 y.f3] 96 (0, 0))))
    have HW1 := Aside0.mk (below_alloc HW.out (Obj.cells #[.int .i64 y.f0, .string y.f1, .int .i64 y.f2, .int .i64 y.f3] 96 (0, 0)))
    have hlk : ((xs.take k).map fun y => y.f0).length = k := by rw [List.length_map, List.length_take]; omega
    clear hye
    go_wp2_with ((with_reducible refine gate_builtin (b := .append) (xs := #[.tmp 12, .tmp 15]) rfl ?_); at_builtin; refine Kd.R_append (Kd.int .i64) (w0 := W) W.heap.size rfl (.tmp 12) (.tmp 15) 146 3 (.int .i64 0) 8 rfl Tryz.underlying146 infoI64 rfl (by decide) (by omega) u3 _ y.f0 [.int .i64 y.f0] (fun _ => True) (fun _ => False) rfl (by have hq_ : (wo.alloc (Obj.cells #[.int .i64 y.f0, .string y.f1, .int .i64 y.f2, .int .i64 y.f3] 96 (0, 0))).heap.size = wo.heap.size + 1 := (by simp); rw [hq_]; rfl) rfl (fun _ hk => hk.elim) (fun _ _ => trivial) HO1.out HW1.out (below_size HW1.out) (by rw [hlk]; omega) ?_; intro v1 W1 ho hb _ _; have HO2 := Aside0.mk ho; have HW2 := Aside0.mk hb; clear ho hb)
    go_roundw
    case rel => exact ⟨k + 1, by go_num, by omega, ⟨by have h := HO2.out; rw [List.take_add_one, HX.out]; simpa using h⟩, HW2⟩
    case measure => simp [intOf]; omega
  · obtain ⟨A1, c1, rfl, hle, hC1⟩ := Kd.R_reads HO.out
    rw [List.take_of_length_le (by omega)] at hC1
    have hlm : (xs.take k).length = xs.length := by rw [List.take_of_length_le (by omega)]
    obtain ⟨n1, hn1⟩ : ∃ n1, n1 = (List.map (fun y : S96 => y.f0) (xs.take k)).length := ⟨_, rfl⟩
    rw [← hn1]
    rw [List.take_of_length_le (by omega)] at hn1
    rw [← hn1] at hC1
    have HCR := Aside0.mk (m_rising wo wo A1 c1 (xs.map fun y : S96 => y.f0) b (show mIds xs = b from HH.out) (hn1 ▸ hC1) (Below.refl _ _))
    rw [← hn1] at HCR
    clear hn1 hC1 hle
    go_wp2_with (go_at_call 177; (with_reducible refine HCR.out.mono ?_); rintro e w1 ⟨rfl, rfl⟩)
    go_ret
    exact ⟨rfl, HW.out⟩
def mPairAt (l0 : List S91) (l : List S91) (i : Nat) : Bool := (l[i]?).elim false fun y => !y.f2 && !((l0[i]?).elim false fun z => decide (y.f0 ≤ z.f0))
def mItems (l : List S91) : Bool := !decide ((l.length : Int) < 1) && (decide ((l.length : Int) ≤ 8) && l.all mItem) && (List.range (l.drop 1).length).all (mPairAt l (l.drop 1))
theorem infoIt : (Tryz.prog.info? 91).map (fun i => i.size) = some 5 := by kernel_rfl
set_option maxRecDepth 100000 in
set_option maxHeartbeats 1000000 in
theorem m_items (w0 W : World) (A : Option Addr) (c : Nat) (xs : List S91) (hc : xs.length ≤ c) (b : Bool) (h : mItems xs = b) (hC : k91.C w0 A xs.length xs) (hb : Below w0.heap.size w0 W) (HE : Env w0) :
  Calls Tryz.prog 210 #[.slice A xs.length c] W fun e W' => e = .returned (.bool b) ∧ Below W.heap.size W W' := by
 subst h
 have HW := Aside0.mk (Below.refl W.heap.size W)
 have HA := Aside0.mk hb
 have HC := Aside0.mk hC
 have hm : xs.length ≤ 9223372036854775807 := hC.2.1
 have HE := Aside0.mk HE
 have HCC := Aside0.mk hc
 clear hb hC hc
 have HPItem := Aside0.mk (show MayItem w0 256 mItem xs from (fun x cs W _ hb hk => m_item W W x cs _ rfl hk (Below.refl _ _) (HE.out.at_ hb)))
 go_enter Tryz.func210, Tryz.ntmps210
 refine bt (decide ((xs.length : Int) < 1)) (fun h1 => have h1_0 : (decide ((1 : Int) > xs.length)) = true := h1; have h1_1 : (decide (xs.length < 1)) = true := dq (by omega) h1; ?_) (fun h1 => have h1_0 : (decide ((1 : Int) > xs.length)) = false := h1; have h1_1 : (decide (xs.length < 1)) = false := dq (by omega) h1; bt ((decide ((xs.length : Int) ≤ 8) && xs.all mItem)) (fun h2 => ?g6) (fun h2 => ?_))
 case g6 =>
  have hl1 : 1 ≤ xs.length := by have hq_ := h1; simp only [decide_eq_false_iff_not] at hq_; omega
  obtain ⟨L, hL⟩ : ∃ L, L = xs.drop 1 := ⟨_, rfl⟩
  have HLX := Aside0.mk hL
  have hLn : L.length = xs.length - 1 := by rw [hL, List.length_drop]
  obtain ⟨T, hT⟩ : ∃ T, T = (if c = 1 then A else A.map (·.add (1 * 5))) := ⟨_, rfl⟩
  have HCT := Aside0.mk (show k91.C w0 T L.length L by rw [hT, hL]; exact Kd.C_drop HC.out hl1 HCC.out)
  have hsl : ∀ W : World, (Instr.slice 32 (.slice A xs.length c) (some (.int .i64 1)) none none).run Tryz.prog W = .ok (.slice T L.length (c - 1)) W := by
   obtain ⟨i0, hi, hz⟩ := Option.map_eq_some_iff.1 infoIt
   intro W
   rw [hT, hLn]
   exact cut_from 32 91 .i64 Tryz.underlying32 hi 5 hz A xs.length c 1 (by omega) (by omega) W
  clear hT hL
  go_wp2_with (go_at_call 255; (with_reducible refine (all_Item mItem 256 (fun _ _ => by kernel_rfl) w0 _ _ _ _ _ _ (by assumption) HPItem.out HC.out HA.out).mono ?_); rintro e w1 ⟨rfl, hb1⟩; replace HW := Aside0.mk (below_step HW.out hb1); replace HA := Aside0.mk (below_step HA.out hb1); clear hb1)
  go_loopw [16] (fun vi wr => ∃ k : Nat, vi = .int .i64 k ∧ k ≤ L.length ∧ Aside0 (∀ i, i < k → (mPairAt xs) L i = true) ∧ Aside0 (Below W.heap.size W wr) ∧ Aside0 (Below w0.heap.size w0 wr)) (fun vi _ => L.length - (intOf vi).toNat)
  case atStart => exact ⟨0, rfl, Nat.zero_le _, ⟨fun i hi => absurd hi (Nat.not_lt_zero i)⟩, HW, HA⟩
  case round =>
   clear HW HA
   obtain ⟨k, rfl, hk, HQ, HW, HA⟩ := hrel
   obtain ⟨wo, rfl⟩ : ∃ wo : World, wo = wr := ⟨_, rfl⟩
   by_cases hlt : k < L.length
   · obtain ⟨y, hye⟩ : ∃ y, L[k]? = some y := ⟨_, List.getElem?_eq_getElem hlt⟩
     have HX := Aside0.mk hye
     have hat := at_T91 HCT.out (k : Int) (by omega) (by omega)
     rw [show rd_T91 L (k : Int) = y by unfold rd_T91; rw [Int.toNat_natCast, List.getD_eq_getElem?_getD, hye]; rfl, Int.toNat_natCast] at hat
     obtain ⟨adc, Ay3, cy3, Ay4, cy4, rfl, c_0, c_1, c_2, c_3, c_4, ly3, gy3, ly4, gy4⟩ := hat
     have Gy3 := Aside0.mk gy3
     clear gy3
     have Gy4 := Aside0.mk gy4
     clear gy4
     replace c_0 := pw_cell_below HA.out c_0
     replace c_1 := pw_cell_below HA.out c_1
     replace c_2 := pw_cell_below HA.out c_2
     replace c_3 := pw_cell_below HA.out c_3
     replace c_4 := pw_cell_below HA.out c_4
     clear hye
     have EY := HX
     have HBY := Aside0.mk (blk_alloc (W := wo) (Obj.cells #[.int .i64 y.f0, .int .i64 y.f1, .bool y.f2, .slice Ay3 y.f3.length cy3, .slice Ay4 y.f4.length cy4] 91 (0, 0)))
     have hcY := blk_cell HBY.out
     have hfY := blk_frozen HBY.out
     replace HW := Aside0.mk (below_alloc HW.out (Obj.cells #[.int .i64 y.f0, .int .i64 y.f1, .bool y.f2, .slice Ay3 y.f3.length cy3, .slice Ay4 y.f4.length cy4] 91 (0, 0)))
     replace HA := Aside0.mk (below_alloc HA.out (Obj.cells #[.int .i64 y.f0, .int .i64 y.f1, .bool y.f2, .slice Ay3 y.f3.length cy3, .slice Ay4 y.f4.length cy4] 91 (0, 0)))
     obtain ⟨z, hze⟩ : ∃ z, xs[k]? = some z := ⟨_, List.getElem?_eq_getElem (by omega)⟩
     have EZ := Aside0.mk hze
     have hat := at_T91 HC.out (k : Int) (by omega) (by omega)
     rw [show rd_T91 xs (k : Int) = z by unfold rd_T91; rw [Int.toNat_natCast, List.getD_eq_getElem?_getD, hze]; rfl, Int.toNat_natCast] at hat
     obtain ⟨add, Az3, cz3, Az4, cz4, rfl, d_0, d_1, d_2, d_3, d_4, lz3, gz3, lz4, gz4⟩ := hat
     skip
     have Gz3 := Aside0.mk gz3
     clear gz3
     have Gz4 := Aside0.mk gz4
     clear gz4
     replace d_0 := pw_cell_below HA.out d_0
     replace d_1 := pw_cell_below HA.out d_1
     replace d_2 := pw_cell_below HA.out d_2
     replace d_3 := pw_cell_below HA.out d_3
     replace d_4 := pw_cell_below HA.out d_4
     have hkx : k < xs.length := by omega
     clear hze
     refine bt (y.f2) (fun h3 => ?g3) (fun h3 => ?g5)
     case g3 =>
      rw [h3] at HW HA HBY hcY hfY c_2 d_0 d_1 d_2 d_3 d_4
      have HR := Aside0.mk (show (mPairAt xs) L k = false by simp only [mPairAt, Option.elim, h3, EY.out, EZ.out, Bool.not_true, Bool.not_false, Bool.true_and, Bool.false_and, Bool.and_true, Bool.and_false, Bool.true_or, Bool.false_or, Bool.or_true, Bool.or_false, Bool.false_eq_true, if_true, if_false])
      go_wp2_with fail
      go_quiet (fail)
      go_wp2_with fail
      go_ret
      exact ⟨by simp only [mItems, ← HLX.out, idx_stop hlt HR.out, h1, h2, h3, Bool.not_true, Bool.not_false, Bool.true_and, Bool.false_and, Bool.and_true, Bool.and_false, Bool.true_or, Bool.false_or, Bool.or_true, Bool.or_false, Bool.false_eq_true, if_true, if_false]; rfl, (pw_below_drewN HW.out _)⟩
     case g5 =>
      rw [h3] at HW HA HBY hcY hfY c_2 d_0 d_1 d_2 d_3 d_4
      refine bt (decide (y.f0 ≤ z.f0)) (fun h5 => have h5_0 : (decide (z.f0 ≥ y.f0)) = true := h5; have m0 := trivial; ?_) (fun h5 => have h5_0 : (decide (z.f0 ≥ y.f0)) = false := h5; ?_)
      all_goals first
       | clear m0
         have HR := Aside0.mk (show (mPairAt xs) L k = false by simp only [mPairAt, Option.elim, *, EY.out, EZ.out, Bool.not_true, Bool.not_false, Bool.true_and, Bool.false_and, Bool.and_true, Bool.and_false, Bool.true_or, Bool.false_or, Bool.or_true, Bool.or_false, Bool.false_eq_true, if_true, if_false])
         go_wp2_with (go_at_call 255; (with_reducible refine (all_Item mItem 256 (fun _ _ => by kernel_rfl) w0 _ _ _ _ _ _ (by assumption) HPItem.out HC.out HA.out).mono ?_); rintro e w1 ⟨rfl, hb1⟩; replace HW := Aside0.mk (below_step HW.out hb1); replace HA := Aside0.mk (below_step HA.out hb1); replace HBY := Aside0.mk (blk_below hb1 HBY.out); replace hcY := blk_cell HBY.out; replace hfY := blk_frozen HBY.out; replace d_0 := pw_cell_below hb1 d_0; replace d_1 := pw_cell_below hb1 d_1; replace d_2 := pw_cell_below hb1 d_2; replace d_3 := pw_cell_below hb1 d_3; replace d_4 := pw_cell_below hb1 d_4; clear hb1)
         go_quiet (fail)
         go_wp2_with fail
         go_ret
         exact ⟨by simp only [mItems, ← HLX.out, idx_stop hlt HR.out, h1, h2, Bool.not_true, Bool.not_false, Bool.true_and, Bool.false_and, Bool.and_true, Bool.and_false, Bool.true_or, Bool.false_or, Bool.or_true, Bool.or_false, Bool.false_eq_true, if_true, if_false] <;> rfl, (pw_below_drewN HW.out _)⟩
       | skip
         have HR := Aside0.mk (show (mPairAt xs) L k = true by simp only [mPairAt, Option.elim, *, EY.out, EZ.out, Bool.not_true, Bool.not_false, Bool.true_and, Bool.false_and, Bool.and_true, Bool.and_false, Bool.true_or, Bool.false_or, Bool.or_true, Bool.or_false, Bool.false_eq_true, if_true, if_false])
         go_wp2_with (go_at_call 255; (with_reducible refine (all_Item mItem 256 (fun _ _ => by kernel_rfl) w0 _ _ _ _ _ _ (by assumption) HPItem.out HC.out HA.out).mono ?_); rintro e w1 ⟨rfl, hb1⟩; replace HW := Aside0.mk (below_step HW.out hb1); replace HA := Aside0.mk (below_step HA.out hb1); replace HBY := Aside0.mk (blk_below hb1 HBY.out); replace hcY := blk_cell HBY.out; replace hfY := blk_frozen HBY.out; replace d_0 := pw_cell_below hb1 d_0; replace d_1 := pw_cell_below hb1 d_1; replace d_2 := pw_cell_below hb1 d_2; replace d_3 := pw_cell_below hb1 d_3; replace d_4 := pw_cell_below hb1 d_4; clear hb1)
         go_quiet (fail)
         go_wp2_with fail
         go_roundw
         case rel => exact ⟨k + 1, by go_num, by omega, ⟨idx_step HQ.out HR.out⟩, ⟨(pw_below_drewN HW.out _)⟩, ⟨(pw_below_drewN HA.out _)⟩⟩
         case measure => simp [intOf]; omega
   · have HL := idx_done HQ.out (by omega)
     go_wp2_with fail
     go_ret
     exact ⟨by simp only [mItems, ← HLX.out, HL, h1, h2, Bool.not_true, Bool.not_false, Bool.true_and, Bool.false_and, Bool.and_true, Bool.and_false, Bool.true_or, Bool.false_or, Bool.or_true, Bool.or_false, Bool.false_eq_true, if_true, if_false]; rfl, HW.out⟩
 all_goals
  go_wp2_with (go_at_call 255; (with_reducible refine (all_Item mItem 256 (fun _ _ => by kernel_rfl) w0 _ _ _ _ _ _ (by assumption) HPItem.out HC.out HA.out).mono ?_); rintro e w1 ⟨rfl, hb1⟩; replace HW := Aside0.mk (below_step HW.out hb1); replace HA := Aside0.mk (below_step HA.out hb1); clear hb1)
  go_ret
  exact ⟨by simp only [mItems, *, Bool.not_true, Bool.not_false, Bool.true_and, Bool.false_and, Bool.and_true, Bool.and_false, Bool.true_or, Bool.false_or, Bool.or_true, Bool.or_false, Bool.false_eq_true, if_true, if_false] <;> rfl, HW.out⟩
end Go.Proofs.YtmneemhplffemaaGreatDoorRR.May
namespace Go.Proofs.YtmneemhplffemaaGreatDoorRR.Law
open Go.RowKit Go.Proofs.YtmneemhplffemaaGreatDoorRR.Ord Go.Proofs.YtmneemhplffemaaGreatDoorRR.Name Go.Proofs.YtmneemhplffemaaGreatDoorRR.Ext Go.Proofs.YtmneemhplffemaaGreatDoorRR.Wire Go.Proofs.YtmneemhplffemaaGreatDoorRR.Mem Go.Proofs.YtmneemhplffemaaGreatDoorRR.Put Go.Proofs.YtmneemhplffemaaGreatDoorRR.Get Go.Proofs.YtmneemhplffemaaGreatDoorRR.Ki Go.Proofs.YtmneemhplffemaaGreatDoorRR.Chk Go.Proofs.YtmneemhplffemaaGreatDoorRR.May Go.Proofs.YtmneemhplffemaaGreatDoorRRW.PrintWords
inductive Ltr where
 | ln
 | ls
 | lc
 | lr
 | lt
 | lf
 | lm
 | uW
 | lw
 | ld
 | uD
 | le
 | lv
 | ly
 | la
 | lo
 | uE
 | uI
 | uP
def Ltr.code : Ltr → Nat
 | .ln => 110
 | .ls => 115
 | .lc => 99
 | .lr => 114
 | .lt => 116
 | .lf => 102
 | .lm => 109
 | .uW => 87
 | .lw => 119
 | .ld => 100
 | .uD => 68
 | .le => 101
 | .lv => 118
 | .ly => 121
 | .la => 97
 | .lo => 111
 | .uE => 69
 | .uI => 73
 | .uP => 80
def ltrList : List (List Ltr) := [[], [.ls], [.ls, .lr, .lo], [.ls], [.ls, .lc], [.ls, .lc, .lt, .uW], [.ls, .lc, .lw], [.ls, .lc, .ld], [.ls, .lc, .lt], [.ln, .ls, .le], [.ln, .ls, .lr, .ly], [.ln, .ls], [.ln, .ls, .lc, .lt, .le], [.ln, .ls, .lc, .lt, .le, .uP], [.ln, .ls, .lc, .uD, .uI], [.lv], [.ln, .lt, .lf], [.ln, .lt, .lf, .uE, .lm], [.ln, .lt], [.ln, .lt, .lf, .la], [.ln], [], [.lv], [.ln], [.ln, .ls, .lc, .ld]]
def word (k : Nat) : List Ltr := ltrList.getD k []
abbrev Note := S34
def okF : Ltr → Note → Bool
 | .ln, x => okNum x.f1.f0 && decide (1 ≤ x.f1.f0)
 | .ls, x => okNum x.f2 && decide (1 ≤ x.f2)
 | .lc, x => okNum x.f3 && decide (1 ≤ x.f3)
 | .lr, x => okNum x.f4 && decide (1 ≤ x.f4)
 | .lt, x => okNum x.f5 && decide (0 ≤ x.f5)
 | .lf, x => okNum x.f6 && decide (0 ≤ x.f6)
 | .lm, x => okNum x.f7 && decide (0 ≤ x.f7)
 | .uW, x => decide ((x.f12.length : Int) ≤ 4) && x.f12.all mWatch
 | .lw, x => (x.f12.length == 1) && (x.f12[0]?).elim false mWatch
 | .ld, x => (x.f12.length == 1) && (x.f12[0]?).elim false mBare
 | .uD, x => (decide ((x.f12.length : Int) ≤ 4) && x.f12.all mBare) && mIds x.f12
 | .le, x => okNum x.f8
 | .lv, x => okNum x.f1.f0 && okNum x.f1.f1 && okNum x.f1.f2
 | .ly, x => mReply x.f11
 | .la, x => decide ((x.f15.size : Int) ≤ 200000)
 | .lo, x => mOps x.f9
 | .uE, x => decide ((x.f10.length : Int) ≤ 16) && x.f10.all mEntry
 | .uI, x => mItems x.f14
 | .uP, x => (x.f13.length == 1) && (x.f13[0]?).elim false fun p => okNum p.f0 && decide (1 ≤ p.f0)
def encF : Ltr → Note → List Int
 | .ln, x => encNum x.f1.f0
 | .ls, x => encNum x.f2
 | .lc, x => encNum x.f3
 | .lr, x => encNum x.f4
 | .lt, x => encNum x.f5
 | .lf, x => encNum x.f6
 | .lm, x => encNum x.f7
 | .uW, x => encList encWatch x.f12
 | .lw, x => encList encWatch x.f12
 | .ld, x => encList encWatch x.f12
 | .uD, x => encList encWatch x.f12
 | .le, x => encNum x.f8
 | .lv, x => encNum x.f1.f0 ++ (encNum x.f1.f1 ++ encNum x.f1.f2)
 | .ly, x => encReply x.f11
 | .la, x => encTxt x.f15
 | .lo, x => encList encOp x.f9
 | .uE, x => encList encEntry x.f10
 | .uI, x => encList encItem x.f14
 | .uP, x => encList encPart x.f13
def dF : Ltr → List Int → Nat → Note → Option (Note × Nat)
 | .ln, xs, a, x => (dNum xs a).bind fun p => some ({ x with f1 := { x.f1 with f0 := p.1 } }, p.2)
 | .ls, xs, a, x => (dNum xs a).bind fun p => some ({ x with f2 := p.1 }, p.2)
 | .lc, xs, a, x => (dNum xs a).bind fun p => some ({ x with f3 := p.1 }, p.2)
 | .lr, xs, a, x => (dNum xs a).bind fun p => some ({ x with f4 := p.1 }, p.2)
 | .lt, xs, a, x => (dNum xs a).bind fun p => some ({ x with f5 := p.1 }, p.2)
 | .lf, xs, a, x => (dNum xs a).bind fun p => some ({ x with f6 := p.1 }, p.2)
 | .lm, xs, a, x => (dNum xs a).bind fun p => some ({ x with f7 := p.1 }, p.2)
 | .uW, xs, a, x => (dLst dWatch xs a).bind fun p => some ({ x with f12 := p.1 }, p.2)
 | .lw, xs, a, x => (dLst dWatch xs a).bind fun p => some ({ x with f12 := p.1 }, p.2)
 | .ld, xs, a, x => (dLst dWatch xs a).bind fun p => some ({ x with f12 := p.1 }, p.2)
 | .uD, xs, a, x => (dLst dWatch xs a).bind fun p => some ({ x with f12 := p.1 }, p.2)
 | .le, xs, a, x => (dNum xs a).bind fun p => some ({ x with f8 := p.1 }, p.2)
 | .lv, xs, a, x => (dNum xs a).bind fun p => (dNum xs p.2).bind fun q => (dNum xs q.2).bind fun r => some ({ x with f1 := ⟨p.1, q.1, r.1⟩ }, r.2)
 | .ly, xs, a, x => (dReply xs a).bind fun p => some ({ x with f11 := p.1 }, p.2)
 | .la, xs, a, x => (dTxt xs a).bind fun p => some ({ x with f15 := p.1 }, p.2)
 | .lo, xs, a, x => (dLst dOp xs a).bind fun p => some ({ x with f9 := p.1 }, p.2)
 | .uE, xs, a, x => (dLst dEntry xs a).bind fun p => some ({ x with f10 := p.1 }, p.2)
 | .uI, xs, a, x => (dLst dItem xs a).bind fun p => some ({ x with f14 := p.1 }, p.2)
 | .uP, xs, a, x => (dLst dPart xs a).bind fun p => some ({ x with f13 := p.1 }, p.2)
def clrF : Ltr → Note → Note
 | .ln, x => { x with f1 := { x.f1 with f0 := 0 } }
 | .ls, x => { x with f2 := 0 }
 | .lc, x => { x with f3 := 0 }
 | .lr, x => { x with f4 := 0 }
 | .lt, x => { x with f5 := 0 }
 | .lf, x => { x with f6 := 0 }
 | .lm, x => { x with f7 := 0 }
 | .uW, x => { x with f12 := [] }
 | .lw, x => { x with f12 := [] }
 | .ld, x => { x with f12 := [] }
 | .uD, x => { x with f12 := [] }
 | .le, x => { x with f8 := 0 }
 | .lv, x => { x with f1 := ⟨0, 0, 0⟩ }
 | .ly, x => { x with f11 := ⟨0, 0, 0, []⟩ }
 | .la, x => { x with f15 := ⟨#[]⟩ }
 | .lo, x => { x with f9 := [] }
 | .uE, x => { x with f10 := [] }
 | .uI, x => { x with f14 := [] }
 | .uP, x => { x with f13 := [] }
def dFs : List Ltr → List Int → Nat → Note → Option (Note × Nat)
 | [], _, a, x => some (x, a)
 | l :: w, xs, a, x => (dF l xs a x).bind fun p => dFs w xs p.2 p.1
def clrFs (w : List Ltr) (x : Note) : Note := w.foldl (fun y l => clrF l y) x
def zeroNote (k : Int) : Note := ⟨k, ⟨0, 0, 0⟩, 0, 0, 0, 0, 0, 0, 0, [], [], ⟨0, 0, 0, []⟩, [], [], [], ⟨#[]⟩⟩
def mBlank (x : Note) : Bool := (x.f1.f0 == 0) && (x.f1.f1 == 0) && (x.f1.f2 == 0) && (x.f2 == 0) && (x.f3 == 0) && (x.f4 == 0) && (x.f5 == 0) && (x.f6 == 0) && (x.f7 == 0) && (x.f8 == 0) && x.f15.toList.isEmpty && (x.f11.f0 == 0) && (x.f11.f1 == 0) && (x.f11.f2 == 0) && (x.f9.length + x.f10.length + x.f11.f3.length + x.f12.length + x.f13.length + x.f14.length == 0)
def mGranted (x : Note) : Bool := (x.f13[0]?).elim false fun p => if (x.f8 == 0) = true then mShot p.f1 else mEmpty p.f1
def mCheck (x : Note) : Bool := decide (1 ≤ x.f0) && decide (x.f0 < 25) && (word x.f0.toNat).all (fun l => okF l x) && mBlank (clrFs (word x.f0.toNat) x) && (!(x.f0 == 13) || mGranted x)
def encNote (x : Note) : List Int := encNum x.f0 ++ (word x.f0.toNat).flatMap (fun l => encF l x)
def dNote (xs : List Int) : Option Note := (dNum xs 0).bind fun p => if p.1 < 1 ∨ 25 ≤ p.1 then none else (dFs (word p.1.toNat) xs p.2 (zeroNote p.1)).bind fun r => if r.2 = xs.length then some r.1 else none
end Go.Proofs.YtmneemhplffemaaGreatDoorRR.Law
namespace Go.Proofs.YtmneemhplffemaaGreatDoorRR.Tab
open Go.RowKit Go.Proofs.YtmneemhplffemaaGreatDoorRR.Ext Go.Proofs.YtmneemhplffemaaGreatDoorRR.Mem Go.Proofs.YtmneemhplffemaaGreatDoorRR.Law Go.Proofs.YtmneemhplffemaaGreatDoorRR.Row Go.Proofs.YtmneemhplffemaaGreatDoorRR.Ki Go.Proofs.YtmneemhplffemaaGreatDoorRRW.PrintWords

theorem infoField : (Tryz.prog.info? 109).map (·.size) = some 6 := by kernel_rfl
def fCells : Ltr → List Value
 | .ln => [.int .i64 1, .func (.func 132) #[] #[], .nilFunc, .nilFunc, .nilFunc, .nilFunc]
 | .ls => [.int .i64 1, .func (.func 133) #[] #[], .nilFunc, .nilFunc, .nilFunc, .nilFunc]
 | .lc => [.int .i64 1, .func (.func 134) #[] #[], .nilFunc, .nilFunc, .nilFunc, .nilFunc]
 | .lr => [.int .i64 1, .func (.func 135) #[] #[], .nilFunc, .nilFunc, .nilFunc, .nilFunc]
 | .lt => [.int .i64 0, .func (.func 136) #[] #[], .nilFunc, .nilFunc, .nilFunc, .nilFunc]
 | .lf => [.int .i64 0, .func (.func 137) #[] #[], .nilFunc, .nilFunc, .nilFunc, .nilFunc]
 | .lm => [.int .i64 0, .func (.func 138) #[] #[], .nilFunc, .nilFunc, .nilFunc, .nilFunc]
 | .uW => [.int .i64 0, .nilFunc, .func (.func 170) #[] #[], .func (.func 171) #[] #[], .func (.func 172) #[] #[], .func (.func 140) #[] #[]]
 | .lw => [.int .i64 0, .nilFunc, .func (.func 170) #[] #[], .func (.func 171) #[] #[], .func (.func 172) #[] #[], .func (.func 143) #[] #[]]
 | .ld => [.int .i64 0, .nilFunc, .func (.func 170) #[] #[], .func (.func 171) #[] #[], .func (.func 172) #[] #[], .func (.func 144) #[] #[]]
 | .uD => [.int .i64 0, .nilFunc, .func (.func 170) #[] #[], .func (.func 171) #[] #[], .func (.func 172) #[] #[], .func (.func 146) #[] #[]]
 | .le => [.int .i64 0, .nilFunc, .func (.func 235) #[] #[], .func (.func 236) #[] #[], .func (.func 237) #[] #[], .func (.func 238) #[] #[]]
 | .lv => [.int .i64 0, .nilFunc, .func (.func 239) #[] #[], .func (.func 240) #[] #[], .func (.func 241) #[] #[], .func (.func 242) #[] #[]]
 | .ly => [.int .i64 0, .nilFunc, .func (.func 180) #[] #[], .func (.func 182) #[] #[], .func (.func 184) #[] #[], .func (.func 185) #[] #[]]
 | .la => [.int .i64 0, .nilFunc, .func (.func 187) #[] #[], .func (.func 188) #[] #[], .func (.func 189) #[] #[], .func (.func 190) #[] #[]]
 | .lo => [.int .i64 0, .nilFunc, .func (.func 191) #[] #[], .func (.func 192) #[] #[], .func (.func 193) #[] #[], .func (.func 194) #[] #[]]
 | .uE => [.int .i64 0, .nilFunc, .func (.func 195) #[] #[], .func (.func 197) #[] #[], .func (.func 199) #[] #[], .func (.func 200) #[] #[]]
 | .uI => [.int .i64 0, .nilFunc, .func (.func 202) #[] #[], .func (.func 205) #[] #[], .func (.func 208) #[] #[], .func (.func 209) #[] #[]]
 | .uP => [.int .i64 0, .nilFunc, .func (.func 211) #[] #[], .func (.func 214) #[] #[], .func (.func 217) #[] #[], .func (.func 218) #[] #[]]
set_option maxRecDepth 100000 in
theorem t_number (k : Int) (K : FuncId) (W : World) : Calls Tryz.prog 131 #[.int .i64 k, .func (.func K) #[] #[]] W fun e W' => e = .returned (.agg #[.int .i64 k, .func (.func K) #[] #[], .nilFunc, .nilFunc, .nilFunc, .nilFunc]) ∧ Below W.heap.size W W' := by
 go_enter Tryz.func131, Tryz.ntmps131
 go_wp2_with fail
 refine bodyPost_ret (results_c Tryz.results131 _ _ W.heap.size 109 #[.int .i64 k, .func (.func K) #[] #[], .nilFunc, .nilFunc, .nilFunc, .nilFunc] (0, 0) _ (by rfl) (blk_alloc _) Tryz.underlying109 rfl infoField) rfl ?_
 exact ⟨rfl, below_alloc (Below.refl _ _) _⟩
set_option maxRecDepth 100000 in
theorem t_watches (K : FuncId) (W : World) : Calls Tryz.prog 139 #[.func (.func K) #[] #[]] W fun e W' => e = .returned (.agg #[.int .i64 0, .nilFunc, .func (.func 170) #[] #[], .func (.func 171) #[] #[], .func (.func 172) #[] #[], .func (.func K) #[] #[]]) ∧ Below W.heap.size W W' := by
 go_enter Tryz.func139, Tryz.ntmps139
 go_wp2_with fail
 refine bodyPost_ret (results_c Tryz.results139 _ _ W.heap.size 109 #[.int .i64 0, .nilFunc, .func (.func 170) #[] #[], .func (.func 171) #[] #[], .func (.func 172) #[] #[], .func (.func K) #[] #[]] (0, 0) _ (by rfl) (blk_alloc _) Tryz.underlying109 rfl infoField) rfl ?_
 exact ⟨rfl, below_alloc (Below.refl _ _) _⟩
set_option maxRecDepth 100000 in
theorem t_code (W : World) : Calls Tryz.prog 178 #[] W fun e W' => e = .returned (.agg #[.int .i64 0, .nilFunc, .func (.func 235) #[] #[], .func (.func 236) #[] #[], .func (.func 237) #[] #[], .func (.func 238) #[] #[]]) ∧ Below W.heap.size W W' := by
 go_enter Tryz.func178, Tryz.ntmps178
 go_wp2_with fail
 refine bodyPost_ret (results_c Tryz.results178 _ _ W.heap.size 109 #[.int .i64 0, .nilFunc, .func (.func 235) #[] #[], .func (.func 236) #[] #[], .func (.func 237) #[] #[], .func (.func 238) #[] #[]] (0, 0) _ (by rfl) (blk_alloc _) Tryz.underlying109 rfl infoField) rfl ?_
 exact ⟨rfl, below_alloc (Below.refl _ _) _⟩
set_option maxRecDepth 100000 in
theorem t_view (W : World) : Calls Tryz.prog 179 #[] W fun e W' => e = .returned (.agg #[.int .i64 0, .nilFunc, .func (.func 239) #[] #[], .func (.func 240) #[] #[], .func (.func 241) #[] #[], .func (.func 242) #[] #[]]) ∧ Below W.heap.size W W' := by
 go_enter Tryz.func179, Tryz.ntmps179
 go_wp2_with fail
 refine bodyPost_ret (results_c Tryz.results179 _ _ W.heap.size 109 #[.int .i64 0, .nilFunc, .func (.func 239) #[] #[], .func (.func 240) #[] #[], .func (.func 241) #[] #[], .func (.func 242) #[] #[]] (0, 0) _ (by rfl) (blk_alloc _) Tryz.underlying109 rfl infoField) rfl ?_
 exact ⟨rfl, below_alloc (Below.refl _ _) _⟩
set_option maxRecDepth 100000 in
set_option maxHeartbeats 1000000 in
theorem t_larger_le (W : World) : Calls Tryz.prog 148 #[.int .u8 101] W fun e W' => e = .returned (.agg #[.int .i64 0, .nilFunc, .func (.func 235) #[] #[], .func (.func 236) #[] #[], .func (.func 237) #[] #[], .func (.func 238) #[] #[]]) ∧ Below W.heap.size W W' := by
 have HB := Aside0.mk (below_alloc (Below.refl W.heap.size W) (Obj.cells #[.int .i64 0, .nilFunc, .nilFunc, .nilFunc, .nilFunc, .nilFunc] 109 (0, 0)))
 have HBR := Aside0.mk (blk_alloc (W := W) (Obj.cells #[.int .i64 0, .nilFunc, .nilFunc, .nilFunc, .nilFunc, .nilFunc] 109 (0, 0)))
 go_enter Tryz.func148, Tryz.ntmps148
 go_wp2_with (go_at_call 178; (with_reducible refine (t_code _).mono ?_); rintro e w1 ⟨rfl, hb1⟩; replace HB := Aside0.mk (below_step HB.out hb1); replace HBR := Aside0.mk (blk_below hb1 HBR.out); have hcR := blk_cell HBR.out; have hfR := blk_frozen HBR.out; clear hb1)
 have HF := blk_set (blk_set (blk_set (blk_set (blk_set (blk_set HBR.out 0 (.int .i64 0)) 1 (.nilFunc)) 2 (.func (.func 235) #[] #[])) 3 (.func (.func 236) #[] #[])) 4 (.func (.func 237) #[] #[])) 5 (.func (.func 238) #[] #[])
 refine bodyPost_ret (results_c Tryz.results148 _ _ W.heap.size 109 #[.int .i64 0, .nilFunc, .func (.func 235) #[] #[], .func (.func 236) #[] #[], .func (.func 237) #[] #[], .func (.func 238) #[] #[]] (0, 0) _ (by rfl) (by simpa using HF) Tryz.underlying109 rfl infoField) rfl ?_
 have hmv := ((((((Moved.of_below HB.out (fun _ => False)).set_ (p := ⟨W.heap.size, 0, none⟩) (.inr (Nat.le_refl _)) (.int .i64 0)).set_ (p := ⟨W.heap.size, 1, none⟩) (.inr (Nat.le_refl _)) (.nilFunc)).set_ (p := ⟨W.heap.size, 2, none⟩) (.inr (Nat.le_refl _)) (.func (.func 235) #[] #[])).set_ (p := ⟨W.heap.size, 3, none⟩) (.inr (Nat.le_refl _)) (.func (.func 236) #[] #[])).set_ (p := ⟨W.heap.size, 4, none⟩) (.inr (Nat.le_refl _)) (.func (.func 237) #[] #[])).set_ (p := ⟨W.heap.size, 5, none⟩) (.inr (Nat.le_refl _)) (.func (.func 238) #[] #[])
 exact ⟨rfl, hmv.below (fun _ _ h => h)⟩
set_option maxRecDepth 100000 in
set_option maxHeartbeats 1000000 in
theorem t_larger_lv (W : World) : Calls Tryz.prog 148 #[.int .u8 118] W fun e W' => e = .returned (.agg #[.int .i64 0, .nilFunc, .func (.func 239) #[] #[], .func (.func 240) #[] #[], .func (.func 241) #[] #[], .func (.func 242) #[] #[]]) ∧ Below W.heap.size W W' := by
 have HB := Aside0.mk (below_alloc (Below.refl W.heap.size W) (Obj.cells #[.int .i64 0, .nilFunc, .nilFunc, .nilFunc, .nilFunc, .nilFunc] 109 (0, 0)))
 have HBR := Aside0.mk (blk_alloc (W := W) (Obj.cells #[.int .i64 0, .nilFunc, .nilFunc, .nilFunc, .nilFunc, .nilFunc] 109 (0, 0)))
 go_enter Tryz.func148, Tryz.ntmps148
 go_wp2_with (go_at_call 179; (with_reducible refine (t_view _).mono ?_); rintro e w1 ⟨rfl, hb1⟩; replace HB := Aside0.mk (below_step HB.out hb1); replace HBR := Aside0.mk (blk_below hb1 HBR.out); have hcR := blk_cell HBR.out; have hfR := blk_frozen HBR.out; clear hb1)
 have HF := blk_set (blk_set (blk_set (blk_set (blk_set (blk_set HBR.out 0 (.int .i64 0)) 1 (.nilFunc)) 2 (.func (.func 239) #[] #[])) 3 (.func (.func 240) #[] #[])) 4 (.func (.func 241) #[] #[])) 5 (.func (.func 242) #[] #[])
 refine bodyPost_ret (results_c Tryz.results148 _ _ W.heap.size 109 #[.int .i64 0, .nilFunc, .func (.func 239) #[] #[], .func (.func 240) #[] #[], .func (.func 241) #[] #[], .func (.func 242) #[] #[]] (0, 0) _ (by rfl) (by simpa using HF) Tryz.underlying109 rfl infoField) rfl ?_
 have hmv := ((((((Moved.of_below HB.out (fun _ => False)).set_ (p := ⟨W.heap.size, 0, none⟩) (.inr (Nat.le_refl _)) (.int .i64 0)).set_ (p := ⟨W.heap.size, 1, none⟩) (.inr (Nat.le_refl _)) (.nilFunc)).set_ (p := ⟨W.heap.size, 2, none⟩) (.inr (Nat.le_refl _)) (.func (.func 239) #[] #[])).set_ (p := ⟨W.heap.size, 3, none⟩) (.inr (Nat.le_refl _)) (.func (.func 240) #[] #[])).set_ (p := ⟨W.heap.size, 4, none⟩) (.inr (Nat.le_refl _)) (.func (.func 241) #[] #[])).set_ (p := ⟨W.heap.size, 5, none⟩) (.inr (Nat.le_refl _)) (.func (.func 242) #[] #[])
 exact ⟨rfl, hmv.below (fun _ _ h => h)⟩
set_option maxRecDepth 100000 in
set_option maxHeartbeats 1000000 in
theorem t_larger_ly (W : World) : Calls Tryz.prog 148 #[.int .u8 121] W fun e W' => e = .returned (.agg #[.int .i64 0, .nilFunc, .func (.func 180) #[] #[], .func (.func 182) #[] #[], .func (.func 184) #[] #[], .func (.func 185) #[] #[]]) ∧ Below W.heap.size W W' := by
 have HB := Aside0.mk (below_alloc (Below.refl W.heap.size W) (Obj.cells #[.int .i64 0, .nilFunc, .nilFunc, .nilFunc, .nilFunc, .nilFunc] 109 (0, 0)))
 have HBR := Aside0.mk (blk_alloc (W := W) (Obj.cells #[.int .i64 0, .nilFunc, .nilFunc, .nilFunc, .nilFunc, .nilFunc] 109 (0, 0)))
 go_enter Tryz.func148, Tryz.ntmps148
 go_wp2_with fail
 refine bodyPost_ret (results_c Tryz.results148 _ _ W.heap.size 109 #[.int .i64 0, .nilFunc, .func (.func 180) #[] #[], .func (.func 182) #[] #[], .func (.func 184) #[] #[], .func (.func 185) #[] #[]] (0, 0) _ (by rfl) (blk_alloc _) Tryz.underlying109 rfl infoField) rfl ?_
 exact ⟨rfl, below_alloc (Below.refl _ _) _⟩
set_option maxRecDepth 100000 in
set_option maxHeartbeats 1000000 in
theorem t_larger_la (W : World) : Calls Tryz.prog 148 #[.int .u8 97] W fun e W' => e = .returned (.agg #[.int .i64 0, .nilFunc, .func (.func 187) #[] #[], .func (.func 188) #[] #[], .func (.func 189) #[] #[], .func (.func 190) #[] #[]]) ∧ Below W.heap.size W W' := by
 have HB := Aside0.mk (below_alloc (Below.refl W.heap.size W) (Obj.cells #[.int .i64 0, .nilFunc, .nilFunc, .nilFunc, .nilFunc, .nilFunc] 109 (0, 0)))
 have HBR := Aside0.mk (blk_alloc (W := W) (Obj.cells #[.int .i64 0, .nilFunc, .nilFunc, .nilFunc, .nilFunc, .nilFunc] 109 (0, 0)))
 go_enter Tryz.func148, Tryz.ntmps148
 go_wp2_with fail
 refine bodyPost_ret (results_c Tryz.results148 _ _ W.heap.size 109 #[.int .i64 0, .nilFunc, .func (.func 187) #[] #[], .func (.func 188) #[] #[], .func (.func 189) #[] #[], .func (.func 190) #[] #[]] (0, 0) _ (by rfl) (blk_alloc _) Tryz.underlying109 rfl infoField) rfl ?_
 exact ⟨rfl, below_alloc (Below.refl _ _) _⟩
set_option maxRecDepth 100000 in
set_option maxHeartbeats 1000000 in
theorem t_larger_lo (W : World) : Calls Tryz.prog 148 #[.int .u8 111] W fun e W' => e = .returned (.agg #[.int .i64 0, .nilFunc, .func (.func 191) #[] #[], .func (.func 192) #[] #[], .func (.func 193) #[] #[], .func (.func 194) #[] #[]]) ∧ Below W.heap.size W W' := by
 have HB := Aside0.mk (below_alloc (Below.refl W.heap.size W) (Obj.cells #[.int .i64 0, .nilFunc, .nilFunc, .nilFunc, .nilFunc, .nilFunc] 109 (0, 0)))
 have HBR := Aside0.mk (blk_alloc (W := W) (Obj.cells #[.int .i64 0, .nilFunc, .nilFunc, .nilFunc, .nilFunc, .nilFunc] 109 (0, 0)))
 go_enter Tryz.func148, Tryz.ntmps148
 go_wp2_with fail
 refine bodyPost_ret (results_c Tryz.results148 _ _ W.heap.size 109 #[.int .i64 0, .nilFunc, .func (.func 191) #[] #[], .func (.func 192) #[] #[], .func (.func 193) #[] #[], .func (.func 194) #[] #[]] (0, 0) _ (by rfl) (blk_alloc _) Tryz.underlying109 rfl infoField) rfl ?_
 exact ⟨rfl, below_alloc (Below.refl _ _) _⟩
set_option maxRecDepth 100000 in
set_option maxHeartbeats 1000000 in
theorem t_larger_uE (W : World) : Calls Tryz.prog 148 #[.int .u8 69] W fun e W' => e = .returned (.agg #[.int .i64 0, .nilFunc, .func (.func 195) #[] #[], .func (.func 197) #[] #[], .func (.func 199) #[] #[], .func (.func 200) #[] #[]]) ∧ Below W.heap.size W W' := by
 have HB := Aside0.mk (below_alloc (Below.refl W.heap.size W) (Obj.cells #[.int .i64 0, .nilFunc, .nilFunc, .nilFunc, .nilFunc, .nilFunc] 109 (0, 0)))
 have HBR := Aside0.mk (blk_alloc (W := W) (Obj.cells #[.int .i64 0, .nilFunc, .nilFunc, .nilFunc, .nilFunc, .nilFunc] 109 (0, 0)))
 go_enter Tryz.func148, Tryz.ntmps148
 go_wp2_with fail
 refine bodyPost_ret (results_c Tryz.results148 _ _ W.heap.size 109 #[.int .i64 0, .nilFunc, .func (.func 195) #[] #[], .func (.func 197) #[] #[], .func (.func 199) #[] #[], .func (.func 200) #[] #[]] (0, 0) _ (by rfl) (blk_alloc _) Tryz.underlying109 rfl infoField) rfl ?_
 exact ⟨rfl, below_alloc (Below.refl _ _) _⟩
set_option maxRecDepth 100000 in
set_option maxHeartbeats 1000000 in
theorem t_larger_uI (W : World) : Calls Tryz.prog 148 #[.int .u8 73] W fun e W' => e = .returned (.agg #[.int .i64 0, .nilFunc, .func (.func 202) #[] #[], .func (.func 205) #[] #[], .func (.func 208) #[] #[], .func (.func 209) #[] #[]]) ∧ Below W.heap.size W W' := by
 have HB := Aside0.mk (below_alloc (Below.refl W.heap.size W) (Obj.cells #[.int .i64 0, .nilFunc, .nilFunc, .nilFunc, .nilFunc, .nilFunc] 109 (0, 0)))
 have HBR := Aside0.mk (blk_alloc (W := W) (Obj.cells #[.int .i64 0, .nilFunc, .nilFunc, .nilFunc, .nilFunc, .nilFunc] 109 (0, 0)))
 go_enter Tryz.func148, Tryz.ntmps148
 go_wp2_with fail
 refine bodyPost_ret (results_c Tryz.results148 _ _ W.heap.size 109 #[.int .i64 0, .nilFunc, .func (.func 202) #[] #[], .func (.func 205) #[] #[], .func (.func 208) #[] #[], .func (.func 209) #[] #[]] (0, 0) _ (by rfl) (blk_alloc _) Tryz.underlying109 rfl infoField) rfl ?_
 exact ⟨rfl, below_alloc (Below.refl _ _) _⟩
set_option maxRecDepth 100000 in
set_option maxHeartbeats 1000000 in
theorem t_larger_uP (W : World) : Calls Tryz.prog 148 #[.int .u8 80] W fun e W' => e = .returned (.agg #[.int .i64 0, .nilFunc, .func (.func 211) #[] #[], .func (.func 214) #[] #[], .func (.func 217) #[] #[], .func (.func 218) #[] #[]]) ∧ Below W.heap.size W W' := by
 have HB := Aside0.mk (below_alloc (Below.refl W.heap.size W) (Obj.cells #[.int .i64 0, .nilFunc, .nilFunc, .nilFunc, .nilFunc, .nilFunc] 109 (0, 0)))
 have HBR := Aside0.mk (blk_alloc (W := W) (Obj.cells #[.int .i64 0, .nilFunc, .nilFunc, .nilFunc, .nilFunc, .nilFunc] 109 (0, 0)))
 go_enter Tryz.func148, Tryz.ntmps148
 go_wp2_with fail
 refine bodyPost_ret (results_c Tryz.results148 _ _ W.heap.size 109 #[.int .i64 0, .nilFunc, .func (.func 211) #[] #[], .func (.func 214) #[] #[], .func (.func 217) #[] #[], .func (.func 218) #[] #[]] (0, 0) _ (by rfl) (blk_alloc _) Tryz.underlying109 rfl infoField) rfl ?_
 exact ⟨rfl, below_alloc (Below.refl _ _) _⟩
set_option maxRecDepth 100000 in
set_option maxHeartbeats 1000000 in
theorem t_field_ln (W : World) : Calls Tryz.prog 89 #[.int .u8 110] W fun e W' => e = .returned (.agg #[.int .i64 1, .func (.func 132) #[] #[], .nilFunc, .nilFunc, .nilFunc, .nilFunc]) ∧ Below W.heap.size W W' := by
 have HB := Aside0.mk (below_alloc (Below.refl W.heap.size W) (Obj.cells #[.int .i64 0, .nilFunc, .nilFunc, .nilFunc, .nilFunc, .nilFunc] 109 (0, 0)))
 have HBR := Aside0.mk (blk_alloc (W := W) (Obj.cells #[.int .i64 0, .nilFunc, .nilFunc, .nilFunc, .nilFunc, .nilFunc] 109 (0, 0)))
 go_enter Tryz.func89, Tryz.ntmps89
 go_wp2_with (go_at_call 131; (with_reducible refine (t_number _ _ _).mono ?_); rintro e w1 ⟨rfl, hb1⟩; replace HB := Aside0.mk (below_step HB.out hb1); replace HBR := Aside0.mk (blk_below hb1 HBR.out); have hcR := blk_cell HBR.out; have hfR := blk_frozen HBR.out; clear hb1)
 have HF := blk_set (blk_set (blk_set (blk_set (blk_set (blk_set HBR.out 0 (.int .i64 1)) 1 (.func (.func 132) #[] #[])) 2 (.nilFunc)) 3 (.nilFunc)) 4 (.nilFunc)) 5 (.nilFunc)
 refine bodyPost_ret (results_c Tryz.results89 _ _ W.heap.size 109 #[.int .i64 1, .func (.func 132) #[] #[], .nilFunc, .nilFunc, .nilFunc, .nilFunc] (0, 0) _ (by rfl) (by simpa using HF) Tryz.underlying109 rfl infoField) rfl ?_
 have hmv := ((((((Moved.of_below HB.out (fun _ => False)).set_ (p := ⟨W.heap.size, 0, none⟩) (.inr (Nat.le_refl _)) (.int .i64 1)).set_ (p := ⟨W.heap.size, 1, none⟩) (.inr (Nat.le_refl _)) (.func (.func 132) #[] #[])).set_ (p := ⟨W.heap.size, 2, none⟩) (.inr (Nat.le_refl _)) (.nilFunc)).set_ (p := ⟨W.heap.size, 3, none⟩) (.inr (Nat.le_refl _)) (.nilFunc)).set_ (p := ⟨W.heap.size, 4, none⟩) (.inr (Nat.le_refl _)) (.nilFunc)).set_ (p := ⟨W.heap.size, 5, none⟩) (.inr (Nat.le_refl _)) (.nilFunc)
 exact ⟨rfl, hmv.below (fun _ _ h => h)⟩
set_option maxRecDepth 100000 in
set_option maxHeartbeats 1000000 in
theorem t_field_ls (W : World) : Calls Tryz.prog 89 #[.int .u8 115] W fun e W' => e = .returned (.agg #[.int .i64 1, .func (.func 133) #[] #[], .nilFunc, .nilFunc, .nilFunc, .nilFunc]) ∧ Below W.heap.size W W' := by
 have HB := Aside0.mk (below_alloc (Below.refl W.heap.size W) (Obj.cells #[.int .i64 0, .nilFunc, .nilFunc, .nilFunc, .nilFunc, .nilFunc] 109 (0, 0)))
 have HBR := Aside0.mk (blk_alloc (W := W) (Obj.cells #[.int .i64 0, .nilFunc, .nilFunc, .nilFunc, .nilFunc, .nilFunc] 109 (0, 0)))
 go_enter Tryz.func89, Tryz.ntmps89
 go_wp2_with (go_at_call 131; (with_reducible refine (t_number _ _ _).mono ?_); rintro e w1 ⟨rfl, hb1⟩; replace HB := Aside0.mk (below_step HB.out hb1); replace HBR := Aside0.mk (blk_below hb1 HBR.out); have hcR := blk_cell HBR.out; have hfR := blk_frozen HBR.out; clear hb1)
 have HF := blk_set (blk_set (blk_set (blk_set (blk_set (blk_set HBR.out 0 (.int .i64 1)) 1 (.func (.func 133) #[] #[])) 2 (.nilFunc)) 3 (.nilFunc)) 4 (.nilFunc)) 5 (.nilFunc)
 refine bodyPost_ret (results_c Tryz.results89 _ _ W.heap.size 109 #[.int .i64 1, .func (.func 133) #[] #[], .nilFunc, .nilFunc, .nilFunc, .nilFunc] (0, 0) _ (by rfl) (by simpa using HF) Tryz.underlying109 rfl infoField) rfl ?_
 have hmv := ((((((Moved.of_below HB.out (fun _ => False)).set_ (p := ⟨W.heap.size, 0, none⟩) (.inr (Nat.le_refl _)) (.int .i64 1)).set_ (p := ⟨W.heap.size, 1, none⟩) (.inr (Nat.le_refl _)) (.func (.func 133) #[] #[])).set_ (p := ⟨W.heap.size, 2, none⟩) (.inr (Nat.le_refl _)) (.nilFunc)).set_ (p := ⟨W.heap.size, 3, none⟩) (.inr (Nat.le_refl _)) (.nilFunc)).set_ (p := ⟨W.heap.size, 4, none⟩) (.inr (Nat.le_refl _)) (.nilFunc)).set_ (p := ⟨W.heap.size, 5, none⟩) (.inr (Nat.le_refl _)) (.nilFunc)
 exact ⟨rfl, hmv.below (fun _ _ h => h)⟩
set_option maxRecDepth 100000 in
set_option maxHeartbeats 1000000 in
theorem t_field_lc (W : World) : Calls Tryz.prog 89 #[.int .u8 99] W fun e W' => e = .returned (.agg #[.int .i64 1, .func (.func 134) #[] #[], .nilFunc, .nilFunc, .nilFunc, .nilFunc]) ∧ Below W.heap.size W W' := by
 have HB := Aside0.mk (below_alloc (Below.refl W.heap.size W) (Obj.cells #[.int .i64 0, .nilFunc, .nilFunc, .nilFunc, .nilFunc, .nilFunc] 109 (0, 0)))
 have HBR := Aside0.mk (blk_alloc (W := W) (Obj.cells #[.int .i64 0, .nilFunc, .nilFunc, .nilFunc, .nilFunc, .nilFunc] 109 (0, 0)))
 go_enter Tryz.func89, Tryz.ntmps89
 go_wp2_with (go_at_call 131; (with_reducible refine (t_number _ _ _).mono ?_); rintro e w1 ⟨rfl, hb1⟩; replace HB := Aside0.mk (below_step HB.out hb1); replace HBR := Aside0.mk (blk_below hb1 HBR.out); have hcR := blk_cell HBR.out; have hfR := blk_frozen HBR.out; clear hb1)
 have HF := blk_set (blk_set (blk_set (blk_set (blk_set (blk_set HBR.out 0 (.int .i64 1)) 1 (.func (.func 134) #[] #[])) 2 (.nilFunc)) 3 (.nilFunc)) 4 (.nilFunc)) 5 (.nilFunc)
 refine bodyPost_ret (results_c Tryz.results89 _ _ W.heap.size 109 #[.int .i64 1, .func (.func 134) #[] #[], .nilFunc, .nilFunc, .nilFunc, .nilFunc] (0, 0) _ (by rfl) (by simpa using HF) Tryz.underlying109 rfl infoField) rfl ?_
 have hmv := ((((((Moved.of_below HB.out (fun _ => False)).set_ (p := ⟨W.heap.size, 0, none⟩) (.inr (Nat.le_refl _)) (.int .i64 1)).set_ (p := ⟨W.heap.size, 1, none⟩) (.inr (Nat.le_refl _)) (.func (.func 134) #[] #[])).set_ (p := ⟨W.heap.size, 2, none⟩) (.inr (Nat.le_refl _)) (.nilFunc)).set_ (p := ⟨W.heap.size, 3, none⟩) (.inr (Nat.le_refl _)) (.nilFunc)).set_ (p := ⟨W.heap.size, 4, none⟩) (.inr (Nat.le_refl _)) (.nilFunc)).set_ (p := ⟨W.heap.size, 5, none⟩) (.inr (Nat.le_refl _)) (.nilFunc)
 exact ⟨rfl, hmv.below (fun _ _ h => h)⟩
set_option maxRecDepth 100000 in
set_option maxHeartbeats 1000000 in
theorem t_field_lr (W : World) : Calls Tryz.prog 89 #[.int .u8 114] W fun e W' => e = .returned (.agg #[.int .i64 1, .func (.func 135) #[] #[], .nilFunc, .nilFunc, .nilFunc, .nilFunc]) ∧ Below W.heap.size W W' := by
 have HB := Aside0.mk (below_alloc (Below.refl W.heap.size W) (Obj.cells #[.int .i64 0, .nilFunc, .nilFunc, .nilFunc, .nilFunc, .nilFunc] 109 (0, 0)))
 have HBR := Aside0.mk (blk_alloc (W := W) (Obj.cells #[.int .i64 0, .nilFunc, .nilFunc, .nilFunc, .nilFunc, .nilFunc] 109 (0, 0)))
 go_enter Tryz.func89, Tryz.ntmps89
 go_wp2_with (go_at_call 131; (with_reducible refine (t_number _ _ _).mono ?_); rintro e w1 ⟨rfl, hb1⟩; replace HB := Aside0.mk (below_step HB.out hb1); replace HBR := Aside0.mk (blk_below hb1 HBR.out); have hcR := blk_cell HBR.out; have hfR := blk_frozen HBR.out; clear hb1)
 have HF := blk_set (blk_set (blk_set (blk_set (blk_set (blk_set HBR.out 0 (.int .i64 1)) 1 (.func (.func 135) #[] #[])) 2 (.nilFunc)) 3 (.nilFunc)) 4 (.nilFunc)) 5 (.nilFunc)
 refine bodyPost_ret (results_c Tryz.results89 _ _ W.heap.size 109 #[.int .i64 1, .func (.func 135) #[] #[], .nilFunc, .nilFunc, .nilFunc, .nilFunc] (0, 0) _ (by rfl) (by simpa using HF) Tryz.underlying109 rfl infoField) rfl ?_
 have hmv := ((((((Moved.of_below HB.out (fun _ => False)).set_ (p := ⟨W.heap.size, 0, none⟩) (.inr (Nat.le_refl _)) (.int .i64 1)).set_ (p := ⟨W.heap.size, 1, none⟩) (.inr (Nat.le_refl _)) (.func (.func 135) #[] #[])).set_ (p := ⟨W.heap.size, 2, none⟩) (.inr (Nat.le_refl _)) (.nilFunc)).set_ (p := ⟨W.heap.size, 3, none⟩) (.inr (Nat.le_refl _)) (.nilFunc)).set_ (p := ⟨W.heap.size, 4, none⟩) (.inr (Nat.le_refl _)) (.nilFunc)).set_ (p := ⟨W.heap.size, 5, none⟩) (.inr (Nat.le_refl _)) (.nilFunc)
 exact ⟨rfl, hmv.below (fun _ _ h => h)⟩
set_option maxRecDepth 100000 in
set_option maxHeartbeats 1000000 in
theorem t_field_lt (W : World) : Calls Tryz.prog 89 #[.int .u8 116] W fun e W' => e = .returned (.agg #[.int .i64 0, .func (.func 136) #[] #[], .nilFunc, .nilFunc, .nilFunc, .nilFunc]) ∧ Below W.heap.size W W' := by
 have HB := Aside0.mk (below_alloc (Below.refl W.heap.size W) (Obj.cells #[.int .i64 0, .nilFunc, .nilFunc, .nilFunc, .nilFunc, .nilFunc] 109 (0, 0)))
 have HBR := Aside0.mk (blk_alloc (W := W) (Obj.cells #[.int .i64 0, .nilFunc, .nilFunc, .nilFunc, .nilFunc, .nilFunc] 109 (0, 0)))
 go_enter Tryz.func89, Tryz.ntmps89
 go_wp2_with (go_at_call 131; (with_reducible refine (t_number _ _ _).mono ?_); rintro e w1 ⟨rfl, hb1⟩; replace HB := Aside0.mk (below_step HB.out hb1); replace HBR := Aside0.mk (blk_below hb1 HBR.out); have hcR := blk_cell HBR.out; have hfR := blk_frozen HBR.out; clear hb1)
 have HF := blk_set (blk_set (blk_set (blk_set (blk_set (blk_set HBR.out 0 (.int .i64 0)) 1 (.func (.func 136) #[] #[])) 2 (.nilFunc)) 3 (.nilFunc)) 4 (.nilFunc)) 5 (.nilFunc)
 refine bodyPost_ret (results_c Tryz.results89 _ _ W.heap.size 109 #[.int .i64 0, .func (.func 136) #[] #[], .nilFunc, .nilFunc, .nilFunc, .nilFunc] (0, 0) _ (by rfl) (by simpa using HF) Tryz.underlying109 rfl infoField) rfl ?_
 have hmv := ((((((Moved.of_below HB.out (fun _ => False)).set_ (p := ⟨W.heap.size, 0, none⟩) (.inr (Nat.le_refl _)) (.int .i64 0)).set_ (p := ⟨W.heap.size, 1, none⟩) (.inr (Nat.le_refl _)) (.func (.func 136) #[] #[])).set_ (p := ⟨W.heap.size, 2, none⟩) (.inr (Nat.le_refl _)) (.nilFunc)).set_ (p := ⟨W.heap.size, 3, none⟩) (.inr (Nat.le_refl _)) (.nilFunc)).set_ (p := ⟨W.heap.size, 4, none⟩) (.inr (Nat.le_refl _)) (.nilFunc)).set_ (p := ⟨W.heap.size, 5, none⟩) (.inr (Nat.le_refl _)) (.nilFunc)
 exact ⟨rfl, hmv.below (fun _ _ h => h)⟩
set_option maxRecDepth 100000 in
set_option maxHeartbeats 1000000 in
theorem t_field_lf (W : World) : Calls Tryz.prog 89 #[.int .u8 102] W fun e W' => e = .returned (.agg #[.int .i64 0, .func (.func 137) #[] #[], .nilFunc, .nilFunc, .nilFunc, .nilFunc]) ∧ Below W.heap.size W W' := by
 have HB := Aside0.mk (below_alloc (Below.refl W.heap.size W) (Obj.cells #[.int .i64 0, .nilFunc, .nilFunc, .nilFunc, .nilFunc, .nilFunc] 109 (0, 0)))
 have HBR := Aside0.mk (blk_alloc (W := W) (Obj.cells #[.int .i64 0, .nilFunc, .nilFunc, .nilFunc, .nilFunc, .nilFunc] 109 (0, 0)))
 go_enter Tryz.func89, Tryz.ntmps89
 go_wp2_with (go_at_call 131; (with_reducible refine (t_number _ _ _).mono ?_); rintro e w1 ⟨rfl, hb1⟩; replace HB := Aside0.mk (below_step HB.out hb1); replace HBR := Aside0.mk (blk_below hb1 HBR.out); have hcR := blk_cell HBR.out; have hfR := blk_frozen HBR.out; clear hb1)
 have HF := blk_set (blk_set (blk_set (blk_set (blk_set (blk_set HBR.out 0 (.int .i64 0)) 1 (.func (.func 137) #[] #[])) 2 (.nilFunc)) 3 (.nilFunc)) 4 (.nilFunc)) 5 (.nilFunc)
 refine bodyPost_ret (results_c Tryz.results89 _ _ W.heap.size 109 #[.int .i64 0, .func (.func 137) #[] #[], .nilFunc, .nilFunc, .nilFunc, .nilFunc] (0, 0) _ (by rfl) (by simpa using HF) Tryz.underlying109 rfl infoField) rfl ?_
 have hmv := ((((((Moved.of_below HB.out (fun _ => False)).set_ (p := ⟨W.heap.size, 0, none⟩) (.inr (Nat.le_refl _)) (.int .i64 0)).set_ (p := ⟨W.heap.size, 1, none⟩) (.inr (Nat.le_refl _)) (.func (.func 137) #[] #[])).set_ (p := ⟨W.heap.size, 2, none⟩) (.inr (Nat.le_refl _)) (.nilFunc)).set_ (p := ⟨W.heap.size, 3, none⟩) (.inr (Nat.le_refl _)) (.nilFunc)).set_ (p := ⟨W.heap.size, 4, none⟩) (.inr (Nat.le_refl _)) (.nilFunc)).set_ (p := ⟨W.heap.size, 5, none⟩) (.inr (Nat.le_refl _)) (.nilFunc)
 exact ⟨rfl, hmv.below (fun _ _ h => h)⟩
set_option maxRecDepth 100000 in
set_option maxHeartbeats 1000000 in
theorem t_field_lm (W : World) : Calls Tryz.prog 89 #[.int .u8 109] W fun e W' => e = .returned (.agg #[.int .i64 0, .func (.func 138) #[] #[], .nilFunc, .nilFunc, .nilFunc, .nilFunc]) ∧ Below W.heap.size W W' := by
 have HB := Aside0.mk (below_alloc (Below.refl W.heap.size W) (Obj.cells #[.int .i64 0, .nilFunc, .nilFunc, .nilFunc, .nilFunc, .nilFunc] 109 (0, 0)))
 have HBR := Aside0.mk (blk_alloc (W := W) (Obj.cells #[.int .i64 0, .nilFunc, .nilFunc, .nilFunc, .nilFunc, .nilFunc] 109 (0, 0)))
 go_enter Tryz.func89, Tryz.ntmps89
 go_wp2_with (go_at_call 131; (with_reducible refine (t_number _ _ _).mono ?_); rintro e w1 ⟨rfl, hb1⟩; replace HB := Aside0.mk (below_step HB.out hb1); replace HBR := Aside0.mk (blk_below hb1 HBR.out); have hcR := blk_cell HBR.out; have hfR := blk_frozen HBR.out; clear hb1)
 have HF := blk_set (blk_set (blk_set (blk_set (blk_set (blk_set HBR.out 0 (.int .i64 0)) 1 (.func (.func 138) #[] #[])) 2 (.nilFunc)) 3 (.nilFunc)) 4 (.nilFunc)) 5 (.nilFunc)
 refine bodyPost_ret (results_c Tryz.results89 _ _ W.heap.size 109 #[.int .i64 0, .func (.func 138) #[] #[], .nilFunc, .nilFunc, .nilFunc, .nilFunc] (0, 0) _ (by rfl) (by simpa using HF) Tryz.underlying109 rfl infoField) rfl ?_
 have hmv := ((((((Moved.of_below HB.out (fun _ => False)).set_ (p := ⟨W.heap.size, 0, none⟩) (.inr (Nat.le_refl _)) (.int .i64 0)).set_ (p := ⟨W.heap.size, 1, none⟩) (.inr (Nat.le_refl _)) (.func (.func 138) #[] #[])).set_ (p := ⟨W.heap.size, 2, none⟩) (.inr (Nat.le_refl _)) (.nilFunc)).set_ (p := ⟨W.heap.size, 3, none⟩) (.inr (Nat.le_refl _)) (.nilFunc)).set_ (p := ⟨W.heap.size, 4, none⟩) (.inr (Nat.le_refl _)) (.nilFunc)).set_ (p := ⟨W.heap.size, 5, none⟩) (.inr (Nat.le_refl _)) (.nilFunc)
 exact ⟨rfl, hmv.below (fun _ _ h => h)⟩
set_option maxRecDepth 100000 in
set_option maxHeartbeats 1000000 in
theorem t_field_uW (W : World) : Calls Tryz.prog 89 #[.int .u8 87] W fun e W' => e = .returned (.agg #[.int .i64 0, .nilFunc, .func (.func 170) #[] #[], .func (.func 171) #[] #[], .func (.func 172) #[] #[], .func (.func 140) #[] #[]]) ∧ Below W.heap.size W W' := by
 have HB := Aside0.mk (below_alloc (Below.refl W.heap.size W) (Obj.cells #[.int .i64 0, .nilFunc, .nilFunc, .nilFunc, .nilFunc, .nilFunc] 109 (0, 0)))
 have HBR := Aside0.mk (blk_alloc (W := W) (Obj.cells #[.int .i64 0, .nilFunc, .nilFunc, .nilFunc, .nilFunc, .nilFunc] 109 (0, 0)))
 go_enter Tryz.func89, Tryz.ntmps89
 go_wp2_with (go_at_call 139; (with_reducible refine (t_watches _ _).mono ?_); rintro e w1 ⟨rfl, hb1⟩; replace HB := Aside0.mk (below_step HB.out hb1); replace HBR := Aside0.mk (blk_below hb1 HBR.out); have hcR := blk_cell HBR.out; have hfR := blk_frozen HBR.out; clear hb1)
 have HF := blk_set (blk_set (blk_set (blk_set (blk_set (blk_set HBR.out 0 (.int .i64 0)) 1 (.nilFunc)) 2 (.func (.func 170) #[] #[])) 3 (.func (.func 171) #[] #[])) 4 (.func (.func 172) #[] #[])) 5 (.func (.func 140) #[] #[])
 refine bodyPost_ret (results_c Tryz.results89 _ _ W.heap.size 109 #[.int .i64 0, .nilFunc, .func (.func 170) #[] #[], .func (.func 171) #[] #[], .func (.func 172) #[] #[], .func (.func 140) #[] #[]] (0, 0) _ (by rfl) (by simpa using HF) Tryz.underlying109 rfl infoField) rfl ?_
 have hmv := ((((((Moved.of_below HB.out (fun _ => False)).set_ (p := ⟨W.heap.size, 0, none⟩) (.inr (Nat.le_refl _)) (.int .i64 0)).set_ (p := ⟨W.heap.size, 1, none⟩) (.inr (Nat.le_refl _)) (.nilFunc)).set_ (p := ⟨W.heap.size, 2, none⟩) (.inr (Nat.le_refl _)) (.func (.func 170) #[] #[])).set_ (p := ⟨W.heap.size, 3, none⟩) (.inr (Nat.le_refl _)) (.func (.func 171) #[] #[])).set_ (p := ⟨W.heap.size, 4, none⟩) (.inr (Nat.le_refl _)) (.func (.func 172) #[] #[])).set_ (p := ⟨W.heap.size, 5, none⟩) (.inr (Nat.le_refl _)) (.func (.func 140) #[] #[])
 exact ⟨rfl, hmv.below (fun _ _ h => h)⟩
set_option maxRecDepth 100000 in
set_option maxHeartbeats 1000000 in
theorem t_field_lw (W : World) : Calls Tryz.prog 89 #[.int .u8 119] W fun e W' => e = .returned (.agg #[.int .i64 0, .nilFunc, .func (.func 170) #[] #[], .func (.func 171) #[] #[], .func (.func 172) #[] #[], .func (.func 143) #[] #[]]) ∧ Below W.heap.size W W' := by
 have HB := Aside0.mk (below_alloc (Below.refl W.heap.size W) (Obj.cells #[.int .i64 0, .nilFunc, .nilFunc, .nilFunc, .nilFunc, .nilFunc] 109 (0, 0)))
 have HBR := Aside0.mk (blk_alloc (W := W) (Obj.cells #[.int .i64 0, .nilFunc, .nilFunc, .nilFunc, .nilFunc, .nilFunc] 109 (0, 0)))
 go_enter Tryz.func89, Tryz.ntmps89
 go_wp2_with (go_at_call 139; (with_reducible refine (t_watches _ _).mono ?_); rintro e w1 ⟨rfl, hb1⟩; replace HB := Aside0.mk (below_step HB.out hb1); replace HBR := Aside0.mk (blk_below hb1 HBR.out); have hcR := blk_cell HBR.out; have hfR := blk_frozen HBR.out; clear hb1)
 have HF := blk_set (blk_set (blk_set (blk_set (blk_set (blk_set HBR.out 0 (.int .i64 0)) 1 (.nilFunc)) 2 (.func (.func 170) #[] #[])) 3 (.func (.func 171) #[] #[])) 4 (.func (.func 172) #[] #[])) 5 (.func (.func 143) #[] #[])
 refine bodyPost_ret (results_c Tryz.results89 _ _ W.heap.size 109 #[.int .i64 0, .nilFunc, .func (.func 170) #[] #[], .func (.func 171) #[] #[], .func (.func 172) #[] #[], .func (.func 143) #[] #[]] (0, 0) _ (by rfl) (by simpa using HF) Tryz.underlying109 rfl infoField) rfl ?_
 have hmv := ((((((Moved.of_below HB.out (fun _ => False)).set_ (p := ⟨W.heap.size, 0, none⟩) (.inr (Nat.le_refl _)) (.int .i64 0)).set_ (p := ⟨W.heap.size, 1, none⟩) (.inr (Nat.le_refl _)) (.nilFunc)).set_ (p := ⟨W.heap.size, 2, none⟩) (.inr (Nat.le_refl _)) (.func (.func 170) #[] #[])).set_ (p := ⟨W.heap.size, 3, none⟩) (.inr (Nat.le_refl _)) (.func (.func 171) #[] #[])).set_ (p := ⟨W.heap.size, 4, none⟩) (.inr (Nat.le_refl _)) (.func (.func 172) #[] #[])).set_ (p := ⟨W.heap.size, 5, none⟩) (.inr (Nat.le_refl _)) (.func (.func 143) #[] #[])
 exact ⟨rfl, hmv.below (fun _ _ h => h)⟩
set_option maxRecDepth 100000 in
set_option maxHeartbeats 1000000 in
theorem t_field_ld (W : World) : Calls Tryz.prog 89 #[.int .u8 100] W fun e W' => e = .returned (.agg #[.int .i64 0, .nilFunc, .func (.func 170) #[] #[], .func (.func 171) #[] #[], .func (.func 172) #[] #[], .func (.func 144) #[] #[]]) ∧ Below W.heap.size W W' := by
 have HB := Aside0.mk (below_alloc (Below.refl W.heap.size W) (Obj.cells #[.int .i64 0, .nilFunc, .nilFunc, .nilFunc, .nilFunc, .nilFunc] 109 (0, 0)))
 have HBR := Aside0.mk (blk_alloc (W := W) (Obj.cells #[.int .i64 0, .nilFunc, .nilFunc, .nilFunc, .nilFunc, .nilFunc] 109 (0, 0)))
 go_enter Tryz.func89, Tryz.ntmps89
 go_wp2_with (go_at_call 139; (with_reducible refine (t_watches _ _).mono ?_); rintro e w1 ⟨rfl, hb1⟩; replace HB := Aside0.mk (below_step HB.out hb1); replace HBR := Aside0.mk (blk_below hb1 HBR.out); have hcR := blk_cell HBR.out; have hfR := blk_frozen HBR.out; clear hb1)
 have HF := blk_set (blk_set (blk_set (blk_set (blk_set (blk_set HBR.out 0 (.int .i64 0)) 1 (.nilFunc)) 2 (.func (.func 170) #[] #[])) 3 (.func (.func 171) #[] #[])) 4 (.func (.func 172) #[] #[])) 5 (.func (.func 144) #[] #[])
 refine bodyPost_ret (results_c Tryz.results89 _ _ W.heap.size 109 #[.int .i64 0, .nilFunc, .func (.func 170) #[] #[], .func (.func 171) #[] #[], .func (.func 172) #[] #[], .func (.func 144) #[] #[]] (0, 0) _ (by rfl) (by simpa using HF) Tryz.underlying109 rfl infoField) rfl ?_
 have hmv := ((((((Moved.of_below HB.out (fun _ => False)).set_ (p := ⟨W.heap.size, 0, none⟩) (.inr (Nat.le_refl _)) (.int .i64 0)).set_ (p := ⟨W.heap.size, 1, none⟩) (.inr (Nat.le_refl _)) (.nilFunc)).set_ (p := ⟨W.heap.size, 2, none⟩) (.inr (Nat.le_refl _)) (.func (.func 170) #[] #[])).set_ (p := ⟨W.heap.size, 3, none⟩) (.inr (Nat.le_refl _)) (.func (.func 171) #[] #[])).set_ (p := ⟨W.heap.size, 4, none⟩) (.inr (Nat.le_refl _)) (.func (.func 172) #[] #[])).set_ (p := ⟨W.heap.size, 5, none⟩) (.inr (Nat.le_refl _)) (.func (.func 144) #[] #[])
 exact ⟨rfl, hmv.below (fun _ _ h => h)⟩
set_option maxRecDepth 100000 in
set_option maxHeartbeats 1000000 in
theorem t_field_uD (W : World) : Calls Tryz.prog 89 #[.int .u8 68] W fun e W' => e = .returned (.agg #[.int .i64 0, .nilFunc, .func (.func 170) #[] #[], .func (.func 171) #[] #[], .func (.func 172) #[] #[], .func (.func 146) #[] #[]]) ∧ Below W.heap.size W W' := by
 have HB := Aside0.mk (below_alloc (Below.refl W.heap.size W) (Obj.cells #[.int .i64 0, .nilFunc, .nilFunc, .nilFunc, .nilFunc, .nilFunc] 109 (0, 0)))
 have HBR := Aside0.mk (blk_alloc (W := W) (Obj.cells #[.int .i64 0, .nilFunc, .nilFunc, .nilFunc, .nilFunc, .nilFunc] 109 (0, 0)))
 go_enter Tryz.func89, Tryz.ntmps89
 go_wp2_with (go_at_call 139; (with_reducible refine (t_watches _ _).mono ?_); rintro e w1 ⟨rfl, hb1⟩; replace HB := Aside0.mk (below_step HB.out hb1); replace HBR := Aside0.mk (blk_below hb1 HBR.out); have hcR := blk_cell HBR.out; have hfR := blk_frozen HBR.out; clear hb1)
 have HF := blk_set (blk_set (blk_set (blk_set (blk_set (blk_set HBR.out 0 (.int .i64 0)) 1 (.nilFunc)) 2 (.func (.func 170) #[] #[])) 3 (.func (.func 171) #[] #[])) 4 (.func (.func 172) #[] #[])) 5 (.func (.func 146) #[] #[])
 refine bodyPost_ret (results_c Tryz.results89 _ _ W.heap.size 109 #[.int .i64 0, .nilFunc, .func (.func 170) #[] #[], .func (.func 171) #[] #[], .func (.func 172) #[] #[], .func (.func 146) #[] #[]] (0, 0) _ (by rfl) (by simpa using HF) Tryz.underlying109 rfl infoField) rfl ?_
 have hmv := ((((((Moved.of_below HB.out (fun _ => False)).set_ (p := ⟨W.heap.size, 0, none⟩) (.inr (Nat.le_refl _)) (.int .i64 0)).set_ (p := ⟨W.heap.size, 1, none⟩) (.inr (Nat.le_refl _)) (.nilFunc)).set_ (p := ⟨W.heap.size, 2, none⟩) (.inr (Nat.le_refl _)) (.func (.func 170) #[] #[])).set_ (p := ⟨W.heap.size, 3, none⟩) (.inr (Nat.le_refl _)) (.func (.func 171) #[] #[])).set_ (p := ⟨W.heap.size, 4, none⟩) (.inr (Nat.le_refl _)) (.func (.func 172) #[] #[])).set_ (p := ⟨W.heap.size, 5, none⟩) (.inr (Nat.le_refl _)) (.func (.func 146) #[] #[])
 exact ⟨rfl, hmv.below (fun _ _ h => h)⟩
set_option maxRecDepth 100000 in
set_option maxHeartbeats 1000000 in
theorem t_field_le (W : World) : Calls Tryz.prog 89 #[.int .u8 101] W fun e W' => e = .returned (.agg #[.int .i64 0, .nilFunc, .func (.func 235) #[] #[], .func (.func 236) #[] #[], .func (.func 237) #[] #[], .func (.func 238) #[] #[]]) ∧ Below W.heap.size W W' := by
 have HB := Aside0.mk (below_alloc (Below.refl W.heap.size W) (Obj.cells #[.int .i64 0, .nilFunc, .nilFunc, .nilFunc, .nilFunc, .nilFunc] 109 (0, 0)))
 have HBR := Aside0.mk (blk_alloc (W := W) (Obj.cells #[.int .i64 0, .nilFunc, .nilFunc, .nilFunc, .nilFunc, .nilFunc] 109 (0, 0)))
 go_enter Tryz.func89, Tryz.ntmps89
 go_wp2_with (go_at_call 148; (with_reducible refine (t_larger_le _).mono ?_); rintro e w1 ⟨rfl, hb1⟩; replace HB := Aside0.mk (below_step HB.out hb1); replace HBR := Aside0.mk (blk_below hb1 HBR.out); have hcR := blk_cell HBR.out; have hfR := blk_frozen HBR.out; clear hb1)
 have HF := blk_set (blk_set (blk_set (blk_set (blk_set (blk_set HBR.out 0 (.int .i64 0)) 1 (.nilFunc)) 2 (.func (.func 235) #[] #[])) 3 (.func (.func 236) #[] #[])) 4 (.func (.func 237) #[] #[])) 5 (.func (.func 238) #[] #[])
 refine bodyPost_ret (results_c Tryz.results89 _ _ W.heap.size 109 #[.int .i64 0, .nilFunc, .func (.func 235) #[] #[], .func (.func 236) #[] #[], .func (.func 237) #[] #[], .func (.func 238) #[] #[]] (0, 0) _ (by rfl) (by simpa using HF) Tryz.underlying109 rfl infoField) rfl ?_
 have hmv := ((((((Moved.of_below HB.out (fun _ => False)).set_ (p := ⟨W.heap.size, 0, none⟩) (.inr (Nat.le_refl _)) (.int .i64 0)).set_ (p := ⟨W.heap.size, 1, none⟩) (.inr (Nat.le_refl _)) (.nilFunc)).set_ (p := ⟨W.heap.size, 2, none⟩) (.inr (Nat.le_refl _)) (.func (.func 235) #[] #[])).set_ (p := ⟨W.heap.size, 3, none⟩) (.inr (Nat.le_refl _)) (.func (.func 236) #[] #[])).set_ (p := ⟨W.heap.size, 4, none⟩) (.inr (Nat.le_refl _)) (.func (.func 237) #[] #[])).set_ (p := ⟨W.heap.size, 5, none⟩) (.inr (Nat.le_refl _)) (.func (.func 238) #[] #[])
 exact ⟨rfl, hmv.below (fun _ _ h => h)⟩
set_option maxRecDepth 100000 in
set_option maxHeartbeats 1000000 in
theorem t_field_lv (W : World) : Calls Tryz.prog 89 #[.int .u8 118] W fun e W' => e = .returned (.agg #[.int .i64 0, .nilFunc, .func (.func 239) #[] #[], .func (.func 240) #[] #[], .func (.func 241) #[] #[], .func (.func 242) #[] #[]]) ∧ Below W.heap.size W W' := by
 have HB := Aside0.mk (below_alloc (Below.refl W.heap.size W) (Obj.cells #[.int .i64 0, .nilFunc, .nilFunc, .nilFunc, .nilFunc, .nilFunc] 109 (0, 0)))
 have HBR := Aside0.mk (blk_alloc (W := W) (Obj.cells #[.int .i64 0, .nilFunc, .nilFunc, .nilFunc, .nilFunc, .nilFunc] 109 (0, 0)))
 go_enter Tryz.func89, Tryz.ntmps89
 go_wp2_with (go_at_call 148; (with_reducible refine (t_larger_lv _).mono ?_); rintro e w1 ⟨rfl, hb1⟩; replace HB := Aside0.mk (below_step HB.out hb1); replace HBR := Aside0.mk (blk_below hb1 HBR.out); have hcR := blk_cell HBR.out; have hfR := blk_frozen HBR.out; clear hb1)
 have HF := blk_set (blk_set (blk_set (blk_set (blk_set (blk_set HBR.out 0 (.int .i64 0)) 1 (.nilFunc)) 2 (.func (.func 239) #[] #[])) 3 (.func (.func 240) #[] #[])) 4 (.func (.func 241) #[] #[])) 5 (.func (.func 242) #[] #[])
 refine bodyPost_ret (results_c Tryz.results89 _ _ W.heap.size 109 #[.int .i64 0, .nilFunc, .func (.func 239) #[] #[], .func (.func 240) #[] #[], .func (.func 241) #[] #[], .func (.func 242) #[] #[]] (0, 0) _ (by rfl) (by simpa using HF) Tryz.underlying109 rfl infoField) rfl ?_
 have hmv := ((((((Moved.of_below HB.out (fun _ => False)).set_ (p := ⟨W.heap.size, 0, none⟩) (.inr (Nat.le_refl _)) (.int .i64 0)).set_ (p := ⟨W.heap.size, 1, none⟩) (.inr (Nat.le_refl _)) (.nilFunc)).set_ (p := ⟨W.heap.size, 2, none⟩) (.inr (Nat.le_refl _)) (.func (.func 239) #[] #[])).set_ (p := ⟨W.heap.size, 3, none⟩) (.inr (Nat.le_refl _)) (.func (.func 240) #[] #[])).set_ (p := ⟨W.heap.size, 4, none⟩) (.inr (Nat.le_refl _)) (.func (.func 241) #[] #[])).set_ (p := ⟨W.heap.size, 5, none⟩) (.inr (Nat.le_refl _)) (.func (.func 242) #[] #[])
 exact ⟨rfl, hmv.below (fun _ _ h => h)⟩
set_option maxRecDepth 100000 in
set_option maxHeartbeats 1000000 in
theorem t_field_ly (W : World) : Calls Tryz.prog 89 #[.int .u8 121] W fun e W' => e = .returned (.agg #[.int .i64 0, .nilFunc, .func (.func 180) #[] #[], .func (.func 182) #[] #[], .func (.func 184) #[] #[], .func (.func 185) #[] #[]]) ∧ Below W.heap.size W W' := by
 have HB := Aside0.mk (below_alloc (Below.refl W.heap.size W) (Obj.cells #[.int .i64 0, .nilFunc, .nilFunc, .nilFunc, .nilFunc, .nilFunc] 109 (0, 0)))
 have HBR := Aside0.mk (blk_alloc (W := W) (Obj.cells #[.int .i64 0, .nilFunc, .nilFunc, .nilFunc, .nilFunc, .nilFunc] 109 (0, 0)))
 go_enter Tryz.func89, Tryz.ntmps89
 go_wp2_with (go_at_call 148; (with_reducible refine (t_larger_ly _).mono ?_); rintro e w1 ⟨rfl, hb1⟩; replace HB := Aside0.mk (below_step HB.out hb1); replace HBR := Aside0.mk (blk_below hb1 HBR.out); have hcR := blk_cell HBR.out; have hfR := blk_frozen HBR.out; clear hb1)
 have HF := blk_set (blk_set (blk_set (blk_set (blk_set (blk_set HBR.out 0 (.int .i64 0)) 1 (.nilFunc)) 2 (.func (.func 180) #[] #[])) 3 (.func (.func 182) #[] #[])) 4 (.func (.func 184) #[] #[])) 5 (.func (.func 185) #[] #[])
 refine bodyPost_ret (results_c Tryz.results89 _ _ W.heap.size 109 #[.int .i64 0, .nilFunc, .func (.func 180) #[] #[], .func (.func 182) #[] #[], .func (.func 184) #[] #[], .func (.func 185) #[] #[]] (0, 0) _ (by rfl) (by simpa using HF) Tryz.underlying109 rfl infoField) rfl ?_
 have hmv := ((((((Moved.of_below HB.out (fun _ => False)).set_ (p := ⟨W.heap.size, 0, none⟩) (.inr (Nat.le_refl _)) (.int .i64 0)).set_ (p := ⟨W.heap.size, 1, none⟩) (.inr (Nat.le_refl _)) (.nilFunc)).set_ (p := ⟨W.heap.size, 2, none⟩) (.inr (Nat.le_refl _)) (.func (.func 180) #[] #[])).set_ (p := ⟨W.heap.size, 3, none⟩) (.inr (Nat.le_refl _)) (.func (.func 182) #[] #[])).set_ (p := ⟨W.heap.size, 4, none⟩) (.inr (Nat.le_refl _)) (.func (.func 184) #[] #[])).set_ (p := ⟨W.heap.size, 5, none⟩) (.inr (Nat.le_refl _)) (.func (.func 185) #[] #[])
 exact ⟨rfl, hmv.below (fun _ _ h => h)⟩
set_option maxRecDepth 100000 in
set_option maxHeartbeats 1000000 in
theorem t_field_la (W : World) : Calls Tryz.prog 89 #[.int .u8 97] W fun e W' => e = .returned (.agg #[.int .i64 0, .nilFunc, .func (.func 187) #[] #[], .func (.func 188) #[] #[], .func (.func 189) #[] #[], .func (.func 190) #[] #[]]) ∧ Below W.heap.size W W' := by
 have HB := Aside0.mk (below_alloc (Below.refl W.heap.size W) (Obj.cells #[.int .i64 0, .nilFunc, .nilFunc, .nilFunc, .nilFunc, .nilFunc] 109 (0, 0)))
 have HBR := Aside0.mk (blk_alloc (W := W) (Obj.cells #[.int .i64 0, .nilFunc, .nilFunc, .nilFunc, .nilFunc, .nilFunc] 109 (0, 0)))
 go_enter Tryz.func89, Tryz.ntmps89
 go_wp2_with (go_at_call 148; (with_reducible refine (t_larger_la _).mono ?_); rintro e w1 ⟨rfl, hb1⟩; replace HB := Aside0.mk (below_step HB.out hb1); replace HBR := Aside0.mk (blk_below hb1 HBR.out); have hcR := blk_cell HBR.out; have hfR := blk_frozen HBR.out; clear hb1)
 have HF := blk_set (blk_set (blk_set (blk_set (blk_set (blk_set HBR.out 0 (.int .i64 0)) 1 (.nilFunc)) 2 (.func (.func 187) #[] #[])) 3 (.func (.func 188) #[] #[])) 4 (.func (.func 189) #[] #[])) 5 (.func (.func 190) #[] #[])
 refine bodyPost_ret (results_c Tryz.results89 _ _ W.heap.size 109 #[.int .i64 0, .nilFunc, .func (.func 187) #[] #[], .func (.func 188) #[] #[], .func (.func 189) #[] #[], .func (.func 190) #[] #[]] (0, 0) _ (by rfl) (by simpa using HF) Tryz.underlying109 rfl infoField) rfl ?_
 have hmv := ((((((Moved.of_below HB.out (fun _ => False)).set_ (p := ⟨W.heap.size, 0, none⟩) (.inr (Nat.le_refl _)) (.int .i64 0)).set_ (p := ⟨W.heap.size, 1, none⟩) (.inr (Nat.le_refl _)) (.nilFunc)).set_ (p := ⟨W.heap.size, 2, none⟩) (.inr (Nat.le_refl _)) (.func (.func 187) #[] #[])).set_ (p := ⟨W.heap.size, 3, none⟩) (.inr (Nat.le_refl _)) (.func (.func 188) #[] #[])).set_ (p := ⟨W.heap.size, 4, none⟩) (.inr (Nat.le_refl _)) (.func (.func 189) #[] #[])).set_ (p := ⟨W.heap.size, 5, none⟩) (.inr (Nat.le_refl _)) (.func (.func 190) #[] #[])
 exact ⟨rfl, hmv.below (fun _ _ h => h)⟩
set_option maxRecDepth 100000 in
set_option maxHeartbeats 1000000 in
theorem t_field_lo (W : World) : Calls Tryz.prog 89 #[.int .u8 111] W fun e W' => e = .returned (.agg #[.int .i64 0, .nilFunc, .func (.func 191) #[] #[], .func (.func 192) #[] #[], .func (.func 193) #[] #[], .func (.func 194) #[] #[]]) ∧ Below W.heap.size W W' := by
 have HB := Aside0.mk (below_alloc (Below.refl W.heap.size W) (Obj.cells #[.int .i64 0, .nilFunc, .nilFunc, .nilFunc, .nilFunc, .nilFunc] 109 (0, 0)))
 have HBR := Aside0.mk (blk_alloc (W := W) (Obj.cells #[.int .i64 0, .nilFunc, .nilFunc, .nilFunc, .nilFunc, .nilFunc] 109 (0, 0)))
 go_enter Tryz.func89, Tryz.ntmps89
 go_wp2_with (go_at_call 148; (with_reducible refine (t_larger_lo _).mono ?_); rintro e w1 ⟨rfl, hb1⟩; replace HB := Aside0.mk (below_step HB.out hb1); replace HBR := Aside0.mk (blk_below hb1 HBR.out); have hcR := blk_cell HBR.out; have hfR := blk_frozen HBR.out; clear hb1)
 have HF := blk_set (blk_set (blk_set (blk_set (blk_set (blk_set HBR.out 0 (.int .i64 0)) 1 (.nilFunc)) 2 (.func (.func 191) #[] #[])) 3 (.func (.func 192) #[] #[])) 4 (.func (.func 193) #[] #[])) 5 (.func (.func 194) #[] #[])
 refine bodyPost_ret (results_c Tryz.results89 _ _ W.heap.size 109 #[.int .i64 0, .nilFunc, .func (.func 191) #[] #[], .func (.func 192) #[] #[], .func (.func 193) #[] #[], .func (.func 194) #[] #[]] (0, 0) _ (by rfl) (by simpa using HF) Tryz.underlying109 rfl infoField) rfl ?_
 have hmv := ((((((Moved.of_below HB.out (fun _ => False)).set_ (p := ⟨W.heap.size, 0, none⟩) (.inr (Nat.le_refl _)) (.int .i64 0)).set_ (p := ⟨W.heap.size, 1, none⟩) (.inr (Nat.le_refl _)) (.nilFunc)).set_ (p := ⟨W.heap.size, 2, none⟩) (.inr (Nat.le_refl _)) (.func (.func 191) #[] #[])).set_ (p := ⟨W.heap.size, 3, none⟩) (.inr (Nat.le_refl _)) (.func (.func 192) #[] #[])).set_ (p := ⟨W.heap.size, 4, none⟩) (.inr (Nat.le_refl _)) (.func (.func 193) #[] #[])).set_ (p := ⟨W.heap.size, 5, none⟩) (.inr (Nat.le_refl _)) (.func (.func 194) #[] #[])
 exact ⟨rfl, hmv.below (fun _ _ h => h)⟩
set_option maxRecDepth 100000 in
set_option maxHeartbeats 1000000 in
theorem t_field_uE (W : World) : Calls Tryz.prog 89 #[.int .u8 69] W fun e W' => e = .returned (.agg #[.int .i64 0, .nilFunc, .func (.func 195) #[] #[], .func (.func 197) #[] #[], .func (.func 199) #[] #[], .func (.func 200) #[] #[]]) ∧ Below W.heap.size W W' := by
 have HB := Aside0.mk (below_alloc (Below.refl W.heap.size W) (Obj.cells #[.int .i64 0, .nilFunc, .nilFunc, .nilFunc, .nilFunc, .nilFunc] 109 (0, 0)))
 have HBR := Aside0.mk (blk_alloc (W := W) (Obj.cells #[.int .i64 0, .nilFunc, .nilFunc, .nilFunc, .nilFunc, .nilFunc] 109 (0, 0)))
 go_enter Tryz.func89, Tryz.ntmps89
 go_wp2_with (go_at_call 148; (with_reducible refine (t_larger_uE _).mono ?_); rintro e w1 ⟨rfl, hb1⟩; replace HB := Aside0.mk (below_step HB.out hb1); replace HBR := Aside0.mk (blk_below hb1 HBR.out); have hcR := blk_cell HBR.out; have hfR := blk_frozen HBR.out; clear hb1)
 have HF := blk_set (blk_set (blk_set (blk_set (blk_set (blk_set HBR.out 0 (.int .i64 0)) 1 (.nilFunc)) 2 (.func (.func 195) #[] #[])) 3 (.func (.func 197) #[] #[])) 4 (.func (.func 199) #[] #[])) 5 (.func (.func 200) #[] #[])
 refine bodyPost_ret (results_c Tryz.results89 _ _ W.heap.size 109 #[.int .i64 0, .nilFunc, .func (.func 195) #[] #[], .func (.func 197) #[] #[], .func (.func 199) #[] #[], .func (.func 200) #[] #[]] (0, 0) _ (by rfl) (by simpa using HF) Tryz.underlying109 rfl infoField) rfl ?_
 have hmv := ((((((Moved.of_below HB.out (fun _ => False)).set_ (p := ⟨W.heap.size, 0, none⟩) (.inr (Nat.le_refl _)) (.int .i64 0)).set_ (p := ⟨W.heap.size, 1, none⟩) (.inr (Nat.le_refl _)) (.nilFunc)).set_ (p := ⟨W.heap.size, 2, none⟩) (.inr (Nat.le_refl _)) (.func (.func 195) #[] #[])).set_ (p := ⟨W.heap.size, 3, none⟩) (.inr (Nat.le_refl _)) (.func (.func 197) #[] #[])).set_ (p := ⟨W.heap.size, 4, none⟩) (.inr (Nat.le_refl _)) (.func (.func 199) #[] #[])).set_ (p := ⟨W.heap.size, 5, none⟩) (.inr (Nat.le_refl _)) (.func (.func 200) #[] #[])
 exact ⟨rfl, hmv.below (fun _ _ h => h)⟩
set_option maxRecDepth 100000 in
set_option maxHeartbeats 1000000 in
theorem t_field_uI (W : World) : Calls Tryz.prog 89 #[.int .u8 73] W fun e W' => e = .returned (.agg #[.int .i64 0, .nilFunc, .func (.func 202) #[] #[], .func (.func 205) #[] #[], .func (.func 208) #[] #[], .func (.func 209) #[] #[]]) ∧ Below W.heap.size W W' := by
 have HB := Aside0.mk (below_alloc (Below.refl W.heap.size W) (Obj.cells #[.int .i64 0, .nilFunc, .nilFunc, .nilFunc, .nilFunc, .nilFunc] 109 (0, 0)))
 have HBR := Aside0.mk (blk_alloc (W := W) (Obj.cells #[.int .i64 0, .nilFunc, .nilFunc, .nilFunc, .nilFunc, .nilFunc] 109 (0, 0)))
 go_enter Tryz.func89, Tryz.ntmps89
 go_wp2_with (go_at_call 148; (with_reducible refine (t_larger_uI _).mono ?_); rintro e w1 ⟨rfl, hb1⟩; replace HB := Aside0.mk (below_step HB.out hb1); replace HBR := Aside0.mk (blk_below hb1 HBR.out); have hcR := blk_cell HBR.out; have hfR := blk_frozen HBR.out; clear hb1)
 have HF := blk_set (blk_set (blk_set (blk_set (blk_set (blk_set HBR.out 0 (.int .i64 0)) 1 (.nilFunc)) 2 (.func (.func 202) #[] #[])) 3 (.func (.func 205) #[] #[])) 4 (.func (.func 208) #[] #[])) 5 (.func (.func 209) #[] #[])
 refine bodyPost_ret (results_c Tryz.results89 _ _ W.heap.size 109 #[.int .i64 0, .nilFunc, .func (.func 202) #[] #[], .func (.func 205) #[] #[], .func (.func 208) #[] #[], .func (.func 209) #[] #[]] (0, 0) _ (by rfl) (by simpa using HF) Tryz.underlying109 rfl infoField) rfl ?_
 have hmv := ((((((Moved.of_below HB.out (fun _ => False)).set_ (p := ⟨W.heap.size, 0, none⟩) (.inr (Nat.le_refl _)) (.int .i64 0)).set_ (p := ⟨W.heap.size, 1, none⟩) (.inr (Nat.le_refl _)) (.nilFunc)).set_ (p := ⟨W.heap.size, 2, none⟩) (.inr (Nat.le_refl _)) (.func (.func 202) #[] #[])).set_ (p := ⟨W.heap.size, 3, none⟩) (.inr (Nat.le_refl _)) (.func (.func 205) #[] #[])).set_ (p := ⟨W.heap.size, 4, none⟩) (.inr (Nat.le_refl _)) (.func (.func 208) #[] #[])).set_ (p := ⟨W.heap.size, 5, none⟩) (.inr (Nat.le_refl _)) (.func (.func 209) #[] #[])
 exact ⟨rfl, hmv.below (fun _ _ h => h)⟩
set_option maxRecDepth 100000 in
set_option maxHeartbeats 1000000 in
theorem t_field_uP (W : World) : Calls Tryz.prog 89 #[.int .u8 80] W fun e W' => e = .returned (.agg #[.int .i64 0, .nilFunc, .func (.func 211) #[] #[], .func (.func 214) #[] #[], .func (.func 217) #[] #[], .func (.func 218) #[] #[]]) ∧ Below W.heap.size W W' := by
 have HB := Aside0.mk (below_alloc (Below.refl W.heap.size W) (Obj.cells #[.int .i64 0, .nilFunc, .nilFunc, .nilFunc, .nilFunc, .nilFunc] 109 (0, 0)))
 have HBR := Aside0.mk (blk_alloc (W := W) (Obj.cells #[.int .i64 0, .nilFunc, .nilFunc, .nilFunc, .nilFunc, .nilFunc] 109 (0, 0)))
 go_enter Tryz.func89, Tryz.ntmps89
 go_wp2_with (go_at_call 148; (with_reducible refine (t_larger_uP _).mono ?_); rintro e w1 ⟨rfl, hb1⟩; replace HB := Aside0.mk (below_step HB.out hb1); replace HBR := Aside0.mk (blk_below hb1 HBR.out); have hcR := blk_cell HBR.out; have hfR := blk_frozen HBR.out; clear hb1)
 have HF := blk_set (blk_set (blk_set (blk_set (blk_set (blk_set HBR.out 0 (.int .i64 0)) 1 (.nilFunc)) 2 (.func (.func 211) #[] #[])) 3 (.func (.func 214) #[] #[])) 4 (.func (.func 217) #[] #[])) 5 (.func (.func 218) #[] #[])
 refine bodyPost_ret (results_c Tryz.results89 _ _ W.heap.size 109 #[.int .i64 0, .nilFunc, .func (.func 211) #[] #[], .func (.func 214) #[] #[], .func (.func 217) #[] #[], .func (.func 218) #[] #[]] (0, 0) _ (by rfl) (by simpa using HF) Tryz.underlying109 rfl infoField) rfl ?_
 have hmv := ((((((Moved.of_below HB.out (fun _ => False)).set_ (p := ⟨W.heap.size, 0, none⟩) (.inr (Nat.le_refl _)) (.int .i64 0)).set_ (p := ⟨W.heap.size, 1, none⟩) (.inr (Nat.le_refl _)) (.nilFunc)).set_ (p := ⟨W.heap.size, 2, none⟩) (.inr (Nat.le_refl _)) (.func (.func 211) #[] #[])).set_ (p := ⟨W.heap.size, 3, none⟩) (.inr (Nat.le_refl _)) (.func (.func 214) #[] #[])).set_ (p := ⟨W.heap.size, 4, none⟩) (.inr (Nat.le_refl _)) (.func (.func 217) #[] #[])).set_ (p := ⟨W.heap.size, 5, none⟩) (.inr (Nat.le_refl _)) (.func (.func 218) #[] #[])
 exact ⟨rfl, hmv.below (fun _ _ h => h)⟩
theorem t_field (l : Ltr) (W : World) : Calls Tryz.prog 89 #[.int .u8 l.code] W fun e W' => e = .returned (.agg (fCells l).toArray) ∧ Below W.heap.size W W' := by
 cases l
 · exact t_field_ln W
 · exact t_field_ls W
 · exact t_field_lc W
 · exact t_field_lr W
 · exact t_field_lt W
 · exact t_field_lf W
 · exact t_field_lm W
 · exact t_field_uW W
 · exact t_field_lw W
 · exact t_field_ld W
 · exact t_field_uD W
 · exact t_field_le W
 · exact t_field_lv W
 · exact t_field_ly W
 · exact t_field_la W
 · exact t_field_lo W
 · exact t_field_uE W
 · exact t_field_uI W
 · exact t_field_uP W
end Go.Proofs.YtmneemhplffemaaGreatDoorRR.Tab
namespace Go.Proofs.YtmneemhplffemaaGreatDoorRR.Tab
open Go.RowKit Go.Proofs.YtmneemhplffemaaGreatDoorRR.Ext Go.Proofs.YtmneemhplffemaaGreatDoorRR.Mem Go.Proofs.YtmneemhplffemaaGreatDoorRR.Law Go.Proofs.YtmneemhplffemaaGreatDoorRR.Row Go.Proofs.YtmneemhplffemaaGreatDoorRR.Ki Go.Proofs.YtmneemhplffemaaGreatDoorRR.Chk Go.Proofs.YtmneemhplffemaaGreatDoorRR.Put Go.Proofs.YtmneemhplffemaaGreatDoorRR.Get Go.Proofs.YtmneemhplffemaaGreatDoorRRW.PrintWords


abbrev F6 (k : Int) (KF : FuncId) : Array Value := #[.int .i64 k, .func (.func KF) #[] #[], .nilFunc, .nilFunc, .nilFunc, .nilFunc]
def Enters (KF : FuncId) : Prop := ∀ (args : Array Value) (w : World), (callFunc KF args).run Tryz.prog w = .ok (.enter KF args) w
def NumAt (KF : FuncId) (i : Nat) : Prop := ∀ (g : Nat) (W : World), Calls Tryz.prog KF #[.pointer (some ⟨g, 0, none⟩)] W fun e W' => e = .returned (.pointer (some ⟨g, i, none⟩)) ∧ W' = W
theorem c_num1d (w0 : World) (g : Nat) (hg : g = w0.heap.size) (a : Int) (r : Bool) (h : (okNum a) = r) : Calls Tryz.prog 91 #[.slice (some ⟨g, 0, none⟩) 1 1] (w0.alloc (Obj.cells #[.int .i64 a] 3 (0, 0))).drew fun e w' => e = .returned (.bool r) ∧ Below w0.heap.size w0 w' := by
 subst hg
 have hb : Below (w0.alloc (Obj.cells #[.int .i64 a] 3 (0, 0))).heap.size (w0.alloc (Obj.cells #[.int .i64 a] 3 (0, 0))) (w0.alloc (Obj.cells #[.int .i64 a] 3 (0, 0))).drew := pw_below_drewN (Below.refl _ _) 1
 have hC := Kd.C_below (ints_new w0 [a] (by simp)) hb
 exact (note_numbers.calls _ _ [a] r _ hC (Nat.le_refl _) (by unfold note_numbers.f; rw [← h]; simp)).mono (fun e w' hq => ⟨hq.1, below_step (below_step (below_alloc (Below.refl _ _) _) hb) hq.2⟩)
set_option maxRecDepth 100000 in
set_option maxHeartbeats 8000000 in
theorem right_num (KF : FuncId) (i : Nat) (hK : Enters KF) (hN : NumAt KF i) (least v : Int) (W : World) (g : Nat) (hc : W.cell? ⟨g, i, none⟩ = some (.int .i64 v)) (b : Bool) (h : (okNum v && decide (least ≤ v)) = b) :
   Calls Tryz.prog 42 #[.agg (F6 least KF), .pointer (some ⟨g, 0, none⟩)] W fun e W' => e = .returned (.bool b) ∧ Below W.heap.size W W' := by
 subst h
 have hne : ∀ w : World, (binOp BinOp.neq 104 (.func (.func KF) #[] #[]) .nilFunc).run Tryz.prog w = .ok (.bool true) w := fun _ => rfl
 have HW := Aside0.mk (below_alloc (Below.refl W.heap.size W) (Obj.cells (F6 least KF) 109 (0, 0)))
 have hc0 := pw_cell_below HW.out hc
 have HBR := Aside0.mk (blk_alloc (W := W) (Obj.cells (F6 least KF) 109 (0, 0)))
 have hcR := blk_cell HBR.out
 have hcK : (W.alloc (Obj.cells (F6 least KF) 109 (0, 0))).cell? ⟨W.heap.size, 1, none⟩ = some (.func (.func KF) #[] #[]) := hcR 1
 have hcL : (W.alloc (Obj.cells (F6 least KF) 109 (0, 0))).cell? ⟨W.heap.size, 0, none⟩ = some (.int .i64 least) := hcR 0
 have HN := Aside0.mk (show ∀ (g : Nat) (W : World), Calls Tryz.prog KF #[.pointer (some ⟨g, 0, none⟩)] W fun e W' => e = .returned (.pointer (some ⟨g, i, none⟩)) ∧ W' = W from hN)
 have hK2 : ∀ (args : Array Value) (w : World), (callFunc KF args).run Tryz.prog w = .ok (.enter KF args) w := hK
 have HA1 := Aside0.mk (show (W.alloc (Obj.cells (F6 least KF) 109 (0, 0))).drew.cell? ⟨g, i, none⟩ = some (.int .i64 v) ∧ (W.alloc (Obj.cells (F6 least KF) 109 (0, 0))).drew.cell? ⟨W.heap.size, 1, none⟩ = some (.func (.func KF) #[] #[]) ∧ (W.alloc (Obj.cells (F6 least KF) 109 (0, 0))).drew.cell? ⟨W.heap.size, 0, none⟩ = some (.int .i64 least) ∧ Below W.heap.size W (W.alloc (Obj.cells (F6 least KF) 109 (0, 0))).drew from ⟨hc0, hcK, hcL, HW.out.drew⟩)
 have HA2 := Aside0.mk (show ((W.alloc (Obj.cells (F6 least KF) 109 (0, 0))).alloc (Obj.cells #[.int .i64 v] 3 (0, 0))).drew.cell? ⟨g, i, none⟩ = some (.int .i64 v) ∧ ((W.alloc (Obj.cells (F6 least KF) 109 (0, 0))).alloc (Obj.cells #[.int .i64 v] 3 (0, 0))).drew.cell? ⟨W.heap.size, 1, none⟩ = some (.func (.func KF) #[] #[]) ∧ ((W.alloc (Obj.cells (F6 least KF) 109 (0, 0))).alloc (Obj.cells #[.int .i64 v] 3 (0, 0))).drew.cell? ⟨W.heap.size, 0, none⟩ = some (.int .i64 least) ∧ Below W.heap.size W ((W.alloc (Obj.cells (F6 least KF) 109 (0, 0))).alloc (Obj.cells #[.int .i64 v] 3 (0, 0))).drew from ⟨pw_cell_below (below_alloc (Below.refl _ _) _) hc0, pw_cell_below (below_alloc (Below.refl _ _) _) hcK, pw_cell_below (below_alloc (Below.refl _ _) _) hcL, (below_alloc HW.out _).drew⟩)
 have hge : decide (v ≥ least) = decide (least ≤ v) := rfl
 clear hc hN hcR hK
 go_enter Tryz.func42, Tryz.ntmps42
 cases h1 : okNum v with
 | true =>
   go_wp2_with fail
   refine wp_region_held_drew (S := fun W' => W'.cell? ⟨g, i, none⟩ = some (.int .i64 v) ∧ W'.cell? ⟨W.heap.size, 1, none⟩ = some (.func (.func KF) #[] #[]) ∧ W'.cell? ⟨W.heap.size, 0, none⟩ = some (.int .i64 least) ∧ Below W.heap.size W W') (by kernel_rfl) ?_ (fun hHeld => ?_)
   · (with_reducible first | exact ⟨hc0, hcK, hcL, HW.out⟩ | exact HA1.out | exact HA2.out)
   refine wpAnyH_take (i := 0) (oi := { dst := some 8, op := Go.Op.fieldAddr 109 (Go.Operand.tmp 2) 1, type := 0, pos := "table.go:45", after := #[], guard := none }) (v := ?_) rfl (by kernel_rfl) (by kernel_rfl) (by kernel_rfl) (fun _ _ _ h => h) (Or.inl ⟨by rfl, ?_⟩) (by assumption) ?_
   rotate_left
   · (intro w hSw; (try dsimp only at hSw); go_simp; try with_reducible rfl)
   try simp only [Act.put, List.setIfInBounds_toArray, List.set_cons_zero, List.set_cons_succ]
   refine wpAnyH_take (i := 1) (oi := { dst := some 9, op := Go.Op.load 104 (Go.Operand.tmp 8), type := 104, pos := "table.go:45", after := #[{ on := 0, ground := Go.Ground.data }], guard := none }) (v := ?_) rfl (by kernel_rfl) (by kernel_rfl) (by kernel_rfl) (fun _ _ _ h => h) (Or.inl ⟨by rfl, ?_⟩) (by assumption) ?_
   rotate_left
   · (intro w hSw; (try dsimp only at hSw); go_simp; try with_reducible rfl)
   try simp only [Act.put, List.setIfInBounds_toArray, List.set_cons_zero, List.set_cons_succ]
   refine wpAnyH_take (i := 2) (oi := { dst := some 10, op := Go.Op.move (Go.Operand.tmp 1), type := 110, pos := "table.go:45", after := #[], guard := none }) (v := ?_) rfl (by kernel_rfl) (by kernel_rfl) (by kernel_rfl) (fun _ _ _ h => h) (Or.inl ⟨by rfl, ?_⟩) (by assumption) ?_
   rotate_left
   · (intro w hSw; (try dsimp only at hSw); go_simp; try with_reducible rfl)
   try simp only [Act.put, List.setIfInBounds_toArray, List.set_cons_zero, List.set_cons_succ]
   refine wpAnyH_ready (rs := [3]) (by kernel_rfl) (by simp) ?_
   refine AllReadyH.cons (o := { dst := some 11, op := Go.Op.call { callee := Go.Callee.value (Go.Operand.tmp 9), args := #[Go.Operand.tmp 10], argTypes := #[110] }, type := 161, pos := "table.go:45", after := #[{ on := 1, ground := Go.Ground.data }, { on := 2, ground := Go.Ground.data }], guard := none }) rfl (fun K hK => ?_) ?_
   rotate_left
   · exact AllReadyH.nil
   go_simp
   (first | (go_at_call 91; (with_reducible refine (c_num1d _ _ (by first | rfl | simp) _ _ h1).mono ?_); rintro e w1 ⟨rfl, hb1⟩; replace HW := Aside0.mk (below_step HW.out hb1); replace hc0 := pw_cell_below hb1 hc0; replace hcK := pw_cell_below hb1 hcK; replace hcL := pw_cell_below hb1 hcL) | ((with_reducible refine (HN.out _ _).mono ?_); rintro e w1 ⟨rfl, rfl⟩))
   refine hK.out _ _ ?_ (fun hHeld => ?_)
   · (with_reducible first | exact ⟨hc0, hcK, hcL, HW.out⟩ | exact HA1.out | exact HA2.out)
   clear hK K
   try simp only [Act.put, List.setIfInBounds_toArray, List.set_cons_zero, List.set_cons_succ]
   refine wpAnyH_take (i := 4) (oi := { dst := some 12, op := Go.Op.nilCheck (Go.Operand.tmp 11), type := 0, pos := "table.go:45", after := #[{ on := 3, ground := Go.Ground.data }], guard := none }) (v := ?_) rfl (by kernel_rfl) (by kernel_rfl) (by kernel_rfl) (fun _ _ _ h => h) (Or.inl ⟨by rfl, ?_⟩) (by assumption) ?_
   rotate_left
   · (intro w hSw; (try dsimp only at hSw); go_simp; try with_reducible rfl)
   try simp only [Act.put, List.setIfInBounds_toArray, List.set_cons_zero, List.set_cons_succ]
   refine wpAnyH_take (i := 5) (oi := { dst := some 13, op := Go.Op.load 3 (Go.Operand.tmp 12), type := 3, pos := "table.go:45", after := #[{ on := 4, ground := Go.Ground.data }], guard := none }) (v := ?_) rfl (by kernel_rfl) (by kernel_rfl) (by kernel_rfl) (fun _ _ _ h => h) (Or.inl ⟨by rfl, ?_⟩) (by assumption) ?_
   rotate_left
   · (intro w hSw; (try dsimp only at hSw); go_simp; try with_reducible rfl)
   try simp only [Act.put, List.setIfInBounds_toArray, List.set_cons_zero, List.set_cons_succ]
   refine wpAnyH_ready (rs := [6]) (by kernel_rfl) (by simp) ?_
   refine AllReadyH.cons (o := { dst := some 14, op := Go.Op.buildSlice 146 1 #[(0, Go.Operand.tmp 13)], type := 146, pos := "table.go:45", after := #[{ on := 5, ground := Go.Ground.data }], guard := none }) rfl (fun K hK => ?_) ?_
   rotate_left
   · exact AllReadyH.nil
   go_simp
   skip
   refine hK.out _ _ ?_ (fun hHeld => ?_)
   · (with_reducible first | exact ⟨hc0, hcK, hcL, HW.out⟩ | exact HA1.out | exact HA2.out)
   clear hK K
   try simp only [Act.put, List.setIfInBounds_toArray, List.set_cons_zero, List.set_cons_succ]
   refine wpAnyH_ready (rs := [7]) (by kernel_rfl) (by simp) ?_
   refine AllReadyH.cons (o := { dst := some 15, op := Go.Op.call { callee := Go.Callee.value (Go.Operand.func 91), args := #[Go.Operand.tmp 14], argTypes := #[146] }, type := 4, pos := "table.go:45", after := #[{ on := 6, ground := Go.Ground.data }, { on := 3, ground := Go.Ground.chain }], guard := none }) rfl (fun K hK => ?_) ?_
   rotate_left
   · exact AllReadyH.nil
   go_simp
   (first | (go_at_call 91; (with_reducible refine (c_num1d _ _ (by first | rfl | simp) _ _ h1).mono ?_); rintro e w1 ⟨rfl, hb1⟩; replace HW := Aside0.mk (below_step HW.out hb1); replace hc0 := pw_cell_below hb1 hc0; replace hcK := pw_cell_below hb1 hcK; replace hcL := pw_cell_below hb1 hcL) | ((with_reducible refine (HN.out _ _).mono ?_); rintro e w1 ⟨rfl, rfl⟩))
   refine hK.out _ _ ?_ (fun hHeld => ?_)
   · (with_reducible first | exact ⟨hc0, hcK, hcL, HW.out⟩ | exact HA1.out | exact HA2.out)
   clear hK K
   try simp only [Act.put, List.setIfInBounds_toArray, List.set_cons_zero, List.set_cons_succ]
   refine wpAnyH_take (i := 8) (oi := { dst := some 16, op := Go.Op.move (Go.Operand.tmp 15), type := 4, pos := "table.go:45", after := #[{ on := 7, ground := Go.Ground.data }, { on := 7, ground := Go.Ground.chain }], guard := none }) (v := ?_) rfl (by kernel_rfl) (by kernel_rfl) (by kernel_rfl) (fun _ _ _ h => h) (Or.inl ⟨by rfl, ?_⟩) (by assumption) ?_
   rotate_left
   · (intro w hSw; (try dsimp only at hSw); go_simp; try with_reducible rfl)
   try simp only [Act.put, List.setIfInBounds_toArray, List.set_cons_zero, List.set_cons_succ]
   refine wpAnyH_take (i := 9) (oi := { dst := some 17, op := Go.Op.fieldAddr 109 (Go.Operand.tmp 2) 1, type := 0, pos := "table.go:45", after := #[{ on := 8, ground := Go.Ground.guard }], guard := some (8, true) }) (v := ?_) rfl (by kernel_rfl) (by kernel_rfl) (by kernel_rfl) (fun _ _ _ h => h) (Or.inl ⟨by rfl, ?_⟩) (by assumption) ?_
   rotate_left
   · (intro w hSw; (try dsimp only at hSw); go_simp; try with_reducible rfl)
   try simp only [Act.put, List.setIfInBounds_toArray, List.set_cons_zero, List.set_cons_succ]
   refine wpAnyH_take (i := 10) (oi := { dst := some 18, op := Go.Op.load 104 (Go.Operand.tmp 17), type := 104, pos := "table.go:45", after := #[{ on := 9, ground := Go.Ground.data }, { on := 8, ground := Go.Ground.guard }], guard := some (8, true) }) (v := ?_) rfl (by kernel_rfl) (by kernel_rfl) (by kernel_rfl) (fun _ _ _ h => h) (Or.inl ⟨by rfl, ?_⟩) (by assumption) ?_
   rotate_left
   · (intro w hSw; (try dsimp only at hSw); go_simp; try with_reducible rfl)
   try simp only [Act.put, List.setIfInBounds_toArray, List.set_cons_zero, List.set_cons_succ]
   refine wpAnyH_take (i := 11) (oi := { dst := some 19, op := Go.Op.move (Go.Operand.tmp 1), type := 110, pos := "table.go:45", after := #[{ on := 8, ground := Go.Ground.guard }], guard := some (8, true) }) (v := ?_) rfl (by kernel_rfl) (by kernel_rfl) (by kernel_rfl) (fun _ _ _ h => h) (Or.inl ⟨by rfl, ?_⟩) (by assumption) ?_
   rotate_left
   · (intro w hSw; (try dsimp only at hSw); go_simp; try with_reducible rfl)
   try simp only [Act.put, List.setIfInBounds_toArray, List.set_cons_zero, List.set_cons_succ]
   refine wpAnyH_take (i := 15) (oi := { dst := some 23, op := Go.Op.fieldAddr 109 (Go.Operand.tmp 2) 0, type := 0, pos := "table.go:45", after := #[{ on := 8, ground := Go.Ground.guard }], guard := some (8, true) }) (v := ?_) rfl (by kernel_rfl) (by kernel_rfl) (by kernel_rfl) (fun _ _ _ h => h) (Or.inl ⟨by rfl, ?_⟩) (by assumption) ?_
   rotate_left
   · (intro w hSw; (try dsimp only at hSw); go_simp; try with_reducible rfl)
   try simp only [Act.put, List.setIfInBounds_toArray, List.set_cons_zero, List.set_cons_succ]
   refine wpAnyH_take (i := 16) (oi := { dst := some 24, op := Go.Op.load 3 (Go.Operand.tmp 23), type := 3, pos := "table.go:45", after := #[{ on := 15, ground := Go.Ground.data }, { on := 8, ground := Go.Ground.guard }], guard := some (8, true) }) (v := ?_) rfl (by kernel_rfl) (by kernel_rfl) (by kernel_rfl) (fun _ _ _ h => h) (Or.inl ⟨by rfl, ?_⟩) (by assumption) ?_
   rotate_left
   · (intro w hSw; (try dsimp only at hSw); go_simp; try with_reducible rfl)
   try simp only [Act.put, List.setIfInBounds_toArray, List.set_cons_zero, List.set_cons_succ]
   refine wpAnyH_ready (rs := [12]) (by kernel_rfl) (by simp) ?_
   refine AllReadyH.cons (o := { dst := some 20, op := Go.Op.call { callee := Go.Callee.value (Go.Operand.tmp 18), args := #[Go.Operand.tmp 19], argTypes := #[110] }, type := 161, pos := "table.go:45", after := #[{ on := 10, ground := Go.Ground.data }, { on := 11, ground := Go.Ground.data }, { on := 8, ground := Go.Ground.chain }, { on := 8, ground := Go.Ground.guard }], guard := some (8, true) }) rfl (fun K hK => ?_) ?_
   rotate_left
   · exact AllReadyH.nil
   go_simp
   (first | (go_at_call 91; (with_reducible refine (c_num1d _ _ (by first | rfl | simp) _ _ h1).mono ?_); rintro e w1 ⟨rfl, hb1⟩; replace HW := Aside0.mk (below_step HW.out hb1); replace hc0 := pw_cell_below hb1 hc0; replace hcK := pw_cell_below hb1 hcK; replace hcL := pw_cell_below hb1 hcL) | ((with_reducible refine (HN.out _ _).mono ?_); rintro e w1 ⟨rfl, rfl⟩))
   refine hK.out _ _ ?_ (fun hHeld => ?_)
   · (with_reducible first | exact ⟨hc0, hcK, hcL, HW.out⟩ | exact HA1.out | exact HA2.out)
   clear hK K
   try simp only [Act.put, List.setIfInBounds_toArray, List.set_cons_zero, List.set_cons_succ]
   refine wpAnyH_take (i := 13) (oi := { dst := some 21, op := Go.Op.nilCheck (Go.Operand.tmp 20), type := 0, pos := "table.go:45", after := #[{ on := 12, ground := Go.Ground.data }, { on := 8, ground := Go.Ground.guard }], guard := some (8, true) }) (v := ?_) rfl (by kernel_rfl) (by kernel_rfl) (by kernel_rfl) (fun _ _ _ h => h) (Or.inl ⟨by rfl, ?_⟩) (by assumption) ?_
   rotate_left
   · (intro w hSw; (try dsimp only at hSw); go_simp; try with_reducible rfl)
   try simp only [Act.put, List.setIfInBounds_toArray, List.set_cons_zero, List.set_cons_succ]
   refine wpAnyH_take (i := 14) (oi := { dst := some 22, op := Go.Op.load 3 (Go.Operand.tmp 21), type := 3, pos := "table.go:45", after := #[{ on := 13, ground := Go.Ground.data }, { on := 8, ground := Go.Ground.guard }], guard := some (8, true) }) (v := ?_) rfl (by kernel_rfl) (by kernel_rfl) (by kernel_rfl) (fun _ _ _ h => h) (Or.inl ⟨by rfl, ?_⟩) (by assumption) ?_
   rotate_left
   · (intro w hSw; (try dsimp only at hSw); go_simp; try with_reducible rfl)
   try simp only [Act.put, List.setIfInBounds_toArray, List.set_cons_zero, List.set_cons_succ]
   refine wpAnyH_take (i := 17) (oi := { dst := some 25, op := Go.Op.binOp Go.BinOp.geq 3 (Go.Operand.tmp 22) (Go.Operand.tmp 24) 3, type := 4, pos := "table.go:45", after := #[{ on := 14, ground := Go.Ground.data }, { on := 16, ground := Go.Ground.data }, { on := 8, ground := Go.Ground.guard }], guard := some (8, true) }) (v := ?_) rfl (by kernel_rfl) (by kernel_rfl) (by kernel_rfl) (fun _ _ _ h => h) (Or.inl ⟨by rfl, ?_⟩) (by assumption) ?_
   rotate_left
   · (intro w hSw; (try dsimp only at hSw); go_simp; try with_reducible rfl)
   try simp only [Act.put, List.setIfInBounds_toArray, List.set_cons_zero, List.set_cons_succ]
   refine wpAnyH_take (i := 18) (oi := { dst := some 26, op := Go.Op.pick (Go.Operand.tmp 16) (Go.Operand.tmp 25) (Go.Operand.const (Go.Value.bool false)), type := 4, pos := "table.go:45", after := #[{ on := 8, ground := Go.Ground.data }, { on := 17, ground := Go.Ground.data }], guard := none }) (v := ?_) rfl (by kernel_rfl) (by kernel_rfl) (by kernel_rfl) (fun _ _ _ h => h) (Or.inl ⟨by rfl, ?_⟩) (by assumption) ?_
   rotate_left
   · (intro w hSw; (try dsimp only at hSw); go_simp; try with_reducible rfl)
   try simp only [Act.put, List.setIfInBounds_toArray, List.set_cons_zero, List.set_cons_succ]
   refine wpAnyH_take (i := 19) (oi := { dst := some 4, op := Go.Op.assign (Go.Operand.tmp 26), type := 4, pos := "table.go:45", after := #[{ on := 18, ground := Go.Ground.data }, { on := 12, ground := Go.Ground.chain }, { on := 0, ground := Go.Ground.phase }, { on := 1, ground := Go.Ground.phase }, { on := 2, ground := Go.Ground.phase }, { on := 3, ground := Go.Ground.phase }, { on := 4, ground := Go.Ground.phase }, { on := 5, ground := Go.Ground.phase }, { on := 6, ground := Go.Ground.phase }, { on := 7, ground := Go.Ground.phase }, { on := 8, ground := Go.Ground.phase }, { on := 9, ground := Go.Ground.phase }, { on := 10, ground := Go.Ground.phase }, { on := 11, ground := Go.Ground.phase }, { on := 12, ground := Go.Ground.phase }, { on := 13, ground := Go.Ground.phase }, { on := 14, ground := Go.Ground.phase }, { on := 15, ground := Go.Ground.phase }, { on := 16, ground := Go.Ground.phase }, { on := 17, ground := Go.Ground.phase }, { on := 18, ground := Go.Ground.phase }], guard := none }) (v := ?_) rfl (by kernel_rfl) (by kernel_rfl) (by kernel_rfl) (fun _ _ _ h => h) (Or.inl ⟨by rfl, ?_⟩) (by assumption) ?_
   rotate_left
   · (intro w hSw; (try dsimp only at hSw); go_simp; try with_reducible rfl)
   try simp only [Act.put, List.setIfInBounds_toArray, List.set_cons_zero, List.set_cons_succ]
   refine wpAnyH_done (by kernel_rfl) ?_ _
   go_wp2_with fail
   go_ret
   exact ⟨by first | rfl | simp, HW.out⟩
 | false =>
   go_wp2_with fail
   refine wp_region_held_drew (S := fun W' => W'.cell? ⟨g, i, none⟩ = some (.int .i64 v) ∧ W'.cell? ⟨W.heap.size, 1, none⟩ = some (.func (.func KF) #[] #[]) ∧ W'.cell? ⟨W.heap.size, 0, none⟩ = some (.int .i64 least) ∧ Below W.heap.size W W') (by kernel_rfl) ?_ (fun hHeld => ?_)
   · (with_reducible first | exact ⟨hc0, hcK, hcL, HW.out⟩ | exact HA1.out | exact HA2.out)
   refine wpAnyH_take (i := 0) (oi := { dst := some 8, op := Go.Op.fieldAddr 109 (Go.Operand.tmp 2) 1, type := 0, pos := "table.go:45", after := #[], guard := none }) (v := ?_) rfl (by kernel_rfl) (by kernel_rfl) (by kernel_rfl) (fun _ _ _ h => h) (Or.inl ⟨by rfl, ?_⟩) (by assumption) ?_
   rotate_left
   · (intro w hSw; (try dsimp only at hSw); go_simp; try with_reducible rfl)
   try simp only [Act.put, List.setIfInBounds_toArray, List.set_cons_zero, List.set_cons_succ]
   refine wpAnyH_take (i := 1) (oi := { dst := some 9, op := Go.Op.load 104 (Go.Operand.tmp 8), type := 104, pos := "table.go:45", after := #[{ on := 0, ground := Go.Ground.data }], guard := none }) (v := ?_) rfl (by kernel_rfl) (by kernel_rfl) (by kernel_rfl) (fun _ _ _ h => h) (Or.inl ⟨by rfl, ?_⟩) (by assumption) ?_
   rotate_left
   · (intro w hSw; (try dsimp only at hSw); go_simp; try with_reducible rfl)
   try simp only [Act.put, List.setIfInBounds_toArray, List.set_cons_zero, List.set_cons_succ]
   refine wpAnyH_take (i := 2) (oi := { dst := some 10, op := Go.Op.move (Go.Operand.tmp 1), type := 110, pos := "table.go:45", after := #[], guard := none }) (v := ?_) rfl (by kernel_rfl) (by kernel_rfl) (by kernel_rfl) (fun _ _ _ h => h) (Or.inl ⟨by rfl, ?_⟩) (by assumption) ?_
   rotate_left
   · (intro w hSw; (try dsimp only at hSw); go_simp; try with_reducible rfl)
   try simp only [Act.put, List.setIfInBounds_toArray, List.set_cons_zero, List.set_cons_succ]
   refine wpAnyH_ready (rs := [3]) (by kernel_rfl) (by simp) ?_
   refine AllReadyH.cons (o := { dst := some 11, op := Go.Op.call { callee := Go.Callee.value (Go.Operand.tmp 9), args := #[Go.Operand.tmp 10], argTypes := #[110] }, type := 161, pos := "table.go:45", after := #[{ on := 1, ground := Go.Ground.data }, { on := 2, ground := Go.Ground.data }], guard := none }) rfl (fun K hK => ?_) ?_
   rotate_left
   · exact AllReadyH.nil
   go_simp
   (first | (go_at_call 91; (with_reducible refine (c_num1d _ _ (by first | rfl | simp) _ _ h1).mono ?_); rintro e w1 ⟨rfl, hb1⟩; replace HW := Aside0.mk (below_step HW.out hb1); replace hc0 := pw_cell_below hb1 hc0; replace hcK := pw_cell_below hb1 hcK; replace hcL := pw_cell_below hb1 hcL) | ((with_reducible refine (HN.out _ _).mono ?_); rintro e w1 ⟨rfl, rfl⟩))
   refine hK.out _ _ ?_ (fun hHeld => ?_)
   · (with_reducible first | exact ⟨hc0, hcK, hcL, HW.out⟩ | exact HA1.out | exact HA2.out)
   clear hK K
   try simp only [Act.put, List.setIfInBounds_toArray, List.set_cons_zero, List.set_cons_succ]
   refine wpAnyH_take (i := 4) (oi := { dst := some 12, op := Go.Op.nilCheck (Go.Operand.tmp 11), type := 0, pos := "table.go:45", after := #[{ on := 3, ground := Go.Ground.data }], guard := none }) (v := ?_) rfl (by kernel_rfl) (by kernel_rfl) (by kernel_rfl) (fun _ _ _ h => h) (Or.inl ⟨by rfl, ?_⟩) (by assumption) ?_
   rotate_left
   · (intro w hSw; (try dsimp only at hSw); go_simp; try with_reducible rfl)
   try simp only [Act.put, List.setIfInBounds_toArray, List.set_cons_zero, List.set_cons_succ]
   refine wpAnyH_take (i := 5) (oi := { dst := some 13, op := Go.Op.load 3 (Go.Operand.tmp 12), type := 3, pos := "table.go:45", after := #[{ on := 4, ground := Go.Ground.data }], guard := none }) (v := ?_) rfl (by kernel_rfl) (by kernel_rfl) (by kernel_rfl) (fun _ _ _ h => h) (Or.inl ⟨by rfl, ?_⟩) (by assumption) ?_
   rotate_left
   · (intro w hSw; (try dsimp only at hSw); go_simp; try with_reducible rfl)
   try simp only [Act.put, List.setIfInBounds_toArray, List.set_cons_zero, List.set_cons_succ]
   refine wpAnyH_ready (rs := [6]) (by kernel_rfl) (by simp) ?_
   refine AllReadyH.cons (o := { dst := some 14, op := Go.Op.buildSlice 146 1 #[(0, Go.Operand.tmp 13)], type := 146, pos := "table.go:45", after := #[{ on := 5, ground := Go.Ground.data }], guard := none }) rfl (fun K hK => ?_) ?_
   rotate_left
   · exact AllReadyH.nil
   go_simp
   skip
   refine hK.out _ _ ?_ (fun hHeld => ?_)
   · (with_reducible first | exact ⟨hc0, hcK, hcL, HW.out⟩ | exact HA1.out | exact HA2.out)
   clear hK K
   try simp only [Act.put, List.setIfInBounds_toArray, List.set_cons_zero, List.set_cons_succ]
   refine wpAnyH_ready (rs := [7]) (by kernel_rfl) (by simp) ?_
   refine AllReadyH.cons (o := { dst := some 15, op := Go.Op.call { callee := Go.Callee.value (Go.Operand.func 91), args := #[Go.Operand.tmp 14], argTypes := #[146] }, type := 4, pos := "table.go:45", after := #[{ on := 6, ground := Go.Ground.data }, { on := 3, ground := Go.Ground.chain }], guard := none }) rfl (fun K hK => ?_) ?_
   rotate_left
   · exact AllReadyH.nil
   go_simp
   (first | (go_at_call 91; (with_reducible refine (c_num1d _ _ (by first | rfl | simp) _ _ h1).mono ?_); rintro e w1 ⟨rfl, hb1⟩; replace HW := Aside0.mk (below_step HW.out hb1); replace hc0 := pw_cell_below hb1 hc0; replace hcK := pw_cell_below hb1 hcK; replace hcL := pw_cell_below hb1 hcL) | ((with_reducible refine (HN.out _ _).mono ?_); rintro e w1 ⟨rfl, rfl⟩))
   refine hK.out _ _ ?_ (fun hHeld => ?_)
   · (with_reducible first | exact ⟨hc0, hcK, hcL, HW.out⟩ | exact HA1.out | exact HA2.out)
   clear hK K
   try simp only [Act.put, List.setIfInBounds_toArray, List.set_cons_zero, List.set_cons_succ]
   refine wpAnyH_take (i := 8) (oi := { dst := some 16, op := Go.Op.move (Go.Operand.tmp 15), type := 4, pos := "table.go:45", after := #[{ on := 7, ground := Go.Ground.data }, { on := 7, ground := Go.Ground.chain }], guard := none }) (v := ?_) rfl (by kernel_rfl) (by kernel_rfl) (by kernel_rfl) (fun _ _ _ h => h) (Or.inl ⟨by rfl, ?_⟩) (by assumption) ?_
   rotate_left
   · (intro w hSw; (try dsimp only at hSw); go_simp; try with_reducible rfl)
   try simp only [Act.put, List.setIfInBounds_toArray, List.set_cons_zero, List.set_cons_succ]
   refine wpAnyH_take (i := 9) (oi := { dst := some 17, op := Go.Op.fieldAddr 109 (Go.Operand.tmp 2) 1, type := 0, pos := "table.go:45", after := #[{ on := 8, ground := Go.Ground.guard }], guard := some (8, true) }) (v := undef) rfl (by kernel_rfl) (by kernel_rfl) (by kernel_rfl) (fun _ _ _ h => h) (Or.inr ⟨by rfl, rfl⟩) (by assumption) ?_
   try simp only [Act.put, List.setIfInBounds_toArray, List.set_cons_zero, List.set_cons_succ]
   refine wpAnyH_take (i := 10) (oi := { dst := some 18, op := Go.Op.load 104 (Go.Operand.tmp 17), type := 104, pos := "table.go:45", after := #[{ on := 9, ground := Go.Ground.data }, { on := 8, ground := Go.Ground.guard }], guard := some (8, true) }) (v := undef) rfl (by kernel_rfl) (by kernel_rfl) (by kernel_rfl) (fun _ _ _ h => h) (Or.inr ⟨by rfl, rfl⟩) (by assumption) ?_
   try simp only [Act.put, List.setIfInBounds_toArray, List.set_cons_zero, List.set_cons_succ]
   refine wpAnyH_take (i := 11) (oi := { dst := some 19, op := Go.Op.move (Go.Operand.tmp 1), type := 110, pos := "table.go:45", after := #[{ on := 8, ground := Go.Ground.guard }], guard := some (8, true) }) (v := undef) rfl (by kernel_rfl) (by kernel_rfl) (by kernel_rfl) (fun _ _ _ h => h) (Or.inr ⟨by rfl, rfl⟩) (by assumption) ?_
   try simp only [Act.put, List.setIfInBounds_toArray, List.set_cons_zero, List.set_cons_succ]
   refine wpAnyH_take (i := 12) (oi := { dst := some 20, op := Go.Op.call { callee := Go.Callee.value (Go.Operand.tmp 18), args := #[Go.Operand.tmp 19], argTypes := #[110] }, type := 161, pos := "table.go:45", after := #[{ on := 10, ground := Go.Ground.data }, { on := 11, ground := Go.Ground.data }, { on := 8, ground := Go.Ground.chain }, { on := 8, ground := Go.Ground.guard }], guard := some (8, true) }) (v := undef) rfl (by kernel_rfl) (by kernel_rfl) (by kernel_rfl) (fun _ _ _ h => h) (Or.inr ⟨by rfl, rfl⟩) (by assumption) ?_
   try simp only [Act.put, List.setIfInBounds_toArray, List.set_cons_zero, List.set_cons_succ]
   refine wpAnyH_take (i := 13) (oi := { dst := some 21, op := Go.Op.nilCheck (Go.Operand.tmp 20), type := 0, pos := "table.go:45", after := #[{ on := 12, ground := Go.Ground.data }, { on := 8, ground := Go.Ground.guard }], guard := some (8, true) }) (v := undef) rfl (by kernel_rfl) (by kernel_rfl) (by kernel_rfl) (fun _ _ _ h => h) (Or.inr ⟨by rfl, rfl⟩) (by assumption) ?_
   try simp only [Act.put, List.setIfInBounds_toArray, List.set_cons_zero, List.set_cons_succ]
   refine wpAnyH_take (i := 14) (oi := { dst := some 22, op := Go.Op.load 3 (Go.Operand.tmp 21), type := 3, pos := "table.go:45", after := #[{ on := 13, ground := Go.Ground.data }, { on := 8, ground := Go.Ground.guard }], guard := some (8, true) }) (v := undef) rfl (by kernel_rfl) (by kernel_rfl) (by kernel_rfl) (fun _ _ _ h => h) (Or.inr ⟨by rfl, rfl⟩) (by assumption) ?_
   try simp only [Act.put, List.setIfInBounds_toArray, List.set_cons_zero, List.set_cons_succ]
   refine wpAnyH_take (i := 15) (oi := { dst := some 23, op := Go.Op.fieldAddr 109 (Go.Operand.tmp 2) 0, type := 0, pos := "table.go:45", after := #[{ on := 8, ground := Go.Ground.guard }], guard := some (8, true) }) (v := undef) rfl (by kernel_rfl) (by kernel_rfl) (by kernel_rfl) (fun _ _ _ h => h) (Or.inr ⟨by rfl, rfl⟩) (by assumption) ?_
   try simp only [Act.put, List.setIfInBounds_toArray, List.set_cons_zero, List.set_cons_succ]
   refine wpAnyH_take (i := 16) (oi := { dst := some 24, op := Go.Op.load 3 (Go.Operand.tmp 23), type := 3, pos := "table.go:45", after := #[{ on := 15, ground := Go.Ground.data }, { on := 8, ground := Go.Ground.guard }], guard := some (8, true) }) (v := undef) rfl (by kernel_rfl) (by kernel_rfl) (by kernel_rfl) (fun _ _ _ h => h) (Or.inr ⟨by rfl, rfl⟩) (by assumption) ?_
   try simp only [Act.put, List.setIfInBounds_toArray, List.set_cons_zero, List.set_cons_succ]
   refine wpAnyH_take (i := 17) (oi := { dst := some 25, op := Go.Op.binOp Go.BinOp.geq 3 (Go.Operand.tmp 22) (Go.Operand.tmp 24) 3, type := 4, pos := "table.go:45", after := #[{ on := 14, ground := Go.Ground.data }, { on := 16, ground := Go.Ground.data }, { on := 8, ground := Go.Ground.guard }], guard := some (8, true) }) (v := undef) rfl (by kernel_rfl) (by kernel_rfl) (by kernel_rfl) (fun _ _ _ h => h) (Or.inr ⟨by rfl, rfl⟩) (by assumption) ?_
   try simp only [Act.put, List.setIfInBounds_toArray, List.set_cons_zero, List.set_cons_succ]
   refine wpAnyH_take (i := 18) (oi := { dst := some 26, op := Go.Op.pick (Go.Operand.tmp 16) (Go.Operand.tmp 25) (Go.Operand.const (Go.Value.bool false)), type := 4, pos := "table.go:45", after := #[{ on := 8, ground := Go.Ground.data }, { on := 17, ground := Go.Ground.data }], guard := none }) (v := ?_) rfl (by kernel_rfl) (by kernel_rfl) (by kernel_rfl) (fun _ _ _ h => h) (Or.inl ⟨by rfl, ?_⟩) (by assumption) ?_
   rotate_left
   · (intro w hSw; (try dsimp only at hSw); go_simp; try with_reducible rfl)
   try simp only [Act.put, List.setIfInBounds_toArray, List.set_cons_zero, List.set_cons_succ]
   refine wpAnyH_take (i := 19) (oi := { dst := some 4, op := Go.Op.assign (Go.Operand.tmp 26), type := 4, pos := "table.go:45", after := #[{ on := 18, ground := Go.Ground.data }, { on := 12, ground := Go.Ground.chain }, { on := 0, ground := Go.Ground.phase }, { on := 1, ground := Go.Ground.phase }, { on := 2, ground := Go.Ground.phase }, { on := 3, ground := Go.Ground.phase }, { on := 4, ground := Go.Ground.phase }, { on := 5, ground := Go.Ground.phase }, { on := 6, ground := Go.Ground.phase }, { on := 7, ground := Go.Ground.phase }, { on := 8, ground := Go.Ground.phase }, { on := 9, ground := Go.Ground.phase }, { on := 10, ground := Go.Ground.phase }, { on := 11, ground := Go.Ground.phase }, { on := 12, ground := Go.Ground.phase }, { on := 13, ground := Go.Ground.phase }, { on := 14, ground := Go.Ground.phase }, { on := 15, ground := Go.Ground.phase }, { on := 16, ground := Go.Ground.phase }, { on := 17, ground := Go.Ground.phase }, { on := 18, ground := Go.Ground.phase }], guard := none }) (v := ?_) rfl (by kernel_rfl) (by kernel_rfl) (by kernel_rfl) (fun _ _ _ h => h) (Or.inl ⟨by rfl, ?_⟩) (by assumption) ?_
   rotate_left
   · (intro w hSw; (try dsimp only at hSw); go_simp; try with_reducible rfl)
   try simp only [Act.put, List.setIfInBounds_toArray, List.set_cons_zero, List.set_cons_succ]
   refine wpAnyH_done (by kernel_rfl) ?_ _
   go_wp2_with fail
   go_ret
   exact ⟨by first | rfl | simp, HW.out⟩
set_option maxRecDepth 100000 in
theorem right_may (KF : FuncId) (hK : Enters KF) (f2 f3 f4 : Value) (W : World) (g : Nat) (b : Bool) (hM : ∀ W1, Below W.heap.size W W1 → Calls Tryz.prog KF #[.pointer (some ⟨g, 0, none⟩)] W1 fun e W' => e = .returned (.bool b) ∧ Below W1.heap.size W1 W') :
  Calls Tryz.prog 42 #[.agg #[.int .i64 0, .nilFunc, f2, f3, f4, .func (.func KF) #[] #[]], .pointer (some ⟨g, 0, none⟩)] W fun e W' => e = .returned (.bool b) ∧ Below W.heap.size W W' := by
 have hne : ∀ w : World, (binOp BinOp.neq 104 .nilFunc .nilFunc).run Tryz.prog w = .ok (.bool false) w := fun _ => rfl
 have HM := Aside0.mk (hM (W.alloc (Obj.cells #[.int .i64 0, .nilFunc, f2, f3, f4, .func (.func KF) #[] #[]] 109 (0, 0))) (below_alloc (Below.refl _ _) _))
 have hK2 : ∀ (args : Array Value) (w : World), (callFunc KF args).run Tryz.prog w = .ok (.enter KF args) w := hK
 clear hM hK
 go_enter Tryz.func42, Tryz.ntmps42
 go_wp2_with ((with_reducible refine HM.out.mono ?_); rintro e w1 ⟨rfl, hb1⟩; have HB1 := Aside0.mk hb1; clear hb1)
 go_ret
 exact ⟨rfl, below_step (below_alloc (Below.refl _ _) _) HB1.out⟩
set_option maxRecDepth 100000 in
theorem clear_num (KF : FuncId) (i : Nat) (hK : Enters KF) (hN : NumAt KF i) (least v : Int) (W : World) (g : Nat) (cs : Array Value) (hbx : W.heap[g]? = some (.cells cs 34 (0, 0))) (hv : cs[i]? = some (.int .i64 v)) :
  Calls Tryz.prog 43 #[.agg (F6 least KF), .pointer (some ⟨g, 0, none⟩)] W fun e W' => e = .returned (.tuple #[]) ∧ Moved W W' (fun k => k = g) ∧ W'.heap[g]? = some (.cells (cs.setIfInBounds i (.int .i64 0)) 34 (0, 0)) := by
 have hne : ∀ w : World, (binOp BinOp.neq 104 (.func (.func KF) #[] #[]) .nilFunc).run Tryz.prog w = .ok (.bool true) w := fun _ => rfl
 have HX := Aside0.mk (blk_below (below_alloc (Below.refl _ _) (Obj.cells (F6 least KF) 109 (0, 0))) hbx)
 have hc0 : (W.alloc (Obj.cells (F6 least KF) 109 (0, 0))).cell? ⟨g, i, none⟩ = some (.int .i64 v) := (blk_cell HX.out i).trans hv
 have hf0 := blk_frozen HX.out i
 have HN := Aside0.mk (show ∀ (g : Nat) (W : World), Calls Tryz.prog KF #[.pointer (some ⟨g, 0, none⟩)] W fun e W' => e = .returned (.pointer (some ⟨g, i, none⟩)) ∧ W' = W from hN)
 have hK2 : ∀ (args : Array Value) (w : World), (callFunc KF args).run Tryz.prog w = .ok (.enter KF args) w := hK
 clear hN hK hbx hv
 go_enter Tryz.func43, Tryz.ntmps43
 go_wp2_with ((with_reducible refine (HN.out _ _).mono ?_); rintro e w1 ⟨rfl, rfl⟩)
 first | go_end0 | refine bodyPost_ret (results_none rfl _ _ _) rfl ?_
 exact ⟨rfl, (Moved.of_below (below_alloc (Below.refl _ _) _) (fun k => k = g)).set_ (p := ⟨g, i, none⟩) (.inl rfl) _, blk_set HX.out i _⟩
set_option maxRecDepth 100000 in
theorem clear_wipe (KF : FuncId) (hK : Enters KF) (f2 f3 f5 : Value) (W : World) (g : Nat) (Q : World → Prop) (hM : Calls Tryz.prog KF #[.pointer (some ⟨g, 0, none⟩)] (W.alloc (Obj.cells #[.int .i64 0, .nilFunc, f2, f3, .func (.func KF) #[] #[], f5] 109 (0, 0))) fun e W' => e = .returned (.tuple #[]) ∧ Q W') :
  Calls Tryz.prog 43 #[.agg #[.int .i64 0, .nilFunc, f2, f3, .func (.func KF) #[] #[], f5], .pointer (some ⟨g, 0, none⟩)] W fun e W' => e = .returned (.tuple #[]) ∧ Q W' := by
 have hne : ∀ w : World, (binOp BinOp.neq 104 .nilFunc .nilFunc).run Tryz.prog w = .ok (.bool false) w := fun _ => rfl
 have HM := Aside0.mk hM
 have hK2 : ∀ (args : Array Value) (w : World), (callFunc KF args).run Tryz.prog w = .ok (.enter KF args) w := hK
 clear hM hK
 go_enter Tryz.func43, Tryz.ntmps43
 go_wp2_with ((with_reducible refine HM.out.mono ?_); rintro e w1 ⟨rfl, hq⟩; have HQ := Aside0.mk hq; clear hq)
 first | go_end0 | refine bodyPost_ret (results_none rfl _ _ _) rfl ?_
 exact ⟨rfl, HQ.out⟩
set_option maxRecDepth 100000 in
theorem write_put (KF : FuncId) (hK : Enters KF) (f3 f4 f5 : Value) (W : World) (gw g : Nat) (Q : World → Prop) (hM : Calls Tryz.prog KF #[.pointer (some ⟨gw, 0, none⟩), .pointer (some ⟨g, 0, none⟩)] (W.alloc (Obj.cells #[.int .i64 0, .nilFunc, .func (.func KF) #[] #[], f3, f4, f5] 109 (0, 0))) fun e W' => e = .returned (.tuple #[]) ∧ Q W') :
  Calls Tryz.prog 62 #[.agg #[.int .i64 0, .nilFunc, .func (.func KF) #[] #[], f3, f4, f5], .pointer (some ⟨gw, 0, none⟩), .pointer (some ⟨g, 0, none⟩)] W fun e W' => e = .returned (.tuple #[]) ∧ Q W' := by
 have hne : ∀ w : World, (binOp BinOp.neq 104 .nilFunc .nilFunc).run Tryz.prog w = .ok (.bool false) w := fun _ => rfl
 have HM := Aside0.mk hM
 have hK2 : ∀ (args : Array Value) (w : World), (callFunc KF args).run Tryz.prog w = .ok (.enter KF args) w := hK
 clear hM hK
 go_enter Tryz.func62, Tryz.ntmps62
 go_wp2_with ((with_reducible refine HM.out.mono ?_); rintro e w1 ⟨rfl, hq⟩; have HQ := Aside0.mk hq; clear hq)
 first | go_end0 | refine bodyPost_ret (results_none rfl _ _ _) rfl ?_
 exact ⟨rfl, HQ.out⟩
set_option maxRecDepth 100000 in
theorem write_num (KF : FuncId) (i : Nat) (hK : Enters KF) (hN : NumAt KF i) (least v : Int) (W : World) (gw g : Nat) (Q : World → Prop) (hc : W.cell? ⟨g, i, none⟩ = some (.int .i64 v)) (hM : Calls Tryz.prog 61 #[.pointer (some ⟨gw, 0, none⟩), .int .i64 v] (W.alloc (Obj.cells (F6 least KF) 109 (0, 0))) fun e W' => e = .returned (.tuple #[]) ∧ Q W') :
  Calls Tryz.prog 62 #[.agg (F6 least KF), .pointer (some ⟨gw, 0, none⟩), .pointer (some ⟨g, 0, none⟩)] W fun e W' => e = .returned (.tuple #[]) ∧ Q W' := by
 have hne : ∀ w : World, (binOp BinOp.neq 104 (.func (.func KF) #[] #[]) .nilFunc).run Tryz.prog w = .ok (.bool true) w := fun _ => rfl
 have hc0 : (W.alloc (Obj.cells (F6 least KF) 109 (0, 0))).cell? ⟨g, i, none⟩ = some (.int .i64 v) := pw_cell_below (below_alloc (Below.refl _ _) _) hc
 have HM := Aside0.mk hM
 have HN := Aside0.mk (show ∀ (g : Nat) (W : World), Calls Tryz.prog KF #[.pointer (some ⟨g, 0, none⟩)] W fun e W' => e = .returned (.pointer (some ⟨g, i, none⟩)) ∧ W' = W from hN)
 have hK2 : ∀ (args : Array Value) (w : World), (callFunc KF args).run Tryz.prog w = .ok (.enter KF args) w := hK
 clear hM hK hN hc
 go_enter Tryz.func62, Tryz.ntmps62
 go_wp2_with (first | (go_at_call 61; (with_reducible refine HM.out.mono ?_); rintro e w1 ⟨rfl, hq⟩; have HQ := Aside0.mk hq; clear hq) | ((with_reducible refine (HN.out _ _).mono ?_); rintro e w1 ⟨rfl, rfl⟩))
 first | go_end0 | refine bodyPost_ret (results_none rfl _ _ _) rfl ?_
 exact ⟨rfl, HQ.out⟩
set_option maxRecDepth 100000 in
theorem read_get (KF : FuncId) (hK : Enters KF) (f2 f4 f5 : Value) (W : World) (gr g : Nat) (Q : Ending → World → Prop) (hQ : ∀ e W', Q e W' → e = .returned (.tuple #[]) ∨ e = .panicked flaw) (hM : Calls Tryz.prog KF #[.pointer (some ⟨gr, 0, none⟩), .pointer (some ⟨g, 0, none⟩)] (W.alloc (Obj.cells #[.int .i64 0, .nilFunc, f2, .func (.func KF) #[] #[], f4, f5] 109 (0, 0))) Q) :
   Calls Tryz.prog 68 #[.agg #[.int .i64 0, .nilFunc, f2, .func (.func KF) #[] #[], f4, f5], .pointer (some ⟨gr, 0, none⟩), .pointer (some ⟨g, 0, none⟩)] W Q := by
 have hne : ∀ w : World, (binOp BinOp.neq 104 .nilFunc .nilFunc).run Tryz.prog w = .ok (.bool false) w := fun _ => rfl
 have HM := Aside0.mk hM
 have HQ := Aside0.mk hQ
 have hK2 : ∀ (args : Array Value) (w : World), (callFunc KF args).run Tryz.prog w = .ok (.enter KF args) w := hK
 clear hM hK hQ
 go_enter Tryz.func68, Tryz.ntmps68
 go_wp2_with fail
 refine HM.out.mono ?_
 intro e w1 hq
 have HR := Aside0.mk hq
 rcases HQ.out _ _ hq with rfl | rfl
 · clear hq
   go_wp2_with fail
   first | go_end0 | refine bodyPost_ret (results_none rfl _ _ _) rfl ?_
   exact HR.out
 · exact ⟨rfl, HR.out⟩
set_option maxRecDepth 100000 in
set_option maxHeartbeats 2000000 in
theorem read_num (KF : FuncId) (i : Nat) (hK : Enters KF) (hN : NumAt KF i) (least v0 : Int) (w0 W : World) (gr g : Nat) (A : Option Addr) (c a : Nat) (xs : List Int) (hD : Get.Data w0 A c xs) (ha : a ≤ xs.length) (hb : Below w0.heap.size w0 W) (hg : w0.heap.size ≤ gr) (hE : Eye W gr A xs.length c a) (hne : g ≠ gr) (cs : Array Value) (hbx : W.heap[g]? = some (.cells cs 34 (0, 0))) (hi : i < cs.size) (hv : cs[i]? = some (.int .i64 v0)) :
   Calls Tryz.prog 68 #[.agg (F6 least KF), .pointer (some ⟨gr, 0, none⟩), .pointer (some ⟨g, 0, none⟩)] W fun e W' => Moved W W' (fun k => k = gr ∨ k = g) ∧ (dNum xs a = none → e = .panicked flaw) ∧ ∀ v a', dNum xs a = some (v, a') → e = .returned (.tuple #[]) ∧ Eye W' gr A xs.length c a' ∧ W'.heap[g]? = some (.cells (cs.setIfInBounds i (.int .i64 v)) 34 (0, 0)) := by
 have hne1 : ∀ w : World, (binOp BinOp.neq 104 (.func (.func KF) #[] #[]) .nilFunc).run Tryz.prog w = .ok (.bool true) w := fun _ => rfl
 have hbA := below_alloc (Below.refl W.heap.size W) (Obj.cells (F6 least KF) 109 (0, 0))
 have HX := Aside0.mk (blk_below hbA hbx)
 have hEA : Eye (W.alloc (Obj.cells (F6 least KF) 109 (0, 0))) gr A xs.length c a := blk_below hbA hE
 have HM := Aside0.mk (rnum w0 (W.alloc (Obj.cells (F6 least KF) 109 (0, 0))) gr A c a xs hD ha (below_step hb hbA) hg hEA)
 have HN := Aside0.mk (show ∀ (g : Nat) (W : World), Calls Tryz.prog KF #[.pointer (some ⟨g, 0, none⟩)] W fun e W' => e = .returned (.pointer (some ⟨g, i, none⟩)) ∧ W' = W from hN)
 have hK2 : ∀ (args : Array Value) (w : World), (callFunc KF args).run Tryz.prog w = .ok (.enter KF args) w := hK
 have HV := Aside0.mk hv
 have HBA := Aside0.mk hbA
 clear hK hN hbx hE hD hb hEA hv hbA
 go_enter Tryz.func68, Tryz.ntmps68
 go_wp2_with ((with_reducible refine (HN.out _ _).mono ?_); rintro e w1 ⟨rfl, rfl⟩)
 refine HM.out.mono ?_
 rintro e w1 ⟨hm, hn, hs⟩
 cases hr : dNum xs a with
 | none =>
   obtain rfl := hn hr
   exact ⟨rfl, ((Moved.of_below HBA.out (fun k => k = gr ∨ k = g)).trans hm (fun k _ hk => .inl hk)), (fun _ => rfl), fun v a' h => by rw [hr] at h; cases h⟩
 | some p =>
   obtain ⟨v, a'⟩ := p
   obtain ⟨v1, rfl, rfl, he⟩ := hs _ _ hr
   have HX1 := Aside0.mk (hm.blk HX.out hne)
   have hc1 := (blk_cell HX1.out i).trans HV.out
   have hf1 := blk_frozen HX1.out i
   have HMV := Aside0.mk ((Moved.of_below HBA.out (fun k => k = gr ∨ k = g)).trans hm (fun k _ hk => .inl hk))
   have HE := Aside0.mk he
   have HRX := Aside0.mk hr
   clear hm hn hs hr he
   go_wp2_with fail
   first | go_end0 | refine bodyPost_ret (results_none rfl _ _ _) rfl ?_
   refine ⟨HMV.out.set_ (.inl (.inr rfl)) _, (fun h => by rw [HRX.out] at h; cases h), fun y z h => ?_⟩
   rw [HRX.out] at h
   simp only [Option.some.injEq, Prod.mk.injEq] at h
   obtain ⟨rfl, rfl⟩ := h
   exact ⟨rfl, blk_far HE.out (p := ⟨g, i, none⟩) (fun h => hne h.symm) _, blk_set HX1.out i _⟩
end Go.Proofs.YtmneemhplffemaaGreatDoorRR.Tab
namespace Go.Proofs.YtmneemhplffemaaGreatDoorRR.Tab
open Go.RowKit Go.Proofs.YtmneemhplffemaaGreatDoorRR.Ord Go.Proofs.YtmneemhplffemaaGreatDoorRR.Name Go.Proofs.YtmneemhplffemaaGreatDoorRR.Ext Go.Proofs.YtmneemhplffemaaGreatDoorRR.Mem Go.Proofs.YtmneemhplffemaaGreatDoorRR.Law Go.Proofs.YtmneemhplffemaaGreatDoorRR.Row Go.Proofs.YtmneemhplffemaaGreatDoorRR.Ki Go.Proofs.YtmneemhplffemaaGreatDoorRR.Chk Go.Proofs.YtmneemhplffemaaGreatDoorRR.May Go.Proofs.YtmneemhplffemaaGreatDoorRRW.PrintWords


structure Sane (x : Note) : Prop where
 kids : ∀ r ∈ x.f11.f3, ∀ y ∈ r.f6, y.size ≤ 140737488355328
 s9 : x.f9.length ≤ 1000000000000000
 s10 : x.f10.length ≤ 1000000000000000
 s11 : x.f11.f3.length ≤ 1000000000000000
 s12 : x.f12.length ≤ 17592186043904
 s13 : x.f13.length ≤ 1000000000000000
 s14 : x.f14.length ≤ 1000000000000000
theorem sane_clr {x : Note} (l : Ltr) (h : Sane x) : Sane (clrF l x) := by
 obtain ⟨h1, h2, h3, h4, h5, h6, h7⟩ := h
 cases l
 all_goals (refine ⟨?_, ?_, ?_, ?_, ?_, ?_, ?_⟩ <;> first | assumption | (simp only [clrF]; first | assumption | simp))
theorem n_ln : NumAt 132 1 := by
 intro g W
 go_enter Tryz.func132, Tryz.ntmps132
 go_wp2
 go_ret
 exact ⟨rfl, rfl⟩
theorem n_ls : NumAt 133 4 := by
 intro g W
 go_enter Tryz.func133, Tryz.ntmps133
 go_wp2
 go_ret
 exact ⟨rfl, rfl⟩
theorem n_lc : NumAt 134 5 := by
 intro g W
 go_enter Tryz.func134, Tryz.ntmps134
 go_wp2
 go_ret
 exact ⟨rfl, rfl⟩
theorem n_lr : NumAt 135 6 := by
 intro g W
 go_enter Tryz.func135, Tryz.ntmps135
 go_wp2
 go_ret
 exact ⟨rfl, rfl⟩
theorem n_lt : NumAt 136 7 := by
 intro g W
 go_enter Tryz.func136, Tryz.ntmps136
 go_wp2
 go_ret
 exact ⟨rfl, rfl⟩
theorem n_lf : NumAt 137 8 := by
 intro g W
 go_enter Tryz.func137, Tryz.ntmps137
 go_wp2
 go_ret
 exact ⟨rfl, rfl⟩
theorem n_lm : NumAt 138 9 := by
 intro g W
 go_enter Tryz.func138, Tryz.ntmps138
 go_wp2
 go_ret
 exact ⟨rfl, rfl⟩
set_option maxRecDepth 100000 in
set_option maxHeartbeats 1000000 in
theorem mc_uW (w0 W : World) (g : Nat) (x : Note) (cs : List Value) (hk : k34.K w0 x cs) (hb : Below w0.heap.size w0 W) (hbx : W.heap[g]? = some (.cells cs.toArray 34 (0, 0))) (HE : Env w0) (hz : Sane x) (b : Bool) (h : okF .uW x = b) :
   Calls Tryz.prog 140 #[.pointer (some ⟨g, 0, none⟩)] W fun e W' => e = .returned (.bool b) ∧ Below W.heap.size W W' := by
 subst h
 obtain ⟨A11, c11, A12, c12, A16, c16, A17, c17, A18, c18, A19, c19, rfl, l11, g11, l12, g12, l16, g16, l17, g17, l18, g18, l19, g19⟩ := k34_open hk
 have hc := blk_cell hbx
 have n_17 : W.cell? ⟨g, 17, none⟩ = some (.slice A17 x.f12.length c17) := hc 17
 have G17 := Aside0.mk g17
 have hm17 : x.f12.length ≤ 9223372036854775807 := g17.2.1
 have HL17 := Aside0.mk l17
 have HW := Aside0.mk (Below.refl W.heap.size W)
 have HA := Aside0.mk hb
 have HE := Aside0.mk HE
 have HZ := Aside0.mk hz
 clear hk hb hbx hc hz g11 l11 g12 l12 g16 l16 g17 l17 g18 l18 g19 l19
 have HPWatch := Aside0.mk (show MayWatch w0 142 mWatch x.f12 from (fun x cs W _ hb hk => m_watch W W x cs _ rfl hk (Below.refl _ _) (HE.out.at_ hb)))
 go_enter Tryz.func140, Tryz.ntmps140
 cases h1 : (decide ((x.f12.length : Int) ≤ 4) && x.f12.all mWatch) with
 | true =>
   go_wp2_with (go_at_call 141; (with_reducible refine (all_Watch mWatch 142 (fun _ _ => by kernel_rfl) w0 _ _ _ _ _ _ (by assumption) HPWatch.out G17.out HA.out).mono ?_); rintro e w1 ⟨rfl, hb1⟩; replace HW := Aside0.mk (below_step HW.out hb1); replace HA := Aside0.mk (below_step HA.out hb1); replace n_17 := pw_cell_below hb1 n_17; clear hb1)
   go_ret
   exact ⟨by simp only [okF, h1, Bool.not_true, Bool.not_false, Bool.true_and, Bool.false_and, Bool.and_true, Bool.and_false, Bool.true_or, Bool.false_or, Bool.or_true, Bool.or_false, Bool.false_eq_true, if_true, if_false]; rfl, HW.out⟩
 | false =>
   go_wp2_with (go_at_call 141; (with_reducible refine (all_Watch mWatch 142 (fun _ _ => by kernel_rfl) w0 _ _ _ _ _ _ (by assumption) HPWatch.out G17.out HA.out).mono ?_); rintro e w1 ⟨rfl, hb1⟩; replace HW := Aside0.mk (below_step HW.out hb1); replace HA := Aside0.mk (below_step HA.out hb1); replace n_17 := pw_cell_below hb1 n_17; clear hb1)
   go_ret
   exact ⟨by simp only [okF, h1, Bool.not_true, Bool.not_false, Bool.true_and, Bool.false_and, Bool.and_true, Bool.and_false, Bool.true_or, Bool.false_or, Bool.or_true, Bool.or_false, Bool.false_eq_true, if_true, if_false]; rfl, HW.out⟩
set_option maxRecDepth 100000 in
set_option maxHeartbeats 1000000 in
theorem mc_lw (w0 W : World) (g : Nat) (x : Note) (cs : List Value) (hk : k34.K w0 x cs) (hb : Below w0.heap.size w0 W) (hbx : W.heap[g]? = some (.cells cs.toArray 34 (0, 0))) (HE : Env w0) (hz : Sane x) (b : Bool) (h : okF .lw x = b) :
   Calls Tryz.prog 143 #[.pointer (some ⟨g, 0, none⟩)] W fun e W' => e = .returned (.bool b) ∧ Below W.heap.size W W' := by
 subst h
 obtain ⟨A11, c11, A12, c12, A16, c16, A17, c17, A18, c18, A19, c19, rfl, l11, g11, l12, g12, l16, g16, l17, g17, l18, g18, l19, g19⟩ := k34_open hk
 have hc := blk_cell hbx
 have n_17 : W.cell? ⟨g, 17, none⟩ = some (.slice A17 x.f12.length c17) := hc 17
 have G17 := Aside0.mk g17
 have hm17 : x.f12.length ≤ 9223372036854775807 := g17.2.1
 have HL17 := Aside0.mk l17
 have HW := Aside0.mk (Below.refl W.heap.size W)
 have HA := Aside0.mk hb
 have HE := Aside0.mk HE
 have HZ := Aside0.mk hz
 clear hk hb hbx hc hz g11 l11 g12 l12 g16 l16 g17 l17 g18 l18 g19 l19
 go_enter Tryz.func143, Tryz.ntmps143
 cases h1 : (x.f12.length == 1) with
 | true =>
   have h1_0 : (((x.f12.length : Int) == 1)) = true := (by have hq_ := h1; simp only [beq_eq_false_iff_ne, beq_iff_eq, ne_eq] at hq_ ⊢; omega)
   have h1_1 : (((x.f12.length : Int) != 1)) = false := (by have hq_ := h1; simp only [beq_eq_false_iff_ne, beq_iff_eq, bne_iff_ne, bne_eq_false_iff_eq, ne_eq] at hq_ ⊢; omega)
   have hl1 : x.f12.length = 1 := by simpa using h1
   obtain ⟨y, hye⟩ : ∃ y, x.f12[0]? = some y := ⟨_, List.getElem?_eq_getElem (by omega)⟩
   have EY := Aside0.mk hye
   have hat := at_T96 G17.out ((0 : Nat) : Int) (by omega) (by omega)
   rw [show rd_T96 x.f12 ((0 : Nat) : Int) = y by unfold rd_T96; rw [Int.toNat_natCast, List.getD_eq_getElem?_getD, hye]; rfl, Int.toNat_natCast] at hat
   obtain ⟨adc, rfl, c_0, c_1, c_2, c_3⟩ := hat
   replace c_0 := pw_cell_below HA.out c_0
   replace c_1 := pw_cell_below HA.out c_1
   replace c_2 := pw_cell_below HA.out c_2
   replace c_3 := pw_cell_below HA.out c_3
   have hpo : 0 < x.f12.length := by omega
   have hpi : (0 : Int) < x.f12.length := by omega
   clear hye hl1
   simp only [Nat.zero_mul, Addr.add, Nat.add_zero, if_true] at c_0 c_1 c_2 c_3
   cases h2 : mWatch y with
   | true =>
     go_wp2_with (go_at_call 142; (with_reducible refine (m_watch w0 _ y _ _ (by assumption) (k96_mk w0 y) HA.out HE.out).mono ?_); rintro e w1 ⟨rfl, hb1⟩; replace HW := Aside0.mk (below_step HW.out hb1); replace HA := Aside0.mk (below_step HA.out hb1); replace n_17 := pw_cell_below hb1 n_17; replace c_0 := pw_cell_below hb1 c_0; replace c_1 := pw_cell_below hb1 c_1; replace c_2 := pw_cell_below hb1 c_2; replace c_3 := pw_cell_below hb1 c_3; clear hb1)
     go_ret
     exact ⟨by simp only [okF, EY.out, Option.elim, h1, h2, Bool.not_true, Bool.not_false, Bool.true_and, Bool.false_and, Bool.and_true, Bool.and_false, Bool.true_or, Bool.false_or, Bool.or_true, Bool.or_false, Bool.false_eq_true, if_true, if_false]; rfl, HW.out⟩
   | false =>
     go_wp2_with (go_at_call 142; (with_reducible refine (m_watch w0 _ y _ _ (by assumption) (k96_mk w0 y) HA.out HE.out).mono ?_); rintro e w1 ⟨rfl, hb1⟩; replace HW := Aside0.mk (below_step HW.out hb1); replace HA := Aside0.mk (below_step HA.out hb1); replace n_17 := pw_cell_below hb1 n_17; replace c_0 := pw_cell_below hb1 c_0; replace c_1 := pw_cell_below hb1 c_1; replace c_2 := pw_cell_below hb1 c_2; replace c_3 := pw_cell_below hb1 c_3; clear hb1)
     go_ret
     exact ⟨by simp only [okF, EY.out, Option.elim, h1, h2, Bool.not_true, Bool.not_false, Bool.true_and, Bool.false_and, Bool.and_true, Bool.and_false, Bool.true_or, Bool.false_or, Bool.or_true, Bool.or_false, Bool.false_eq_true, if_true, if_false]; rfl, HW.out⟩
 | false =>
   have h1_0 : (((x.f12.length : Int) == 1)) = false := (by have hq_ := h1; simp only [beq_eq_false_iff_ne, beq_iff_eq, ne_eq] at hq_ ⊢; omega)
   have h1_1 : (((x.f12.length : Int) != 1)) = true := (by have hq_ := h1; simp only [beq_eq_false_iff_ne, beq_iff_eq, bne_iff_ne, bne_eq_false_iff_eq, ne_eq] at hq_ ⊢; omega)
   go_wp2_with fail
   go_ret
   exact ⟨by simp only [okF, h1, Bool.not_true, Bool.not_false, Bool.true_and, Bool.false_and, Bool.and_true, Bool.and_false, Bool.true_or, Bool.false_or, Bool.or_true, Bool.or_false, Bool.false_eq_true, if_true, if_false]; rfl, HW.out⟩
set_option maxRecDepth 100000 in
set_option maxHeartbeats 1000000 in
theorem mc_ld (w0 W : World) (g : Nat) (x : Note) (cs : List Value) (hk : k34.K w0 x cs) (hb : Below w0.heap.size w0 W) (hbx : W.heap[g]? = some (.cells cs.toArray 34 (0, 0))) (HE : Env w0) (hz : Sane x) (b : Bool) (h : okF .ld x = b) :
   Calls Tryz.prog 144 #[.pointer (some ⟨g, 0, none⟩)] W fun e W' => e = .returned (.bool b) ∧ Below W.heap.size W W' := by
 subst h
 obtain ⟨A11, c11, A12, c12, A16, c16, A17, c17, A18, c18, A19, c19, rfl, l11, g11, l12, g12, l16, g16, l17, g17, l18, g18, l19, g19⟩ := k34_open hk
 have hc := blk_cell hbx
 have n_17 : W.cell? ⟨g, 17, none⟩ = some (.slice A17 x.f12.length c17) := hc 17
 have G17 := Aside0.mk g17
 have hm17 : x.f12.length ≤ 9223372036854775807 := g17.2.1
 have HL17 := Aside0.mk l17
 have HW := Aside0.mk (Below.refl W.heap.size W)
 have HA := Aside0.mk hb
 have HE := Aside0.mk HE
 have HZ := Aside0.mk hz
 clear hk hb hbx hc hz g11 l11 g12 l12 g16 l16 g17 l17 g18 l18 g19 l19
 go_enter Tryz.func144, Tryz.ntmps144
 cases h1 : (x.f12.length == 1) with
 | true =>
   have h1_0 : (((x.f12.length : Int) == 1)) = true := (by have hq_ := h1; simp only [beq_eq_false_iff_ne, beq_iff_eq, ne_eq] at hq_ ⊢; omega)
   have h1_1 : (((x.f12.length : Int) != 1)) = false := (by have hq_ := h1; simp only [beq_eq_false_iff_ne, beq_iff_eq, bne_iff_ne, bne_eq_false_iff_eq, ne_eq] at hq_ ⊢; omega)
   have hl1 : x.f12.length = 1 := by simpa using h1
   obtain ⟨y, hye⟩ : ∃ y, x.f12[0]? = some y := ⟨_, List.getElem?_eq_getElem (by omega)⟩
   have EY := Aside0.mk hye
   have hat := at_T96 G17.out ((0 : Nat) : Int) (by omega) (by omega)
   rw [show rd_T96 x.f12 ((0 : Nat) : Int) = y by unfold rd_T96; rw [Int.toNat_natCast, List.getD_eq_getElem?_getD, hye]; rfl, Int.toNat_natCast] at hat
   obtain ⟨adc, rfl, c_0, c_1, c_2, c_3⟩ := hat
   replace c_0 := pw_cell_below HA.out c_0
   replace c_1 := pw_cell_below HA.out c_1
   replace c_2 := pw_cell_below HA.out c_2
   replace c_3 := pw_cell_below HA.out c_3
   have hpo : 0 < x.f12.length := by omega
   have hpi : (0 : Int) < x.f12.length := by omega
   clear hye hl1
   simp only [Nat.zero_mul, Addr.add, Nat.add_zero, if_true] at c_0 c_1 c_2 c_3
   cases h2 : mBare y with
   | true =>
     go_wp2_with (go_at_call 145; (with_reducible refine (m_bare w0 _ y _ _ (by assumption) (k96_mk w0 y) HA.out).mono ?_); rintro e w1 ⟨rfl, hb1⟩; replace HW := Aside0.mk (below_step HW.out hb1); replace HA := Aside0.mk (below_step HA.out hb1); replace n_17 := pw_cell_below hb1 n_17; replace c_0 := pw_cell_below hb1 c_0; replace c_1 := pw_cell_below hb1 c_1; replace c_2 := pw_cell_below hb1 c_2; replace c_3 := pw_cell_below hb1 c_3; clear hb1)
     go_ret
     exact ⟨by simp only [okF, EY.out, Option.elim, h1, h2, Bool.not_true, Bool.not_false, Bool.true_and, Bool.false_and, Bool.and_true, Bool.and_false, Bool.true_or, Bool.false_or, Bool.or_true, Bool.or_false, Bool.false_eq_true, if_true, if_false]; rfl, HW.out⟩
   | false =>
     go_wp2_with (go_at_call 145; (with_reducible refine (m_bare w0 _ y _ _ (by assumption) (k96_mk w0 y) HA.out).mono ?_); rintro e w1 ⟨rfl, hb1⟩; replace HW := Aside0.mk (below_step HW.out hb1); replace HA := Aside0.mk (below_step HA.out hb1); replace n_17 := pw_cell_below hb1 n_17; replace c_0 := pw_cell_below hb1 c_0; replace c_1 := pw_cell_below hb1 c_1; replace c_2 := pw_cell_below hb1 c_2; replace c_3 := pw_cell_below hb1 c_3; clear hb1)
     go_ret
     exact ⟨by simp only [okF, EY.out, Option.elim, h1, h2, Bool.not_true, Bool.not_false, Bool.true_and, Bool.false_and, Bool.and_true, Bool.and_false, Bool.true_or, Bool.false_or, Bool.or_true, Bool.or_false, Bool.false_eq_true, if_true, if_false]; rfl, HW.out⟩
 | false =>
   have h1_0 : (((x.f12.length : Int) == 1)) = false := (by have hq_ := h1; simp only [beq_eq_false_iff_ne, beq_iff_eq, ne_eq] at hq_ ⊢; omega)
   have h1_1 : (((x.f12.length : Int) != 1)) = true := (by have hq_ := h1; simp only [beq_eq_false_iff_ne, beq_iff_eq, bne_iff_ne, bne_eq_false_iff_eq, ne_eq] at hq_ ⊢; omega)
   go_wp2_with fail
   go_ret
   exact ⟨by simp only [okF, h1, Bool.not_true, Bool.not_false, Bool.true_and, Bool.false_and, Bool.and_true, Bool.and_false, Bool.true_or, Bool.false_or, Bool.or_true, Bool.or_false, Bool.false_eq_true, if_true, if_false]; rfl, HW.out⟩
set_option maxRecDepth 100000 in
set_option maxHeartbeats 1000000 in
theorem mc_uD (w0 W : World) (g : Nat) (x : Note) (cs : List Value) (hk : k34.K w0 x cs) (hb : Below w0.heap.size w0 W) (hbx : W.heap[g]? = some (.cells cs.toArray 34 (0, 0))) (HE : Env w0) (hz : Sane x) (b : Bool) (h : okF .uD x = b) :
   Calls Tryz.prog 146 #[.pointer (some ⟨g, 0, none⟩)] W fun e W' => e = .returned (.bool b) ∧ Below W.heap.size W W' := by
 subst h
 obtain ⟨A11, c11, A12, c12, A16, c16, A17, c17, A18, c18, A19, c19, rfl, l11, g11, l12, g12, l16, g16, l17, g17, l18, g18, l19, g19⟩ := k34_open hk
 have hc := blk_cell hbx
 have n_17 : W.cell? ⟨g, 17, none⟩ = some (.slice A17 x.f12.length c17) := hc 17
 have G17 := Aside0.mk g17
 have hm17 : x.f12.length ≤ 9223372036854775807 := g17.2.1
 have HL17 := Aside0.mk l17
 have HW := Aside0.mk (Below.refl W.heap.size W)
 have HA := Aside0.mk hb
 have HE := Aside0.mk HE
 have HZ := Aside0.mk hz
 clear hk hb hbx hc hz g11 l11 g12 l12 g16 l16 g17 l17 g18 l18 g19 l19
 have HPBare := Aside0.mk (show MayWatch w0 145 mBare x.f12 from (fun x cs W _ hb hk => m_bare W W x cs _ rfl hk (Below.refl _ _)))
 go_enter Tryz.func146, Tryz.ntmps146
 cases h1 : (decide ((x.f12.length : Int) ≤ 4) && x.f12.all mBare) with
 | true =>
   cases h2 : mIds x.f12 with
   | true =>
     go_wp2_with (first | (go_at_call 141; (with_reducible refine (all_Watch mBare 145 (fun _ _ => by kernel_rfl) w0 _ _ _ _ _ _ (by assumption) HPBare.out G17.out HA.out).mono ?_); rintro e w1 ⟨rfl, hb1⟩; replace HW := Aside0.mk (below_step HW.out hb1); replace HA := Aside0.mk (below_step HA.out hb1); replace n_17 := pw_cell_below hb1 n_17; clear hb1) | (go_at_call 147; (with_reducible refine (m_ids w0 _ _ _ _ _ (by assumption) HZ.out.s12 G17.out HA.out).mono ?_); rintro e w1 ⟨rfl, hb1⟩; replace HW := Aside0.mk (below_step HW.out hb1); replace HA := Aside0.mk (below_step HA.out hb1); replace n_17 := pw_cell_below hb1 n_17; clear hb1))
     go_ret
     exact ⟨by simp only [okF, h1, h2, Bool.not_true, Bool.not_false, Bool.true_and, Bool.false_and, Bool.and_true, Bool.and_false, Bool.true_or, Bool.false_or, Bool.or_true, Bool.or_false, Bool.false_eq_true, if_true, if_false]; rfl, HW.out⟩
   | false =>
     go_wp2_with (first | (go_at_call 141; (with_reducible refine (all_Watch mBare 145 (fun _ _ => by kernel_rfl) w0 _ _ _ _ _ _ (by assumption) HPBare.out G17.out HA.out).mono ?_); rintro e w1 ⟨rfl, hb1⟩; replace HW := Aside0.mk (below_step HW.out hb1); replace HA := Aside0.mk (below_step HA.out hb1); replace n_17 := pw_cell_below hb1 n_17; clear hb1) | (go_at_call 147; (with_reducible refine (m_ids w0 _ _ _ _ _ (by assumption) HZ.out.s12 G17.out HA.out).mono ?_); rintro e w1 ⟨rfl, hb1⟩; replace HW := Aside0.mk (below_step HW.out hb1); replace HA := Aside0.mk (below_step HA.out hb1); replace n_17 := pw_cell_below hb1 n_17; clear hb1))
     go_ret
     exact ⟨by simp only [okF, h1, h2, Bool.not_true, Bool.not_false, Bool.true_and, Bool.false_and, Bool.and_true, Bool.and_false, Bool.true_or, Bool.false_or, Bool.or_true, Bool.or_false, Bool.false_eq_true, if_true, if_false]; rfl, HW.out⟩
 | false =>
   go_wp2_with (go_at_call 141; (with_reducible refine (all_Watch mBare 145 (fun _ _ => by kernel_rfl) w0 _ _ _ _ _ _ (by assumption) HPBare.out G17.out HA.out).mono ?_); rintro e w1 ⟨rfl, hb1⟩; replace HW := Aside0.mk (below_step HW.out hb1); replace HA := Aside0.mk (below_step HA.out hb1); replace n_17 := pw_cell_below hb1 n_17; clear hb1)
   go_ret
   exact ⟨by simp only [okF, h1, Bool.not_true, Bool.not_false, Bool.true_and, Bool.false_and, Bool.and_true, Bool.and_false, Bool.true_or, Bool.false_or, Bool.or_true, Bool.or_false, Bool.false_eq_true, if_true, if_false]; rfl, HW.out⟩
set_option maxRecDepth 100000 in
set_option maxHeartbeats 1000000 in
theorem mc_le (w0 W : World) (g : Nat) (x : Note) (cs : List Value) (hk : k34.K w0 x cs) (hb : Below w0.heap.size w0 W) (hbx : W.heap[g]? = some (.cells cs.toArray 34 (0, 0))) (HE : Env w0) (hz : Sane x) (b : Bool) (h : okF .le x = b) :
   Calls Tryz.prog 238 #[.pointer (some ⟨g, 0, none⟩)] W fun e W' => e = .returned (.bool b) ∧ Below W.heap.size W W' := by
 subst h
 obtain ⟨A11, c11, A12, c12, A16, c16, A17, c17, A18, c18, A19, c19, rfl, l11, g11, l12, g12, l16, g16, l17, g17, l18, g18, l19, g19⟩ := k34_open hk
 have hc := blk_cell hbx
 have n_10 : W.cell? ⟨g, 10, none⟩ = some (.int .i64 x.f8) := hc 10
 have HW := Aside0.mk (Below.refl W.heap.size W)
 have HA := Aside0.mk hb
 have HE := Aside0.mk HE
 have HZ := Aside0.mk hz
 clear hk hb hbx hc hz g11 l11 g12 l12 g16 l16 g17 l17 g18 l18 g19 l19
 go_enter Tryz.func238, Tryz.ntmps238
 cases h1 : okNum x.f8 with
 | true =>
   go_wp2_with (go_at_call 91; (with_reducible refine (c_num1 _ _ (by first | rfl | simp) _ _ (by assumption)).mono ?_); rintro e w1 ⟨rfl, hb1⟩; replace HW := Aside0.mk (below_step HW.out hb1); replace HA := Aside0.mk (below_step HA.out hb1); replace n_10 := pw_cell_below hb1 n_10; clear hb1)
   go_ret
   exact ⟨by simp only [okF, h1, Bool.not_true, Bool.not_false, Bool.true_and, Bool.false_and, Bool.and_true, Bool.and_false, Bool.true_or, Bool.false_or, Bool.or_true, Bool.or_false, Bool.false_eq_true, if_true, if_false]; rfl, HW.out⟩
 | false =>
   go_wp2_with (go_at_call 91; (with_reducible refine (c_num1 _ _ (by first | rfl | simp) _ _ (by assumption)).mono ?_); rintro e w1 ⟨rfl, hb1⟩; replace HW := Aside0.mk (below_step HW.out hb1); replace HA := Aside0.mk (below_step HA.out hb1); replace n_10 := pw_cell_below hb1 n_10; clear hb1)
   go_ret
   exact ⟨by simp only [okF, h1, Bool.not_true, Bool.not_false, Bool.true_and, Bool.false_and, Bool.and_true, Bool.and_false, Bool.true_or, Bool.false_or, Bool.or_true, Bool.or_false, Bool.false_eq_true, if_true, if_false]; rfl, HW.out⟩
set_option maxRecDepth 100000 in
set_option maxHeartbeats 1000000 in
theorem mc_lv (w0 W : World) (g : Nat) (x : Note) (cs : List Value) (hk : k34.K w0 x cs) (hb : Below w0.heap.size w0 W) (hbx : W.heap[g]? = some (.cells cs.toArray 34 (0, 0))) (HE : Env w0) (hz : Sane x) (b : Bool) (h : okF .lv x = b) :
   Calls Tryz.prog 242 #[.pointer (some ⟨g, 0, none⟩)] W fun e W' => e = .returned (.bool b) ∧ Below W.heap.size W W' := by
 subst h
 obtain ⟨A11, c11, A12, c12, A16, c16, A17, c17, A18, c18, A19, c19, rfl, l11, g11, l12, g12, l16, g16, l17, g17, l18, g18, l19, g19⟩ := k34_open hk
 have hc := blk_cell hbx
 have n_1 : W.cell? ⟨g, 1, none⟩ = some (.int .i64 x.f1.f0) := hc 1
 have n_2 : W.cell? ⟨g, 2, none⟩ = some (.int .i64 x.f1.f1) := hc 2
 have n_3 : W.cell? ⟨g, 3, none⟩ = some (.int .i64 x.f1.f2) := hc 3
 have HW := Aside0.mk (Below.refl W.heap.size W)
 have HA := Aside0.mk hb
 have HE := Aside0.mk HE
 have HZ := Aside0.mk hz
 clear hk hb hbx hc hz g11 l11 g12 l12 g16 l16 g17 l17 g18 l18 g19 l19
 go_enter Tryz.func242, Tryz.ntmps242
 cases h1 : (okNum x.f1.f0 && okNum x.f1.f1 && okNum x.f1.f2) with
 | true =>
   go_wp2_with fail
   go_still_tail 15, (by kernel_rfl)
   change wpList _ _ _ _ _ W.drew
   have hd : Below W.heap.size W W.drew := below_drew (Below.refl _ _)
   generalize W.drew = w2 at hd ⊢
   have HD := Aside0.mk hd
   clear hd n_1 n_2 n_3
   go_wp2_with (go_at_call 91; (with_reducible refine (c_num3 _ _ (by first | rfl | simp) _ _ _ _ (by assumption)).mono ?_); rintro e w1 ⟨rfl, hb1⟩; have HB1 := Aside0.mk hb1; clear hb1)
   go_ret
   exact ⟨by simp only [okF, h1, Bool.not_true, Bool.not_false, Bool.true_and, Bool.false_and, Bool.and_true, Bool.and_false, Bool.true_or, Bool.false_or, Bool.or_true, Bool.or_false, Bool.false_eq_true, if_true, if_false]; rfl, below_step HD.out HB1.out⟩
 | false =>
   go_wp2_with fail
   go_still_tail 15, (by kernel_rfl)
   change wpList _ _ _ _ _ W.drew
   have hd : Below W.heap.size W W.drew := below_drew (Below.refl _ _)
   generalize W.drew = w2 at hd ⊢
   have HD := Aside0.mk hd
   clear hd n_1 n_2 n_3
   go_wp2_with (go_at_call 91; (with_reducible refine (c_num3 _ _ (by first | rfl | simp) _ _ _ _ (by assumption)).mono ?_); rintro e w1 ⟨rfl, hb1⟩; have HB1 := Aside0.mk hb1; clear hb1)
   go_ret
   exact ⟨by simp only [okF, h1, Bool.not_true, Bool.not_false, Bool.true_and, Bool.false_and, Bool.and_true, Bool.and_false, Bool.true_or, Bool.false_or, Bool.or_true, Bool.or_false, Bool.false_eq_true, if_true, if_false]; rfl, below_step HD.out HB1.out⟩
set_option maxRecDepth 100000 in
set_option maxHeartbeats 1000000 in
theorem mc_ly (w0 W : World) (g : Nat) (x : Note) (cs : List Value) (hk : k34.K w0 x cs) (hb : Below w0.heap.size w0 W) (hbx : W.heap[g]? = some (.cells cs.toArray 34 (0, 0))) (HE : Env w0) (hz : Sane x) (b : Bool) (h : okF .ly x = b) :
   Calls Tryz.prog 185 #[.pointer (some ⟨g, 0, none⟩)] W fun e W' => e = .returned (.bool b) ∧ Below W.heap.size W W' := by
 subst h
 obtain ⟨A11, c11, A12, c12, A16, c16, A17, c17, A18, c18, A19, c19, rfl, l11, g11, l12, g12, l16, g16, l17, g17, l18, g18, l19, g19⟩ := k34_open hk
 have hc := blk_cell hbx
 have n_13 : W.cell? ⟨g, 13, none⟩ = some (.int .i64 x.f11.f0) := hc 13
 have n_14 : W.cell? ⟨g, 14, none⟩ = some (.int .i64 x.f11.f1) := hc 14
 have n_15 : W.cell? ⟨g, 15, none⟩ = some (.int .i64 x.f11.f2) := hc 15
 have n_16 : W.cell? ⟨g, 16, none⟩ = some (.slice A16 x.f11.f3.length c16) := hc 16
 have G16 := Aside0.mk g16
 have hm16 : x.f11.f3.length ≤ 9223372036854775807 := g16.2.1
 have HL16 := Aside0.mk l16
 have HW := Aside0.mk (Below.refl W.heap.size W)
 have HA := Aside0.mk hb
 have HE := Aside0.mk HE
 have HZ := Aside0.mk hz
 clear hk hb hbx hc hz g11 l11 g12 l12 g16 l16 g17 l17 g18 l18 g19 l19
 go_enter Tryz.func185, Tryz.ntmps185
 cases h1 : mReply x.f11 with
 | true =>
   go_wp2_with (go_at_call 186; (with_reducible refine (m_reply w0 _ x.f11 _ _ (by assumption) (k29_mk w0 x.f11 HL16.out G16.out) HA.out HE.out HZ.out.kids).mono ?_); rintro e w1 ⟨rfl, hb1⟩; replace HW := Aside0.mk (below_step HW.out hb1); replace HA := Aside0.mk (below_step HA.out hb1); replace n_13 := pw_cell_below hb1 n_13; replace n_14 := pw_cell_below hb1 n_14; replace n_15 := pw_cell_below hb1 n_15; replace n_16 := pw_cell_below hb1 n_16; clear hb1)
   go_ret
   exact ⟨by simp only [okF, h1, Bool.not_true, Bool.not_false, Bool.true_and, Bool.false_and, Bool.and_true, Bool.and_false, Bool.true_or, Bool.false_or, Bool.or_true, Bool.or_false, Bool.false_eq_true, if_true, if_false]; rfl, HW.out⟩
 | false =>
   go_wp2_with (go_at_call 186; (with_reducible refine (m_reply w0 _ x.f11 _ _ (by assumption) (k29_mk w0 x.f11 HL16.out G16.out) HA.out HE.out HZ.out.kids).mono ?_); rintro e w1 ⟨rfl, hb1⟩; replace HW := Aside0.mk (below_step HW.out hb1); replace HA := Aside0.mk (below_step HA.out hb1); replace n_13 := pw_cell_below hb1 n_13; replace n_14 := pw_cell_below hb1 n_14; replace n_15 := pw_cell_below hb1 n_15; replace n_16 := pw_cell_below hb1 n_16; clear hb1)
   go_ret
   exact ⟨by simp only [okF, h1, Bool.not_true, Bool.not_false, Bool.true_and, Bool.false_and, Bool.and_true, Bool.and_false, Bool.true_or, Bool.false_or, Bool.or_true, Bool.or_false, Bool.false_eq_true, if_true, if_false]; rfl, HW.out⟩
set_option maxRecDepth 100000 in
set_option maxHeartbeats 1000000 in
theorem mc_la (w0 W : World) (g : Nat) (x : Note) (cs : List Value) (hk : k34.K w0 x cs) (hb : Below w0.heap.size w0 W) (hbx : W.heap[g]? = some (.cells cs.toArray 34 (0, 0))) (HE : Env w0) (hz : Sane x) (b : Bool) (h : okF .la x = b) :
   Calls Tryz.prog 190 #[.pointer (some ⟨g, 0, none⟩)] W fun e W' => e = .returned (.bool b) ∧ Below W.heap.size W W' := by
 subst h
 obtain ⟨A11, c11, A12, c12, A16, c16, A17, c17, A18, c18, A19, c19, rfl, l11, g11, l12, g12, l16, g16, l17, g17, l18, g18, l19, g19⟩ := k34_open hk
 have hc := blk_cell hbx
 have n_20 : W.cell? ⟨g, 20, none⟩ = some (.string x.f15) := hc 20
 have HW := Aside0.mk (Below.refl W.heap.size W)
 have HA := Aside0.mk hb
 have HE := Aside0.mk HE
 have HZ := Aside0.mk hz
 clear hk hb hbx hc hz g11 l11 g12 l12 g16 l16 g17 l17 g18 l18 g19 l19
 go_enter Tryz.func190, Tryz.ntmps190
 cases h1 : decide ((x.f15.size : Int) ≤ 200000) with
 | true =>
   have h1_0 : (decide (x.f15.size ≤ 200000)) = true := (by first | simpa using h1 | (simp only [decide_eq_false_iff_not, decide_eq_true_eq] at h1 ⊢; omega))
   have h1_1 : (decide ((200000 : Int) ≥ x.f15.size)) = true := h1
   go_wp2_with fail
   go_ret
   exact ⟨by simp only [okF, h1, Bool.not_true, Bool.not_false, Bool.true_and, Bool.false_and, Bool.and_true, Bool.and_false, Bool.true_or, Bool.false_or, Bool.or_true, Bool.or_false, Bool.false_eq_true, if_true, if_false]; rfl, HW.out⟩
 | false =>
   have h1_0 : (decide (x.f15.size ≤ 200000)) = false := (by first | simpa using h1 | (simp only [decide_eq_false_iff_not, decide_eq_true_eq] at h1 ⊢; omega))
   have h1_1 : (decide ((200000 : Int) ≥ x.f15.size)) = false := h1
   go_wp2_with fail
   go_ret
   exact ⟨by simp only [okF, h1, Bool.not_true, Bool.not_false, Bool.true_and, Bool.false_and, Bool.and_true, Bool.and_false, Bool.true_or, Bool.false_or, Bool.or_true, Bool.or_false, Bool.false_eq_true, if_true, if_false]; rfl, HW.out⟩
set_option maxRecDepth 100000 in
set_option maxHeartbeats 1000000 in
theorem mc_lo (w0 W : World) (g : Nat) (x : Note) (cs : List Value) (hk : k34.K w0 x cs) (hb : Below w0.heap.size w0 W) (hbx : W.heap[g]? = some (.cells cs.toArray 34 (0, 0))) (HE : Env w0) (hz : Sane x) (b : Bool) (h : okF .lo x = b) :
   Calls Tryz.prog 194 #[.pointer (some ⟨g, 0, none⟩)] W fun e W' => e = .returned (.bool b) ∧ Below W.heap.size W W' := by
 subst h
 obtain ⟨A11, c11, A12, c12, A16, c16, A17, c17, A18, c18, A19, c19, rfl, l11, g11, l12, g12, l16, g16, l17, g17, l18, g18, l19, g19⟩ := k34_open hk
 have hc := blk_cell hbx
 have n_11 : W.cell? ⟨g, 11, none⟩ = some (.slice A11 x.f9.length c11) := hc 11
 have G11 := Aside0.mk g11
 have hm11 : x.f9.length ≤ 9223372036854775807 := g11.2.1
 have HL11 := Aside0.mk l11
 have HW := Aside0.mk (Below.refl W.heap.size W)
 have HA := Aside0.mk hb
 have HE := Aside0.mk HE
 have HZ := Aside0.mk hz
 clear hk hb hbx hc hz g11 l11 g12 l12 g16 l16 g17 l17 g18 l18 g19 l19
 go_enter Tryz.func194, Tryz.ntmps194
 cases h1 : mOps x.f9 with
 | true =>
   go_wp2_with (go_at_call 119; (with_reducible refine (m_ops w0 _ _ _ _ _ (by assumption) G11.out HA.out).mono ?_); rintro e w1 ⟨rfl, hb1⟩; replace HW := Aside0.mk (below_step HW.out hb1); replace HA := Aside0.mk (below_step HA.out hb1); replace n_11 := pw_cell_below hb1 n_11; clear hb1)
   go_ret
   exact ⟨by simp only [okF, h1, Bool.not_true, Bool.not_false, Bool.true_and, Bool.false_and, Bool.and_true, Bool.and_false, Bool.true_or, Bool.false_or, Bool.or_true, Bool.or_false, Bool.false_eq_true, if_true, if_false]; rfl, HW.out⟩
 | false =>
   go_wp2_with (go_at_call 119; (with_reducible refine (m_ops w0 _ _ _ _ _ (by assumption) G11.out HA.out).mono ?_); rintro e w1 ⟨rfl, hb1⟩; replace HW := Aside0.mk (below_step HW.out hb1); replace HA := Aside0.mk (below_step HA.out hb1); replace n_11 := pw_cell_below hb1 n_11; clear hb1)
   go_ret
   exact ⟨by simp only [okF, h1, Bool.not_true, Bool.not_false, Bool.true_and, Bool.false_and, Bool.and_true, Bool.and_false, Bool.true_or, Bool.false_or, Bool.or_true, Bool.or_false, Bool.false_eq_true, if_true, if_false]; rfl, HW.out⟩
set_option maxRecDepth 100000 in
set_option maxHeartbeats 1000000 in
theorem mc_uE (w0 W : World) (g : Nat) (x : Note) (cs : List Value) (hk : k34.K w0 x cs) (hb : Below w0.heap.size w0 W) (hbx : W.heap[g]? = some (.cells cs.toArray 34 (0, 0))) (HE : Env w0) (hz : Sane x) (b : Bool) (h : okF .uE x = b) :
   Calls Tryz.prog 200 #[.pointer (some ⟨g, 0, none⟩)] W fun e W' => e = .returned (.bool b) ∧ Below W.heap.size W W' := by
 subst h
 obtain ⟨A11, c11, A12, c12, A16, c16, A17, c17, A18, c18, A19, c19, rfl, l11, g11, l12, g12, l16, g16, l17, g17, l18, g18, l19, g19⟩ := k34_open hk
 have hc := blk_cell hbx
 have n_12 : W.cell? ⟨g, 12, none⟩ = some (.slice A12 x.f10.length c12) := hc 12
 have G12 := Aside0.mk g12
 have hm12 : x.f10.length ≤ 9223372036854775807 := g12.2.1
 have HL12 := Aside0.mk l12
 have HW := Aside0.mk (Below.refl W.heap.size W)
 have HA := Aside0.mk hb
 have HE := Aside0.mk HE
 have HZ := Aside0.mk hz
 clear hk hb hbx hc hz g11 l11 g12 l12 g16 l16 g17 l17 g18 l18 g19 l19
 have HPEntry := Aside0.mk (show MayEntry w0 74 mEntry x.f10 from (fun x cs W _ hb hk => m_entry W W x cs _ rfl hk (Below.refl _ _)))
 go_enter Tryz.func200, Tryz.ntmps200
 cases h1 : (decide ((x.f10.length : Int) ≤ 16) && x.f10.all mEntry) with
 | true =>
   go_wp2_with (go_at_call 201; (with_reducible refine (all_Entry mEntry 74 (fun _ _ => by kernel_rfl) w0 _ _ _ _ _ _ (by assumption) HPEntry.out G12.out HA.out).mono ?_); rintro e w1 ⟨rfl, hb1⟩; replace HW := Aside0.mk (below_step HW.out hb1); replace HA := Aside0.mk (below_step HA.out hb1); replace n_12 := pw_cell_below hb1 n_12; clear hb1)
   go_ret
   exact ⟨by simp only [okF, h1, Bool.not_true, Bool.not_false, Bool.true_and, Bool.false_and, Bool.and_true, Bool.and_false, Bool.true_or, Bool.false_or, Bool.or_true, Bool.or_false, Bool.false_eq_true, if_true, if_false]; rfl, HW.out⟩
 | false =>
   go_wp2_with (go_at_call 201; (with_reducible refine (all_Entry mEntry 74 (fun _ _ => by kernel_rfl) w0 _ _ _ _ _ _ (by assumption) HPEntry.out G12.out HA.out).mono ?_); rintro e w1 ⟨rfl, hb1⟩; replace HW := Aside0.mk (below_step HW.out hb1); replace HA := Aside0.mk (below_step HA.out hb1); replace n_12 := pw_cell_below hb1 n_12; clear hb1)
   go_ret
   exact ⟨by simp only [okF, h1, Bool.not_true, Bool.not_false, Bool.true_and, Bool.false_and, Bool.and_true, Bool.and_false, Bool.true_or, Bool.false_or, Bool.or_true, Bool.or_false, Bool.false_eq_true, if_true, if_false]; rfl, HW.out⟩
set_option maxRecDepth 100000 in
set_option maxHeartbeats 1000000 in
theorem mc_uI (w0 W : World) (g : Nat) (x : Note) (cs : List Value) (hk : k34.K w0 x cs) (hb : Below w0.heap.size w0 W) (hbx : W.heap[g]? = some (.cells cs.toArray 34 (0, 0))) (HE : Env w0) (hz : Sane x) (b : Bool) (h : okF .uI x = b) :
   Calls Tryz.prog 209 #[.pointer (some ⟨g, 0, none⟩)] W fun e W' => e = .returned (.bool b) ∧ Below W.heap.size W W' := by
 subst h
 obtain ⟨A11, c11, A12, c12, A16, c16, A17, c17, A18, c18, A19, c19, rfl, l11, g11, l12, g12, l16, g16, l17, g17, l18, g18, l19, g19⟩ := k34_open hk
 have hc := blk_cell hbx
 have n_19 : W.cell? ⟨g, 19, none⟩ = some (.slice A19 x.f14.length c19) := hc 19
 have G19 := Aside0.mk g19
 have hm19 : x.f14.length ≤ 9223372036854775807 := g19.2.1
 have HL19 := Aside0.mk l19
 have HW := Aside0.mk (Below.refl W.heap.size W)
 have HA := Aside0.mk hb
 have HE := Aside0.mk HE
 have HZ := Aside0.mk hz
 clear hk hb hbx hc hz g11 l11 g12 l12 g16 l16 g17 l17 g18 l18 g19 l19
 go_enter Tryz.func209, Tryz.ntmps209
 cases h1 : mItems x.f14 with
 | true =>
   go_wp2_with (go_at_call 210; (with_reducible refine (m_items w0 _ _ _ _ HL19.out _ (by assumption) G19.out HA.out HE.out).mono ?_); rintro e w1 ⟨rfl, hb1⟩; replace HW := Aside0.mk (below_step HW.out hb1); replace HA := Aside0.mk (below_step HA.out hb1); replace n_19 := pw_cell_below hb1 n_19; clear hb1)
   go_ret
   exact ⟨by simp only [okF, h1, Bool.not_true, Bool.not_false, Bool.true_and, Bool.false_and, Bool.and_true, Bool.and_false, Bool.true_or, Bool.false_or, Bool.or_true, Bool.or_false, Bool.false_eq_true, if_true, if_false]; rfl, HW.out⟩
 | false =>
   go_wp2_with (go_at_call 210; (with_reducible refine (m_items w0 _ _ _ _ HL19.out _ (by assumption) G19.out HA.out HE.out).mono ?_); rintro e w1 ⟨rfl, hb1⟩; replace HW := Aside0.mk (below_step HW.out hb1); replace HA := Aside0.mk (below_step HA.out hb1); replace n_19 := pw_cell_below hb1 n_19; clear hb1)
   go_ret
   exact ⟨by simp only [okF, h1, Bool.not_true, Bool.not_false, Bool.true_and, Bool.false_and, Bool.and_true, Bool.and_false, Bool.true_or, Bool.false_or, Bool.or_true, Bool.or_false, Bool.false_eq_true, if_true, if_false]; rfl, HW.out⟩
set_option maxRecDepth 100000 in
set_option maxHeartbeats 1000000 in
theorem mc_uP (w0 W : World) (g : Nat) (x : Note) (cs : List Value) (hk : k34.K w0 x cs) (hb : Below w0.heap.size w0 W) (hbx : W.heap[g]? = some (.cells cs.toArray 34 (0, 0))) (HE : Env w0) (hz : Sane x) (b : Bool) (h : okF .uP x = b) :
   Calls Tryz.prog 218 #[.pointer (some ⟨g, 0, none⟩)] W fun e W' => e = .returned (.bool b) ∧ Below W.heap.size W W' := by
 subst h
 obtain ⟨A11, c11, A12, c12, A16, c16, A17, c17, A18, c18, A19, c19, rfl, l11, g11, l12, g12, l16, g16, l17, g17, l18, g18, l19, g19⟩ := k34_open hk
 have hc := blk_cell hbx
 have n_18 : W.cell? ⟨g, 18, none⟩ = some (.slice A18 x.f13.length c18) := hc 18
 have G18 := Aside0.mk g18
 have hm18 : x.f13.length ≤ 9223372036854775807 := g18.2.1
 have HL18 := Aside0.mk l18
 have HW := Aside0.mk (Below.refl W.heap.size W)
 have HA := Aside0.mk hb
 have HE := Aside0.mk HE
 have HZ := Aside0.mk hz
 clear hk hb hbx hc hz g11 l11 g12 l12 g16 l16 g17 l17 g18 l18 g19 l19
 go_enter Tryz.func218, Tryz.ntmps218
 cases h1 : (x.f13.length == 1) with
 | true =>
   have h1_0 : (((x.f13.length : Int) == 1)) = true := (by have hq_ := h1; simp only [beq_eq_false_iff_ne, beq_iff_eq, ne_eq] at hq_ ⊢; omega)
   have h1_1 : (((x.f13.length : Int) != 1)) = false := (by have hq_ := h1; simp only [beq_eq_false_iff_ne, beq_iff_eq, bne_iff_ne, bne_eq_false_iff_eq, ne_eq] at hq_ ⊢; omega)
   have hl1 : x.f13.length = 1 := by simpa using h1
   obtain ⟨y, hye⟩ : ∃ y, x.f13[0]? = some y := ⟨_, List.getElem?_eq_getElem (by omega)⟩
   have EY := Aside0.mk hye
   have hat := at_T86 G18.out ((0 : Nat) : Int) (by omega) (by omega)
   rw [show rd_T86 x.f13 ((0 : Nat) : Int) = y by unfold rd_T86; rw [Int.toNat_natCast, List.getD_eq_getElem?_getD, hye]; rfl, Int.toNat_natCast] at hat
   obtain ⟨adc, Ay4, cy4, rfl, c_0, c_1, c_2, c_3, c_4, ly4, gy4⟩ := hat
   have Gy4 := Aside0.mk gy4
   clear gy4
   replace c_0 := pw_cell_below HA.out c_0
   replace c_1 := pw_cell_below HA.out c_1
   replace c_2 := pw_cell_below HA.out c_2
   replace c_3 := pw_cell_below HA.out c_3
   replace c_4 := pw_cell_below HA.out c_4
   have hpo : 0 < x.f13.length := by omega
   have hpi : (0 : Int) < x.f13.length := by omega
   clear hye hl1
   simp only [Nat.zero_mul, Addr.add, Nat.add_zero, if_true] at c_0 c_1 c_2 c_3 c_4
   cases h2 : okNum y.f0 with
   | true =>
     cases h3 : decide (1 ≤ y.f0) with
     | true =>
       have h3_0 : (decide (y.f0 ≥ 1)) = true := h3
       go_wp2_with (go_at_call 91; (with_reducible refine (c_num1 _ _ (by first | rfl | simp) _ _ (by assumption)).mono ?_); rintro e w1 ⟨rfl, hb1⟩; replace HW := Aside0.mk (below_step HW.out hb1); replace HA := Aside0.mk (below_step HA.out hb1); replace n_18 := pw_cell_below hb1 n_18; replace c_0 := pw_cell_below hb1 c_0; replace c_1 := pw_cell_below hb1 c_1; replace c_2 := pw_cell_below hb1 c_2; replace c_3 := pw_cell_below hb1 c_3; replace c_4 := pw_cell_below hb1 c_4; clear hb1)
       go_ret
       exact ⟨by simp only [okF, EY.out, Option.elim, h1, h2, h3, Bool.not_true, Bool.not_false, Bool.true_and, Bool.false_and, Bool.and_true, Bool.and_false, Bool.true_or, Bool.false_or, Bool.or_true, Bool.or_false, Bool.false_eq_true, if_true, if_false]; rfl, HW.out⟩
     | false =>
       have h3_0 : (decide (y.f0 ≥ 1)) = false := h3
       go_wp2_with (go_at_call 91; (with_reducible refine (c_num1 _ _ (by first | rfl | simp) _ _ (by assumption)).mono ?_); rintro e w1 ⟨rfl, hb1⟩; replace HW := Aside0.mk (below_step HW.out hb1); replace HA := Aside0.mk (below_step HA.out hb1); replace n_18 := pw_cell_below hb1 n_18; replace c_0 := pw_cell_below hb1 c_0; replace c_1 := pw_cell_below hb1 c_1; replace c_2 := pw_cell_below hb1 c_2; replace c_3 := pw_cell_below hb1 c_3; replace c_4 := pw_cell_below hb1 c_4; clear hb1)
       go_ret
       exact ⟨by simp only [okF, EY.out, Option.elim, h1, h2, h3, Bool.not_true, Bool.not_false, Bool.true_and, Bool.false_and, Bool.and_true, Bool.and_false, Bool.true_or, Bool.false_or, Bool.or_true, Bool.or_false, Bool.false_eq_true, if_true, if_false]; rfl, HW.out⟩
   | false =>
     go_wp2_with (go_at_call 91; (with_reducible refine (c_num1 _ _ (by first | rfl | simp) _ _ (by assumption)).mono ?_); rintro e w1 ⟨rfl, hb1⟩; replace HW := Aside0.mk (below_step HW.out hb1); replace HA := Aside0.mk (below_step HA.out hb1); replace n_18 := pw_cell_below hb1 n_18; replace c_0 := pw_cell_below hb1 c_0; replace c_1 := pw_cell_below hb1 c_1; replace c_2 := pw_cell_below hb1 c_2; replace c_3 := pw_cell_below hb1 c_3; replace c_4 := pw_cell_below hb1 c_4; clear hb1)
     go_ret
     exact ⟨by simp only [okF, EY.out, Option.elim, h1, h2, Bool.not_true, Bool.not_false, Bool.true_and, Bool.false_and, Bool.and_true, Bool.and_false, Bool.true_or, Bool.false_or, Bool.or_true, Bool.or_false, Bool.false_eq_true, if_true, if_false]; rfl, HW.out⟩
 | false =>
   have h1_0 : (((x.f13.length : Int) == 1)) = false := (by have hq_ := h1; simp only [beq_eq_false_iff_ne, beq_iff_eq, ne_eq] at hq_ ⊢; omega)
   have h1_1 : (((x.f13.length : Int) != 1)) = true := (by have hq_ := h1; simp only [beq_eq_false_iff_ne, beq_iff_eq, bne_iff_ne, bne_eq_false_iff_eq, ne_eq] at hq_ ⊢; omega)
   go_wp2_with (go_at_call 91; (with_reducible refine (c_num1 _ _ (by first | rfl | simp) _ _ (by assumption)).mono ?_); rintro e w1 ⟨rfl, hb1⟩; replace HW := Aside0.mk (below_step HW.out hb1); replace HA := Aside0.mk (below_step HA.out hb1); replace n_18 := pw_cell_below hb1 n_18; clear hb1)
   go_ret
   exact ⟨by simp only [okF, h1, Bool.not_true, Bool.not_false, Bool.true_and, Bool.false_and, Bool.and_true, Bool.and_false, Bool.true_or, Bool.false_or, Bool.or_true, Bool.or_false, Bool.false_eq_true, if_true, if_false]; rfl, HW.out⟩
set_option maxRecDepth 100000 in
set_option maxHeartbeats 1000000 in
theorem m_granted (w0 W : World) (g : Nat) (x : Note) (cs : List Value) (hk : k34.K w0 x cs) (hb : Below w0.heap.size w0 W) (hbx : W.heap[g]? = some (.cells cs.toArray 34 (0, 0))) (HE : Env w0) (hz : Sane x) (h1 : x.f13.length = 1) (b : Bool) (h : mGranted x = b) :
   Calls Tryz.prog 90 #[.pointer (some ⟨g, 0, none⟩)] W fun e W' => e = .returned (.bool b) ∧ Below W.heap.size W W' := by
 subst h
 obtain ⟨A11, c11, A12, c12, A16, c16, A17, c17, A18, c18, A19, c19, rfl, l11, g11, l12, g12, l16, g16, l17, g17, l18, g18, l19, g19⟩ := k34_open hk
 have hc := blk_cell hbx
 have n_10 : W.cell? ⟨g, 10, none⟩ = some (.int .i64 x.f8) := hc 10
 have n_18 : W.cell? ⟨g, 18, none⟩ = some (.slice A18 x.f13.length c18) := hc 18
 have G18 := Aside0.mk g18
 have hm18 : x.f13.length ≤ 9223372036854775807 := g18.2.1
 have HL18 := Aside0.mk l18
 have HW := Aside0.mk (Below.refl W.heap.size W)
 have HA := Aside0.mk hb
 have HE := Aside0.mk HE
 have HZ := Aside0.mk hz
 clear hk hb hbx hc hz g11 l11 g12 l12 g16 l16 g17 l17 g18 l18 g19 l19
 go_enter Tryz.func90, Tryz.ntmps90
 have hl0 : (x.f13.length == 1) = true := by simpa using h1
 clear h1
 have hl1 : x.f13.length = 1 := by simpa using hl0
 obtain ⟨y, hye⟩ : ∃ y, x.f13[0]? = some y := ⟨_, List.getElem?_eq_getElem (by omega)⟩
 have EY := Aside0.mk hye
 have hat := at_T86 G18.out ((0 : Nat) : Int) (by omega) (by omega)
 rw [show rd_T86 x.f13 ((0 : Nat) : Int) = y by unfold rd_T86; rw [Int.toNat_natCast, List.getD_eq_getElem?_getD, hye]; rfl, Int.toNat_natCast] at hat
 obtain ⟨adc, Ay4, cy4, rfl, c_0, c_1, c_2, c_3, c_4, ly4, gy4⟩ := hat
 have Gy4 := Aside0.mk gy4
 clear gy4
 replace c_0 := pw_cell_below HA.out c_0
 replace c_1 := pw_cell_below HA.out c_1
 replace c_2 := pw_cell_below HA.out c_2
 replace c_3 := pw_cell_below HA.out c_3
 replace c_4 := pw_cell_below HA.out c_4
 have hpo : 0 < x.f13.length := by omega
 have hpi : (0 : Int) < x.f13.length := by omega
 clear hye hl1
 simp only [Nat.zero_mul, Addr.add, Nat.add_zero, if_true] at c_0 c_1 c_2 c_3 c_4
 cases h1 : (x.f8 == 0) with
 | true =>
   have h1_0 : ((x.f8 != 0)) = false := (by rw [bne, h1]; rfl)
   cases h2 : mShot y.f1 with
   | true =>
     go_wp2_with (go_at_call 150; (with_reducible refine (m_shot w0 _ y.f1 _ _ (by assumption) (k84_mk w0 y.f1 ly4 Gy4.out) HA.out HE.out).mono ?_); rintro e w1 ⟨rfl, hb1⟩; replace HW := Aside0.mk (below_step HW.out hb1); replace HA := Aside0.mk (below_step HA.out hb1); replace n_10 := pw_cell_below hb1 n_10; replace n_18 := pw_cell_below hb1 n_18; replace c_0 := pw_cell_below hb1 c_0; replace c_1 := pw_cell_below hb1 c_1; replace c_2 := pw_cell_below hb1 c_2; replace c_3 := pw_cell_below hb1 c_3; replace c_4 := pw_cell_below hb1 c_4; clear hb1)
     go_ret
     exact ⟨by simp only [mGranted, EY.out, Option.elim, h1, h2, Bool.not_true, Bool.not_false, Bool.true_and, Bool.false_and, Bool.and_true, Bool.and_false, Bool.true_or, Bool.false_or, Bool.or_true, Bool.or_false, Bool.false_eq_true, if_true, if_false]; rfl, HW.out⟩
   | false =>
     go_wp2_with (go_at_call 150; (with_reducible refine (m_shot w0 _ y.f1 _ _ (by assumption) (k84_mk w0 y.f1 ly4 Gy4.out) HA.out HE.out).mono ?_); rintro e w1 ⟨rfl, hb1⟩; replace HW := Aside0.mk (below_step HW.out hb1); replace HA := Aside0.mk (below_step HA.out hb1); replace n_10 := pw_cell_below hb1 n_10; replace n_18 := pw_cell_below hb1 n_18; replace c_0 := pw_cell_below hb1 c_0; replace c_1 := pw_cell_below hb1 c_1; replace c_2 := pw_cell_below hb1 c_2; replace c_3 := pw_cell_below hb1 c_3; replace c_4 := pw_cell_below hb1 c_4; clear hb1)
     go_ret
     exact ⟨by simp only [mGranted, EY.out, Option.elim, h1, h2, Bool.not_true, Bool.not_false, Bool.true_and, Bool.false_and, Bool.and_true, Bool.and_false, Bool.true_or, Bool.false_or, Bool.or_true, Bool.or_false, Bool.false_eq_true, if_true, if_false]; rfl, HW.out⟩
 | false =>
   have h1_0 : ((x.f8 != 0)) = true := (by rw [bne, h1]; rfl)
   cases h3 : mEmpty y.f1 with
   | true =>
     go_wp2_with (go_at_call 149; (with_reducible refine (m_empty w0 _ y.f1 _ _ (by assumption) (k84_mk w0 y.f1 ly4 Gy4.out) HA.out).mono ?_); rintro e w1 ⟨rfl, hb1⟩; replace HW := Aside0.mk (below_step HW.out hb1); replace HA := Aside0.mk (below_step HA.out hb1); replace n_10 := pw_cell_below hb1 n_10; replace n_18 := pw_cell_below hb1 n_18; replace c_0 := pw_cell_below hb1 c_0; replace c_1 := pw_cell_below hb1 c_1; replace c_2 := pw_cell_below hb1 c_2; replace c_3 := pw_cell_below hb1 c_3; replace c_4 := pw_cell_below hb1 c_4; clear hb1)
     go_ret
     exact ⟨by simp only [mGranted, EY.out, Option.elim, h1, h3, Bool.not_true, Bool.not_false, Bool.true_and, Bool.false_and, Bool.and_true, Bool.and_false, Bool.true_or, Bool.false_or, Bool.or_true, Bool.or_false, Bool.false_eq_true, if_true, if_false]; rfl, HW.out⟩
   | false =>
     go_wp2_with (go_at_call 149; (with_reducible refine (m_empty w0 _ y.f1 _ _ (by assumption) (k84_mk w0 y.f1 ly4 Gy4.out) HA.out).mono ?_); rintro e w1 ⟨rfl, hb1⟩; replace HW := Aside0.mk (below_step HW.out hb1); replace HA := Aside0.mk (below_step HA.out hb1); replace n_10 := pw_cell_below hb1 n_10; replace n_18 := pw_cell_below hb1 n_18; replace c_0 := pw_cell_below hb1 c_0; replace c_1 := pw_cell_below hb1 c_1; replace c_2 := pw_cell_below hb1 c_2; replace c_3 := pw_cell_below hb1 c_3; replace c_4 := pw_cell_below hb1 c_4; clear hb1)
     go_ret
     exact ⟨by simp only [mGranted, EY.out, Option.elim, h1, h3, Bool.not_true, Bool.not_false, Bool.true_and, Bool.false_and, Bool.and_true, Bool.and_false, Bool.true_or, Bool.false_or, Bool.or_true, Bool.or_false, Bool.false_eq_true, if_true, if_false]; rfl, HW.out⟩
end Go.Proofs.YtmneemhplffemaaGreatDoorRR.Tab
namespace Go.Proofs.YtmneemhplffemaaGreatDoorRR.Arg
open Go.RowKit Go.ChangeShapes Go.WideShapes Go.Deep Go.Proofs.YtmneemhplffemaaGreatDoorRR.Ki Go.Proofs.YtmneemhplffemaaGreatDoorRR.Tab Go.Proofs.YtmneemhplffemaaGreatDoorRRW.PrintWords


def Opens {α : Type} (P : Program) (t : TypeId) (k : Kd α) (ok : α → Prop) : Prop :=
 ∀ {H : Type} (enc : TypeId × Value → H) (w : World) (base fuel : Nat) (sp : Nat → Bool) (cs : List Value) (x : DataW H × List MemPlace),
  DataW.trod enc P w base sp true fuel t cs = some x → (∀ n ∈ x.1.weights P t, n ≤ reachBytes) → ∃ y, k.K w y cs ∧ ok y
theorem mem_all {H : Type} {P : Program} {e : TypeId} : ∀ {l : List (DataW H)} {d : DataW H}, d ∈ l → ∀ n ∈ d.weights P e, n ∈ DataW.weightsAll P e l := by
 intro l
 induction l with
 | nil => intro d h; cases h
 | cons a l ih =>
   intro d h n hn
   simp only [DataW.weightsAll, List.mem_append]
   rcases List.mem_cons.1 h with rfl | h
   · exact .inl hn
   · exact .inr (ih h n hn)
theorem list_of {α : Type} {p : Nat → α → Prop} : ∀ n : Nat, (∀ i, i < n → ∃ x, p i x) → ∃ xs : List α, xs.length = n ∧ ∀ (i : Nat) x, xs[i]? = some x → p i x := by
 intro n
 induction n with
 | zero => intro _; exact ⟨[], rfl, fun i x h => by simp at h⟩
 | succ n ih =>
   intro h
   obtain ⟨xs, hl, hx⟩ := ih (fun i hi => h i (Nat.lt_succ_of_lt hi))
   obtain ⟨y, hy⟩ := h n (Nat.lt_succ_self n)
   refine ⟨xs ++ [y], by simp [hl], fun i x hi => ?_⟩
   rcases Nat.lt_trichotomy i n with h1 | h1 | h1
   · rw [List.getElem?_append_left (by omega)] at hi
     exact hx i x hi
   · subst h1
     rw [List.getElem?_append_right (by omega), hl, Nat.sub_self] at hi
     simp at hi
     exact hi ▸ hy
   · rw [List.getElem?_eq_none (by simp; omega)] at hi
     cases hi
section
variable {P : Program} {t : TypeId}
theorem opens_int {k : IntKind} (ht : P.underlying t = some (.int k)) : Opens P t (Kd.int k) (fun y => (Lit.int k y).wf = true) := by
 intro H enc w base fuel sp cs x h _
 obtain ⟨n, rfl, _, hw⟩ := DataW.trod_int ht h
 exact ⟨n, rfl, hw⟩
theorem opens_string (ht : P.underlying t = some .string) : Opens P t Kd.string (fun s => s.size ≤ 140737488351232) := by
 intro H enc w base fuel sp cs x h hw
 obtain ⟨s, rfl, rfl, _⟩ := DataW.trod_string ht h
 refine ⟨s, rfl, ?_⟩
 have := hw s.data.toList.length (by simp [DataW.weights])
 simpa [reachBytes] using this
theorem opens_slice {α : Type} {e : TypeId} {k : Kd α} {ok : α → Prop} (b : Nat) (ht : P.underlying t = some (.slice e)) (hB : b ≤ P.bytesOf e) (hk : Opens P e k ok) :
   Opens P t (Kd.slice e k) (fun ys => ys.length * b ≤ 140737488351232 ∧ ∀ y ∈ ys, ok y) := by
 intro H enc w base fuel sp cs x h hw
 rcases open_slice ht h with ⟨rfl, rfl⟩ | ⟨a, len, cap, m, n, D, Pl, rfl, hb, hl, hm, hmm, rfl, hx⟩
 · exact ⟨[], ⟨none, 0, rfl, Nat.le_refl _, Kd.C_nil _ _⟩, by simp, by simp⟩
 · have hlm : len ≤ m := by rw [hmm]; split <;> omega
   have hws : ∀ i, i < len → ∀ q ∈ (D i).weights P e, q ≤ reachBytes := by
     intro i hi q hq
     refine hw q ?_
     simp only [DataW.weights, ht, List.mem_cons, List.mem_append]
     exact .inr (.inl (mem_all (List.mem_map.2 ⟨i, List.mem_range.2 hi, rfl⟩) q hq))
   have hlen : len * b ≤ 140737488351232 := by
     have := hw ((((List.range len).map D).length + ((List.range (m - len)).map fun j => D (len + j)).length) * P.bytesOf e) (by simp only [DataW.weights, ht]; exact List.mem_cons_self)
     rw [List.length_map, List.length_range] at this
     exact Nat.le_trans (Nat.mul_le_mul (Nat.le_add_right _ _) hB) this
   obtain ⟨ys, hyl, hys⟩ := list_of (p := fun i y => (∃ c : List Value, c.length = k.sz ∧ k.K w y c ∧ ∀ (j : Nat) u, c[j]? = some u → w.cell? (a.add (i * k.sz + j)) = some u) ∧ ok y) len (fun i hi => by
     obtain ⟨cs', hc, htr⟩ := hx i (by omega)
     obtain ⟨y, hK, hy⟩ := hk enc w base n sp cs' (D i, Pl i) htr (hws i hi)
     obtain ⟨_, hcl, hcc⟩ := World.cells?_some hc
     have hsz := k.K_len hK
     refine ⟨y, ⟨cs', hsz, hK, fun j u hu => ?_⟩, hy⟩
     have hj : j < cs'.length := (List.getElem?_eq_some_iff.1 hu).1
     have h1 := hcc j (by omega)
     rw [hu, Go.Deep.add_add, ← hcl, hsz] at h1
     exact h1)
   refine ⟨ys, ⟨some a, cap, by rw [hyl], by omega, rfl, ?_, fun _ => ⟨a, rfl, fun j p hj => (hys j p hj).1⟩⟩, by rw [hyl]; exact hlen, fun y hy => ?_⟩
   · rw [hyl]
     simp only [maxLen] at hm
     omega
   · obtain ⟨i, hi⟩ := List.getElem?_of_mem hy
     exact (hys i y hi).2
def OpensFs {α : Type} (P : Program) (fs : List Field) (o sz : Nat) (k : Kd α) (ok : α → Prop) : Prop :=
 ∀ {H : Type} (enc : TypeId × Value → H) (w : World) (base fuel : Nat) (sp : Nat → Bool) (cs : List Value), cs.length = sz →
  (∀ f ∈ fs, ∃ x : DataW H × List MemPlace, DataW.trod enc P w base sp true fuel f.type ((cs.drop f.offset).take (P.cellsOf f.type)) = some x ∧ ∀ n ∈ x.1.weights P f.type, n ≤ reachBytes) →
  ∃ y, k.K w y (cs.drop o) ∧ ok y
theorem opensFs_one {α : Type} {f : Field} {o sz : Nat} {k : Kd α} {ok : α → Prop} (hf : f.offset = o) (hz : sz ≤ o + P.cellsOf f.type) (hk : Opens P f.type k ok) : OpensFs P [f] o sz k ok := by
 intro H enc w base fuel sp cs hl h
 obtain ⟨x, hx, hw⟩ := h f (List.mem_singleton.2 rfl)
 rw [hf, List.take_of_length_le (by rw [List.length_drop]; omega)] at hx
 exact hk enc w base fuel sp _ x hx hw
theorem opensFs_cons {α β : Type} {f : Field} {fs : List Field} {o sz : Nat} {k : Kd α} {ok : α → Prop} {k2 : Kd β} {ok2 : β → Prop} (hf : f.offset = o) (hk : Opens P f.type k ok) (hr : OpensFs P fs (o + P.cellsOf f.type) sz k2 ok2) :
  OpensFs P (f :: fs) o sz (Kd.pair k k2) (fun y => ok y.1 ∧ ok2 y.2) := by
 intro H enc w base fuel sp cs hl h
 obtain ⟨x, hx, hw⟩ := h f List.mem_cons_self
 rw [hf] at hx
 obtain ⟨y1, h1, o1⟩ := hk enc w base fuel sp _ x hx hw
 obtain ⟨y2, h2, o2⟩ := hr enc w base fuel sp cs hl (fun g hg => h g (List.mem_cons_of_mem _ hg))
 refine ⟨(y1, y2), ⟨_, _, ?_, h1, h2⟩, o1, o2⟩
 rw [← List.drop_drop, List.take_append_drop]
theorem opens_struct {α β : Type} {fs : Array Field} {l : List Field} {k : Kd α} {ok : α → Prop} {sz : Nat} (ht : P.underlying t = some (.struct fs)) (hl : fs.toList = l) (hc : P.cellsOf t = sz) (hs : OpensFs P l 0 sz k ok) (g : β → α) (g' : α → β) (hg : ∀ a, g (g' a) = a) :
   Opens P t (Kd.iso k g) (fun y => ok (g y)) := by
 intro H enc w base fuel sp cs x h hw
 obtain ⟨xs, n, _, rfl, hlen, hxl, hf⟩ := DataW.trod_struct ht h
 obtain ⟨y, hK, ho⟩ := hs enc w base n sp cs (by rw [hlen, hc]) (fun f hmem => by
   rw [← hl] at hmem
   obtain ⟨i, hi⟩ := List.getElem?_of_mem hmem
   have hi' : fs[i]? = some f := by rw [← Array.getElem?_toList]; exact hi
   have hil : i < fs.size := (Array.getElem?_eq_some_iff.1 hi').1
   obtain ⟨z, hz⟩ : ∃ z, xs[i]? = some z := ⟨_, List.getElem?_eq_getElem (by omega)⟩
   refine ⟨z, (hf i f hi').trans hz, fun q hq => hw q ?_⟩
   simp only [DataW.weights, ht]
   exact DataW.weights_mem_each (j := i) (t := f.type) (d := z.1) (by rw [List.getElem?_map, hi]; rfl) (by rw [List.getElem?_map, hz]; rfl) q hq)
 refine ⟨g' y, ?_, ?_⟩
 · show k.K w (g (g' y)) cs
   rw [hg]
   exact hK
 · show ok (g (g' y))
   rw [hg]
   exact ho
theorem opens_mono {α : Type} {k : Kd α} {ok ok' : α → Prop} (h : Opens P t k ok) (hi : ∀ y, ok y → ok' y) : Opens P t k ok' := by
 intro H enc w base fuel sp cs x ht hw
 obtain ⟨y, hK, ho⟩ := h enc w base fuel sp cs x ht hw
 exact ⟨y, hK, hi y ho⟩
end
def OkOp (x : S78) : Prop := (Lit.int .i64 x.f0).wf = true ∧ x.f1.size ≤ 140737488351232 ∧ x.f2.size ≤ 140737488351232 ∧ (Lit.int .i64 x.f3).wf = true ∧ (Lit.int .i64 x.f4).wf = true
theorem oOp : Opens Tryz.prog 78 k78 OkOp :=
 opens_mono (opens_struct (sz := 5) Tryz.underlying78 rfl (by kernel_rfl)
  (opensFs_cons (by kernel_rfl) (opens_int Tryz.underlying3)
  (opensFs_cons (by kernel_rfl) (opens_string Tryz.underlying9)
  (opensFs_cons (by kernel_rfl) (opens_string Tryz.underlying9)
  (opensFs_cons (by kernel_rfl) (opens_int Tryz.underlying3)
  (opensFs_one (by kernel_rfl) (of_decide_eq_true (by kernel_rfl)) (opens_int Tryz.underlying3))))))
  (fun x : S78 => (x.f0, x.f1, x.f2, x.f3, x.f4)) (fun p => ⟨p.1, p.2.1, p.2.2.1, p.2.2.2.1, p.2.2.2.2⟩) (fun _ => rfl)) (fun _ h => h)
def OkEntry (x : S55) : Prop := (Lit.int .i64 x.f0).wf = true ∧ (Lit.int .i64 x.f1).wf = true ∧ (Lit.int .i64 x.f2).wf = true ∧ (Lit.int .i64 x.f3).wf = true ∧ (Lit.int .i64 x.f4).wf = true ∧ (x.f5.length * 56 ≤ 140737488351232 ∧ ∀ y ∈ x.f5, OkOp y)
theorem oEntry : Opens Tryz.prog 55 k55 OkEntry :=
 opens_mono (opens_struct (sz := 6) Tryz.underlying55 rfl (by kernel_rfl)
  (opensFs_cons (by kernel_rfl) (opens_int Tryz.underlying3)
  (opensFs_cons (by kernel_rfl) (opens_int Tryz.underlying3)
  (opensFs_cons (by kernel_rfl) (opens_int Tryz.underlying3)
  (opensFs_cons (by kernel_rfl) (opens_int Tryz.underlying3)
  (opensFs_cons (by kernel_rfl) (opens_int Tryz.underlying3)
  (opensFs_one (by kernel_rfl) (of_decide_eq_true (by kernel_rfl)) (opens_slice 56 Tryz.underlying25 (of_decide_eq_true (by kernel_rfl)) oOp)))))))
  (fun x : S55 => (x.f0, x.f1, x.f2, x.f3, x.f4, x.f5)) (fun p => ⟨p.1, p.2.1, p.2.2.1, p.2.2.2.1, p.2.2.2.2.1, p.2.2.2.2.2⟩) (fun _ => rfl)) (fun _ h => h)
theorem in_any {α : Type} {P : Program} {t : TypeId} {fs : Array Field} {k : Kd α} {ok : α → Prop} (hu : P.underlying t = some (.struct fs)) (hO : Opens P t k ok) {H : Type} {enc : TypeId × Value → H} {W : World} {r : Reach} {base : Nat} {v : Value} {d : DataW H} {ps : List MemPlace} {ts : List TypeId} {ds : List (DataW H)} {j : Nat}
  (hsz : (DataW.weightsEach P ts ds).all (· ≤ reachBytes) = true) (ht : ts[j]? = some t) (hd : ds[j]? = some d)
  (hv : Value.okWide P W r base t v) (h : DataW.Trod enc P W 0 (fun _ => true) true t v d ps) :
  ∃ (x : α) (cs : List Value), v = .agg cs.toArray ∧ k.K W x cs ∧ ok x := by
 obtain ⟨cs, rfl, _⟩ := okWide_struct hu hv
 obtain ⟨fuel, hf⟩ := h
 obtain ⟨x, hK, ho⟩ := hO enc W 0 fuel _ _ _ hf (fun n hn => by have h1 := List.all_eq_true.1 hsz n (DataW.weights_mem_each ht hd n hn); simpa only [decide_eq_true_eq] using h1)
 exact ⟨x, cs.toList, by simp, hK, ho⟩
theorem u_entry : ∃ fs, Tryz.prog.underlying 55 = some (.struct fs) := ⟨_, Tryz.underlying55⟩
end Go.Proofs.YtmneemhplffemaaGreatDoorRR.Arg
namespace Go.Proofs.YtmneemhplffemaaGreatDoorRR.Tab
open Go.RowKit Go.Proofs.YtmneemhplffemaaGreatDoorRR.Ord Go.Proofs.YtmneemhplffemaaGreatDoorRR.Name Go.Proofs.YtmneemhplffemaaGreatDoorRR.Ext Go.Proofs.YtmneemhplffemaaGreatDoorRR.Mem Go.Proofs.YtmneemhplffemaaGreatDoorRR.Law Go.Proofs.YtmneemhplffemaaGreatDoorRR.Row Go.Proofs.YtmneemhplffemaaGreatDoorRR.Ki Go.Proofs.YtmneemhplffemaaGreatDoorRR.Chk Go.Proofs.YtmneemhplffemaaGreatDoorRR.May Go.Proofs.YtmneemhplffemaaGreatDoorRRW.PrintWords


theorem add_wrap (a b : Nat) (h : a + b ≤ 9223372036854775807) : wrap64 ((a : Int) + b) = ((a + b : Nat) : Int) := by unfold wrap64; omega
attribute [local go_sem high] Eqs.eqView in
set_option maxRecDepth 100000 in
set_option maxHeartbeats 8000000 in
theorem m_blank (w0 W : World) (x : Note) (cs : List Value) (b : Bool) (h : mBlank x = b) (hk : k34.K w0 x cs) (hz : Sane x) :
   Calls Tryz.prog 44 #[.agg cs.toArray] W fun e W' => e = .returned (.bool b) ∧ Below W.heap.size W W' := by
 subst h
 obtain ⟨A11, c11, A12, c12, A16, c16, A17, c17, A18, c18, A19, c19, hcs, l11, g11, l12, g12, l16, g16, l17, g17, l18, g18, l19, g19⟩ := k34_open hk
 have HCS := Aside0.mk hcs
 clear hk hcs g11 l11 g12 l12 g16 l16 g17 l17 g18 l18 g19 l19
 have z9 := hz.s9
 have z10 := hz.s10
 have z11 := hz.s11
 have z12 := hz.s12
 have z13 := hz.s13
 have z14 := hz.s14
 obtain ⟨s1, e1⟩ : ∃ s, s = x.f9.length + x.f10.length := ⟨_, rfl⟩
 have b1 : x.f9.length + x.f10.length ≤ 9223372036854775807 := by omega
 obtain ⟨s2, e2⟩ : ∃ s, s = s1 + x.f11.f3.length := ⟨_, rfl⟩
 have b2 : s1 + x.f11.f3.length ≤ 9223372036854775807 := by omega
 obtain ⟨s3, e3⟩ : ∃ s, s = s2 + x.f12.length := ⟨_, rfl⟩
 have b3 : s2 + x.f12.length ≤ 9223372036854775807 := by omega
 obtain ⟨s4, e4⟩ : ∃ s, s = s3 + x.f13.length := ⟨_, rfl⟩
 have b4 : s3 + x.f13.length ≤ 9223372036854775807 := by omega
 obtain ⟨s5, e5⟩ : ∃ s, s = s4 + x.f14.length := ⟨_, rfl⟩
 have b5 : s4 + x.f14.length ≤ 9223372036854775807 := by omega
 have hn : s5 = x.f9.length + x.f10.length + x.f11.f3.length + x.f12.length + x.f13.length + x.f14.length := by omega
 have HN := Aside0.mk hn
 have hw1 : wrap64 (((x.f9.length : Nat) : Int) + x.f10.length) = ((s1 : Nat) : Int) := by rw [e1]; exact add_wrap _ _ b1
 have hw2 : wrap64 (((s1 : Nat) : Int) + x.f11.f3.length) = ((s2 : Nat) : Int) := by rw [e2]; exact add_wrap _ _ b2
 have hw3 : wrap64 (((s2 : Nat) : Int) + x.f12.length) = ((s3 : Nat) : Int) := by rw [e3]; exact add_wrap _ _ b3
 have hw4 : wrap64 (((s3 : Nat) : Int) + x.f13.length) = ((s4 : Nat) : Int) := by rw [e4]; exact add_wrap _ _ b4
 have hw5 : wrap64 (((s4 : Nat) : Int) + x.f14.length) = ((s5 : Nat) : Int) := by rw [e5]; exact add_wrap _ _ b5
 clear hn e1 e2 e3 e4 e5 b1 b2 b3 b4 b5 z9 z10 z11 z12 z13 z14 hz
 go_enter Tryz.func44, Tryz.ntmps44
 go_upto_region 1 with ((with_reducible refine gate_box (t := 34) rfl ?_); refine box_row rfl rfl rfl ?_; intro gb hgb w1 hbx hb1; have HBX := Aside0.mk hbx; have HB1 := Aside0.mk hb1; have HGB := Aside0.mk hgb; clear hbx hb1 hgb)
 have n_1 : w1.cell? ⟨gb, 1, none⟩ = some (.int .i64 x.f1.f0) := (blk_cell HBX.out 1).trans (by rw [HCS.out]; rfl)
 have n_2 : w1.cell? ⟨gb, 2, none⟩ = some (.int .i64 x.f1.f1) := (blk_cell HBX.out 2).trans (by rw [HCS.out]; rfl)
 have n_3 : w1.cell? ⟨gb, 3, none⟩ = some (.int .i64 x.f1.f2) := (blk_cell HBX.out 3).trans (by rw [HCS.out]; rfl)
 have n_4 : w1.cell? ⟨gb, 4, none⟩ = some (.int .i64 x.f2) := (blk_cell HBX.out 4).trans (by rw [HCS.out]; rfl)
 have n_5 : w1.cell? ⟨gb, 5, none⟩ = some (.int .i64 x.f3) := (blk_cell HBX.out 5).trans (by rw [HCS.out]; rfl)
 have n_6 : w1.cell? ⟨gb, 6, none⟩ = some (.int .i64 x.f4) := (blk_cell HBX.out 6).trans (by rw [HCS.out]; rfl)
 have n_7 : w1.cell? ⟨gb, 7, none⟩ = some (.int .i64 x.f5) := (blk_cell HBX.out 7).trans (by rw [HCS.out]; rfl)
 have n_8 : w1.cell? ⟨gb, 8, none⟩ = some (.int .i64 x.f6) := (blk_cell HBX.out 8).trans (by rw [HCS.out]; rfl)
 have n_9 : w1.cell? ⟨gb, 9, none⟩ = some (.int .i64 x.f7) := (blk_cell HBX.out 9).trans (by rw [HCS.out]; rfl)
 have n_10 : w1.cell? ⟨gb, 10, none⟩ = some (.int .i64 x.f8) := (blk_cell HBX.out 10).trans (by rw [HCS.out]; rfl)
 have n_11 : w1.cell? ⟨gb, 11, none⟩ = some (.slice A11 x.f9.length c11) := (blk_cell HBX.out 11).trans (by rw [HCS.out]; rfl)
 have n_12 : w1.cell? ⟨gb, 12, none⟩ = some (.slice A12 x.f10.length c12) := (blk_cell HBX.out 12).trans (by rw [HCS.out]; rfl)
 have n_13 : w1.cell? ⟨gb, 13, none⟩ = some (.int .i64 x.f11.f0) := (blk_cell HBX.out 13).trans (by rw [HCS.out]; rfl)
 have n_14 : w1.cell? ⟨gb, 14, none⟩ = some (.int .i64 x.f11.f1) := (blk_cell HBX.out 14).trans (by rw [HCS.out]; rfl)
 have n_15 : w1.cell? ⟨gb, 15, none⟩ = some (.int .i64 x.f11.f2) := (blk_cell HBX.out 15).trans (by rw [HCS.out]; rfl)
 have n_16 : w1.cell? ⟨gb, 16, none⟩ = some (.slice A16 x.f11.f3.length c16) := (blk_cell HBX.out 16).trans (by rw [HCS.out]; rfl)
 have n_17 : w1.cell? ⟨gb, 17, none⟩ = some (.slice A17 x.f12.length c17) := (blk_cell HBX.out 17).trans (by rw [HCS.out]; rfl)
 have n_18 : w1.cell? ⟨gb, 18, none⟩ = some (.slice A18 x.f13.length c18) := (blk_cell HBX.out 18).trans (by rw [HCS.out]; rfl)
 have n_19 : w1.cell? ⟨gb, 19, none⟩ = some (.slice A19 x.f14.length c19) := (blk_cell HBX.out 19).trans (by rw [HCS.out]; rfl)
 have n_20 : w1.cell? ⟨gb, 20, none⟩ = some (.string x.f15) := (blk_cell HBX.out 20).trans (by rw [HCS.out]; rfl)
 cases h1 : (x.f1.f0 == 0) with
 | true =>
   have h1_0 : ((x.f1.f0 != 0)) = false := (by rw [bne, h1]; rfl)
   cases h2 : (x.f1.f1 == 0) with
   | true =>
     have h2_0 : ((x.f1.f1 != 0)) = false := (by rw [bne, h2]; rfl)
     cases h3 : (x.f1.f2 == 0) with
     | true =>
       have h3_0 : ((x.f1.f2 != 0)) = false := (by rw [bne, h3]; rfl)
       cases h4 : (x.f2 == 0) with
       | true =>
         have h4_0 : ((x.f2 != 0)) = false := (by rw [bne, h4]; rfl)
         cases h5 : (x.f3 == 0) with
         | true =>
           have h5_0 : ((x.f3 != 0)) = false := (by rw [bne, h5]; rfl)
           cases h6 : (x.f4 == 0) with
           | true =>
             have h6_0 : ((x.f4 != 0)) = false := (by rw [bne, h6]; rfl)
             cases h7 : (x.f5 == 0) with
             | true =>
               have h7_0 : ((x.f5 != 0)) = false := (by rw [bne, h7]; rfl)
               cases h8 : (x.f6 == 0) with
               | true =>
                 have h8_0 : ((x.f6 != 0)) = false := (by rw [bne, h8]; rfl)
                 cases h9 : (x.f7 == 0) with
                 | true =>
                   have h9_0 : ((x.f7 != 0)) = false := (by rw [bne, h9]; rfl)
                   cases h10 : (x.f8 == 0) with
                   | true =>
                     have h10_0 : ((x.f8 != 0)) = false := (by rw [bne, h10]; rfl)
                     cases h11 : x.f15.toList.isEmpty with
                     | true =>
                       cases h12 : (x.f11.f0 == 0) with
                       | true =>
                         have h12_0 : ((x.f11.f0 != 0)) = false := (by rw [bne, h12]; rfl)
                         cases h13 : (x.f11.f1 == 0) with
                         | true =>
                           have h13_0 : ((x.f11.f1 != 0)) = false := (by rw [bne, h13]; rfl)
                           cases h14 : (x.f11.f2 == 0) with
                           | true =>
                             have h14_0 : ((x.f11.f2 != 0)) = false := (by rw [bne, h14]; rfl)
                             cases h15 : (s5 == 0) with
                             | true =>
                               have h15_0 : (((s5 : Int) == 0)) = true := (by have hq_ := h15; simp only [beq_eq_false_iff_ne, beq_iff_eq, ne_eq] at hq_ ⊢; omega)
                               have h15_1 : (((s5 : Int) != 0)) = false := (by have hq_ := h15; simp only [beq_eq_false_iff_ne, beq_iff_eq, bne_iff_ne, bne_eq_false_iff_eq, ne_eq] at hq_ ⊢; omega)
                               go_wp2_with fail
                               go_ret
                               exact ⟨by simp only [mBlank, ← HN.out, h1, h2, h3, h4, h5, h6, h7, h8, h9, h10, h11, h12, h13, h14, h15, Bool.not_true, Bool.not_false, Bool.true_and, Bool.false_and, Bool.and_true, Bool.and_false, Bool.true_or, Bool.false_or, Bool.or_true, Bool.or_false, Bool.false_eq_true, if_true, if_false]; rfl, HB1.out⟩
                             | false =>
                               have h15_0 : (((s5 : Int) == 0)) = false := (by have hq_ := h15; simp only [beq_eq_false_iff_ne, beq_iff_eq, ne_eq] at hq_ ⊢; omega)
                               have h15_1 : (((s5 : Int) != 0)) = true := (by have hq_ := h15; simp only [beq_eq_false_iff_ne, beq_iff_eq, bne_iff_ne, bne_eq_false_iff_eq, ne_eq] at hq_ ⊢; omega)
                               go_wp2_with fail
                               go_ret
                               exact ⟨by simp only [mBlank, ← HN.out, h1, h2, h3, h4, h5, h6, h7, h8, h9, h10, h11, h12, h13, h14, h15, Bool.not_true, Bool.not_false, Bool.true_and, Bool.false_and, Bool.and_true, Bool.and_false, Bool.true_or, Bool.false_or, Bool.or_true, Bool.or_false, Bool.false_eq_true, if_true, if_false]; rfl, HB1.out⟩
                           | false =>
                             have h14_0 : ((x.f11.f2 != 0)) = true := (by rw [bne, h14]; rfl)
                             go_wp2_with fail
                             go_ret
                             exact ⟨by simp only [mBlank, ← HN.out, h1, h2, h3, h4, h5, h6, h7, h8, h9, h10, h11, h12, h13, h14, Bool.not_true, Bool.not_false, Bool.true_and, Bool.false_and, Bool.and_true, Bool.and_false, Bool.true_or, Bool.false_or, Bool.or_true, Bool.or_false, Bool.false_eq_true, if_true, if_false]; rfl, HB1.out⟩
                         | false =>
                           have h13_0 : ((x.f11.f1 != 0)) = true := (by rw [bne, h13]; rfl)
                           go_wp2_with fail
                           go_ret
                           exact ⟨by simp only [mBlank, ← HN.out, h1, h2, h3, h4, h5, h6, h7, h8, h9, h10, h11, h12, h13, Bool.not_true, Bool.not_false, Bool.true_and, Bool.false_and, Bool.and_true, Bool.and_false, Bool.true_or, Bool.false_or, Bool.or_true, Bool.or_false, Bool.false_eq_true, if_true, if_false]; rfl, HB1.out⟩
                       | false =>
                         have h12_0 : ((x.f11.f0 != 0)) = true := (by rw [bne, h12]; rfl)
                         go_wp2_with fail
                         go_ret
                         exact ⟨by simp only [mBlank, ← HN.out, h1, h2, h3, h4, h5, h6, h7, h8, h9, h10, h11, h12, Bool.not_true, Bool.not_false, Bool.true_and, Bool.false_and, Bool.and_true, Bool.and_false, Bool.true_or, Bool.false_or, Bool.or_true, Bool.or_false, Bool.false_eq_true, if_true, if_false]; rfl, HB1.out⟩
                     | false =>
                       go_wp2_with fail
                       go_ret
                       exact ⟨by simp only [mBlank, ← HN.out, h1, h2, h3, h4, h5, h6, h7, h8, h9, h10, h11, Bool.not_true, Bool.not_false, Bool.true_and, Bool.false_and, Bool.and_true, Bool.and_false, Bool.true_or, Bool.false_or, Bool.or_true, Bool.or_false, Bool.false_eq_true, if_true, if_false]; rfl, HB1.out⟩
                   | false =>
                     have h10_0 : ((x.f8 != 0)) = true := (by rw [bne, h10]; rfl)
                     go_wp2_with fail
                     go_ret
                     exact ⟨by simp only [mBlank, ← HN.out, h1, h2, h3, h4, h5, h6, h7, h8, h9, h10, Bool.not_true, Bool.not_false, Bool.true_and, Bool.false_and, Bool.and_true, Bool.and_false, Bool.true_or, Bool.false_or, Bool.or_true, Bool.or_false, Bool.false_eq_true, if_true, if_false]; rfl, HB1.out⟩
                 | false =>
                   have h9_0 : ((x.f7 != 0)) = true := (by rw [bne, h9]; rfl)
                   go_wp2_with fail
                   go_ret
                   exact ⟨by simp only [mBlank, ← HN.out, h1, h2, h3, h4, h5, h6, h7, h8, h9, Bool.not_true, Bool.not_false, Bool.true_and, Bool.false_and, Bool.and_true, Bool.and_false, Bool.true_or, Bool.false_or, Bool.or_true, Bool.or_false, Bool.false_eq_true, if_true, if_false]; rfl, HB1.out⟩
               | false =>
                 have h8_0 : ((x.f6 != 0)) = true := (by rw [bne, h8]; rfl)
                 go_wp2_with fail
                 go_ret
                 exact ⟨by simp only [mBlank, ← HN.out, h1, h2, h3, h4, h5, h6, h7, h8, Bool.not_true, Bool.not_false, Bool.true_and, Bool.false_and, Bool.and_true, Bool.and_false, Bool.true_or, Bool.false_or, Bool.or_true, Bool.or_false, Bool.false_eq_true, if_true, if_false]; rfl, HB1.out⟩
             | false =>
               have h7_0 : ((x.f5 != 0)) = true := (by rw [bne, h7]; rfl)
               go_wp2_with fail
               go_ret
               exact ⟨by simp only [mBlank, ← HN.out, h1, h2, h3, h4, h5, h6, h7, Bool.not_true, Bool.not_false, Bool.true_and, Bool.false_and, Bool.and_true, Bool.and_false, Bool.true_or, Bool.false_or, Bool.or_true, Bool.or_false, Bool.false_eq_true, if_true, if_false]; rfl, HB1.out⟩
           | false =>
             have h6_0 : ((x.f4 != 0)) = true := (by rw [bne, h6]; rfl)
             go_wp2_with fail
             go_ret
             exact ⟨by simp only [mBlank, ← HN.out, h1, h2, h3, h4, h5, h6, Bool.not_true, Bool.not_false, Bool.true_and, Bool.false_and, Bool.and_true, Bool.and_false, Bool.true_or, Bool.false_or, Bool.or_true, Bool.or_false, Bool.false_eq_true, if_true, if_false]; rfl, HB1.out⟩
         | false =>
           have h5_0 : ((x.f3 != 0)) = true := (by rw [bne, h5]; rfl)
           go_wp2_with fail
           go_ret
           exact ⟨by simp only [mBlank, ← HN.out, h1, h2, h3, h4, h5, Bool.not_true, Bool.not_false, Bool.true_and, Bool.false_and, Bool.and_true, Bool.and_false, Bool.true_or, Bool.false_or, Bool.or_true, Bool.or_false, Bool.false_eq_true, if_true, if_false]; rfl, HB1.out⟩
       | false =>
         have h4_0 : ((x.f2 != 0)) = true := (by rw [bne, h4]; rfl)
         go_wp2_with fail
         go_ret
         exact ⟨by simp only [mBlank, ← HN.out, h1, h2, h3, h4, Bool.not_true, Bool.not_false, Bool.true_and, Bool.false_and, Bool.and_true, Bool.and_false, Bool.true_or, Bool.false_or, Bool.or_true, Bool.or_false, Bool.false_eq_true, if_true, if_false]; rfl, HB1.out⟩
     | false =>
       have h3_0 : ((x.f1.f2 != 0)) = true := (by rw [bne, h3]; rfl)
       go_wp2_with fail
       go_ret
       exact ⟨by simp only [mBlank, ← HN.out, h1, h2, h3, Bool.not_true, Bool.not_false, Bool.true_and, Bool.false_and, Bool.and_true, Bool.and_false, Bool.true_or, Bool.false_or, Bool.or_true, Bool.or_false, Bool.false_eq_true, if_true, if_false]; rfl, HB1.out⟩
   | false =>
     have h2_0 : ((x.f1.f1 != 0)) = true := (by rw [bne, h2]; rfl)
     go_wp2_with fail
     go_ret
     exact ⟨by simp only [mBlank, ← HN.out, h1, h2, Bool.not_true, Bool.not_false, Bool.true_and, Bool.false_and, Bool.and_true, Bool.and_false, Bool.true_or, Bool.false_or, Bool.or_true, Bool.or_false, Bool.false_eq_true, if_true, if_false]; rfl, HB1.out⟩
 | false =>
   have h1_0 : ((x.f1.f0 != 0)) = true := (by rw [bne, h1]; rfl)
   go_wp2_with fail
   go_ret
   exact ⟨by simp only [mBlank, ← HN.out, h1, Bool.not_true, Bool.not_false, Bool.true_and, Bool.false_and, Bool.and_true, Bool.and_false, Bool.true_or, Bool.false_or, Bool.or_true, Bool.or_false, Bool.false_eq_true, if_true, if_false]; rfl, HB1.out⟩
end Go.Proofs.YtmneemhplffemaaGreatDoorRR.Tab
namespace Go.Proofs.YtmneemhplffemaaGreatDoorRR.Law
open Go.RowKit Go.Proofs.YtmneemhplffemaaGreatDoorRR.Ord Go.Proofs.YtmneemhplffemaaGreatDoorRR.Name Go.Proofs.YtmneemhplffemaaGreatDoorRR.Ext Go.Proofs.YtmneemhplffemaaGreatDoorRR.Wire Go.Proofs.YtmneemhplffemaaGreatDoorRR.Mem Go.Proofs.YtmneemhplffemaaGreatDoorRR.Put Go.Proofs.YtmneemhplffemaaGreatDoorRR.Get Go.Proofs.YtmneemhplffemaaGreatDoorRR.Ki Go.Proofs.YtmneemhplffemaaGreatDoorRR.Chk Go.Proofs.YtmneemhplffemaaGreatDoorRR.May Go.Proofs.YtmneemhplffemaaGreatDoorRRW.PrintWords


def OkL : Ltr → Note → Prop
 | .ln, x => isN x.f1.f0
 | .ls, x => isN x.f2
 | .lc, x => isN x.f3
 | .lr, x => isN x.f4
 | .lt, x => isN x.f5
 | .lf, x => isN x.f6
 | .lm, x => isN x.f7
 | .uW, x => x.f12.length ≤ 16 ∧ ∀ y ∈ x.f12, WatchOk y
 | .lw, x => x.f12.length ≤ 16 ∧ ∀ y ∈ x.f12, WatchOk y
 | .ld, x => x.f12.length ≤ 16 ∧ ∀ y ∈ x.f12, WatchOk y
 | .uD, x => x.f12.length ≤ 16 ∧ ∀ y ∈ x.f12, WatchOk y
 | .le, x => isN x.f8
 | .lv, x => isN x.f1.f0 ∧ isN x.f1.f1 ∧ isN x.f1.f2
 | .ly, x => ReplyOk x.f11
 | .la, x => x.f15.size ≤ 262144
 | .lo, x => x.f9.length ≤ 16 ∧ ∀ y ∈ x.f9, OpOk y
 | .uE, x => x.f10.length ≤ 16 ∧ ∀ y ∈ x.f10, EntryOk y
 | .uI, x => x.f14.length ≤ 16 ∧ ∀ y ∈ x.f14, ItemOne y
 | .uP, x => x.f13.length ≤ 16 ∧ ∀ y ∈ x.f13, PartOk y
end Go.Proofs.YtmneemhplffemaaGreatDoorRR.Law
namespace Go.Proofs.YtmneemhplffemaaGreatDoorRR.Law
open Go.RowKit Go.Proofs.YtmneemhplffemaaGreatDoorRR.Ord Go.Proofs.YtmneemhplffemaaGreatDoorRR.Name Go.Proofs.YtmneemhplffemaaGreatDoorRR.Pl Go.Proofs.YtmneemhplffemaaGreatDoorRR.Ext Go.Proofs.YtmneemhplffemaaGreatDoorRR.Wire Go.Proofs.YtmneemhplffemaaGreatDoorRR.Mem Go.Proofs.YtmneemhplffemaaGreatDoorRR.Put Go.Proofs.YtmneemhplffemaaGreatDoorRR.Get Go.Proofs.YtmneemhplffemaaGreatDoorRR.Ki Go.Proofs.YtmneemhplffemaaGreatDoorRR.Chk Go.Proofs.YtmneemhplffemaaGreatDoorRR.May Go.Proofs.YtmneemhplffemaaGreatDoorRRW.PrintWords
theorem isN_ok {v : Int} (h : okNum v = true) : isN v := by
 unfold okNum at h
 simp only [Bool.and_eq_true, decide_eq_true_eq] at h
 exact h
theorem is_size {s : ByteArray} (h : rIs s = true) : s.size ≤ 102 := by
 rw [← tx_length]
 unfold rIs at h
 rcases Nat.lt_or_ge 102 (tx s).length with h1 | h1
 · rw [parseL_long h1] at h
   simp at h
 · exact h1
theorem kid_size {s : ByteArray} (h : mKid s = true) : s.size ≤ 16 := by
 rw [← tx_length]
 unfold mKid okN at h
 simp only [Bool.and_eq_true, decide_eq_true_eq] at h
 exact h.1.1.1.2
theorem empty_size {s : ByteArray} (h : s.toList.isEmpty = true) : s.size = 0 := by
 rw [← tx_length]
 rw [ByteArray.toList_eq] at h
 show s.data.toList.length = 0
 cases hh : s.data.toList with
 | nil => rfl
 | cons c l => rw [hh] at h; simp at h
theorem kind_num {v : Int} (h : mKind v = true) : isN v := by
 unfold mKind at h
 simp only [Bool.and_eq_true, decide_eq_true_eq] at h
 exact ⟨by omega, by omega⟩
theorem all_ok {α : Type} {m : α → Bool} {ok : α → Prop} (hm : ∀ x, m x = true → ok x) {l : List α} (h : l.all m = true) : ∀ y ∈ l, ok y := fun y hy => hm y (List.all_eq_true.1 h y hy)
theorem op_ok {x : S78} (h : mOp x = true) : OpOk x := by
 unfold mOp at h
 simp only [Bool.and_eq_true, Bool.or_eq_true, decide_eq_true_eq, beq_iff_eq] at h
 obtain ⟨⟨⟨⟨h0, h4⟩, h3⟩, h1⟩, h2⟩ := h
 exact ⟨isN_ok h0, by omega, by omega, h3.imp id isN_ok, isN_ok h4⟩
theorem ops_ok {l : List S78} (h : mOps l = true) : l.length ≤ 4 ∧ ∀ y ∈ l, OpOk y := by
 unfold mOps at h
 simp only [Bool.and_eq_true, decide_eq_true_eq] at h
 exact ⟨by omega, all_ok (fun _ => op_ok) h.2⟩
theorem entry_ok {x : S55} (h : mEntry x = true) : EntryOk x := by
 unfold mEntry at h
 simp only [Bool.and_eq_true, Bool.not_eq_true', decide_eq_false_iff_not] at h
 obtain ⟨⟨⟨⟨⟨⟨⟨⟨⟨h0, h1⟩, h3⟩, h4⟩, _⟩, _⟩, h2⟩, h2'⟩, h5⟩, _⟩ := h
 exact ⟨isN_ok h0, isN_ok h1, ⟨by omega, by omega⟩, isN_ok h3, isN_ok h4, (ops_ok h5).1, (ops_ok h5).2⟩
theorem result_ok {x : S81} (h : mResult x = true) : ResultOk x := by
 unfold mResult at h
 simp only [Bool.and_eq_true, Bool.or_eq_true, decide_eq_true_eq] at h
 obtain ⟨⟨⟨h0, h1⟩, ⟨⟨⟨h2, h3⟩, h4⟩, h5⟩⟩, h6, h7⟩ := h
 exact ⟨h0.elim (fun h => by have := empty_size h; omega) (fun h => by have := is_size h; omega), by omega, isN_ok h2, isN_ok h3, isN_ok h4, isN_ok h5, by omega, fun y hy => by have := kid_size (List.all_eq_true.1 h7 y hy); unfold TxtOk; omega⟩
theorem reply_ok {x : S29} (h : mReply x = true) : ReplyOk x := by
 unfold mReply at h
 simp only [Bool.and_eq_true, decide_eq_true_eq] at h
 obtain ⟨⟨⟨h0, h1⟩, h2⟩, h3, h4⟩ := h
 exact ⟨isN_ok h0, isN_ok h1, isN_ok h2, by omega, all_ok (fun _ => result_ok) h4⟩
theorem watch_ok {x : S96} (h : mWatch x = true) : WatchOk x := by
 unfold mWatch at h
 simp only [Bool.and_eq_true, decide_eq_true_eq] at h
 obtain ⟨⟨⟨⟨h0, h3⟩, _⟩, h1⟩, h2⟩ := h
 exact ⟨isN_ok h0, kind_num h2, isN_ok h3, by have := is_size h1; omega⟩
theorem bare_ok {x : S96} (h : mBare x = true) : WatchOk x := by
 unfold mBare at h
 simp only [Bool.and_eq_true, decide_eq_true_eq, beq_iff_eq] at h
 obtain ⟨⟨h0, _⟩, ⟨h1, h2⟩, h3⟩ := h
 exact ⟨isN_ok h0, by rw [h2]; exact ⟨by omega, by omega⟩, by rw [h3]; exact ⟨by omega, by omega⟩, by have := empty_size h1; omega⟩
theorem seen_ok {x : S88} (h : mSeen x = true) : SeenOk x := by
 unfold mSeen at h
 simp only [Bool.and_eq_true, decide_eq_true_eq] at h
 obtain ⟨⟨h0, h1⟩, h2⟩ := h
 exact ⟨isN_ok h2, by have := is_size h0; omega, by omega⟩
theorem shot_ok {i : Int} {x : S84} (hi : isN i) (h : mShot x = true) : PartOk ⟨i, x⟩ := by
 unfold mShot at h
 simp only [Bool.and_eq_true, decide_eq_true_eq] at h
 obtain ⟨⟨⟨h0, h1⟩, h2⟩, h3, h4⟩ := h
 exact ⟨hi, isN_ok h0, kind_num h2, by have := is_size h1; simp only; omega, by simp only; omega, all_ok (fun _ => seen_ok) h4⟩
theorem part_ok {x : S86} (h : mPart x = true) : PartOk x := by
 unfold mPart at h
 simp only [Bool.and_eq_true, decide_eq_true_eq] at h
 obtain ⟨⟨h0, _⟩, h1⟩ := h
 exact shot_ok (isN_ok h0) h1
theorem noShot_ok {i : Int} {x : S84} (hi : isN i) (h : mEmpty x = true) : PartOk ⟨i, x⟩ := by
 unfold mEmpty at h
 simp only [Bool.and_eq_true, beq_iff_eq] at h
 obtain ⟨⟨⟨h0, h1⟩, h2⟩, h3⟩ := h
 have h3' := List.eq_nil_of_length_eq_zero h3
 refine ⟨hi, ?_, ?_, ?_, ?_, ?_⟩
 · simp only; rw [h0]; exact ⟨by omega, by omega⟩
 · simp only; rw [h2]; exact ⟨by omega, by omega⟩
 · have := empty_size h1; simp only; omega
 · simp only; omega
 · simp only; rw [h3']; simp
theorem rise_ok {l : List Int} : ∀ {z : Int}, 0 ≤ z → mRise z l = true → ∀ y ∈ l, isN y := by
 induction l with
 | nil => intro z _ _ y hy; cases hy
 | cons c l ih =>
   intro z hz h y hy
   unfold mRise at h
   simp only [Bool.and_eq_true, Bool.not_eq_true', decide_eq_false_iff_not] at h
   obtain ⟨⟨h0, h1⟩, h2⟩ := h
   rcases List.mem_cons.1 hy with rfl | hy
   · exact ⟨by omega, by omega⟩
   · exact ih (by omega) h2 y hy
theorem tagged_ok {x : S148} (h : mTagged x = true) : TaggedOk x := by
 unfold mTagged at h
 simp only [Bool.and_eq_true, decide_eq_true_eq] at h
 obtain ⟨⟨⟨⟨⟨⟨h0, h1⟩, h2⟩, h3⟩, h4⟩, h5⟩, h6⟩ := h
 exact ⟨kind_num h0, isN_ok h3, by have := is_size h1; omega, by omega, by omega, rise_ok (Int.le_refl 0) h6⟩
theorem item_ok {x : S91} (h : mItem x = true) : ItemOne x := by
 unfold mItem at h
 simp only [Bool.and_eq_true] at h
 obtain ⟨⟨h0, h1⟩, h2⟩ := h
 cases hm : x.f2 with
 | true =>
   rw [hm] at h2
   simp only [if_true, Bool.and_eq_true, decide_eq_true_eq, beq_iff_eq] at h2
   obtain ⟨⟨h3, h4⟩, h5, h6⟩ := h2
   have h3' := List.eq_nil_of_length_eq_zero h3
   exact ⟨⟨isN_ok h0, isN_ok h1, by omega, by rw [h3']; simp, by omega, all_ok (fun _ => part_ok) h6⟩, fun _ => h3', fun h => (by rw [hm] at h; cases h)⟩
 | false =>
   rw [hm] at h2
   simp only [Bool.false_eq_true, if_false, Bool.and_eq_true, decide_eq_true_eq, beq_iff_eq] at h2
   obtain ⟨⟨h3, h4⟩, h5, h6⟩ := h2
   have h3' := List.eq_nil_of_length_eq_zero h3
   exact ⟨⟨isN_ok h0, isN_ok h1, by omega, all_ok (fun _ => tagged_ok) h6, by omega, by rw [h3']; simp⟩, fun h => (by rw [hm] at h; cases h), fun _ => h3'⟩
theorem one_of {α : Type} {l : List α} {p : α → Bool} (h : ((l.length == 1) && (l[0]?).elim false p) = true) : ∃ x, l = [x] ∧ p x = true := by
 match l, h with
 | [], h => simp at h
 | [x], h => exact ⟨x, rfl, by simpa using h⟩
 | _ :: _ :: _, h => simp at h
theorem ltr_ok {x : Note} (l : Ltr) (h : okF l x = true) (hP : l = .uP → mGranted x = true) : OkL l x := by
 cases l
 all_goals simp only [okF, Bool.and_eq_true, decide_eq_true_eq] at h
 all_goals simp only [OkL]
 case ln => exact isN_ok h.1
 case ls => exact isN_ok h.1
 case lc => exact isN_ok h.1
 case lr => exact isN_ok h.1
 case lt => exact isN_ok h.1
 case lf => exact isN_ok h.1
 case lm => exact isN_ok h.1
 case uW => exact ⟨by omega, all_ok (fun _ => watch_ok) h.2⟩
 case lw =>
  obtain ⟨y, he, hy⟩ := one_of (by simpa using h)
  rw [he]
  exact ⟨by simp, fun z hz => by rw [List.mem_singleton.1 hz]; exact watch_ok hy⟩
 case ld =>
  obtain ⟨y, he, hy⟩ := one_of (by simpa using h)
  rw [he]
  exact ⟨by simp, fun z hz => by rw [List.mem_singleton.1 hz]; exact bare_ok hy⟩
 case uD => exact ⟨by omega, all_ok (fun _ => bare_ok) h.1.2⟩
 case le => exact isN_ok h
 case lv => exact ⟨isN_ok h.1.1, isN_ok h.1.2, isN_ok h.2⟩
 case ly => exact reply_ok h
 case la => omega
 case lo => exact ⟨by have := (ops_ok h).1; omega, (ops_ok h).2⟩
 case uE => exact ⟨by omega, all_ok (fun _ => entry_ok) h.2⟩
 case uI =>
  unfold mItems at h
  simp only [Bool.and_eq_true, decide_eq_true_eq] at h
  exact ⟨by omega, all_ok (fun _ => item_ok) h.1.2.2⟩
 case uP =>
  have hg := hP rfl
  obtain ⟨y, he, hy⟩ := one_of (p := fun p : S86 => okNum p.f0 && decide (1 ≤ p.f0)) (by simpa using h)
  simp only [Bool.and_eq_true, decide_eq_true_eq] at hy
  unfold mGranted at hg
  rw [he] at hg ⊢
  simp only [List.getElem?_cons_zero, Option.elim] at hg
  refine ⟨by simp, fun z hz => ?_⟩
  obtain rfl := List.mem_singleton.1 hz
  split at hg
  · exact shot_ok (i := z.f0) (isN_ok hy.1) hg
  · exact noShot_ok (i := z.f0) (isN_ok hy.1) hg
theorem word_P {k : Nat} (hk : k < 25) (h : Ltr.uP ∈ word k) : k = 13 := by
 obtain rfl | rfl | rfl | rfl | rfl | rfl | rfl | rfl | rfl | rfl | rfl | rfl | rfl | rfl | rfl | rfl | rfl | rfl | rfl | rfl | rfl | rfl | rfl | rfl | rfl : k = 0 ∨ k = 1 ∨ k = 2 ∨ k = 3 ∨ k = 4 ∨ k = 5 ∨ k = 6 ∨ k = 7 ∨ k = 8 ∨ k = 9 ∨ k = 10 ∨ k = 11 ∨ k = 12 ∨ k = 13 ∨ k = 14 ∨ k = 15 ∨ k = 16 ∨ k = 17 ∨ k = 18 ∨ k = 19 ∨ k = 20 ∨ k = 21 ∨ k = 22 ∨ k = 23 ∨ k = 24 := by omega
 all_goals first | rfl | (simp [word, ltrList] at h)
structure Checked (x : Note) : Prop where
 lo : 1 ≤ x.f0
 hi : x.f0 < 25
 right : ∀ l ∈ word x.f0.toNat, okF l x = true
 blank : mBlank (clrFs (word x.f0.toNat) x) = true
 granted : x.f0 = 13 → mGranted x = true
theorem checked {x : Note} (h : mCheck x = true) : Checked x := by
 unfold mCheck at h
 simp only [Bool.and_eq_true, Bool.or_eq_true, Bool.not_eq_true', decide_eq_true_eq, beq_eq_false_iff_ne] at h
 obtain ⟨⟨⟨⟨h0, h1⟩, h2⟩, h3⟩, h4⟩ := h
 exact ⟨h0, h1, List.all_eq_true.1 h2, h3, fun h => h4.resolve_left (fun hn => hn h)⟩
theorem Checked.ok {x : Note} (h : Checked x) : ∀ l ∈ word x.f0.toNat, OkL l x := fun l hl => ltr_ok l (h.right l hl) (fun hP => h.granted (by
 subst hP
 have := word_P (k := x.f0.toNat) (by have := h.lo; have := h.hi; omega) hl
 have := h.lo
 omega))
end Go.Proofs.YtmneemhplffemaaGreatDoorRR.Law
namespace Go.Proofs.YtmneemhplffemaaGreatDoorRR.Tab
open Go.RowKit Go.Proofs.YtmneemhplffemaaGreatDoorRR.Ord Go.Proofs.YtmneemhplffemaaGreatDoorRR.Name Go.Proofs.YtmneemhplffemaaGreatDoorRR.Ext Go.Proofs.YtmneemhplffemaaGreatDoorRR.Mem Go.Proofs.YtmneemhplffemaaGreatDoorRR.Law Go.Proofs.YtmneemhplffemaaGreatDoorRR.Row Go.Proofs.YtmneemhplffemaaGreatDoorRR.Ki Go.Proofs.YtmneemhplffemaaGreatDoorRR.Chk Go.Proofs.YtmneemhplffemaaGreatDoorRR.May Go.Proofs.YtmneemhplffemaaGreatDoorRRW.PrintWords


theorem fCells_len (l : Ltr) : (fCells l).length = 6 := by cases l <;> rfl
theorem fCells_one (l : Ltr) : ∀ u ∈ fCells l, u.oneCell' = true := by cases l <;> (intro u hu; simp only [fCells, List.mem_cons, List.not_mem_nil, or_false] at hu; rcases hu with rfl | rfl | rfl | rfl | rfl | rfl <;> rfl)
theorem fCells_open (l : Ltr) : ∃ u0 u1 u2 u3 u4 u5, fCells l = [u0, u1, u2, u3, u4, u5] := by cases l <;> exact ⟨_, _, _, _, _, _, rfl⟩
def kField : Kd Ltr where
 sz := 6
 E := []
 K := fun _ l cs => cs = fCells l
 M := fun _ _ _ l cs => cs = fCells l
 K_len := fun h => by rw [h]; exact fCells_len _
 K_one := fun h u hu => fCells_one _ u (h ▸ hu)
 K_below := fun _ h => h
 K_of_M := fun h => h
 M_mono := fun _ h => h
 M_bound := fun h => h
 M_move := fun _ h => h
 M_lower := fun _ h => h
theorem infoF : (Tryz.prog.info? 109).map (fun i => (i.zero, i.size, i.bytes)) = some (some (.agg #[.int .i64 0, .nilFunc, .nilFunc, .nilFunc, .nilFunc, .nilFunc]), 6, 48) := by kernel_rfl
theorem infoShape : (Tryz.prog.info? 102).map (·.size) = some 2 := by kernel_rfl
theorem word_tab : ∀ k, k < 25 → (tx (hasTab k)).map (fun b => b.toNat) = (word k).map Ltr.code := by decide
theorem word_len : ∀ k, k < 25 → (word k).length ≤ 6 := by decide
theorem tab_size (k : Nat) (hk : k < 25) : (hasTab k).size = (word k).length := by
 have h := congrArg List.length (word_tab k hk)
 rw [List.length_map, List.length_map, tx_length] at h
 exact h
theorem tab_at (k i : Nat) (hk : k < 25) (hi : i < (hasTab k).size) (l : Ltr) (hl : (word k)[i]? = some l) : ((hasTab k)[i]'hi).toNat = l.code := by
 have h := congrArg (fun z => z[i]?) (word_tab k hk)
 simp only [List.getElem?_map, hl, Option.map_some] at h
 have hx : (tx (hasTab k))[i]? = some ((hasTab k)[i]'hi) := by unfold tx; rw [List.getElem?_eq_getElem (by simpa using hi)]; rfl
 rw [hx] at h
 simpa using h
set_option maxRecDepth 100000 in
set_option maxHeartbeats 4000000 in
theorem t_shape (k : Nat) (hk : k < 25) (W : World) (HN : EnvN W) :
  Calls Tryz.prog 41 #[.int .i64 k] W fun e W' => Below W.heap.size W W' ∧ ∃ v, e = .returned (.agg #[v, if k = 13 then .func (.func 90) #[] #[] else .nilFunc]) ∧ kField.R 109 W' W.heap.size (fun _ => True) v (word k) := by
 have hs := HN.has k hk
 obtain ⟨s, hse⟩ : ∃ s, s = hasTab k := ⟨_, rfl⟩
 rw [← hse] at hs
 have HS := Aside0.mk hse
 have hsz : s.size = (word k).length := by rw [hse]; exact tab_size k hk
 have hk' : (k : Int) < 25 := by omega
 have hs6 : s.size ≤ 6 := by rw [hsz]; exact word_len k hk
 have HB0 := Aside0.mk (below_alloc (below_alloc (Below.refl W.heap.size W) (Obj.cells #[.slice none 0 0, .nilFunc] 102 (0, 0))) (Obj.cells #[.slice none 0 0, .nilFunc] 102 (0, 0)))
 have hs2 := pw_cell_below HB0.out hs
 have HS0 := Aside0.mk (blk_alloc2 W (Obj.cells #[.slice none 0 0, .nilFunc] 102 (0, 0)) (Obj.cells #[.slice none 0 0, .nilFunc] 102 (0, 0)))
 have HR0 := Aside0.mk (blk_below (below_alloc (Below.refl _ _) (Obj.cells #[.slice none 0 0, .nilFunc] 102 (0, 0))) (blk_alloc (W := W) (Obj.cells #[.slice none 0 0, .nilFunc] 102 (0, 0))))
 clear HN hse
 go_enter Tryz.func41, Tryz.ntmps41
 go_wp2_with fail
 go_loopw [9] (fun vi wr => ∃ i : Nat, vi = .int .i64 i ∧ i ≤ s.size ∧ Aside0 (wr.heap[W.heap.size]? = some (Obj.cells #[.slice none 0 0, .nilFunc] 102 (0, 0))) ∧ ∃ v, Aside0 (wr.heap[W.heap.size + 1]? = some (Obj.cells #[v, .nilFunc] 102 (0, 0))) ∧ Aside0 (kField.R 109 wr W.heap.size (fun _ => True) v ((word k).take i)) ∧ Aside0 (Below W.heap.size W wr)) (fun vi _ => s.size - (intOf vi).toNat)
 case atStart => exact ⟨0, rfl, Nat.zero_le _, HR0, _, HS0, ⟨Kd.R_nil _ _ _ _ _⟩, HB0⟩
 case round =>
  clear hs2 HR0 HS0 HB0
  obtain ⟨i, rfl, hi, HR0, v, HS0, HO, HB⟩ := hrel
  have hs2 := pw_cell_below HB.out hs
  obtain ⟨wo, rfl⟩ : ∃ wo : World, wo = wr := ⟨_, rfl⟩
  have hc := blk_cell HS0.out 0
  have hf := blk_frozen HS0.out 0
  by_cases hlt : i < s.size
  · obtain ⟨l, hl⟩ : ∃ l, (word k)[i]? = some l := ⟨_, List.getElem?_eq_getElem (by omega)⟩
    have HLT := Aside0.mk hl
    have hcd : (s[i]'hlt).toNat = l.code := by
      have h := HS.out
      subst h
      exact tab_at k i hk hlt l hl
    obtain ⟨q0, q1, q2, q3, q4, q5, hq⟩ := fCells_open l
    have HQ := Aside0.mk hq
    clear hl hq
    go_wp2_with fail
    have HOd := Aside0.mk (Kd.R_drew HO.out)
    have HBd := Aside0.mk HB.out.drew
    have HSd := Aside0.mk (show wo.drew.heap[W.heap.size + 1]? = some (Obj.cells #[v, .nilFunc] 102 (0, 0)) from HS0.out)
    have HRd := Aside0.mk (show wo.drew.heap[W.heap.size]? = some (Obj.cells #[.slice none 0 0, .nilFunc] 102 (0, 0)) from HR0.out)
    have hlk : ((word k).take i).length ≤ 6 := Nat.le_trans (List.length_take_le' _ _) (word_len k hk)
    go_region_law (first | (refine Kd.R_append_step kField (w0 := W) W.heap.size (by rfl) (.tmp 13) (.tmp 20) 99 109 _ 48 rfl Tryz.underlying99 infoF rfl (by decide) (by omega) v _ l [q0, q1, q2, q3, q4, q5] (fun _ => True) (fun _ => False) rfl rfl HQ.out.symm (fun _ h => h.elim) (fun _ _ => trivial) HO1.out HB1.out (below_size HB1.out) (by omega) ?_; intro v2 w2 ho2 hb2 hg2 hat2; obtain ⟨A2, n2, c2, rfl⟩ : ∃ A n c, v2 = .slice A n c := (by obtain ⟨A, c, h⟩ := Kd.R_slice ho2; exact ⟨A, _, c, h⟩); have HO2 := Aside0.mk ho2; have HB2 := Aside0.mk hb2; have HS2 := Aside0.mk (blk_grown HS1.out hg2 (Kd.R_ne HO1.out HS1.out (by decide))); have HR2 := Aside0.mk (blk_grown HR1.out hg2 (Kd.R_ne HO1.out HR1.out (by decide))); have hc2 := blk_cell HS2.out 0; have hf2 := blk_frozen HS2.out 0; have HS4 := Aside0.mk (blk_set HS2.out 0 (.slice A2 n2 c2)); have HR3 := Aside0.mk (blk_far HR2.out (p := ⟨W.heap.size + 1, 0, none⟩) (by simp) (.slice A2 n2 c2)); have HO4 := Aside0.mk (Kd.R_set HO2.out HS2.out (by decide) 0 (.slice A2 n2 c2)); have HB4 := Aside0.mk (((Moved.of_below HB2.out (fun _ => False)).set_ (p := ⟨W.heap.size + 1, 0, none⟩) (.inr (Nat.le_succ _)) (.slice A2 n2 c2)).below (fun _ _ h => h)); clear ho2 hb2 hg2 hat2) | (go_simp; go_at_call 89; (with_reducible refine (t_field l _).mono ?_); rintro e w1 ⟨rfl, hb1⟩; rw [HQ.out]; have HO1 := Aside0.mk (Kd.R_below HOd.out hb1); have HB1 := Aside0.mk (below_step HBd.out hb1); have HS1 := Aside0.mk (blk_below hb1 HSd.out); have HR1 := Aside0.mk (blk_below hb1 HRd.out); have hc1 := blk_cell HS1.out 0; have hf1 := blk_frozen HS1.out 0; have hcq := blk_cell (blk_below (below_alloc (Below.refl _ _) (Obj.cells #[q0, q1, q2, q3, q4, q5] 109 (0, 0))) HS1.out) 0))
    all_goals
      go_wp2_with fail
      go_roundw
      case rel => exact ⟨i + 1, by go_num, by omega, HR3, .slice A2 n2 c2, ⟨by simpa using HS4.out⟩, ⟨by rw [List.take_add_one, HLT.out]; simpa using HO4.out⟩, HB4⟩
      case measure => simp [intOf]; omega
  · have htk : (word k).take i = word k := List.take_of_length_le (by omega)
    rw [htk] at HO
    clear htk
    obtain ⟨Av, cv, rfl⟩ := Kd.R_slice HO.out
    have hcs := blk_cell HS0.out
    have hfs := blk_frozen HS0.out
    have hcr := blk_cell HR0.out
    have hfr := blk_frozen HR0.out
    by_cases hk13 : k = 13
    · subst hk13
      have hx0 : (wo.setCell ⟨W.heap.size + 1, 1, none⟩ (.func (.func 90) #[] #[])).cell? ⟨W.heap.size + 1, 0, none⟩ = some (.slice Av (word 13).length cv) := blk_cell (blk_set HS0.out 1 (.func (.func 90) #[] #[])) 0
      have hx1 : (wo.setCell ⟨W.heap.size + 1, 1, none⟩ (.func (.func 90) #[] #[])).cell? ⟨W.heap.size + 1, 1, none⟩ = some (.func (.func 90) #[] #[]) := blk_cell (blk_set HS0.out 1 (.func (.func 90) #[] #[])) 1
      go_wp2_with fail
      have HRX := blk_far HR0.out (p := ⟨W.heap.size + 1, 1, none⟩) (by simp) (.func (.func 90) #[] #[])
      have HOX := Kd.R_set HO.out HS0.out (by decide) 1 (.func (.func 90) #[] #[])
      have HMX := (Moved.of_below HB.out (fun _ => False)).set_ (p := ⟨W.heap.size + 1, 1, none⟩) (.inr (Nat.le_succ _)) (.func (.func 90) #[] #[])
      have HRY := blk_set HRX 0 (.slice Av (word 13).length cv)
      have HOY := Kd.R_set HOX HRX (by decide) 0 (.slice Av (word 13).length cv)
      have HMY := HMX.set_ (p := ⟨W.heap.size, 0, none⟩) (.inr (Nat.le_refl _)) (.slice Av (word 13).length cv)
      have HRZ := blk_set HRY 1 (.func (.func 90) #[] #[])
      have HOZ := Kd.R_set HOY HRY (by decide) 1 (.func (.func 90) #[] #[])
      have HMZ := HMY.set_ (p := ⟨W.heap.size, 1, none⟩) (.inr (Nat.le_refl _)) (.func (.func 90) #[] #[])
      refine bodyPost_ret (results_c Tryz.results41 _ _ W.heap.size 102 #[.slice Av (word 13).length cv, .func (.func 90) #[] #[]] (0, 0) _ (by rfl) (by simpa using HRZ) Tryz.underlying102 rfl infoShape) rfl ?_
      exact ⟨HMZ.below (fun _ _ h => h), _, by first | rfl | simp, HOZ⟩
    · have hkb : ((k : Int) == 13) = false := by simp; omega
      go_wp2_with fail
      have HRX := HR0.out
      have HOX := HO.out
      have HMX := Moved.of_below HB.out (fun _ => False)
      have HRY := blk_set HRX 0 (.slice Av (word k).length cv)
      have HOY := Kd.R_set HOX HRX (by decide) 0 (.slice Av (word k).length cv)
      have HMY := HMX.set_ (p := ⟨W.heap.size, 0, none⟩) (.inr (Nat.le_refl _)) (.slice Av (word k).length cv)
      have HRZ := blk_set HRY 1 (.nilFunc)
      have HOZ := Kd.R_set HOY HRY (by decide) 1 (.nilFunc)
      have HMZ := HMY.set_ (p := ⟨W.heap.size, 1, none⟩) (.inr (Nat.le_refl _)) (.nilFunc)
      refine bodyPost_ret (results_c Tryz.results41 _ _ W.heap.size 102 #[.slice Av (word k).length cv, .nilFunc] (0, 0) _ (by rfl) (by simpa using HRZ) Tryz.underlying102 rfl infoShape) rfl ?_
      exact ⟨HMZ.below (fun _ _ h => h), _, by first | rfl | simp [hk13], HOZ⟩
end Go.Proofs.YtmneemhplffemaaGreatDoorRR.Tab
namespace Go.Proofs.YtmneemhplffemaaGreatDoorRR.Tab
open Go.RowKit Go.Proofs.YtmneemhplffemaaGreatDoorRR.Ord Go.Proofs.YtmneemhplffemaaGreatDoorRR.Name Go.Proofs.YtmneemhplffemaaGreatDoorRR.Ext Go.Proofs.YtmneemhplffemaaGreatDoorRR.Mem Go.Proofs.YtmneemhplffemaaGreatDoorRR.Law Go.Proofs.YtmneemhplffemaaGreatDoorRR.Row Go.Proofs.YtmneemhplffemaaGreatDoorRR.Ki Go.Proofs.YtmneemhplffemaaGreatDoorRR.Chk Go.Proofs.YtmneemhplffemaaGreatDoorRR.May Go.Proofs.YtmneemhplffemaaGreatDoorRRW.PrintWords


theorem nil_C {α : Type} (d : Kd α) (w : World) : d.C w none ([] : List α).length [] := ⟨rfl, Nat.zero_le _, fun h => absurd h (Nat.lt_irrefl 0)⟩
theorem c_right (l : Ltr) (w0 W : World) (g : Nat) (x : Note) (cs : List Value) (hk : k34.K w0 x cs) (hb : Below w0.heap.size w0 W) (hbx : W.heap[g]? = some (.cells cs.toArray 34 (0, 0))) (HE : Env w0) (hz : Sane x) (b : Bool) (h : okF l x = b) :
  Calls Tryz.prog 42 #[.agg (fCells l).toArray, .pointer (some ⟨g, 0, none⟩)] W fun e W' => e = .returned (.bool b) ∧ Below W.heap.size W W' := by
 cases l
 case ln =>
  have hc : W.cell? ⟨g, 1, none⟩ = some (.int .i64 x.f1.f0) := by
   obtain ⟨A11, c11, A12, c12, A16, c16, A17, c17, A18, c18, A19, c19, rfl, l11, g11, l12, g12, l16, g16, l17, g17, l18, g18, l19, g19⟩ := k34_open hk
   exact blk_cell hbx 1
  exact right_num _ 1 (fun _ _ => by kernel_rfl) n_ln 1 _ W g hc b h
 case ls =>
  have hc : W.cell? ⟨g, 4, none⟩ = some (.int .i64 x.f2) := by
   obtain ⟨A11, c11, A12, c12, A16, c16, A17, c17, A18, c18, A19, c19, rfl, l11, g11, l12, g12, l16, g16, l17, g17, l18, g18, l19, g19⟩ := k34_open hk
   exact blk_cell hbx 4
  exact right_num _ 4 (fun _ _ => by kernel_rfl) n_ls 1 _ W g hc b h
 case lc =>
  have hc : W.cell? ⟨g, 5, none⟩ = some (.int .i64 x.f3) := by
   obtain ⟨A11, c11, A12, c12, A16, c16, A17, c17, A18, c18, A19, c19, rfl, l11, g11, l12, g12, l16, g16, l17, g17, l18, g18, l19, g19⟩ := k34_open hk
   exact blk_cell hbx 5
  exact right_num _ 5 (fun _ _ => by kernel_rfl) n_lc 1 _ W g hc b h
 case lr =>
  have hc : W.cell? ⟨g, 6, none⟩ = some (.int .i64 x.f4) := by
   obtain ⟨A11, c11, A12, c12, A16, c16, A17, c17, A18, c18, A19, c19, rfl, l11, g11, l12, g12, l16, g16, l17, g17, l18, g18, l19, g19⟩ := k34_open hk
   exact blk_cell hbx 6
  exact right_num _ 6 (fun _ _ => by kernel_rfl) n_lr 1 _ W g hc b h
 case lt =>
  have hc : W.cell? ⟨g, 7, none⟩ = some (.int .i64 x.f5) := by
   obtain ⟨A11, c11, A12, c12, A16, c16, A17, c17, A18, c18, A19, c19, rfl, l11, g11, l12, g12, l16, g16, l17, g17, l18, g18, l19, g19⟩ := k34_open hk
   exact blk_cell hbx 7
  exact right_num _ 7 (fun _ _ => by kernel_rfl) n_lt 0 _ W g hc b h
 case lf =>
  have hc : W.cell? ⟨g, 8, none⟩ = some (.int .i64 x.f6) := by
   obtain ⟨A11, c11, A12, c12, A16, c16, A17, c17, A18, c18, A19, c19, rfl, l11, g11, l12, g12, l16, g16, l17, g17, l18, g18, l19, g19⟩ := k34_open hk
   exact blk_cell hbx 8
  exact right_num _ 8 (fun _ _ => by kernel_rfl) n_lf 0 _ W g hc b h
 case lm =>
  have hc : W.cell? ⟨g, 9, none⟩ = some (.int .i64 x.f7) := by
   obtain ⟨A11, c11, A12, c12, A16, c16, A17, c17, A18, c18, A19, c19, rfl, l11, g11, l12, g12, l16, g16, l17, g17, l18, g18, l19, g19⟩ := k34_open hk
   exact blk_cell hbx 9
  exact right_num _ 9 (fun _ _ => by kernel_rfl) n_lm 0 _ W g hc b h
 case uW => exact right_may _ (fun _ _ => by kernel_rfl) _ _ _ W g b (fun W1 h1 => mc_uW w0 W1 g x cs hk (below_step hb h1) (blk_below h1 hbx) HE hz b h)
 case lw => exact right_may _ (fun _ _ => by kernel_rfl) _ _ _ W g b (fun W1 h1 => mc_lw w0 W1 g x cs hk (below_step hb h1) (blk_below h1 hbx) HE hz b h)
 case ld => exact right_may _ (fun _ _ => by kernel_rfl) _ _ _ W g b (fun W1 h1 => mc_ld w0 W1 g x cs hk (below_step hb h1) (blk_below h1 hbx) HE hz b h)
 case uD => exact right_may _ (fun _ _ => by kernel_rfl) _ _ _ W g b (fun W1 h1 => mc_uD w0 W1 g x cs hk (below_step hb h1) (blk_below h1 hbx) HE hz b h)
 case le => exact right_may _ (fun _ _ => by kernel_rfl) _ _ _ W g b (fun W1 h1 => mc_le w0 W1 g x cs hk (below_step hb h1) (blk_below h1 hbx) HE hz b h)
 case lv => exact right_may _ (fun _ _ => by kernel_rfl) _ _ _ W g b (fun W1 h1 => mc_lv w0 W1 g x cs hk (below_step hb h1) (blk_below h1 hbx) HE hz b h)
 case ly => exact right_may _ (fun _ _ => by kernel_rfl) _ _ _ W g b (fun W1 h1 => mc_ly w0 W1 g x cs hk (below_step hb h1) (blk_below h1 hbx) HE hz b h)
 case la => exact right_may _ (fun _ _ => by kernel_rfl) _ _ _ W g b (fun W1 h1 => mc_la w0 W1 g x cs hk (below_step hb h1) (blk_below h1 hbx) HE hz b h)
 case lo => exact right_may _ (fun _ _ => by kernel_rfl) _ _ _ W g b (fun W1 h1 => mc_lo w0 W1 g x cs hk (below_step hb h1) (blk_below h1 hbx) HE hz b h)
 case uE => exact right_may _ (fun _ _ => by kernel_rfl) _ _ _ W g b (fun W1 h1 => mc_uE w0 W1 g x cs hk (below_step hb h1) (blk_below h1 hbx) HE hz b h)
 case uI => exact right_may _ (fun _ _ => by kernel_rfl) _ _ _ W g b (fun W1 h1 => mc_uI w0 W1 g x cs hk (below_step hb h1) (blk_below h1 hbx) HE hz b h)
 case uP => exact right_may _ (fun _ _ => by kernel_rfl) _ _ _ W g b (fun W1 h1 => mc_uP w0 W1 g x cs hk (below_step hb h1) (blk_below h1 hbx) HE hz b h)
def Turned (w0 W W' : World) (g : Nat) (y : Note) : Prop := Moved W W' (fun k => k = g) ∧ ∃ cs : List Value, k34.K w0 y cs ∧ W'.heap[g]? = some (.cells cs.toArray 34 (0, 0))
set_option maxRecDepth 100000 in
set_option maxHeartbeats 1000000 in
theorem wc_uW (w0 W : World) (g : Nat) (x : Note) (cs : List Value) (hk : k34.K w0 x cs) (hbx : W.heap[g]? = some (.cells cs.toArray 34 (0, 0))) :
  Calls Tryz.prog 172 #[.pointer (some ⟨g, 0, none⟩)] W fun e W' => e = .returned (.tuple #[]) ∧ Turned w0 W W' g (clrF .uW x) := by
 obtain ⟨A11, c11, A12, c12, A16, c16, A17, c17, A18, c18, A19, c19, rfl, l11, g11, l12, g12, l16, g16, l17, g17, l18, g18, l19, g19⟩ := k34_open hk
 have hc := blk_cell hbx
 have hf := blk_frozen hbx
 have n_17 : W.cell? ⟨g, 17, none⟩ = some (.slice A17 x.f12.length c17) := hc 17
 have HX := Aside0.mk (blk_set (hbx) 17 (.slice none 0 0))
 have HM := Aside0.mk ((Moved.refl W (fun k => k = g)).set_ (p := ⟨g, 17, none⟩) (.inl rfl) (.slice none 0 0))
 have HKK := Aside0.mk (k34_mk w0 (clrF .uW x) l11 g11 l12 g12 l16 g16 (Nat.le_refl 0) (nil_C _ _) l18 g18 l19 g19)
 clear hk hbx hc g11 l11 g12 l12 g16 l16 g17 l17 g18 l18 g19 l19
 go_enter Tryz.func172, Tryz.ntmps172
 go_wp2_with fail
 first | go_end0 | refine bodyPost_ret (results_none rfl _ _ _) rfl ?_
 exact ⟨rfl, HM.out, _, HKK.out, by simpa [clrF] using HX.out⟩
set_option maxRecDepth 100000 in
set_option maxHeartbeats 1000000 in
theorem wc_le (w0 W : World) (g : Nat) (x : Note) (cs : List Value) (hk : k34.K w0 x cs) (hbx : W.heap[g]? = some (.cells cs.toArray 34 (0, 0))) :
  Calls Tryz.prog 237 #[.pointer (some ⟨g, 0, none⟩)] W fun e W' => e = .returned (.tuple #[]) ∧ Turned w0 W W' g (clrF .le x) := by
 obtain ⟨A11, c11, A12, c12, A16, c16, A17, c17, A18, c18, A19, c19, rfl, l11, g11, l12, g12, l16, g16, l17, g17, l18, g18, l19, g19⟩ := k34_open hk
 have hc := blk_cell hbx
 have hf := blk_frozen hbx
 have n_10 : W.cell? ⟨g, 10, none⟩ = some (.int .i64 x.f8) := hc 10
 have HX := Aside0.mk (blk_set (hbx) 10 (.int .i64 0))
 have HM := Aside0.mk ((Moved.refl W (fun k => k = g)).set_ (p := ⟨g, 10, none⟩) (.inl rfl) (.int .i64 0))
 have HKK := Aside0.mk (k34_mk w0 (clrF .le x) l11 g11 l12 g12 l16 g16 l17 g17 l18 g18 l19 g19)
 clear hk hbx hc g11 l11 g12 l12 g16 l16 g17 l17 g18 l18 g19 l19
 go_enter Tryz.func237, Tryz.ntmps237
 go_wp2_with fail
 first | go_end0 | refine bodyPost_ret (results_none rfl _ _ _) rfl ?_
 exact ⟨rfl, HM.out, _, HKK.out, by simpa [clrF] using HX.out⟩
set_option maxRecDepth 100000 in
set_option maxHeartbeats 1000000 in
theorem wc_lv (w0 W : World) (g : Nat) (x : Note) (cs : List Value) (hk : k34.K w0 x cs) (hbx : W.heap[g]? = some (.cells cs.toArray 34 (0, 0))) :
  Calls Tryz.prog 241 #[.pointer (some ⟨g, 0, none⟩)] W fun e W' => e = .returned (.tuple #[]) ∧ Turned w0 W W' g (clrF .lv x) := by
 obtain ⟨A11, c11, A12, c12, A16, c16, A17, c17, A18, c18, A19, c19, rfl, l11, g11, l12, g12, l16, g16, l17, g17, l18, g18, l19, g19⟩ := k34_open hk
 have hc := blk_cell hbx
 have hf := blk_frozen hbx
 have n_1 : W.cell? ⟨g, 1, none⟩ = some (.int .i64 x.f1.f0) := hc 1
 have n_2 : W.cell? ⟨g, 2, none⟩ = some (.int .i64 x.f1.f1) := hc 2
 have n_3 : W.cell? ⟨g, 3, none⟩ = some (.int .i64 x.f1.f2) := hc 3
 have HX := Aside0.mk (blk_set (blk_set (blk_set (hbx) 1 (.int .i64 0)) 2 (.int .i64 0)) 3 (.int .i64 0))
 have HM := Aside0.mk ((((Moved.refl W (fun k => k = g)).set_ (p := ⟨g, 1, none⟩) (.inl rfl) (.int .i64 0)).set_ (p := ⟨g, 2, none⟩) (.inl rfl) (.int .i64 0)).set_ (p := ⟨g, 3, none⟩) (.inl rfl) (.int .i64 0))
 have HKK := Aside0.mk (k34_mk w0 (clrF .lv x) l11 g11 l12 g12 l16 g16 l17 g17 l18 g18 l19 g19)
 clear hk hbx hc g11 l11 g12 l12 g16 l16 g17 l17 g18 l18 g19 l19
 go_enter Tryz.func241, Tryz.ntmps241
 go_wp2_with fail
 first | go_end0 | refine bodyPost_ret (results_none rfl _ _ _) rfl ?_
 exact ⟨rfl, HM.out, _, HKK.out, by simpa [clrF] using HX.out⟩
set_option maxRecDepth 100000 in
set_option maxHeartbeats 1000000 in
theorem wc_ly (w0 W : World) (g : Nat) (x : Note) (cs : List Value) (hk : k34.K w0 x cs) (hbx : W.heap[g]? = some (.cells cs.toArray 34 (0, 0))) :
  Calls Tryz.prog 184 #[.pointer (some ⟨g, 0, none⟩)] W fun e W' => e = .returned (.tuple #[]) ∧ Turned w0 W W' g (clrF .ly x) := by
 obtain ⟨A11, c11, A12, c12, A16, c16, A17, c17, A18, c18, A19, c19, rfl, l11, g11, l12, g12, l16, g16, l17, g17, l18, g18, l19, g19⟩ := k34_open hk
 have hc := blk_cell hbx
 have hf := blk_frozen hbx
 have n_13 : W.cell? ⟨g, 13, none⟩ = some (.int .i64 x.f11.f0) := hc 13
 have n_14 : W.cell? ⟨g, 14, none⟩ = some (.int .i64 x.f11.f1) := hc 14
 have n_15 : W.cell? ⟨g, 15, none⟩ = some (.int .i64 x.f11.f2) := hc 15
 have n_16 : W.cell? ⟨g, 16, none⟩ = some (.slice A16 x.f11.f3.length c16) := hc 16
 have HX := Aside0.mk (blk_set (blk_set (blk_set (blk_set (hbx) 13 (.int .i64 0)) 14 (.int .i64 0)) 15 (.int .i64 0)) 16 (.slice none 0 0))
 have HM := Aside0.mk (((((Moved.refl W (fun k => k = g)).set_ (p := ⟨g, 13, none⟩) (.inl rfl) (.int .i64 0)).set_ (p := ⟨g, 14, none⟩) (.inl rfl) (.int .i64 0)).set_ (p := ⟨g, 15, none⟩) (.inl rfl) (.int .i64 0)).set_ (p := ⟨g, 16, none⟩) (.inl rfl) (.slice none 0 0))
 have HKK := Aside0.mk (k34_mk w0 (clrF .ly x) l11 g11 l12 g12 (Nat.le_refl 0) (nil_C _ _) l17 g17 l18 g18 l19 g19)
 clear hk hbx hc g11 l11 g12 l12 g16 l16 g17 l17 g18 l18 g19 l19
 go_enter Tryz.func184, Tryz.ntmps184
 go_wp2_with fail
 first | go_end0 | refine bodyPost_ret (results_none rfl _ _ _) rfl ?_
 exact ⟨rfl, HM.out, _, HKK.out, by simpa [clrF] using HX.out⟩
set_option maxRecDepth 100000 in
set_option maxHeartbeats 1000000 in
theorem wc_la (w0 W : World) (g : Nat) (x : Note) (cs : List Value) (hk : k34.K w0 x cs) (hbx : W.heap[g]? = some (.cells cs.toArray 34 (0, 0))) :
  Calls Tryz.prog 189 #[.pointer (some ⟨g, 0, none⟩)] W fun e W' => e = .returned (.tuple #[]) ∧ Turned w0 W W' g (clrF .la x) := by
 obtain ⟨A11, c11, A12, c12, A16, c16, A17, c17, A18, c18, A19, c19, rfl, l11, g11, l12, g12, l16, g16, l17, g17, l18, g18, l19, g19⟩ := k34_open hk
 have hc := blk_cell hbx
 have hf := blk_frozen hbx
 have n_20 : W.cell? ⟨g, 20, none⟩ = some (.string x.f15) := hc 20
 have HX := Aside0.mk (blk_set (hbx) 20 (.string ⟨#[]⟩))
 have HM := Aside0.mk ((Moved.refl W (fun k => k = g)).set_ (p := ⟨g, 20, none⟩) (.inl rfl) (.string ⟨#[]⟩))
 have HKK := Aside0.mk (k34_mk w0 (clrF .la x) l11 g11 l12 g12 l16 g16 l17 g17 l18 g18 l19 g19)
 clear hk hbx hc g11 l11 g12 l12 g16 l16 g17 l17 g18 l18 g19 l19
 go_enter Tryz.func189, Tryz.ntmps189
 go_wp2_with fail
 first | go_end0 | refine bodyPost_ret (results_none rfl _ _ _) rfl ?_
 exact ⟨rfl, HM.out, _, HKK.out, by simpa [clrF] using HX.out⟩
set_option maxRecDepth 100000 in
set_option maxHeartbeats 1000000 in
theorem wc_lo (w0 W : World) (g : Nat) (x : Note) (cs : List Value) (hk : k34.K w0 x cs) (hbx : W.heap[g]? = some (.cells cs.toArray 34 (0, 0))) :
  Calls Tryz.prog 193 #[.pointer (some ⟨g, 0, none⟩)] W fun e W' => e = .returned (.tuple #[]) ∧ Turned w0 W W' g (clrF .lo x) := by
 obtain ⟨A11, c11, A12, c12, A16, c16, A17, c17, A18, c18, A19, c19, rfl, l11, g11, l12, g12, l16, g16, l17, g17, l18, g18, l19, g19⟩ := k34_open hk
 have hc := blk_cell hbx
 have hf := blk_frozen hbx
 have n_11 : W.cell? ⟨g, 11, none⟩ = some (.slice A11 x.f9.length c11) := hc 11
 have HX := Aside0.mk (blk_set (hbx) 11 (.slice none 0 0))
 have HM := Aside0.mk ((Moved.refl W (fun k => k = g)).set_ (p := ⟨g, 11, none⟩) (.inl rfl) (.slice none 0 0))
 have HKK := Aside0.mk (k34_mk w0 (clrF .lo x) (Nat.le_refl 0) (nil_C _ _) l12 g12 l16 g16 l17 g17 l18 g18 l19 g19)
 clear hk hbx hc g11 l11 g12 l12 g16 l16 g17 l17 g18 l18 g19 l19
 go_enter Tryz.func193, Tryz.ntmps193
 go_wp2_with fail
 first | go_end0 | refine bodyPost_ret (results_none rfl _ _ _) rfl ?_
 exact ⟨rfl, HM.out, _, HKK.out, by simpa [clrF] using HX.out⟩
set_option maxRecDepth 100000 in
set_option maxHeartbeats 1000000 in
theorem wc_uE (w0 W : World) (g : Nat) (x : Note) (cs : List Value) (hk : k34.K w0 x cs) (hbx : W.heap[g]? = some (.cells cs.toArray 34 (0, 0))) :
  Calls Tryz.prog 199 #[.pointer (some ⟨g, 0, none⟩)] W fun e W' => e = .returned (.tuple #[]) ∧ Turned w0 W W' g (clrF .uE x) := by
 obtain ⟨A11, c11, A12, c12, A16, c16, A17, c17, A18, c18, A19, c19, rfl, l11, g11, l12, g12, l16, g16, l17, g17, l18, g18, l19, g19⟩ := k34_open hk
 have hc := blk_cell hbx
 have hf := blk_frozen hbx
 have n_12 : W.cell? ⟨g, 12, none⟩ = some (.slice A12 x.f10.length c12) := hc 12
 have HX := Aside0.mk (blk_set (hbx) 12 (.slice none 0 0))
 have HM := Aside0.mk ((Moved.refl W (fun k => k = g)).set_ (p := ⟨g, 12, none⟩) (.inl rfl) (.slice none 0 0))
 have HKK := Aside0.mk (k34_mk w0 (clrF .uE x) l11 g11 (Nat.le_refl 0) (nil_C _ _) l16 g16 l17 g17 l18 g18 l19 g19)
 clear hk hbx hc g11 l11 g12 l12 g16 l16 g17 l17 g18 l18 g19 l19
 go_enter Tryz.func199, Tryz.ntmps199
 go_wp2_with fail
 first | go_end0 | refine bodyPost_ret (results_none rfl _ _ _) rfl ?_
 exact ⟨rfl, HM.out, _, HKK.out, by simpa [clrF] using HX.out⟩
set_option maxRecDepth 100000 in
set_option maxHeartbeats 1000000 in
theorem wc_uI (w0 W : World) (g : Nat) (x : Note) (cs : List Value) (hk : k34.K w0 x cs) (hbx : W.heap[g]? = some (.cells cs.toArray 34 (0, 0))) :
  Calls Tryz.prog 208 #[.pointer (some ⟨g, 0, none⟩)] W fun e W' => e = .returned (.tuple #[]) ∧ Turned w0 W W' g (clrF .uI x) := by
 obtain ⟨A11, c11, A12, c12, A16, c16, A17, c17, A18, c18, A19, c19, rfl, l11, g11, l12, g12, l16, g16, l17, g17, l18, g18, l19, g19⟩ := k34_open hk
 have hc := blk_cell hbx
 have hf := blk_frozen hbx
 have n_19 : W.cell? ⟨g, 19, none⟩ = some (.slice A19 x.f14.length c19) := hc 19
 have HX := Aside0.mk (blk_set (hbx) 19 (.slice none 0 0))
 have HM := Aside0.mk ((Moved.refl W (fun k => k = g)).set_ (p := ⟨g, 19, none⟩) (.inl rfl) (.slice none 0 0))
 have HKK := Aside0.mk (k34_mk w0 (clrF .uI x) l11 g11 l12 g12 l16 g16 l17 g17 l18 g18 (Nat.le_refl 0) (nil_C _ _))
 clear hk hbx hc g11 l11 g12 l12 g16 l16 g17 l17 g18 l18 g19 l19
 go_enter Tryz.func208, Tryz.ntmps208
 go_wp2_with fail
 first | go_end0 | refine bodyPost_ret (results_none rfl _ _ _) rfl ?_
 exact ⟨rfl, HM.out, _, HKK.out, by simpa [clrF] using HX.out⟩
set_option maxRecDepth 100000 in
set_option maxHeartbeats 1000000 in
theorem wc_uP (w0 W : World) (g : Nat) (x : Note) (cs : List Value) (hk : k34.K w0 x cs) (hbx : W.heap[g]? = some (.cells cs.toArray 34 (0, 0))) :
  Calls Tryz.prog 217 #[.pointer (some ⟨g, 0, none⟩)] W fun e W' => e = .returned (.tuple #[]) ∧ Turned w0 W W' g (clrF .uP x) := by
 obtain ⟨A11, c11, A12, c12, A16, c16, A17, c17, A18, c18, A19, c19, rfl, l11, g11, l12, g12, l16, g16, l17, g17, l18, g18, l19, g19⟩ := k34_open hk
 have hc := blk_cell hbx
 have hf := blk_frozen hbx
 have n_18 : W.cell? ⟨g, 18, none⟩ = some (.slice A18 x.f13.length c18) := hc 18
 have HX := Aside0.mk (blk_set (hbx) 18 (.slice none 0 0))
 have HM := Aside0.mk ((Moved.refl W (fun k => k = g)).set_ (p := ⟨g, 18, none⟩) (.inl rfl) (.slice none 0 0))
 have HKK := Aside0.mk (k34_mk w0 (clrF .uP x) l11 g11 l12 g12 l16 g16 l17 g17 (Nat.le_refl 0) (nil_C _ _) l19 g19)
 clear hk hbx hc g11 l11 g12 l12 g16 l16 g17 l17 g18 l18 g19 l19
 go_enter Tryz.func217, Tryz.ntmps217
 go_wp2_with fail
 first | go_end0 | refine bodyPost_ret (results_none rfl _ _ _) rfl ?_
 exact ⟨rfl, HM.out, _, HKK.out, by simpa [clrF] using HX.out⟩
theorem c_clear (l : Ltr) (w0 W : World) (g : Nat) (x : Note) (cs : List Value) (hk : k34.K w0 x cs) (hb : Below w0.heap.size w0 W) (hbx : W.heap[g]? = some (.cells cs.toArray 34 (0, 0))) :
  Calls Tryz.prog 43 #[.agg (fCells l).toArray, .pointer (some ⟨g, 0, none⟩)] W fun e W' => e = .returned (.tuple #[]) ∧ Turned w0 W W' g (clrF l x) := by
 cases l
 case ln =>
  obtain ⟨A11, c11, A12, c12, A16, c16, A17, c17, A18, c18, A19, c19, rfl, l11, g11, l12, g12, l16, g16, l17, g17, l18, g18, l19, g19⟩ := k34_open hk
  exact (clear_num _ 1 (fun _ _ => by kernel_rfl) n_ln 1 x.f1.f0 W g _ hbx rfl).mono fun e W' ⟨he, hm, hx⟩ => ⟨he, hm, _, k34_mk w0 (clrF .ln x) l11 g11 l12 g12 l16 g16 l17 g17 l18 g18 l19 g19, by simpa [clrF] using hx⟩
 case ls =>
  obtain ⟨A11, c11, A12, c12, A16, c16, A17, c17, A18, c18, A19, c19, rfl, l11, g11, l12, g12, l16, g16, l17, g17, l18, g18, l19, g19⟩ := k34_open hk
  exact (clear_num _ 4 (fun _ _ => by kernel_rfl) n_ls 1 x.f2 W g _ hbx rfl).mono fun e W' ⟨he, hm, hx⟩ => ⟨he, hm, _, k34_mk w0 (clrF .ls x) l11 g11 l12 g12 l16 g16 l17 g17 l18 g18 l19 g19, by simpa [clrF] using hx⟩
 case lc =>
  obtain ⟨A11, c11, A12, c12, A16, c16, A17, c17, A18, c18, A19, c19, rfl, l11, g11, l12, g12, l16, g16, l17, g17, l18, g18, l19, g19⟩ := k34_open hk
  exact (clear_num _ 5 (fun _ _ => by kernel_rfl) n_lc 1 x.f3 W g _ hbx rfl).mono fun e W' ⟨he, hm, hx⟩ => ⟨he, hm, _, k34_mk w0 (clrF .lc x) l11 g11 l12 g12 l16 g16 l17 g17 l18 g18 l19 g19, by simpa [clrF] using hx⟩
 case lr =>
  obtain ⟨A11, c11, A12, c12, A16, c16, A17, c17, A18, c18, A19, c19, rfl, l11, g11, l12, g12, l16, g16, l17, g17, l18, g18, l19, g19⟩ := k34_open hk
  exact (clear_num _ 6 (fun _ _ => by kernel_rfl) n_lr 1 x.f4 W g _ hbx rfl).mono fun e W' ⟨he, hm, hx⟩ => ⟨he, hm, _, k34_mk w0 (clrF .lr x) l11 g11 l12 g12 l16 g16 l17 g17 l18 g18 l19 g19, by simpa [clrF] using hx⟩
 case lt =>
  obtain ⟨A11, c11, A12, c12, A16, c16, A17, c17, A18, c18, A19, c19, rfl, l11, g11, l12, g12, l16, g16, l17, g17, l18, g18, l19, g19⟩ := k34_open hk
  exact (clear_num _ 7 (fun _ _ => by kernel_rfl) n_lt 0 x.f5 W g _ hbx rfl).mono fun e W' ⟨he, hm, hx⟩ => ⟨he, hm, _, k34_mk w0 (clrF .lt x) l11 g11 l12 g12 l16 g16 l17 g17 l18 g18 l19 g19, by simpa [clrF] using hx⟩
 case lf =>
  obtain ⟨A11, c11, A12, c12, A16, c16, A17, c17, A18, c18, A19, c19, rfl, l11, g11, l12, g12, l16, g16, l17, g17, l18, g18, l19, g19⟩ := k34_open hk
  exact (clear_num _ 8 (fun _ _ => by kernel_rfl) n_lf 0 x.f6 W g _ hbx rfl).mono fun e W' ⟨he, hm, hx⟩ => ⟨he, hm, _, k34_mk w0 (clrF .lf x) l11 g11 l12 g12 l16 g16 l17 g17 l18 g18 l19 g19, by simpa [clrF] using hx⟩
 case lm =>
  obtain ⟨A11, c11, A12, c12, A16, c16, A17, c17, A18, c18, A19, c19, rfl, l11, g11, l12, g12, l16, g16, l17, g17, l18, g18, l19, g19⟩ := k34_open hk
  exact (clear_num _ 9 (fun _ _ => by kernel_rfl) n_lm 0 x.f7 W g _ hbx rfl).mono fun e W' ⟨he, hm, hx⟩ => ⟨he, hm, _, k34_mk w0 (clrF .lm x) l11 g11 l12 g12 l16 g16 l17 g17 l18 g18 l19 g19, by simpa [clrF] using hx⟩
 case uW => exact clear_wipe _ (fun _ _ => by kernel_rfl) _ _ _ W g _ ((wc_uW w0 _ g x cs hk (blk_below (below_alloc (Below.refl _ _) _) hbx)).mono fun e W' ⟨he, hm, hx⟩ => ⟨he, (Moved.of_below (below_alloc (Below.refl _ _) _) (fun k => k = g)).trans hm (fun _ _ h => h), hx⟩)
 case lw => exact clear_wipe _ (fun _ _ => by kernel_rfl) _ _ _ W g _ ((wc_uW w0 _ g x cs hk (blk_below (below_alloc (Below.refl _ _) _) hbx)).mono fun e W' ⟨he, hm, hx⟩ => ⟨he, (Moved.of_below (below_alloc (Below.refl _ _) _) (fun k => k = g)).trans hm (fun _ _ h => h), hx⟩)
 case ld => exact clear_wipe _ (fun _ _ => by kernel_rfl) _ _ _ W g _ ((wc_uW w0 _ g x cs hk (blk_below (below_alloc (Below.refl _ _) _) hbx)).mono fun e W' ⟨he, hm, hx⟩ => ⟨he, (Moved.of_below (below_alloc (Below.refl _ _) _) (fun k => k = g)).trans hm (fun _ _ h => h), hx⟩)
 case uD => exact clear_wipe _ (fun _ _ => by kernel_rfl) _ _ _ W g _ ((wc_uW w0 _ g x cs hk (blk_below (below_alloc (Below.refl _ _) _) hbx)).mono fun e W' ⟨he, hm, hx⟩ => ⟨he, (Moved.of_below (below_alloc (Below.refl _ _) _) (fun k => k = g)).trans hm (fun _ _ h => h), hx⟩)
 case le => exact clear_wipe _ (fun _ _ => by kernel_rfl) _ _ _ W g _ ((wc_le w0 _ g x cs hk (blk_below (below_alloc (Below.refl _ _) _) hbx)).mono fun e W' ⟨he, hm, hx⟩ => ⟨he, (Moved.of_below (below_alloc (Below.refl _ _) _) (fun k => k = g)).trans hm (fun _ _ h => h), hx⟩)
 case lv => exact clear_wipe _ (fun _ _ => by kernel_rfl) _ _ _ W g _ ((wc_lv w0 _ g x cs hk (blk_below (below_alloc (Below.refl _ _) _) hbx)).mono fun e W' ⟨he, hm, hx⟩ => ⟨he, (Moved.of_below (below_alloc (Below.refl _ _) _) (fun k => k = g)).trans hm (fun _ _ h => h), hx⟩)
 case ly => exact clear_wipe _ (fun _ _ => by kernel_rfl) _ _ _ W g _ ((wc_ly w0 _ g x cs hk (blk_below (below_alloc (Below.refl _ _) _) hbx)).mono fun e W' ⟨he, hm, hx⟩ => ⟨he, (Moved.of_below (below_alloc (Below.refl _ _) _) (fun k => k = g)).trans hm (fun _ _ h => h), hx⟩)
 case la => exact clear_wipe _ (fun _ _ => by kernel_rfl) _ _ _ W g _ ((wc_la w0 _ g x cs hk (blk_below (below_alloc (Below.refl _ _) _) hbx)).mono fun e W' ⟨he, hm, hx⟩ => ⟨he, (Moved.of_below (below_alloc (Below.refl _ _) _) (fun k => k = g)).trans hm (fun _ _ h => h), hx⟩)
 case lo => exact clear_wipe _ (fun _ _ => by kernel_rfl) _ _ _ W g _ ((wc_lo w0 _ g x cs hk (blk_below (below_alloc (Below.refl _ _) _) hbx)).mono fun e W' ⟨he, hm, hx⟩ => ⟨he, (Moved.of_below (below_alloc (Below.refl _ _) _) (fun k => k = g)).trans hm (fun _ _ h => h), hx⟩)
 case uE => exact clear_wipe _ (fun _ _ => by kernel_rfl) _ _ _ W g _ ((wc_uE w0 _ g x cs hk (blk_below (below_alloc (Below.refl _ _) _) hbx)).mono fun e W' ⟨he, hm, hx⟩ => ⟨he, (Moved.of_below (below_alloc (Below.refl _ _) _) (fun k => k = g)).trans hm (fun _ _ h => h), hx⟩)
 case uI => exact clear_wipe _ (fun _ _ => by kernel_rfl) _ _ _ W g _ ((wc_uI w0 _ g x cs hk (blk_below (below_alloc (Below.refl _ _) _) hbx)).mono fun e W' ⟨he, hm, hx⟩ => ⟨he, (Moved.of_below (below_alloc (Below.refl _ _) _) (fun k => k = g)).trans hm (fun _ _ h => h), hx⟩)
 case uP => exact clear_wipe _ (fun _ _ => by kernel_rfl) _ _ _ W g _ ((wc_uP w0 _ g x cs hk (blk_below (below_alloc (Below.refl _ _) _) hbx)).mono fun e W' ⟨he, hm, hx⟩ => ⟨he, (Moved.of_below (below_alloc (Below.refl _ _) _) (fun k => k = g)).trans hm (fun _ _ h => h), hx⟩)
end Go.Proofs.YtmneemhplffemaaGreatDoorRR.Tab
namespace Go.Proofs.YtmneemhplffemaaGreatDoorRR.Tab
open Go.RowKit Go.Proofs.YtmneemhplffemaaGreatDoorRR.Ord Go.Proofs.YtmneemhplffemaaGreatDoorRR.Name Go.Proofs.YtmneemhplffemaaGreatDoorRR.Ext Go.Proofs.YtmneemhplffemaaGreatDoorRR.Mem Go.Proofs.YtmneemhplffemaaGreatDoorRR.Law Go.Proofs.YtmneemhplffemaaGreatDoorRR.Row Go.Proofs.YtmneemhplffemaaGreatDoorRR.Ki Go.Proofs.YtmneemhplffemaaGreatDoorRR.Chk Go.Proofs.YtmneemhplffemaaGreatDoorRR.May Go.Proofs.YtmneemhplffemaaGreatDoorRRW.PrintWords


theorem infoNote : (Tryz.prog.info? 34).map (·.size) = some 21 := by kernel_rfl
theorem at_field {w : World} {A : Option Addr} {xs : List Ltr} (h : kField.C w A xs.length xs) (i : Nat) (l : Ltr) (hl : xs[i]? = some l) {q0 q1 q2 q3 q4 q5 : Value} (hq : fCells l = [q0, q1, q2, q3, q4, q5]) :
  ∃ ad, A = some ad ∧ w.cell? (ad.add (i * 6)) = some q0 ∧ w.cell? ⟨(ad.add (i * 6)).block, (ad.add (i * 6)).off + 1, none⟩ = some q1 ∧ w.cell? ⟨(ad.add (i * 6)).block, (ad.add (i * 6)).off + 2, none⟩ = some q2 ∧ w.cell? ⟨(ad.add (i * 6)).block, (ad.add (i * 6)).off + 3, none⟩ = some q3 ∧ w.cell? ⟨(ad.add (i * 6)).block, (ad.add (i * 6)).off + 4, none⟩ = some q4 ∧ w.cell? ⟨(ad.add (i * 6)).block, (ad.add (i * 6)).off + 5, none⟩ = some q5 := by
 obtain ⟨hi, he⟩ := List.getElem?_eq_some_iff.1 hl
 obtain ⟨ad, c, e, _, hK, hc0⟩ := Kd.C_get h .ln (i : Int) (by omega) (by omega)
 have hc : ∀ j u, c[j]? = some u → w.cell? (ad.add (i * 6 + j)) = some u := hc0
 have hx : c = [q0, q1, q2, q3, q4, q5] := by
  rw [← hq]
  have hk : c = fCells (xs.getD (i : Int).toNat .ln) := hK
  rw [hk, Int.toNat_natCast, List.getD_eq_getElem?_getD, hl]
  rfl
 subst hx
 exact ⟨ad, e, hc 0 _ rfl, by rw [← add_field _ _ 1 (by omega)]; exact hc 1 _ rfl, by rw [← add_field _ _ 2 (by omega)]; exact hc 2 _ rfl, by rw [← add_field _ _ 3 (by omega)]; exact hc 3 _ rfl, by rw [← add_field _ _ 4 (by omega)]; exact hc 4 _ rfl, by rw [← add_field _ _ 5 (by omega)]; exact hc 5 _ rfl⟩
theorem q_one {l : Ltr} {q0 q1 q2 q3 q4 q5 : Value} (hq : fCells l = [q0, q1, q2, q3, q4, q5]) : ∀ u ∈ (#[q0, q1, q2, q3, q4, q5] : Array Value).toList, u.oneCell' = true := by
 intro u hu
 exact fCells_one l u (by rw [hq]; simpa using hu)
theorem cs_size {w0 : World} {x : Note} {cs : List Value} (hk : k34.K w0 x cs) : (Tryz.prog.info? 34).map (·.size) = some cs.toArray.size := by
 rw [infoNote]
 have h := k34.K_len hk
 rw [List.size_toArray, h]
 rfl
theorem shape_one {k : Nat} {A : Option Addr} {n c : Nat} {mf : Value} (hmf : mf = (if k = 13 then (.func (.func 90) #[] #[] : Value) else .nilFunc)) : ∀ u ∈ (#[.slice A n c, mf] : Array Value).toList, u.oneCell' = true := by
 intro u hu
 simp only [List.mem_cons, List.not_mem_nil, or_false] at hu
 rcases hu with rfl | rfl
 · rfl
 · rw [hmf]
   split <;> rfl
theorem note_one {w0 : World} {x : Note} {cs : List Value} (hk : k34.K w0 x cs) : ∀ u ∈ cs.toArray.toList, u.oneCell' = true := fun u hu => k34.K_one hk u hu
theorem note_size {w0 : World} {x : Note} {cs : List Value} (hk : k34.K w0 x cs) : (21 : Nat) = cs.toArray.size := by
 have h := k34.K_len hk
 rw [List.size_toArray, h]
 rfl
theorem Moved.above_ {w w1 : World} {o : Obj} {g : Nat} (h : Moved (w.alloc o) w1 (fun k => k = g)) (hg : w.heap.size ≤ g) : Below w.heap.size w w1 := h.above (below_alloc (Below.refl _ _) _) (fun k hk => by omega)
theorem check_true {x : Note} (h0 : 1 ≤ x.f0) (h1 : x.f0 < 25) (ha : (word x.f0.toNat).all (fun l => okF l x) = true) (hb : mBlank (clrFs (word x.f0.toNat) x) = true) (hg : x.f0 = 13 → mGranted x = true) : mCheck x = true := by
 unfold mCheck
 rw [decide_eq_true h0, decide_eq_true h1, ha, hb]
 by_cases h : x.f0 = 13
 · simp [hg h]
 · simp [h]
theorem clr_snoc (w : List Ltr) (l : Ltr) (x : Note) : clrFs (w ++ [l]) x = clrF l (clrFs w x) := by simp [clrFs]
theorem sane_clrs (w : List Ltr) : ∀ {x : Note}, Sane x → Sane (clrFs w x) := by
 induction w with
 | nil => exact fun h => h
 | cons l w ih => exact fun h => ih (sane_clr l h)
set_option maxRecDepth 100000 in
set_option maxHeartbeats 8000000 in
theorem c_checkP (w0 W : World) (x : Note) (cs : List Value) (hk : k34.K w0 x cs) (hb : Below w0.heap.size w0 W) (HE : EnvN w0) (hz : Sane x) :
   Calls Tryz.prog 17 #[.agg cs.toArray] W fun e W' => e = .returned (.int .i64 (if mCheck x = true then 0 else 30)) ∧ Below W.heap.size W W' := by
 obtain ⟨r, hr⟩ : ∃ r, r = (if mCheck x = true then (0 : Int) else 30) := ⟨_, rfl⟩
 rw [← hr]
 have HR := Aside0.mk hr
 have HK := Aside0.mk hk
 have HE := Aside0.mk HE
 have HZ := Aside0.mk hz
 have HA0 := Aside0.mk hb
 have hsz := cs_size hk
 have HSZ := Aside0.mk hsz
 have hn0 : cs.toArray[0]? = some (.int .i64 x.f0) := by
   obtain ⟨A11, c11, A12, c12, A16, c16, A17, c17, A18, c18, A19, c19, rfl, l11, g11, l12, g12, l16, g16, l17, g17, l18, g18, l19, g19⟩ := k34_open hk
   rfl
 clear hr hk hz hb hsz
 go_enter Tryz.func17, Tryz.ntmps17
 go_upto_region 1 with ((with_reducible refine gate_box (t := 34) rfl ?_); refine box_row rfl rfl rfl ?_; intro gb hgb w1 hbx hb1; have HBX := Aside0.mk hbx; have HB1 := Aside0.mk hb1; have HGB := Aside0.mk hgb; clear hbx hb1 hgb)
 have n_0 := (blk_cell HBX.out 0).trans hn0
 clear hn0
 cases h1 : decide (x.f0 < 1) with
 | true =>
   go_wp2_with fail
   go_ret
   exact ⟨by rw [HR.out, mCheck, show decide (1 ≤ x.f0) = false by have hq_ := of_decide_eq_true h1; simp; omega]; rfl, HB1.out⟩
 | false =>
   cases h2 : decide (x.f0 ≥ 25) with
   | true =>
     have h2_0 : decide ((25 : Int) ≤ x.f0) = true := h2
     go_wp2_with fail
     go_ret
     exact ⟨by rw [HR.out, mCheck, show decide (x.f0 < 25) = false by have hq_ := of_decide_eq_true h2; simp; omega]; simp, HB1.out⟩
   | false =>
     have h2_0 : decide ((25 : Int) ≤ x.f0) = false := h2
     have q1 := of_decide_eq_false h1
     have q2 := of_decide_eq_false h2
     obtain ⟨k, hkx⟩ := Int.eq_ofNat_of_zero_le (show 0 ≤ x.f0 by omega)
     have HKX := Aside0.mk hkx
     have hk25 : k < 25 := by omega
     rw [hkx] at n_0 h1 h2 h2_0
     clear hkx q1 q2
     have HEN := Aside0.mk ((HE.out.at_ HA0.out).at_ HB1.out)
     go_upto_region 4 with (first | (go_at_call 41; (with_reducible refine (t_shape k hk25 _ HEN.out).mono ?_); rintro e w2 ⟨hb2, v, rfl, ho⟩; obtain ⟨mf, hmf⟩ : ∃ mf, mf = (if k = 13 then (.func (.func 90) #[] #[] : Value) else .nilFunc) := ⟨_, rfl⟩; rw [← hmf]; have HMF := Aside0.mk hmf; obtain ⟨A, c, rfl⟩ := Kd.R_slice ho; have HO := Aside0.mk ho; have HB2 := Aside0.mk hb2; clear hb2 ho hmf) | ((with_reducible refine gate_store2 (t := 102) rfl ?_); refine store_row (old := #[.slice none 0 0, .nilFunc]) (cs := #[.slice A (word k).length c, mf]) rfl rfl rfl (blk_alloc _) rfl rfl infoShape rfl (shape_one HMF.out) ?_; intro w3 hm3 hx3; have HS3 := Aside0.mk hx3; have HG3 := Aside0.mk (hm3.blk (blk_below (below_alloc (Below.refl _ _) _) (blk_below HB2.out HBX.out)) (Nat.ne_of_lt (blk_lt (blk_below HB2.out HBX.out)))); have HO3 := Aside0.mk (Kd.R_below HO.out (Moved.above_ hm3 (Nat.le_refl _))); have HB3 := Aside0.mk (below_step (below_step HB1.out HB2.out) (Moved.above_ hm3 (Nat.le_refl _))); clear hm3 hx3))
     go_wp2_with (first | ((with_reducible refine gate_load (t := 34) rfl ?_); refine load_row rfl rfl Tryz.underlying34 rfl HG3.out rfl HSZ.out ?_) | ((with_reducible refine gate_store2 (t := 34) rfl ?_); refine store_row (old := #[.int .i64 0, .int .i64 0, .int .i64 0, .int .i64 0, .int .i64 0, .int .i64 0, .int .i64 0, .int .i64 0, .int .i64 0, .int .i64 0, .int .i64 0, .slice none 0 0, .slice none 0 0, .int .i64 0, .int .i64 0, .int .i64 0, .slice none 0 0, .slice none 0 0, .slice none 0 0, .slice none 0 0, .string ⟨#[]⟩]) (cs := cs.toArray) rfl rfl rfl (blk_alloc _) rfl rfl HSZ.out (note_size HK.out) (note_one HK.out) ?_; intro w4 hm4 hx4; have HY4 := Aside0.mk hx4; have HG4 := Aside0.mk (hm4.blk (blk_below (below_alloc (Below.refl _ _) _) HG3.out) (Nat.ne_of_lt (blk_lt HG3.out))); have HS4 := Aside0.mk (hm4.blk (blk_below (below_alloc (Below.refl _ _) _) HS3.out) (Nat.ne_of_lt (blk_lt HS3.out))); have HO4 := Aside0.mk (Kd.R_below HO3.out (Moved.above_ hm4 (Nat.le_refl _))); have HB4 := Aside0.mk (below_step HB3.out (Moved.above_ hm4 (Nat.le_refl _))); have hcs := blk_cell HS4.out; clear hm4 hx4))
     have HNE1 := Aside0.mk (Nat.ne_of_lt (blk_lt HG3.out))
     have HNE2 := Aside0.mk (Nat.ne_of_lt (blk_lt HS3.out))
     have HGE := Aside0.mk HB3.out.size
     have hwl : (word k).length ≤ 6 := word_len k hk25
     go_loopw [22] (fun vi wr => ∃ i : Nat, vi = .int .i64 i ∧ i ≤ (word k).length ∧ Aside0 (((word k).take i).all (fun l => okF l x) = true) ∧ Aside0 (Below W.heap.size W wr) ∧ Aside0 (wr.heap[gb]? = some (Obj.cells cs.toArray 34 (0, 0))) ∧ Aside0 (wr.heap[w2.heap.size]? = some (Obj.cells #[.slice A (word k).length c, mf] 102 (0, 0))) ∧ Aside0 (kField.R 109 wr w1.heap.size (fun _ => True) (.slice A (word k).length c) (word k)) ∧ ∃ cs' : List Value, Aside0 (k34.K w0 (clrFs ((word k).take i) x) cs') ∧ Aside0 (wr.heap[w3.heap.size]? = some (Obj.cells cs'.toArray 34 (0, 0)))) (fun vi _ => (word k).length - (intOf vi).toNat)
     case atStart => exact ⟨0, rfl, Nat.zero_le _, ⟨rfl⟩, HB4, HG4, HS4, HO4, cs, HK, HY4⟩
     case round =>
      clear HB4 HG4 HS4 HO4 HY4 hcs n_0 HG3 HS3 HO3 HO HB3 HB2 HBX HEN
      obtain ⟨i, rfl, hi, HALL, HB, HG, HS, HO, cs', HKY, HY⟩ := hrel
      obtain ⟨wo, rfl⟩ : ∃ wo : World, wo = wr := ⟨_, rfl⟩
      by_cases hlt : i < (word k).length
      · obtain ⟨l, hl⟩ : ∃ l, (word k)[i]? = some l := ⟨_, List.getElem?_eq_getElem hlt⟩
        have HLT := Aside0.mk hl
        obtain ⟨q0, q1, q2, q3, q4, q5, hq⟩ := fCells_open l
        have HQ := Aside0.mk hq
        obtain ⟨ad, rfl, a_0, a_1, a_2, a_3, a_4, a_5⟩ := at_field (Kd.R_reads' HO.out).2.2 i l hl hq
        have HA := Aside0.mk (below_step HA0.out HB.out)
        clear hl hq
        cases hok : okF l x with
        | true =>
          go_wp2_with (first | ((with_reducible refine gate_store2 (t := 109) rfl ?_); refine store_row (old := #[.int .i64 0, .nilFunc, .nilFunc, .nilFunc, .nilFunc, .nilFunc]) (cs := #[q0, q1, q2, q3, q4, q5]) rfl rfl rfl (blk_alloc _) rfl rfl infoField rfl (q_one HQ.out) ?_; intro w5 hm5 hx5; have HF := Aside0.mk hx5; replace HG := Aside0.mk (blk_below (Moved.above_ hm5 (Nat.le_refl _)) HG.out); replace HS := Aside0.mk (blk_below (Moved.above_ hm5 (Nat.le_refl _)) HS.out); have hcs := blk_cell HS.out; replace HO := Aside0.mk (Kd.R_below HO.out (Moved.above_ hm5 (Nat.le_refl _))); replace HY := Aside0.mk (blk_below (Moved.above_ hm5 (Nat.le_refl _)) HY.out); replace HB := Aside0.mk (below_step HB.out (Moved.above_ hm5 (Nat.le_refl _))); replace HA := Aside0.mk (below_step HA.out (Moved.above_ hm5 (Nat.le_refl _))); clear hm5 hx5 a_0 a_1 a_2 a_3 a_4 a_5) | ((with_reducible refine gate_load (t := 109) rfl ?_); refine load_row rfl rfl Tryz.underlying109 rfl HF.out rfl infoField ?_) | (go_at_call 42; have hri := c_right l w0 _ gb x cs HK.out HA.out HG.out HE.out.env HZ.out _ hok; rw [HQ.out] at hri; (with_reducible refine hri.mono ?_); clear hri; rintro e w6 ⟨rfl, hb6⟩; replace HF := Aside0.mk (blk_below hb6 HF.out); replace HG := Aside0.mk (blk_below (hb6) HG.out); replace HS := Aside0.mk (blk_below (hb6) HS.out); have hcs := blk_cell HS.out; replace HO := Aside0.mk (Kd.R_below HO.out (hb6)); replace HY := Aside0.mk (blk_below (hb6) HY.out); replace HB := Aside0.mk (below_step HB.out (hb6)); replace HA := Aside0.mk (below_step HA.out (hb6)); clear hb6) | (go_at_call 43; have hcl := c_clear l w0 _ w3.heap.size (clrFs ((word k).take i) x) cs' HKY.out HA.out HY.out; rw [HQ.out] at hcl; (with_reducible refine hcl.mono ?_); clear hcl; rintro e w7 ⟨rfl, hm7, cs2, hk7, hx7⟩; have HK7 := Aside0.mk hk7; have HY7 := Aside0.mk hx7; have HG7 := Aside0.mk (hm7.blk HG.out HNE1.out); have HS7 := Aside0.mk (hm7.blk HS.out HNE2.out); have HO7 := Aside0.mk (Get.R_moved HO.out HY.out (by decide) hm7); have HB7 := Aside0.mk (hm7.above HB.out (fun k hk => by rw [hk]; exact HGE.out)); clear hm7 hk7 hx7))
          go_roundw
          case rel => exact ⟨i + 1, by go_num, by omega, ⟨all_step HLT.out HALL.out hok⟩, HB7, HG7, HS7, HO7, cs2, ⟨by rw [List.take_add_one, HLT.out]; exact (clr_snoc _ l x) ▸ HK7.out⟩, HY7⟩
          case measure => simp [intOf]; omega
        | false =>
          go_wp2_with (first | ((with_reducible refine gate_store2 (t := 109) rfl ?_); refine store_row (old := #[.int .i64 0, .nilFunc, .nilFunc, .nilFunc, .nilFunc, .nilFunc]) (cs := #[q0, q1, q2, q3, q4, q5]) rfl rfl rfl (blk_alloc _) rfl rfl infoField rfl (q_one HQ.out) ?_; intro w5 hm5 hx5; have HF := Aside0.mk hx5; replace HG := Aside0.mk (blk_below (Moved.above_ hm5 (Nat.le_refl _)) HG.out); replace HS := Aside0.mk (blk_below (Moved.above_ hm5 (Nat.le_refl _)) HS.out); have hcs := blk_cell HS.out; replace HO := Aside0.mk (Kd.R_below HO.out (Moved.above_ hm5 (Nat.le_refl _))); replace HY := Aside0.mk (blk_below (Moved.above_ hm5 (Nat.le_refl _)) HY.out); replace HB := Aside0.mk (below_step HB.out (Moved.above_ hm5 (Nat.le_refl _))); replace HA := Aside0.mk (below_step HA.out (Moved.above_ hm5 (Nat.le_refl _))); clear hm5 hx5 a_0 a_1 a_2 a_3 a_4 a_5) | ((with_reducible refine gate_load (t := 109) rfl ?_); refine load_row rfl rfl Tryz.underlying109 rfl HF.out rfl infoField ?_) | (go_at_call 42; have hri := c_right l w0 _ gb x cs HK.out HA.out HG.out HE.out.env HZ.out _ hok; rw [HQ.out] at hri; (with_reducible refine hri.mono ?_); clear hri; rintro e w6 ⟨rfl, hb6⟩; replace HF := Aside0.mk (blk_below hb6 HF.out); replace HG := Aside0.mk (blk_below (hb6) HG.out); replace HS := Aside0.mk (blk_below (hb6) HS.out); have hcs := blk_cell HS.out; replace HO := Aside0.mk (Kd.R_below HO.out (hb6)); replace HY := Aside0.mk (blk_below (hb6) HY.out); replace HB := Aside0.mk (below_step HB.out (hb6)); replace HA := Aside0.mk (below_step HA.out (hb6)); clear hb6))
          go_ret
          have hr30 : r = 30 := HR.out.trans (if_neg (fun hm => by have h := (checked hm).right l (by rw [HKX.out, Int.toNat_natCast]; exact List.mem_of_getElem? HLT.out); rw [hok] at h; cases h))
          exact ⟨by rw [hr30]; rfl, HB.out⟩
      · have htk : (word k).take i = word k := List.take_of_length_le (by omega)
        rw [htk] at HKY HALL
        clear htk
        have hcs := blk_cell HS.out
        have HA := Aside0.mk (below_step HA0.out HB.out)
        cases hbl : mBlank (clrFs (word k) x) with
        | false =>
          go_wp2_with (first | ((with_reducible refine gate_load (t := 34) rfl ?_); refine load_row rfl rfl Tryz.underlying34 rfl HY.out rfl (cs_size HKY.out) ?_) | (go_at_call 44; (with_reducible refine (m_blank w0 _ _ _ _ hbl HKY.out (sane_clrs _ HZ.out)).mono ?_); rintro e w8 ⟨rfl, hb8⟩; replace HG := Aside0.mk (blk_below (hb8) HG.out); replace HS := Aside0.mk (blk_below (hb8) HS.out); have hcs := blk_cell HS.out; replace HO := Aside0.mk (Kd.R_below HO.out (hb8)); replace HY := Aside0.mk (blk_below (hb8) HY.out); replace HB := Aside0.mk (below_step HB.out (hb8)); replace HA := Aside0.mk (below_step HA.out (hb8)); clear hb8))
          go_ret
          have hr30 : r = 30 := HR.out.trans (if_neg (fun hm => by have h := (checked hm).blank; rw [HKX.out, Int.toNat_natCast, hbl] at h; cases h))
          exact ⟨by rw [hr30]; rfl, HB.out⟩
        | true =>
          have q1 := of_decide_eq_false h1
          by_cases hk13 : k = 13
          · subst hk13
            have hmf := HMF.out
            rw [if_pos rfl] at hmf
            subst hmf
            have hne : ∀ w : World, (binOp BinOp.neq 100 (.func (.func 90) #[] #[]) .nilFunc).run Tryz.prog w = .ok (.bool true) w := fun _ => rfl
            have hP := List.all_eq_true.1 HALL.out .uP (by simp [word, ltrList])
            have hP1 : x.f13.length = 1 := by
              simp only [okF, Bool.and_eq_true, beq_iff_eq] at hP
              exact hP.1
            clear hP
            cases hg : mGranted x with
            | true =>
              go_wp2_with (first | ((with_reducible refine gate_load (t := 34) rfl ?_); refine load_row rfl rfl Tryz.underlying34 rfl HY.out rfl (cs_size HKY.out) ?_) | (go_at_call 44; (with_reducible refine (m_blank w0 _ _ _ _ hbl HKY.out (sane_clrs _ HZ.out)).mono ?_); rintro e w8 ⟨rfl, hb8⟩; replace HG := Aside0.mk (blk_below (hb8) HG.out); replace HS := Aside0.mk (blk_below (hb8) HS.out); have hcs := blk_cell HS.out; replace HO := Aside0.mk (Kd.R_below HO.out (hb8)); replace HY := Aside0.mk (blk_below (hb8) HY.out); replace HB := Aside0.mk (below_step HB.out (hb8)); replace HA := Aside0.mk (below_step HA.out (hb8)); clear hb8) | (go_at_call 90; (with_reducible refine (m_granted w0 _ gb x cs HK.out HA.out HG.out HE.out.env HZ.out hP1 _ hg).mono ?_); rintro e w9 ⟨rfl, hb9⟩; replace HG := Aside0.mk (blk_below (hb9) HG.out); replace HS := Aside0.mk (blk_below (hb9) HS.out); have hcs := blk_cell HS.out; replace HO := Aside0.mk (Kd.R_below HO.out (hb9)); replace HY := Aside0.mk (blk_below (hb9) HY.out); replace HB := Aside0.mk (below_step HB.out (hb9)); replace HA := Aside0.mk (below_step HA.out (hb9)); clear hb9))
              go_ret
              have hr0 : r = 0 := HR.out.trans (if_pos (check_true (by rw [HKX.out]; decide) (by rw [HKX.out]; decide) (by rw [HKX.out]; exact HALL.out) (by rw [HKX.out]; exact hbl) (fun _ => hg)))
              exact ⟨by rw [hr0]; rfl, HB.out⟩
            | false =>
              go_wp2_with (first | ((with_reducible refine gate_load (t := 34) rfl ?_); refine load_row rfl rfl Tryz.underlying34 rfl HY.out rfl (cs_size HKY.out) ?_) | (go_at_call 44; (with_reducible refine (m_blank w0 _ _ _ _ hbl HKY.out (sane_clrs _ HZ.out)).mono ?_); rintro e w8 ⟨rfl, hb8⟩; replace HG := Aside0.mk (blk_below (hb8) HG.out); replace HS := Aside0.mk (blk_below (hb8) HS.out); have hcs := blk_cell HS.out; replace HO := Aside0.mk (Kd.R_below HO.out (hb8)); replace HY := Aside0.mk (blk_below (hb8) HY.out); replace HB := Aside0.mk (below_step HB.out (hb8)); replace HA := Aside0.mk (below_step HA.out (hb8)); clear hb8) | (go_at_call 90; (with_reducible refine (m_granted w0 _ gb x cs HK.out HA.out HG.out HE.out.env HZ.out hP1 _ hg).mono ?_); rintro e w9 ⟨rfl, hb9⟩; replace HG := Aside0.mk (blk_below (hb9) HG.out); replace HS := Aside0.mk (blk_below (hb9) HS.out); have hcs := blk_cell HS.out; replace HO := Aside0.mk (Kd.R_below HO.out (hb9)); replace HY := Aside0.mk (blk_below (hb9) HY.out); replace HB := Aside0.mk (below_step HB.out (hb9)); replace HA := Aside0.mk (below_step HA.out (hb9)); clear hb9))
              go_ret
              have hr30 : r = 30 := HR.out.trans (if_neg (fun hm => by have h := (checked hm).granted HKX.out; rw [hg] at h; cases h))
              exact ⟨by rw [hr30]; rfl, HB.out⟩
          · have hmf := HMF.out
            rw [if_neg hk13] at hmf
            subst hmf
            have hne : ∀ w : World, (binOp BinOp.neq 100 .nilFunc .nilFunc).run Tryz.prog w = .ok (.bool false) w := fun _ => rfl
            go_wp2_with (first | ((with_reducible refine gate_load (t := 34) rfl ?_); refine load_row rfl rfl Tryz.underlying34 rfl HY.out rfl (cs_size HKY.out) ?_) | (go_at_call 44; (with_reducible refine (m_blank w0 _ _ _ _ hbl HKY.out (sane_clrs _ HZ.out)).mono ?_); rintro e w8 ⟨rfl, hb8⟩; replace HG := Aside0.mk (blk_below (hb8) HG.out); replace HS := Aside0.mk (blk_below (hb8) HS.out); have hcs := blk_cell HS.out; replace HO := Aside0.mk (Kd.R_below HO.out (hb8)); replace HY := Aside0.mk (blk_below (hb8) HY.out); replace HB := Aside0.mk (below_step HB.out (hb8)); replace HA := Aside0.mk (below_step HA.out (hb8)); clear hb8))
            go_ret
            have hr0 : r = 0 := HR.out.trans (if_pos (check_true (by rw [HKX.out]; omega) (by rw [HKX.out]; omega) (by rw [HKX.out]; exact HALL.out) (by rw [HKX.out]; exact hbl) (fun h => absurd (by rw [HKX.out] at h; omega) hk13)))
            exact ⟨by rw [hr0]; rfl, HB.out⟩
end Go.Proofs.YtmneemhplffemaaGreatDoorRR.Tab
