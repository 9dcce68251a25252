/- Texts of the proof, joined. -/
import Derived.ArgAppend
import Derived.Below
import Derived.BigQuiet
import Derived.Deep.AppendLies
import Derived.Deep.CutBlock
import Derived.Deep.DeepCutAuto
import Derived.Deep.Draws
import Derived.Deep.LoopGhost
import Derived.Deep.OwnRows
import Derived.Deep.QuietTactic
import Derived.Deep.RegionHeld3
import Derived.Deep.RegionLaw
import Derived.Deep.RegionLawGrows
import Derived.Deep.WholeRow
import Derived.Defers
import Derived.HandedShaped
import Derived.KernelRfl
import Derived.Laws.BitsLemmas
import Derived.Laws.BytesArg
import Derived.Laws.EntriesVeiled
import Derived.Laws.IdiomCopy
import Derived.Laws.MakeOwn
import Derived.Laws.OwnMore
import Derived.Laws.Rows
import Derived.Laws.Slices
import Derived.Laws.StructEq
import Derived.Laws.Tables
import Derived.Lib.AppendStr
import Derived.Lib.ConvBytes
import Derived.Lib.Hide
import Derived.Lib.Join
import Derived.Lib.LaidTab
import Derived.Lib.SplitLaws
import Derived.LoopTactic
import Derived.Maps.AppendAt
import Derived.OrdersHeld
import Derived.Outline
import Derived.OwnWalk
import Derived.Recover
import Derived.RowKit
import Derived.RowKit3
import Derived.Shelf.LaysM
import Derived.Shelf.Strings.Count
import Derived.Shelf.Strings.Explode
import Derived.Shelf.Strings.Prefix
import Derived.Shelf.Strings.RuneCount
import Derived.Shelf.Strings.Search1
import Derived.Shelf.Strings.Search2
import Derived.Shelf.Strings.Search3
import Derived.Shelf.Strings.Shaped
import Derived.Shelf.Strings.Split
import Derived.Shelf.Strings.SplitShaped
import Derived.Shelf.Unicode.Decode
import Derived.Shelf.Unicode.DecodeAny
import Derived.Shelf.Unicode.DecodeSlow
import Derived.Shelf.Utf8.RuneCount
import Derived.StillTailTactics
import Derived.Tactics
import Derived.Test.YtmneemhplffemaaGreatDoorRRProg
import Derived.WalkKit
import Derived.WalkLawsBesides
import Derived.WideLaws
import Derived.Test.YtmneemhplffemaaGreatDoorRRJBd
set_option linter.unusedVariables false
set_option linter.unusedSimpArgs false
namespace Go.Proofs.YtmneemhplffemaaGreatDoorRR.Tab
open Go.RowKit Go.Proofs.YtmneemhplffemaaGreatDoorRR.Ord Go.Proofs.YtmneemhplffemaaGreatDoorRR.Name Go.Proofs.YtmneemhplffemaaGreatDoorRR.Ext Go.Proofs.YtmneemhplffemaaGreatDoorRR.Mem Go.Proofs.YtmneemhplffemaaGreatDoorRR.Law Go.Proofs.YtmneemhplffemaaGreatDoorRR.Row Go.Proofs.YtmneemhplffemaaGreatDoorRR.Ki Go.Proofs.YtmneemhplffemaaGreatDoorRR.Chk Go.Proofs.YtmneemhplffemaaGreatDoorRR.May Go.Proofs.YtmneemhplffemaaGreatDoorRRW.PrintWords
set_option linter.unusedVariables false
set_option linter.unusedSimpArgs false
theorem add_wrap (a b : Nat) (h : a + b ≤ 9223372036854775807) : wrap64 ((a : Int) + b) = ((a + b : Nat) : Int) := by unfold wrap64; omega
attribute [local go_sem high] Eqs.eqView in
set_option maxRecDepth 100000 in
set_option maxHeartbeats 8000000 in
theorem m_blank (w0 W : World) (x : Note) (cs : List Value) (b : Bool) (h : mBlank x = b) (hk : k34.K w0 x cs) (hz : Sane x) :
    Calls Tryz.prog 44 #[.agg cs.toArray] W fun e W' => e = .returned (.bool b) ∧ Below W.heap.size W W' := by
  subst h
  obtain ⟨A11, c11, A12, c12, A16, c16, A17, c17, A18, c18, A19, c19, hcs, l11, g11, l12, g12, l16, g16, l17, g17, l18, g18, l19, g19⟩ := k34_open hk
  have HCS := Aside0.mk hcs
  clear hk hcs g11 l11 g12 l12 g16 l16 g17 l17 g18 l18 g19 l19
  have z9 := hz.s9
  have z10 := hz.s10
  have z11 := hz.s11
  have z12 := hz.s12
  have z13 := hz.s13
  have z14 := hz.s14
  obtain ⟨s1, e1⟩ : ∃ s, s = x.f9.length + x.f10.length := ⟨_, rfl⟩
  have b1 : x.f9.length + x.f10.length ≤ 9223372036854775807 := by omega
  obtain ⟨s2, e2⟩ : ∃ s, s = s1 + x.f11.f3.length := ⟨_, rfl⟩
  have b2 : s1 + x.f11.f3.length ≤ 9223372036854775807 := by omega
  obtain ⟨s3, e3⟩ : ∃ s, s = s2 + x.f12.length := ⟨_, rfl⟩
  have b3 : s2 + x.f12.length ≤ 9223372036854775807 := by omega
  obtain ⟨s4, e4⟩ : ∃ s, s = s3 + x.f13.length := ⟨_, rfl⟩
  have b4 : s3 + x.f13.length ≤ 9223372036854775807 := by omega
  obtain ⟨s5, e5⟩ : ∃ s, s = s4 + x.f14.length := ⟨_, rfl⟩
  have b5 : s4 + x.f14.length ≤ 9223372036854775807 := by omega
  have hn : s5 = x.f9.length + x.f10.length + x.f11.f3.length + x.f12.length + x.f13.length + x.f14.length := by omega
  have HN := Aside0.mk hn
  have hw1 : wrap64 (((x.f9.length : Nat) : Int) + x.f10.length) = ((s1 : Nat) : Int) := by rw [e1]; exact add_wrap _ _ b1
  have hw2 : wrap64 (((s1 : Nat) : Int) + x.f11.f3.length) = ((s2 : Nat) : Int) := by rw [e2]; exact add_wrap _ _ b2
  have hw3 : wrap64 (((s2 : Nat) : Int) + x.f12.length) = ((s3 : Nat) : Int) := by rw [e3]; exact add_wrap _ _ b3
  have hw4 : wrap64 (((s3 : Nat) : Int) + x.f13.length) = ((s4 : Nat) : Int) := by rw [e4]; exact add_wrap _ _ b4
  have hw5 : wrap64 (((s4 : Nat) : Int) + x.f14.length) = ((s5 : Nat) : Int) := by rw [e5]; exact add_wrap _ _ b5
  clear hn e1 e2 e3 e4 e5 b1 b2 b3 b4 b5 z9 z10 z11 z12 z13 z14 hz
  go_enter Tryz.func44, Tryz.ntmps44
  go_upto_region 1 with ((with_reducible refine gate_box (t := 34) rfl ?_); refine box_row rfl rfl rfl ?_; intro gb hgb w1 hbx hb1; have HBX := Aside0.mk hbx; have HB1 := Aside0.mk hb1; have HGB := Aside0.mk hgb; clear hbx hb1 hgb)
  have n_1 : w1.cell? ⟨gb, 1, none⟩ = some (.int .i64 x.f1.f0) := (blk_cell HBX.out 1).trans (by rw [HCS.out]; rfl)
  have n_2 : w1.cell? ⟨gb, 2, none⟩ = some (.int .i64 x.f1.f1) := (blk_cell HBX.out 2).trans (by rw [HCS.out]; rfl)
  have n_3 : w1.cell? ⟨gb, 3, none⟩ = some (.int .i64 x.f1.f2) := (blk_cell HBX.out 3).trans (by rw [HCS.out]; rfl)
  have n_4 : w1.cell? ⟨gb, 4, none⟩ = some (.int .i64 x.f2) := (blk_cell HBX.out 4).trans (by rw [HCS.out]; rfl)
  have n_5 : w1.cell? ⟨gb, 5, none⟩ = some (.int .i64 x.f3) := (blk_cell HBX.out 5).trans (by rw [HCS.out]; rfl)
  have n_6 : w1.cell? ⟨gb, 6, none⟩ = some (.int .i64 x.f4) := (blk_cell HBX.out 6).trans (by rw [HCS.out]; rfl)
  have n_7 : w1.cell? ⟨gb, 7, none⟩ = some (.int .i64 x.f5) := (blk_cell HBX.out 7).trans (by rw [HCS.out]; rfl)
  have n_8 : w1.cell? ⟨gb, 8, none⟩ = some (.int .i64 x.f6) := (blk_cell HBX.out 8).trans (by rw [HCS.out]; rfl)
  have n_9 : w1.cell? ⟨gb, 9, none⟩ = some (.int .i64 x.f7) := (blk_cell HBX.out 9).trans (by rw [HCS.out]; rfl)
  have n_10 : w1.cell? ⟨gb, 10, none⟩ = some (.int .i64 x.f8) := (blk_cell HBX.out 10).trans (by rw [HCS.out]; rfl)
  have n_11 : w1.cell? ⟨gb, 11, none⟩ = some (.slice A11 x.f9.length c11) := (blk_cell HBX.out 11).trans (by rw [HCS.out]; rfl)
  have n_12 : w1.cell? ⟨gb, 12, none⟩ = some (.slice A12 x.f10.length c12) := (blk_cell HBX.out 12).trans (by rw [HCS.out]; rfl)
  have n_13 : w1.cell? ⟨gb, 13, none⟩ = some (.int .i64 x.f11.f0) := (blk_cell HBX.out 13).trans (by rw [HCS.out]; rfl)
  have n_14 : w1.cell? ⟨gb, 14, none⟩ = some (.int .i64 x.f11.f1) := (blk_cell HBX.out 14).trans (by rw [HCS.out]; rfl)
  have n_15 : w1.cell? ⟨gb, 15, none⟩ = some (.int .i64 x.f11.f2) := (blk_cell HBX.out 15).trans (by rw [HCS.out]; rfl)
  have n_16 : w1.cell? ⟨gb, 16, none⟩ = some (.slice A16 x.f11.f3.length c16) := (blk_cell HBX.out 16).trans (by rw [HCS.out]; rfl)
  have n_17 : w1.cell? ⟨gb, 17, none⟩ = some (.slice A17 x.f12.length c17) := (blk_cell HBX.out 17).trans (by rw [HCS.out]; rfl)
  have n_18 : w1.cell? ⟨gb, 18, none⟩ = some (.slice A18 x.f13.length c18) := (blk_cell HBX.out 18).trans (by rw [HCS.out]; rfl)
  have n_19 : w1.cell? ⟨gb, 19, none⟩ = some (.slice A19 x.f14.length c19) := (blk_cell HBX.out 19).trans (by rw [HCS.out]; rfl)
  have n_20 : w1.cell? ⟨gb, 20, none⟩ = some (.string x.f15) := (blk_cell HBX.out 20).trans (by rw [HCS.out]; rfl)
  cases h1 : (x.f1.f0 == 0) with
  | true =>
    have h1_0 : ((x.f1.f0 != 0)) = false := (by rw [bne, h1]; rfl)
    cases h2 : (x.f1.f1 == 0) with
    | true =>
      have h2_0 : ((x.f1.f1 != 0)) = false := (by rw [bne, h2]; rfl)
      cases h3 : (x.f1.f2 == 0) with
      | true =>
        have h3_0 : ((x.f1.f2 != 0)) = false := (by rw [bne, h3]; rfl)
        cases h4 : (x.f2 == 0) with
        | true =>
          have h4_0 : ((x.f2 != 0)) = false := (by rw [bne, h4]; rfl)
          cases h5 : (x.f3 == 0) with
          | true =>
            have h5_0 : ((x.f3 != 0)) = false := (by rw [bne, h5]; rfl)
            cases h6 : (x.f4 == 0) with
            | true =>
              have h6_0 : ((x.f4 != 0)) = false := (by rw [bne, h6]; rfl)
              cases h7 : (x.f5 == 0) with
              | true =>
                have h7_0 : ((x.f5 != 0)) = false := (by rw [bne, h7]; rfl)
                cases h8 : (x.f6 == 0) with
                | true =>
                  have h8_0 : ((x.f6 != 0)) = false := (by rw [bne, h8]; rfl)
                  cases h9 : (x.f7 == 0) with
                  | true =>
                    have h9_0 : ((x.f7 != 0)) = false := (by rw [bne, h9]; rfl)
                    cases h10 : (x.f8 == 0) with
                    | true =>
                      have h10_0 : ((x.f8 != 0)) = false := (by rw [bne, h10]; rfl)
                      cases h11 : x.f15.toList.isEmpty with
                      | true =>
                        cases h12 : (x.f11.f0 == 0) with
                        | true =>
                          have h12_0 : ((x.f11.f0 != 0)) = false := (by rw [bne, h12]; rfl)
                          cases h13 : (x.f11.f1 == 0) with
                          | true =>
                            have h13_0 : ((x.f11.f1 != 0)) = false := (by rw [bne, h13]; rfl)
                            cases h14 : (x.f11.f2 == 0) with
                            | true =>
                              have h14_0 : ((x.f11.f2 != 0)) = false := (by rw [bne, h14]; rfl)
                              cases h15 : (s5 == 0) with
                              | true =>
                                have h15_0 : (((s5 : Int) == 0)) = true := (by have hq_ := h15; simp only [beq_eq_false_iff_ne, beq_iff_eq, ne_eq] at hq_ ⊢; omega)
                                have h15_1 : (((s5 : Int) != 0)) = false := (by have hq_ := h15; simp only [beq_eq_false_iff_ne, beq_iff_eq, bne_iff_ne, bne_eq_false_iff_eq, ne_eq] at hq_ ⊢; omega)
                                go_wp2_with fail
                                go_ret
                                exact ⟨by simp only [mBlank, ← HN.out, h1, h2, h3, h4, h5, h6, h7, h8, h9, h10, h11, h12, h13, h14, h15, Bool.not_true, Bool.not_false, Bool.true_and, Bool.false_and, Bool.and_true, Bool.and_false, Bool.true_or, Bool.false_or, Bool.or_true, Bool.or_false, Bool.false_eq_true, if_true, if_false]; rfl, HB1.out⟩
                              | false =>
                                have h15_0 : (((s5 : Int) == 0)) = false := (by have hq_ := h15; simp only [beq_eq_false_iff_ne, beq_iff_eq, ne_eq] at hq_ ⊢; omega)
                                have h15_1 : (((s5 : Int) != 0)) = true := (by have hq_ := h15; simp only [beq_eq_false_iff_ne, beq_iff_eq, bne_iff_ne, bne_eq_false_iff_eq, ne_eq] at hq_ ⊢; omega)
                                go_wp2_with fail
                                go_ret
                                exact ⟨by simp only [mBlank, ← HN.out, h1, h2, h3, h4, h5, h6, h7, h8, h9, h10, h11, h12, h13, h14, h15, Bool.not_true, Bool.not_false, Bool.true_and, Bool.false_and, Bool.and_true, Bool.and_false, Bool.true_or, Bool.false_or, Bool.or_true, Bool.or_false, Bool.false_eq_true, if_true, if_false]; rfl, HB1.out⟩
                            | false =>
                              have h14_0 : ((x.f11.f2 != 0)) = true := (by rw [bne, h14]; rfl)
                              go_wp2_with fail
                              go_ret
                              exact ⟨by simp only [mBlank, ← HN.out, h1, h2, h3, h4, h5, h6, h7, h8, h9, h10, h11, h12, h13, h14, Bool.not_true, Bool.not_false, Bool.true_and, Bool.false_and, Bool.and_true, Bool.and_false, Bool.true_or, Bool.false_or, Bool.or_true, Bool.or_false, Bool.false_eq_true, if_true, if_false]; rfl, HB1.out⟩
                          | false =>
                            have h13_0 : ((x.f11.f1 != 0)) = true := (by rw [bne, h13]; rfl)
                            go_wp2_with fail
                            go_ret
                            exact ⟨by simp only [mBlank, ← HN.out, h1, h2, h3, h4, h5, h6, h7, h8, h9, h10, h11, h12, h13, Bool.not_true, Bool.not_false, Bool.true_and, Bool.false_and, Bool.and_true, Bool.and_false, Bool.true_or, Bool.false_or, Bool.or_true, Bool.or_false, Bool.false_eq_true, if_true, if_false]; rfl, HB1.out⟩
                        | false =>
                          have h12_0 : ((x.f11.f0 != 0)) = true := (by rw [bne, h12]; rfl)
                          go_wp2_with fail
                          go_ret
                          exact ⟨by simp only [mBlank, ← HN.out, h1, h2, h3, h4, h5, h6, h7, h8, h9, h10, h11, h12, Bool.not_true, Bool.not_false, Bool.true_and, Bool.false_and, Bool.and_true, Bool.and_false, Bool.true_or, Bool.false_or, Bool.or_true, Bool.or_false, Bool.false_eq_true, if_true, if_false]; rfl, HB1.out⟩
                      | false =>
                        go_wp2_with fail
                        go_ret
                        exact ⟨by simp only [mBlank, ← HN.out, h1, h2, h3, h4, h5, h6, h7, h8, h9, h10, h11, Bool.not_true, Bool.not_false, Bool.true_and, Bool.false_and, Bool.and_true, Bool.and_false, Bool.true_or, Bool.false_or, Bool.or_true, Bool.or_false, Bool.false_eq_true, if_true, if_false]; rfl, HB1.out⟩
                    | false =>
                      have h10_0 : ((x.f8 != 0)) = true := (by rw [bne, h10]; rfl)
                      go_wp2_with fail
                      go_ret
                      exact ⟨by simp only [mBlank, ← HN.out, h1, h2, h3, h4, h5, h6, h7, h8, h9, h10, Bool.not_true, Bool.not_false, Bool.true_and, Bool.false_and, Bool.and_true, Bool.and_false, Bool.true_or, Bool.false_or, Bool.or_true, Bool.or_false, Bool.false_eq_true, if_true, if_false]; rfl, HB1.out⟩
                  | false =>
                    have h9_0 : ((x.f7 != 0)) = true := (by rw [bne, h9]; rfl)
                    go_wp2_with fail
                    go_ret
                    exact ⟨by simp only [mBlank, ← HN.out, h1, h2, h3, h4, h5, h6, h7, h8, h9, Bool.not_true, Bool.not_false, Bool.true_and, Bool.false_and, Bool.and_true, Bool.and_false, Bool.true_or, Bool.false_or, Bool.or_true, Bool.or_false, Bool.false_eq_true, if_true, if_false]; rfl, HB1.out⟩
                | false =>
                  have h8_0 : ((x.f6 != 0)) = true := (by rw [bne, h8]; rfl)
                  go_wp2_with fail
                  go_ret
                  exact ⟨by simp only [mBlank, ← HN.out, h1, h2, h3, h4, h5, h6, h7, h8, Bool.not_true, Bool.not_false, Bool.true_and, Bool.false_and, Bool.and_true, Bool.and_false, Bool.true_or, Bool.false_or, Bool.or_true, Bool.or_false, Bool.false_eq_true, if_true, if_false]; rfl, HB1.out⟩
              | false =>
                have h7_0 : ((x.f5 != 0)) = true := (by rw [bne, h7]; rfl)
                go_wp2_with fail
                go_ret
                exact ⟨by simp only [mBlank, ← HN.out, h1, h2, h3, h4, h5, h6, h7, Bool.not_true, Bool.not_false, Bool.true_and, Bool.false_and, Bool.and_true, Bool.and_false, Bool.true_or, Bool.false_or, Bool.or_true, Bool.or_false, Bool.false_eq_true, if_true, if_false]; rfl, HB1.out⟩
            | false =>
              have h6_0 : ((x.f4 != 0)) = true := (by rw [bne, h6]; rfl)
              go_wp2_with fail
              go_ret
              exact ⟨by simp only [mBlank, ← HN.out, h1, h2, h3, h4, h5, h6, Bool.not_true, Bool.not_false, Bool.true_and, Bool.false_and, Bool.and_true, Bool.and_false, Bool.true_or, Bool.false_or, Bool.or_true, Bool.or_false, Bool.false_eq_true, if_true, if_false]; rfl, HB1.out⟩
          | false =>
            have h5_0 : ((x.f3 != 0)) = true := (by rw [bne, h5]; rfl)
            go_wp2_with fail
            go_ret
            exact ⟨by simp only [mBlank, ← HN.out, h1, h2, h3, h4, h5, Bool.not_true, Bool.not_false, Bool.true_and, Bool.false_and, Bool.and_true, Bool.and_false, Bool.true_or, Bool.false_or, Bool.or_true, Bool.or_false, Bool.false_eq_true, if_true, if_false]; rfl, HB1.out⟩
        | false =>
          have h4_0 : ((x.f2 != 0)) = true := (by rw [bne, h4]; rfl)
          go_wp2_with fail
          go_ret
          exact ⟨by simp only [mBlank, ← HN.out, h1, h2, h3, h4, Bool.not_true, Bool.not_false, Bool.true_and, Bool.false_and, Bool.and_true, Bool.and_false, Bool.true_or, Bool.false_or, Bool.or_true, Bool.or_false, Bool.false_eq_true, if_true, if_false]; rfl, HB1.out⟩
      | false =>
        have h3_0 : ((x.f1.f2 != 0)) = true := (by rw [bne, h3]; rfl)
        go_wp2_with fail
        go_ret
        exact ⟨by simp only [mBlank, ← HN.out, h1, h2, h3, Bool.not_true, Bool.not_false, Bool.true_and, Bool.false_and, Bool.and_true, Bool.and_false, Bool.true_or, Bool.false_or, Bool.or_true, Bool.or_false, Bool.false_eq_true, if_true, if_false]; rfl, HB1.out⟩
    | false =>
      have h2_0 : ((x.f1.f1 != 0)) = true := (by rw [bne, h2]; rfl)
      go_wp2_with fail
      go_ret
      exact ⟨by simp only [mBlank, ← HN.out, h1, h2, Bool.not_true, Bool.not_false, Bool.true_and, Bool.false_and, Bool.and_true, Bool.and_false, Bool.true_or, Bool.false_or, Bool.or_true, Bool.or_false, Bool.false_eq_true, if_true, if_false]; rfl, HB1.out⟩
  | false =>
    have h1_0 : ((x.f1.f0 != 0)) = true := (by rw [bne, h1]; rfl)
    go_wp2_with fail
    go_ret
    exact ⟨by simp only [mBlank, ← HN.out, h1, Bool.not_true, Bool.not_false, Bool.true_and, Bool.false_and, Bool.and_true, Bool.and_false, Bool.true_or, Bool.false_or, Bool.or_true, Bool.or_false, Bool.false_eq_true, if_true, if_false]; rfl, HB1.out⟩
end Go.Proofs.YtmneemhplffemaaGreatDoorRR.Tab
namespace Go.Proofs.YtmneemhplffemaaGreatDoorRR.Law
open Go.RowKit Go.Proofs.YtmneemhplffemaaGreatDoorRR.Ord Go.Proofs.YtmneemhplffemaaGreatDoorRR.Name Go.Proofs.YtmneemhplffemaaGreatDoorRR.Ext Go.Proofs.YtmneemhplffemaaGreatDoorRR.Wire Go.Proofs.YtmneemhplffemaaGreatDoorRR.Mem Go.Proofs.YtmneemhplffemaaGreatDoorRR.Put Go.Proofs.YtmneemhplffemaaGreatDoorRR.Get Go.Proofs.YtmneemhplffemaaGreatDoorRR.Ki Go.Proofs.YtmneemhplffemaaGreatDoorRR.Chk Go.Proofs.YtmneemhplffemaaGreatDoorRR.May Go.Proofs.YtmneemhplffemaaGreatDoorRRW.PrintWords
set_option linter.unusedSimpArgs false
set_option linter.unusedVariables false
/-- A field can be written. -/
def OkL : Ltr → Note → Prop
  | .ln, x => isN x.f1.f0
  | .ls, x => isN x.f2
  | .lc, x => isN x.f3
  | .lr, x => isN x.f4
  | .lt, x => isN x.f5
  | .lf, x => isN x.f6
  | .lm, x => isN x.f7
  | .uW, x => x.f12.length ≤ 16 ∧ ∀ y ∈ x.f12, WatchOk y
  | .lw, x => x.f12.length ≤ 16 ∧ ∀ y ∈ x.f12, WatchOk y
  | .ld, x => x.f12.length ≤ 16 ∧ ∀ y ∈ x.f12, WatchOk y
  | .uD, x => x.f12.length ≤ 16 ∧ ∀ y ∈ x.f12, WatchOk y
  | .le, x => isN x.f8
  | .lv, x => isN x.f1.f0 ∧ isN x.f1.f1 ∧ isN x.f1.f2
  | .ly, x => ReplyOk x.f11
  | .la, x => x.f15.size ≤ 262144
  | .lo, x => x.f9.length ≤ 16 ∧ ∀ y ∈ x.f9, OpOk y
  | .uE, x => x.f10.length ≤ 16 ∧ ∀ y ∈ x.f10, EntryOk y
  | .uI, x => x.f14.length ≤ 16 ∧ ∀ y ∈ x.f14, ItemOne y
  | .uP, x => x.f13.length ≤ 16 ∧ ∀ y ∈ x.f13, PartOk y
/-- What is read into an empty note of a kind says the bytes. -/
def SaysK (k : Nat) : Prop := ∀ (xs : List Int) (a b : Nat) (x : Note), Bytes xs → a ≤ xs.length → dFs (word k) xs a (zeroNote k) = some (x, b) → a ≤ b ∧ b ≤ xs.length ∧ (xs.take b).drop a = (word k).flatMap (fun l => encF l x) ∧ x.f0 = k
/-- What was written is read into an empty note of the kind. -/
def ReadsK (k : Nat) : Prop := ∀ (xs rest : List Int) (a : Nat) (x : Note), x.f0 = k → (∀ l ∈ word k, OkL l x) → mBlank (clrFs (word k) x) = true → xs.drop a = (word k).flatMap (fun l => encF l x) ++ rest → dFs (word k) xs a (zeroNote k) = some (x, a + ((word k).flatMap (fun l => encF l x)).length)
theorem cut_self {xs : List Int} {a : Nat} : (xs.take a).drop a = [] := List.drop_eq_nil_of_le (by rw [List.length_take]; omega)
theorem blank_eq {y : Note} (h : mBlank y = true) : y = zeroNote y.f0 := by
  obtain ⟨x0, ⟨v0, v1, v2⟩, x2, x3, x4, x5, x6, x7, x8, x9, x10, ⟨r0, r1, r2, r3⟩, x12, x13, x14, x15⟩ := y
  simp only [mBlank, Bool.and_eq_true, beq_iff_eq] at h
  obtain ⟨⟨⟨⟨⟨⟨⟨⟨⟨⟨⟨⟨⟨⟨h1, h2⟩, h3⟩, h4⟩, h5⟩, h6⟩, h7⟩, h8⟩, h9⟩, h10⟩, h11⟩, h12⟩, h13⟩, h14⟩, h15⟩ := h
  have e9 : x9 = [] := List.eq_nil_of_length_eq_zero (by omega)
  have e10 : x10 = [] := List.eq_nil_of_length_eq_zero (by omega)
  have e11 : r3 = [] := List.eq_nil_of_length_eq_zero (by omega)
  have e12 : x12 = [] := List.eq_nil_of_length_eq_zero (by omega)
  have e13 : x13 = [] := List.eq_nil_of_length_eq_zero (by omega)
  have e14 : x14 = [] := List.eq_nil_of_length_eq_zero (by omega)
  have e15 : x15 = ⟨#[]⟩ := by
    cases x15 with
    | mk d =>
      rw [ByteArray.toList_eq] at h11
      congr 1
      cases d with
      | mk l =>
        cases l with
        | nil => rfl
        | cons c l => simp [tx] at h11
  subst h1 h2 h3 h4 h5 h6 h7 h8 h9 h10 h12 h13 h14 e9 e10 e11 e12 e13 e14 e15
  rfl
theorem says_k0 : SaysK 0 := by
  intro xs a b x hB ha h
  change dFs [] xs a (zeroNote 0) = _ at h
  simp only [dFs, dF, zeroNote, Option.bind_assoc, Option.bind_some] at h
  simp only [Option.some.injEq, Prod.mk.injEq] at h
  obtain ⟨rfl, rfl⟩ := h
  exact ⟨Nat.le_refl _, ha, cut_self, rfl⟩
theorem reads_k0 : ReadsK 0 := by
  intro xs rest a x hk hx hb h
  replace hb := blank_eq hb
  obtain ⟨x0, ⟨v0, v1, v2⟩, x2, x3, x4, x5, x6, x7, x8, x9, x10, ⟨r0, r1, r2, r3⟩, x12, x13, x14, x15⟩ := x
  change clrFs [] _ = _ at hb
  simp only [clrFs, List.foldl_cons, List.foldl_nil, clrF, zeroNote, S34.mk.injEq, S23.mk.injEq, S29.mk.injEq, eq_self, true_and, and_true] at hb hk
  clear hx
  subst hk
  obtain ⟨-, ⟨rfl, rfl, rfl⟩, rfl, rfl, rfl, rfl, rfl, rfl, rfl, rfl, rfl, ⟨rfl, rfl, rfl, rfl⟩, rfl, rfl, rfl, rfl⟩ := hb
  rfl
theorem says_k1 : SaysK 1 := by
  intro xs a b x hB ha h
  change dFs [.ls] xs a (zeroNote 1) = _ at h
  simp only [dFs, dF, zeroNote, Option.bind_assoc, Option.bind_some] at h
  obtain ⟨p0, h0, h⟩ := Option.bind_eq_some_iff.1 h
  obtain ⟨l0, g0, c0⟩ := says_num hB a p0.1 p0.2 (by omega) h0
  simp only [Option.some.injEq, Prod.mk.injEq] at h
  obtain ⟨rfl, rfl⟩ := h
  refine ⟨by omega, g0, ?_, rfl⟩
  rw [c0]
  change _ = ([.ls] : List Ltr).flatMap _
  simp only [encF, List.flatMap_cons, List.flatMap_nil, List.append_nil, List.append_assoc]
theorem reads_k1 : ReadsK 1 := by
  intro xs rest a x hk hx hb h
  have ols := hx .ls (by simp [word, ltrList])
  replace hb := blank_eq hb
  obtain ⟨x0, ⟨v0, v1, v2⟩, x2, x3, x4, x5, x6, x7, x8, x9, x10, ⟨r0, r1, r2, r3⟩, x12, x13, x14, x15⟩ := x
  change clrFs [.ls] _ = _ at hb
  simp only [clrFs, List.foldl_cons, List.foldl_nil, clrF, zeroNote, S34.mk.injEq, S23.mk.injEq, S29.mk.injEq, eq_self, true_and, and_true] at hb hk
  clear hx
  subst hk
  obtain ⟨-, ⟨rfl, rfl, rfl⟩, rfl, rfl, rfl, rfl, rfl, rfl, rfl, rfl, ⟨rfl, rfl, rfl, rfl⟩, rfl, rfl, rfl, rfl⟩ := hb
  change List.drop a xs = ([.ls] : List Ltr).flatMap _ ++ rest at h
  simp only [encF, List.flatMap_cons, List.flatMap_nil, List.append_nil, List.append_assoc] at h
  have r_0 := reads_num xs _ _ _ ols h
  change dFs [.ls] xs a (zeroNote 1) = some (_, a + (([.ls] : List Ltr).flatMap _).length)
  simp only [dFs, dF, zeroNote, r_0, Option.bind_some]
  simp only [encF, List.flatMap_cons, List.flatMap_nil, List.append_nil, List.append_assoc, List.length_append, Nat.add_assoc]
  rfl
theorem says_k2 : SaysK 2 := by
  intro xs a b x hB ha h
  change dFs [.ls, .lr, .lo] xs a (zeroNote 2) = _ at h
  simp only [dFs, dF, zeroNote, Option.bind_assoc, Option.bind_some] at h
  obtain ⟨p0, h0, h⟩ := Option.bind_eq_some_iff.1 h
  obtain ⟨l0, g0, c0⟩ := says_num hB a p0.1 p0.2 (by omega) h0
  obtain ⟨p1, h1, h⟩ := Option.bind_eq_some_iff.1 h
  obtain ⟨l1, g1, c1⟩ := says_num hB p0.2 p1.1 p1.2 (by omega) h1
  have k1 := cat_ c0 c1 l0 l1 g1
  obtain ⟨p2, h2, h⟩ := Option.bind_eq_some_iff.1 h
  obtain ⟨l2, g2, c2⟩ := says_lst hB (says_Op hB) p1.2 p2.1 p2.2 (by omega) h2
  have k2 := cat_ k1 c2 (by omega) l2 g2
  simp only [Option.some.injEq, Prod.mk.injEq] at h
  obtain ⟨rfl, rfl⟩ := h
  refine ⟨by omega, g2, ?_, rfl⟩
  rw [k2]
  change _ = ([.ls, .lr, .lo] : List Ltr).flatMap _
  simp only [encF, List.flatMap_cons, List.flatMap_nil, List.append_nil, List.append_assoc]
theorem reads_k2 : ReadsK 2 := by
  intro xs rest a x hk hx hb h
  have ols := hx .ls (by simp [word, ltrList])
  have olr := hx .lr (by simp [word, ltrList])
  have olo := hx .lo (by simp [word, ltrList])
  replace hb := blank_eq hb
  obtain ⟨x0, ⟨v0, v1, v2⟩, x2, x3, x4, x5, x6, x7, x8, x9, x10, ⟨r0, r1, r2, r3⟩, x12, x13, x14, x15⟩ := x
  change clrFs [.ls, .lr, .lo] _ = _ at hb
  simp only [clrFs, List.foldl_cons, List.foldl_nil, clrF, zeroNote, S34.mk.injEq, S23.mk.injEq, S29.mk.injEq, eq_self, true_and, and_true] at hb hk
  clear hx
  subst hk
  obtain ⟨-, ⟨rfl, rfl, rfl⟩, rfl, rfl, rfl, rfl, rfl, rfl, ⟨rfl, rfl, rfl, rfl⟩, rfl, rfl, rfl, rfl⟩ := hb
  change List.drop a xs = ([.ls, .lr, .lo] : List Ltr).flatMap _ ++ rest at h
  simp only [encF, List.flatMap_cons, List.flatMap_nil, List.append_nil, List.append_assoc] at h
  have r_0 := reads_num xs _ _ _ ols h
  have d_0 := drop_next h
  have r_1 := reads_num xs _ _ _ olr d_0
  have d_1 := drop_next d_0
  have r_2 := reads_lst reads_Op xs _ _ _ ⟨by have := (olo).1; omega, (olo).2⟩ d_1
  change dFs [.ls, .lr, .lo] xs a (zeroNote 2) = some (_, a + (([.ls, .lr, .lo] : List Ltr).flatMap _).length)
  simp only [dFs, dF, zeroNote, r_0, r_1, r_2, Option.bind_some]
  simp only [encF, List.flatMap_cons, List.flatMap_nil, List.append_nil, List.append_assoc, List.length_append, Nat.add_assoc]
  rfl
theorem says_k3 : SaysK 3 := by
  intro xs a b x hB ha h
  change dFs [.ls] xs a (zeroNote 3) = _ at h
  simp only [dFs, dF, zeroNote, Option.bind_assoc, Option.bind_some] at h
  obtain ⟨p0, h0, h⟩ := Option.bind_eq_some_iff.1 h
  obtain ⟨l0, g0, c0⟩ := says_num hB a p0.1 p0.2 (by omega) h0
  simp only [Option.some.injEq, Prod.mk.injEq] at h
  obtain ⟨rfl, rfl⟩ := h
  refine ⟨by omega, g0, ?_, rfl⟩
  rw [c0]
  change _ = ([.ls] : List Ltr).flatMap _
  simp only [encF, List.flatMap_cons, List.flatMap_nil, List.append_nil, List.append_assoc]
theorem reads_k3 : ReadsK 3 := by
  intro xs rest a x hk hx hb h
  have ols := hx .ls (by simp [word, ltrList])
  replace hb := blank_eq hb
  obtain ⟨x0, ⟨v0, v1, v2⟩, x2, x3, x4, x5, x6, x7, x8, x9, x10, ⟨r0, r1, r2, r3⟩, x12, x13, x14, x15⟩ := x
  change clrFs [.ls] _ = _ at hb
  simp only [clrFs, List.foldl_cons, List.foldl_nil, clrF, zeroNote, S34.mk.injEq, S23.mk.injEq, S29.mk.injEq, eq_self, true_and, and_true] at hb hk
  clear hx
  subst hk
  obtain ⟨-, ⟨rfl, rfl, rfl⟩, rfl, rfl, rfl, rfl, rfl, rfl, rfl, rfl, ⟨rfl, rfl, rfl, rfl⟩, rfl, rfl, rfl, rfl⟩ := hb
  change List.drop a xs = ([.ls] : List Ltr).flatMap _ ++ rest at h
  simp only [encF, List.flatMap_cons, List.flatMap_nil, List.append_nil, List.append_assoc] at h
  have r_0 := reads_num xs _ _ _ ols h
  change dFs [.ls] xs a (zeroNote 3) = some (_, a + (([.ls] : List Ltr).flatMap _).length)
  simp only [dFs, dF, zeroNote, r_0, Option.bind_some]
  simp only [encF, List.flatMap_cons, List.flatMap_nil, List.append_nil, List.append_assoc, List.length_append, Nat.add_assoc]
  rfl
theorem says_k4 : SaysK 4 := by
  intro xs a b x hB ha h
  change dFs [.ls, .lc] xs a (zeroNote 4) = _ at h
  simp only [dFs, dF, zeroNote, Option.bind_assoc, Option.bind_some] at h
  obtain ⟨p0, h0, h⟩ := Option.bind_eq_some_iff.1 h
  obtain ⟨l0, g0, c0⟩ := says_num hB a p0.1 p0.2 (by omega) h0
  obtain ⟨p1, h1, h⟩ := Option.bind_eq_some_iff.1 h
  obtain ⟨l1, g1, c1⟩ := says_num hB p0.2 p1.1 p1.2 (by omega) h1
  have k1 := cat_ c0 c1 l0 l1 g1
  simp only [Option.some.injEq, Prod.mk.injEq] at h
  obtain ⟨rfl, rfl⟩ := h
  refine ⟨by omega, g1, ?_, rfl⟩
  rw [k1]
  change _ = ([.ls, .lc] : List Ltr).flatMap _
  simp only [encF, List.flatMap_cons, List.flatMap_nil, List.append_nil, List.append_assoc]
theorem reads_k4 : ReadsK 4 := by
  intro xs rest a x hk hx hb h
  have ols := hx .ls (by simp [word, ltrList])
  have olc := hx .lc (by simp [word, ltrList])
  replace hb := blank_eq hb
  obtain ⟨x0, ⟨v0, v1, v2⟩, x2, x3, x4, x5, x6, x7, x8, x9, x10, ⟨r0, r1, r2, r3⟩, x12, x13, x14, x15⟩ := x
  change clrFs [.ls, .lc] _ = _ at hb
  simp only [clrFs, List.foldl_cons, List.foldl_nil, clrF, zeroNote, S34.mk.injEq, S23.mk.injEq, S29.mk.injEq, eq_self, true_and, and_true] at hb hk
  clear hx
  subst hk
  obtain ⟨-, ⟨rfl, rfl, rfl⟩, rfl, rfl, rfl, rfl, rfl, rfl, rfl, ⟨rfl, rfl, rfl, rfl⟩, rfl, rfl, rfl, rfl⟩ := hb
  change List.drop a xs = ([.ls, .lc] : List Ltr).flatMap _ ++ rest at h
  simp only [encF, List.flatMap_cons, List.flatMap_nil, List.append_nil, List.append_assoc] at h
  have r_0 := reads_num xs _ _ _ ols h
  have d_0 := drop_next h
  have r_1 := reads_num xs _ _ _ olc d_0
  change dFs [.ls, .lc] xs a (zeroNote 4) = some (_, a + (([.ls, .lc] : List Ltr).flatMap _).length)
  simp only [dFs, dF, zeroNote, r_0, r_1, Option.bind_some]
  simp only [encF, List.flatMap_cons, List.flatMap_nil, List.append_nil, List.append_assoc, List.length_append, Nat.add_assoc]
  rfl
theorem says_k5 : SaysK 5 := by
  intro xs a b x hB ha h
  change dFs [.ls, .lc, .lt, .uW] xs a (zeroNote 5) = _ at h
  simp only [dFs, dF, zeroNote, Option.bind_assoc, Option.bind_some] at h
  obtain ⟨p0, h0, h⟩ := Option.bind_eq_some_iff.1 h
  obtain ⟨l0, g0, c0⟩ := says_num hB a p0.1 p0.2 (by omega) h0
  obtain ⟨p1, h1, h⟩ := Option.bind_eq_some_iff.1 h
  obtain ⟨l1, g1, c1⟩ := says_num hB p0.2 p1.1 p1.2 (by omega) h1
  have k1 := cat_ c0 c1 l0 l1 g1
  obtain ⟨p2, h2, h⟩ := Option.bind_eq_some_iff.1 h
  obtain ⟨l2, g2, c2⟩ := says_num hB p1.2 p2.1 p2.2 (by omega) h2
  have k2 := cat_ k1 c2 (by omega) l2 g2
  obtain ⟨p3, h3, h⟩ := Option.bind_eq_some_iff.1 h
  obtain ⟨l3, g3, c3⟩ := says_lst hB (says_Watch hB) p2.2 p3.1 p3.2 (by omega) h3
  have k3 := cat_ k2 c3 (by omega) l3 g3
  simp only [Option.some.injEq, Prod.mk.injEq] at h
  obtain ⟨rfl, rfl⟩ := h
  refine ⟨by omega, g3, ?_, rfl⟩
  rw [k3]
  change _ = ([.ls, .lc, .lt, .uW] : List Ltr).flatMap _
  simp only [encF, List.flatMap_cons, List.flatMap_nil, List.append_nil, List.append_assoc]
theorem reads_k5 : ReadsK 5 := by
  intro xs rest a x hk hx hb h
  have ols := hx .ls (by simp [word, ltrList])
  have olc := hx .lc (by simp [word, ltrList])
  have olt := hx .lt (by simp [word, ltrList])
  have ouW := hx .uW (by simp [word, ltrList])
  replace hb := blank_eq hb
  obtain ⟨x0, ⟨v0, v1, v2⟩, x2, x3, x4, x5, x6, x7, x8, x9, x10, ⟨r0, r1, r2, r3⟩, x12, x13, x14, x15⟩ := x
  change clrFs [.ls, .lc, .lt, .uW] _ = _ at hb
  simp only [clrFs, List.foldl_cons, List.foldl_nil, clrF, zeroNote, S34.mk.injEq, S23.mk.injEq, S29.mk.injEq, eq_self, true_and, and_true] at hb hk
  clear hx
  subst hk
  obtain ⟨-, ⟨rfl, rfl, rfl⟩, rfl, rfl, rfl, rfl, rfl, rfl, ⟨rfl, rfl, rfl, rfl⟩, rfl, rfl, rfl⟩ := hb
  change List.drop a xs = ([.ls, .lc, .lt, .uW] : List Ltr).flatMap _ ++ rest at h
  simp only [encF, List.flatMap_cons, List.flatMap_nil, List.append_nil, List.append_assoc] at h
  have r_0 := reads_num xs _ _ _ ols h
  have d_0 := drop_next h
  have r_1 := reads_num xs _ _ _ olc d_0
  have d_1 := drop_next d_0
  have r_2 := reads_num xs _ _ _ olt d_1
  have d_2 := drop_next d_1
  have r_3 := reads_lst reads_Watch xs _ _ _ ⟨by have := (ouW).1; omega, (ouW).2⟩ d_2
  change dFs [.ls, .lc, .lt, .uW] xs a (zeroNote 5) = some (_, a + (([.ls, .lc, .lt, .uW] : List Ltr).flatMap _).length)
  simp only [dFs, dF, zeroNote, r_0, r_1, r_2, r_3, Option.bind_some]
  simp only [encF, List.flatMap_cons, List.flatMap_nil, List.append_nil, List.append_assoc, List.length_append, Nat.add_assoc]
  rfl
theorem says_k6 : SaysK 6 := by
  intro xs a b x hB ha h
  change dFs [.ls, .lc, .lw] xs a (zeroNote 6) = _ at h
  simp only [dFs, dF, zeroNote, Option.bind_assoc, Option.bind_some] at h
  obtain ⟨p0, h0, h⟩ := Option.bind_eq_some_iff.1 h
  obtain ⟨l0, g0, c0⟩ := says_num hB a p0.1 p0.2 (by omega) h0
  obtain ⟨p1, h1, h⟩ := Option.bind_eq_some_iff.1 h
  obtain ⟨l1, g1, c1⟩ := says_num hB p0.2 p1.1 p1.2 (by omega) h1
  have k1 := cat_ c0 c1 l0 l1 g1
  obtain ⟨p2, h2, h⟩ := Option.bind_eq_some_iff.1 h
  obtain ⟨l2, g2, c2⟩ := says_lst hB (says_Watch hB) p1.2 p2.1 p2.2 (by omega) h2
  have k2 := cat_ k1 c2 (by omega) l2 g2
  simp only [Option.some.injEq, Prod.mk.injEq] at h
  obtain ⟨rfl, rfl⟩ := h
  refine ⟨by omega, g2, ?_, rfl⟩
  rw [k2]
  change _ = ([.ls, .lc, .lw] : List Ltr).flatMap _
  simp only [encF, List.flatMap_cons, List.flatMap_nil, List.append_nil, List.append_assoc]
theorem reads_k6 : ReadsK 6 := by
  intro xs rest a x hk hx hb h
  have ols := hx .ls (by simp [word, ltrList])
  have olc := hx .lc (by simp [word, ltrList])
  have olw := hx .lw (by simp [word, ltrList])
  replace hb := blank_eq hb
  obtain ⟨x0, ⟨v0, v1, v2⟩, x2, x3, x4, x5, x6, x7, x8, x9, x10, ⟨r0, r1, r2, r3⟩, x12, x13, x14, x15⟩ := x
  change clrFs [.ls, .lc, .lw] _ = _ at hb
  simp only [clrFs, List.foldl_cons, List.foldl_nil, clrF, zeroNote, S34.mk.injEq, S23.mk.injEq, S29.mk.injEq, eq_self, true_and, and_true] at hb hk
  clear hx
  subst hk
  obtain ⟨-, ⟨rfl, rfl, rfl⟩, rfl, rfl, rfl, rfl, rfl, rfl, rfl, ⟨rfl, rfl, rfl, rfl⟩, rfl, rfl, rfl⟩ := hb
  change List.drop a xs = ([.ls, .lc, .lw] : List Ltr).flatMap _ ++ rest at h
  simp only [encF, List.flatMap_cons, List.flatMap_nil, List.append_nil, List.append_assoc] at h
  have r_0 := reads_num xs _ _ _ ols h
  have d_0 := drop_next h
  have r_1 := reads_num xs _ _ _ olc d_0
  have d_1 := drop_next d_0
  have r_2 := reads_lst reads_Watch xs _ _ _ ⟨by have := (olw).1; omega, (olw).2⟩ d_1
  change dFs [.ls, .lc, .lw] xs a (zeroNote 6) = some (_, a + (([.ls, .lc, .lw] : List Ltr).flatMap _).length)
  simp only [dFs, dF, zeroNote, r_0, r_1, r_2, Option.bind_some]
  simp only [encF, List.flatMap_cons, List.flatMap_nil, List.append_nil, List.append_assoc, List.length_append, Nat.add_assoc]
  rfl
theorem says_k7 : SaysK 7 := by
  intro xs a b x hB ha h
  change dFs [.ls, .lc, .ld] xs a (zeroNote 7) = _ at h
  simp only [dFs, dF, zeroNote, Option.bind_assoc, Option.bind_some] at h
  obtain ⟨p0, h0, h⟩ := Option.bind_eq_some_iff.1 h
  obtain ⟨l0, g0, c0⟩ := says_num hB a p0.1 p0.2 (by omega) h0
  obtain ⟨p1, h1, h⟩ := Option.bind_eq_some_iff.1 h
  obtain ⟨l1, g1, c1⟩ := says_num hB p0.2 p1.1 p1.2 (by omega) h1
  have k1 := cat_ c0 c1 l0 l1 g1
  obtain ⟨p2, h2, h⟩ := Option.bind_eq_some_iff.1 h
  obtain ⟨l2, g2, c2⟩ := says_lst hB (says_Watch hB) p1.2 p2.1 p2.2 (by omega) h2
  have k2 := cat_ k1 c2 (by omega) l2 g2
  simp only [Option.some.injEq, Prod.mk.injEq] at h
  obtain ⟨rfl, rfl⟩ := h
  refine ⟨by omega, g2, ?_, rfl⟩
  rw [k2]
  change _ = ([.ls, .lc, .ld] : List Ltr).flatMap _
  simp only [encF, List.flatMap_cons, List.flatMap_nil, List.append_nil, List.append_assoc]
theorem reads_k7 : ReadsK 7 := by
  intro xs rest a x hk hx hb h
  have ols := hx .ls (by simp [word, ltrList])
  have olc := hx .lc (by simp [word, ltrList])
  have old := hx .ld (by simp [word, ltrList])
  replace hb := blank_eq hb
  obtain ⟨x0, ⟨v0, v1, v2⟩, x2, x3, x4, x5, x6, x7, x8, x9, x10, ⟨r0, r1, r2, r3⟩, x12, x13, x14, x15⟩ := x
  change clrFs [.ls, .lc, .ld] _ = _ at hb
  simp only [clrFs, List.foldl_cons, List.foldl_nil, clrF, zeroNote, S34.mk.injEq, S23.mk.injEq, S29.mk.injEq, eq_self, true_and, and_true] at hb hk
  clear hx
  subst hk
  obtain ⟨-, ⟨rfl, rfl, rfl⟩, rfl, rfl, rfl, rfl, rfl, rfl, rfl, ⟨rfl, rfl, rfl, rfl⟩, rfl, rfl, rfl⟩ := hb
  change List.drop a xs = ([.ls, .lc, .ld] : List Ltr).flatMap _ ++ rest at h
  simp only [encF, List.flatMap_cons, List.flatMap_nil, List.append_nil, List.append_assoc] at h
  have r_0 := reads_num xs _ _ _ ols h
  have d_0 := drop_next h
  have r_1 := reads_num xs _ _ _ olc d_0
  have d_1 := drop_next d_0
  have r_2 := reads_lst reads_Watch xs _ _ _ ⟨by have := (old).1; omega, (old).2⟩ d_1
  change dFs [.ls, .lc, .ld] xs a (zeroNote 7) = some (_, a + (([.ls, .lc, .ld] : List Ltr).flatMap _).length)
  simp only [dFs, dF, zeroNote, r_0, r_1, r_2, Option.bind_some]
  simp only [encF, List.flatMap_cons, List.flatMap_nil, List.append_nil, List.append_assoc, List.length_append, Nat.add_assoc]
  rfl
theorem says_k8 : SaysK 8 := by
  intro xs a b x hB ha h
  change dFs [.ls, .lc, .lt] xs a (zeroNote 8) = _ at h
  simp only [dFs, dF, zeroNote, Option.bind_assoc, Option.bind_some] at h
  obtain ⟨p0, h0, h⟩ := Option.bind_eq_some_iff.1 h
  obtain ⟨l0, g0, c0⟩ := says_num hB a p0.1 p0.2 (by omega) h0
  obtain ⟨p1, h1, h⟩ := Option.bind_eq_some_iff.1 h
  obtain ⟨l1, g1, c1⟩ := says_num hB p0.2 p1.1 p1.2 (by omega) h1
  have k1 := cat_ c0 c1 l0 l1 g1
  obtain ⟨p2, h2, h⟩ := Option.bind_eq_some_iff.1 h
  obtain ⟨l2, g2, c2⟩ := says_num hB p1.2 p2.1 p2.2 (by omega) h2
  have k2 := cat_ k1 c2 (by omega) l2 g2
  simp only [Option.some.injEq, Prod.mk.injEq] at h
  obtain ⟨rfl, rfl⟩ := h
  refine ⟨by omega, g2, ?_, rfl⟩
  rw [k2]
  change _ = ([.ls, .lc, .lt] : List Ltr).flatMap _
  simp only [encF, List.flatMap_cons, List.flatMap_nil, List.append_nil, List.append_assoc]
theorem reads_k8 : ReadsK 8 := by
  intro xs rest a x hk hx hb h
  have ols := hx .ls (by simp [word, ltrList])
  have olc := hx .lc (by simp [word, ltrList])
  have olt := hx .lt (by simp [word, ltrList])
  replace hb := blank_eq hb
  obtain ⟨x0, ⟨v0, v1, v2⟩, x2, x3, x4, x5, x6, x7, x8, x9, x10, ⟨r0, r1, r2, r3⟩, x12, x13, x14, x15⟩ := x
  change clrFs [.ls, .lc, .lt] _ = _ at hb
  simp only [clrFs, List.foldl_cons, List.foldl_nil, clrF, zeroNote, S34.mk.injEq, S23.mk.injEq, S29.mk.injEq, eq_self, true_and, and_true] at hb hk
  clear hx
  subst hk
  obtain ⟨-, ⟨rfl, rfl, rfl⟩, rfl, rfl, rfl, rfl, rfl, rfl, ⟨rfl, rfl, rfl, rfl⟩, rfl, rfl, rfl, rfl⟩ := hb
  change List.drop a xs = ([.ls, .lc, .lt] : List Ltr).flatMap _ ++ rest at h
  simp only [encF, List.flatMap_cons, List.flatMap_nil, List.append_nil, List.append_assoc] at h
  have r_0 := reads_num xs _ _ _ ols h
  have d_0 := drop_next h
  have r_1 := reads_num xs _ _ _ olc d_0
  have d_1 := drop_next d_0
  have r_2 := reads_num xs _ _ _ olt d_1
  change dFs [.ls, .lc, .lt] xs a (zeroNote 8) = some (_, a + (([.ls, .lc, .lt] : List Ltr).flatMap _).length)
  simp only [dFs, dF, zeroNote, r_0, r_1, r_2, Option.bind_some]
  simp only [encF, List.flatMap_cons, List.flatMap_nil, List.append_nil, List.append_assoc, List.length_append, Nat.add_assoc]
  rfl
theorem says_k9 : SaysK 9 := by
  intro xs a b x hB ha h
  change dFs [.ln, .ls, .le] xs a (zeroNote 9) = _ at h
  simp only [dFs, dF, zeroNote, Option.bind_assoc, Option.bind_some] at h
  obtain ⟨p0, h0, h⟩ := Option.bind_eq_some_iff.1 h
  obtain ⟨l0, g0, c0⟩ := says_num hB a p0.1 p0.2 (by omega) h0
  obtain ⟨p1, h1, h⟩ := Option.bind_eq_some_iff.1 h
  obtain ⟨l1, g1, c1⟩ := says_num hB p0.2 p1.1 p1.2 (by omega) h1
  have k1 := cat_ c0 c1 l0 l1 g1
  obtain ⟨p2, h2, h⟩ := Option.bind_eq_some_iff.1 h
  obtain ⟨l2, g2, c2⟩ := says_num hB p1.2 p2.1 p2.2 (by omega) h2
  have k2 := cat_ k1 c2 (by omega) l2 g2
  simp only [Option.some.injEq, Prod.mk.injEq] at h
  obtain ⟨rfl, rfl⟩ := h
  refine ⟨by omega, g2, ?_, rfl⟩
  rw [k2]
  change _ = ([.ln, .ls, .le] : List Ltr).flatMap _
  simp only [encF, List.flatMap_cons, List.flatMap_nil, List.append_nil, List.append_assoc]
theorem reads_k9 : ReadsK 9 := by
  intro xs rest a x hk hx hb h
  have oln := hx .ln (by simp [word, ltrList])
  have ols := hx .ls (by simp [word, ltrList])
  have ole := hx .le (by simp [word, ltrList])
  replace hb := blank_eq hb
  obtain ⟨x0, ⟨v0, v1, v2⟩, x2, x3, x4, x5, x6, x7, x8, x9, x10, ⟨r0, r1, r2, r3⟩, x12, x13, x14, x15⟩ := x
  change clrFs [.ln, .ls, .le] _ = _ at hb
  simp only [clrFs, List.foldl_cons, List.foldl_nil, clrF, zeroNote, S34.mk.injEq, S23.mk.injEq, S29.mk.injEq, eq_self, true_and, and_true] at hb hk
  clear hx
  subst hk
  obtain ⟨-, ⟨rfl, rfl⟩, rfl, rfl, rfl, rfl, rfl, rfl, rfl, ⟨rfl, rfl, rfl, rfl⟩, rfl, rfl, rfl, rfl⟩ := hb
  change List.drop a xs = ([.ln, .ls, .le] : List Ltr).flatMap _ ++ rest at h
  simp only [encF, List.flatMap_cons, List.flatMap_nil, List.append_nil, List.append_assoc] at h
  have r_0 := reads_num xs _ _ _ oln h
  have d_0 := drop_next h
  have r_1 := reads_num xs _ _ _ ols d_0
  have d_1 := drop_next d_0
  have r_2 := reads_num xs _ _ _ ole d_1
  change dFs [.ln, .ls, .le] xs a (zeroNote 9) = some (_, a + (([.ln, .ls, .le] : List Ltr).flatMap _).length)
  simp only [dFs, dF, zeroNote, r_0, r_1, r_2, Option.bind_some]
  simp only [encF, List.flatMap_cons, List.flatMap_nil, List.append_nil, List.append_assoc, List.length_append, Nat.add_assoc]
  rfl
theorem says_k10 : SaysK 10 := by
  intro xs a b x hB ha h
  change dFs [.ln, .ls, .lr, .ly] xs a (zeroNote 10) = _ at h
  simp only [dFs, dF, zeroNote, Option.bind_assoc, Option.bind_some] at h
  obtain ⟨p0, h0, h⟩ := Option.bind_eq_some_iff.1 h
  obtain ⟨l0, g0, c0⟩ := says_num hB a p0.1 p0.2 (by omega) h0
  obtain ⟨p1, h1, h⟩ := Option.bind_eq_some_iff.1 h
  obtain ⟨l1, g1, c1⟩ := says_num hB p0.2 p1.1 p1.2 (by omega) h1
  have k1 := cat_ c0 c1 l0 l1 g1
  obtain ⟨p2, h2, h⟩ := Option.bind_eq_some_iff.1 h
  obtain ⟨l2, g2, c2⟩ := says_num hB p1.2 p2.1 p2.2 (by omega) h2
  have k2 := cat_ k1 c2 (by omega) l2 g2
  obtain ⟨p3, h3, h⟩ := Option.bind_eq_some_iff.1 h
  obtain ⟨l3, g3, c3⟩ := says_Reply hB p2.2 p3.1 p3.2 (by omega) h3
  have k3 := cat_ k2 c3 (by omega) l3 g3
  simp only [Option.some.injEq, Prod.mk.injEq] at h
  obtain ⟨rfl, rfl⟩ := h
  refine ⟨by omega, g3, ?_, rfl⟩
  rw [k3]
  change _ = ([.ln, .ls, .lr, .ly] : List Ltr).flatMap _
  simp only [encF, List.flatMap_cons, List.flatMap_nil, List.append_nil, List.append_assoc]
theorem reads_k10 : ReadsK 10 := by
  intro xs rest a x hk hx hb h
  have oln := hx .ln (by simp [word, ltrList])
  have ols := hx .ls (by simp [word, ltrList])
  have olr := hx .lr (by simp [word, ltrList])
  have oly := hx .ly (by simp [word, ltrList])
  replace hb := blank_eq hb
  obtain ⟨x0, ⟨v0, v1, v2⟩, x2, x3, x4, x5, x6, x7, x8, x9, x10, ⟨r0, r1, r2, r3⟩, x12, x13, x14, x15⟩ := x
  change clrFs [.ln, .ls, .lr, .ly] _ = _ at hb
  simp only [clrFs, List.foldl_cons, List.foldl_nil, clrF, zeroNote, S34.mk.injEq, S23.mk.injEq, S29.mk.injEq, eq_self, true_and, and_true] at hb hk
  clear hx
  subst hk
  obtain ⟨-, ⟨rfl, rfl⟩, rfl, rfl, rfl, rfl, rfl, rfl, rfl, rfl, rfl, rfl, rfl⟩ := hb
  change List.drop a xs = ([.ln, .ls, .lr, .ly] : List Ltr).flatMap _ ++ rest at h
  simp only [encF, List.flatMap_cons, List.flatMap_nil, List.append_nil, List.append_assoc] at h
  have r_0 := reads_num xs _ _ _ oln h
  have d_0 := drop_next h
  have r_1 := reads_num xs _ _ _ ols d_0
  have d_1 := drop_next d_0
  have r_2 := reads_num xs _ _ _ olr d_1
  have d_2 := drop_next d_1
  have r_3 := reads_Reply xs _ _ _ oly d_2
  change dFs [.ln, .ls, .lr, .ly] xs a (zeroNote 10) = some (_, a + (([.ln, .ls, .lr, .ly] : List Ltr).flatMap _).length)
  simp only [dFs, dF, zeroNote, r_0, r_1, r_2, r_3, Option.bind_some]
  simp only [encF, List.flatMap_cons, List.flatMap_nil, List.append_nil, List.append_assoc, List.length_append, Nat.add_assoc]
  rfl
theorem says_k11 : SaysK 11 := by
  intro xs a b x hB ha h
  change dFs [.ln, .ls] xs a (zeroNote 11) = _ at h
  simp only [dFs, dF, zeroNote, Option.bind_assoc, Option.bind_some] at h
  obtain ⟨p0, h0, h⟩ := Option.bind_eq_some_iff.1 h
  obtain ⟨l0, g0, c0⟩ := says_num hB a p0.1 p0.2 (by omega) h0
  obtain ⟨p1, h1, h⟩ := Option.bind_eq_some_iff.1 h
  obtain ⟨l1, g1, c1⟩ := says_num hB p0.2 p1.1 p1.2 (by omega) h1
  have k1 := cat_ c0 c1 l0 l1 g1
  simp only [Option.some.injEq, Prod.mk.injEq] at h
  obtain ⟨rfl, rfl⟩ := h
  refine ⟨by omega, g1, ?_, rfl⟩
  rw [k1]
  change _ = ([.ln, .ls] : List Ltr).flatMap _
  simp only [encF, List.flatMap_cons, List.flatMap_nil, List.append_nil, List.append_assoc]
theorem reads_k11 : ReadsK 11 := by
  intro xs rest a x hk hx hb h
  have oln := hx .ln (by simp [word, ltrList])
  have ols := hx .ls (by simp [word, ltrList])
  replace hb := blank_eq hb
  obtain ⟨x0, ⟨v0, v1, v2⟩, x2, x3, x4, x5, x6, x7, x8, x9, x10, ⟨r0, r1, r2, r3⟩, x12, x13, x14, x15⟩ := x
  change clrFs [.ln, .ls] _ = _ at hb
  simp only [clrFs, List.foldl_cons, List.foldl_nil, clrF, zeroNote, S34.mk.injEq, S23.mk.injEq, S29.mk.injEq, eq_self, true_and, and_true] at hb hk
  clear hx
  subst hk
  obtain ⟨-, ⟨rfl, rfl⟩, rfl, rfl, rfl, rfl, rfl, rfl, rfl, rfl, ⟨rfl, rfl, rfl, rfl⟩, rfl, rfl, rfl, rfl⟩ := hb
  change List.drop a xs = ([.ln, .ls] : List Ltr).flatMap _ ++ rest at h
  simp only [encF, List.flatMap_cons, List.flatMap_nil, List.append_nil, List.append_assoc] at h
  have r_0 := reads_num xs _ _ _ oln h
  have d_0 := drop_next h
  have r_1 := reads_num xs _ _ _ ols d_0
  change dFs [.ln, .ls] xs a (zeroNote 11) = some (_, a + (([.ln, .ls] : List Ltr).flatMap _).length)
  simp only [dFs, dF, zeroNote, r_0, r_1, Option.bind_some]
  simp only [encF, List.flatMap_cons, List.flatMap_nil, List.append_nil, List.append_assoc, List.length_append, Nat.add_assoc]
  rfl
theorem says_k12 : SaysK 12 := by
  intro xs a b x hB ha h
  change dFs [.ln, .ls, .lc, .lt, .le] xs a (zeroNote 12) = _ at h
  simp only [dFs, dF, zeroNote, Option.bind_assoc, Option.bind_some] at h
  obtain ⟨p0, h0, h⟩ := Option.bind_eq_some_iff.1 h
  obtain ⟨l0, g0, c0⟩ := says_num hB a p0.1 p0.2 (by omega) h0
  obtain ⟨p1, h1, h⟩ := Option.bind_eq_some_iff.1 h
  obtain ⟨l1, g1, c1⟩ := says_num hB p0.2 p1.1 p1.2 (by omega) h1
  have k1 := cat_ c0 c1 l0 l1 g1
  obtain ⟨p2, h2, h⟩ := Option.bind_eq_some_iff.1 h
  obtain ⟨l2, g2, c2⟩ := says_num hB p1.2 p2.1 p2.2 (by omega) h2
  have k2 := cat_ k1 c2 (by omega) l2 g2
  obtain ⟨p3, h3, h⟩ := Option.bind_eq_some_iff.1 h
  obtain ⟨l3, g3, c3⟩ := says_num hB p2.2 p3.1 p3.2 (by omega) h3
  have k3 := cat_ k2 c3 (by omega) l3 g3
  obtain ⟨p4, h4, h⟩ := Option.bind_eq_some_iff.1 h
  obtain ⟨l4, g4, c4⟩ := says_num hB p3.2 p4.1 p4.2 (by omega) h4
  have k4 := cat_ k3 c4 (by omega) l4 g4
  simp only [Option.some.injEq, Prod.mk.injEq] at h
  obtain ⟨rfl, rfl⟩ := h
  refine ⟨by omega, g4, ?_, rfl⟩
  rw [k4]
  change _ = ([.ln, .ls, .lc, .lt, .le] : List Ltr).flatMap _
  simp only [encF, List.flatMap_cons, List.flatMap_nil, List.append_nil, List.append_assoc]
theorem reads_k12 : ReadsK 12 := by
  intro xs rest a x hk hx hb h
  have oln := hx .ln (by simp [word, ltrList])
  have ols := hx .ls (by simp [word, ltrList])
  have olc := hx .lc (by simp [word, ltrList])
  have olt := hx .lt (by simp [word, ltrList])
  have ole := hx .le (by simp [word, ltrList])
  replace hb := blank_eq hb
  obtain ⟨x0, ⟨v0, v1, v2⟩, x2, x3, x4, x5, x6, x7, x8, x9, x10, ⟨r0, r1, r2, r3⟩, x12, x13, x14, x15⟩ := x
  change clrFs [.ln, .ls, .lc, .lt, .le] _ = _ at hb
  simp only [clrFs, List.foldl_cons, List.foldl_nil, clrF, zeroNote, S34.mk.injEq, S23.mk.injEq, S29.mk.injEq, eq_self, true_and, and_true] at hb hk
  clear hx
  subst hk
  obtain ⟨-, ⟨rfl, rfl⟩, rfl, rfl, rfl, rfl, rfl, ⟨rfl, rfl, rfl, rfl⟩, rfl, rfl, rfl, rfl⟩ := hb
  change List.drop a xs = ([.ln, .ls, .lc, .lt, .le] : List Ltr).flatMap _ ++ rest at h
  simp only [encF, List.flatMap_cons, List.flatMap_nil, List.append_nil, List.append_assoc] at h
  have r_0 := reads_num xs _ _ _ oln h
  have d_0 := drop_next h
  have r_1 := reads_num xs _ _ _ ols d_0
  have d_1 := drop_next d_0
  have r_2 := reads_num xs _ _ _ olc d_1
  have d_2 := drop_next d_1
  have r_3 := reads_num xs _ _ _ olt d_2
  have d_3 := drop_next d_2
  have r_4 := reads_num xs _ _ _ ole d_3
  change dFs [.ln, .ls, .lc, .lt, .le] xs a (zeroNote 12) = some (_, a + (([.ln, .ls, .lc, .lt, .le] : List Ltr).flatMap _).length)
  simp only [dFs, dF, zeroNote, r_0, r_1, r_2, r_3, r_4, Option.bind_some]
  simp only [encF, List.flatMap_cons, List.flatMap_nil, List.append_nil, List.append_assoc, List.length_append, Nat.add_assoc]
  rfl
theorem says_k13 : SaysK 13 := by
  intro xs a b x hB ha h
  change dFs [.ln, .ls, .lc, .lt, .le, .uP] xs a (zeroNote 13) = _ at h
  simp only [dFs, dF, zeroNote, Option.bind_assoc, Option.bind_some] at h
  obtain ⟨p0, h0, h⟩ := Option.bind_eq_some_iff.1 h
  obtain ⟨l0, g0, c0⟩ := says_num hB a p0.1 p0.2 (by omega) h0
  obtain ⟨p1, h1, h⟩ := Option.bind_eq_some_iff.1 h
  obtain ⟨l1, g1, c1⟩ := says_num hB p0.2 p1.1 p1.2 (by omega) h1
  have k1 := cat_ c0 c1 l0 l1 g1
  obtain ⟨p2, h2, h⟩ := Option.bind_eq_some_iff.1 h
  obtain ⟨l2, g2, c2⟩ := says_num hB p1.2 p2.1 p2.2 (by omega) h2
  have k2 := cat_ k1 c2 (by omega) l2 g2
  obtain ⟨p3, h3, h⟩ := Option.bind_eq_some_iff.1 h
  obtain ⟨l3, g3, c3⟩ := says_num hB p2.2 p3.1 p3.2 (by omega) h3
  have k3 := cat_ k2 c3 (by omega) l3 g3
  obtain ⟨p4, h4, h⟩ := Option.bind_eq_some_iff.1 h
  obtain ⟨l4, g4, c4⟩ := says_num hB p3.2 p4.1 p4.2 (by omega) h4
  have k4 := cat_ k3 c4 (by omega) l4 g4
  obtain ⟨p5, h5, h⟩ := Option.bind_eq_some_iff.1 h
  obtain ⟨l5, g5, c5⟩ := says_lst hB (says_Part hB) p4.2 p5.1 p5.2 (by omega) h5
  have k5 := cat_ k4 c5 (by omega) l5 g5
  simp only [Option.some.injEq, Prod.mk.injEq] at h
  obtain ⟨rfl, rfl⟩ := h
  refine ⟨by omega, g5, ?_, rfl⟩
  rw [k5]
  change _ = ([.ln, .ls, .lc, .lt, .le, .uP] : List Ltr).flatMap _
  simp only [encF, List.flatMap_cons, List.flatMap_nil, List.append_nil, List.append_assoc]
theorem reads_k13 : ReadsK 13 := by
  intro xs rest a x hk hx hb h
  have oln := hx .ln (by simp [word, ltrList])
  have ols := hx .ls (by simp [word, ltrList])
  have olc := hx .lc (by simp [word, ltrList])
  have olt := hx .lt (by simp [word, ltrList])
  have ole := hx .le (by simp [word, ltrList])
  have ouP := hx .uP (by simp [word, ltrList])
  replace hb := blank_eq hb
  obtain ⟨x0, ⟨v0, v1, v2⟩, x2, x3, x4, x5, x6, x7, x8, x9, x10, ⟨r0, r1, r2, r3⟩, x12, x13, x14, x15⟩ := x
  change clrFs [.ln, .ls, .lc, .lt, .le, .uP] _ = _ at hb
  simp only [clrFs, List.foldl_cons, List.foldl_nil, clrF, zeroNote, S34.mk.injEq, S23.mk.injEq, S29.mk.injEq, eq_self, true_and, and_true] at hb hk
  clear hx
  subst hk
  obtain ⟨-, ⟨rfl, rfl⟩, rfl, rfl, rfl, rfl, rfl, ⟨rfl, rfl, rfl, rfl⟩, rfl, rfl, rfl⟩ := hb
  change List.drop a xs = ([.ln, .ls, .lc, .lt, .le, .uP] : List Ltr).flatMap _ ++ rest at h
  simp only [encF, List.flatMap_cons, List.flatMap_nil, List.append_nil, List.append_assoc] at h
  have r_0 := reads_num xs _ _ _ oln h
  have d_0 := drop_next h
  have r_1 := reads_num xs _ _ _ ols d_0
  have d_1 := drop_next d_0
  have r_2 := reads_num xs _ _ _ olc d_1
  have d_2 := drop_next d_1
  have r_3 := reads_num xs _ _ _ olt d_2
  have d_3 := drop_next d_2
  have r_4 := reads_num xs _ _ _ ole d_3
  have d_4 := drop_next d_3
  have r_5 := reads_lst reads_Part xs _ _ _ ⟨by have := (ouP).1; omega, (ouP).2⟩ d_4
  change dFs [.ln, .ls, .lc, .lt, .le, .uP] xs a (zeroNote 13) = some (_, a + (([.ln, .ls, .lc, .lt, .le, .uP] : List Ltr).flatMap _).length)
  simp only [dFs, dF, zeroNote, r_0, r_1, r_2, r_3, r_4, r_5, Option.bind_some]
  simp only [encF, List.flatMap_cons, List.flatMap_nil, List.append_nil, List.append_assoc, List.length_append, Nat.add_assoc]
  rfl
theorem says_k14 : SaysK 14 := by
  intro xs a b x hB ha h
  change dFs [.ln, .ls, .lc, .uD, .uI] xs a (zeroNote 14) = _ at h
  simp only [dFs, dF, zeroNote, Option.bind_assoc, Option.bind_some] at h
  obtain ⟨p0, h0, h⟩ := Option.bind_eq_some_iff.1 h
  obtain ⟨l0, g0, c0⟩ := says_num hB a p0.1 p0.2 (by omega) h0
  obtain ⟨p1, h1, h⟩ := Option.bind_eq_some_iff.1 h
  obtain ⟨l1, g1, c1⟩ := says_num hB p0.2 p1.1 p1.2 (by omega) h1
  have k1 := cat_ c0 c1 l0 l1 g1
  obtain ⟨p2, h2, h⟩ := Option.bind_eq_some_iff.1 h
  obtain ⟨l2, g2, c2⟩ := says_num hB p1.2 p2.1 p2.2 (by omega) h2
  have k2 := cat_ k1 c2 (by omega) l2 g2
  obtain ⟨p3, h3, h⟩ := Option.bind_eq_some_iff.1 h
  obtain ⟨l3, g3, c3⟩ := says_lst hB (says_Watch hB) p2.2 p3.1 p3.2 (by omega) h3
  have k3 := cat_ k2 c3 (by omega) l3 g3
  obtain ⟨p4, h4, h⟩ := Option.bind_eq_some_iff.1 h
  obtain ⟨l4, g4, c4⟩ := says_lst hB (says_Item hB) p3.2 p4.1 p4.2 (by omega) h4
  have k4 := cat_ k3 c4 (by omega) l4 g4
  simp only [Option.some.injEq, Prod.mk.injEq] at h
  obtain ⟨rfl, rfl⟩ := h
  refine ⟨by omega, g4, ?_, rfl⟩
  rw [k4]
  change _ = ([.ln, .ls, .lc, .uD, .uI] : List Ltr).flatMap _
  simp only [encF, List.flatMap_cons, List.flatMap_nil, List.append_nil, List.append_assoc]
theorem reads_k14 : ReadsK 14 := by
  intro xs rest a x hk hx hb h
  have oln := hx .ln (by simp [word, ltrList])
  have ols := hx .ls (by simp [word, ltrList])
  have olc := hx .lc (by simp [word, ltrList])
  have ouD := hx .uD (by simp [word, ltrList])
  have ouI := hx .uI (by simp [word, ltrList])
  replace hb := blank_eq hb
  obtain ⟨x0, ⟨v0, v1, v2⟩, x2, x3, x4, x5, x6, x7, x8, x9, x10, ⟨r0, r1, r2, r3⟩, x12, x13, x14, x15⟩ := x
  change clrFs [.ln, .ls, .lc, .uD, .uI] _ = _ at hb
  simp only [clrFs, List.foldl_cons, List.foldl_nil, clrF, zeroNote, S34.mk.injEq, S23.mk.injEq, S29.mk.injEq, eq_self, true_and, and_true] at hb hk
  clear hx
  subst hk
  obtain ⟨-, ⟨rfl, rfl⟩, rfl, rfl, rfl, rfl, rfl, rfl, rfl, ⟨rfl, rfl, rfl, rfl⟩, rfl, rfl⟩ := hb
  change List.drop a xs = ([.ln, .ls, .lc, .uD, .uI] : List Ltr).flatMap _ ++ rest at h
  simp only [encF, List.flatMap_cons, List.flatMap_nil, List.append_nil, List.append_assoc] at h
  have r_0 := reads_num xs _ _ _ oln h
  have d_0 := drop_next h
  have r_1 := reads_num xs _ _ _ ols d_0
  have d_1 := drop_next d_0
  have r_2 := reads_num xs _ _ _ olc d_1
  have d_2 := drop_next d_1
  have r_3 := reads_lst reads_Watch xs _ _ _ ⟨by have := (ouD).1; omega, (ouD).2⟩ d_2
  have d_3 := drop_next d_2
  have r_4 := reads_lst reads_Item xs _ _ _ ⟨by have := (ouI).1; omega, (ouI).2⟩ d_3
  change dFs [.ln, .ls, .lc, .uD, .uI] xs a (zeroNote 14) = some (_, a + (([.ln, .ls, .lc, .uD, .uI] : List Ltr).flatMap _).length)
  simp only [dFs, dF, zeroNote, r_0, r_1, r_2, r_3, r_4, Option.bind_some]
  simp only [encF, List.flatMap_cons, List.flatMap_nil, List.append_nil, List.append_assoc, List.length_append, Nat.add_assoc]
  rfl
theorem says_k15 : SaysK 15 := by
  intro xs a b x hB ha h
  change dFs [.lv] xs a (zeroNote 15) = _ at h
  simp only [dFs, dF, zeroNote, Option.bind_assoc, Option.bind_some] at h
  obtain ⟨p0, h0, h⟩ := Option.bind_eq_some_iff.1 h
  obtain ⟨l0, g0, c0⟩ := says_num hB a p0.1 p0.2 (by omega) h0
  obtain ⟨p1, h1, h⟩ := Option.bind_eq_some_iff.1 h
  obtain ⟨l1, g1, c1⟩ := says_num hB p0.2 p1.1 p1.2 (by omega) h1
  have k1 := cat_ c0 c1 l0 l1 g1
  obtain ⟨p2, h2, h⟩ := Option.bind_eq_some_iff.1 h
  obtain ⟨l2, g2, c2⟩ := says_num hB p1.2 p2.1 p2.2 (by omega) h2
  have k2 := cat_ k1 c2 (by omega) l2 g2
  simp only [Option.some.injEq, Prod.mk.injEq] at h
  obtain ⟨rfl, rfl⟩ := h
  refine ⟨by omega, g2, ?_, rfl⟩
  rw [k2]
  change _ = ([.lv] : List Ltr).flatMap _
  simp only [encF, List.flatMap_cons, List.flatMap_nil, List.append_nil, List.append_assoc]
theorem reads_k15 : ReadsK 15 := by
  intro xs rest a x hk hx hb h
  have olv := hx .lv (by simp [word, ltrList])
  replace hb := blank_eq hb
  obtain ⟨x0, ⟨v0, v1, v2⟩, x2, x3, x4, x5, x6, x7, x8, x9, x10, ⟨r0, r1, r2, r3⟩, x12, x13, x14, x15⟩ := x
  change clrFs [.lv] _ = _ at hb
  simp only [clrFs, List.foldl_cons, List.foldl_nil, clrF, zeroNote, S34.mk.injEq, S23.mk.injEq, S29.mk.injEq, eq_self, true_and, and_true] at hb hk
  clear hx
  subst hk
  obtain ⟨-, rfl, rfl, rfl, rfl, rfl, rfl, rfl, rfl, rfl, ⟨rfl, rfl, rfl, rfl⟩, rfl, rfl, rfl, rfl⟩ := hb
  change List.drop a xs = ([.lv] : List Ltr).flatMap _ ++ rest at h
  simp only [encF, List.flatMap_cons, List.flatMap_nil, List.append_nil, List.append_assoc] at h
  have r_0 := reads_num xs _ _ _ olv.1 h
  have d_0 := drop_next h
  have r_1 := reads_num xs _ _ _ olv.2.1 d_0
  have d_1 := drop_next d_0
  have r_2 := reads_num xs _ _ _ olv.2.2 d_1
  change dFs [.lv] xs a (zeroNote 15) = some (_, a + (([.lv] : List Ltr).flatMap _).length)
  simp only [dFs, dF, zeroNote, r_0, r_1, r_2, Option.bind_some]
  simp only [encF, List.flatMap_cons, List.flatMap_nil, List.append_nil, List.append_assoc, List.length_append, Nat.add_assoc]
  rfl
theorem says_k16 : SaysK 16 := by
  intro xs a b x hB ha h
  change dFs [.ln, .lt, .lf] xs a (zeroNote 16) = _ at h
  simp only [dFs, dF, zeroNote, Option.bind_assoc, Option.bind_some] at h
  obtain ⟨p0, h0, h⟩ := Option.bind_eq_some_iff.1 h
  obtain ⟨l0, g0, c0⟩ := says_num hB a p0.1 p0.2 (by omega) h0
  obtain ⟨p1, h1, h⟩ := Option.bind_eq_some_iff.1 h
  obtain ⟨l1, g1, c1⟩ := says_num hB p0.2 p1.1 p1.2 (by omega) h1
  have k1 := cat_ c0 c1 l0 l1 g1
  obtain ⟨p2, h2, h⟩ := Option.bind_eq_some_iff.1 h
  obtain ⟨l2, g2, c2⟩ := says_num hB p1.2 p2.1 p2.2 (by omega) h2
  have k2 := cat_ k1 c2 (by omega) l2 g2
  simp only [Option.some.injEq, Prod.mk.injEq] at h
  obtain ⟨rfl, rfl⟩ := h
  refine ⟨by omega, g2, ?_, rfl⟩
  rw [k2]
  change _ = ([.ln, .lt, .lf] : List Ltr).flatMap _
  simp only [encF, List.flatMap_cons, List.flatMap_nil, List.append_nil, List.append_assoc]
theorem reads_k16 : ReadsK 16 := by
  intro xs rest a x hk hx hb h
  have oln := hx .ln (by simp [word, ltrList])
  have olt := hx .lt (by simp [word, ltrList])
  have olf := hx .lf (by simp [word, ltrList])
  replace hb := blank_eq hb
  obtain ⟨x0, ⟨v0, v1, v2⟩, x2, x3, x4, x5, x6, x7, x8, x9, x10, ⟨r0, r1, r2, r3⟩, x12, x13, x14, x15⟩ := x
  change clrFs [.ln, .lt, .lf] _ = _ at hb
  simp only [clrFs, List.foldl_cons, List.foldl_nil, clrF, zeroNote, S34.mk.injEq, S23.mk.injEq, S29.mk.injEq, eq_self, true_and, and_true] at hb hk
  clear hx
  subst hk
  obtain ⟨-, ⟨rfl, rfl⟩, rfl, rfl, rfl, rfl, rfl, rfl, rfl, ⟨rfl, rfl, rfl, rfl⟩, rfl, rfl, rfl, rfl⟩ := hb
  change List.drop a xs = ([.ln, .lt, .lf] : List Ltr).flatMap _ ++ rest at h
  simp only [encF, List.flatMap_cons, List.flatMap_nil, List.append_nil, List.append_assoc] at h
  have r_0 := reads_num xs _ _ _ oln h
  have d_0 := drop_next h
  have r_1 := reads_num xs _ _ _ olt d_0
  have d_1 := drop_next d_0
  have r_2 := reads_num xs _ _ _ olf d_1
  change dFs [.ln, .lt, .lf] xs a (zeroNote 16) = some (_, a + (([.ln, .lt, .lf] : List Ltr).flatMap _).length)
  simp only [dFs, dF, zeroNote, r_0, r_1, r_2, Option.bind_some]
  simp only [encF, List.flatMap_cons, List.flatMap_nil, List.append_nil, List.append_assoc, List.length_append, Nat.add_assoc]
  rfl
theorem says_k17 : SaysK 17 := by
  intro xs a b x hB ha h
  change dFs [.ln, .lt, .lf, .uE, .lm] xs a (zeroNote 17) = _ at h
  simp only [dFs, dF, zeroNote, Option.bind_assoc, Option.bind_some] at h
  obtain ⟨p0, h0, h⟩ := Option.bind_eq_some_iff.1 h
  obtain ⟨l0, g0, c0⟩ := says_num hB a p0.1 p0.2 (by omega) h0
  obtain ⟨p1, h1, h⟩ := Option.bind_eq_some_iff.1 h
  obtain ⟨l1, g1, c1⟩ := says_num hB p0.2 p1.1 p1.2 (by omega) h1
  have k1 := cat_ c0 c1 l0 l1 g1
  obtain ⟨p2, h2, h⟩ := Option.bind_eq_some_iff.1 h
  obtain ⟨l2, g2, c2⟩ := says_num hB p1.2 p2.1 p2.2 (by omega) h2
  have k2 := cat_ k1 c2 (by omega) l2 g2
  obtain ⟨p3, h3, h⟩ := Option.bind_eq_some_iff.1 h
  obtain ⟨l3, g3, c3⟩ := says_lst hB (says_Entry hB) p2.2 p3.1 p3.2 (by omega) h3
  have k3 := cat_ k2 c3 (by omega) l3 g3
  obtain ⟨p4, h4, h⟩ := Option.bind_eq_some_iff.1 h
  obtain ⟨l4, g4, c4⟩ := says_num hB p3.2 p4.1 p4.2 (by omega) h4
  have k4 := cat_ k3 c4 (by omega) l4 g4
  simp only [Option.some.injEq, Prod.mk.injEq] at h
  obtain ⟨rfl, rfl⟩ := h
  refine ⟨by omega, g4, ?_, rfl⟩
  rw [k4]
  change _ = ([.ln, .lt, .lf, .uE, .lm] : List Ltr).flatMap _
  simp only [encF, List.flatMap_cons, List.flatMap_nil, List.append_nil, List.append_assoc]
theorem reads_k17 : ReadsK 17 := by
  intro xs rest a x hk hx hb h
  have oln := hx .ln (by simp [word, ltrList])
  have olt := hx .lt (by simp [word, ltrList])
  have olf := hx .lf (by simp [word, ltrList])
  have ouE := hx .uE (by simp [word, ltrList])
  have olm := hx .lm (by simp [word, ltrList])
  replace hb := blank_eq hb
  obtain ⟨x0, ⟨v0, v1, v2⟩, x2, x3, x4, x5, x6, x7, x8, x9, x10, ⟨r0, r1, r2, r3⟩, x12, x13, x14, x15⟩ := x
  change clrFs [.ln, .lt, .lf, .uE, .lm] _ = _ at hb
  simp only [clrFs, List.foldl_cons, List.foldl_nil, clrF, zeroNote, S34.mk.injEq, S23.mk.injEq, S29.mk.injEq, eq_self, true_and, and_true] at hb hk
  clear hx
  subst hk
  obtain ⟨-, ⟨rfl, rfl⟩, rfl, rfl, rfl, rfl, rfl, ⟨rfl, rfl, rfl, rfl⟩, rfl, rfl, rfl, rfl⟩ := hb
  change List.drop a xs = ([.ln, .lt, .lf, .uE, .lm] : List Ltr).flatMap _ ++ rest at h
  simp only [encF, List.flatMap_cons, List.flatMap_nil, List.append_nil, List.append_assoc] at h
  have r_0 := reads_num xs _ _ _ oln h
  have d_0 := drop_next h
  have r_1 := reads_num xs _ _ _ olt d_0
  have d_1 := drop_next d_0
  have r_2 := reads_num xs _ _ _ olf d_1
  have d_2 := drop_next d_1
  have r_3 := reads_lst reads_Entry xs _ _ _ ⟨by have := (ouE).1; omega, (ouE).2⟩ d_2
  have d_3 := drop_next d_2
  have r_4 := reads_num xs _ _ _ olm d_3
  change dFs [.ln, .lt, .lf, .uE, .lm] xs a (zeroNote 17) = some (_, a + (([.ln, .lt, .lf, .uE, .lm] : List Ltr).flatMap _).length)
  simp only [dFs, dF, zeroNote, r_0, r_1, r_2, r_3, r_4, Option.bind_some]
  simp only [encF, List.flatMap_cons, List.flatMap_nil, List.append_nil, List.append_assoc, List.length_append, Nat.add_assoc]
  rfl
theorem says_k18 : SaysK 18 := by
  intro xs a b x hB ha h
  change dFs [.ln, .lt] xs a (zeroNote 18) = _ at h
  simp only [dFs, dF, zeroNote, Option.bind_assoc, Option.bind_some] at h
  obtain ⟨p0, h0, h⟩ := Option.bind_eq_some_iff.1 h
  obtain ⟨l0, g0, c0⟩ := says_num hB a p0.1 p0.2 (by omega) h0
  obtain ⟨p1, h1, h⟩ := Option.bind_eq_some_iff.1 h
  obtain ⟨l1, g1, c1⟩ := says_num hB p0.2 p1.1 p1.2 (by omega) h1
  have k1 := cat_ c0 c1 l0 l1 g1
  simp only [Option.some.injEq, Prod.mk.injEq] at h
  obtain ⟨rfl, rfl⟩ := h
  refine ⟨by omega, g1, ?_, rfl⟩
  rw [k1]
  change _ = ([.ln, .lt] : List Ltr).flatMap _
  simp only [encF, List.flatMap_cons, List.flatMap_nil, List.append_nil, List.append_assoc]
theorem reads_k18 : ReadsK 18 := by
  intro xs rest a x hk hx hb h
  have oln := hx .ln (by simp [word, ltrList])
  have olt := hx .lt (by simp [word, ltrList])
  replace hb := blank_eq hb
  obtain ⟨x0, ⟨v0, v1, v2⟩, x2, x3, x4, x5, x6, x7, x8, x9, x10, ⟨r0, r1, r2, r3⟩, x12, x13, x14, x15⟩ := x
  change clrFs [.ln, .lt] _ = _ at hb
  simp only [clrFs, List.foldl_cons, List.foldl_nil, clrF, zeroNote, S34.mk.injEq, S23.mk.injEq, S29.mk.injEq, eq_self, true_and, and_true] at hb hk
  clear hx
  subst hk
  obtain ⟨-, ⟨rfl, rfl⟩, rfl, rfl, rfl, rfl, rfl, rfl, rfl, rfl, ⟨rfl, rfl, rfl, rfl⟩, rfl, rfl, rfl, rfl⟩ := hb
  change List.drop a xs = ([.ln, .lt] : List Ltr).flatMap _ ++ rest at h
  simp only [encF, List.flatMap_cons, List.flatMap_nil, List.append_nil, List.append_assoc] at h
  have r_0 := reads_num xs _ _ _ oln h
  have d_0 := drop_next h
  have r_1 := reads_num xs _ _ _ olt d_0
  change dFs [.ln, .lt] xs a (zeroNote 18) = some (_, a + (([.ln, .lt] : List Ltr).flatMap _).length)
  simp only [dFs, dF, zeroNote, r_0, r_1, Option.bind_some]
  simp only [encF, List.flatMap_cons, List.flatMap_nil, List.append_nil, List.append_assoc, List.length_append, Nat.add_assoc]
  rfl
theorem says_k19 : SaysK 19 := by
  intro xs a b x hB ha h
  change dFs [.ln, .lt, .lf, .la] xs a (zeroNote 19) = _ at h
  simp only [dFs, dF, zeroNote, Option.bind_assoc, Option.bind_some] at h
  obtain ⟨p0, h0, h⟩ := Option.bind_eq_some_iff.1 h
  obtain ⟨l0, g0, c0⟩ := says_num hB a p0.1 p0.2 (by omega) h0
  obtain ⟨p1, h1, h⟩ := Option.bind_eq_some_iff.1 h
  obtain ⟨l1, g1, c1⟩ := says_num hB p0.2 p1.1 p1.2 (by omega) h1
  have k1 := cat_ c0 c1 l0 l1 g1
  obtain ⟨p2, h2, h⟩ := Option.bind_eq_some_iff.1 h
  obtain ⟨l2, g2, c2⟩ := says_num hB p1.2 p2.1 p2.2 (by omega) h2
  have k2 := cat_ k1 c2 (by omega) l2 g2
  obtain ⟨p3, h3, h⟩ := Option.bind_eq_some_iff.1 h
  obtain ⟨l3, g3, c3⟩ := says_txt hB p2.2 p3.1 p3.2 (by omega) h3
  have k3 := cat_ k2 c3 (by omega) l3 g3
  simp only [Option.some.injEq, Prod.mk.injEq] at h
  obtain ⟨rfl, rfl⟩ := h
  refine ⟨by omega, g3, ?_, rfl⟩
  rw [k3]
  change _ = ([.ln, .lt, .lf, .la] : List Ltr).flatMap _
  simp only [encF, List.flatMap_cons, List.flatMap_nil, List.append_nil, List.append_assoc]
theorem reads_k19 : ReadsK 19 := by
  intro xs rest a x hk hx hb h
  have oln := hx .ln (by simp [word, ltrList])
  have olt := hx .lt (by simp [word, ltrList])
  have olf := hx .lf (by simp [word, ltrList])
  have ola := hx .la (by simp [word, ltrList])
  replace hb := blank_eq hb
  obtain ⟨x0, ⟨v0, v1, v2⟩, x2, x3, x4, x5, x6, x7, x8, x9, x10, ⟨r0, r1, r2, r3⟩, x12, x13, x14, x15⟩ := x
  change clrFs [.ln, .lt, .lf, .la] _ = _ at hb
  simp only [clrFs, List.foldl_cons, List.foldl_nil, clrF, zeroNote, S34.mk.injEq, S23.mk.injEq, S29.mk.injEq, eq_self, true_and, and_true] at hb hk
  clear hx
  subst hk
  obtain ⟨-, ⟨rfl, rfl⟩, rfl, rfl, rfl, rfl, rfl, rfl, rfl, ⟨rfl, rfl, rfl, rfl⟩, rfl, rfl, rfl⟩ := hb
  change List.drop a xs = ([.ln, .lt, .lf, .la] : List Ltr).flatMap _ ++ rest at h
  simp only [encF, List.flatMap_cons, List.flatMap_nil, List.append_nil, List.append_assoc] at h
  have r_0 := reads_num xs _ _ _ oln h
  have d_0 := drop_next h
  have r_1 := reads_num xs _ _ _ olt d_0
  have d_1 := drop_next d_0
  have r_2 := reads_num xs _ _ _ olf d_1
  have d_2 := drop_next d_1
  have r_3 := reads_txt xs _ _ _ ola d_2
  change dFs [.ln, .lt, .lf, .la] xs a (zeroNote 19) = some (_, a + (([.ln, .lt, .lf, .la] : List Ltr).flatMap _).length)
  simp only [dFs, dF, zeroNote, r_0, r_1, r_2, r_3, Option.bind_some]
  simp only [encF, List.flatMap_cons, List.flatMap_nil, List.append_nil, List.append_assoc, List.length_append, Nat.add_assoc]
  rfl
theorem says_k20 : SaysK 20 := by
  intro xs a b x hB ha h
  change dFs [.ln] xs a (zeroNote 20) = _ at h
  simp only [dFs, dF, zeroNote, Option.bind_assoc, Option.bind_some] at h
  obtain ⟨p0, h0, h⟩ := Option.bind_eq_some_iff.1 h
  obtain ⟨l0, g0, c0⟩ := says_num hB a p0.1 p0.2 (by omega) h0
  simp only [Option.some.injEq, Prod.mk.injEq] at h
  obtain ⟨rfl, rfl⟩ := h
  refine ⟨by omega, g0, ?_, rfl⟩
  rw [c0]
  change _ = ([.ln] : List Ltr).flatMap _
  simp only [encF, List.flatMap_cons, List.flatMap_nil, List.append_nil, List.append_assoc]
theorem reads_k20 : ReadsK 20 := by
  intro xs rest a x hk hx hb h
  have oln := hx .ln (by simp [word, ltrList])
  replace hb := blank_eq hb
  obtain ⟨x0, ⟨v0, v1, v2⟩, x2, x3, x4, x5, x6, x7, x8, x9, x10, ⟨r0, r1, r2, r3⟩, x12, x13, x14, x15⟩ := x
  change clrFs [.ln] _ = _ at hb
  simp only [clrFs, List.foldl_cons, List.foldl_nil, clrF, zeroNote, S34.mk.injEq, S23.mk.injEq, S29.mk.injEq, eq_self, true_and, and_true] at hb hk
  clear hx
  subst hk
  obtain ⟨-, ⟨rfl, rfl⟩, rfl, rfl, rfl, rfl, rfl, rfl, rfl, rfl, rfl, ⟨rfl, rfl, rfl, rfl⟩, rfl, rfl, rfl, rfl⟩ := hb
  change List.drop a xs = ([.ln] : List Ltr).flatMap _ ++ rest at h
  simp only [encF, List.flatMap_cons, List.flatMap_nil, List.append_nil, List.append_assoc] at h
  have r_0 := reads_num xs _ _ _ oln h
  change dFs [.ln] xs a (zeroNote 20) = some (_, a + (([.ln] : List Ltr).flatMap _).length)
  simp only [dFs, dF, zeroNote, r_0, Option.bind_some]
  simp only [encF, List.flatMap_cons, List.flatMap_nil, List.append_nil, List.append_assoc, List.length_append, Nat.add_assoc]
  rfl
theorem says_k21 : SaysK 21 := by
  intro xs a b x hB ha h
  change dFs [] xs a (zeroNote 21) = _ at h
  simp only [dFs, dF, zeroNote, Option.bind_assoc, Option.bind_some] at h
  simp only [Option.some.injEq, Prod.mk.injEq] at h
  obtain ⟨rfl, rfl⟩ := h
  exact ⟨Nat.le_refl _, ha, cut_self, rfl⟩
theorem reads_k21 : ReadsK 21 := by
  intro xs rest a x hk hx hb h
  replace hb := blank_eq hb
  obtain ⟨x0, ⟨v0, v1, v2⟩, x2, x3, x4, x5, x6, x7, x8, x9, x10, ⟨r0, r1, r2, r3⟩, x12, x13, x14, x15⟩ := x
  change clrFs [] _ = _ at hb
  simp only [clrFs, List.foldl_cons, List.foldl_nil, clrF, zeroNote, S34.mk.injEq, S23.mk.injEq, S29.mk.injEq, eq_self, true_and, and_true] at hb hk
  clear hx
  subst hk
  obtain ⟨-, ⟨rfl, rfl, rfl⟩, rfl, rfl, rfl, rfl, rfl, rfl, rfl, rfl, rfl, ⟨rfl, rfl, rfl, rfl⟩, rfl, rfl, rfl, rfl⟩ := hb
  rfl
theorem says_k22 : SaysK 22 := by
  intro xs a b x hB ha h
  change dFs [.lv] xs a (zeroNote 22) = _ at h
  simp only [dFs, dF, zeroNote, Option.bind_assoc, Option.bind_some] at h
  obtain ⟨p0, h0, h⟩ := Option.bind_eq_some_iff.1 h
  obtain ⟨l0, g0, c0⟩ := says_num hB a p0.1 p0.2 (by omega) h0
  obtain ⟨p1, h1, h⟩ := Option.bind_eq_some_iff.1 h
  obtain ⟨l1, g1, c1⟩ := says_num hB p0.2 p1.1 p1.2 (by omega) h1
  have k1 := cat_ c0 c1 l0 l1 g1
  obtain ⟨p2, h2, h⟩ := Option.bind_eq_some_iff.1 h
  obtain ⟨l2, g2, c2⟩ := says_num hB p1.2 p2.1 p2.2 (by omega) h2
  have k2 := cat_ k1 c2 (by omega) l2 g2
  simp only [Option.some.injEq, Prod.mk.injEq] at h
  obtain ⟨rfl, rfl⟩ := h
  refine ⟨by omega, g2, ?_, rfl⟩
  rw [k2]
  change _ = ([.lv] : List Ltr).flatMap _
  simp only [encF, List.flatMap_cons, List.flatMap_nil, List.append_nil, List.append_assoc]
theorem reads_k22 : ReadsK 22 := by
  intro xs rest a x hk hx hb h
  have olv := hx .lv (by simp [word, ltrList])
  replace hb := blank_eq hb
  obtain ⟨x0, ⟨v0, v1, v2⟩, x2, x3, x4, x5, x6, x7, x8, x9, x10, ⟨r0, r1, r2, r3⟩, x12, x13, x14, x15⟩ := x
  change clrFs [.lv] _ = _ at hb
  simp only [clrFs, List.foldl_cons, List.foldl_nil, clrF, zeroNote, S34.mk.injEq, S23.mk.injEq, S29.mk.injEq, eq_self, true_and, and_true] at hb hk
  clear hx
  subst hk
  obtain ⟨-, rfl, rfl, rfl, rfl, rfl, rfl, rfl, rfl, rfl, ⟨rfl, rfl, rfl, rfl⟩, rfl, rfl, rfl, rfl⟩ := hb
  change List.drop a xs = ([.lv] : List Ltr).flatMap _ ++ rest at h
  simp only [encF, List.flatMap_cons, List.flatMap_nil, List.append_nil, List.append_assoc] at h
  have r_0 := reads_num xs _ _ _ olv.1 h
  have d_0 := drop_next h
  have r_1 := reads_num xs _ _ _ olv.2.1 d_0
  have d_1 := drop_next d_0
  have r_2 := reads_num xs _ _ _ olv.2.2 d_1
  change dFs [.lv] xs a (zeroNote 22) = some (_, a + (([.lv] : List Ltr).flatMap _).length)
  simp only [dFs, dF, zeroNote, r_0, r_1, r_2, Option.bind_some]
  simp only [encF, List.flatMap_cons, List.flatMap_nil, List.append_nil, List.append_assoc, List.length_append, Nat.add_assoc]
  rfl
theorem says_k23 : SaysK 23 := by
  intro xs a b x hB ha h
  change dFs [.ln] xs a (zeroNote 23) = _ at h
  simp only [dFs, dF, zeroNote, Option.bind_assoc, Option.bind_some] at h
  obtain ⟨p0, h0, h⟩ := Option.bind_eq_some_iff.1 h
  obtain ⟨l0, g0, c0⟩ := says_num hB a p0.1 p0.2 (by omega) h0
  simp only [Option.some.injEq, Prod.mk.injEq] at h
  obtain ⟨rfl, rfl⟩ := h
  refine ⟨by omega, g0, ?_, rfl⟩
  rw [c0]
  change _ = ([.ln] : List Ltr).flatMap _
  simp only [encF, List.flatMap_cons, List.flatMap_nil, List.append_nil, List.append_assoc]
theorem reads_k23 : ReadsK 23 := by
  intro xs rest a x hk hx hb h
  have oln := hx .ln (by simp [word, ltrList])
  replace hb := blank_eq hb
  obtain ⟨x0, ⟨v0, v1, v2⟩, x2, x3, x4, x5, x6, x7, x8, x9, x10, ⟨r0, r1, r2, r3⟩, x12, x13, x14, x15⟩ := x
  change clrFs [.ln] _ = _ at hb
  simp only [clrFs, List.foldl_cons, List.foldl_nil, clrF, zeroNote, S34.mk.injEq, S23.mk.injEq, S29.mk.injEq, eq_self, true_and, and_true] at hb hk
  clear hx
  subst hk
  obtain ⟨-, ⟨rfl, rfl⟩, rfl, rfl, rfl, rfl, rfl, rfl, rfl, rfl, rfl, ⟨rfl, rfl, rfl, rfl⟩, rfl, rfl, rfl, rfl⟩ := hb
  change List.drop a xs = ([.ln] : List Ltr).flatMap _ ++ rest at h
  simp only [encF, List.flatMap_cons, List.flatMap_nil, List.append_nil, List.append_assoc] at h
  have r_0 := reads_num xs _ _ _ oln h
  change dFs [.ln] xs a (zeroNote 23) = some (_, a + (([.ln] : List Ltr).flatMap _).length)
  simp only [dFs, dF, zeroNote, r_0, Option.bind_some]
  simp only [encF, List.flatMap_cons, List.flatMap_nil, List.append_nil, List.append_assoc, List.length_append, Nat.add_assoc]
  rfl
theorem says_k24 : SaysK 24 := by
  intro xs a b x hB ha h
  change dFs [.ln, .ls, .lc, .ld] xs a (zeroNote 24) = _ at h
  simp only [dFs, dF, zeroNote, Option.bind_assoc, Option.bind_some] at h
  obtain ⟨p0, h0, h⟩ := Option.bind_eq_some_iff.1 h
  obtain ⟨l0, g0, c0⟩ := says_num hB a p0.1 p0.2 (by omega) h0
  obtain ⟨p1, h1, h⟩ := Option.bind_eq_some_iff.1 h
  obtain ⟨l1, g1, c1⟩ := says_num hB p0.2 p1.1 p1.2 (by omega) h1
  have k1 := cat_ c0 c1 l0 l1 g1
  obtain ⟨p2, h2, h⟩ := Option.bind_eq_some_iff.1 h
  obtain ⟨l2, g2, c2⟩ := says_num hB p1.2 p2.1 p2.2 (by omega) h2
  have k2 := cat_ k1 c2 (by omega) l2 g2
  obtain ⟨p3, h3, h⟩ := Option.bind_eq_some_iff.1 h
  obtain ⟨l3, g3, c3⟩ := says_lst hB (says_Watch hB) p2.2 p3.1 p3.2 (by omega) h3
  have k3 := cat_ k2 c3 (by omega) l3 g3
  simp only [Option.some.injEq, Prod.mk.injEq] at h
  obtain ⟨rfl, rfl⟩ := h
  refine ⟨by omega, g3, ?_, rfl⟩
  rw [k3]
  change _ = ([.ln, .ls, .lc, .ld] : List Ltr).flatMap _
  simp only [encF, List.flatMap_cons, List.flatMap_nil, List.append_nil, List.append_assoc]
theorem reads_k24 : ReadsK 24 := by
  intro xs rest a x hk hx hb h
  have oln := hx .ln (by simp [word, ltrList])
  have ols := hx .ls (by simp [word, ltrList])
  have olc := hx .lc (by simp [word, ltrList])
  have old := hx .ld (by simp [word, ltrList])
  replace hb := blank_eq hb
  obtain ⟨x0, ⟨v0, v1, v2⟩, x2, x3, x4, x5, x6, x7, x8, x9, x10, ⟨r0, r1, r2, r3⟩, x12, x13, x14, x15⟩ := x
  change clrFs [.ln, .ls, .lc, .ld] _ = _ at hb
  simp only [clrFs, List.foldl_cons, List.foldl_nil, clrF, zeroNote, S34.mk.injEq, S23.mk.injEq, S29.mk.injEq, eq_self, true_and, and_true] at hb hk
  clear hx
  subst hk
  obtain ⟨-, ⟨rfl, rfl⟩, rfl, rfl, rfl, rfl, rfl, rfl, rfl, ⟨rfl, rfl, rfl, rfl⟩, rfl, rfl, rfl⟩ := hb
  change List.drop a xs = ([.ln, .ls, .lc, .ld] : List Ltr).flatMap _ ++ rest at h
  simp only [encF, List.flatMap_cons, List.flatMap_nil, List.append_nil, List.append_assoc] at h
  have r_0 := reads_num xs _ _ _ oln h
  have d_0 := drop_next h
  have r_1 := reads_num xs _ _ _ ols d_0
  have d_1 := drop_next d_0
  have r_2 := reads_num xs _ _ _ olc d_1
  have d_2 := drop_next d_1
  have r_3 := reads_lst reads_Watch xs _ _ _ ⟨by have := (old).1; omega, (old).2⟩ d_2
  change dFs [.ln, .ls, .lc, .ld] xs a (zeroNote 24) = some (_, a + (([.ln, .ls, .lc, .ld] : List Ltr).flatMap _).length)
  simp only [dFs, dF, zeroNote, r_0, r_1, r_2, r_3, Option.bind_some]
  simp only [encF, List.flatMap_cons, List.flatMap_nil, List.append_nil, List.append_assoc, List.length_append, Nat.add_assoc]
  rfl
theorem says_kind {k : Nat} (h : k < 25) : SaysK k := by
  obtain rfl | rfl | rfl | rfl | rfl | rfl | rfl | rfl | rfl | rfl | rfl | rfl | rfl | rfl | rfl | rfl | rfl | rfl | rfl | rfl | rfl | rfl | rfl | rfl | rfl : k = 0 ∨ k = 1 ∨ k = 2 ∨ k = 3 ∨ k = 4 ∨ k = 5 ∨ k = 6 ∨ k = 7 ∨ k = 8 ∨ k = 9 ∨ k = 10 ∨ k = 11 ∨ k = 12 ∨ k = 13 ∨ k = 14 ∨ k = 15 ∨ k = 16 ∨ k = 17 ∨ k = 18 ∨ k = 19 ∨ k = 20 ∨ k = 21 ∨ k = 22 ∨ k = 23 ∨ k = 24 := by omega
  all_goals first | exact says_k0 | exact says_k1 | exact says_k2 | exact says_k3 | exact says_k4 | exact says_k5 | exact says_k6 | exact says_k7 | exact says_k8 | exact says_k9 | exact says_k10 | exact says_k11 | exact says_k12 | exact says_k13 | exact says_k14 | exact says_k15 | exact says_k16 | exact says_k17 | exact says_k18 | exact says_k19 | exact says_k20 | exact says_k21 | exact says_k22 | exact says_k23 | exact says_k24
theorem reads_kind {k : Nat} (h : k < 25) : ReadsK k := by
  obtain rfl | rfl | rfl | rfl | rfl | rfl | rfl | rfl | rfl | rfl | rfl | rfl | rfl | rfl | rfl | rfl | rfl | rfl | rfl | rfl | rfl | rfl | rfl | rfl | rfl : k = 0 ∨ k = 1 ∨ k = 2 ∨ k = 3 ∨ k = 4 ∨ k = 5 ∨ k = 6 ∨ k = 7 ∨ k = 8 ∨ k = 9 ∨ k = 10 ∨ k = 11 ∨ k = 12 ∨ k = 13 ∨ k = 14 ∨ k = 15 ∨ k = 16 ∨ k = 17 ∨ k = 18 ∨ k = 19 ∨ k = 20 ∨ k = 21 ∨ k = 22 ∨ k = 23 ∨ k = 24 := by omega
  all_goals first | exact reads_k0 | exact reads_k1 | exact reads_k2 | exact reads_k3 | exact reads_k4 | exact reads_k5 | exact reads_k6 | exact reads_k7 | exact reads_k8 | exact reads_k9 | exact reads_k10 | exact reads_k11 | exact reads_k12 | exact reads_k13 | exact reads_k14 | exact reads_k15 | exact reads_k16 | exact reads_k17 | exact reads_k18 | exact reads_k19 | exact reads_k20 | exact reads_k21 | exact reads_k22 | exact reads_k23 | exact reads_k24
end Go.Proofs.YtmneemhplffemaaGreatDoorRR.Law
namespace Go.Proofs.YtmneemhplffemaaGreatDoorRR.Law
open Go.RowKit Go.Proofs.YtmneemhplffemaaGreatDoorRR.Ord Go.Proofs.YtmneemhplffemaaGreatDoorRR.Name Go.Proofs.YtmneemhplffemaaGreatDoorRR.Pl Go.Proofs.YtmneemhplffemaaGreatDoorRR.Ext Go.Proofs.YtmneemhplffemaaGreatDoorRR.Wire Go.Proofs.YtmneemhplffemaaGreatDoorRR.Mem Go.Proofs.YtmneemhplffemaaGreatDoorRR.Put Go.Proofs.YtmneemhplffemaaGreatDoorRR.Get Go.Proofs.YtmneemhplffemaaGreatDoorRR.Ki Go.Proofs.YtmneemhplffemaaGreatDoorRR.Chk Go.Proofs.YtmneemhplffemaaGreatDoorRR.May Go.Proofs.YtmneemhplffemaaGreatDoorRRW.PrintWords
theorem isN_ok {v : Int} (h : okNum v = true) : isN v := by
  unfold okNum at h
  simp only [Bool.and_eq_true, decide_eq_true_eq] at h
  exact h
theorem is_size {s : ByteArray} (h : rIs s = true) : s.size ≤ 102 := by
  rw [← tx_length]
  unfold rIs at h
  rcases Nat.lt_or_ge 102 (tx s).length with h1 | h1
  · rw [parseL_long h1] at h
    simp at h
  · exact h1
theorem kid_size {s : ByteArray} (h : mKid s = true) : s.size ≤ 16 := by
  rw [← tx_length]
  unfold mKid okN at h
  simp only [Bool.and_eq_true, decide_eq_true_eq] at h
  exact h.1.1.1.2
theorem empty_size {s : ByteArray} (h : s.toList.isEmpty = true) : s.size = 0 := by
  rw [← tx_length]
  rw [ByteArray.toList_eq] at h
  show s.data.toList.length = 0
  cases hh : s.data.toList with
  | nil => rfl
  | cons c l => rw [hh] at h; simp at h
theorem kind_num {v : Int} (h : mKind v = true) : isN v := by
  unfold mKind at h
  simp only [Bool.and_eq_true, decide_eq_true_eq] at h
  exact ⟨by omega, by omega⟩
theorem all_ok {α : Type} {m : α → Bool} {ok : α → Prop} (hm : ∀ x, m x = true → ok x) {l : List α} (h : l.all m = true) : ∀ y ∈ l, ok y := fun y hy => hm y (List.all_eq_true.1 h y hy)
theorem op_ok {x : S78} (h : mOp x = true) : OpOk x := by
  unfold mOp at h
  simp only [Bool.and_eq_true, Bool.or_eq_true, decide_eq_true_eq, beq_iff_eq] at h
  obtain ⟨⟨⟨⟨h0, h4⟩, h3⟩, h1⟩, h2⟩ := h
  exact ⟨isN_ok h0, by omega, by omega, h3.imp id isN_ok, isN_ok h4⟩
theorem ops_ok {l : List S78} (h : mOps l = true) : l.length ≤ 4 ∧ ∀ y ∈ l, OpOk y := by
  unfold mOps at h
  simp only [Bool.and_eq_true, decide_eq_true_eq] at h
  exact ⟨by omega, all_ok (fun _ => op_ok) h.2⟩
theorem entry_ok {x : S55} (h : mEntry x = true) : EntryOk x := by
  unfold mEntry at h
  simp only [Bool.and_eq_true, Bool.not_eq_true', decide_eq_false_iff_not] at h
  obtain ⟨⟨⟨⟨⟨⟨⟨⟨⟨h0, h1⟩, h3⟩, h4⟩, _⟩, _⟩, h2⟩, h2'⟩, h5⟩, _⟩ := h
  exact ⟨isN_ok h0, isN_ok h1, ⟨by omega, by omega⟩, isN_ok h3, isN_ok h4, (ops_ok h5).1, (ops_ok h5).2⟩
theorem result_ok {x : S81} (h : mResult x = true) : ResultOk x := by
  unfold mResult at h
  simp only [Bool.and_eq_true, Bool.or_eq_true, decide_eq_true_eq] at h
  obtain ⟨⟨⟨h0, h1⟩, ⟨⟨⟨h2, h3⟩, h4⟩, h5⟩⟩, h6, h7⟩ := h
  exact ⟨h0.elim (fun h => by have := empty_size h; omega) (fun h => by have := is_size h; omega), by omega, isN_ok h2, isN_ok h3, isN_ok h4, isN_ok h5, by omega, fun y hy => by have := kid_size (List.all_eq_true.1 h7 y hy); unfold TxtOk; omega⟩
theorem reply_ok {x : S29} (h : mReply x = true) : ReplyOk x := by
  unfold mReply at h
  simp only [Bool.and_eq_true, decide_eq_true_eq] at h
  obtain ⟨⟨⟨h0, h1⟩, h2⟩, h3, h4⟩ := h
  exact ⟨isN_ok h0, isN_ok h1, isN_ok h2, by omega, all_ok (fun _ => result_ok) h4⟩
theorem watch_ok {x : S96} (h : mWatch x = true) : WatchOk x := by
  unfold mWatch at h
  simp only [Bool.and_eq_true, decide_eq_true_eq] at h
  obtain ⟨⟨⟨⟨h0, h3⟩, _⟩, h1⟩, h2⟩ := h
  exact ⟨isN_ok h0, kind_num h2, isN_ok h3, by have := is_size h1; omega⟩
theorem bare_ok {x : S96} (h : mBare x = true) : WatchOk x := by
  unfold mBare at h
  simp only [Bool.and_eq_true, decide_eq_true_eq, beq_iff_eq] at h
  obtain ⟨⟨h0, _⟩, ⟨h1, h2⟩, h3⟩ := h
  exact ⟨isN_ok h0, by rw [h2]; exact ⟨by omega, by omega⟩, by rw [h3]; exact ⟨by omega, by omega⟩, by have := empty_size h1; omega⟩
theorem seen_ok {x : S88} (h : mSeen x = true) : SeenOk x := by
  unfold mSeen at h
  simp only [Bool.and_eq_true, decide_eq_true_eq] at h
  obtain ⟨⟨h0, h1⟩, h2⟩ := h
  exact ⟨isN_ok h2, by have := is_size h0; omega, by omega⟩
theorem shot_ok {i : Int} {x : S84} (hi : isN i) (h : mShot x = true) : PartOk ⟨i, x⟩ := by
  unfold mShot at h
  simp only [Bool.and_eq_true, decide_eq_true_eq] at h
  obtain ⟨⟨⟨h0, h1⟩, h2⟩, h3, h4⟩ := h
  exact ⟨hi, isN_ok h0, kind_num h2, by have := is_size h1; simp only; omega, by simp only; omega, all_ok (fun _ => seen_ok) h4⟩
theorem part_ok {x : S86} (h : mPart x = true) : PartOk x := by
  unfold mPart at h
  simp only [Bool.and_eq_true, decide_eq_true_eq] at h
  obtain ⟨⟨h0, _⟩, h1⟩ := h
  exact shot_ok (isN_ok h0) h1
theorem noShot_ok {i : Int} {x : S84} (hi : isN i) (h : mEmpty x = true) : PartOk ⟨i, x⟩ := by
  unfold mEmpty at h
  simp only [Bool.and_eq_true, beq_iff_eq] at h
  obtain ⟨⟨⟨h0, h1⟩, h2⟩, h3⟩ := h
  have h3' := List.eq_nil_of_length_eq_zero h3
  refine ⟨hi, ?_, ?_, ?_, ?_, ?_⟩
  · simp only; rw [h0]; exact ⟨by omega, by omega⟩
  · simp only; rw [h2]; exact ⟨by omega, by omega⟩
  · have := empty_size h1; simp only; omega
  · simp only; omega
  · simp only; rw [h3']; simp
theorem rise_ok {l : List Int} : ∀ {z : Int}, 0 ≤ z → mRise z l = true → ∀ y ∈ l, isN y := by
  induction l with
  | nil => intro z _ _ y hy; cases hy
  | cons c l ih =>
    intro z hz h y hy
    unfold mRise at h
    simp only [Bool.and_eq_true, Bool.not_eq_true', decide_eq_false_iff_not] at h
    obtain ⟨⟨h0, h1⟩, h2⟩ := h
    rcases List.mem_cons.1 hy with rfl | hy
    · exact ⟨by omega, by omega⟩
    · exact ih (by omega) h2 y hy
theorem tagged_ok {x : S148} (h : mTagged x = true) : TaggedOk x := by
  unfold mTagged at h
  simp only [Bool.and_eq_true, decide_eq_true_eq] at h
  obtain ⟨⟨⟨⟨⟨⟨h0, h1⟩, h2⟩, h3⟩, h4⟩, h5⟩, h6⟩ := h
  exact ⟨kind_num h0, isN_ok h3, by have := is_size h1; omega, by omega, by omega, rise_ok (Int.le_refl 0) h6⟩
theorem item_ok {x : S91} (h : mItem x = true) : ItemOne x := by
  unfold mItem at h
  simp only [Bool.and_eq_true] at h
  obtain ⟨⟨h0, h1⟩, h2⟩ := h
  cases hm : x.f2 with
  | true =>
    rw [hm] at h2
    simp only [if_true, Bool.and_eq_true, decide_eq_true_eq, beq_iff_eq] at h2
    obtain ⟨⟨h3, h4⟩, h5, h6⟩ := h2
    have h3' := List.eq_nil_of_length_eq_zero h3
    exact ⟨⟨isN_ok h0, isN_ok h1, by omega, by rw [h3']; simp, by omega, all_ok (fun _ => part_ok) h6⟩, fun _ => h3', fun h => (by rw [hm] at h; cases h)⟩
  | false =>
    rw [hm] at h2
    simp only [Bool.false_eq_true, if_false, Bool.and_eq_true, decide_eq_true_eq, beq_iff_eq] at h2
    obtain ⟨⟨h3, h4⟩, h5, h6⟩ := h2
    have h3' := List.eq_nil_of_length_eq_zero h3
    exact ⟨⟨isN_ok h0, isN_ok h1, by omega, all_ok (fun _ => tagged_ok) h6, by omega, by rw [h3']; simp⟩, fun h => (by rw [hm] at h; cases h), fun _ => h3'⟩
theorem one_of {α : Type} {l : List α} {p : α → Bool} (h : ((l.length == 1) && (l[0]?).elim false p) = true) : ∃ x, l = [x] ∧ p x = true := by
  match l, h with
  | [], h => simp at h
  | [x], h => exact ⟨x, rfl, by simpa using h⟩
  | _ :: _ :: _, h => simp at h
/-- A field that is right can be written. -/
theorem ltr_ok {x : Note} (l : Ltr) (h : okF l x = true) (hP : l = .uP → mGranted x = true) : OkL l x := by
  cases l
  all_goals simp only [okF, Bool.and_eq_true, decide_eq_true_eq] at h
  all_goals simp only [OkL]
  case ln => exact isN_ok h.1
  case ls => exact isN_ok h.1
  case lc => exact isN_ok h.1
  case lr => exact isN_ok h.1
  case lt => exact isN_ok h.1
  case lf => exact isN_ok h.1
  case lm => exact isN_ok h.1
  case uW => exact ⟨by omega, all_ok (fun _ => watch_ok) h.2⟩
  case lw =>
    obtain ⟨y, he, hy⟩ := one_of (by simpa using h)
    rw [he]
    exact ⟨by simp, fun z hz => by rw [List.mem_singleton.1 hz]; exact watch_ok hy⟩
  case ld =>
    obtain ⟨y, he, hy⟩ := one_of (by simpa using h)
    rw [he]
    exact ⟨by simp, fun z hz => by rw [List.mem_singleton.1 hz]; exact bare_ok hy⟩
  case uD => exact ⟨by omega, all_ok (fun _ => bare_ok) h.1.2⟩
  case le => exact isN_ok h
  case lv => exact ⟨isN_ok h.1.1, isN_ok h.1.2, isN_ok h.2⟩
  case ly => exact reply_ok h
  case la => omega
  case lo => exact ⟨by have := (ops_ok h).1; omega, (ops_ok h).2⟩
  case uE => exact ⟨by omega, all_ok (fun _ => entry_ok) h.2⟩
  case uI =>
    unfold mItems at h
    simp only [Bool.and_eq_true, decide_eq_true_eq] at h
    exact ⟨by omega, all_ok (fun _ => item_ok) h.1.2.2⟩
  case uP =>
    have hg := hP rfl
    obtain ⟨y, he, hy⟩ := one_of (p := fun p : S86 => okNum p.f0 && decide (1 ≤ p.f0)) (by simpa using h)
    simp only [Bool.and_eq_true, decide_eq_true_eq] at hy
    unfold mGranted at hg
    rw [he] at hg ⊢
    simp only [List.getElem?_cons_zero, Option.elim] at hg
    refine ⟨by simp, fun z hz => ?_⟩
    obtain rfl := List.mem_singleton.1 hz
    split at hg
    · exact shot_ok (i := z.f0) (isN_ok hy.1) hg
    · exact noShot_ok (i := z.f0) (isN_ok hy.1) hg
theorem word_P {k : Nat} (hk : k < 25) (h : Ltr.uP ∈ word k) : k = 13 := by
  obtain rfl | rfl | rfl | rfl | rfl | rfl | rfl | rfl | rfl | rfl | rfl | rfl | rfl | rfl | rfl | rfl | rfl | rfl | rfl | rfl | rfl | rfl | rfl | rfl | rfl : k = 0 ∨ k = 1 ∨ k = 2 ∨ k = 3 ∨ k = 4 ∨ k = 5 ∨ k = 6 ∨ k = 7 ∨ k = 8 ∨ k = 9 ∨ k = 10 ∨ k = 11 ∨ k = 12 ∨ k = 13 ∨ k = 14 ∨ k = 15 ∨ k = 16 ∨ k = 17 ∨ k = 18 ∨ k = 19 ∨ k = 20 ∨ k = 21 ∨ k = 22 ∨ k = 23 ∨ k = 24 := by omega
  all_goals first | rfl | (simp [word, ltrList] at h)
structure Checked (x : Note) : Prop where
  lo : 1 ≤ x.f0
  hi : x.f0 < 25
  right : ∀ l ∈ word x.f0.toNat, okF l x = true
  blank : mBlank (clrFs (word x.f0.toNat) x) = true
  granted : x.f0 = 13 → mGranted x = true
theorem checked {x : Note} (h : mCheck x = true) : Checked x := by
  unfold mCheck at h
  simp only [Bool.and_eq_true, Bool.or_eq_true, Bool.not_eq_true', decide_eq_true_eq, beq_eq_false_iff_ne] at h
  obtain ⟨⟨⟨⟨h0, h1⟩, h2⟩, h3⟩, h4⟩ := h
  exact ⟨h0, h1, List.all_eq_true.1 h2, h3, fun h => h4.resolve_left (fun hn => hn h)⟩
theorem Checked.ok {x : Note} (h : Checked x) : ∀ l ∈ word x.f0.toNat, OkL l x := fun l hl => ltr_ok l (h.right l hl) (fun hP => h.granted (by
  subst hP
  have := word_P (k := x.f0.toNat) (by have := h.lo; have := h.hi; omega) hl
  have := h.lo
  omega))
/-- What was written is read again. -/
theorem dNote_of {x : Note} (h : Checked x) : dNote (encNote x) = some x := by
  have h0 := h.lo
  have h1 := h.hi
  have hr := reads_num (encNote x) ((word x.f0.toNat).flatMap (fun l => encF l x)) 0 x.f0 ⟨by omega, by omega⟩ (by rw [List.drop_zero]; rfl)
  have hd := drop_next (xs := encNote x) (a := 0) (u := encNum x.f0) (v := (word x.f0.toNat).flatMap (fun l => encF l x)) (by rw [List.drop_zero]; rfl)
  have hk := reads_kind (k := x.f0.toNat) (by omega) (encNote x) [] _ x (by omega) h.ok h.blank (by rw [hd, List.append_nil])
  unfold dNote
  rw [hr]
  simp only [Option.bind_some]
  rw [if_neg (by omega), show zeroNote x.f0 = zeroNote ((x.f0.toNat : Nat) : Int) by rw [Int.toNat_of_nonneg (by omega)], hk]
  simp only [Option.bind_some]
  rw [if_pos]
  unfold encNote
  rw [List.length_append, Nat.zero_add]
/-- What is read says the bytes. -/
theorem dNote_says {xs : List Int} {x : Note} (hB : Bytes xs) (h : dNote xs = some x) : encNote x = xs := by
  unfold dNote at h
  obtain ⟨p, h0, h⟩ := Option.bind_eq_some_iff.1 h
  obtain ⟨_, hp, _⟩ := dNum_some hB (show dNum xs 0 = some (p.1, p.2) from h0)
  obtain ⟨l0, g0, c0⟩ := says_num hB 0 p.1 p.2 (Nat.zero_le _) h0
  split at h
  · cases h
  · rename_i hk
    obtain ⟨r, h1, h⟩ := Option.bind_eq_some_iff.1 h
    split at h
    · rename_i he
      simp only [Option.some.injEq] at h
      subst h
      rw [show zeroNote p.1 = zeroNote ((p.1.toNat : Nat) : Int) by rw [Int.toNat_of_nonneg hp]] at h1
      obtain ⟨l1, g1, c1, e1⟩ := says_kind (k := p.1.toNat) (by omega) xs p.2 r.2 r.1 hB g0 h1
      have hc := cat_ c0 c1 l0 l1 g1
      rw [he, List.take_length, List.drop_zero] at hc
      unfold encNote
      rw [hc, e1, Int.toNat_natCast, Int.toNat_of_nonneg hp]
    · cases h
/-- The reading of bytes that begin with a note's. -/
theorem dNote_begins {xs ys : List Int} {x : Note} (h : Checked x) (he : xs = encNote x ++ ys) (hn : dNote xs ≠ none) : ys = [] := by
  have h0 := h.lo
  have h1 := h.hi
  have hx : List.drop 0 xs = encNum x.f0 ++ ((word x.f0.toNat).flatMap (fun l => encF l x) ++ ys) := by rw [List.drop_zero, he]; unfold encNote; rw [List.append_assoc]
  have hr := reads_num xs _ 0 x.f0 ⟨by omega, by omega⟩ hx
  have hk := reads_kind (k := x.f0.toNat) (by omega) xs ys _ x (by omega) h.ok h.blank (drop_next hx)
  unfold dNote at hn
  rw [hr] at hn
  simp only [Option.bind_some] at hn
  rw [if_neg (by omega), show zeroNote x.f0 = zeroNote ((x.f0.toNat : Nat) : Int) by rw [Int.toNat_of_nonneg (by omega)], hk] at hn
  simp only [Option.bind_some] at hn
  split at hn
  · rename_i hl
    have := congrArg List.length he
    unfold encNote at this
    rw [List.length_append, List.length_append] at this
    exact List.eq_nil_of_length_eq_zero (by omega)
  · exact absurd rfl hn
end Go.Proofs.YtmneemhplffemaaGreatDoorRR.Law
namespace Go.Proofs.YtmneemhplffemaaGreatDoorRR.Chk
open Go.RowKit Go.Proofs.YtmneemhplffemaaGreatDoorRR.Ext Go.Proofs.YtmneemhplffemaaGreatDoorRRW.PrintWords
/-- The reference's words. -/
def wordList : List ByteArray := [⟨#[45]⟩, ⟨#[115]⟩, ⟨#[115, 114, 111]⟩, ⟨#[115]⟩, ⟨#[115, 99]⟩, ⟨#[115, 99, 116, 119]⟩, ⟨#[115, 99, 119]⟩, ⟨#[115, 99, 119]⟩, ⟨#[115, 99, 116]⟩, ⟨#[110, 115, 101]⟩, ⟨#[110, 115, 114, 82]⟩, ⟨#[110, 115]⟩, ⟨#[110, 115, 99, 116, 101]⟩, ⟨#[110, 115, 99, 116, 101, 112]⟩, ⟨#[110, 115, 99, 119, 105]⟩, ⟨#[118]⟩, ⟨#[110, 116, 102]⟩, ⟨#[110, 116, 102, 69, 109]⟩, ⟨#[110, 116]⟩, ⟨#[110, 116, 102, 83]⟩, ⟨#[110]⟩, ⟨#[]⟩, ⟨#[118]⟩, ⟨#[110]⟩, ⟨#[110, 115, 99, 119]⟩]
/-- The program's words. -/
def hasList : List ByteArray := [⟨#[]⟩, ⟨#[115]⟩, ⟨#[115, 114, 111]⟩, ⟨#[115]⟩, ⟨#[115, 99]⟩, ⟨#[115, 99, 116, 87]⟩, ⟨#[115, 99, 119]⟩, ⟨#[115, 99, 100]⟩, ⟨#[115, 99, 116]⟩, ⟨#[110, 115, 101]⟩, ⟨#[110, 115, 114, 121]⟩, ⟨#[110, 115]⟩, ⟨#[110, 115, 99, 116, 101]⟩, ⟨#[110, 115, 99, 116, 101, 80]⟩, ⟨#[110, 115, 99, 68, 73]⟩, ⟨#[118]⟩, ⟨#[110, 116, 102]⟩, ⟨#[110, 116, 102, 69, 109]⟩, ⟨#[110, 116]⟩, ⟨#[110, 116, 102, 97]⟩, ⟨#[110]⟩, ⟨#[]⟩, ⟨#[118]⟩, ⟨#[110]⟩, ⟨#[110, 115, 99, 100]⟩]
def wordTab (n : Nat) : ByteArray := wordList.getD n ByteArray.empty
def hasTab (n : Nat) : ByteArray := hasList.getD n ByteArray.empty
/-- What the program's note functions know of the package-level variables. -/
structure EnvN (w : World) : Prop where
  env : Env w
  has : ∀ i, i < 25 → w.cell? ⟨0, i, none⟩ = some (.string (hasTab i))
theorem EnvN.at_ {w w' : World} (h : EnvN w) (hb : Below w.heap.size w w') : EnvN w' := ⟨h.env.at_ hb, fun i hi => pw_cell_below hb (h.has i hi)⟩
/-- And the reference's words. -/
structure EnvR (w : World) : Prop where
  envN : EnvN w
  words : ∀ i, i < 25 → w.cell? ⟨1, i, none⟩ = some (.string (wordTab i))
theorem EnvR.at_ {w w' : World} (h : EnvR w) (hb : Below w.heap.size w w') : EnvR w' := ⟨h.envN.at_ hb, fun i hi => pw_cell_below hb (h.words i hi)⟩
end Go.Proofs.YtmneemhplffemaaGreatDoorRR.Chk
namespace Go.Proofs.YtmneemhplffemaaGreatDoorRR.Tab
open Go.RowKit Go.Proofs.YtmneemhplffemaaGreatDoorRR.Ord Go.Proofs.YtmneemhplffemaaGreatDoorRR.Name Go.Proofs.YtmneemhplffemaaGreatDoorRR.Ext Go.Proofs.YtmneemhplffemaaGreatDoorRR.Mem Go.Proofs.YtmneemhplffemaaGreatDoorRR.Law Go.Proofs.YtmneemhplffemaaGreatDoorRR.Row Go.Proofs.YtmneemhplffemaaGreatDoorRR.Ki Go.Proofs.YtmneemhplffemaaGreatDoorRR.Chk Go.Proofs.YtmneemhplffemaaGreatDoorRR.May Go.Proofs.YtmneemhplffemaaGreatDoorRRW.PrintWords
set_option linter.unusedVariables false
set_option linter.unusedSimpArgs false
theorem fCells_len (l : Ltr) : (fCells l).length = 6 := by cases l <;> rfl
theorem fCells_one (l : Ltr) : ∀ u ∈ fCells l, u.oneCell' = true := by cases l <;> (intro u hu; simp only [fCells, List.mem_cons, List.not_mem_nil, or_false] at hu; rcases hu with rfl | rfl | rfl | rfl | rfl | rfl <;> rfl)
theorem fCells_open (l : Ltr) : ∃ u0 u1 u2 u3 u4 u5, fCells l = [u0, u1, u2, u3, u4, u5] := by cases l <;> exact ⟨_, _, _, _, _, _, rfl⟩
/-- A field of the table. -/
def kField : Kd Ltr where
  sz := 6
  E := []
  K := fun _ l cs => cs = fCells l
  M := fun _ _ _ l cs => cs = fCells l
  K_len := fun h => by rw [h]; exact fCells_len _
  K_one := fun h u hu => fCells_one _ u (h ▸ hu)
  K_below := fun _ h => h
  K_of_M := fun h => h
  M_mono := fun _ h => h
  M_bound := fun h => h
  M_move := fun _ h => h
  M_lower := fun _ h => h
theorem infoF : (Tryz.prog.info? 109).map (fun i => (i.zero, i.size, i.bytes)) = some (some (.agg #[.int .i64 0, .nilFunc, .nilFunc, .nilFunc, .nilFunc, .nilFunc]), 6, 48) := by kernel_rfl
theorem infoShape : (Tryz.prog.info? 102).map (·.size) = some 2 := by kernel_rfl
/-- A kind's word and its letters. -/
theorem word_tab : ∀ k, k < 25 → (tx (hasTab k)).map (fun b => b.toNat) = (word k).map Ltr.code := by decide
theorem word_len : ∀ k, k < 25 → (word k).length ≤ 6 := by decide
theorem tab_size (k : Nat) (hk : k < 25) : (hasTab k).size = (word k).length := by
  have h := congrArg List.length (word_tab k hk)
  rw [List.length_map, List.length_map, tx_length] at h
  exact h
theorem tab_at (k i : Nat) (hk : k < 25) (hi : i < (hasTab k).size) (l : Ltr) (hl : (word k)[i]? = some l) : ((hasTab k)[i]'hi).toNat = l.code := by
  have h := congrArg (fun z => z[i]?) (word_tab k hk)
  simp only [List.getElem?_map, hl, Option.map_some] at h
  have hx : (tx (hasTab k))[i]? = some ((hasTab k)[i]'hi) := by unfold tx; rw [List.getElem?_eq_getElem (by simpa using hi)]; rfl
  rw [hx] at h
  simpa using h
set_option maxRecDepth 100000 in
set_option maxHeartbeats 4000000 in
theorem t_shape (k : Nat) (hk : k < 25) (W : World) (HN : EnvN W) :
    Calls Tryz.prog 41 #[.int .i64 k] W fun e W' => Below W.heap.size W W' ∧ ∃ v, e = .returned (.agg #[v, if k = 13 then .func (.func 90) #[] #[] else .nilFunc]) ∧ kField.R 109 W' W.heap.size (fun _ => True) v (word k) := by
  have hs := HN.has k hk
  obtain ⟨s, hse⟩ : ∃ s, s = hasTab k := ⟨_, rfl⟩
  rw [← hse] at hs
  have HS := Aside0.mk hse
  have hsz : s.size = (word k).length := by rw [hse]; exact tab_size k hk
  have hk' : (k : Int) < 25 := by omega
  have hs6 : s.size ≤ 6 := by rw [hsz]; exact word_len k hk
  have HB0 := Aside0.mk (below_alloc (below_alloc (Below.refl W.heap.size W) (Obj.cells #[.slice none 0 0, .nilFunc] 102 (0, 0))) (Obj.cells #[.slice none 0 0, .nilFunc] 102 (0, 0)))
  have hs2 := pw_cell_below HB0.out hs
  have HS0 := Aside0.mk (blk_alloc2 W (Obj.cells #[.slice none 0 0, .nilFunc] 102 (0, 0)) (Obj.cells #[.slice none 0 0, .nilFunc] 102 (0, 0)))
  have HR0 := Aside0.mk (blk_below (below_alloc (Below.refl _ _) (Obj.cells #[.slice none 0 0, .nilFunc] 102 (0, 0))) (blk_alloc (W := W) (Obj.cells #[.slice none 0 0, .nilFunc] 102 (0, 0))))
  clear HN hse
  go_enter Tryz.func41, Tryz.ntmps41
  go_wp2_with fail
  go_loopw [9] (fun vi wr => ∃ i : Nat, vi = .int .i64 i ∧ i ≤ s.size ∧ Aside0 (wr.heap[W.heap.size]? = some (Obj.cells #[.slice none 0 0, .nilFunc] 102 (0, 0))) ∧ ∃ v, Aside0 (wr.heap[W.heap.size + 1]? = some (Obj.cells #[v, .nilFunc] 102 (0, 0))) ∧ Aside0 (kField.R 109 wr W.heap.size (fun _ => True) v ((word k).take i)) ∧ Aside0 (Below W.heap.size W wr)) (fun vi _ => s.size - (intOf vi).toNat)
  case atStart => exact ⟨0, rfl, Nat.zero_le _, HR0, _, HS0, ⟨Kd.R_nil _ _ _ _ _⟩, HB0⟩
  case round =>
    clear hs2 HR0 HS0 HB0
    obtain ⟨i, rfl, hi, HR0, v, HS0, HO, HB⟩ := hrel
    have hs2 := pw_cell_below HB.out hs
    obtain ⟨wo, rfl⟩ : ∃ wo : World, wo = wr := ⟨_, rfl⟩
    have hc := blk_cell HS0.out 0
    have hf := blk_frozen HS0.out 0
    by_cases hlt : i < s.size
    · obtain ⟨l, hl⟩ : ∃ l, (word k)[i]? = some l := ⟨_, List.getElem?_eq_getElem (by omega)⟩
      have HLT := Aside0.mk hl
      have hcd : (s[i]'hlt).toNat = l.code := by
        have h := HS.out
        subst h
        exact tab_at k i hk hlt l hl
      obtain ⟨q0, q1, q2, q3, q4, q5, hq⟩ := fCells_open l
      have HQ := Aside0.mk hq
      clear hl hq
      go_wp2_with fail
      have HOd := Aside0.mk (Kd.R_drew HO.out)
      have HBd := Aside0.mk HB.out.drew
      have HSd := Aside0.mk (show wo.drew.heap[W.heap.size + 1]? = some (Obj.cells #[v, .nilFunc] 102 (0, 0)) from HS0.out)
      have HRd := Aside0.mk (show wo.drew.heap[W.heap.size]? = some (Obj.cells #[.slice none 0 0, .nilFunc] 102 (0, 0)) from HR0.out)
      have hlk : ((word k).take i).length ≤ 6 := Nat.le_trans (List.length_take_le' _ _) (word_len k hk)
      go_region_law (first | (refine Kd.R_append_step kField (w0 := W) W.heap.size (by rfl) (.tmp 13) (.tmp 20) 99 109 _ 48 rfl Tryz.underlying99 infoF rfl (by decide) (by omega) v _ l [q0, q1, q2, q3, q4, q5] (fun _ => True) (fun _ => False) rfl rfl HQ.out.symm (fun _ h => h.elim) (fun _ _ => trivial) HO1.out HB1.out (below_size HB1.out) (by omega) ?_; intro v2 w2 ho2 hb2 hg2 hat2; obtain ⟨A2, n2, c2, rfl⟩ : ∃ A n c, v2 = .slice A n c := (by obtain ⟨A, c, h⟩ := Kd.R_slice ho2; exact ⟨A, _, c, h⟩); have HO2 := Aside0.mk ho2; have HB2 := Aside0.mk hb2; have HS2 := Aside0.mk (blk_grown HS1.out hg2 (Kd.R_ne HO1.out HS1.out (by decide))); have HR2 := Aside0.mk (blk_grown HR1.out hg2 (Kd.R_ne HO1.out HR1.out (by decide))); have hc2 := blk_cell HS2.out 0; have hf2 := blk_frozen HS2.out 0; have HS4 := Aside0.mk (blk_set HS2.out 0 (.slice A2 n2 c2)); have HR3 := Aside0.mk (blk_far HR2.out (p := ⟨W.heap.size + 1, 0, none⟩) (by simp) (.slice A2 n2 c2)); have HO4 := Aside0.mk (Kd.R_set HO2.out HS2.out (by decide) 0 (.slice A2 n2 c2)); have HB4 := Aside0.mk (((Moved.of_below HB2.out (fun _ => False)).set_ (p := ⟨W.heap.size + 1, 0, none⟩) (.inr (Nat.le_succ _)) (.slice A2 n2 c2)).below (fun _ _ h => h)); clear ho2 hb2 hg2 hat2) | (go_simp; go_at_call 89; (with_reducible refine (t_field l _).mono ?_); rintro e w1 ⟨rfl, hb1⟩; rw [HQ.out]; have HO1 := Aside0.mk (Kd.R_below HOd.out hb1); have HB1 := Aside0.mk (below_step HBd.out hb1); have HS1 := Aside0.mk (blk_below hb1 HSd.out); have HR1 := Aside0.mk (blk_below hb1 HRd.out); have hc1 := blk_cell HS1.out 0; have hf1 := blk_frozen HS1.out 0; have hcq := blk_cell (blk_below (below_alloc (Below.refl _ _) (Obj.cells #[q0, q1, q2, q3, q4, q5] 109 (0, 0))) HS1.out) 0))
      all_goals
        go_wp2_with fail
        go_roundw
        case rel => exact ⟨i + 1, by go_num, by omega, HR3, .slice A2 n2 c2, ⟨by simpa using HS4.out⟩, ⟨by rw [List.take_add_one, HLT.out]; simpa using HO4.out⟩, HB4⟩
        case measure => simp [intOf]; omega
    · have htk : (word k).take i = word k := List.take_of_length_le (by omega)
      rw [htk] at HO
      clear htk
      obtain ⟨Av, cv, rfl⟩ := Kd.R_slice HO.out
      have hcs := blk_cell HS0.out
      have hfs := blk_frozen HS0.out
      have hcr := blk_cell HR0.out
      have hfr := blk_frozen HR0.out
      by_cases hk13 : k = 13
      · subst hk13
        have hx0 : (wo.setCell ⟨W.heap.size + 1, 1, none⟩ (.func (.func 90) #[] #[])).cell? ⟨W.heap.size + 1, 0, none⟩ = some (.slice Av (word 13).length cv) := blk_cell (blk_set HS0.out 1 (.func (.func 90) #[] #[])) 0
        have hx1 : (wo.setCell ⟨W.heap.size + 1, 1, none⟩ (.func (.func 90) #[] #[])).cell? ⟨W.heap.size + 1, 1, none⟩ = some (.func (.func 90) #[] #[]) := blk_cell (blk_set HS0.out 1 (.func (.func 90) #[] #[])) 1
        go_wp2_with fail
        have HRX := blk_far HR0.out (p := ⟨W.heap.size + 1, 1, none⟩) (by simp) (.func (.func 90) #[] #[])
        have HOX := Kd.R_set HO.out HS0.out (by decide) 1 (.func (.func 90) #[] #[])
        have HMX := (Moved.of_below HB.out (fun _ => False)).set_ (p := ⟨W.heap.size + 1, 1, none⟩) (.inr (Nat.le_succ _)) (.func (.func 90) #[] #[])
        have HRY := blk_set HRX 0 (.slice Av (word 13).length cv)
        have HOY := Kd.R_set HOX HRX (by decide) 0 (.slice Av (word 13).length cv)
        have HMY := HMX.set_ (p := ⟨W.heap.size, 0, none⟩) (.inr (Nat.le_refl _)) (.slice Av (word 13).length cv)
        have HRZ := blk_set HRY 1 (.func (.func 90) #[] #[])
        have HOZ := Kd.R_set HOY HRY (by decide) 1 (.func (.func 90) #[] #[])
        have HMZ := HMY.set_ (p := ⟨W.heap.size, 1, none⟩) (.inr (Nat.le_refl _)) (.func (.func 90) #[] #[])
        refine bodyPost_ret (results_c Tryz.results41 _ _ W.heap.size 102 #[.slice Av (word 13).length cv, .func (.func 90) #[] #[]] (0, 0) _ (by rfl) (by simpa using HRZ) Tryz.underlying102 rfl infoShape) rfl ?_
        exact ⟨HMZ.below (fun _ _ h => h), _, by first | rfl | simp, HOZ⟩
      · have hkb : ((k : Int) == 13) = false := by simp; omega
        go_wp2_with fail
        have HRX := HR0.out
        have HOX := HO.out
        have HMX := Moved.of_below HB.out (fun _ => False)
        have HRY := blk_set HRX 0 (.slice Av (word k).length cv)
        have HOY := Kd.R_set HOX HRX (by decide) 0 (.slice Av (word k).length cv)
        have HMY := HMX.set_ (p := ⟨W.heap.size, 0, none⟩) (.inr (Nat.le_refl _)) (.slice Av (word k).length cv)
        have HRZ := blk_set HRY 1 (.nilFunc)
        have HOZ := Kd.R_set HOY HRY (by decide) 1 (.nilFunc)
        have HMZ := HMY.set_ (p := ⟨W.heap.size, 1, none⟩) (.inr (Nat.le_refl _)) (.nilFunc)
        refine bodyPost_ret (results_c Tryz.results41 _ _ W.heap.size 102 #[.slice Av (word k).length cv, .nilFunc] (0, 0) _ (by rfl) (by simpa using HRZ) Tryz.underlying102 rfl infoShape) rfl ?_
        exact ⟨HMZ.below (fun _ _ h => h), _, by first | rfl | simp [hk13], HOZ⟩
end Go.Proofs.YtmneemhplffemaaGreatDoorRR.Tab
namespace Go.Proofs.YtmneemhplffemaaGreatDoorRR.Tab
open Go.RowKit Go.Proofs.YtmneemhplffemaaGreatDoorRR.Ord Go.Proofs.YtmneemhplffemaaGreatDoorRR.Name Go.Proofs.YtmneemhplffemaaGreatDoorRR.Ext Go.Proofs.YtmneemhplffemaaGreatDoorRR.Mem Go.Proofs.YtmneemhplffemaaGreatDoorRR.Law Go.Proofs.YtmneemhplffemaaGreatDoorRR.Row Go.Proofs.YtmneemhplffemaaGreatDoorRR.Ki Go.Proofs.YtmneemhplffemaaGreatDoorRR.Chk Go.Proofs.YtmneemhplffemaaGreatDoorRR.May Go.Proofs.YtmneemhplffemaaGreatDoorRRW.PrintWords
set_option linter.unusedVariables false
set_option linter.unusedSimpArgs false
theorem nil_C {α : Type} (d : Kd α) (w : World) : d.C w none ([] : List α).length [] := ⟨rfl, Nat.zero_le _, fun h => absurd h (Nat.lt_irrefl 0)⟩
theorem c_right (l : Ltr) (w0 W : World) (g : Nat) (x : Note) (cs : List Value) (hk : k34.K w0 x cs) (hb : Below w0.heap.size w0 W) (hbx : W.heap[g]? = some (.cells cs.toArray 34 (0, 0))) (HE : Env w0) (hz : Sane x) (b : Bool) (h : okF l x = b) :
    Calls Tryz.prog 42 #[.agg (fCells l).toArray, .pointer (some ⟨g, 0, none⟩)] W fun e W' => e = .returned (.bool b) ∧ Below W.heap.size W W' := by
  cases l
  case ln =>
    have hc : W.cell? ⟨g, 1, none⟩ = some (.int .i64 x.f1.f0) := by
      obtain ⟨A11, c11, A12, c12, A16, c16, A17, c17, A18, c18, A19, c19, rfl, l11, g11, l12, g12, l16, g16, l17, g17, l18, g18, l19, g19⟩ := k34_open hk
      exact blk_cell hbx 1
    exact right_num _ 1 (fun _ _ => by kernel_rfl) n_ln 1 _ W g hc b h
  case ls =>
    have hc : W.cell? ⟨g, 4, none⟩ = some (.int .i64 x.f2) := by
      obtain ⟨A11, c11, A12, c12, A16, c16, A17, c17, A18, c18, A19, c19, rfl, l11, g11, l12, g12, l16, g16, l17, g17, l18, g18, l19, g19⟩ := k34_open hk
      exact blk_cell hbx 4
    exact right_num _ 4 (fun _ _ => by kernel_rfl) n_ls 1 _ W g hc b h
  case lc =>
    have hc : W.cell? ⟨g, 5, none⟩ = some (.int .i64 x.f3) := by
      obtain ⟨A11, c11, A12, c12, A16, c16, A17, c17, A18, c18, A19, c19, rfl, l11, g11, l12, g12, l16, g16, l17, g17, l18, g18, l19, g19⟩ := k34_open hk
      exact blk_cell hbx 5
    exact right_num _ 5 (fun _ _ => by kernel_rfl) n_lc 1 _ W g hc b h
  case lr =>
    have hc : W.cell? ⟨g, 6, none⟩ = some (.int .i64 x.f4) := by
      obtain ⟨A11, c11, A12, c12, A16, c16, A17, c17, A18, c18, A19, c19, rfl, l11, g11, l12, g12, l16, g16, l17, g17, l18, g18, l19, g19⟩ := k34_open hk
      exact blk_cell hbx 6
    exact right_num _ 6 (fun _ _ => by kernel_rfl) n_lr 1 _ W g hc b h
  case lt =>
    have hc : W.cell? ⟨g, 7, none⟩ = some (.int .i64 x.f5) := by
      obtain ⟨A11, c11, A12, c12, A16, c16, A17, c17, A18, c18, A19, c19, rfl, l11, g11, l12, g12, l16, g16, l17, g17, l18, g18, l19, g19⟩ := k34_open hk
      exact blk_cell hbx 7
    exact right_num _ 7 (fun _ _ => by kernel_rfl) n_lt 0 _ W g hc b h
  case lf =>
    have hc : W.cell? ⟨g, 8, none⟩ = some (.int .i64 x.f6) := by
      obtain ⟨A11, c11, A12, c12, A16, c16, A17, c17, A18, c18, A19, c19, rfl, l11, g11, l12, g12, l16, g16, l17, g17, l18, g18, l19, g19⟩ := k34_open hk
      exact blk_cell hbx 8
    exact right_num _ 8 (fun _ _ => by kernel_rfl) n_lf 0 _ W g hc b h
  case lm =>
    have hc : W.cell? ⟨g, 9, none⟩ = some (.int .i64 x.f7) := by
      obtain ⟨A11, c11, A12, c12, A16, c16, A17, c17, A18, c18, A19, c19, rfl, l11, g11, l12, g12, l16, g16, l17, g17, l18, g18, l19, g19⟩ := k34_open hk
      exact blk_cell hbx 9
    exact right_num _ 9 (fun _ _ => by kernel_rfl) n_lm 0 _ W g hc b h
  case uW => exact right_may _ (fun _ _ => by kernel_rfl) _ _ _ W g b (fun W1 h1 => mc_uW w0 W1 g x cs hk (below_step hb h1) (blk_below h1 hbx) HE hz b h)
  case lw => exact right_may _ (fun _ _ => by kernel_rfl) _ _ _ W g b (fun W1 h1 => mc_lw w0 W1 g x cs hk (below_step hb h1) (blk_below h1 hbx) HE hz b h)
  case ld => exact right_may _ (fun _ _ => by kernel_rfl) _ _ _ W g b (fun W1 h1 => mc_ld w0 W1 g x cs hk (below_step hb h1) (blk_below h1 hbx) HE hz b h)
  case uD => exact right_may _ (fun _ _ => by kernel_rfl) _ _ _ W g b (fun W1 h1 => mc_uD w0 W1 g x cs hk (below_step hb h1) (blk_below h1 hbx) HE hz b h)
  case le => exact right_may _ (fun _ _ => by kernel_rfl) _ _ _ W g b (fun W1 h1 => mc_le w0 W1 g x cs hk (below_step hb h1) (blk_below h1 hbx) HE hz b h)
  case lv => exact right_may _ (fun _ _ => by kernel_rfl) _ _ _ W g b (fun W1 h1 => mc_lv w0 W1 g x cs hk (below_step hb h1) (blk_below h1 hbx) HE hz b h)
  case ly => exact right_may _ (fun _ _ => by kernel_rfl) _ _ _ W g b (fun W1 h1 => mc_ly w0 W1 g x cs hk (below_step hb h1) (blk_below h1 hbx) HE hz b h)
  case la => exact right_may _ (fun _ _ => by kernel_rfl) _ _ _ W g b (fun W1 h1 => mc_la w0 W1 g x cs hk (below_step hb h1) (blk_below h1 hbx) HE hz b h)
  case lo => exact right_may _ (fun _ _ => by kernel_rfl) _ _ _ W g b (fun W1 h1 => mc_lo w0 W1 g x cs hk (below_step hb h1) (blk_below h1 hbx) HE hz b h)
  case uE => exact right_may _ (fun _ _ => by kernel_rfl) _ _ _ W g b (fun W1 h1 => mc_uE w0 W1 g x cs hk (below_step hb h1) (blk_below h1 hbx) HE hz b h)
  case uI => exact right_may _ (fun _ _ => by kernel_rfl) _ _ _ W g b (fun W1 h1 => mc_uI w0 W1 g x cs hk (below_step hb h1) (blk_below h1 hbx) HE hz b h)
  case uP => exact right_may _ (fun _ _ => by kernel_rfl) _ _ _ W g b (fun W1 h1 => mc_uP w0 W1 g x cs hk (below_step hb h1) (blk_below h1 hbx) HE hz b h)
/-- A note's box has been turned into that of another note. -/
def Turned (w0 W W' : World) (g : Nat) (y : Note) : Prop := Moved W W' (fun k => k = g) ∧ ∃ cs : List Value, k34.K w0 y cs ∧ W'.heap[g]? = some (.cells cs.toArray 34 (0, 0))
set_option maxRecDepth 100000 in
set_option maxHeartbeats 1000000 in
theorem wc_uW (w0 W : World) (g : Nat) (x : Note) (cs : List Value) (hk : k34.K w0 x cs) (hbx : W.heap[g]? = some (.cells cs.toArray 34 (0, 0))) :
    Calls Tryz.prog 172 #[.pointer (some ⟨g, 0, none⟩)] W fun e W' => e = .returned (.tuple #[]) ∧ Turned w0 W W' g (clrF .uW x) := by
  obtain ⟨A11, c11, A12, c12, A16, c16, A17, c17, A18, c18, A19, c19, rfl, l11, g11, l12, g12, l16, g16, l17, g17, l18, g18, l19, g19⟩ := k34_open hk
  have hc := blk_cell hbx
  have hf := blk_frozen hbx
  have n_17 : W.cell? ⟨g, 17, none⟩ = some (.slice A17 x.f12.length c17) := hc 17
  have HX := Aside0.mk (blk_set (hbx) 17 (.slice none 0 0))
  have HM := Aside0.mk ((Moved.refl W (fun k => k = g)).set_ (p := ⟨g, 17, none⟩) (.inl rfl) (.slice none 0 0))
  have HKK := Aside0.mk (k34_mk w0 (clrF .uW x) l11 g11 l12 g12 l16 g16 (Nat.le_refl 0) (nil_C _ _) l18 g18 l19 g19)
  clear hk hbx hc g11 l11 g12 l12 g16 l16 g17 l17 g18 l18 g19 l19
  go_enter Tryz.func172, Tryz.ntmps172
  go_wp2_with fail
  first | go_end0 | refine bodyPost_ret (results_none rfl _ _ _) rfl ?_
  exact ⟨rfl, HM.out, _, HKK.out, by simpa [clrF] using HX.out⟩
set_option maxRecDepth 100000 in
set_option maxHeartbeats 1000000 in
theorem wc_le (w0 W : World) (g : Nat) (x : Note) (cs : List Value) (hk : k34.K w0 x cs) (hbx : W.heap[g]? = some (.cells cs.toArray 34 (0, 0))) :
    Calls Tryz.prog 237 #[.pointer (some ⟨g, 0, none⟩)] W fun e W' => e = .returned (.tuple #[]) ∧ Turned w0 W W' g (clrF .le x) := by
  obtain ⟨A11, c11, A12, c12, A16, c16, A17, c17, A18, c18, A19, c19, rfl, l11, g11, l12, g12, l16, g16, l17, g17, l18, g18, l19, g19⟩ := k34_open hk
  have hc := blk_cell hbx
  have hf := blk_frozen hbx
  have n_10 : W.cell? ⟨g, 10, none⟩ = some (.int .i64 x.f8) := hc 10
  have HX := Aside0.mk (blk_set (hbx) 10 (.int .i64 0))
  have HM := Aside0.mk ((Moved.refl W (fun k => k = g)).set_ (p := ⟨g, 10, none⟩) (.inl rfl) (.int .i64 0))
  have HKK := Aside0.mk (k34_mk w0 (clrF .le x) l11 g11 l12 g12 l16 g16 l17 g17 l18 g18 l19 g19)
  clear hk hbx hc g11 l11 g12 l12 g16 l16 g17 l17 g18 l18 g19 l19
  go_enter Tryz.func237, Tryz.ntmps237
  go_wp2_with fail
  first | go_end0 | refine bodyPost_ret (results_none rfl _ _ _) rfl ?_
  exact ⟨rfl, HM.out, _, HKK.out, by simpa [clrF] using HX.out⟩
set_option maxRecDepth 100000 in
set_option maxHeartbeats 1000000 in
theorem wc_lv (w0 W : World) (g : Nat) (x : Note) (cs : List Value) (hk : k34.K w0 x cs) (hbx : W.heap[g]? = some (.cells cs.toArray 34 (0, 0))) :
    Calls Tryz.prog 241 #[.pointer (some ⟨g, 0, none⟩)] W fun e W' => e = .returned (.tuple #[]) ∧ Turned w0 W W' g (clrF .lv x) := by
  obtain ⟨A11, c11, A12, c12, A16, c16, A17, c17, A18, c18, A19, c19, rfl, l11, g11, l12, g12, l16, g16, l17, g17, l18, g18, l19, g19⟩ := k34_open hk
  have hc := blk_cell hbx
  have hf := blk_frozen hbx
  have n_1 : W.cell? ⟨g, 1, none⟩ = some (.int .i64 x.f1.f0) := hc 1
  have n_2 : W.cell? ⟨g, 2, none⟩ = some (.int .i64 x.f1.f1) := hc 2
  have n_3 : W.cell? ⟨g, 3, none⟩ = some (.int .i64 x.f1.f2) := hc 3
  have HX := Aside0.mk (blk_set (blk_set (blk_set (hbx) 1 (.int .i64 0)) 2 (.int .i64 0)) 3 (.int .i64 0))
  have HM := Aside0.mk ((((Moved.refl W (fun k => k = g)).set_ (p := ⟨g, 1, none⟩) (.inl rfl) (.int .i64 0)).set_ (p := ⟨g, 2, none⟩) (.inl rfl) (.int .i64 0)).set_ (p := ⟨g, 3, none⟩) (.inl rfl) (.int .i64 0))
  have HKK := Aside0.mk (k34_mk w0 (clrF .lv x) l11 g11 l12 g12 l16 g16 l17 g17 l18 g18 l19 g19)
  clear hk hbx hc g11 l11 g12 l12 g16 l16 g17 l17 g18 l18 g19 l19
  go_enter Tryz.func241, Tryz.ntmps241
  go_wp2_with fail
  first | go_end0 | refine bodyPost_ret (results_none rfl _ _ _) rfl ?_
  exact ⟨rfl, HM.out, _, HKK.out, by simpa [clrF] using HX.out⟩
set_option maxRecDepth 100000 in
set_option maxHeartbeats 1000000 in
theorem wc_ly (w0 W : World) (g : Nat) (x : Note) (cs : List Value) (hk : k34.K w0 x cs) (hbx : W.heap[g]? = some (.cells cs.toArray 34 (0, 0))) :
    Calls Tryz.prog 184 #[.pointer (some ⟨g, 0, none⟩)] W fun e W' => e = .returned (.tuple #[]) ∧ Turned w0 W W' g (clrF .ly x) := by
  obtain ⟨A11, c11, A12, c12, A16, c16, A17, c17, A18, c18, A19, c19, rfl, l11, g11, l12, g12, l16, g16, l17, g17, l18, g18, l19, g19⟩ := k34_open hk
  have hc := blk_cell hbx
  have hf := blk_frozen hbx
  have n_13 : W.cell? ⟨g, 13, none⟩ = some (.int .i64 x.f11.f0) := hc 13
  have n_14 : W.cell? ⟨g, 14, none⟩ = some (.int .i64 x.f11.f1) := hc 14
  have n_15 : W.cell? ⟨g, 15, none⟩ = some (.int .i64 x.f11.f2) := hc 15
  have n_16 : W.cell? ⟨g, 16, none⟩ = some (.slice A16 x.f11.f3.length c16) := hc 16
  have HX := Aside0.mk (blk_set (blk_set (blk_set (blk_set (hbx) 13 (.int .i64 0)) 14 (.int .i64 0)) 15 (.int .i64 0)) 16 (.slice none 0 0))
  have HM := Aside0.mk (((((Moved.refl W (fun k => k = g)).set_ (p := ⟨g, 13, none⟩) (.inl rfl) (.int .i64 0)).set_ (p := ⟨g, 14, none⟩) (.inl rfl) (.int .i64 0)).set_ (p := ⟨g, 15, none⟩) (.inl rfl) (.int .i64 0)).set_ (p := ⟨g, 16, none⟩) (.inl rfl) (.slice none 0 0))
  have HKK := Aside0.mk (k34_mk w0 (clrF .ly x) l11 g11 l12 g12 (Nat.le_refl 0) (nil_C _ _) l17 g17 l18 g18 l19 g19)
  clear hk hbx hc g11 l11 g12 l12 g16 l16 g17 l17 g18 l18 g19 l19
  go_enter Tryz.func184, Tryz.ntmps184
  go_wp2_with fail
  first | go_end0 | refine bodyPost_ret (results_none rfl _ _ _) rfl ?_
  exact ⟨rfl, HM.out, _, HKK.out, by simpa [clrF] using HX.out⟩
set_option maxRecDepth 100000 in
set_option maxHeartbeats 1000000 in
theorem wc_la (w0 W : World) (g : Nat) (x : Note) (cs : List Value) (hk : k34.K w0 x cs) (hbx : W.heap[g]? = some (.cells cs.toArray 34 (0, 0))) :
    Calls Tryz.prog 189 #[.pointer (some ⟨g, 0, none⟩)] W fun e W' => e = .returned (.tuple #[]) ∧ Turned w0 W W' g (clrF .la x) := by
  obtain ⟨A11, c11, A12, c12, A16, c16, A17, c17, A18, c18, A19, c19, rfl, l11, g11, l12, g12, l16, g16, l17, g17, l18, g18, l19, g19⟩ := k34_open hk
  have hc := blk_cell hbx
  have hf := blk_frozen hbx
  have n_20 : W.cell? ⟨g, 20, none⟩ = some (.string x.f15) := hc 20
  have HX := Aside0.mk (blk_set (hbx) 20 (.string ⟨#[]⟩))
  have HM := Aside0.mk ((Moved.refl W (fun k => k = g)).set_ (p := ⟨g, 20, none⟩) (.inl rfl) (.string ⟨#[]⟩))
  have HKK := Aside0.mk (k34_mk w0 (clrF .la x) l11 g11 l12 g12 l16 g16 l17 g17 l18 g18 l19 g19)
  clear hk hbx hc g11 l11 g12 l12 g16 l16 g17 l17 g18 l18 g19 l19
  go_enter Tryz.func189, Tryz.ntmps189
  go_wp2_with fail
  first | go_end0 | refine bodyPost_ret (results_none rfl _ _ _) rfl ?_
  exact ⟨rfl, HM.out, _, HKK.out, by simpa [clrF] using HX.out⟩
set_option maxRecDepth 100000 in
set_option maxHeartbeats 1000000 in
theorem wc_lo (w0 W : World) (g : Nat) (x : Note) (cs : List Value) (hk : k34.K w0 x cs) (hbx : W.heap[g]? = some (.cells cs.toArray 34 (0, 0))) :
    Calls Tryz.prog 193 #[.pointer (some ⟨g, 0, none⟩)] W fun e W' => e = .returned (.tuple #[]) ∧ Turned w0 W W' g (clrF .lo x) := by
  obtain ⟨A11, c11, A12, c12, A16, c16, A17, c17, A18, c18, A19, c19, rfl, l11, g11, l12, g12, l16, g16, l17, g17, l18, g18, l19, g19⟩ := k34_open hk
  have hc := blk_cell hbx
  have hf := blk_frozen hbx
  have n_11 : W.cell? ⟨g, 11, none⟩ = some (.slice A11 x.f9.length c11) := hc 11
  have HX := Aside0.mk (blk_set (hbx) 11 (.slice none 0 0))
  have HM := Aside0.mk ((Moved.refl W (fun k => k = g)).set_ (p := ⟨g, 11, none⟩) (.inl rfl) (.slice none 0 0))
  have HKK := Aside0.mk (k34_mk w0 (clrF .lo x) (Nat.le_refl 0) (nil_C _ _) l12 g12 l16 g16 l17 g17 l18 g18 l19 g19)
  clear hk hbx hc g11 l11 g12 l12 g16 l16 g17 l17 g18 l18 g19 l19
  go_enter Tryz.func193, Tryz.ntmps193
  go_wp2_with fail
  first | go_end0 | refine bodyPost_ret (results_none rfl _ _ _) rfl ?_
  exact ⟨rfl, HM.out, _, HKK.out, by simpa [clrF] using HX.out⟩
set_option maxRecDepth 100000 in
set_option maxHeartbeats 1000000 in
theorem wc_uE (w0 W : World) (g : Nat) (x : Note) (cs : List Value) (hk : k34.K w0 x cs) (hbx : W.heap[g]? = some (.cells cs.toArray 34 (0, 0))) :
    Calls Tryz.prog 199 #[.pointer (some ⟨g, 0, none⟩)] W fun e W' => e = .returned (.tuple #[]) ∧ Turned w0 W W' g (clrF .uE x) := by
  obtain ⟨A11, c11, A12, c12, A16, c16, A17, c17, A18, c18, A19, c19, rfl, l11, g11, l12, g12, l16, g16, l17, g17, l18, g18, l19, g19⟩ := k34_open hk
  have hc := blk_cell hbx
  have hf := blk_frozen hbx
  have n_12 : W.cell? ⟨g, 12, none⟩ = some (.slice A12 x.f10.length c12) := hc 12
  have HX := Aside0.mk (blk_set (hbx) 12 (.slice none 0 0))
  have HM := Aside0.mk ((Moved.refl W (fun k => k = g)).set_ (p := ⟨g, 12, none⟩) (.inl rfl) (.slice none 0 0))
  have HKK := Aside0.mk (k34_mk w0 (clrF .uE x) l11 g11 (Nat.le_refl 0) (nil_C _ _) l16 g16 l17 g17 l18 g18 l19 g19)
  clear hk hbx hc g11 l11 g12 l12 g16 l16 g17 l17 g18 l18 g19 l19
  go_enter Tryz.func199, Tryz.ntmps199
  go_wp2_with fail
  first | go_end0 | refine bodyPost_ret (results_none rfl _ _ _) rfl ?_
  exact ⟨rfl, HM.out, _, HKK.out, by simpa [clrF] using HX.out⟩
set_option maxRecDepth 100000 in
set_option maxHeartbeats 1000000 in
theorem wc_uI (w0 W : World) (g : Nat) (x : Note) (cs : List Value) (hk : k34.K w0 x cs) (hbx : W.heap[g]? = some (.cells cs.toArray 34 (0, 0))) :
    Calls Tryz.prog 208 #[.pointer (some ⟨g, 0, none⟩)] W fun e W' => e = .returned (.tuple #[]) ∧ Turned w0 W W' g (clrF .uI x) := by
  obtain ⟨A11, c11, A12, c12, A16, c16, A17, c17, A18, c18, A19, c19, rfl, l11, g11, l12, g12, l16, g16, l17, g17, l18, g18, l19, g19⟩ := k34_open hk
  have hc := blk_cell hbx
  have hf := blk_frozen hbx
  have n_19 : W.cell? ⟨g, 19, none⟩ = some (.slice A19 x.f14.length c19) := hc 19
  have HX := Aside0.mk (blk_set (hbx) 19 (.slice none 0 0))
  have HM := Aside0.mk ((Moved.refl W (fun k => k = g)).set_ (p := ⟨g, 19, none⟩) (.inl rfl) (.slice none 0 0))
  have HKK := Aside0.mk (k34_mk w0 (clrF .uI x) l11 g11 l12 g12 l16 g16 l17 g17 l18 g18 (Nat.le_refl 0) (nil_C _ _))
  clear hk hbx hc g11 l11 g12 l12 g16 l16 g17 l17 g18 l18 g19 l19
  go_enter Tryz.func208, Tryz.ntmps208
  go_wp2_with fail
  first | go_end0 | refine bodyPost_ret (results_none rfl _ _ _) rfl ?_
  exact ⟨rfl, HM.out, _, HKK.out, by simpa [clrF] using HX.out⟩
set_option maxRecDepth 100000 in
set_option maxHeartbeats 1000000 in
theorem wc_uP (w0 W : World) (g : Nat) (x : Note) (cs : List Value) (hk : k34.K w0 x cs) (hbx : W.heap[g]? = some (.cells cs.toArray 34 (0, 0))) :
    Calls Tryz.prog 217 #[.pointer (some ⟨g, 0, none⟩)] W fun e W' => e = .returned (.tuple #[]) ∧ Turned w0 W W' g (clrF .uP x) := by
  obtain ⟨A11, c11, A12, c12, A16, c16, A17, c17, A18, c18, A19, c19, rfl, l11, g11, l12, g12, l16, g16, l17, g17, l18, g18, l19, g19⟩ := k34_open hk
  have hc := blk_cell hbx
  have hf := blk_frozen hbx
  have n_18 : W.cell? ⟨g, 18, none⟩ = some (.slice A18 x.f13.length c18) := hc 18
  have HX := Aside0.mk (blk_set (hbx) 18 (.slice none 0 0))
  have HM := Aside0.mk ((Moved.refl W (fun k => k = g)).set_ (p := ⟨g, 18, none⟩) (.inl rfl) (.slice none 0 0))
  have HKK := Aside0.mk (k34_mk w0 (clrF .uP x) l11 g11 l12 g12 l16 g16 l17 g17 (Nat.le_refl 0) (nil_C _ _) l19 g19)
  clear hk hbx hc g11 l11 g12 l12 g16 l16 g17 l17 g18 l18 g19 l19
  go_enter Tryz.func217, Tryz.ntmps217
  go_wp2_with fail
  first | go_end0 | refine bodyPost_ret (results_none rfl _ _ _) rfl ?_
  exact ⟨rfl, HM.out, _, HKK.out, by simpa [clrF] using HX.out⟩
theorem c_clear (l : Ltr) (w0 W : World) (g : Nat) (x : Note) (cs : List Value) (hk : k34.K w0 x cs) (hb : Below w0.heap.size w0 W) (hbx : W.heap[g]? = some (.cells cs.toArray 34 (0, 0))) :
    Calls Tryz.prog 43 #[.agg (fCells l).toArray, .pointer (some ⟨g, 0, none⟩)] W fun e W' => e = .returned (.tuple #[]) ∧ Turned w0 W W' g (clrF l x) := by
  cases l
  case ln =>
    obtain ⟨A11, c11, A12, c12, A16, c16, A17, c17, A18, c18, A19, c19, rfl, l11, g11, l12, g12, l16, g16, l17, g17, l18, g18, l19, g19⟩ := k34_open hk
    exact (clear_num _ 1 (fun _ _ => by kernel_rfl) n_ln 1 x.f1.f0 W g _ hbx rfl).mono fun e W' ⟨he, hm, hx⟩ => ⟨he, hm, _, k34_mk w0 (clrF .ln x) l11 g11 l12 g12 l16 g16 l17 g17 l18 g18 l19 g19, by simpa [clrF] using hx⟩
  case ls =>
    obtain ⟨A11, c11, A12, c12, A16, c16, A17, c17, A18, c18, A19, c19, rfl, l11, g11, l12, g12, l16, g16, l17, g17, l18, g18, l19, g19⟩ := k34_open hk
    exact (clear_num _ 4 (fun _ _ => by kernel_rfl) n_ls 1 x.f2 W g _ hbx rfl).mono fun e W' ⟨he, hm, hx⟩ => ⟨he, hm, _, k34_mk w0 (clrF .ls x) l11 g11 l12 g12 l16 g16 l17 g17 l18 g18 l19 g19, by simpa [clrF] using hx⟩
  case lc =>
    obtain ⟨A11, c11, A12, c12, A16, c16, A17, c17, A18, c18, A19, c19, rfl, l11, g11, l12, g12, l16, g16, l17, g17, l18, g18, l19, g19⟩ := k34_open hk
    exact (clear_num _ 5 (fun _ _ => by kernel_rfl) n_lc 1 x.f3 W g _ hbx rfl).mono fun e W' ⟨he, hm, hx⟩ => ⟨he, hm, _, k34_mk w0 (clrF .lc x) l11 g11 l12 g12 l16 g16 l17 g17 l18 g18 l19 g19, by simpa [clrF] using hx⟩
  case lr =>
    obtain ⟨A11, c11, A12, c12, A16, c16, A17, c17, A18, c18, A19, c19, rfl, l11, g11, l12, g12, l16, g16, l17, g17, l18, g18, l19, g19⟩ := k34_open hk
    exact (clear_num _ 6 (fun _ _ => by kernel_rfl) n_lr 1 x.f4 W g _ hbx rfl).mono fun e W' ⟨he, hm, hx⟩ => ⟨he, hm, _, k34_mk w0 (clrF .lr x) l11 g11 l12 g12 l16 g16 l17 g17 l18 g18 l19 g19, by simpa [clrF] using hx⟩
  case lt =>
    obtain ⟨A11, c11, A12, c12, A16, c16, A17, c17, A18, c18, A19, c19, rfl, l11, g11, l12, g12, l16, g16, l17, g17, l18, g18, l19, g19⟩ := k34_open hk
    exact (clear_num _ 7 (fun _ _ => by kernel_rfl) n_lt 0 x.f5 W g _ hbx rfl).mono fun e W' ⟨he, hm, hx⟩ => ⟨he, hm, _, k34_mk w0 (clrF .lt x) l11 g11 l12 g12 l16 g16 l17 g17 l18 g18 l19 g19, by simpa [clrF] using hx⟩
  case lf =>
    obtain ⟨A11, c11, A12, c12, A16, c16, A17, c17, A18, c18, A19, c19, rfl, l11, g11, l12, g12, l16, g16, l17, g17, l18, g18, l19, g19⟩ := k34_open hk
    exact (clear_num _ 8 (fun _ _ => by kernel_rfl) n_lf 0 x.f6 W g _ hbx rfl).mono fun e W' ⟨he, hm, hx⟩ => ⟨he, hm, _, k34_mk w0 (clrF .lf x) l11 g11 l12 g12 l16 g16 l17 g17 l18 g18 l19 g19, by simpa [clrF] using hx⟩
  case lm =>
    obtain ⟨A11, c11, A12, c12, A16, c16, A17, c17, A18, c18, A19, c19, rfl, l11, g11, l12, g12, l16, g16, l17, g17, l18, g18, l19, g19⟩ := k34_open hk
    exact (clear_num _ 9 (fun _ _ => by kernel_rfl) n_lm 0 x.f7 W g _ hbx rfl).mono fun e W' ⟨he, hm, hx⟩ => ⟨he, hm, _, k34_mk w0 (clrF .lm x) l11 g11 l12 g12 l16 g16 l17 g17 l18 g18 l19 g19, by simpa [clrF] using hx⟩
  case uW => exact clear_wipe _ (fun _ _ => by kernel_rfl) _ _ _ W g _ ((wc_uW w0 _ g x cs hk (blk_below (below_alloc (Below.refl _ _) _) hbx)).mono fun e W' ⟨he, hm, hx⟩ => ⟨he, (Moved.of_below (below_alloc (Below.refl _ _) _) (fun k => k = g)).trans hm (fun _ _ h => h), hx⟩)
  case lw => exact clear_wipe _ (fun _ _ => by kernel_rfl) _ _ _ W g _ ((wc_uW w0 _ g x cs hk (blk_below (below_alloc (Below.refl _ _) _) hbx)).mono fun e W' ⟨he, hm, hx⟩ => ⟨he, (Moved.of_below (below_alloc (Below.refl _ _) _) (fun k => k = g)).trans hm (fun _ _ h => h), hx⟩)
  case ld => exact clear_wipe _ (fun _ _ => by kernel_rfl) _ _ _ W g _ ((wc_uW w0 _ g x cs hk (blk_below (below_alloc (Below.refl _ _) _) hbx)).mono fun e W' ⟨he, hm, hx⟩ => ⟨he, (Moved.of_below (below_alloc (Below.refl _ _) _) (fun k => k = g)).trans hm (fun _ _ h => h), hx⟩)
  case uD => exact clear_wipe _ (fun _ _ => by kernel_rfl) _ _ _ W g _ ((wc_uW w0 _ g x cs hk (blk_below (below_alloc (Below.refl _ _) _) hbx)).mono fun e W' ⟨he, hm, hx⟩ => ⟨he, (Moved.of_below (below_alloc (Below.refl _ _) _) (fun k => k = g)).trans hm (fun _ _ h => h), hx⟩)
  case le => exact clear_wipe _ (fun _ _ => by kernel_rfl) _ _ _ W g _ ((wc_le w0 _ g x cs hk (blk_below (below_alloc (Below.refl _ _) _) hbx)).mono fun e W' ⟨he, hm, hx⟩ => ⟨he, (Moved.of_below (below_alloc (Below.refl _ _) _) (fun k => k = g)).trans hm (fun _ _ h => h), hx⟩)
  case lv => exact clear_wipe _ (fun _ _ => by kernel_rfl) _ _ _ W g _ ((wc_lv w0 _ g x cs hk (blk_below (below_alloc (Below.refl _ _) _) hbx)).mono fun e W' ⟨he, hm, hx⟩ => ⟨he, (Moved.of_below (below_alloc (Below.refl _ _) _) (fun k => k = g)).trans hm (fun _ _ h => h), hx⟩)
  case ly => exact clear_wipe _ (fun _ _ => by kernel_rfl) _ _ _ W g _ ((wc_ly w0 _ g x cs hk (blk_below (below_alloc (Below.refl _ _) _) hbx)).mono fun e W' ⟨he, hm, hx⟩ => ⟨he, (Moved.of_below (below_alloc (Below.refl _ _) _) (fun k => k = g)).trans hm (fun _ _ h => h), hx⟩)
  case la => exact clear_wipe _ (fun _ _ => by kernel_rfl) _ _ _ W g _ ((wc_la w0 _ g x cs hk (blk_below (below_alloc (Below.refl _ _) _) hbx)).mono fun e W' ⟨he, hm, hx⟩ => ⟨he, (Moved.of_below (below_alloc (Below.refl _ _) _) (fun k => k = g)).trans hm (fun _ _ h => h), hx⟩)
  case lo => exact clear_wipe _ (fun _ _ => by kernel_rfl) _ _ _ W g _ ((wc_lo w0 _ g x cs hk (blk_below (below_alloc (Below.refl _ _) _) hbx)).mono fun e W' ⟨he, hm, hx⟩ => ⟨he, (Moved.of_below (below_alloc (Below.refl _ _) _) (fun k => k = g)).trans hm (fun _ _ h => h), hx⟩)
  case uE => exact clear_wipe _ (fun _ _ => by kernel_rfl) _ _ _ W g _ ((wc_uE w0 _ g x cs hk (blk_below (below_alloc (Below.refl _ _) _) hbx)).mono fun e W' ⟨he, hm, hx⟩ => ⟨he, (Moved.of_below (below_alloc (Below.refl _ _) _) (fun k => k = g)).trans hm (fun _ _ h => h), hx⟩)
  case uI => exact clear_wipe _ (fun _ _ => by kernel_rfl) _ _ _ W g _ ((wc_uI w0 _ g x cs hk (blk_below (below_alloc (Below.refl _ _) _) hbx)).mono fun e W' ⟨he, hm, hx⟩ => ⟨he, (Moved.of_below (below_alloc (Below.refl _ _) _) (fun k => k = g)).trans hm (fun _ _ h => h), hx⟩)
  case uP => exact clear_wipe _ (fun _ _ => by kernel_rfl) _ _ _ W g _ ((wc_uP w0 _ g x cs hk (blk_below (below_alloc (Below.refl _ _) _) hbx)).mono fun e W' ⟨he, hm, hx⟩ => ⟨he, (Moved.of_below (below_alloc (Below.refl _ _) _) (fun k => k = g)).trans hm (fun _ _ h => h), hx⟩)
end Go.Proofs.YtmneemhplffemaaGreatDoorRR.Tab
namespace Go.Proofs.YtmneemhplffemaaGreatDoorRR.Tab
open Go.RowKit Go.Proofs.YtmneemhplffemaaGreatDoorRR.Ord Go.Proofs.YtmneemhplffemaaGreatDoorRR.Name Go.Proofs.YtmneemhplffemaaGreatDoorRR.Ext Go.Proofs.YtmneemhplffemaaGreatDoorRR.Mem Go.Proofs.YtmneemhplffemaaGreatDoorRR.Law Go.Proofs.YtmneemhplffemaaGreatDoorRR.Row Go.Proofs.YtmneemhplffemaaGreatDoorRR.Ki Go.Proofs.YtmneemhplffemaaGreatDoorRR.Chk Go.Proofs.YtmneemhplffemaaGreatDoorRR.May Go.Proofs.YtmneemhplffemaaGreatDoorRRW.PrintWords
set_option linter.unusedVariables false
set_option linter.unusedSimpArgs false
theorem infoNote : (Tryz.prog.info? 34).map (·.size) = some 21 := by kernel_rfl
theorem at_field {w : World} {A : Option Addr} {xs : List Ltr} (h : kField.C w A xs.length xs) (i : Nat) (l : Ltr) (hl : xs[i]? = some l) {q0 q1 q2 q3 q4 q5 : Value} (hq : fCells l = [q0, q1, q2, q3, q4, q5]) :
    ∃ ad, A = some ad ∧ w.cell? (ad.add (i * 6)) = some q0 ∧ w.cell? ⟨(ad.add (i * 6)).block, (ad.add (i * 6)).off + 1, none⟩ = some q1 ∧ w.cell? ⟨(ad.add (i * 6)).block, (ad.add (i * 6)).off + 2, none⟩ = some q2 ∧ w.cell? ⟨(ad.add (i * 6)).block, (ad.add (i * 6)).off + 3, none⟩ = some q3 ∧ w.cell? ⟨(ad.add (i * 6)).block, (ad.add (i * 6)).off + 4, none⟩ = some q4 ∧ w.cell? ⟨(ad.add (i * 6)).block, (ad.add (i * 6)).off + 5, none⟩ = some q5 := by
  obtain ⟨hi, he⟩ := List.getElem?_eq_some_iff.1 hl
  obtain ⟨ad, c, e, _, hK, hc0⟩ := Kd.C_get h .ln (i : Int) (by omega) (by omega)
  have hc : ∀ j u, c[j]? = some u → w.cell? (ad.add (i * 6 + j)) = some u := hc0
  have hx : c = [q0, q1, q2, q3, q4, q5] := by
    rw [← hq]
    have hk : c = fCells (xs.getD (i : Int).toNat .ln) := hK
    rw [hk, Int.toNat_natCast, List.getD_eq_getElem?_getD, hl]
    rfl
  subst hx
  exact ⟨ad, e, hc 0 _ rfl, by rw [← add_field _ _ 1 (by omega)]; exact hc 1 _ rfl, by rw [← add_field _ _ 2 (by omega)]; exact hc 2 _ rfl, by rw [← add_field _ _ 3 (by omega)]; exact hc 3 _ rfl, by rw [← add_field _ _ 4 (by omega)]; exact hc 4 _ rfl, by rw [← add_field _ _ 5 (by omega)]; exact hc 5 _ rfl⟩
theorem q_one {l : Ltr} {q0 q1 q2 q3 q4 q5 : Value} (hq : fCells l = [q0, q1, q2, q3, q4, q5]) : ∀ u ∈ (#[q0, q1, q2, q3, q4, q5] : Array Value).toList, u.oneCell' = true := by
  intro u hu
  exact fCells_one l u (by rw [hq]; simpa using hu)
theorem cs_size {w0 : World} {x : Note} {cs : List Value} (hk : k34.K w0 x cs) : (Tryz.prog.info? 34).map (·.size) = some cs.toArray.size := by
  rw [infoNote]
  have h := k34.K_len hk
  rw [List.size_toArray, h]
  rfl
theorem shape_one {k : Nat} {A : Option Addr} {n c : Nat} {mf : Value} (hmf : mf = (if k = 13 then (.func (.func 90) #[] #[] : Value) else .nilFunc)) : ∀ u ∈ (#[.slice A n c, mf] : Array Value).toList, u.oneCell' = true := by
  intro u hu
  simp only [List.mem_cons, List.not_mem_nil, or_false] at hu
  rcases hu with rfl | rfl
  · rfl
  · rw [hmf]
    split <;> rfl
theorem note_one {w0 : World} {x : Note} {cs : List Value} (hk : k34.K w0 x cs) : ∀ u ∈ cs.toArray.toList, u.oneCell' = true := fun u hu => k34.K_one hk u hu
theorem note_size {w0 : World} {x : Note} {cs : List Value} (hk : k34.K w0 x cs) : (21 : Nat) = cs.toArray.size := by
  have h := k34.K_len hk
  rw [List.size_toArray, h]
  rfl
/-- A box that was just made has been written. -/
theorem Moved.above_ {w w1 : World} {o : Obj} {g : Nat} (h : Moved (w.alloc o) w1 (fun k => k = g)) (hg : w.heap.size ≤ g) : Below w.heap.size w w1 := h.above (below_alloc (Below.refl _ _) _) (fun k hk => by omega)
theorem check_true {x : Note} (h0 : 1 ≤ x.f0) (h1 : x.f0 < 25) (ha : (word x.f0.toNat).all (fun l => okF l x) = true) (hb : mBlank (clrFs (word x.f0.toNat) x) = true) (hg : x.f0 = 13 → mGranted x = true) : mCheck x = true := by
  unfold mCheck
  rw [decide_eq_true h0, decide_eq_true h1, ha, hb]
  by_cases h : x.f0 = 13
  · simp [hg h]
  · simp [h]
theorem clr_snoc (w : List Ltr) (l : Ltr) (x : Note) : clrFs (w ++ [l]) x = clrF l (clrFs w x) := by simp [clrFs]
theorem sane_clrs (w : List Ltr) : ∀ {x : Note}, Sane x → Sane (clrFs w x) := by
  induction w with
  | nil => exact fun h => h
  | cons l w ih => exact fun h => ih (sane_clr l h)
set_option maxRecDepth 100000 in
set_option maxHeartbeats 8000000 in
theorem c_checkP (w0 W : World) (x : Note) (cs : List Value) (hk : k34.K w0 x cs) (hb : Below w0.heap.size w0 W) (HE : EnvN w0) (hz : Sane x) :
    Calls Tryz.prog 17 #[.agg cs.toArray] W fun e W' => e = .returned (.int .i64 (if mCheck x = true then 0 else 30)) ∧ Below W.heap.size W W' := by
  obtain ⟨r, hr⟩ : ∃ r, r = (if mCheck x = true then (0 : Int) else 30) := ⟨_, rfl⟩
  rw [← hr]
  have HR := Aside0.mk hr
  have HK := Aside0.mk hk
  have HE := Aside0.mk HE
  have HZ := Aside0.mk hz
  have HA0 := Aside0.mk hb
  have hsz := cs_size hk
  have HSZ := Aside0.mk hsz
  have hn0 : cs.toArray[0]? = some (.int .i64 x.f0) := by
    obtain ⟨A11, c11, A12, c12, A16, c16, A17, c17, A18, c18, A19, c19, rfl, l11, g11, l12, g12, l16, g16, l17, g17, l18, g18, l19, g19⟩ := k34_open hk
    rfl
  clear hr hk hz hb hsz
  go_enter Tryz.func17, Tryz.ntmps17
  go_upto_region 1 with ((with_reducible refine gate_box (t := 34) rfl ?_); refine box_row rfl rfl rfl ?_; intro gb hgb w1 hbx hb1; have HBX := Aside0.mk hbx; have HB1 := Aside0.mk hb1; have HGB := Aside0.mk hgb; clear hbx hb1 hgb)
  have n_0 := (blk_cell HBX.out 0).trans hn0
  clear hn0
  cases h1 : decide (x.f0 < 1) with
  | true =>
    go_wp2_with fail
    go_ret
    exact ⟨by rw [HR.out, mCheck, show decide (1 ≤ x.f0) = false by have hq_ := of_decide_eq_true h1; simp; omega]; rfl, HB1.out⟩
  | false =>
    cases h2 : decide (x.f0 ≥ 25) with
    | true =>
      have h2_0 : decide ((25 : Int) ≤ x.f0) = true := h2
      go_wp2_with fail
      go_ret
      exact ⟨by rw [HR.out, mCheck, show decide (x.f0 < 25) = false by have hq_ := of_decide_eq_true h2; simp; omega]; simp, HB1.out⟩
    | false =>
      have h2_0 : decide ((25 : Int) ≤ x.f0) = false := h2
      have q1 := of_decide_eq_false h1
      have q2 := of_decide_eq_false h2
      obtain ⟨k, hkx⟩ := Int.eq_ofNat_of_zero_le (show 0 ≤ x.f0 by omega)
      have HKX := Aside0.mk hkx
      have hk25 : k < 25 := by omega
      rw [hkx] at n_0 h1 h2 h2_0
      clear hkx q1 q2
      have HEN := Aside0.mk ((HE.out.at_ HA0.out).at_ HB1.out)
      go_upto_region 4 with (first | (go_at_call 41; (with_reducible refine (t_shape k hk25 _ HEN.out).mono ?_); rintro e w2 ⟨hb2, v, rfl, ho⟩; obtain ⟨mf, hmf⟩ : ∃ mf, mf = (if k = 13 then (.func (.func 90) #[] #[] : Value) else .nilFunc) := ⟨_, rfl⟩; rw [← hmf]; have HMF := Aside0.mk hmf; obtain ⟨A, c, rfl⟩ := Kd.R_slice ho; have HO := Aside0.mk ho; have HB2 := Aside0.mk hb2; clear hb2 ho hmf) | ((with_reducible refine gate_store2 (t := 102) rfl ?_); refine store_row (old := #[.slice none 0 0, .nilFunc]) (cs := #[.slice A (word k).length c, mf]) rfl rfl rfl (blk_alloc _) rfl rfl infoShape rfl (shape_one HMF.out) ?_; intro w3 hm3 hx3; have HS3 := Aside0.mk hx3; have HG3 := Aside0.mk (hm3.blk (blk_below (below_alloc (Below.refl _ _) _) (blk_below HB2.out HBX.out)) (Nat.ne_of_lt (blk_lt (blk_below HB2.out HBX.out)))); have HO3 := Aside0.mk (Kd.R_below HO.out (Moved.above_ hm3 (Nat.le_refl _))); have HB3 := Aside0.mk (below_step (below_step HB1.out HB2.out) (Moved.above_ hm3 (Nat.le_refl _))); clear hm3 hx3))
      go_wp2_with (first | ((with_reducible refine gate_load (t := 34) rfl ?_); refine load_row rfl rfl Tryz.underlying34 rfl HG3.out rfl HSZ.out ?_) | ((with_reducible refine gate_store2 (t := 34) rfl ?_); refine store_row (old := #[.int .i64 0, .int .i64 0, .int .i64 0, .int .i64 0, .int .i64 0, .int .i64 0, .int .i64 0, .int .i64 0, .int .i64 0, .int .i64 0, .int .i64 0, .slice none 0 0, .slice none 0 0, .int .i64 0, .int .i64 0, .int .i64 0, .slice none 0 0, .slice none 0 0, .slice none 0 0, .slice none 0 0, .string ⟨#[]⟩]) (cs := cs.toArray) rfl rfl rfl (blk_alloc _) rfl rfl HSZ.out (note_size HK.out) (note_one HK.out) ?_; intro w4 hm4 hx4; have HY4 := Aside0.mk hx4; have HG4 := Aside0.mk (hm4.blk (blk_below (below_alloc (Below.refl _ _) _) HG3.out) (Nat.ne_of_lt (blk_lt HG3.out))); have HS4 := Aside0.mk (hm4.blk (blk_below (below_alloc (Below.refl _ _) _) HS3.out) (Nat.ne_of_lt (blk_lt HS3.out))); have HO4 := Aside0.mk (Kd.R_below HO3.out (Moved.above_ hm4 (Nat.le_refl _))); have HB4 := Aside0.mk (below_step HB3.out (Moved.above_ hm4 (Nat.le_refl _))); have hcs := blk_cell HS4.out; clear hm4 hx4))
      have HNE1 := Aside0.mk (Nat.ne_of_lt (blk_lt HG3.out))
      have HNE2 := Aside0.mk (Nat.ne_of_lt (blk_lt HS3.out))
      have HGE := Aside0.mk HB3.out.size
      have hwl : (word k).length ≤ 6 := word_len k hk25
      go_loopw [22] (fun vi wr => ∃ i : Nat, vi = .int .i64 i ∧ i ≤ (word k).length ∧ Aside0 (((word k).take i).all (fun l => okF l x) = true) ∧ Aside0 (Below W.heap.size W wr) ∧ Aside0 (wr.heap[gb]? = some (Obj.cells cs.toArray 34 (0, 0))) ∧ Aside0 (wr.heap[w2.heap.size]? = some (Obj.cells #[.slice A (word k).length c, mf] 102 (0, 0))) ∧ Aside0 (kField.R 109 wr w1.heap.size (fun _ => True) (.slice A (word k).length c) (word k)) ∧ ∃ cs' : List Value, Aside0 (k34.K w0 (clrFs ((word k).take i) x) cs') ∧ Aside0 (wr.heap[w3.heap.size]? = some (Obj.cells cs'.toArray 34 (0, 0)))) (fun vi _ => (word k).length - (intOf vi).toNat)
      case atStart => exact ⟨0, rfl, Nat.zero_le _, ⟨rfl⟩, HB4, HG4, HS4, HO4, cs, HK, HY4⟩
      case round =>
        clear HB4 HG4 HS4 HO4 HY4 hcs n_0 HG3 HS3 HO3 HO HB3 HB2 HBX HEN
        obtain ⟨i, rfl, hi, HALL, HB, HG, HS, HO, cs', HKY, HY⟩ := hrel
        obtain ⟨wo, rfl⟩ : ∃ wo : World, wo = wr := ⟨_, rfl⟩
        by_cases hlt : i < (word k).length
        · obtain ⟨l, hl⟩ : ∃ l, (word k)[i]? = some l := ⟨_, List.getElem?_eq_getElem hlt⟩
          have HLT := Aside0.mk hl
          obtain ⟨q0, q1, q2, q3, q4, q5, hq⟩ := fCells_open l
          have HQ := Aside0.mk hq
          obtain ⟨ad, rfl, a_0, a_1, a_2, a_3, a_4, a_5⟩ := at_field (Kd.R_reads' HO.out).2.2 i l hl hq
          have HA := Aside0.mk (below_step HA0.out HB.out)
          clear hl hq
          cases hok : okF l x with
          | true =>
            go_wp2_with (first | ((with_reducible refine gate_store2 (t := 109) rfl ?_); refine store_row (old := #[.int .i64 0, .nilFunc, .nilFunc, .nilFunc, .nilFunc, .nilFunc]) (cs := #[q0, q1, q2, q3, q4, q5]) rfl rfl rfl (blk_alloc _) rfl rfl infoField rfl (q_one HQ.out) ?_; intro w5 hm5 hx5; have HF := Aside0.mk hx5; replace HG := Aside0.mk (blk_below (Moved.above_ hm5 (Nat.le_refl _)) HG.out); replace HS := Aside0.mk (blk_below (Moved.above_ hm5 (Nat.le_refl _)) HS.out); have hcs := blk_cell HS.out; replace HO := Aside0.mk (Kd.R_below HO.out (Moved.above_ hm5 (Nat.le_refl _))); replace HY := Aside0.mk (blk_below (Moved.above_ hm5 (Nat.le_refl _)) HY.out); replace HB := Aside0.mk (below_step HB.out (Moved.above_ hm5 (Nat.le_refl _))); replace HA := Aside0.mk (below_step HA.out (Moved.above_ hm5 (Nat.le_refl _))); clear hm5 hx5 a_0 a_1 a_2 a_3 a_4 a_5) | ((with_reducible refine gate_load (t := 109) rfl ?_); refine load_row rfl rfl Tryz.underlying109 rfl HF.out rfl infoField ?_) | (go_at_call 42; have hri := c_right l w0 _ gb x cs HK.out HA.out HG.out HE.out.env HZ.out _ hok; rw [HQ.out] at hri; (with_reducible refine hri.mono ?_); clear hri; rintro e w6 ⟨rfl, hb6⟩; replace HF := Aside0.mk (blk_below hb6 HF.out); replace HG := Aside0.mk (blk_below (hb6) HG.out); replace HS := Aside0.mk (blk_below (hb6) HS.out); have hcs := blk_cell HS.out; replace HO := Aside0.mk (Kd.R_below HO.out (hb6)); replace HY := Aside0.mk (blk_below (hb6) HY.out); replace HB := Aside0.mk (below_step HB.out (hb6)); replace HA := Aside0.mk (below_step HA.out (hb6)); clear hb6) | (go_at_call 43; have hcl := c_clear l w0 _ w3.heap.size (clrFs ((word k).take i) x) cs' HKY.out HA.out HY.out; rw [HQ.out] at hcl; (with_reducible refine hcl.mono ?_); clear hcl; rintro e w7 ⟨rfl, hm7, cs2, hk7, hx7⟩; have HK7 := Aside0.mk hk7; have HY7 := Aside0.mk hx7; have HG7 := Aside0.mk (hm7.blk HG.out HNE1.out); have HS7 := Aside0.mk (hm7.blk HS.out HNE2.out); have HO7 := Aside0.mk (Get.R_moved HO.out HY.out (by decide) hm7); have HB7 := Aside0.mk (hm7.above HB.out (fun k hk => by rw [hk]; exact HGE.out)); clear hm7 hk7 hx7))
            go_roundw
            case rel => exact ⟨i + 1, by go_num, by omega, ⟨all_step HLT.out HALL.out hok⟩, HB7, HG7, HS7, HO7, cs2, ⟨by rw [List.take_add_one, HLT.out]; exact (clr_snoc _ l x) ▸ HK7.out⟩, HY7⟩
            case measure => simp [intOf]; omega
          | false =>
            go_wp2_with (first | ((with_reducible refine gate_store2 (t := 109) rfl ?_); refine store_row (old := #[.int .i64 0, .nilFunc, .nilFunc, .nilFunc, .nilFunc, .nilFunc]) (cs := #[q0, q1, q2, q3, q4, q5]) rfl rfl rfl (blk_alloc _) rfl rfl infoField rfl (q_one HQ.out) ?_; intro w5 hm5 hx5; have HF := Aside0.mk hx5; replace HG := Aside0.mk (blk_below (Moved.above_ hm5 (Nat.le_refl _)) HG.out); replace HS := Aside0.mk (blk_below (Moved.above_ hm5 (Nat.le_refl _)) HS.out); have hcs := blk_cell HS.out; replace HO := Aside0.mk (Kd.R_below HO.out (Moved.above_ hm5 (Nat.le_refl _))); replace HY := Aside0.mk (blk_below (Moved.above_ hm5 (Nat.le_refl _)) HY.out); replace HB := Aside0.mk (below_step HB.out (Moved.above_ hm5 (Nat.le_refl _))); replace HA := Aside0.mk (below_step HA.out (Moved.above_ hm5 (Nat.le_refl _))); clear hm5 hx5 a_0 a_1 a_2 a_3 a_4 a_5) | ((with_reducible refine gate_load (t := 109) rfl ?_); refine load_row rfl rfl Tryz.underlying109 rfl HF.out rfl infoField ?_) | (go_at_call 42; have hri := c_right l w0 _ gb x cs HK.out HA.out HG.out HE.out.env HZ.out _ hok; rw [HQ.out] at hri; (with_reducible refine hri.mono ?_); clear hri; rintro e w6 ⟨rfl, hb6⟩; replace HF := Aside0.mk (blk_below hb6 HF.out); replace HG := Aside0.mk (blk_below (hb6) HG.out); replace HS := Aside0.mk (blk_below (hb6) HS.out); have hcs := blk_cell HS.out; replace HO := Aside0.mk (Kd.R_below HO.out (hb6)); replace HY := Aside0.mk (blk_below (hb6) HY.out); replace HB := Aside0.mk (below_step HB.out (hb6)); replace HA := Aside0.mk (below_step HA.out (hb6)); clear hb6))
            go_ret
            have hr30 : r = 30 := HR.out.trans (if_neg (fun hm => by have h := (checked hm).right l (by rw [HKX.out, Int.toNat_natCast]; exact List.mem_of_getElem? HLT.out); rw [hok] at h; cases h))
            exact ⟨by rw [hr30]; rfl, HB.out⟩
        · have htk : (word k).take i = word k := List.take_of_length_le (by omega)
          rw [htk] at HKY HALL
          clear htk
          have hcs := blk_cell HS.out
          have HA := Aside0.mk (below_step HA0.out HB.out)
          cases hbl : mBlank (clrFs (word k) x) with
          | false =>
            go_wp2_with (first | ((with_reducible refine gate_load (t := 34) rfl ?_); refine load_row rfl rfl Tryz.underlying34 rfl HY.out rfl (cs_size HKY.out) ?_) | (go_at_call 44; (with_reducible refine (m_blank w0 _ _ _ _ hbl HKY.out (sane_clrs _ HZ.out)).mono ?_); rintro e w8 ⟨rfl, hb8⟩; replace HG := Aside0.mk (blk_below (hb8) HG.out); replace HS := Aside0.mk (blk_below (hb8) HS.out); have hcs := blk_cell HS.out; replace HO := Aside0.mk (Kd.R_below HO.out (hb8)); replace HY := Aside0.mk (blk_below (hb8) HY.out); replace HB := Aside0.mk (below_step HB.out (hb8)); replace HA := Aside0.mk (below_step HA.out (hb8)); clear hb8))
            go_ret
            have hr30 : r = 30 := HR.out.trans (if_neg (fun hm => by have h := (checked hm).blank; rw [HKX.out, Int.toNat_natCast, hbl] at h; cases h))
            exact ⟨by rw [hr30]; rfl, HB.out⟩
          | true =>
            have q1 := of_decide_eq_false h1
            by_cases hk13 : k = 13
            · subst hk13
              have hmf := HMF.out
              rw [if_pos rfl] at hmf
              subst hmf
              have hne : ∀ w : World, (binOp BinOp.neq 100 (.func (.func 90) #[] #[]) .nilFunc).run Tryz.prog w = .ok (.bool true) w := fun _ => rfl
              have hP := List.all_eq_true.1 HALL.out .uP (by simp [word, ltrList])
              have hP1 : x.f13.length = 1 := by
                simp only [okF, Bool.and_eq_true, beq_iff_eq] at hP
                exact hP.1
              clear hP
              cases hg : mGranted x with
              | true =>
                go_wp2_with (first | ((with_reducible refine gate_load (t := 34) rfl ?_); refine load_row rfl rfl Tryz.underlying34 rfl HY.out rfl (cs_size HKY.out) ?_) | (go_at_call 44; (with_reducible refine (m_blank w0 _ _ _ _ hbl HKY.out (sane_clrs _ HZ.out)).mono ?_); rintro e w8 ⟨rfl, hb8⟩; replace HG := Aside0.mk (blk_below (hb8) HG.out); replace HS := Aside0.mk (blk_below (hb8) HS.out); have hcs := blk_cell HS.out; replace HO := Aside0.mk (Kd.R_below HO.out (hb8)); replace HY := Aside0.mk (blk_below (hb8) HY.out); replace HB := Aside0.mk (below_step HB.out (hb8)); replace HA := Aside0.mk (below_step HA.out (hb8)); clear hb8) | (go_at_call 90; (with_reducible refine (m_granted w0 _ gb x cs HK.out HA.out HG.out HE.out.env HZ.out hP1 _ hg).mono ?_); rintro e w9 ⟨rfl, hb9⟩; replace HG := Aside0.mk (blk_below (hb9) HG.out); replace HS := Aside0.mk (blk_below (hb9) HS.out); have hcs := blk_cell HS.out; replace HO := Aside0.mk (Kd.R_below HO.out (hb9)); replace HY := Aside0.mk (blk_below (hb9) HY.out); replace HB := Aside0.mk (below_step HB.out (hb9)); replace HA := Aside0.mk (below_step HA.out (hb9)); clear hb9))
                go_ret
                have hr0 : r = 0 := HR.out.trans (if_pos (check_true (by rw [HKX.out]; decide) (by rw [HKX.out]; decide) (by rw [HKX.out]; exact HALL.out) (by rw [HKX.out]; exact hbl) (fun _ => hg)))
                exact ⟨by rw [hr0]; rfl, HB.out⟩
              | false =>
                go_wp2_with (first | ((with_reducible refine gate_load (t := 34) rfl ?_); refine load_row rfl rfl Tryz.underlying34 rfl HY.out rfl (cs_size HKY.out) ?_) | (go_at_call 44; (with_reducible refine (m_blank w0 _ _ _ _ hbl HKY.out (sane_clrs _ HZ.out)).mono ?_); rintro e w8 ⟨rfl, hb8⟩; replace HG := Aside0.mk (blk_below (hb8) HG.out); replace HS := Aside0.mk (blk_below (hb8) HS.out); have hcs := blk_cell HS.out; replace HO := Aside0.mk (Kd.R_below HO.out (hb8)); replace HY := Aside0.mk (blk_below (hb8) HY.out); replace HB := Aside0.mk (below_step HB.out (hb8)); replace HA := Aside0.mk (below_step HA.out (hb8)); clear hb8) | (go_at_call 90; (with_reducible refine (m_granted w0 _ gb x cs HK.out HA.out HG.out HE.out.env HZ.out hP1 _ hg).mono ?_); rintro e w9 ⟨rfl, hb9⟩; replace HG := Aside0.mk (blk_below (hb9) HG.out); replace HS := Aside0.mk (blk_below (hb9) HS.out); have hcs := blk_cell HS.out; replace HO := Aside0.mk (Kd.R_below HO.out (hb9)); replace HY := Aside0.mk (blk_below (hb9) HY.out); replace HB := Aside0.mk (below_step HB.out (hb9)); replace HA := Aside0.mk (below_step HA.out (hb9)); clear hb9))
                go_ret
                have hr30 : r = 30 := HR.out.trans (if_neg (fun hm => by have h := (checked hm).granted HKX.out; rw [hg] at h; cases h))
                exact ⟨by rw [hr30]; rfl, HB.out⟩
            · have hmf := HMF.out
              rw [if_neg hk13] at hmf
              subst hmf
              have hne : ∀ w : World, (binOp BinOp.neq 100 .nilFunc .nilFunc).run Tryz.prog w = .ok (.bool false) w := fun _ => rfl
              go_wp2_with (first | ((with_reducible refine gate_load (t := 34) rfl ?_); refine load_row rfl rfl Tryz.underlying34 rfl HY.out rfl (cs_size HKY.out) ?_) | (go_at_call 44; (with_reducible refine (m_blank w0 _ _ _ _ hbl HKY.out (sane_clrs _ HZ.out)).mono ?_); rintro e w8 ⟨rfl, hb8⟩; replace HG := Aside0.mk (blk_below (hb8) HG.out); replace HS := Aside0.mk (blk_below (hb8) HS.out); have hcs := blk_cell HS.out; replace HO := Aside0.mk (Kd.R_below HO.out (hb8)); replace HY := Aside0.mk (blk_below (hb8) HY.out); replace HB := Aside0.mk (below_step HB.out (hb8)); replace HA := Aside0.mk (below_step HA.out (hb8)); clear hb8))
              go_ret
              have hr0 : r = 0 := HR.out.trans (if_pos (check_true (by rw [HKX.out]; omega) (by rw [HKX.out]; omega) (by rw [HKX.out]; exact HALL.out) (by rw [HKX.out]; exact hbl) (fun h => absurd (by rw [HKX.out] at h; omega) hk13)))
              exact ⟨by rw [hr0]; rfl, HB.out⟩
end Go.Proofs.YtmneemhplffemaaGreatDoorRR.Tab
namespace Go.Proofs.YtmneemhplffemaaGreatDoorRR.Tab
open Go.RowKit Go.Proofs.YtmneemhplffemaaGreatDoorRR.Ord Go.Proofs.YtmneemhplffemaaGreatDoorRR.Name Go.Proofs.YtmneemhplffemaaGreatDoorRR.Ext Go.Proofs.YtmneemhplffemaaGreatDoorRR.Wire Go.Proofs.YtmneemhplffemaaGreatDoorRR.Mem Go.Proofs.YtmneemhplffemaaGreatDoorRR.Put Go.Proofs.YtmneemhplffemaaGreatDoorRR.Get Go.Proofs.YtmneemhplffemaaGreatDoorRR.Law Go.Proofs.YtmneemhplffemaaGreatDoorRR.Row Go.Proofs.YtmneemhplffemaaGreatDoorRR.Ki Go.Proofs.YtmneemhplffemaaGreatDoorRR.Chk Go.Proofs.YtmneemhplffemaaGreatDoorRR.May Go.Proofs.YtmneemhplffemaaGreatDoorRRW.PrintWords
set_option linter.unusedVariables false
set_option linter.unusedSimpArgs false
/-- What a field's read comes to. -/
structure ReadOk (W : World) (gr g : Nat) (A : Option Addr) (n c base : Nat) (r : Option (Note × Nat)) (e : Ending) (W' : World) : Prop where mk ::
  mov : Moved W W' (fun k => k = gr ∨ k = g)
  bad : r = none → e = .panicked flaw
  good : ∀ y' a', r = some (y', a') → e = .returned (.tuple #[]) ∧ Eye W' gr A n c a' ∧ ∃ cs' : List Value, k34.M W' base (fun _ => True) y' cs' ∧ W'.heap[g]? = some (.cells cs'.toArray 34 (0, 0))
theorem read_ends {W : World} {gr g : Nat} {A : Option Addr} {n c base : Nat} {r : Option (Note × Nat)} : ∀ e W', ReadOk W gr g A n c base r e W' → e = .returned (.tuple #[]) ∨ e = .panicked flaw := by
  intro e W' h
  cases r with
  | none => exact .inr (h.bad rfl)
  | some p => exact .inl (h.good p.1 p.2 rfl).1
theorem M_set {w : World} {base g : Nat} {y : Note} {cs : List Value} {cells : Array Value} (h : k34.M w base (fun _ => True) y cs) (hb : w.heap[g]? = some (.cells cells 34 (0, 0))) (i : Nat) (u : Value) : k34.M (w.setCell ⟨g, i, none⟩ u) base (fun _ => True) y cs :=
  k34.M_mono (fun _ _ => trivial) (Kd.M_far (p := ⟨g, i, none⟩) (Kd.M_types h hb (by decide)) (fun _ hk => hk.2) u)
theorem note_cells {w : World} {base : Nat} {y : Note} {cs : List Value} (h : k34.M w base (fun _ => True) y cs) (j : Nat) (hj : j < 21) : ∃ u, cs.toArray[j]? = some u := by
  have hl := k34.K_len (k34.K_of_M h)
  exact ⟨_, Array.getElem?_eq_getElem (by rw [List.size_toArray, hl]; exact hj)⟩
set_option maxRecDepth 100000 in
set_option maxHeartbeats 2000000 in
theorem gc_uW (w0 W : World) (gr g : Nat) (A : Option Addr) (c a : Nat) (xs : List Int) (hD : Get.Data w0 A c xs) (ha : a ≤ xs.length) (hb : Below w0.heap.size w0 W) (hgr : w0.heap.size ≤ gr) (hE : Eye W gr A xs.length c a) (hne : g ≠ gr) (base : Nat) (hbW : base ≤ W.heap.size) (y : Note) (cs : List Value) (hm : k34.M W base (fun _ => True) y cs) (hbx : W.heap[g]? = some (.cells cs.toArray 34 (0, 0))) :
    Calls Tryz.prog 171 #[.pointer (some ⟨gr, 0, none⟩), .pointer (some ⟨g, 0, none⟩)] W (ReadOk W gr g A xs.length c base (dF .uW xs a y)) := by
  have HD := Aside0.mk hD
  have HB := Aside0.mk hb
  have HE := Aside0.mk hE
  have HM := Aside0.mk hm
  have HX := Aside0.mk hbx
  clear hD hb hE hm hbx
  go_enter Tryz.func171, Tryz.ntmps171
  go_wp2_with fail
  refine (getList_Watch 232 (fun args w => by kernel_rfl) dWatch w0 W gr A c a xs (get_Watch w0 A c xs HD.out) (goes_Watch HD.out.bytes) HD.out ha HB.out hgr HE.out).mono ?_
  rintro e w1 ⟨hm1, hn, hs⟩
  cases hr : dLst dWatch xs a with
  | none =>
    obtain rfl := hn hr
    have HR := Aside0.mk (show dF .uW xs a y = none by simp only [dF, hr, Option.bind_none])
    exact ⟨rfl, hm1.mono (fun _ _ h => .inl h), (fun _ => rfl), fun y' a' h => by rw [HR.out] at h; cases h⟩
  | some p =>
    obtain ⟨x, a1⟩ := p
    obtain ⟨v, rfl, ho, he⟩ := hs _ _ hr
    have HR := Aside0.mk (show dF .uW xs a y = _ by simp only [dF, hr, Option.bind_some]; rfl)
    obtain ⟨A2, n2, c2, rfl⟩ : ∃ A n c, v = .slice A n c := (by obtain ⟨A, c, h⟩ := Kd.R_slice ho; exact ⟨A, _, c, h⟩)
    have HO := Aside0.mk (Kd.R_lower ho hbW)
    clear ho
    have HX1 := Aside0.mk (hm1.blk HX.out hne)
    have HM1 := Aside0.mk (Get.M_moved HM.out HE.out (by decide) hm1)
    have HV1 := Aside0.mk (hm1.mono (S' := fun k => k = gr ∨ k = g) (fun _ _ h => .inl h))
    have HE1 := Aside0.mk he
    have hl := note_cells HM.out
    obtain ⟨u17, hu17⟩ := hl 17 (by omega)
    have hc17 := (blk_cell HX1.out 17).trans hu17
    have hf17 := blk_frozen HX1.out 17
    clear hl hm1 hn hs he hr
    go_wp2_with fail
    first | go_end0 | refine bodyPost_ret (results_none rfl _ _ _) rfl ?_
    have HXF := (blk_set HX1.out 17 (.slice A2 n2 c2))
    have HMF := (M_set HM1.out HX1.out 17 (.slice A2 n2 c2))
    have HEF : Eye _ gr A xs.length c a1 := (blk_far (p := ⟨g, 17, none⟩) HE1.out (fun h => hne h.symm) (.slice A2 n2 c2))
    have HVF := (HV1.out).set_ (p := ⟨g, 17, none⟩) (.inl (.inr rfl)) (.slice A2 n2 c2)
    have HL17 := (Kd.R_set HO.out HX1.out (by decide) 17 (.slice A2 n2 c2))
    obtain ⟨v11, v12, v16, v17, v18, v19, hcs, g11, g12, g16, g17, g18, g19⟩ := k34_openM HMF
    subst hcs
    refine ⟨HVF, (fun h => by rw [HR.out] at h; cases h), fun y' a' h => ?_⟩
    rw [HR.out] at h
    simp only [Option.some.injEq, Prod.mk.injEq] at h
    obtain ⟨rfl, rfl⟩ := h
    exact ⟨rfl, HEF, _, k34_mkM _ base _ { y with f12 := x } g11 g12 g16 HL17 g18 g19, by simpa using HXF⟩
set_option maxRecDepth 100000 in
set_option maxHeartbeats 2000000 in
theorem gc_lo (w0 W : World) (gr g : Nat) (A : Option Addr) (c a : Nat) (xs : List Int) (hD : Get.Data w0 A c xs) (ha : a ≤ xs.length) (hb : Below w0.heap.size w0 W) (hgr : w0.heap.size ≤ gr) (hE : Eye W gr A xs.length c a) (hne : g ≠ gr) (base : Nat) (hbW : base ≤ W.heap.size) (y : Note) (cs : List Value) (hm : k34.M W base (fun _ => True) y cs) (hbx : W.heap[g]? = some (.cells cs.toArray 34 (0, 0))) :
    Calls Tryz.prog 192 #[.pointer (some ⟨gr, 0, none⟩), .pointer (some ⟨g, 0, none⟩)] W (ReadOk W gr g A xs.length c base (dF .lo xs a y)) := by
  have HD := Aside0.mk hD
  have HB := Aside0.mk hb
  have HE := Aside0.mk hE
  have HM := Aside0.mk hm
  have HX := Aside0.mk hbx
  clear hD hb hE hm hbx
  go_enter Tryz.func192, Tryz.ntmps192
  go_wp2_with fail
  refine (getList_Op 123 (fun args w => by kernel_rfl) dOp w0 W gr A c a xs (get_Op w0 A c xs HD.out) (goes_Op HD.out.bytes) HD.out ha HB.out hgr HE.out).mono ?_
  rintro e w1 ⟨hm1, hn, hs⟩
  cases hr : dLst dOp xs a with
  | none =>
    obtain rfl := hn hr
    have HR := Aside0.mk (show dF .lo xs a y = none by simp only [dF, hr, Option.bind_none])
    exact ⟨rfl, hm1.mono (fun _ _ h => .inl h), (fun _ => rfl), fun y' a' h => by rw [HR.out] at h; cases h⟩
  | some p =>
    obtain ⟨x, a1⟩ := p
    obtain ⟨v, rfl, ho, he⟩ := hs _ _ hr
    have HR := Aside0.mk (show dF .lo xs a y = _ by simp only [dF, hr, Option.bind_some]; rfl)
    obtain ⟨A2, n2, c2, rfl⟩ : ∃ A n c, v = .slice A n c := (by obtain ⟨A, c, h⟩ := Kd.R_slice ho; exact ⟨A, _, c, h⟩)
    have HO := Aside0.mk (Kd.R_lower ho hbW)
    clear ho
    have HX1 := Aside0.mk (hm1.blk HX.out hne)
    have HM1 := Aside0.mk (Get.M_moved HM.out HE.out (by decide) hm1)
    have HV1 := Aside0.mk (hm1.mono (S' := fun k => k = gr ∨ k = g) (fun _ _ h => .inl h))
    have HE1 := Aside0.mk he
    have hl := note_cells HM.out
    obtain ⟨u11, hu11⟩ := hl 11 (by omega)
    have hc11 := (blk_cell HX1.out 11).trans hu11
    have hf11 := blk_frozen HX1.out 11
    clear hl hm1 hn hs he hr
    go_wp2_with fail
    first | go_end0 | refine bodyPost_ret (results_none rfl _ _ _) rfl ?_
    have HXF := (blk_set HX1.out 11 (.slice A2 n2 c2))
    have HMF := (M_set HM1.out HX1.out 11 (.slice A2 n2 c2))
    have HEF : Eye _ gr A xs.length c a1 := (blk_far (p := ⟨g, 11, none⟩) HE1.out (fun h => hne h.symm) (.slice A2 n2 c2))
    have HVF := (HV1.out).set_ (p := ⟨g, 11, none⟩) (.inl (.inr rfl)) (.slice A2 n2 c2)
    have HL11 := (Kd.R_set HO.out HX1.out (by decide) 11 (.slice A2 n2 c2))
    obtain ⟨v11, v12, v16, v17, v18, v19, hcs, g11, g12, g16, g17, g18, g19⟩ := k34_openM HMF
    subst hcs
    refine ⟨HVF, (fun h => by rw [HR.out] at h; cases h), fun y' a' h => ?_⟩
    rw [HR.out] at h
    simp only [Option.some.injEq, Prod.mk.injEq] at h
    obtain ⟨rfl, rfl⟩ := h
    exact ⟨rfl, HEF, _, k34_mkM _ base _ { y with f9 := x } HL11 g12 g16 g17 g18 g19, by simpa using HXF⟩
set_option maxRecDepth 100000 in
set_option maxHeartbeats 2000000 in
theorem gc_uE (w0 W : World) (gr g : Nat) (A : Option Addr) (c a : Nat) (xs : List Int) (hD : Get.Data w0 A c xs) (ha : a ≤ xs.length) (hb : Below w0.heap.size w0 W) (hgr : w0.heap.size ≤ gr) (hE : Eye W gr A xs.length c a) (hne : g ≠ gr) (base : Nat) (hbW : base ≤ W.heap.size) (y : Note) (cs : List Value) (hm : k34.M W base (fun _ => True) y cs) (hbx : W.heap[g]? = some (.cells cs.toArray 34 (0, 0))) :
    Calls Tryz.prog 197 #[.pointer (some ⟨gr, 0, none⟩), .pointer (some ⟨g, 0, none⟩)] W (ReadOk W gr g A xs.length c base (dF .uE xs a y)) := by
  have HD := Aside0.mk hD
  have HB := Aside0.mk hb
  have HE := Aside0.mk hE
  have HM := Aside0.mk hm
  have HX := Aside0.mk hbx
  clear hD hb hE hm hbx
  go_enter Tryz.func197, Tryz.ntmps197
  go_wp2_with fail
  refine (getList_Entry 79 (fun args w => by kernel_rfl) dEntry w0 W gr A c a xs (get_Entry w0 A c xs HD.out) (goes_Entry HD.out.bytes) HD.out ha HB.out hgr HE.out).mono ?_
  rintro e w1 ⟨hm1, hn, hs⟩
  cases hr : dLst dEntry xs a with
  | none =>
    obtain rfl := hn hr
    have HR := Aside0.mk (show dF .uE xs a y = none by simp only [dF, hr, Option.bind_none])
    exact ⟨rfl, hm1.mono (fun _ _ h => .inl h), (fun _ => rfl), fun y' a' h => by rw [HR.out] at h; cases h⟩
  | some p =>
    obtain ⟨x, a1⟩ := p
    obtain ⟨v, rfl, ho, he⟩ := hs _ _ hr
    have HR := Aside0.mk (show dF .uE xs a y = _ by simp only [dF, hr, Option.bind_some]; rfl)
    obtain ⟨A2, n2, c2, rfl⟩ : ∃ A n c, v = .slice A n c := (by obtain ⟨A, c, h⟩ := Kd.R_slice ho; exact ⟨A, _, c, h⟩)
    have HO := Aside0.mk (Kd.R_lower ho hbW)
    clear ho
    have HX1 := Aside0.mk (hm1.blk HX.out hne)
    have HM1 := Aside0.mk (Get.M_moved HM.out HE.out (by decide) hm1)
    have HV1 := Aside0.mk (hm1.mono (S' := fun k => k = gr ∨ k = g) (fun _ _ h => .inl h))
    have HE1 := Aside0.mk he
    have hl := note_cells HM.out
    obtain ⟨u12, hu12⟩ := hl 12 (by omega)
    have hc12 := (blk_cell HX1.out 12).trans hu12
    have hf12 := blk_frozen HX1.out 12
    clear hl hm1 hn hs he hr
    go_wp2_with fail
    first | go_end0 | refine bodyPost_ret (results_none rfl _ _ _) rfl ?_
    have HXF := (blk_set HX1.out 12 (.slice A2 n2 c2))
    have HMF := (M_set HM1.out HX1.out 12 (.slice A2 n2 c2))
    have HEF : Eye _ gr A xs.length c a1 := (blk_far (p := ⟨g, 12, none⟩) HE1.out (fun h => hne h.symm) (.slice A2 n2 c2))
    have HVF := (HV1.out).set_ (p := ⟨g, 12, none⟩) (.inl (.inr rfl)) (.slice A2 n2 c2)
    have HL12 := (Kd.R_set HO.out HX1.out (by decide) 12 (.slice A2 n2 c2))
    obtain ⟨v11, v12, v16, v17, v18, v19, hcs, g11, g12, g16, g17, g18, g19⟩ := k34_openM HMF
    subst hcs
    refine ⟨HVF, (fun h => by rw [HR.out] at h; cases h), fun y' a' h => ?_⟩
    rw [HR.out] at h
    simp only [Option.some.injEq, Prod.mk.injEq] at h
    obtain ⟨rfl, rfl⟩ := h
    exact ⟨rfl, HEF, _, k34_mkM _ base _ { y with f10 := x } g11 HL12 g16 g17 g18 g19, by simpa using HXF⟩
set_option maxRecDepth 100000 in
set_option maxHeartbeats 2000000 in
theorem gc_uI (w0 W : World) (gr g : Nat) (A : Option Addr) (c a : Nat) (xs : List Int) (hD : Get.Data w0 A c xs) (ha : a ≤ xs.length) (hb : Below w0.heap.size w0 W) (hgr : w0.heap.size ≤ gr) (hE : Eye W gr A xs.length c a) (hne : g ≠ gr) (base : Nat) (hbW : base ≤ W.heap.size) (y : Note) (cs : List Value) (hm : k34.M W base (fun _ => True) y cs) (hbx : W.heap[g]? = some (.cells cs.toArray 34 (0, 0))) :
    Calls Tryz.prog 205 #[.pointer (some ⟨gr, 0, none⟩), .pointer (some ⟨g, 0, none⟩)] W (ReadOk W gr g A xs.length c base (dF .uI xs a y)) := by
  have HD := Aside0.mk hD
  have HB := Aside0.mk hb
  have HE := Aside0.mk hE
  have HM := Aside0.mk hm
  have HX := Aside0.mk hbx
  clear hD hb hE hm hbx
  go_enter Tryz.func205, Tryz.ntmps205
  go_wp2_with fail
  refine (getList_Item 207 (fun args w => by kernel_rfl) dItem w0 W gr A c a xs (get_Item w0 A c xs HD.out) (goes_Item HD.out.bytes) HD.out ha HB.out hgr HE.out).mono ?_
  rintro e w1 ⟨hm1, hn, hs⟩
  cases hr : dLst dItem xs a with
  | none =>
    obtain rfl := hn hr
    have HR := Aside0.mk (show dF .uI xs a y = none by simp only [dF, hr, Option.bind_none])
    exact ⟨rfl, hm1.mono (fun _ _ h => .inl h), (fun _ => rfl), fun y' a' h => by rw [HR.out] at h; cases h⟩
  | some p =>
    obtain ⟨x, a1⟩ := p
    obtain ⟨v, rfl, ho, he⟩ := hs _ _ hr
    have HR := Aside0.mk (show dF .uI xs a y = _ by simp only [dF, hr, Option.bind_some]; rfl)
    obtain ⟨A2, n2, c2, rfl⟩ : ∃ A n c, v = .slice A n c := (by obtain ⟨A, c, h⟩ := Kd.R_slice ho; exact ⟨A, _, c, h⟩)
    have HO := Aside0.mk (Kd.R_lower ho hbW)
    clear ho
    have HX1 := Aside0.mk (hm1.blk HX.out hne)
    have HM1 := Aside0.mk (Get.M_moved HM.out HE.out (by decide) hm1)
    have HV1 := Aside0.mk (hm1.mono (S' := fun k => k = gr ∨ k = g) (fun _ _ h => .inl h))
    have HE1 := Aside0.mk he
    have hl := note_cells HM.out
    obtain ⟨u19, hu19⟩ := hl 19 (by omega)
    have hc19 := (blk_cell HX1.out 19).trans hu19
    have hf19 := blk_frozen HX1.out 19
    clear hl hm1 hn hs he hr
    go_wp2_with fail
    first | go_end0 | refine bodyPost_ret (results_none rfl _ _ _) rfl ?_
    have HXF := (blk_set HX1.out 19 (.slice A2 n2 c2))
    have HMF := (M_set HM1.out HX1.out 19 (.slice A2 n2 c2))
    have HEF : Eye _ gr A xs.length c a1 := (blk_far (p := ⟨g, 19, none⟩) HE1.out (fun h => hne h.symm) (.slice A2 n2 c2))
    have HVF := (HV1.out).set_ (p := ⟨g, 19, none⟩) (.inl (.inr rfl)) (.slice A2 n2 c2)
    have HL19 := (Kd.R_set HO.out HX1.out (by decide) 19 (.slice A2 n2 c2))
    obtain ⟨v11, v12, v16, v17, v18, v19, hcs, g11, g12, g16, g17, g18, g19⟩ := k34_openM HMF
    subst hcs
    refine ⟨HVF, (fun h => by rw [HR.out] at h; cases h), fun y' a' h => ?_⟩
    rw [HR.out] at h
    simp only [Option.some.injEq, Prod.mk.injEq] at h
    obtain ⟨rfl, rfl⟩ := h
    exact ⟨rfl, HEF, _, k34_mkM _ base _ { y with f14 := x } g11 g12 g16 g17 g18 HL19, by simpa using HXF⟩
set_option maxRecDepth 100000 in
set_option maxHeartbeats 2000000 in
theorem gc_uP (w0 W : World) (gr g : Nat) (A : Option Addr) (c a : Nat) (xs : List Int) (hD : Get.Data w0 A c xs) (ha : a ≤ xs.length) (hb : Below w0.heap.size w0 W) (hgr : w0.heap.size ≤ gr) (hE : Eye W gr A xs.length c a) (hne : g ≠ gr) (base : Nat) (hbW : base ≤ W.heap.size) (y : Note) (cs : List Value) (hm : k34.M W base (fun _ => True) y cs) (hbx : W.heap[g]? = some (.cells cs.toArray 34 (0, 0))) :
    Calls Tryz.prog 214 #[.pointer (some ⟨gr, 0, none⟩), .pointer (some ⟨g, 0, none⟩)] W (ReadOk W gr g A xs.length c base (dF .uP xs a y)) := by
  have HD := Aside0.mk hD
  have HB := Aside0.mk hb
  have HE := Aside0.mk hE
  have HM := Aside0.mk hm
  have HX := Aside0.mk hbx
  clear hD hb hE hm hbx
  go_enter Tryz.func214, Tryz.ntmps214
  go_wp2_with fail
  refine (getList_Part 216 (fun args w => by kernel_rfl) dPart w0 W gr A c a xs (get_Part w0 A c xs HD.out) (goes_Part HD.out.bytes) HD.out ha HB.out hgr HE.out).mono ?_
  rintro e w1 ⟨hm1, hn, hs⟩
  cases hr : dLst dPart xs a with
  | none =>
    obtain rfl := hn hr
    have HR := Aside0.mk (show dF .uP xs a y = none by simp only [dF, hr, Option.bind_none])
    exact ⟨rfl, hm1.mono (fun _ _ h => .inl h), (fun _ => rfl), fun y' a' h => by rw [HR.out] at h; cases h⟩
  | some p =>
    obtain ⟨x, a1⟩ := p
    obtain ⟨v, rfl, ho, he⟩ := hs _ _ hr
    have HR := Aside0.mk (show dF .uP xs a y = _ by simp only [dF, hr, Option.bind_some]; rfl)
    obtain ⟨A2, n2, c2, rfl⟩ : ∃ A n c, v = .slice A n c := (by obtain ⟨A, c, h⟩ := Kd.R_slice ho; exact ⟨A, _, c, h⟩)
    have HO := Aside0.mk (Kd.R_lower ho hbW)
    clear ho
    have HX1 := Aside0.mk (hm1.blk HX.out hne)
    have HM1 := Aside0.mk (Get.M_moved HM.out HE.out (by decide) hm1)
    have HV1 := Aside0.mk (hm1.mono (S' := fun k => k = gr ∨ k = g) (fun _ _ h => .inl h))
    have HE1 := Aside0.mk he
    have hl := note_cells HM.out
    obtain ⟨u18, hu18⟩ := hl 18 (by omega)
    have hc18 := (blk_cell HX1.out 18).trans hu18
    have hf18 := blk_frozen HX1.out 18
    clear hl hm1 hn hs he hr
    go_wp2_with fail
    first | go_end0 | refine bodyPost_ret (results_none rfl _ _ _) rfl ?_
    have HXF := (blk_set HX1.out 18 (.slice A2 n2 c2))
    have HMF := (M_set HM1.out HX1.out 18 (.slice A2 n2 c2))
    have HEF : Eye _ gr A xs.length c a1 := (blk_far (p := ⟨g, 18, none⟩) HE1.out (fun h => hne h.symm) (.slice A2 n2 c2))
    have HVF := (HV1.out).set_ (p := ⟨g, 18, none⟩) (.inl (.inr rfl)) (.slice A2 n2 c2)
    have HL18 := (Kd.R_set HO.out HX1.out (by decide) 18 (.slice A2 n2 c2))
    obtain ⟨v11, v12, v16, v17, v18, v19, hcs, g11, g12, g16, g17, g18, g19⟩ := k34_openM HMF
    subst hcs
    refine ⟨HVF, (fun h => by rw [HR.out] at h; cases h), fun y' a' h => ?_⟩
    rw [HR.out] at h
    simp only [Option.some.injEq, Prod.mk.injEq] at h
    obtain ⟨rfl, rfl⟩ := h
    exact ⟨rfl, HEF, _, k34_mkM _ base _ { y with f13 := x } g11 g12 g16 g17 HL18 g19, by simpa using HXF⟩
set_option maxRecDepth 100000 in
set_option maxHeartbeats 2000000 in
theorem gc_ly (w0 W : World) (gr g : Nat) (A : Option Addr) (c a : Nat) (xs : List Int) (hD : Get.Data w0 A c xs) (ha : a ≤ xs.length) (hb : Below w0.heap.size w0 W) (hgr : w0.heap.size ≤ gr) (hE : Eye W gr A xs.length c a) (hne : g ≠ gr) (base : Nat) (hbW : base ≤ W.heap.size) (y : Note) (cs : List Value) (hm : k34.M W base (fun _ => True) y cs) (hbx : W.heap[g]? = some (.cells cs.toArray 34 (0, 0))) :
    Calls Tryz.prog 182 #[.pointer (some ⟨gr, 0, none⟩), .pointer (some ⟨g, 0, none⟩)] W (ReadOk W gr g A xs.length c base (dF .ly xs a y)) := by
  have HD := Aside0.mk hD
  have HB := Aside0.mk hb
  have HE := Aside0.mk hE
  have HM := Aside0.mk hm
  have HX := Aside0.mk hbx
  clear hD hb hE hm hbx
  go_enter Tryz.func182, Tryz.ntmps182
  go_wp2_with fail
  refine (get_Reply w0 A c xs HD.out W gr a ha HB.out hgr HE.out).mono ?_
  rintro e w1 ⟨hm1, hn, hs⟩
  cases hr : dReply xs a with
  | none =>
    obtain rfl := hn hr
    have HR := Aside0.mk (show dF .ly xs a y = none by simp only [dF, hr, Option.bind_none])
    exact ⟨rfl, hm1.mono (fun _ _ h => .inl h), (fun _ => rfl), fun y' a' h => by rw [HR.out] at h; cases h⟩
  | some p =>
    obtain ⟨x, a1⟩ := p
    obtain ⟨v, rfl, ⟨cs2, rfl, hy⟩, he⟩ := hs _ _ hr
    have HR := Aside0.mk (show dF .ly xs a y = _ by simp only [dF, hr, Option.bind_some]; rfl)
    obtain ⟨v3, hcs2, ho⟩ := k29_openM hy
    subst hcs2
    obtain ⟨A2, n2, c2, rfl⟩ : ∃ A n c, v3 = .slice A n c := (by obtain ⟨A, c, h⟩ := Kd.R_slice ho; exact ⟨A, _, c, h⟩)
    have HO := Aside0.mk (Kd.R_lower ho hbW)
    clear ho hy
    have HX1 := Aside0.mk (hm1.blk HX.out hne)
    have HM1 := Aside0.mk (Get.M_moved HM.out HE.out (by decide) hm1)
    have HV1 := Aside0.mk (hm1.mono (S' := fun k => k = gr ∨ k = g) (fun _ _ h => .inl h))
    have HE1 := Aside0.mk he
    have hl := note_cells HM.out
    obtain ⟨u13, hu13⟩ := hl 13 (by omega)
    have hc13 := (blk_cell HX1.out 13).trans hu13
    have hf13 := blk_frozen HX1.out 13
    obtain ⟨u14, hu14⟩ := hl 14 (by omega)
    have hc14 := (blk_cell HX1.out 14).trans hu14
    have hf14 := blk_frozen HX1.out 14
    obtain ⟨u15, hu15⟩ := hl 15 (by omega)
    have hc15 := (blk_cell HX1.out 15).trans hu15
    have hf15 := blk_frozen HX1.out 15
    obtain ⟨u16, hu16⟩ := hl 16 (by omega)
    have hc16 := (blk_cell HX1.out 16).trans hu16
    have hf16 := blk_frozen HX1.out 16
    clear hl hm1 hn hs he hr
    go_wp2_with fail
    first | go_end0 | refine bodyPost_ret (results_none rfl _ _ _) rfl ?_
    have HXF := (blk_set (blk_set (blk_set (blk_set HX1.out 13 (.int .i64 x.f0)) 14 (.int .i64 x.f1)) 15 (.int .i64 x.f2)) 16 (.slice A2 n2 c2))
    have HMF := (M_set (M_set (M_set (M_set HM1.out HX1.out 13 (.int .i64 x.f0)) (blk_set HX1.out 13 (.int .i64 x.f0)) 14 (.int .i64 x.f1)) (blk_set (blk_set HX1.out 13 (.int .i64 x.f0)) 14 (.int .i64 x.f1)) 15 (.int .i64 x.f2)) (blk_set (blk_set (blk_set HX1.out 13 (.int .i64 x.f0)) 14 (.int .i64 x.f1)) 15 (.int .i64 x.f2)) 16 (.slice A2 n2 c2))
    have HEF : Eye _ gr A xs.length c a1 := (blk_far (p := ⟨g, 16, none⟩) (blk_far (p := ⟨g, 15, none⟩) (blk_far (p := ⟨g, 14, none⟩) (blk_far (p := ⟨g, 13, none⟩) HE1.out (fun h => hne h.symm) (.int .i64 x.f0)) (fun h => hne h.symm) (.int .i64 x.f1)) (fun h => hne h.symm) (.int .i64 x.f2)) (fun h => hne h.symm) (.slice A2 n2 c2))
    have HVF := ((((HV1.out).set_ (p := ⟨g, 13, none⟩) (.inl (.inr rfl)) (.int .i64 x.f0)).set_ (p := ⟨g, 14, none⟩) (.inl (.inr rfl)) (.int .i64 x.f1)).set_ (p := ⟨g, 15, none⟩) (.inl (.inr rfl)) (.int .i64 x.f2)).set_ (p := ⟨g, 16, none⟩) (.inl (.inr rfl)) (.slice A2 n2 c2)
    have HL16 := (Kd.R_set (Kd.R_set (Kd.R_set (Kd.R_set HO.out HX1.out (by decide) 13 (.int .i64 x.f0)) (blk_set HX1.out 13 (.int .i64 x.f0)) (by decide) 14 (.int .i64 x.f1)) (blk_set (blk_set HX1.out 13 (.int .i64 x.f0)) 14 (.int .i64 x.f1)) (by decide) 15 (.int .i64 x.f2)) (blk_set (blk_set (blk_set HX1.out 13 (.int .i64 x.f0)) 14 (.int .i64 x.f1)) 15 (.int .i64 x.f2)) (by decide) 16 (.slice A2 n2 c2))
    obtain ⟨v11, v12, v16, v17, v18, v19, hcs, g11, g12, g16, g17, g18, g19⟩ := k34_openM HMF
    subst hcs
    refine ⟨HVF, (fun h => by rw [HR.out] at h; cases h), fun y' a' h => ?_⟩
    rw [HR.out] at h
    simp only [Option.some.injEq, Prod.mk.injEq] at h
    obtain ⟨rfl, rfl⟩ := h
    exact ⟨rfl, HEF, _, k34_mkM _ base _ { y with f11 := x } g11 g12 HL16 g17 g18 g19, by simpa using HXF⟩
set_option maxRecDepth 100000 in
set_option maxHeartbeats 2000000 in
theorem gc_la (w0 W : World) (gr g : Nat) (A : Option Addr) (c a : Nat) (xs : List Int) (hD : Get.Data w0 A c xs) (ha : a ≤ xs.length) (hb : Below w0.heap.size w0 W) (hgr : w0.heap.size ≤ gr) (hE : Eye W gr A xs.length c a) (hne : g ≠ gr) (base : Nat) (hbW : base ≤ W.heap.size) (y : Note) (cs : List Value) (hm : k34.M W base (fun _ => True) y cs) (hbx : W.heap[g]? = some (.cells cs.toArray 34 (0, 0))) :
    Calls Tryz.prog 188 #[.pointer (some ⟨gr, 0, none⟩), .pointer (some ⟨g, 0, none⟩)] W (ReadOk W gr g A xs.length c base (dF .la xs a y)) := by
  have HD := Aside0.mk hD
  have HB := Aside0.mk hb
  have HE := Aside0.mk hE
  have HM := Aside0.mk hm
  have HX := Aside0.mk hbx
  clear hD hb hE hm hbx
  go_enter Tryz.func188, Tryz.ntmps188
  go_wp2_with fail
  refine (rtxt w0 W gr A c a xs HD.out ha HB.out hgr HE.out).mono ?_
  rintro e w1 ⟨hm1, hn, hs⟩
  cases hr : dTxt xs a with
  | none =>
    obtain rfl := hn hr
    have HR := Aside0.mk (show dF .la xs a y = none by simp only [dF, hr, Option.bind_none])
    exact ⟨rfl, hm1.mono (fun _ _ h => .inl h), (fun _ => rfl), fun y' a' h => by rw [HR.out] at h; cases h⟩
  | some p =>
    obtain ⟨x, a1⟩ := p
    obtain ⟨v, rfl, rfl, he⟩ := hs _ _ hr
    have HR := Aside0.mk (show dF .la xs a y = _ by simp only [dF, hr, Option.bind_some]; rfl)
    have HX1 := Aside0.mk (hm1.blk HX.out hne)
    have HM1 := Aside0.mk (Get.M_moved HM.out HE.out (by decide) hm1)
    have HV1 := Aside0.mk (hm1.mono (S' := fun k => k = gr ∨ k = g) (fun _ _ h => .inl h))
    have HE1 := Aside0.mk he
    have hl := note_cells HM.out
    obtain ⟨u20, hu20⟩ := hl 20 (by omega)
    have hc20 := (blk_cell HX1.out 20).trans hu20
    have hf20 := blk_frozen HX1.out 20
    clear hl hm1 hn hs he hr
    go_wp2_with fail
    first | go_end0 | refine bodyPost_ret (results_none rfl _ _ _) rfl ?_
    have HXF := (blk_set HX1.out 20 (.string x))
    have HMF := (M_set HM1.out HX1.out 20 (.string x))
    have HEF : Eye _ gr A xs.length c a1 := (blk_far (p := ⟨g, 20, none⟩) HE1.out (fun h => hne h.symm) (.string x))
    have HVF := (HV1.out).set_ (p := ⟨g, 20, none⟩) (.inl (.inr rfl)) (.string x)
    obtain ⟨v11, v12, v16, v17, v18, v19, hcs, g11, g12, g16, g17, g18, g19⟩ := k34_openM HMF
    subst hcs
    refine ⟨HVF, (fun h => by rw [HR.out] at h; cases h), fun y' a' h => ?_⟩
    rw [HR.out] at h
    simp only [Option.some.injEq, Prod.mk.injEq] at h
    obtain ⟨rfl, rfl⟩ := h
    exact ⟨rfl, HEF, _, k34_mkM _ base _ { y with f15 := x } g11 g12 g16 g17 g18 g19, by simpa using HXF⟩
set_option maxRecDepth 100000 in
set_option maxHeartbeats 2000000 in
theorem gc_le (w0 W : World) (gr g : Nat) (A : Option Addr) (c a : Nat) (xs : List Int) (hD : Get.Data w0 A c xs) (ha : a ≤ xs.length) (hb : Below w0.heap.size w0 W) (hgr : w0.heap.size ≤ gr) (hE : Eye W gr A xs.length c a) (hne : g ≠ gr) (base : Nat) (hbW : base ≤ W.heap.size) (y : Note) (cs : List Value) (hm : k34.M W base (fun _ => True) y cs) (hbx : W.heap[g]? = some (.cells cs.toArray 34 (0, 0))) :
    Calls Tryz.prog 236 #[.pointer (some ⟨gr, 0, none⟩), .pointer (some ⟨g, 0, none⟩)] W (ReadOk W gr g A xs.length c base (dF .le xs a y)) := by
  have HD := Aside0.mk hD
  have HB := Aside0.mk hb
  have HE := Aside0.mk hE
  have HM := Aside0.mk hm
  have HX := Aside0.mk hbx
  clear hD hb hE hm hbx
  go_enter Tryz.func236, Tryz.ntmps236
  go_wp2_with fail
  refine (rnum w0 W gr A c a xs HD.out ha HB.out hgr HE.out).mono ?_
  rintro e w1 ⟨hm1, hn, hs⟩
  cases hr : dNum xs a with
  | none =>
    obtain rfl := hn hr
    have HR := Aside0.mk (show dF .le xs a y = none by simp only [dF, hr, Option.bind_none])
    exact ⟨rfl, hm1.mono (fun _ _ h => .inl h), (fun _ => rfl), fun y' a' h => by rw [HR.out] at h; cases h⟩
  | some p =>
    obtain ⟨x, a1⟩ := p
    obtain ⟨v, rfl, rfl, he⟩ := hs _ _ hr
    have HR := Aside0.mk (show dF .le xs a y = _ by simp only [dF, hr, Option.bind_some]; rfl)
    have HX1 := Aside0.mk (hm1.blk HX.out hne)
    have HM1 := Aside0.mk (Get.M_moved HM.out HE.out (by decide) hm1)
    have HV1 := Aside0.mk (hm1.mono (S' := fun k => k = gr ∨ k = g) (fun _ _ h => .inl h))
    have HE1 := Aside0.mk he
    have hl := note_cells HM.out
    obtain ⟨u10, hu10⟩ := hl 10 (by omega)
    have hc10 := (blk_cell HX1.out 10).trans hu10
    have hf10 := blk_frozen HX1.out 10
    clear hl hm1 hn hs he hr
    go_wp2_with fail
    first | go_end0 | refine bodyPost_ret (results_none rfl _ _ _) rfl ?_
    have HXF := (blk_set HX1.out 10 (.int .i64 x))
    have HMF := (M_set HM1.out HX1.out 10 (.int .i64 x))
    have HEF : Eye _ gr A xs.length c a1 := (blk_far (p := ⟨g, 10, none⟩) HE1.out (fun h => hne h.symm) (.int .i64 x))
    have HVF := (HV1.out).set_ (p := ⟨g, 10, none⟩) (.inl (.inr rfl)) (.int .i64 x)
    obtain ⟨v11, v12, v16, v17, v18, v19, hcs, g11, g12, g16, g17, g18, g19⟩ := k34_openM HMF
    subst hcs
    refine ⟨HVF, (fun h => by rw [HR.out] at h; cases h), fun y' a' h => ?_⟩
    rw [HR.out] at h
    simp only [Option.some.injEq, Prod.mk.injEq] at h
    obtain ⟨rfl, rfl⟩ := h
    exact ⟨rfl, HEF, _, k34_mkM _ base _ { y with f8 := x } g11 g12 g16 g17 g18 g19, by simpa using HXF⟩
set_option maxRecDepth 100000 in
set_option maxHeartbeats 2000000 in
theorem gc_lv (w0 W : World) (gr g : Nat) (A : Option Addr) (c a : Nat) (xs : List Int) (hD : Get.Data w0 A c xs) (ha : a ≤ xs.length) (hb : Below w0.heap.size w0 W) (hgr : w0.heap.size ≤ gr) (hE : Eye W gr A xs.length c a) (hne : g ≠ gr) (base : Nat) (hbW : base ≤ W.heap.size) (y : Note) (cs : List Value) (hm : k34.M W base (fun _ => True) y cs) (hbx : W.heap[g]? = some (.cells cs.toArray 34 (0, 0))) :
    Calls Tryz.prog 240 #[.pointer (some ⟨gr, 0, none⟩), .pointer (some ⟨g, 0, none⟩)] W (ReadOk W gr g A xs.length c base (dF .lv xs a y)) := by
  have HD := Aside0.mk hD
  have HB := Aside0.mk hb
  have HE := Aside0.mk hE
  have HM := Aside0.mk hm
  have HX := Aside0.mk hbx
  clear hD hb hE hm hbx
  go_enter Tryz.func240, Tryz.ntmps240
  go_wp2_with fail
  have HV0 := Aside0.mk (Moved.refl W (fun k => k = gr))
  have ha0 := ha
  refine (rnum w0 W gr A c a xs HD.out ha0 (HV0.out.above HB.out (fun k hk => by omega)) hgr HE.out).mono ?_
  rintro e w1 ⟨hm1, hn, hs⟩
  cases hr : dNum xs a with
  | none =>
    obtain rfl := hn hr
    have HR := Aside0.mk (show dF .lv xs a y = none by simp only [dF, hr, Option.bind_none, Option.bind_some])
    exact ⟨rfl, (HV0.out.trans hm1 (fun _ _ h => h)).mono (fun _ _ h => .inl h), (fun _ => rfl), fun y' a' h => by rw [HR.out] at h; cases h⟩
  | some p =>
    obtain ⟨x0, a1⟩ := p
    obtain ⟨v, rfl, rfl, he⟩ := hs _ _ hr
    have ha1 := goes_num HD.out.bytes _ _ _ ha0 hr
    have HI0 := Aside0.mk hr
    have HE1 := Aside0.mk he
    have HV1 := Aside0.mk (HV0.out.trans hm1 (fun _ _ h => h))
    clear hm1 hn hs he hr
    go_wp2_with fail
    refine (rnum w0 w1 gr A c a1 xs HD.out ha1 (HV1.out.above HB.out (fun k hk => by omega)) hgr HE1.out).mono ?_
    rintro e w2 ⟨hm1, hn, hs⟩
    cases hr : dNum xs a1 with
    | none =>
      obtain rfl := hn hr
      have HR := Aside0.mk (show dF .lv xs a y = none by simp only [dF, HI0.out, hr, Option.bind_none, Option.bind_some])
      exact ⟨rfl, (HV1.out.trans hm1 (fun _ _ h => h)).mono (fun _ _ h => .inl h), (fun _ => rfl), fun y' a' h => by rw [HR.out] at h; cases h⟩
    | some p =>
      obtain ⟨x1, a2⟩ := p
      obtain ⟨v, rfl, rfl, he⟩ := hs _ _ hr
      have ha2 := goes_num HD.out.bytes _ _ _ ha1 hr
      have HI1 := Aside0.mk hr
      have HE2 := Aside0.mk he
      have HV2 := Aside0.mk (HV1.out.trans hm1 (fun _ _ h => h))
      clear hm1 hn hs he hr
      go_wp2_with fail
      refine (rnum w0 w2 gr A c a2 xs HD.out ha2 (HV2.out.above HB.out (fun k hk => by omega)) hgr HE2.out).mono ?_
      rintro e w3 ⟨hm1, hn, hs⟩
      cases hr : dNum xs a2 with
      | none =>
        obtain rfl := hn hr
        have HR := Aside0.mk (show dF .lv xs a y = none by simp only [dF, HI0.out, HI1.out, hr, Option.bind_none, Option.bind_some])
        exact ⟨rfl, (HV2.out.trans hm1 (fun _ _ h => h)).mono (fun _ _ h => .inl h), (fun _ => rfl), fun y' a' h => by rw [HR.out] at h; cases h⟩
      | some p =>
        obtain ⟨x2, a3⟩ := p
        obtain ⟨v, rfl, rfl, he⟩ := hs _ _ hr
        have ha3 := goes_num HD.out.bytes _ _ _ ha2 hr
        have HI2 := Aside0.mk hr
        have HE3 := Aside0.mk he
        have HV3 := Aside0.mk (HV2.out.trans hm1 (fun _ _ h => h))
        clear hm1 hn hs he hr
        have HR := Aside0.mk (show dF .lv xs a y = _ by simp only [dF, HI0.out, HI1.out, HI2.out, Option.bind_some]; rfl)
        have HX1 := Aside0.mk (HV3.out.blk HX.out hne)
        have HM1 := Aside0.mk (Get.M_moved HM.out HE.out (by decide) HV3.out)
        have HV1 := Aside0.mk (HV3.out.mono (S' := fun k => k = gr ∨ k = g) (fun _ _ h => .inl h))
        have hl := note_cells HM.out
        obtain ⟨u1, hu1⟩ := hl 1 (by omega)
        have hc1 := (blk_cell HX1.out 1).trans hu1
        have hf1 := blk_frozen HX1.out 1
        obtain ⟨u2, hu2⟩ := hl 2 (by omega)
        have hc2 := (blk_cell HX1.out 2).trans hu2
        have hf2 := blk_frozen HX1.out 2
        obtain ⟨u3, hu3⟩ := hl 3 (by omega)
        have hc3 := (blk_cell HX1.out 3).trans hu3
        have hf3 := blk_frozen HX1.out 3
        clear hl
        go_wp2_with fail
        first | go_end0 | refine bodyPost_ret (results_none rfl _ _ _) rfl ?_
        have HXF := (blk_set (blk_set (blk_set HX1.out 1 (.int .i64 x0)) 2 (.int .i64 x1)) 3 (.int .i64 x2))
        have HMF := (M_set (M_set (M_set HM1.out HX1.out 1 (.int .i64 x0)) (blk_set HX1.out 1 (.int .i64 x0)) 2 (.int .i64 x1)) (blk_set (blk_set HX1.out 1 (.int .i64 x0)) 2 (.int .i64 x1)) 3 (.int .i64 x2))
        have HEF : Eye _ gr A xs.length c a3 := (blk_far (p := ⟨g, 3, none⟩) (blk_far (p := ⟨g, 2, none⟩) (blk_far (p := ⟨g, 1, none⟩) HE3.out (fun h => hne h.symm) (.int .i64 x0)) (fun h => hne h.symm) (.int .i64 x1)) (fun h => hne h.symm) (.int .i64 x2))
        have HVF := (((HV1.out).set_ (p := ⟨g, 1, none⟩) (.inl (.inr rfl)) (.int .i64 x0)).set_ (p := ⟨g, 2, none⟩) (.inl (.inr rfl)) (.int .i64 x1)).set_ (p := ⟨g, 3, none⟩) (.inl (.inr rfl)) (.int .i64 x2)
        obtain ⟨v11, v12, v16, v17, v18, v19, hcs, g11, g12, g16, g17, g18, g19⟩ := k34_openM HMF
        subst hcs
        refine ⟨HVF, (fun h => by rw [HR.out] at h; cases h), fun y' a' h => ?_⟩
        rw [HR.out] at h
        simp only [Option.some.injEq, Prod.mk.injEq] at h
        obtain ⟨rfl, rfl⟩ := h
        exact ⟨rfl, HEF, _, k34_mkM _ base _ { y with f1 := ⟨x0, x1, x2⟩ } g11 g12 g16 g17 g18 g19, by simpa using HXF⟩
theorem M_moved2 {α : Type} {d : Kd α} {w w1 : World} {base g g' : Nat} {x : α} {cs : List Value} {t t' : Nat} {cells cells' : Array Value} (h : d.M w base (fun _ => True) x cs) (hb : w.heap[g]? = some (.cells cells t (0, 0))) (hb' : w.heap[g']? = some (.cells cells' t' (0, 0))) (ht : ∀ q, q ∈ d.E → q ≠ t) (ht' : ∀ q, q ∈ d.E → q ≠ t') (hm : Moved w w1 (fun k => k = g ∨ k = g')) : d.M w1 base (fun _ => True) x cs :=
  d.M_mono (fun _ _ => trivial) (Kd.M_step (Kd.M_types (Kd.M_types h hb ht) hb' ht') (fun k hk hl => hm.block k hl (fun hs => hs.elim hk.1.2 hk.2)))
theorem c_read (l : Ltr) (w0 W : World) (gr g : Nat) (A : Option Addr) (c a : Nat) (xs : List Int) (hD : Get.Data w0 A c xs) (ha : a ≤ xs.length) (hb : Below w0.heap.size w0 W) (hgr : w0.heap.size ≤ gr) (hE : Eye W gr A xs.length c a) (hne : g ≠ gr) (base : Nat) (hbW : base ≤ W.heap.size) (y : Note) (cs : List Value) (hm : k34.M W base (fun _ => True) y cs) (hbx : W.heap[g]? = some (.cells cs.toArray 34 (0, 0))) :
    Calls Tryz.prog 68 #[.agg (fCells l).toArray, .pointer (some ⟨gr, 0, none⟩), .pointer (some ⟨g, 0, none⟩)] W (ReadOk W gr g A xs.length c base (dF l xs a y)) := by
  cases l
  case ln =>
    have hv : cs.toArray[1]? = some (.int .i64 y.f1.f0) := by
      obtain ⟨v11, v12, v16, v17, v18, v19, hcs, _⟩ := k34_openM hm
      rw [hcs]
      rfl
    have hi : 1 < cs.toArray.size := (Array.getElem?_eq_some_iff.1 hv).1
    refine (read_num _ 1 (fun _ _ => by kernel_rfl) n_ln 1 y.f1.f0 w0 W gr g A c a xs hD ha hb hgr hE hne cs.toArray hbx hi hv).mono ?_
    rintro e W' ⟨h1, h2, h3⟩
    refine ⟨h1, fun h => h2 ?_, fun y' a' h => ?_⟩
    · cases hr : dNum xs a with
      | none => rfl
      | some p => simp [dF, hr] at h
    · cases hr : dNum xs a with
      | none => simp [dF, hr] at h
      | some p =>
        obtain ⟨v, a1⟩ := p
        simp only [dF, hr, Option.bind_some, Option.some.injEq, Prod.mk.injEq] at h
        obtain ⟨rfl, rfl⟩ := h
        obtain ⟨h4, h5, h6⟩ := h3 v a1 hr
        have hM := M_moved2 hm hE hbx (by decide) (by decide) h1
        obtain ⟨v11, v12, v16, v17, v18, v19, hcs, g11, g12, g16, g17, g18, g19⟩ := k34_openM hM
        subst hcs
        exact ⟨h4, h5, _, k34_mkM _ base _ ({ y with f1 := { y.f1 with f0 := v } }) g11 g12 g16 g17 g18 g19, by simpa using h6⟩
  case ls =>
    have hv : cs.toArray[4]? = some (.int .i64 y.f2) := by
      obtain ⟨v11, v12, v16, v17, v18, v19, hcs, _⟩ := k34_openM hm
      rw [hcs]
      rfl
    have hi : 4 < cs.toArray.size := (Array.getElem?_eq_some_iff.1 hv).1
    refine (read_num _ 4 (fun _ _ => by kernel_rfl) n_ls 1 y.f2 w0 W gr g A c a xs hD ha hb hgr hE hne cs.toArray hbx hi hv).mono ?_
    rintro e W' ⟨h1, h2, h3⟩
    refine ⟨h1, fun h => h2 ?_, fun y' a' h => ?_⟩
    · cases hr : dNum xs a with
      | none => rfl
      | some p => simp [dF, hr] at h
    · cases hr : dNum xs a with
      | none => simp [dF, hr] at h
      | some p =>
        obtain ⟨v, a1⟩ := p
        simp only [dF, hr, Option.bind_some, Option.some.injEq, Prod.mk.injEq] at h
        obtain ⟨rfl, rfl⟩ := h
        obtain ⟨h4, h5, h6⟩ := h3 v a1 hr
        have hM := M_moved2 hm hE hbx (by decide) (by decide) h1
        obtain ⟨v11, v12, v16, v17, v18, v19, hcs, g11, g12, g16, g17, g18, g19⟩ := k34_openM hM
        subst hcs
        exact ⟨h4, h5, _, k34_mkM _ base _ ({ y with f2 := v }) g11 g12 g16 g17 g18 g19, by simpa using h6⟩
  case lc =>
    have hv : cs.toArray[5]? = some (.int .i64 y.f3) := by
      obtain ⟨v11, v12, v16, v17, v18, v19, hcs, _⟩ := k34_openM hm
      rw [hcs]
      rfl
    have hi : 5 < cs.toArray.size := (Array.getElem?_eq_some_iff.1 hv).1
    refine (read_num _ 5 (fun _ _ => by kernel_rfl) n_lc 1 y.f3 w0 W gr g A c a xs hD ha hb hgr hE hne cs.toArray hbx hi hv).mono ?_
    rintro e W' ⟨h1, h2, h3⟩
    refine ⟨h1, fun h => h2 ?_, fun y' a' h => ?_⟩
    · cases hr : dNum xs a with
      | none => rfl
      | some p => simp [dF, hr] at h
    · cases hr : dNum xs a with
      | none => simp [dF, hr] at h
      | some p =>
        obtain ⟨v, a1⟩ := p
        simp only [dF, hr, Option.bind_some, Option.some.injEq, Prod.mk.injEq] at h
        obtain ⟨rfl, rfl⟩ := h
        obtain ⟨h4, h5, h6⟩ := h3 v a1 hr
        have hM := M_moved2 hm hE hbx (by decide) (by decide) h1
        obtain ⟨v11, v12, v16, v17, v18, v19, hcs, g11, g12, g16, g17, g18, g19⟩ := k34_openM hM
        subst hcs
        exact ⟨h4, h5, _, k34_mkM _ base _ ({ y with f3 := v }) g11 g12 g16 g17 g18 g19, by simpa using h6⟩
  case lr =>
    have hv : cs.toArray[6]? = some (.int .i64 y.f4) := by
      obtain ⟨v11, v12, v16, v17, v18, v19, hcs, _⟩ := k34_openM hm
      rw [hcs]
      rfl
    have hi : 6 < cs.toArray.size := (Array.getElem?_eq_some_iff.1 hv).1
    refine (read_num _ 6 (fun _ _ => by kernel_rfl) n_lr 1 y.f4 w0 W gr g A c a xs hD ha hb hgr hE hne cs.toArray hbx hi hv).mono ?_
    rintro e W' ⟨h1, h2, h3⟩
    refine ⟨h1, fun h => h2 ?_, fun y' a' h => ?_⟩
    · cases hr : dNum xs a with
      | none => rfl
      | some p => simp [dF, hr] at h
    · cases hr : dNum xs a with
      | none => simp [dF, hr] at h
      | some p =>
        obtain ⟨v, a1⟩ := p
        simp only [dF, hr, Option.bind_some, Option.some.injEq, Prod.mk.injEq] at h
        obtain ⟨rfl, rfl⟩ := h
        obtain ⟨h4, h5, h6⟩ := h3 v a1 hr
        have hM := M_moved2 hm hE hbx (by decide) (by decide) h1
        obtain ⟨v11, v12, v16, v17, v18, v19, hcs, g11, g12, g16, g17, g18, g19⟩ := k34_openM hM
        subst hcs
        exact ⟨h4, h5, _, k34_mkM _ base _ ({ y with f4 := v }) g11 g12 g16 g17 g18 g19, by simpa using h6⟩
  case lt =>
    have hv : cs.toArray[7]? = some (.int .i64 y.f5) := by
      obtain ⟨v11, v12, v16, v17, v18, v19, hcs, _⟩ := k34_openM hm
      rw [hcs]
      rfl
    have hi : 7 < cs.toArray.size := (Array.getElem?_eq_some_iff.1 hv).1
    refine (read_num _ 7 (fun _ _ => by kernel_rfl) n_lt 0 y.f5 w0 W gr g A c a xs hD ha hb hgr hE hne cs.toArray hbx hi hv).mono ?_
    rintro e W' ⟨h1, h2, h3⟩
    refine ⟨h1, fun h => h2 ?_, fun y' a' h => ?_⟩
    · cases hr : dNum xs a with
      | none => rfl
      | some p => simp [dF, hr] at h
    · cases hr : dNum xs a with
      | none => simp [dF, hr] at h
      | some p =>
        obtain ⟨v, a1⟩ := p
        simp only [dF, hr, Option.bind_some, Option.some.injEq, Prod.mk.injEq] at h
        obtain ⟨rfl, rfl⟩ := h
        obtain ⟨h4, h5, h6⟩ := h3 v a1 hr
        have hM := M_moved2 hm hE hbx (by decide) (by decide) h1
        obtain ⟨v11, v12, v16, v17, v18, v19, hcs, g11, g12, g16, g17, g18, g19⟩ := k34_openM hM
        subst hcs
        exact ⟨h4, h5, _, k34_mkM _ base _ ({ y with f5 := v }) g11 g12 g16 g17 g18 g19, by simpa using h6⟩
  case lf =>
    have hv : cs.toArray[8]? = some (.int .i64 y.f6) := by
      obtain ⟨v11, v12, v16, v17, v18, v19, hcs, _⟩ := k34_openM hm
      rw [hcs]
      rfl
    have hi : 8 < cs.toArray.size := (Array.getElem?_eq_some_iff.1 hv).1
    refine (read_num _ 8 (fun _ _ => by kernel_rfl) n_lf 0 y.f6 w0 W gr g A c a xs hD ha hb hgr hE hne cs.toArray hbx hi hv).mono ?_
    rintro e W' ⟨h1, h2, h3⟩
    refine ⟨h1, fun h => h2 ?_, fun y' a' h => ?_⟩
    · cases hr : dNum xs a with
      | none => rfl
      | some p => simp [dF, hr] at h
    · cases hr : dNum xs a with
      | none => simp [dF, hr] at h
      | some p =>
        obtain ⟨v, a1⟩ := p
        simp only [dF, hr, Option.bind_some, Option.some.injEq, Prod.mk.injEq] at h
        obtain ⟨rfl, rfl⟩ := h
        obtain ⟨h4, h5, h6⟩ := h3 v a1 hr
        have hM := M_moved2 hm hE hbx (by decide) (by decide) h1
        obtain ⟨v11, v12, v16, v17, v18, v19, hcs, g11, g12, g16, g17, g18, g19⟩ := k34_openM hM
        subst hcs
        exact ⟨h4, h5, _, k34_mkM _ base _ ({ y with f6 := v }) g11 g12 g16 g17 g18 g19, by simpa using h6⟩
  case lm =>
    have hv : cs.toArray[9]? = some (.int .i64 y.f7) := by
      obtain ⟨v11, v12, v16, v17, v18, v19, hcs, _⟩ := k34_openM hm
      rw [hcs]
      rfl
    have hi : 9 < cs.toArray.size := (Array.getElem?_eq_some_iff.1 hv).1
    refine (read_num _ 9 (fun _ _ => by kernel_rfl) n_lm 0 y.f7 w0 W gr g A c a xs hD ha hb hgr hE hne cs.toArray hbx hi hv).mono ?_
    rintro e W' ⟨h1, h2, h3⟩
    refine ⟨h1, fun h => h2 ?_, fun y' a' h => ?_⟩
    · cases hr : dNum xs a with
      | none => rfl
      | some p => simp [dF, hr] at h
    · cases hr : dNum xs a with
      | none => simp [dF, hr] at h
      | some p =>
        obtain ⟨v, a1⟩ := p
        simp only [dF, hr, Option.bind_some, Option.some.injEq, Prod.mk.injEq] at h
        obtain ⟨rfl, rfl⟩ := h
        obtain ⟨h4, h5, h6⟩ := h3 v a1 hr
        have hM := M_moved2 hm hE hbx (by decide) (by decide) h1
        obtain ⟨v11, v12, v16, v17, v18, v19, hcs, g11, g12, g16, g17, g18, g19⟩ := k34_openM hM
        subst hcs
        exact ⟨h4, h5, _, k34_mkM _ base _ ({ y with f7 := v }) g11 g12 g16 g17 g18 g19, by simpa using h6⟩
  case uW =>
    have hbA := fun o => below_alloc (Below.refl W.heap.size W) o
    exact read_get _ (fun _ _ => by kernel_rfl) _ _ _ W gr g (ReadOk W gr g A xs.length c base (dF .uW xs a y)) (read_ends) ((gc_uW w0 _ gr g A c a xs hD ha (below_step hb (hbA _)) hgr (blk_below (hbA _) hE) hne base (Nat.le_trans hbW (hbA _).size) y cs (Kd.M_below hm (hbA _)) (blk_below (hbA _) hbx)).mono fun e W' h => ⟨(Moved.of_below (hbA _) (fun k => k = gr ∨ k = g)).trans h.mov (fun _ _ h => h), h.bad, h.good⟩)
  case lw =>
    have hbA := fun o => below_alloc (Below.refl W.heap.size W) o
    exact read_get _ (fun _ _ => by kernel_rfl) _ _ _ W gr g (ReadOk W gr g A xs.length c base (dF .lw xs a y)) (read_ends) ((gc_uW w0 _ gr g A c a xs hD ha (below_step hb (hbA _)) hgr (blk_below (hbA _) hE) hne base (Nat.le_trans hbW (hbA _).size) y cs (Kd.M_below hm (hbA _)) (blk_below (hbA _) hbx)).mono fun e W' h => ⟨(Moved.of_below (hbA _) (fun k => k = gr ∨ k = g)).trans h.mov (fun _ _ h => h), h.bad, h.good⟩)
  case ld =>
    have hbA := fun o => below_alloc (Below.refl W.heap.size W) o
    exact read_get _ (fun _ _ => by kernel_rfl) _ _ _ W gr g (ReadOk W gr g A xs.length c base (dF .ld xs a y)) (read_ends) ((gc_uW w0 _ gr g A c a xs hD ha (below_step hb (hbA _)) hgr (blk_below (hbA _) hE) hne base (Nat.le_trans hbW (hbA _).size) y cs (Kd.M_below hm (hbA _)) (blk_below (hbA _) hbx)).mono fun e W' h => ⟨(Moved.of_below (hbA _) (fun k => k = gr ∨ k = g)).trans h.mov (fun _ _ h => h), h.bad, h.good⟩)
  case uD =>
    have hbA := fun o => below_alloc (Below.refl W.heap.size W) o
    exact read_get _ (fun _ _ => by kernel_rfl) _ _ _ W gr g (ReadOk W gr g A xs.length c base (dF .uD xs a y)) (read_ends) ((gc_uW w0 _ gr g A c a xs hD ha (below_step hb (hbA _)) hgr (blk_below (hbA _) hE) hne base (Nat.le_trans hbW (hbA _).size) y cs (Kd.M_below hm (hbA _)) (blk_below (hbA _) hbx)).mono fun e W' h => ⟨(Moved.of_below (hbA _) (fun k => k = gr ∨ k = g)).trans h.mov (fun _ _ h => h), h.bad, h.good⟩)
  case le =>
    have hbA := fun o => below_alloc (Below.refl W.heap.size W) o
    exact read_get _ (fun _ _ => by kernel_rfl) _ _ _ W gr g (ReadOk W gr g A xs.length c base (dF .le xs a y)) (read_ends) ((gc_le w0 _ gr g A c a xs hD ha (below_step hb (hbA _)) hgr (blk_below (hbA _) hE) hne base (Nat.le_trans hbW (hbA _).size) y cs (Kd.M_below hm (hbA _)) (blk_below (hbA _) hbx)).mono fun e W' h => ⟨(Moved.of_below (hbA _) (fun k => k = gr ∨ k = g)).trans h.mov (fun _ _ h => h), h.bad, h.good⟩)
  case lv =>
    have hbA := fun o => below_alloc (Below.refl W.heap.size W) o
    exact read_get _ (fun _ _ => by kernel_rfl) _ _ _ W gr g (ReadOk W gr g A xs.length c base (dF .lv xs a y)) (read_ends) ((gc_lv w0 _ gr g A c a xs hD ha (below_step hb (hbA _)) hgr (blk_below (hbA _) hE) hne base (Nat.le_trans hbW (hbA _).size) y cs (Kd.M_below hm (hbA _)) (blk_below (hbA _) hbx)).mono fun e W' h => ⟨(Moved.of_below (hbA _) (fun k => k = gr ∨ k = g)).trans h.mov (fun _ _ h => h), h.bad, h.good⟩)
  case ly =>
    have hbA := fun o => below_alloc (Below.refl W.heap.size W) o
    exact read_get _ (fun _ _ => by kernel_rfl) _ _ _ W gr g (ReadOk W gr g A xs.length c base (dF .ly xs a y)) (read_ends) ((gc_ly w0 _ gr g A c a xs hD ha (below_step hb (hbA _)) hgr (blk_below (hbA _) hE) hne base (Nat.le_trans hbW (hbA _).size) y cs (Kd.M_below hm (hbA _)) (blk_below (hbA _) hbx)).mono fun e W' h => ⟨(Moved.of_below (hbA _) (fun k => k = gr ∨ k = g)).trans h.mov (fun _ _ h => h), h.bad, h.good⟩)
  case la =>
    have hbA := fun o => below_alloc (Below.refl W.heap.size W) o
    exact read_get _ (fun _ _ => by kernel_rfl) _ _ _ W gr g (ReadOk W gr g A xs.length c base (dF .la xs a y)) (read_ends) ((gc_la w0 _ gr g A c a xs hD ha (below_step hb (hbA _)) hgr (blk_below (hbA _) hE) hne base (Nat.le_trans hbW (hbA _).size) y cs (Kd.M_below hm (hbA _)) (blk_below (hbA _) hbx)).mono fun e W' h => ⟨(Moved.of_below (hbA _) (fun k => k = gr ∨ k = g)).trans h.mov (fun _ _ h => h), h.bad, h.good⟩)
  case lo =>
    have hbA := fun o => below_alloc (Below.refl W.heap.size W) o
    exact read_get _ (fun _ _ => by kernel_rfl) _ _ _ W gr g (ReadOk W gr g A xs.length c base (dF .lo xs a y)) (read_ends) ((gc_lo w0 _ gr g A c a xs hD ha (below_step hb (hbA _)) hgr (blk_below (hbA _) hE) hne base (Nat.le_trans hbW (hbA _).size) y cs (Kd.M_below hm (hbA _)) (blk_below (hbA _) hbx)).mono fun e W' h => ⟨(Moved.of_below (hbA _) (fun k => k = gr ∨ k = g)).trans h.mov (fun _ _ h => h), h.bad, h.good⟩)
  case uE =>
    have hbA := fun o => below_alloc (Below.refl W.heap.size W) o
    exact read_get _ (fun _ _ => by kernel_rfl) _ _ _ W gr g (ReadOk W gr g A xs.length c base (dF .uE xs a y)) (read_ends) ((gc_uE w0 _ gr g A c a xs hD ha (below_step hb (hbA _)) hgr (blk_below (hbA _) hE) hne base (Nat.le_trans hbW (hbA _).size) y cs (Kd.M_below hm (hbA _)) (blk_below (hbA _) hbx)).mono fun e W' h => ⟨(Moved.of_below (hbA _) (fun k => k = gr ∨ k = g)).trans h.mov (fun _ _ h => h), h.bad, h.good⟩)
  case uI =>
    have hbA := fun o => below_alloc (Below.refl W.heap.size W) o
    exact read_get _ (fun _ _ => by kernel_rfl) _ _ _ W gr g (ReadOk W gr g A xs.length c base (dF .uI xs a y)) (read_ends) ((gc_uI w0 _ gr g A c a xs hD ha (below_step hb (hbA _)) hgr (blk_below (hbA _) hE) hne base (Nat.le_trans hbW (hbA _).size) y cs (Kd.M_below hm (hbA _)) (blk_below (hbA _) hbx)).mono fun e W' h => ⟨(Moved.of_below (hbA _) (fun k => k = gr ∨ k = g)).trans h.mov (fun _ _ h => h), h.bad, h.good⟩)
  case uP =>
    have hbA := fun o => below_alloc (Below.refl W.heap.size W) o
    exact read_get _ (fun _ _ => by kernel_rfl) _ _ _ W gr g (ReadOk W gr g A xs.length c base (dF .uP xs a y)) (read_ends) ((gc_uP w0 _ gr g A c a xs hD ha (below_step hb (hbA _)) hgr (blk_below (hbA _) hE) hne base (Nat.le_trans hbW (hbA _).size) y cs (Kd.M_below hm (hbA _)) (blk_below (hbA _) hbx)).mono fun e W' h => ⟨(Moved.of_below (hbA _) (fun k => k = gr ∨ k = g)).trans h.mov (fun _ _ h => h), h.bad, h.good⟩)
end Go.Proofs.YtmneemhplffemaaGreatDoorRR.Tab
namespace Go.Proofs.YtmneemhplffemaaGreatDoorRR.Tab
open Go.RowKit Go.Proofs.YtmneemhplffemaaGreatDoorRR.Ext Go.Proofs.YtmneemhplffemaaGreatDoorRR.Mem Go.Proofs.YtmneemhplffemaaGreatDoorRR.Get Go.Proofs.YtmneemhplffemaaGreatDoorRR.Row Go.Proofs.YtmneemhplffemaaGreatDoorRRW.PrintWords
set_option linter.unusedVariables false
set_option linter.unusedSimpArgs false
/-- The deferred closure, where the work gave up with a flaw. -/
theorem catch_flaw (g : Nat) (x : Bool) (older : List PanicEntry) (w : World) (hb : w.heap[g]? = some (.cells #[.bool x] 4 (0, 0))) :
    CallsD Tryz.prog 109 #[.pointer (some ⟨g, 0, none⟩)] (.panicking ({ v := .iface 139 (.agg #[]), recovered := false } :: older)) w fun e u' w' =>
      e = .returned (.tuple #[]) ∧ u' = .panicking ({ v := .iface 139 (.agg #[]), recovered := true } :: older) ∧ Moved w w' (fun k => k = g) ∧ w'.heap[g]? = some (.cells #[.bool false] 4 (0, 0)) := by
  have hb2 := blk_below (below_alloc (Below.refl _ _) (Obj.cells #[] 139 (0, 0))) hb
  have hc2 := blk_cell hb2 0
  have hz2 := blk_frozen hb2 0
  have HX := Aside0.mk (blk_set hb2 0 (.bool false))
  refine callsD_of_wpS Tryz.func109 rfl fun c₀ cs hu => ?_
  apply wpS_seq
  apply wpS_region
  simp [wpOpsS, go_sem, recoverD, hu, Tryz.ntmps109, Exit.thenS]
  refine wpS_of_wp ?_
  change Code.wp _ _ _ { tmps := #[.pointer (some ⟨g, 0, none⟩), .iface 139 (.agg #[]), undef, undef, .iface 139 (.agg #[]), undef, undef, undef, undef, undef, undef, undef, undef, undef, undef], defers := [] } _
  have hta : ∀ w : World, (Instr.typeAssert (.iface 139 (.agg #[])) 20 139 true).run Tryz.prog w = .ok (.tuple #[.agg #[], .bool true]) w := fun _ => by kernel_rfl
  have hno : ∀ (x : Bool) (w : World), (Op.unary .not (.bool x)).run Tryz.prog w = .ok (.bool (!x)) w := fun _ _ => rfl
  go_wp2
  cases c₀
  simp_all [bodyPostS, results, Tryz.results109, Exit.thenS]
  exact ⟨(Moved.of_below (below_alloc (Below.refl _ _) _) (fun k => k = g)).set_ (p := ⟨g, 0, none⟩) (.inl rfl) _, by simpa using HX.out⟩
/-- The deferred closure, where the work was done. -/
theorem catch_none (p : Addr) (w : World) :
    CallsD Tryz.prog 109 #[.pointer (some p)] .returning w fun e u' w' => e = .returned (.tuple #[]) ∧ u' = .returning ∧ w' = w := by
  refine callsD_of_wpS Tryz.func109 rfl fun c₀ cs hu => ?_
  apply wpS_seq
  apply wpS_region
  simp [wpOpsS, go_sem, recoverD, hu, Tryz.ntmps109, Exit.thenS]
  refine wpS_of_wp ?_
  change Code.wp _ _ _ { tmps := #[.pointer (some p), .nilIface, undef, undef, .nilIface, undef, undef, undef, undef, undef, undef, undef, undef, undef, undef], defers := [] } _
  go_wp2
  cases c₀
  simp_all [bodyPostS, results, Tryz.results109, Exit.thenS]
set_option maxRecDepth 100000 in
theorem guarded_any (KF : FuncId) (caps : Array Value) (hK : ∀ (args : Array Value) (w : World), (callFunc KF args).run Tryz.prog w = .ok (.enter KF args) w) (W : World) (b : Bool) (Q : World → Prop)
    (hM : Calls Tryz.prog KF caps (W.alloc (Obj.cells #[.bool false] 4 (0, 0))) fun e W' => e = (if b = true then .returned (.tuple #[]) else .panicked flaw) ∧ W'.heap[W.heap.size]? = some (Obj.cells #[.bool false] 4 (0, 0)) ∧ Q W') :
    Calls Tryz.prog 65 #[.func (.func KF) #[] caps] W fun e W' => e = .returned (.bool b) ∧ ∃ W1, Q W1 ∧ Moved W1 W' (fun k => k = W.heap.size) := by
  have HM := Aside0.mk hM
  have hmf : ∀ (fn : Fn) (first cap : Array Value) (w : World), (Instr.makeFunc fn first cap).run Tryz.prog w = .ok (.func fn first cap) w := fun _ _ _ _ => rfl
  clear hM
  go_enter_defers Tryz.func65, Tryz.ntmps65
  go_wp2_with fail
  refine HM.out.mono ?_
  rintro e w1 ⟨he, hx, hq⟩
  have HX := Aside0.mk hx
  have HQ := Aside0.mk hq
  clear hq HM
  cases b with
  | true =>
    simp only [if_true] at he
    subst he
    have hc := blk_cell hx 0
    have hf := blk_frozen hx 0
    have hx2 := blk_cell (blk_set hx 0 (.bool true)) 0
    clear hx
    go_wp2_with fail
    refine leaves_cons (f := 109) (args := #[.pointer (some ⟨W.heap.size, 0, none⟩)]) (by simp) (by simp [go_sem]) ?_
    refine (catch_none ⟨W.heap.size, 0, none⟩ _).mono ?_
    rintro e u' w'' ⟨rfl, rfl, rfl⟩
    simp at hx2
    simp [Leaves, settle, results, Tryz.results65, go_sem, hx2]
    exact ⟨w1, HQ.out, (Moved.refl w1 (fun k => k = W.heap.size)).set_ (p := ⟨W.heap.size, 0, none⟩) (.inl rfl) _⟩
  | false =>
    simp only [Bool.false_eq_true, if_false] at he
    subst he
    refine leaves_cons (f := 109) (args := #[.pointer (some ⟨W.heap.size, 0, none⟩)]) (by simp) (by simp [go_sem]) ?_
    refine (catch_flaw W.heap.size false [] w1 hx).mono ?_
    rintro e u' w'' ⟨rfl, rfl, hm, hx3⟩
    have hx2 := blk_cell hx3 0
    simp at hx2
    simp [Leaves, settle, results, Tryz.results65, go_sem, hx2]
    exact ⟨w1, HQ.out, hm⟩
end Go.Proofs.YtmneemhplffemaaGreatDoorRR.Tab
namespace Go.Proofs.YtmneemhplffemaaGreatDoorRR.Tab
open Go.RowKit Go.Proofs.YtmneemhplffemaaGreatDoorRR.Ord Go.Proofs.YtmneemhplffemaaGreatDoorRR.Name Go.Proofs.YtmneemhplffemaaGreatDoorRR.Ext Go.Proofs.YtmneemhplffemaaGreatDoorRR.Wire Go.Proofs.YtmneemhplffemaaGreatDoorRR.Mem Go.Proofs.YtmneemhplffemaaGreatDoorRR.Put Go.Proofs.YtmneemhplffemaaGreatDoorRR.Get Go.Proofs.YtmneemhplffemaaGreatDoorRR.Law Go.Proofs.YtmneemhplffemaaGreatDoorRR.Row Go.Proofs.YtmneemhplffemaaGreatDoorRR.Ki Go.Proofs.YtmneemhplffemaaGreatDoorRR.Chk Go.Proofs.YtmneemhplffemaaGreatDoorRR.May Go.Proofs.YtmneemhplffemaaGreatDoorRRW.PrintWords
set_option linter.unusedVariables false
set_option linter.unusedSimpArgs false
def zeroCells : List Value := [.int .i64 0, .int .i64 0, .int .i64 0, .int .i64 0, .int .i64 0, .int .i64 0, .int .i64 0, .int .i64 0, .int .i64 0, .int .i64 0, .int .i64 0, .slice none 0 0, .slice none 0 0, .int .i64 0, .int .i64 0, .int .i64 0, .slice none 0 0, .slice none 0 0, .slice none 0 0, .slice none 0 0, .string ⟨#[]⟩]
theorem zero_M (w : World) (base : Nat) (k : Int) : k34.M w base (fun _ => True) (zeroNote k) (.int .i64 k :: zeroCells.drop 1) :=
  k34_mkM w base _ (zeroNote k) (Kd.R_nil _ _ _ _ _) (Kd.R_nil _ _ _ _ _) (Kd.R_nil _ _ _ _ _) (Kd.R_nil _ _ _ _ _) (Kd.R_nil _ _ _ _ _) (Kd.R_nil _ _ _ _ _)
theorem goes_F {xs : List Int} (hB : Bytes xs) {l : Ltr} {a a' : Nat} {y y' : Note} (ha : a ≤ xs.length) (h : dF l xs a y = some (y', a')) : a' ≤ xs.length := by
  cases l
  all_goals simp only [dF] at h
  all_goals obtain ⟨p, h0, h⟩ := Option.bind_eq_some_iff.1 h
  case lv =>
    obtain ⟨q, h1, h⟩ := Option.bind_eq_some_iff.1 h
    obtain ⟨r, h2, h⟩ := Option.bind_eq_some_iff.1 h
    simp only [Option.some.injEq, Prod.mk.injEq] at h
    obtain ⟨_, rfl⟩ := h
    exact goes_num hB _ _ _ (goes_num hB _ _ _ (goes_num hB _ _ _ ha h0) h1) h2
  all_goals simp only [Option.some.injEq, Prod.mk.injEq] at h
  all_goals obtain ⟨_, rfl⟩ := h
  case la => exact goes_txt hB _ _ _ ha h0
  case ly => exact goes_Reply hB _ _ _ ha h0
  case uW => exact goes_lst hB (goes_Watch hB) _ _ _ ha h0
  case lw => exact goes_lst hB (goes_Watch hB) _ _ _ ha h0
  case ld => exact goes_lst hB (goes_Watch hB) _ _ _ ha h0
  case uD => exact goes_lst hB (goes_Watch hB) _ _ _ ha h0
  case lo => exact goes_lst hB (goes_Op hB) _ _ _ ha h0
  case uE => exact goes_lst hB (goes_Entry hB) _ _ _ ha h0
  case uI => exact goes_lst hB (goes_Item hB) _ _ _ ha h0
  case uP => exact goes_lst hB (goes_Part hB) _ _ _ ha h0
  all_goals exact goes_num hB _ _ _ ha h0
theorem dFs_at {w : List Ltr} {i : Nat} {l : Ltr} (hl : w[i]? = some l) (xs : List Int) (a : Nat) (y : Note) : dFs (w.drop i) xs a y = (dF l xs a y).bind fun p => dFs (w.drop (i + 1)) xs p.2 p.1 := by
  obtain ⟨hi, he⟩ := List.getElem?_eq_some_iff.1 hl
  rw [List.drop_eq_getElem_cons hi, he]
  rfl
theorem R_moved3 {α : Type} {d : Kd α} {e : Nat} {w w1 : World} {base g g' : Nat} {v : Value} {xs : List α} {t t' : Nat} {cs cs' : Array Value} (h : d.R e w base (fun _ => True) v xs) (hb : w.heap[g]? = some (.cells cs t (0, 0))) (hb' : w.heap[g']? = some (.cells cs' t' (0, 0))) (ht : ∀ q, q ∈ e :: d.E → q ≠ t) (ht' : ∀ q, q ∈ e :: d.E → q ≠ t') (hm : Moved w w1 (fun k => k = g ∨ k = g')) : d.R e w1 base (fun _ => True) v xs :=
  Kd.R_mono (Kd.R_step (Kd.R_types (Kd.R_types h hb ht) hb' ht') (fun k hk hl => hm.block k hl (fun h => h.elim hk.1.2 hk.2))) (fun _ _ => trivial)
theorem dNote_none1 {xs : List Int} (h : dNum xs 0 = none) : dNote xs = none := by unfold dNote; rw [h]; rfl
theorem dNote_none2 {xs : List Int} {v : Int} {a : Nat} (h : dNum xs 0 = some (v, a)) (hv : v < 1 ∨ 25 ≤ v) : dNote xs = none := by
  unfold dNote
  rw [h]
  simp only [Option.bind_some]
  rw [if_pos hv]
theorem dNote_some {xs : List Int} {k a : Nat} (h : dNum xs 0 = some ((k : Int), a)) (h1 : 1 ≤ k) (h2 : k < 25) : dNote xs = (dFs (word k) xs a (zeroNote k)).bind fun r => if r.2 = xs.length then some r.1 else none := by
  unfold dNote
  rw [h]
  simp only [Option.bind_some]
  rw [if_neg (by omega), Int.toNat_natCast]
set_option maxRecDepth 100000 in
set_option maxHeartbeats 8000000 in
theorem c_work (w0 W : World) (gd g : Nat) (A : Option Addr) (c : Nat) (xs : List Int) (hD : Get.Data w0 A c xs) (hb : Below w0.heap.size w0 W) (hcd : W.cell? ⟨gd, 0, none⟩ = some (.slice A xs.length c)) (hbx : W.heap[g]? = some (.cells zeroCells.toArray 34 (0, 0))) (HE : EnvN w0) (hg0 : w0.heap.size ≤ g) :
    Calls Tryz.prog 66 #[.pointer (some ⟨gd, 0, none⟩), .pointer (some ⟨g, 0, none⟩)] W fun e W' => Moved W W' (fun k => k = g) ∧ (dNote xs = none → e = .panicked flaw) ∧ ∀ y, dNote xs = some y → e = .returned (.tuple #[]) ∧ ∃ cs' : List Value, k34.M W' W.heap.size (fun _ => True) y cs' ∧ W'.heap[g]? = some (.cells cs'.toArray 34 (0, 0)) := by
  have HD := Aside0.mk hD
  have HE := Aside0.mk HE
  have HB := Aside0.mk hb
  have hbA := below_alloc (Below.refl W.heap.size W) (Obj.cells #[.slice A xs.length c, .int .i64 ((0 : Nat) : Int)] 136 (0, 0))
  have HX := Aside0.mk (blk_below hbA hbx)
  have hEye : Eye (W.alloc (Obj.cells #[.slice A xs.length c, .int .i64 ((0 : Nat) : Int)] 136 (0, 0))) W.heap.size A xs.length c 0 := blk_alloc _
  have HEY := Aside0.mk hEye
  have HBA := Aside0.mk hbA
  have HGR := Aside0.mk (hb.size)
  have hgl := blk_lt hbx
  have hne : g ≠ W.heap.size := by omega
  clear hD hb hbA hbx hEye
  go_enter Tryz.func66, Tryz.ntmps66
  go_wp2_with fail
  refine (rnum w0 _ W.heap.size A c 0 xs HD.out (Nat.zero_le _) (below_step HB.out HBA.out) HGR.out HEY.out).mono ?_
  rintro e w1 ⟨hm1, hn, hs⟩
  cases hr : dNum xs 0 with
  | none =>
    obtain rfl := hn hr
    have HR := Aside0.mk (dNote_none1 hr)
    exact ⟨rfl, ((Moved.of_below HBA.out (fun k => k = W.heap.size ∨ k = g)).trans hm1 (fun _ _ h => .inl h)).mono (fun k hk hs => hs.elim (fun h => by omega) (fun h => h)), (fun _ => rfl), fun y h => by rw [HR.out] at h; cases h⟩
  | some p =>
    obtain ⟨v, a1⟩ := p
    obtain ⟨v1, rfl, rfl, he⟩ := hs _ _ hr
    obtain ⟨_, hv0, _⟩ := dNum_some HD.out.bytes hr
    obtain ⟨k, rfl⟩ := Int.eq_ofNat_of_zero_le hv0
    have ha1 := goes_num HD.out.bytes _ _ _ (Nat.zero_le _) hr
    have HX1 := Aside0.mk (hm1.blk HX.out hne)
    have HV1 := Aside0.mk ((Moved.of_below HBA.out (fun k => k = W.heap.size ∨ k = g)).trans hm1 (fun _ _ h => .inl h))
    have hc0 : w1.cell? ⟨g, 0, none⟩ = some (.int .i64 0) := blk_cell HX1.out 0
    have hf0 := blk_frozen HX1.out 0
    have HX2 : Aside0 ((w1.setCell ⟨g, 0, none⟩ (.int .i64 (k : Int))).heap[g]? = some (.cells ((.int .i64 (k : Int) :: zeroCells.drop 1) : List Value).toArray 34 (0, 0))) := ⟨blk_set HX1.out 0 (.int .i64 (k : Int))⟩
    have HE2 : Aside0 (Eye (w1.setCell ⟨g, 0, none⟩ (.int .i64 (k : Int))) W.heap.size A xs.length c a1) := ⟨blk_far he (p := ⟨g, 0, none⟩) (fun h => hne h.symm) _⟩
    have HV2 := Aside0.mk (HV1.out.set_ (p := ⟨g, 0, none⟩) (.inl (.inr rfl)) (.int .i64 (k : Int)))
    have HRR := Aside0.mk hr
    clear hm1 hn hs he hr hv0 HX1 HV1 HX HEY
    go_upto_region 2 with fail
    clear hc0 hf0
    generalize w1.setCell ⟨g, 0, none⟩ (.int .i64 (k : Int)) = w2 at HX2 HE2 HV2 ⊢
    have n_0 : w2.cell? ⟨g, 0, none⟩ = some (.int .i64 (k : Int)) := blk_cell HX2.out 0
    have HA2 := Aside0.mk (HV2.out.above HB.out (fun k hk => hk.elim (fun h => by rw [h]; exact HGR.out) (fun h => by rw [h]; exact hg0)))
    cases h1 : decide ((k : Int) < 1) with
    | true =>
      have HR := Aside0.mk (dNote_none2 HRR.out (.inl (of_decide_eq_true h1)))
      go_wp2_with fail
      exact ⟨rfl, HV2.out.mono (fun k hk hs => hs.elim (fun h => by omega) (fun h => h)), (fun _ => rfl), fun y h => by rw [HR.out] at h; cases h⟩
    | false =>
      cases h2 : decide ((k : Int) ≥ 25) with
      | true =>
        have h2_0 : decide ((25 : Int) ≤ k) = true := h2
        have HR := Aside0.mk (dNote_none2 HRR.out (.inr (of_decide_eq_true h2)))
        go_wp2_with fail
        exact ⟨rfl, HV2.out.mono (fun k hk hs => hs.elim (fun h => by omega) (fun h => h)), (fun _ => rfl), fun y h => by rw [HR.out] at h; cases h⟩
      | false =>
        have h2_0 : decide ((25 : Int) ≤ k) = false := h2
        have q1 := of_decide_eq_false h1
        have q2 := of_decide_eq_false h2
        have hk25 : k < 25 := by omega
        have HDN := Aside0.mk (dNote_some HRR.out (by omega) hk25)
        have hfd : ∀ (A : Option Addr) (n c : Nat) (b : Value) (w : World), (Instr.field 102 (.agg #[.slice A n c, b]) 0).run Tryz.prog w = .ok (.slice A n c) w := fun _ _ _ _ _ => rfl
        go_upto_region 5 with (go_at_call 41; (with_reducible refine (t_shape k hk25 _ (HE.out.at_ HA2.out)).mono ?_); rintro e w3 ⟨hb3, v, rfl, ho⟩; obtain ⟨mf, hmf⟩ : ∃ mf, mf = (if k = 13 then (.func (.func 90) #[] #[] : Value) else .nilFunc) := ⟨_, rfl⟩; rw [← hmf]; clear hmf; obtain ⟨A2, c2, rfl⟩ := Kd.R_slice ho; have HO3 := Aside0.mk ho; have HX3 := Aside0.mk (blk_below hb3 HX2.out); have HE3 : Aside0 (Eye w3 W.heap.size A xs.length c a1) := ⟨blk_below hb3 HE2.out⟩; have HV3 := Aside0.mk (HV2.out.step hb3); clear hb3 ho)
        have hwl : (word k).length ≤ 6 := word_len k hk25
        have HM3 := Aside0.mk (zero_M w3 W.heap.size (k : Int))
        go_loopw [26] (fun vi wr => ∃ (i a : Nat) (y : Note) (cs' : List Value), vi = .int .i64 i ∧ i ≤ (word k).length ∧ a ≤ xs.length ∧ Aside0 (dFs ((word k).drop i) xs a y = dFs (word k) xs a1 (zeroNote k)) ∧ Aside0 (Eye wr W.heap.size A xs.length c a) ∧ Aside0 (k34.M wr W.heap.size (fun _ => True) y cs') ∧ Aside0 (wr.heap[g]? = some (.cells cs'.toArray 34 (0, 0))) ∧ Aside0 (Moved W wr (fun k => k = W.heap.size ∨ k = g)) ∧ Aside0 (kField.R 109 wr w2.heap.size (fun _ => True) (.slice A2 (word k).length c2) (word k))) (fun vi _ => (word k).length - (intOf vi).toNat)
        case atStart => exact ⟨0, a1, zeroNote k, _, rfl, Nat.zero_le _, ha1, ⟨rfl⟩, HE3, HM3, HX3, HV3, HO3⟩
        case round =>
          clear HE3 HM3 HX3 HV3 HO3 n_0
          obtain ⟨i, a, y, cs', rfl, hi, ha, HF, HEY, HM, HX, HV, HO⟩ := hrel
          obtain ⟨wo, rfl⟩ : ∃ wo : World, wo = wr := ⟨_, rfl⟩
          by_cases hlt : i < (word k).length
          · obtain ⟨l, hl⟩ : ∃ l, (word k)[i]? = some l := ⟨_, List.getElem?_eq_getElem hlt⟩
            have HLT := Aside0.mk hl
            obtain ⟨q0, q1', q2', q3, q4, q5, hq⟩ := fCells_open l
            have HQ := Aside0.mk hq
            obtain ⟨ad, rfl, a_0, a_1, a_2, a_3, a_4, a_5⟩ := at_field (Kd.R_reads' HO.out).2.2 i l hl hq
            clear hl hq
            go_wp2_with (first | ((with_reducible refine gate_store2 (t := 109) rfl ?_); refine store_row (old := #[.int .i64 0, .nilFunc, .nilFunc, .nilFunc, .nilFunc, .nilFunc]) (cs := #[q0, q1', q2', q3, q4, q5]) rfl rfl rfl (blk_alloc _) rfl rfl infoField rfl (q_one HQ.out) ?_; intro w5 hm5 hx5; have HFB := Aside0.mk hx5; have hb5 := Moved.above_ hm5 (Nat.le_refl _); have HO5 := Aside0.mk (Kd.R_below HO.out hb5); have HEY5 : Aside0 (Eye w5 W.heap.size A xs.length c a) := ⟨blk_below hb5 HEY.out⟩; have HM5 := Aside0.mk (Kd.M_below HM.out hb5); have HX5 := Aside0.mk (blk_below hb5 HX.out); have HV5 := Aside0.mk (HV.out.step hb5); clear hm5 hx5 hb5 a_0 a_1 a_2 a_3 a_4 a_5) | ((with_reducible refine gate_load (t := 109) rfl ?_); refine load_row rfl rfl Tryz.underlying109 rfl HFB.out rfl infoField ?_))
            have hA5 := HV5.out.above HB.out (fun k hk => hk.elim (fun h => by rw [h]; exact HGR.out) (fun h => by rw [h]; exact hg0))
            have hri := c_read l w0 _ W.heap.size g A c a xs HD.out ha hA5 HGR.out HEY5.out hne W.heap.size HV5.out.size y cs' HM5.out HX5.out
            rw [HQ.out] at hri
            refine hri.mono ?_
            clear hri hA5
            rintro e w6 ⟨hm6, hn6, hs6⟩
            have HV6 := Aside0.mk (HV5.out.trans hm6 (fun _ _ h => h))
            cases hr2 : dF l xs a y with
            | none =>
              obtain rfl := hn6 hr2
              have HR := Aside0.mk (show dNote xs = none by rw [HDN.out, ← HF.out, dFs_at HLT.out, hr2]; rfl)
              exact ⟨rfl, HV6.out.mono (fun k hk hs => hs.elim (fun h => by omega) (fun h => h)), (fun _ => rfl), fun y h => by rw [HR.out] at h; cases h⟩
            | some p =>
              obtain ⟨y', a'⟩ := p
              obtain ⟨rfl, he6, cs6, hM6, hX6⟩ := hs6 _ _ hr2
              have ha' := goes_F HD.out.bytes ha hr2
              have HF6 := Aside0.mk (show dFs ((word k).drop (i + 1)) xs a' y' = dFs (word k) xs a1 (zeroNote k) by rw [← HF.out, dFs_at HLT.out, hr2]; rfl)
              have HO6 := Aside0.mk (R_moved3 HO5.out HEY5.out HX5.out (by decide) (by decide) hm6)
              have HE6 := Aside0.mk he6
              have HM6 := Aside0.mk hM6
              have HX6 := Aside0.mk hX6
              clear hm6 hn6 hs6 he6 hM6 hX6 hr2
              go_wp2_with fail
              go_roundw
              case rel => exact ⟨i + 1, a', y', cs6, by go_num, by omega, ha', HF6, HE6, HM6, HX6, HV6, HO6⟩
              case measure => simp [intOf]; omega
          · have hdr : (word k).drop i = [] := List.drop_eq_nil_of_le (by omega)
            rw [hdr] at HF
            have HDN2 := Aside0.mk (show dNote xs = if a = xs.length then some y else none by rw [HDN.out, ← HF.out]; rfl)
            clear hdr
            go_wp2_with fail
            refine (rend _ W.heap.size A xs.length c a HEY.out).mono ?_
            rintro e w9 ⟨hm9, he9⟩
            have HV9 := Aside0.mk (HV.out.trans hm9 (fun _ _ h => .inl h))
            by_cases hae : a = xs.length
            · rw [if_pos hae] at he9 HDN2
              subst he9
              have HM9 := Aside0.mk (Get.M_moved HM.out HEY.out (by decide) hm9)
              have HX9 := Aside0.mk (hm9.blk HX.out hne)
              clear hm9
              go_wp2_with fail
              first | go_end0 | refine bodyPost_ret (results_none rfl _ _ _) rfl ?_
              refine ⟨HV9.out.mono (fun k hk hs => hs.elim (fun h => by omega) (fun h => h)), (fun h => by rw [HDN2.out] at h; cases h), fun y' h => ?_⟩
              rw [HDN2.out] at h
              obtain rfl := Option.some.inj h
              exact ⟨rfl, cs', HM9.out, HX9.out⟩
            · rw [if_neg hae] at he9 HDN2
              subst he9
              exact ⟨rfl, HV9.out.mono (fun k hk hs => hs.elim (fun h => by omega) (fun h => h)), (fun _ => rfl), fun y h => by rw [HDN2.out] at h; cases h⟩
end Go.Proofs.YtmneemhplffemaaGreatDoorRR.Tab
namespace Go.Proofs.YtmneemhplffemaaGreatDoorRR.Tab
open Go.RowKit Go.Proofs.YtmneemhplffemaaGreatDoorRR.Ext Go.Proofs.YtmneemhplffemaaGreatDoorRR.Wire Go.Proofs.YtmneemhplffemaaGreatDoorRR.Mem Go.Proofs.YtmneemhplffemaaGreatDoorRR.Put Go.Proofs.YtmneemhplffemaaGreatDoorRR.Get Go.Proofs.YtmneemhplffemaaGreatDoorRR.Law Go.Proofs.YtmneemhplffemaaGreatDoorRR.Ki Go.Proofs.YtmneemhplffemaaGreatDoorRRW.PrintWords
set_option linter.unusedVariables false
theorem rep_all {β : Type} {d : List Int → Nat → Option (β × Nat)} {xs : List Int} {P : β → Prop} (h : ∀ a x b, d xs a = some (x, b) → P x) (n : Nat) : ∀ a l z, dRep d xs n a = some (l, z) → l.length = n ∧ ∀ x ∈ l, P x := by
  induction n with
  | zero =>
    intro a l z he
    simp only [dRep, Option.some.injEq, Prod.mk.injEq] at he
    obtain ⟨rfl, _⟩ := he
    exact ⟨rfl, by simp⟩
  | succ n ih =>
    intro a l z he
    rw [dRep] at he
    cases hr : d xs a with
    | none => rw [hr] at he; cases he
    | some p =>
      obtain ⟨x, b⟩ := p
      rw [hr] at he
      simp only at he
      cases hr2 : dRep d xs n b with
      | none => rw [hr2] at he; cases he
      | some p2 =>
        obtain ⟨l2, z2⟩ := p2
        rw [hr2] at he
        simp only [Option.some.injEq, Prod.mk.injEq] at he
        obtain ⟨rfl, rfl⟩ := he
        obtain ⟨e1, e2⟩ := ih b l2 z2 hr2
        refine ⟨by rw [List.length_cons, e1], fun y hy => ?_⟩
        rcases List.mem_cons.1 hy with rfl | hy
        · exact h a _ b hr
        · exact e2 y hy
theorem rep_far {β : Type} {d : List Int → Nat → Option (β × Nat)} {xs : List Int} (h : ∀ a x b, d xs a = some (x, b) → a < b) (n : Nat) : ∀ a l z, dRep d xs n a = some (l, z) → a + n ≤ z := by
  induction n with
  | zero =>
    intro a l z he
    simp only [dRep, Option.some.injEq, Prod.mk.injEq] at he
    omega
  | succ n ih =>
    intro a l z he
    rw [dRep] at he
    cases hr : d xs a with
    | none => rw [hr] at he; cases he
    | some p =>
      obtain ⟨x, b⟩ := p
      rw [hr] at he
      simp only at he
      cases hr2 : dRep d xs n b with
      | none => rw [hr2] at he; cases he
      | some p2 =>
        obtain ⟨l2, z2⟩ := p2
        rw [hr2] at he
        simp only [Option.some.injEq, Prod.mk.injEq] at he
        obtain ⟨rfl, rfl⟩ := he
        have e1 := ih b l2 z2 hr2
        have e2 := h _ _ _ hr
        omega
theorem lst_all {β : Type} {d : List Int → Nat → Option (β × Nat)} {xs : List Int} {P : β → Prop} (hB : Bytes xs) (h : ∀ a x b, d xs a = some (x, b) → P x) {a : Nat} {p : List β × Nat} (he : dLst d xs a = some p) : p.1.length ≤ 2147483647 ∧ ∀ x ∈ p.1, P x := by
  unfold dLst at he
  cases hr : dNum xs a with
  | none => rw [hr] at he; cases he
  | some q =>
    obtain ⟨n, b⟩ := q
    rw [hr] at he
    obtain ⟨_, h0, h1, _⟩ := dNum_some hB hr
    obtain ⟨e1, e2⟩ := rep_all h _ b p.1 p.2 he
    exact ⟨by omega, e2⟩
theorem lst_len {β : Type} {d : List Int → Nat → Option (β × Nat)} {xs : List Int} (hB : Bytes xs) {a : Nat} {p : List β × Nat} (he : dLst d xs a = some p) : p.1.length ≤ 1000000000000000 := by
  have := (lst_all (P := fun _ => True) hB (fun _ _ _ _ => trivial) he).1
  omega
theorem far_Watch {xs : List Int} (hB : Bytes xs) : ∀ a x b, dWatch xs a = some (x, b) → a < b := by
  intro a x b h
  unfold dWatch at h
  obtain ⟨p0, h0, h⟩ := Option.bind_eq_some_iff.1 h
  have g0 := (dNum_some hB h0).2.2.2.1
  obtain ⟨p1, h1, h⟩ := Option.bind_eq_some_iff.1 h
  have g1 := (dTxt_some hB h1).2.2.1
  obtain ⟨p2, h2, h⟩ := Option.bind_eq_some_iff.1 h
  have g2 := (dNum_some hB h2).2.2.2.1
  obtain ⟨p3, h3, h⟩ := Option.bind_eq_some_iff.1 h
  have g3 := (dNum_some hB h3).2.2.2.1
  simp only [Option.some.injEq, Prod.mk.injEq] at h
  omega
theorem lst_watch {xs : List Int} (hB : Bytes xs) (hL : xs.length ≤ 262144) {a : Nat} {p : List S96 × Nat} (ha : a ≤ xs.length) (he : dLst dWatch xs a = some p) : p.1.length ≤ 17592186043904 := by
  have hz := goes_rep (goes_Watch hB)
  unfold dLst at he
  cases hr : dNum xs a with
  | none => rw [hr] at he; cases he
  | some q =>
    obtain ⟨n, b⟩ := q
    rw [hr] at he
    obtain ⟨_, h0, h1, _, hb, _⟩ := dNum_some hB hr
    have e1 := (rep_all (P := fun _ => True) (fun _ _ _ _ => trivial) _ b p.1 p.2 he).1
    have e2 := rep_far (far_Watch hB) _ b p.1 p.2 he
    have e3 := hz _ b p.1 p.2 hb he
    omega
theorem kids_reply {xs : List Int} (hB : Bytes xs) {a : Nat} {p : S29 × Nat} (he : dReply xs a = some p) : (∀ r ∈ p.1.f3, ∀ y ∈ r.f6, y.size ≤ 140737488355328) ∧ p.1.f3.length ≤ 1000000000000000 := by
  unfold dReply at he
  obtain ⟨p0, h0, h⟩ := Option.bind_eq_some_iff.1 he
  obtain ⟨p1, h1, h⟩ := Option.bind_eq_some_iff.1 h
  obtain ⟨p2, h2, h⟩ := Option.bind_eq_some_iff.1 h
  obtain ⟨p3, h3, h⟩ := Option.bind_eq_some_iff.1 h
  simp only [Option.some.injEq] at h
  subst h
  refine ⟨(lst_all (P := fun r => ∀ y ∈ r.f6, y.size ≤ 140737488355328) hB (fun a r b hr => ?_) h3).2, lst_len hB h3⟩
  unfold dResult at hr
  obtain ⟨q0, k0, hr⟩ := Option.bind_eq_some_iff.1 hr
  obtain ⟨q1, k1, hr⟩ := Option.bind_eq_some_iff.1 hr
  obtain ⟨q2, k2, hr⟩ := Option.bind_eq_some_iff.1 hr
  obtain ⟨q3, k3, hr⟩ := Option.bind_eq_some_iff.1 hr
  obtain ⟨q4, k4, hr⟩ := Option.bind_eq_some_iff.1 hr
  obtain ⟨q5, k5, hr⟩ := Option.bind_eq_some_iff.1 hr
  obtain ⟨q6, k6, hr⟩ := Option.bind_eq_some_iff.1 hr
  simp only [Option.some.injEq, Prod.mk.injEq] at hr
  obtain ⟨rfl, _⟩ := hr
  exact (lst_all (P := fun y : ByteArray => y.size ≤ 140737488355328) hB (fun a y b hy => by have := (dTxt_some hB hy).2.1; omega) k6).2
theorem sane_F {xs : List Int} (hB : Bytes xs) (hL : xs.length ≤ 262144) {l : Ltr} {a a' : Nat} {y y' : Note} (ha : a ≤ xs.length) (h : dF l xs a y = some (y', a')) (hs : Sane y) : Sane y' := by
  obtain ⟨s0, s1, s2, s3, s4, s5, s6⟩ := hs
  cases l
  all_goals simp only [dF] at h
  all_goals obtain ⟨p, h0, h⟩ := Option.bind_eq_some_iff.1 h
  case lv =>
    obtain ⟨q, h1, h⟩ := Option.bind_eq_some_iff.1 h
    obtain ⟨r, h2, h⟩ := Option.bind_eq_some_iff.1 h
    simp only [Option.some.injEq, Prod.mk.injEq] at h
    obtain ⟨rfl, _⟩ := h
    exact ⟨s0, s1, s2, s3, s4, s5, s6⟩
  all_goals simp only [Option.some.injEq, Prod.mk.injEq] at h
  all_goals obtain ⟨rfl, _⟩ := h
  all_goals first
    | exact ⟨s0, s1, s2, s3, s4, s5, s6⟩
    | exact ⟨s0, s1, s2, s3, lst_watch hB hL ha h0, s5, s6⟩
    | exact ⟨(kids_reply hB h0).1, s1, s2, (kids_reply hB h0).2, s4, s5, s6⟩
    | exact ⟨s0, lst_len hB h0, s2, s3, s4, s5, s6⟩
    | exact ⟨s0, s1, lst_len hB h0, s3, s4, s5, s6⟩
    | exact ⟨s0, s1, s2, s3, s4, lst_len hB h0, s6⟩
    | exact ⟨s0, s1, s2, s3, s4, s5, lst_len hB h0⟩
theorem end_F {xs : List Int} (hB : Bytes xs) {l : Ltr} {a a' : Nat} {y y' : Note} (ha : a ≤ xs.length) (h : dF l xs a y = some (y', a')) : a' ≤ xs.length := by
  cases l
  all_goals simp only [dF] at h
  all_goals obtain ⟨p, h0, h⟩ := Option.bind_eq_some_iff.1 h
  case lv =>
    obtain ⟨q, h1, h⟩ := Option.bind_eq_some_iff.1 h
    obtain ⟨r, h2, h⟩ := Option.bind_eq_some_iff.1 h
    simp only [Option.some.injEq, Prod.mk.injEq] at h
    obtain ⟨_, rfl⟩ := h
    exact goes_num hB _ r.1 _ (goes_num hB _ q.1 _ (goes_num hB _ p.1 _ ha h0) h1) h2
  all_goals simp only [Option.some.injEq, Prod.mk.injEq] at h
  all_goals obtain ⟨_, rfl⟩ := h
  all_goals first
    | exact goes_num hB _ p.1 _ ha h0
    | exact goes_txt hB _ p.1 _ ha h0
    | exact goes_lst hB (goes_Watch hB) _ p.1 _ ha h0
    | exact goes_lst hB (goes_Op hB) _ p.1 _ ha h0
    | exact goes_lst hB (goes_Entry hB) _ p.1 _ ha h0
    | exact goes_lst hB (goes_Item hB) _ p.1 _ ha h0
    | exact goes_lst hB (goes_Part hB) _ p.1 _ ha h0
    | exact goes_Reply hB _ p.1 _ ha h0
theorem sane_zero (k : Int) : Sane (zeroNote k) := ⟨(fun r hr => absurd hr (by simp [zeroNote])), Nat.zero_le _, Nat.zero_le _, Nat.zero_le _, Nat.zero_le _, Nat.zero_le _, Nat.zero_le _⟩
theorem sane_Fs {xs : List Int} (hB : Bytes xs) (hL : xs.length ≤ 262144) (w : List Ltr) : ∀ {a a' : Nat} {y y' : Note}, a ≤ xs.length → dFs w xs a y = some (y', a') → Sane y → Sane y' := by
  induction w with
  | nil =>
    intro a a' y y' _ h hs
    simp only [dFs, Option.some.injEq, Prod.mk.injEq] at h
    exact h.1 ▸ hs
  | cons l w ih =>
    intro a a' y y' ha h hs
    obtain ⟨p, h0, h⟩ := Option.bind_eq_some_iff.1 h
    exact ih (end_F hB ha h0) h (sane_F hB hL ha h0 hs)
theorem sane_note {xs : List Int} {x : Note} (hB : Bytes xs) (hL : xs.length ≤ 262144) (h : dNote xs = some x) : Sane x := by
  unfold dNote at h
  obtain ⟨p, h0, h⟩ := Option.bind_eq_some_iff.1 h
  split at h
  · cases h
  · obtain ⟨r, h1, h⟩ := Option.bind_eq_some_iff.1 h
    split at h
    · simp only [Option.some.injEq] at h
      subst h
      exact sane_Fs hB hL _ (dNum_some hB (show dNum xs 0 = some (p.1, p.2) from h0)).2.2.2.2.1 h1 (sane_zero _)
    · cases h
end Go.Proofs.YtmneemhplffemaaGreatDoorRR.Tab
namespace Go.Proofs.YtmneemhplffemaaGreatDoorRR.Tab
open Go.RowKit Go.Proofs.YtmneemhplffemaaGreatDoorRR.Ord Go.Proofs.YtmneemhplffemaaGreatDoorRR.Name Go.Proofs.YtmneemhplffemaaGreatDoorRR.Ext Go.Proofs.YtmneemhplffemaaGreatDoorRR.Wire Go.Proofs.YtmneemhplffemaaGreatDoorRR.Mem Go.Proofs.YtmneemhplffemaaGreatDoorRR.Put Go.Proofs.YtmneemhplffemaaGreatDoorRR.Get Go.Proofs.YtmneemhplffemaaGreatDoorRR.Law Go.Proofs.YtmneemhplffemaaGreatDoorRR.Row Go.Proofs.YtmneemhplffemaaGreatDoorRR.Ki Go.Proofs.YtmneemhplffemaaGreatDoorRR.Chk Go.Proofs.YtmneemhplffemaaGreatDoorRR.May Go.Proofs.YtmneemhplffemaaGreatDoorRRW.PrintWords
set_option linter.unusedVariables false
set_option linter.unusedSimpArgs false
theorem results_ct {P : Program} {fn : Func} {p q : Tmp} {ty : TypeId} (h : fn.results = #[.cell p ty, .tmp q]) (tmps : Array Value) (w : World) (g : Nat) (t : TypeId) (cs : Array Value) (fr : Nat × Nat) (d : TypeDesc) (b : Value)
    (hp : tmps.getD p undef = .pointer (some ⟨g, 0, none⟩)) (hq : tmps.getD q undef = b) (hg : w.heap[g]? = some (.cells cs t fr))
    (hu : P.underlying ty = some d) (hd : (match d with | .struct _ | .array _ _ => true | _ => false) = true) (hi : (P.info? ty).map (·.size) = some cs.size) :
    (results fn tmps).run P w = .ok (.tuple #[.agg cs, b]) w := by
  have hp' : tmps[p]?.getD undef = .pointer (some ⟨g, 0, none⟩) := by simpa using hp
  have hq' : tmps[q]?.getD undef = b := by simpa using hq
  simp [results, h, hp', hq', asAddr, run_loadVar_row w g t ty cs fr d hg hu hd hi]
theorem zero_size : (Tryz.prog.info? 34).map (·.size) = some (zeroCells.toArray).size := infoNote
theorem zero_one : ∀ u ∈ zeroCells.toArray.toList, u.oneCell' = true := by decide
/-- What Decode answers. -/
def DecOk (W W' : World) (xs : List Int) (e : Ending) : Prop :=
  (262144 < xs.length → e = .returned (.tuple #[.agg zeroCells.toArray, .int .i64 2])) ∧
  (xs.length ≤ 262144 → ∀ y, dNote xs = some y → mCheck y = true → ∃ cs : List Value, k34.M W' W.heap.size (fun _ => True) y cs ∧ e = .returned (.tuple #[.agg cs.toArray, .int .i64 0])) ∧
  (xs.length ≤ 262144 → (∀ y, dNote xs = some y → mCheck y = false) → e = .returned (.tuple #[.agg zeroCells.toArray, .int .i64 30]))
set_option maxRecDepth 100000 in
set_option maxHeartbeats 8000000 in
theorem c_decodeP (w0 W : World) (A : Option Addr) (c : Nat) (xs : List Int) (hD : Get.Data w0 A c xs) (hb : Below w0.heap.size w0 W) (HE : EnvN w0) :
    Calls Tryz.prog 24 #[.slice A xs.length c] W fun e W' => Below W.heap.size W W' ∧ DecOk W W' xs e := by
  have HD := Aside0.mk hD
  have HE := Aside0.mk HE
  have HB := Aside0.mk hb
  have HGE := Aside0.mk hb.size
  have hlen := hD.len
  have hb1 := below_alloc (Below.refl W.heap.size W) (Obj.cells #[.slice A xs.length c] 41 (0, 0))
  have hx1 : (W.alloc (Obj.cells #[.slice A xs.length c] 41 (0, 0))).heap[W.heap.size]? = _ := blk_alloc _
  have hs1 : (W.alloc (Obj.cells #[.slice A xs.length c] 41 (0, 0))).heap.size = W.heap.size + 1 := by simp
  have hb2 := below_alloc hb1 (Obj.cells zeroCells.toArray 34 (0, 0))
  have hx2 : ((W.alloc (Obj.cells #[.slice A xs.length c] 41 (0, 0))).alloc (Obj.cells zeroCells.toArray 34 (0, 0))).heap[(W.alloc (Obj.cells #[.slice A xs.length c] 41 (0, 0))).heap.size]? = some (.cells zeroCells.toArray 34 (0, 0)) := Mem.blk_alloc _
  rw [hs1] at hx2
  have hy1 := blk_below (below_alloc (Below.refl _ _) (Obj.cells zeroCells.toArray 34 (0, 0))) hx1
  obtain ⟨w1, hw1⟩ : ∃ w1, w1 = (W.alloc (Obj.cells #[.slice A xs.length c] 41 (0, 0))).alloc (Obj.cells zeroCells.toArray 34 (0, 0)) := ⟨_, rfl⟩
  rw [← hw1] at hx2 hy1 hb2
  have n_0 : w1.cell? ⟨W.heap.size, 0, none⟩ = some (.slice A xs.length c) := blk_cell hy1 0
  have HX2 := Aside0.mk hx2
  have HB2 := Aside0.mk hb2
  have HW1 := Aside0.mk (show (W.alloc (Obj.cells #[.slice A xs.length c] 41 (0, 0))).alloc (Obj.cells #[.int .i64 0, .int .i64 0, .int .i64 0, .int .i64 0, .int .i64 0, .int .i64 0, .int .i64 0, .int .i64 0, .int .i64 0, .int .i64 0, .int .i64 0, .slice none 0 0, .slice none 0 0, .int .i64 0, .int .i64 0, .int .i64 0, .slice none 0 0, .slice none 0 0, .slice none 0 0, .slice none 0 0, .string ⟨#[]⟩] 34 (0, 0)) = w1 from hw1.symm)
  clear hD hb hb1 hx1 hs1 hb2 hx2 hy1 hw1
  go_enter Tryz.func24, Tryz.ntmps24
  go_upto_region 1 with fail
  rw [HW1.out]
  clear HW1
  cases h1 : decide ((262144 : Int) < xs.length) with
  | true =>
    have hq_ := of_decide_eq_true h1
    have HGT := Aside0.mk (show 262144 < xs.length by omega)
    go_wp2_with ((with_reducible refine gate_store2 (t := 34) rfl ?_); refine store_row (old := zeroCells.toArray) (cs := zeroCells.toArray) rfl rfl rfl HX2.out rfl rfl zero_size rfl zero_one ?_; intro w3 hm3 hx3; have HX3 := Aside0.mk hx3; have HB3 := Aside0.mk ((Moved.of_below HB2.out (fun k => k = W.heap.size + 1)).trans hm3 (fun _ _ h => h) |>.below (fun k hk h => by omega)); clear hm3 hx3)
    refine bodyPost_ret (results_ct rfl _ _ _ _ _ _ _ _ rfl rfl HX3.out Tryz.underlying34 rfl zero_size) rfl ?_
    exact ⟨HB3.out, fun _ => rfl, fun h => absurd HGT.out (by omega), fun h => absurd HGT.out (by omega)⟩
  | false =>
    have hq_ := of_decide_eq_false h1
    have HLE := Aside0.mk (show xs.length ≤ 262144 by omega)
    clear hq_
    go_upto_region 4 with fail
    have hbn := below_alloc (Below.refl w1.heap.size w1) (Obj.cells zeroCells.toArray 34 (0, 0))
    have hgn : (w1.alloc (Obj.cells zeroCells.toArray 34 (0, 0))).heap[w1.heap.size]? = some (.cells zeroCells.toArray 34 (0, 0)) := Mem.blk_alloc _
    obtain ⟨w2, hw2⟩ : ∃ w2, w2 = w1.alloc (Obj.cells zeroCells.toArray 34 (0, 0)) := ⟨_, rfl⟩
    have HW2 := Aside0.mk (show w1.alloc (Obj.cells #[.int .i64 0, .int .i64 0, .int .i64 0, .int .i64 0, .int .i64 0, .int .i64 0, .int .i64 0, .int .i64 0, .int .i64 0, .int .i64 0, .int .i64 0, .slice none 0 0, .slice none 0 0, .int .i64 0, .int .i64 0, .int .i64 0, .slice none 0 0, .slice none 0 0, .slice none 0 0, .slice none 0 0, .string ⟨#[]⟩] 34 (0, 0)) = w2 from hw2.symm)
    rw [← hw2] at hbn hgn
    have hc2 := pw_cell_below hbn n_0
    have hx2 := blk_below hbn HX2.out
    have hne : W.heap.size + 1 ≠ w1.heap.size := Nat.ne_of_lt (blk_lt HX2.out)
    have hge : W.heap.size + 2 ≤ w1.heap.size := blk_lt HX2.out
    have hbf := below_alloc (Below.refl w2.heap.size w2) (Obj.cells #[.bool false] 4 (0, 0))
    have hnf : w1.heap.size < w2.heap.size := blk_lt hgn
    obtain ⟨w3, hw3⟩ : ∃ w3, w3 = w2.alloc (Obj.cells #[.bool false] 4 (0, 0)) := ⟨_, rfl⟩
    have hxf : (w2.alloc (Obj.cells #[.bool false] 4 (0, 0))).heap[w2.heap.size]? = some (Obj.cells #[.bool false] 4 (0, 0)) := Mem.blk_alloc _
    rw [← hw3] at hbf hxf
    have hwk := c_work w0 w3 W.heap.size w1.heap.size A c xs HD.out (below_step (below_step (below_step HB.out HB2.out) hbn) hbf) (pw_cell_below hbf hc2) (blk_below hbf hgn) HE.out (by have := HGE.out; omega)
    have HWORK : Aside0 (Calls Tryz.prog 66 #[.pointer (some ⟨W.heap.size, 0, none⟩), .pointer (some ⟨w1.heap.size, 0, none⟩)] (w2.alloc (Obj.cells #[.bool false] 4 (0, 0))) fun e W' => e = (if (dNote xs).isSome = true then .returned (.tuple #[]) else .panicked flaw) ∧ W'.heap[w2.heap.size]? = some (Obj.cells #[.bool false] 4 (0, 0)) ∧ (Moved w2 W' (fun k => k = w1.heap.size) ∧ W'.heap[w2.heap.size]? = some (Obj.cells #[.bool false] 4 (0, 0)) ∧ ∀ y, dNote xs = some y → ∃ cs', k34.M W' w2.heap.size (fun _ => True) y cs' ∧ W'.heap[w1.heap.size]? = some (.cells cs'.toArray 34 (0, 0)))) := ⟨by
      rw [← hw3]
      refine hwk.mono ?_
      rintro e w' ⟨hm, hn, hs⟩
      have hf := hm.blk hxf (Nat.ne_of_gt hnf)
      refine ⟨?_, hf, ((Moved.of_below hbf (fun k => k = w1.heap.size)).trans hm (fun _ _ h => h)), hf, fun y hy => ?_⟩
      · cases hd : dNote xs with
        | none => exact hn hd
        | some y => exact (hs y hd).1
      · obtain ⟨_, cs', hM, hX⟩ := hs y hy
        exact ⟨cs', k34.M_lower hbf.size hM, hX⟩⟩
    have HB3 := Aside0.mk (below_step HB2.out hbn)
    have HX3 := Aside0.mk hx2
    have HNE := Aside0.mk hne
    have HGT := Aside0.mk hge
    have HNF := Aside0.mk hnf
    clear hbn hgn hw2 hc2 hx2 hne hge hbf hnf hw3 hxf hwk n_0
    rw [HW2.out]
    clear HW2
    have hmf : ∀ (fn : Fn) (first cap : Array Value) (w : World), (Instr.makeFunc fn first cap).run Tryz.prog w = .ok (.func fn first cap) w := fun _ _ _ _ => rfl
    go_upto_region 5 with (go_at_call 65; (with_reducible refine (guarded_any 66 #[.pointer (some ⟨W.heap.size, 0, none⟩), .pointer (some ⟨w1.heap.size, 0, none⟩)] (fun _ _ => rfl) w2 (dNote xs).isSome _ HWORK.out).mono ?_); rintro e w5 ⟨rfl, w4, ⟨hm4, hf4, hs4⟩, hm5⟩)
    have HX5 := Aside0.mk (hm5.blk (hm4.blk HX3.out HNE.out) (by have := HNE.out; have := HGT.out; have := HNF.out; omega))
    have HB5 := Aside0.mk (((Moved.of_below HB3.out (fun k => k = w1.heap.size ∨ k = w2.heap.size)).trans (hm4.trans hm5 (fun k hk h => absurd hk (by omega))) (fun _ _ h => .inl h)).below (fun k hk h => by have := HGT.out; have := HNF.out; omega))
    cases hd : dNote xs with
    | none =>
      have HDN := Aside0.mk hd
      clear hm4 hm5 hf4 hs4 HWORK hd
      rw [show (none : Option Note).isSome = false from rfl]
      have hno : ∀ (x : Bool) (w : World), (Op.unary .not (.bool x)).run Tryz.prog w = .ok (.bool (!x)) w := fun _ _ => rfl
      go_wp2_with ((with_reducible refine gate_store2 (t := 34) rfl ?_); refine store_row (old := zeroCells.toArray) (cs := zeroCells.toArray) rfl rfl rfl HX5.out rfl rfl zero_size rfl zero_one ?_; intro w9 hm9 hx9; have HX9 := Aside0.mk hx9; have HB9 := Aside0.mk ((Moved.of_below HB5.out (fun k => k = W.heap.size + 1)).trans hm9 (fun _ _ h => h) |>.below (fun k hk h => by omega)); clear hm9 hx9)
      refine bodyPost_ret (results_ct rfl _ _ _ _ _ _ _ _ rfl rfl HX9.out Tryz.underlying34 rfl zero_size) rfl ?_
      exact ⟨HB9.out, fun h => absurd HLE.out (by omega), (fun _ y h => by rw [HDN.out] at h; cases h), fun _ _ => rfl⟩
    | some y =>
      obtain ⟨cs, hM, hX⟩ := hs4 y hd
      have HDN := Aside0.mk hd
      have HM5 := Aside0.mk (Get.M_moved hM hf4 (by decide) hm5)
      have HG5 := Aside0.mk (hm5.blk hX (by have := HNF.out; omega))
      have HK5 := Aside0.mk (k34.K_of_M HM5.out)
      have HSZ := Aside0.mk (cs_size HK5.out)
      have HSA := Aside0.mk (sane_note HD.out.bytes HLE.out hd)
      have HE5 := Aside0.mk ((HE.out.at_ HB.out).at_ HB5.out)
      clear hm4 hm5 hf4 hs4 HWORK hd hM hX
      rw [show (some y : Option Note).isSome = true from rfl]
      have hno : ∀ (x : Bool) (w : World), (Op.unary .not (.bool x)).run Tryz.prog w = .ok (.bool (!x)) w := fun _ _ => rfl
      have HN5 := Aside0.mk (show w1.heap.size < w2.heap.size from HNF.out)
      cases hmc : mCheck y with
      | true =>
        go_wp2_with (first | (first | ((with_reducible refine gate_load (t := 34) rfl ?_); refine gate_guard (by rfl) ?_; refine load_row rfl rfl Tryz.underlying34 rfl HG5.out rfl HSZ.out ?_) | ((with_reducible refine gate_load (t := 34) rfl ?_); refine load_row rfl rfl Tryz.underlying34 rfl HG6.out rfl HSZ.out ?_) | ((with_reducible refine gate_store2 (t := 34) rfl ?_); refine store_row (old := zeroCells.toArray) (cs := cs.toArray) rfl rfl rfl HX6.out rfl rfl HSZ.out (note_size HK5.out) (note_one HK5.out) ?_; intro w9 hm9 hx9; have HX9 := Aside0.mk hx9; have HM9 := Aside0.mk (k34.M_lower (Nat.le_trans HB3.out.size (Nat.le_refl _)) (Get.M_moved HM6.out HX6.out (by decide) hm9)); have HB9 := Aside0.mk ((Moved.of_below HB6.out (fun k => k = W.heap.size + 1)).trans hm9 (fun _ _ h => h) |>.below (fun k hk h => by omega)); clear hm9 hx9)) | (go_at_call 17; have hch := c_checkP w5 w5 y cs HK5.out (Below.refl _ _) HE5.out HSA.out; have HMC := Aside0.mk hmc; rw [hmc] at hch; (with_reducible refine hch.mono ?_); clear hch; rintro e w6 ⟨rfl, hb6⟩; have HX6 := Aside0.mk (blk_below hb6 HX5.out); have HG6 := Aside0.mk (blk_below hb6 HG5.out); have HM6 := Aside0.mk (Kd.M_below HM5.out hb6); have HB6 := Aside0.mk (below_step HB5.out hb6); clear hb6))
        refine bodyPost_ret (results_ct rfl _ _ _ _ _ _ _ _ rfl rfl HX9.out Tryz.underlying34 rfl HSZ.out) rfl ?_
        exact ⟨HB9.out, fun h => absurd HLE.out (by omega), (fun _ y' h _ => by rw [HDN.out] at h; obtain rfl := Option.some.inj h; exact ⟨cs, HM9.out, rfl⟩), fun _ h => absurd (h y HDN.out) (by rw [HMC.out]; simp)⟩
      | false =>
        go_wp2_with (first | (first | ((with_reducible refine gate_load (t := 34) rfl ?_); refine gate_guard (by rfl) ?_; refine load_row rfl rfl Tryz.underlying34 rfl HG5.out rfl HSZ.out ?_) | ((with_reducible refine gate_load (t := 34) rfl ?_); refine load_row rfl rfl Tryz.underlying34 rfl HG6.out rfl HSZ.out ?_) | ((with_reducible refine gate_store2 (t := 34) rfl ?_); refine store_row (old := zeroCells.toArray) (cs := cs.toArray) rfl rfl rfl HX6.out rfl rfl HSZ.out (note_size HK5.out) (note_one HK5.out) ?_; intro w9 hm9 hx9; have HX9 := Aside0.mk hx9; have HM9 := Aside0.mk (k34.M_lower (Nat.le_trans HB3.out.size (Nat.le_refl _)) (Get.M_moved HM6.out HX6.out (by decide) hm9)); have HB9 := Aside0.mk ((Moved.of_below HB6.out (fun k => k = W.heap.size + 1)).trans hm9 (fun _ _ h => h) |>.below (fun k hk h => by omega)); clear hm9 hx9)) | (go_at_call 17; have hch := c_checkP w5 w5 y cs HK5.out (Below.refl _ _) HE5.out HSA.out; have HMC := Aside0.mk hmc; rw [hmc] at hch; (with_reducible refine hch.mono ?_); clear hch; rintro e w6 ⟨rfl, hb6⟩; have HX6 := Aside0.mk (blk_below hb6 HX5.out); have HG6 := Aside0.mk (blk_below hb6 HG5.out); have HM6 := Aside0.mk (Kd.M_below HM5.out hb6); have HB6 := Aside0.mk (below_step HB5.out hb6); clear hb6) | ((with_reducible refine gate_store2 (t := 34) rfl ?_); refine store_row (old := zeroCells.toArray) (cs := zeroCells.toArray) rfl rfl rfl HX6.out rfl rfl zero_size rfl zero_one ?_; intro w9 hm9 hx9; have HX9 := Aside0.mk hx9; have HB9 := Aside0.mk ((Moved.of_below HB6.out (fun k => k = W.heap.size + 1)).trans hm9 (fun _ _ h => h) |>.below (fun k hk h => by omega)); clear hm9 hx9))
        refine bodyPost_ret (results_ct rfl _ _ _ _ _ _ _ _ rfl rfl HX9.out Tryz.underlying34 rfl zero_size) rfl ?_
        exact ⟨HB9.out, fun h => absurd HLE.out (by omega), (fun _ y' h hm => by rw [HDN.out] at h; obtain rfl := Option.some.inj h; rw [HMC.out] at hm; cases hm), fun _ _ => rfl⟩
end Go.Proofs.YtmneemhplffemaaGreatDoorRR.Tab
namespace Go.Proofs.YtmneemhplffemaaGreatDoorRR.Tab
open Go.RowKit Go.Proofs.YtmneemhplffemaaGreatDoorRR.Ord Go.Proofs.YtmneemhplffemaaGreatDoorRR.Name Go.Proofs.YtmneemhplffemaaGreatDoorRR.Ext Go.Proofs.YtmneemhplffemaaGreatDoorRR.Wire Go.Proofs.YtmneemhplffemaaGreatDoorRR.Mem Go.Proofs.YtmneemhplffemaaGreatDoorRR.Put Go.Proofs.YtmneemhplffemaaGreatDoorRR.Law Go.Proofs.YtmneemhplffemaaGreatDoorRR.Row Go.Proofs.YtmneemhplffemaaGreatDoorRR.Ki Go.Proofs.YtmneemhplffemaaGreatDoorRR.Chk Go.Proofs.YtmneemhplffemaaGreatDoorRR.May Go.Proofs.YtmneemhplffemaaGreatDoorRRW.PrintWords
set_option linter.unusedVariables false
set_option linter.unusedSimpArgs false
theorem wrote_alloc {T : Nat} {W W' : World} {base g : Nat} {v : Value} {bs : List Int} {o : Obj} (h : Wrote T (W.alloc o) W' base g v bs) : Wrote T W W' base g v bs :=
  Wrote.trans (Moved.of_below (below_alloc (Below.refl _ _) o) _) (fun _ hk => .inl hk) h
set_option maxRecDepth 100000 in
set_option maxHeartbeats 1000000 in
theorem pc_uW (w0 W : World) (g gw : Nat) (x : Note) (cs : List Value) (hk : k34.K w0 x cs) (hb : Below w0.heap.size w0 W) (hbx : W.heap[g]? = some (.cells cs.toArray 34 (0, 0))) (ho : OkL .uW x) (base : Nat) (v : Value) (bs : List Int) (hbase : w0.heap.size ≤ base) (hgb : g < base) (hp : Pen 127 W base gw v bs) (hl : bs.length + 200000000 ≤ 140737488355328) :
    Calls Tryz.prog 170 #[.pointer (some ⟨gw, 0, none⟩), .pointer (some ⟨g, 0, none⟩)] W fun e W' => e = .returned (.tuple #[]) ∧ Wrote 127 W W' base gw v (bs ++ encF .uW x) := by
  obtain ⟨A11, c11, A12, c12, A16, c16, A17, c17, A18, c18, A19, c19, rfl, l11, g11, l12, g12, l16, g16, l17, g17, l18, g18, l19, g19⟩ := k34_open hk
  have hc := blk_cell hbx
  have n_17 : W.cell? ⟨g, 17, none⟩ = some (.slice A17 x.f12.length c17) := hc 17
  have G17 := Aside0.mk g17
  have HL17 := Aside0.mk l17
  have HP := Aside0.mk hp
  have HB := Aside0.mk hb
  have HO := Aside0.mk ho
  have HX := Aside0.mk hbx
  clear hk hb hbx hc hp ho g11 l11 g12 l12 g16 l16 g17 l17 g18 l18 g19 l19
  go_enter Tryz.func170, Tryz.ntmps170
  go_wp2_with fail
  have hlen := HO.out.1
  refine (putList_Watch 230 (fun args w => by kernel_rfl) encWatch WatchOk 300 put_Watch len_Watch A17 c17 x.f12 w0 W G17.out HO.out.2 HB.out base gw v bs hbase HP.out (by omega) (by omega)).mono ?_
  rintro e w1 ⟨rfl, hw⟩
  have HWR := Aside0.mk hw
  clear hw
  go_wp2_with fail
  first | go_end0 | refine bodyPost_ret (results_none rfl _ _ _) rfl ?_
  exact ⟨rfl, HWR.out⟩
set_option maxRecDepth 100000 in
set_option maxHeartbeats 1000000 in
theorem pc_lo (w0 W : World) (g gw : Nat) (x : Note) (cs : List Value) (hk : k34.K w0 x cs) (hb : Below w0.heap.size w0 W) (hbx : W.heap[g]? = some (.cells cs.toArray 34 (0, 0))) (ho : OkL .lo x) (base : Nat) (v : Value) (bs : List Int) (hbase : w0.heap.size ≤ base) (hgb : g < base) (hp : Pen 127 W base gw v bs) (hl : bs.length + 200000000 ≤ 140737488355328) :
    Calls Tryz.prog 191 #[.pointer (some ⟨gw, 0, none⟩), .pointer (some ⟨g, 0, none⟩)] W fun e W' => e = .returned (.tuple #[]) ∧ Wrote 127 W W' base gw v (bs ++ encF .lo x) := by
  obtain ⟨A11, c11, A12, c12, A16, c16, A17, c17, A18, c18, A19, c19, rfl, l11, g11, l12, g12, l16, g16, l17, g17, l18, g18, l19, g19⟩ := k34_open hk
  have hc := blk_cell hbx
  have n_11 : W.cell? ⟨g, 11, none⟩ = some (.slice A11 x.f9.length c11) := hc 11
  have G11 := Aside0.mk g11
  have HL11 := Aside0.mk l11
  have HP := Aside0.mk hp
  have HB := Aside0.mk hb
  have HO := Aside0.mk ho
  have HX := Aside0.mk hbx
  clear hk hb hbx hc hp ho g11 l11 g12 l12 g16 l16 g17 l17 g18 l18 g19 l19
  go_enter Tryz.func191, Tryz.ntmps191
  go_wp2_with fail
  have hlen := HO.out.1
  refine (putList_Op 121 (fun args w => by kernel_rfl) encOp OpOk 2000 put_Op len_Op A11 c11 x.f9 w0 W G11.out HO.out.2 HB.out base gw v bs hbase HP.out (by omega) (by omega)).mono ?_
  rintro e w1 ⟨rfl, hw⟩
  have HWR := Aside0.mk hw
  clear hw
  go_wp2_with fail
  first | go_end0 | refine bodyPost_ret (results_none rfl _ _ _) rfl ?_
  exact ⟨rfl, HWR.out⟩
set_option maxRecDepth 100000 in
set_option maxHeartbeats 1000000 in
theorem pc_uE (w0 W : World) (g gw : Nat) (x : Note) (cs : List Value) (hk : k34.K w0 x cs) (hb : Below w0.heap.size w0 W) (hbx : W.heap[g]? = some (.cells cs.toArray 34 (0, 0))) (ho : OkL .uE x) (base : Nat) (v : Value) (bs : List Int) (hbase : w0.heap.size ≤ base) (hgb : g < base) (hp : Pen 127 W base gw v bs) (hl : bs.length + 200000000 ≤ 140737488355328) :
    Calls Tryz.prog 195 #[.pointer (some ⟨gw, 0, none⟩), .pointer (some ⟨g, 0, none⟩)] W fun e W' => e = .returned (.tuple #[]) ∧ Wrote 127 W W' base gw v (bs ++ encF .uE x) := by
  obtain ⟨A11, c11, A12, c12, A16, c16, A17, c17, A18, c18, A19, c19, rfl, l11, g11, l12, g12, l16, g16, l17, g17, l18, g18, l19, g19⟩ := k34_open hk
  have hc := blk_cell hbx
  have n_12 : W.cell? ⟨g, 12, none⟩ = some (.slice A12 x.f10.length c12) := hc 12
  have G12 := Aside0.mk g12
  have HL12 := Aside0.mk l12
  have HP := Aside0.mk hp
  have HB := Aside0.mk hb
  have HO := Aside0.mk ho
  have HX := Aside0.mk hbx
  clear hk hb hbx hc hp ho g11 l11 g12 l12 g16 l16 g17 l17 g18 l18 g19 l19
  go_enter Tryz.func195, Tryz.ntmps195
  go_wp2_with fail
  have hlen := HO.out.1
  refine (putList_Entry 75 (fun args w => by kernel_rfl) encEntry EntryOk 12000 put_Entry len_Entry A12 c12 x.f10 w0 W G12.out HO.out.2 HB.out base gw v bs hbase HP.out (by omega) (by omega)).mono ?_
  rintro e w1 ⟨rfl, hw⟩
  have HWR := Aside0.mk hw
  clear hw
  go_wp2_with fail
  first | go_end0 | refine bodyPost_ret (results_none rfl _ _ _) rfl ?_
  exact ⟨rfl, HWR.out⟩
set_option maxRecDepth 100000 in
set_option maxHeartbeats 1000000 in
theorem pc_uI (w0 W : World) (g gw : Nat) (x : Note) (cs : List Value) (hk : k34.K w0 x cs) (hb : Below w0.heap.size w0 W) (hbx : W.heap[g]? = some (.cells cs.toArray 34 (0, 0))) (ho : OkL .uI x) (base : Nat) (v : Value) (bs : List Int) (hbase : w0.heap.size ≤ base) (hgb : g < base) (hp : Pen 127 W base gw v bs) (hl : bs.length + 200000000 ≤ 140737488355328) :
    Calls Tryz.prog 202 #[.pointer (some ⟨gw, 0, none⟩), .pointer (some ⟨g, 0, none⟩)] W fun e W' => e = .returned (.tuple #[]) ∧ Wrote 127 W W' base gw v (bs ++ encF .uI x) := by
  obtain ⟨A11, c11, A12, c12, A16, c16, A17, c17, A18, c18, A19, c19, rfl, l11, g11, l12, g12, l16, g16, l17, g17, l18, g18, l19, g19⟩ := k34_open hk
  have hc := blk_cell hbx
  have n_19 : W.cell? ⟨g, 19, none⟩ = some (.slice A19 x.f14.length c19) := hc 19
  have G19 := Aside0.mk g19
  have HL19 := Aside0.mk l19
  have HP := Aside0.mk hp
  have HB := Aside0.mk hb
  have HO := Aside0.mk ho
  have HX := Aside0.mk hbx
  clear hk hb hbx hc hp ho g11 l11 g12 l12 g16 l16 g17 l17 g18 l18 g19 l19
  go_enter Tryz.func202, Tryz.ntmps202
  go_wp2_with fail
  have hlen := HO.out.1
  refine (putList_Item 204 (fun args w => by kernel_rfl) encItem ItemOk 300000 put_Item len_Item A19 c19 x.f14 w0 W G19.out (fun y hy => (HO.out.2 y hy).ok) HB.out base gw v bs hbase HP.out (by omega) (by omega)).mono ?_
  rintro e w1 ⟨rfl, hw⟩
  have HWR := Aside0.mk hw
  clear hw
  go_wp2_with fail
  first | go_end0 | refine bodyPost_ret (results_none rfl _ _ _) rfl ?_
  exact ⟨rfl, HWR.out⟩
set_option maxRecDepth 100000 in
set_option maxHeartbeats 1000000 in
theorem pc_uP (w0 W : World) (g gw : Nat) (x : Note) (cs : List Value) (hk : k34.K w0 x cs) (hb : Below w0.heap.size w0 W) (hbx : W.heap[g]? = some (.cells cs.toArray 34 (0, 0))) (ho : OkL .uP x) (base : Nat) (v : Value) (bs : List Int) (hbase : w0.heap.size ≤ base) (hgb : g < base) (hp : Pen 127 W base gw v bs) (hl : bs.length + 200000000 ≤ 140737488355328) :
    Calls Tryz.prog 211 #[.pointer (some ⟨gw, 0, none⟩), .pointer (some ⟨g, 0, none⟩)] W fun e W' => e = .returned (.tuple #[]) ∧ Wrote 127 W W' base gw v (bs ++ encF .uP x) := by
  obtain ⟨A11, c11, A12, c12, A16, c16, A17, c17, A18, c18, A19, c19, rfl, l11, g11, l12, g12, l16, g16, l17, g17, l18, g18, l19, g19⟩ := k34_open hk
  have hc := blk_cell hbx
  have n_18 : W.cell? ⟨g, 18, none⟩ = some (.slice A18 x.f13.length c18) := hc 18
  have G18 := Aside0.mk g18
  have HL18 := Aside0.mk l18
  have HP := Aside0.mk hp
  have HB := Aside0.mk hb
  have HO := Aside0.mk ho
  have HX := Aside0.mk hbx
  clear hk hb hbx hc hp ho g11 l11 g12 l12 g16 l16 g17 l17 g18 l18 g19 l19
  go_enter Tryz.func211, Tryz.ntmps211
  go_wp2_with fail
  have hlen := HO.out.1
  refine (putList_Part 213 (fun args w => by kernel_rfl) encPart PartOk 50000 put_Part len_Part A18 c18 x.f13 w0 W G18.out HO.out.2 HB.out base gw v bs hbase HP.out (by omega) (by omega)).mono ?_
  rintro e w1 ⟨rfl, hw⟩
  have HWR := Aside0.mk hw
  clear hw
  go_wp2_with fail
  first | go_end0 | refine bodyPost_ret (results_none rfl _ _ _) rfl ?_
  exact ⟨rfl, HWR.out⟩
set_option maxRecDepth 100000 in
set_option maxHeartbeats 1000000 in
theorem pc_ly (w0 W : World) (g gw : Nat) (x : Note) (cs : List Value) (hk : k34.K w0 x cs) (hb : Below w0.heap.size w0 W) (hbx : W.heap[g]? = some (.cells cs.toArray 34 (0, 0))) (ho : OkL .ly x) (base : Nat) (v : Value) (bs : List Int) (hbase : w0.heap.size ≤ base) (hgb : g < base) (hp : Pen 127 W base gw v bs) (hl : bs.length + 200000000 ≤ 140737488355328) :
    Calls Tryz.prog 180 #[.pointer (some ⟨gw, 0, none⟩), .pointer (some ⟨g, 0, none⟩)] W fun e W' => e = .returned (.tuple #[]) ∧ Wrote 127 W W' base gw v (bs ++ encF .ly x) := by
  obtain ⟨A11, c11, A12, c12, A16, c16, A17, c17, A18, c18, A19, c19, rfl, l11, g11, l12, g12, l16, g16, l17, g17, l18, g18, l19, g19⟩ := k34_open hk
  have hc := blk_cell hbx
  have n_13 : W.cell? ⟨g, 13, none⟩ = some (.int .i64 x.f11.f0) := hc 13
  have n_14 : W.cell? ⟨g, 14, none⟩ = some (.int .i64 x.f11.f1) := hc 14
  have n_15 : W.cell? ⟨g, 15, none⟩ = some (.int .i64 x.f11.f2) := hc 15
  have n_16 : W.cell? ⟨g, 16, none⟩ = some (.slice A16 x.f11.f3.length c16) := hc 16
  have G16 := Aside0.mk g16
  have HL16 := Aside0.mk l16
  have HP := Aside0.mk hp
  have HB := Aside0.mk hb
  have HO := Aside0.mk ho
  have HX := Aside0.mk hbx
  clear hk hb hbx hc hp ho g11 l11 g12 l12 g16 l16 g17 l17 g18 l18 g19 l19
  go_enter Tryz.func180, Tryz.ntmps180
  go_wp2_with fail
  refine (putReply_any x.f11 HO.out _ w0 W (k29_mk w0 x.f11 HL16.out G16.out) HB.out base gw v bs hbase HP.out (by omega)).mono ?_
  rintro e w1 ⟨rfl, hw⟩
  have HWR := Aside0.mk hw
  clear hw
  go_wp2_with fail
  first | go_end0 | refine bodyPost_ret (results_none rfl _ _ _) rfl ?_
  exact ⟨rfl, HWR.out⟩
set_option maxRecDepth 100000 in
set_option maxHeartbeats 1000000 in
theorem pc_la (w0 W : World) (g gw : Nat) (x : Note) (cs : List Value) (hk : k34.K w0 x cs) (hb : Below w0.heap.size w0 W) (hbx : W.heap[g]? = some (.cells cs.toArray 34 (0, 0))) (ho : OkL .la x) (base : Nat) (v : Value) (bs : List Int) (hbase : w0.heap.size ≤ base) (hgb : g < base) (hp : Pen 127 W base gw v bs) (hl : bs.length + 200000000 ≤ 140737488355328) :
    Calls Tryz.prog 187 #[.pointer (some ⟨gw, 0, none⟩), .pointer (some ⟨g, 0, none⟩)] W fun e W' => e = .returned (.tuple #[]) ∧ Wrote 127 W W' base gw v (bs ++ encF .la x) := by
  obtain ⟨A11, c11, A12, c12, A16, c16, A17, c17, A18, c18, A19, c19, rfl, l11, g11, l12, g12, l16, g16, l17, g17, l18, g18, l19, g19⟩ := k34_open hk
  have hc := blk_cell hbx
  have n_20 : W.cell? ⟨g, 20, none⟩ = some (.string x.f15) := hc 20
  have HP := Aside0.mk hp
  have HB := Aside0.mk hb
  have HO := Aside0.mk ho
  have HX := Aside0.mk hbx
  clear hk hb hbx hc hp ho g11 l11 g12 l12 g16 l16 g17 l17 g18 l18 g19 l19
  go_enter Tryz.func187, Tryz.ntmps187
  have hsz : x.f15.size ≤ 262144 := HO.out
  go_wp2_with fail
  refine (wtxt x.f15 hsz W base gw v bs HP.out (by omega)).mono ?_
  rintro e w1 ⟨rfl, hw⟩
  have HWR := Aside0.mk hw
  clear hw
  go_wp2_with fail
  first | go_end0 | refine bodyPost_ret (results_none rfl _ _ _) rfl ?_
  exact ⟨rfl, HWR.out⟩
set_option maxRecDepth 100000 in
set_option maxHeartbeats 1000000 in
theorem pc_le (w0 W : World) (g gw : Nat) (x : Note) (cs : List Value) (hk : k34.K w0 x cs) (hb : Below w0.heap.size w0 W) (hbx : W.heap[g]? = some (.cells cs.toArray 34 (0, 0))) (ho : OkL .le x) (base : Nat) (v : Value) (bs : List Int) (hbase : w0.heap.size ≤ base) (hgb : g < base) (hp : Pen 127 W base gw v bs) (hl : bs.length + 200000000 ≤ 140737488355328) :
    Calls Tryz.prog 235 #[.pointer (some ⟨gw, 0, none⟩), .pointer (some ⟨g, 0, none⟩)] W fun e W' => e = .returned (.tuple #[]) ∧ Wrote 127 W W' base gw v (bs ++ encF .le x) := by
  obtain ⟨A11, c11, A12, c12, A16, c16, A17, c17, A18, c18, A19, c19, rfl, l11, g11, l12, g12, l16, g16, l17, g17, l18, g18, l19, g19⟩ := k34_open hk
  have hc := blk_cell hbx
  have n_10 : W.cell? ⟨g, 10, none⟩ = some (.int .i64 x.f8) := hc 10
  have HP := Aside0.mk hp
  have HB := Aside0.mk hb
  have HO := Aside0.mk ho
  have HX := Aside0.mk hbx
  clear hk hb hbx hc hp ho g11 l11 g12 l12 g16 l16 g17 l17 g18 l18 g19 l19
  go_enter Tryz.func235, Tryz.ntmps235
  go_wp2_with fail
  refine (wnum x.f8 HO.out.1 HO.out.2 W base gw v bs HP.out (by omega)).mono ?_
  rintro e w1 ⟨rfl, hw⟩
  have HWR := Aside0.mk hw
  clear hw
  go_wp2_with fail
  first | go_end0 | refine bodyPost_ret (results_none rfl _ _ _) rfl ?_
  exact ⟨rfl, HWR.out⟩
set_option maxRecDepth 100000 in
set_option maxHeartbeats 1000000 in
theorem pc_lv (w0 W : World) (g gw : Nat) (x : Note) (cs : List Value) (hk : k34.K w0 x cs) (hb : Below w0.heap.size w0 W) (hbx : W.heap[g]? = some (.cells cs.toArray 34 (0, 0))) (ho : OkL .lv x) (base : Nat) (v : Value) (bs : List Int) (hbase : w0.heap.size ≤ base) (hgb : g < base) (hp : Pen 127 W base gw v bs) (hl : bs.length + 200000000 ≤ 140737488355328) :
    Calls Tryz.prog 239 #[.pointer (some ⟨gw, 0, none⟩), .pointer (some ⟨g, 0, none⟩)] W fun e W' => e = .returned (.tuple #[]) ∧ Wrote 127 W W' base gw v (bs ++ encF .lv x) := by
  obtain ⟨A11, c11, A12, c12, A16, c16, A17, c17, A18, c18, A19, c19, rfl, l11, g11, l12, g12, l16, g16, l17, g17, l18, g18, l19, g19⟩ := k34_open hk
  have hc := blk_cell hbx
  have n_1 : W.cell? ⟨g, 1, none⟩ = some (.int .i64 x.f1.f0) := hc 1
  have n_2 : W.cell? ⟨g, 2, none⟩ = some (.int .i64 x.f1.f1) := hc 2
  have n_3 : W.cell? ⟨g, 3, none⟩ = some (.int .i64 x.f1.f2) := hc 3
  have HP := Aside0.mk hp
  have HB := Aside0.mk hb
  have HO := Aside0.mk ho
  have HX := Aside0.mk hbx
  clear hk hb hbx hc hp ho g11 l11 g12 l12 g16 l16 g17 l17 g18 l18 g19 l19
  have HS0 : Aside0 (Pend 127 W W base gw v v bs (fun k o => k = g ∧ o = (Obj.cells #[.int .i64 x.f0, .int .i64 x.f1.f0, .int .i64 x.f1.f1, .int .i64 x.f1.f2, .int .i64 x.f2, .int .i64 x.f3, .int .i64 x.f4, .int .i64 x.f5, .int .i64 x.f6, .int .i64 x.f7, .int .i64 x.f8, .slice A11 x.f9.length c11, .slice A12 x.f10.length c12, .int .i64 x.f11.f0, .int .i64 x.f11.f1, .int .i64 x.f11.f2, .slice A16 x.f11.f3.length c16, .slice A17 x.f12.length c17, .slice A18 x.f13.length c18, .slice A19 x.f14.length c19, .string x.f15] 34 (0, 0)))) := ⟨⟨HP.out, Moved.refl _ _, fun _ hk => .inl hk, fun k o h => by obtain ⟨rfl, rfl⟩ := h; exact ⟨HX.out, fun hs => by have := HP.out.base_le _ hs; omega⟩⟩⟩
  have e0 := num_le x.f1.f0
  have e1 := num_le x.f1.f1
  clear HX
  go_enter Tryz.func239, Tryz.ntmps239
  go_wp2_with fail
  refine (Pend.num HS0.out x.f1.f0 HO.out.1 (by first | omega | (simp only [List.length_append]; omega))).mono ?_
  rintro e w1 ⟨rfl, v1, hs1⟩
  have hc1 := hs1.cells (k := g) ⟨rfl, rfl⟩
  have m1_2 : w1.cell? ⟨g, 2, none⟩ = some (.int .i64 x.f1.f1) := hc1 2
  have m1_3 : w1.cell? ⟨g, 3, none⟩ = some (.int .i64 x.f1.f2) := hc1 3
  have HS1 := Aside0.mk hs1
  clear hs1 hc1
  go_wp2_with fail
  refine (Pend.num HS1.out x.f1.f1 HO.out.2.1 (by first | omega | (simp only [List.length_append]; omega))).mono ?_
  rintro e w2 ⟨rfl, v2, hs2⟩
  have hc2 := hs2.cells (k := g) ⟨rfl, rfl⟩
  have m2_2 : w2.cell? ⟨g, 2, none⟩ = some (.int .i64 x.f1.f1) := hc2 2
  have m2_3 : w2.cell? ⟨g, 3, none⟩ = some (.int .i64 x.f1.f2) := hc2 3
  have HS2 := Aside0.mk hs2
  clear hs2 hc2
  go_wp2_with fail
  refine (Pend.num HS2.out x.f1.f2 HO.out.2.2 (by first | omega | (simp only [List.length_append]; omega))).mono ?_
  rintro e w3 ⟨rfl, v3, hs3⟩
  have hc3 := hs3.cells (k := g) ⟨rfl, rfl⟩
  have m3_2 : w3.cell? ⟨g, 2, none⟩ = some (.int .i64 x.f1.f1) := hc3 2
  have m3_3 : w3.cell? ⟨g, 3, none⟩ = some (.int .i64 x.f1.f2) := hc3 3
  have HS3 := Aside0.mk hs3
  clear hs3 hc3
  go_wp2_with fail
  first | go_end0 | refine bodyPost_ret (results_none rfl _ _ _) rfl ?_
  exact ⟨rfl, by simp only [encF]; simpa only [List.append_assoc] using HS3.out.wrote⟩
theorem c_write (l : Ltr) (w0 W : World) (g gw : Nat) (x : Note) (cs : List Value) (hk : k34.K w0 x cs) (hb : Below w0.heap.size w0 W) (hbx : W.heap[g]? = some (.cells cs.toArray 34 (0, 0))) (ho : OkL l x) (base : Nat) (v : Value) (bs : List Int) (hbase : w0.heap.size ≤ base) (hgb : g < base) (hp : Pen 127 W base gw v bs) (hl : bs.length + 200000000 ≤ 140737488355328) :
    Calls Tryz.prog 62 #[.agg (fCells l).toArray, .pointer (some ⟨gw, 0, none⟩), .pointer (some ⟨g, 0, none⟩)] W fun e W' => e = .returned (.tuple #[]) ∧ Wrote 127 W W' base gw v (bs ++ encF l x) := by
  cases l
  case ln =>
    have hc : W.cell? ⟨g, 1, none⟩ = some (.int .i64 x.f1.f0) := by
      obtain ⟨A11, c11, A12, c12, A16, c16, A17, c17, A18, c18, A19, c19, rfl, l11, g11, l12, g12, l16, g16, l17, g17, l18, g18, l19, g19⟩ := k34_open hk
      exact blk_cell hbx 1
    exact write_num _ 1 (fun _ _ => by kernel_rfl) n_ln 1 x.f1.f0 W gw g _ hc ((wnum x.f1.f0 ho.1 ho.2 _ base gw v bs (hp.alloc _) (by omega)).mono fun e W' ⟨he, hw⟩ => ⟨he, wrote_alloc hw⟩)
  case ls =>
    have hc : W.cell? ⟨g, 4, none⟩ = some (.int .i64 x.f2) := by
      obtain ⟨A11, c11, A12, c12, A16, c16, A17, c17, A18, c18, A19, c19, rfl, l11, g11, l12, g12, l16, g16, l17, g17, l18, g18, l19, g19⟩ := k34_open hk
      exact blk_cell hbx 4
    exact write_num _ 4 (fun _ _ => by kernel_rfl) n_ls 1 x.f2 W gw g _ hc ((wnum x.f2 ho.1 ho.2 _ base gw v bs (hp.alloc _) (by omega)).mono fun e W' ⟨he, hw⟩ => ⟨he, wrote_alloc hw⟩)
  case lc =>
    have hc : W.cell? ⟨g, 5, none⟩ = some (.int .i64 x.f3) := by
      obtain ⟨A11, c11, A12, c12, A16, c16, A17, c17, A18, c18, A19, c19, rfl, l11, g11, l12, g12, l16, g16, l17, g17, l18, g18, l19, g19⟩ := k34_open hk
      exact blk_cell hbx 5
    exact write_num _ 5 (fun _ _ => by kernel_rfl) n_lc 1 x.f3 W gw g _ hc ((wnum x.f3 ho.1 ho.2 _ base gw v bs (hp.alloc _) (by omega)).mono fun e W' ⟨he, hw⟩ => ⟨he, wrote_alloc hw⟩)
  case lr =>
    have hc : W.cell? ⟨g, 6, none⟩ = some (.int .i64 x.f4) := by
      obtain ⟨A11, c11, A12, c12, A16, c16, A17, c17, A18, c18, A19, c19, rfl, l11, g11, l12, g12, l16, g16, l17, g17, l18, g18, l19, g19⟩ := k34_open hk
      exact blk_cell hbx 6
    exact write_num _ 6 (fun _ _ => by kernel_rfl) n_lr 1 x.f4 W gw g _ hc ((wnum x.f4 ho.1 ho.2 _ base gw v bs (hp.alloc _) (by omega)).mono fun e W' ⟨he, hw⟩ => ⟨he, wrote_alloc hw⟩)
  case lt =>
    have hc : W.cell? ⟨g, 7, none⟩ = some (.int .i64 x.f5) := by
      obtain ⟨A11, c11, A12, c12, A16, c16, A17, c17, A18, c18, A19, c19, rfl, l11, g11, l12, g12, l16, g16, l17, g17, l18, g18, l19, g19⟩ := k34_open hk
      exact blk_cell hbx 7
    exact write_num _ 7 (fun _ _ => by kernel_rfl) n_lt 0 x.f5 W gw g _ hc ((wnum x.f5 ho.1 ho.2 _ base gw v bs (hp.alloc _) (by omega)).mono fun e W' ⟨he, hw⟩ => ⟨he, wrote_alloc hw⟩)
  case lf =>
    have hc : W.cell? ⟨g, 8, none⟩ = some (.int .i64 x.f6) := by
      obtain ⟨A11, c11, A12, c12, A16, c16, A17, c17, A18, c18, A19, c19, rfl, l11, g11, l12, g12, l16, g16, l17, g17, l18, g18, l19, g19⟩ := k34_open hk
      exact blk_cell hbx 8
    exact write_num _ 8 (fun _ _ => by kernel_rfl) n_lf 0 x.f6 W gw g _ hc ((wnum x.f6 ho.1 ho.2 _ base gw v bs (hp.alloc _) (by omega)).mono fun e W' ⟨he, hw⟩ => ⟨he, wrote_alloc hw⟩)
  case lm =>
    have hc : W.cell? ⟨g, 9, none⟩ = some (.int .i64 x.f7) := by
      obtain ⟨A11, c11, A12, c12, A16, c16, A17, c17, A18, c18, A19, c19, rfl, l11, g11, l12, g12, l16, g16, l17, g17, l18, g18, l19, g19⟩ := k34_open hk
      exact blk_cell hbx 9
    exact write_num _ 9 (fun _ _ => by kernel_rfl) n_lm 0 x.f7 W gw g _ hc ((wnum x.f7 ho.1 ho.2 _ base gw v bs (hp.alloc _) (by omega)).mono fun e W' ⟨he, hw⟩ => ⟨he, wrote_alloc hw⟩)
  case uW => exact write_put _ (fun _ _ => by kernel_rfl) _ _ _ W gw g _ ((pc_uW w0 _ g gw x cs hk (below_step hb (below_alloc (Below.refl _ _) _)) (blk_below (below_alloc (Below.refl _ _) _) hbx) ho base v bs hbase hgb (hp.alloc _) hl).mono fun e W' ⟨he, hw⟩ => ⟨he, wrote_alloc hw⟩)
  case lw => exact write_put _ (fun _ _ => by kernel_rfl) _ _ _ W gw g _ ((pc_uW w0 _ g gw x cs hk (below_step hb (below_alloc (Below.refl _ _) _)) (blk_below (below_alloc (Below.refl _ _) _) hbx) ho base v bs hbase hgb (hp.alloc _) hl).mono fun e W' ⟨he, hw⟩ => ⟨he, wrote_alloc hw⟩)
  case ld => exact write_put _ (fun _ _ => by kernel_rfl) _ _ _ W gw g _ ((pc_uW w0 _ g gw x cs hk (below_step hb (below_alloc (Below.refl _ _) _)) (blk_below (below_alloc (Below.refl _ _) _) hbx) ho base v bs hbase hgb (hp.alloc _) hl).mono fun e W' ⟨he, hw⟩ => ⟨he, wrote_alloc hw⟩)
  case uD => exact write_put _ (fun _ _ => by kernel_rfl) _ _ _ W gw g _ ((pc_uW w0 _ g gw x cs hk (below_step hb (below_alloc (Below.refl _ _) _)) (blk_below (below_alloc (Below.refl _ _) _) hbx) ho base v bs hbase hgb (hp.alloc _) hl).mono fun e W' ⟨he, hw⟩ => ⟨he, wrote_alloc hw⟩)
  case le => exact write_put _ (fun _ _ => by kernel_rfl) _ _ _ W gw g _ ((pc_le w0 _ g gw x cs hk (below_step hb (below_alloc (Below.refl _ _) _)) (blk_below (below_alloc (Below.refl _ _) _) hbx) ho base v bs hbase hgb (hp.alloc _) hl).mono fun e W' ⟨he, hw⟩ => ⟨he, wrote_alloc hw⟩)
  case lv => exact write_put _ (fun _ _ => by kernel_rfl) _ _ _ W gw g _ ((pc_lv w0 _ g gw x cs hk (below_step hb (below_alloc (Below.refl _ _) _)) (blk_below (below_alloc (Below.refl _ _) _) hbx) ho base v bs hbase hgb (hp.alloc _) hl).mono fun e W' ⟨he, hw⟩ => ⟨he, wrote_alloc hw⟩)
  case ly => exact write_put _ (fun _ _ => by kernel_rfl) _ _ _ W gw g _ ((pc_ly w0 _ g gw x cs hk (below_step hb (below_alloc (Below.refl _ _) _)) (blk_below (below_alloc (Below.refl _ _) _) hbx) ho base v bs hbase hgb (hp.alloc _) hl).mono fun e W' ⟨he, hw⟩ => ⟨he, wrote_alloc hw⟩)
  case la => exact write_put _ (fun _ _ => by kernel_rfl) _ _ _ W gw g _ ((pc_la w0 _ g gw x cs hk (below_step hb (below_alloc (Below.refl _ _) _)) (blk_below (below_alloc (Below.refl _ _) _) hbx) ho base v bs hbase hgb (hp.alloc _) hl).mono fun e W' ⟨he, hw⟩ => ⟨he, wrote_alloc hw⟩)
  case lo => exact write_put _ (fun _ _ => by kernel_rfl) _ _ _ W gw g _ ((pc_lo w0 _ g gw x cs hk (below_step hb (below_alloc (Below.refl _ _) _)) (blk_below (below_alloc (Below.refl _ _) _) hbx) ho base v bs hbase hgb (hp.alloc _) hl).mono fun e W' ⟨he, hw⟩ => ⟨he, wrote_alloc hw⟩)
  case uE => exact write_put _ (fun _ _ => by kernel_rfl) _ _ _ W gw g _ ((pc_uE w0 _ g gw x cs hk (below_step hb (below_alloc (Below.refl _ _) _)) (blk_below (below_alloc (Below.refl _ _) _) hbx) ho base v bs hbase hgb (hp.alloc _) hl).mono fun e W' ⟨he, hw⟩ => ⟨he, wrote_alloc hw⟩)
  case uI => exact write_put _ (fun _ _ => by kernel_rfl) _ _ _ W gw g _ ((pc_uI w0 _ g gw x cs hk (below_step hb (below_alloc (Below.refl _ _) _)) (blk_below (below_alloc (Below.refl _ _) _) hbx) ho base v bs hbase hgb (hp.alloc _) hl).mono fun e W' ⟨he, hw⟩ => ⟨he, wrote_alloc hw⟩)
  case uP => exact write_put _ (fun _ _ => by kernel_rfl) _ _ _ W gw g _ ((pc_uP w0 _ g gw x cs hk (below_step hb (below_alloc (Below.refl _ _) _)) (blk_below (below_alloc (Below.refl _ _) _) hbx) ho base v bs hbase hgb (hp.alloc _) hl).mono fun e W' ⟨he, hw⟩ => ⟨he, wrote_alloc hw⟩)
end Go.Proofs.YtmneemhplffemaaGreatDoorRR.Tab
namespace Go.Proofs.YtmneemhplffemaaGreatDoorRR.Tab
open Go.RowKit Go.Proofs.YtmneemhplffemaaGreatDoorRR.Ord Go.Proofs.YtmneemhplffemaaGreatDoorRR.Name Go.Proofs.YtmneemhplffemaaGreatDoorRR.Ext Go.Proofs.YtmneemhplffemaaGreatDoorRR.Wire Go.Proofs.YtmneemhplffemaaGreatDoorRR.Mem Go.Proofs.YtmneemhplffemaaGreatDoorRR.Put Go.Proofs.YtmneemhplffemaaGreatDoorRR.Law Go.Proofs.YtmneemhplffemaaGreatDoorRR.Row Go.Proofs.YtmneemhplffemaaGreatDoorRR.Ki Go.Proofs.YtmneemhplffemaaGreatDoorRR.Chk Go.Proofs.YtmneemhplffemaaGreatDoorRR.May Go.Proofs.YtmneemhplffemaaGreatDoorRRW.PrintWords
set_option linter.unusedVariables false
set_option linter.unusedSimpArgs false
theorem Pend.quiet {T : Nat} {W0 W W1 : World} {base g : Nat} {v0 v : Value} {bs : List Int} {B : Nat → Obj → Prop} (h : Pend T W0 W base g v0 v bs B) (hb : Below W.heap.size W W1) : Pend T W0 W1 base g v0 v bs B :=
  ⟨h.pen.below hb, h.mov.step hb, h.keep, fun k o hk => ⟨blk_below hb (h.box k o hk).1, (h.box k o hk).2⟩⟩
theorem R_pens {α : Type} {d : Kd α} {e T : Nat} {w w1 : World} {base b g : Nat} {u v : Value} {xs : List α} {bs : List Int} (h : d.R e w base (fun _ => True) u xs) (hp : Pen T w b g v bs) (ht : ∀ q, q ∈ e :: d.E → q ≠ T) (hu : ∀ q, q ∈ e :: d.E → q ≠ 5) (hm : Moved w w1 (pens g v)) : d.R e w1 base (fun _ => True) u xs := by
  have h1 := Kd.R_types h hp.blk ht
  cases hv : v.ownBlock with
  | none => exact Kd.R_mono (Kd.R_step h1 (fun k hk hl => hm.block k hl (fun hs => hs.elim hk.2 (fun h => by rw [hv] at h; cases h)))) (fun _ _ => trivial)
  | some j =>
    obtain ⟨cells, hc⟩ := own_typed hp.own j hv
    exact Kd.R_mono (Kd.R_step (Kd.R_types h1 hc hu) (fun k hk hl => hm.block k hl (fun hs => hs.elim hk.1.2 (fun h => hk.2 (by rw [hv] at h; exact (Option.some.inj h).symm))))) (fun _ _ => trivial)
theorem flat_len {x : Note} : ∀ {w : List Ltr}, (∀ l ∈ w, (encF l x).length ≤ 10000000) → (w.flatMap (fun l => encF l x)).length ≤ w.length * 10000000
  | [], _ => by simp
  | l :: w, h => by
    have h1 := h l List.mem_cons_self
    have h2 := flat_len (w := w) (fun l hl => h l (List.mem_cons_of_mem _ hl))
    rw [List.flatMap_cons, List.length_append, List.length_cons]
    omega
theorem enc_len {l : Ltr} {x : Note} (h : OkL l x) : (encF l x).length ≤ 10000000 := by
  have e0 := num_le x.f1.f0
  have e1 := num_le x.f1.f1
  have e2 := num_le x.f1.f2
  cases l
  case ln => exact Nat.le_trans (num_le _) (by omega)
  case ls => exact Nat.le_trans (num_le _) (by omega)
  case lc => exact Nat.le_trans (num_le _) (by omega)
  case lr => exact Nat.le_trans (num_le _) (by omega)
  case lt => exact Nat.le_trans (num_le _) (by omega)
  case lf => exact Nat.le_trans (num_le _) (by omega)
  case lm => exact Nat.le_trans (num_le _) (by omega)
  case le => exact Nat.le_trans (num_le _) (by omega)
  case lv => simp only [encF, List.length_append]; omega
  case la => have h1 := txt_le x.f15; have h2 : x.f15.size ≤ 262144 := h; simp only [encF]; omega
  case ly => have h1 := len_Reply x.f11 h; simp only [encF]; omega
  case uW => have h1 := list_le len_Watch h.2; have h2 := h.1; simp only [encF]; omega
  case lw => have h1 := list_le len_Watch h.2; have h2 := h.1; simp only [encF]; omega
  case ld => have h1 := list_le len_Watch h.2; have h2 := h.1; simp only [encF]; omega
  case uD => have h1 := list_le len_Watch h.2; have h2 := h.1; simp only [encF]; omega
  case lo => have h1 := list_le len_Op h.2; have h2 := h.1; simp only [encF]; omega
  case uE => have h1 := list_le len_Entry h.2; have h2 := h.1; simp only [encF]; omega
  case uI => have h1 := list_le len_Item (fun y hy => (h.2 y hy).ok); have h2 := h.1; simp only [encF]; omega
  case uP => have h1 := list_le len_Part h.2; have h2 := h.1; simp only [encF]; omega
set_option maxRecDepth 100000 in
set_option maxHeartbeats 8000000 in
theorem c_encodeP (w0 W : World) (x : Note) (cs : List Value) (hk : k34.K w0 x cs) (hb : Below w0.heap.size w0 W) (HE : EnvN w0) (hz : Sane x) :
    Calls Tryz.prog 21 #[.agg cs.toArray] W fun e W' => Below W.heap.size W W' ∧ (mCheck x = false → e = .returned (.tuple #[.slice none 0 0, .int .i64 30])) ∧ (mCheck x = true → ∃ v, e = .returned (.tuple #[v, .int .i64 0]) ∧ BRow W' W.heap.size v (encNote x)) := by
  have HK := Aside0.mk hk
  have HE := Aside0.mk HE
  have HZ := Aside0.mk hz
  have HA0 := Aside0.mk hb
  have HSZ := Aside0.mk (cs_size hk)
  have hn0 : cs.toArray[0]? = some (.int .i64 x.f0) := by
    obtain ⟨A11, c11, A12, c12, A16, c16, A17, c17, A18, c18, A19, c19, rfl, l11, g11, l12, g12, l16, g16, l17, g17, l18, g18, l19, g19⟩ := k34_open hk
    rfl
  clear hk hz hb
  go_enter Tryz.func21, Tryz.ntmps21
  go_upto_region 1 with ((with_reducible refine gate_box (t := 34) rfl ?_); refine box_row rfl rfl rfl ?_; intro gb hgb w1 hbx hb1; have HBX := Aside0.mk hbx; have HB1 := Aside0.mk hb1; have HGB := Aside0.mk hgb; clear hbx hb1 hgb)
  cases hm : mCheck x with
  | false =>
    go_wp2_with (first | ((with_reducible refine gate_load (t := 34) rfl ?_); refine load_row rfl rfl Tryz.underlying34 rfl HBX.out rfl HSZ.out ?_) | (go_at_call 17; have hch := c_checkP w0 _ x cs HK.out (below_step HA0.out HB1.out) HE.out HZ.out; rw [hm] at hch; (with_reducible refine hch.mono ?_); clear hch; rintro e w2 ⟨rfl, hb2⟩; have HB2 := Aside0.mk (below_step HB1.out hb2); have HG2 := Aside0.mk (blk_below hb2 HBX.out); clear hb2))
    go_ret2
    exact ⟨HB2.out, (fun _ => rfl), fun h => (by rw [hm] at h; cases h)⟩
  | true =>
    have hck := checked hm
    have HCK := Aside0.mk hck
    obtain ⟨k, hkx⟩ := Int.eq_ofNat_of_zero_le (show 0 ≤ x.f0 by have := hck.lo; omega)
    have HKX := Aside0.mk hkx
    have hk25 : k < 25 := by have := hck.hi; omega
    have hcr := hck.right
    clear hck hkx hcr
    go_upto_region 5 with (first | ((with_reducible refine gate_load (t := 34) rfl ?_); refine load_row rfl rfl Tryz.underlying34 rfl HBX.out rfl HSZ.out ?_) | (go_at_call 17; have hch := c_checkP w0 _ x cs HK.out (below_step HA0.out HB1.out) HE.out HZ.out; rw [hm] at hch; (with_reducible refine hch.mono ?_); clear hch; rintro e w2 ⟨rfl, hb2⟩; have HB2 := Aside0.mk (below_step HB1.out hb2); have HG2 := Aside0.mk (blk_below hb2 HBX.out); clear hb2))
    have n_0 := (blk_cell HG2.out 0).trans hn0
    rw [HKX.out] at n_0
    have hP0 : Pen 127 (w2.alloc (Obj.cells #[.slice none 0 0] 127 (0, 0))) w2.heap.size w2.heap.size (.slice none 0 0) [] := ⟨blk_alloc _, Kd.own_of_R (Kd.R_nil (Kd.int .u8) _ _ _ (fun _ => True)), Nat.le_refl _, by decide⟩
    have hbW := below_alloc (Below.refl w2.heap.size w2) (Obj.cells #[.slice none 0 0] 127 (0, 0))
    have HS0 : Aside0 (Pend 127 (w2.alloc (Obj.cells #[.slice none 0 0] 127 (0, 0))) (w2.alloc (Obj.cells #[.slice none 0 0] 127 (0, 0))) w2.heap.size w2.heap.size (.slice none 0 0) (.slice none 0 0) [] (fun j o => j = gb ∧ o = Obj.cells cs.toArray 34 (0, 0))) := ⟨⟨hP0, Moved.refl _ _, fun _ hs => .inl hs, fun j o h => by obtain ⟨rfl, rfl⟩ := h; exact ⟨blk_below hbW HG2.out, fun hs => by have h1 := hP0.base_le _ hs; have h2 := blk_lt HG2.out; omega⟩⟩⟩
    have HP0 := Aside0.mk hP0
    have HGL := Aside0.mk (blk_lt HG2.out)
    have HBW := Aside0.mk (below_step HB2.out hbW)
    have HAW := Aside0.mk (below_step HA0.out HBW.out)
    have HLE := Aside0.mk (Nat.le_trans HA0.out.size HB2.out.size)
    replace n_0 := pw_cell_below hbW n_0
    have e0 := num_le (k : Int)
    have HNK : isN (k : Int) := ⟨by omega, by omega⟩
    have hfd : ∀ (A : Option Addr) (n c : Nat) (b : Value) (w : World), (Instr.field 102 (.agg #[.slice A n c, b]) 0).run Tryz.prog w = .ok (.slice A n c) w := fun _ _ _ _ _ => rfl
    have hn0' := hn0
    clear hP0 hbW hn0
    go_upto_region 7 with (first | (go_at_call 61; (with_reducible refine (Pend.num HS0.out (k : Int) HNK (by decide)).mono ?_); rintro e w3 ⟨rfl, v3, hs3⟩; have HS3 := Aside0.mk hs3; have HA3 := Aside0.mk (hs3.above HP0.out HAW.out HLE.out); replace n_0 := ((blk_cell (hs3.box gb _ ⟨rfl, rfl⟩).1 0).trans hn0').trans (by rw [HKX.out]); clear hs3) | (go_at_call 41; (with_reducible refine (t_shape k hk25 _ (HE.out.at_ HA3.out)).mono ?_); rintro e w4 ⟨hb4, v, rfl, ho⟩; obtain ⟨mf, hmf⟩ : ∃ mf, mf = (if k = 13 then (.func (.func 90) #[] #[] : Value) else .nilFunc) := ⟨_, rfl⟩; rw [← hmf]; clear hmf; obtain ⟨A, c, rfl⟩ := Kd.R_slice ho; have HO4 := Aside0.mk ho; have HS4 := Aside0.mk (Pend.quiet HS3.out hb4); clear hb4 ho))
    have hwl : (word k).length ≤ 6 := word_len k hk25
    have HOKL : Aside0 (∀ l ∈ word k, OkL l x) := ⟨by have h := HCK.out.ok; rw [HKX.out, Int.toNat_natCast] at h; exact h⟩
    have HFL : Aside0 (∀ i, (((word k).take i).flatMap (fun l => encF l x)).length ≤ 60000000) := ⟨fun i => by
      have h := flat_len (x := x) (w := (word k).take i) (fun l hl => enc_len (HOKL.out l (List.mem_of_mem_take hl)))
      have h2 : ((word k).take i).length ≤ 6 := Nat.le_trans (List.length_take_le' _ _) hwl
      have h3 := Nat.mul_le_mul_right 10000000 h2
      omega⟩
    go_loopw [24] (fun vi wr => ∃ i : Nat, vi = .int .i64 i ∧ i ≤ (word k).length ∧ ∃ v' : Value, Aside0 (Pend 127 (w2.alloc (Obj.cells #[.slice none 0 0] 127 (0, 0))) wr w2.heap.size w2.heap.size (.slice none 0 0) v' (encNum (k : Int) ++ ((word k).take i).flatMap (fun l => encF l x)) (fun j o => j = gb ∧ o = Obj.cells cs.toArray 34 (0, 0))) ∧ Aside0 (kField.R 109 wr w3.heap.size (fun _ => True) (.slice A (word k).length c) (word k))) (fun vi _ => (word k).length - (intOf vi).toNat)
    case atStart => exact ⟨0, rfl, Nat.zero_le _, _, ⟨by simpa using HS4.out⟩, HO4⟩
    case round =>
      clear HS4 HO4
      obtain ⟨i, rfl, hi, v', HS, HO⟩ := hrel
      obtain ⟨wo, rfl⟩ : ∃ wo : World, wo = wr := ⟨_, rfl⟩
      by_cases hlt : i < (word k).length
      · obtain ⟨l, hl⟩ : ∃ l, (word k)[i]? = some l := ⟨_, List.getElem?_eq_getElem hlt⟩
        have HLT := Aside0.mk hl
        obtain ⟨q0, q1, q2, q3, q4, q5, hq⟩ := fCells_open l
        have HQ := Aside0.mk hq
        obtain ⟨ad, rfl, a_0, a_1, a_2, a_3, a_4, a_5⟩ := at_field (Kd.R_reads' HO.out).2.2 i l hl hq
        have hfl := HFL.out i
        clear hl hq
        go_wp2_with (first | ((with_reducible refine gate_store2 (t := 109) rfl ?_); refine store_row (old := #[.int .i64 0, .nilFunc, .nilFunc, .nilFunc, .nilFunc, .nilFunc]) (cs := #[q0, q1, q2, q3, q4, q5]) rfl rfl rfl (blk_alloc _) rfl rfl infoField rfl (q_one HQ.out) ?_; intro w5 hm5 hx5; have HF := Aside0.mk hx5; have HS5 := Aside0.mk (Pend.quiet HS.out (Moved.above_ hm5 (Nat.le_refl _))); have HO5 := Aside0.mk (Kd.R_below HO.out (Moved.above_ hm5 (Nat.le_refl _))); clear hm5 hx5 a_0 a_1 a_2 a_3 a_4 a_5) | ((with_reducible refine gate_load (t := 109) rfl ?_); refine load_row rfl rfl Tryz.underlying109 rfl HF.out rfl infoField ?_) | (go_at_call 62; have hwi := c_write l w0 _ gb w2.heap.size x cs HK.out (HS5.out.above HP0.out HAW.out HLE.out) (HS5.out.box gb _ ⟨rfl, rfl⟩).1 (HOKL.out l (List.mem_of_getElem? HLT.out)) w2.heap.size v' _ HLE.out HGL.out HS5.out.pen (by simp only [List.length_append]; omega); rw [HQ.out] at hwi; (with_reducible refine hwi.mono ?_); clear hwi; rintro e w7 ⟨rfl, hw7⟩; have HO7 := Aside0.mk (R_pens HO5.out HS5.out.pen (by decide) (by decide) hw7.choose_spec.2.1); obtain ⟨v7, hs7⟩ := HS5.out.step hw7; have HS7 := Aside0.mk hs7; clear hw7 hs7))
        go_roundw
        case rel => exact ⟨i + 1, by go_num, by omega, v7, ⟨by rw [List.take_add_one, HLT.out]; simpa using HS7.out⟩, HO7⟩
        case measure => simp [intOf]; omega
      · have htk : (word k).take i = word k := List.take_of_length_le (by omega)
        rw [htk] at HS
        have hcell := HS.out.pen.cell
        clear htk
        go_wp2_with fail
        go_ret2
        refine ⟨HS.out.mov.above HBW.out (fun j hs => Nat.le_trans HB2.out.size (HP0.out.base_le j hs)), (fun h => (by rw [hm] at h; cases h)), fun _ => ⟨v', rfl, ?_⟩⟩
        have hr := Kd.R_lower (d := Kd.int .u8) (ok := fun _ => True) (Kd.R_of_own HS.out.pen.own (fun _ _ => trivial)) HB2.out.size
        unfold encNote
        rw [HKX.out, Int.toNat_natCast]
        exact hr
end Go.Proofs.YtmneemhplffemaaGreatDoorRR.Tab
namespace Go.Proofs.YtmneemhplffemaaGreatDoorRR.Same
open Go.RowKit Go.Proofs.YtmneemhplffemaaGreatDoorRR.Ext Go.Proofs.YtmneemhplffemaaGreatDoorRR.Wire Go.Proofs.YtmneemhplffemaaGreatDoorRR.Mem Go.Proofs.YtmneemhplffemaaGreatDoorRR.Put Go.Proofs.YtmneemhplffemaaGreatDoorRR.Get Go.Proofs.YtmneemhplffemaaGreatDoorRR.Law Go.Proofs.YtmneemhplffemaaGreatDoorRR.Ki Go.Proofs.YtmneemhplffemaaGreatDoorRRW.PrintWords
set_option linter.unusedVariables false
theorem drewn {B : Nat} {a w : World} (h : Below B a w) (q : Nat) : Below B a (w.drewN q) := ⟨h.os, h.tape, h.output, h.size, h.block⟩
theorem same_upto {xs ys : List Int} {k : Nat} (h : ∀ j, j < k → xs[j]? = ys[j]?) {x y : Int} (hx : xs[k]? = some x) (hy : ys[k]? = some y) (he : x = y) : ∀ j, j < k + 1 → xs[j]? = ys[j]? := by
  intro j hj
  rcases Nat.lt_or_ge j k with h1 | h1
  · exact h j h1
  · obtain rfl : j = k := by omega
    rw [hx, hy, he]
theorem same_all {xs ys : List Int} {k : Nat} (h : ∀ j, j < k → xs[j]? = ys[j]?) (hl : xs.length = ys.length) (hk : xs.length ≤ k) : xs = ys := by
  refine List.ext_getElem? (fun j => ?_)
  rcases Nat.lt_or_ge j k with h1 | h1
  · exact h j h1
  · rw [List.getElem?_eq_none (by omega), List.getElem?_eq_none (by omega)]
set_option maxRecDepth 100000 in
set_option maxHeartbeats 1000000 in
theorem c_bytes (W : World) (A B : Option Addr) (c d : Nat) (xs ys : List Int) (hA : (Kd.int .u8).C W A xs.length xs) (hB : (Kd.int .u8).C W B ys.length ys) :
    Calls Tryz.prog 23 #[.slice A xs.length c, .slice B ys.length d] W fun e W' => e = .returned (.bool (decide (xs = ys))) ∧ Below W.heap.size W W' := by
  have HA := Aside0.mk hA
  have HB := Aside0.mk hB
  have hm : xs.length ≤ 9223372036854775807 := hA.2.1
  have hm2 : ys.length ≤ 9223372036854775807 := hB.2.1
  clear hA hB
  go_enter Tryz.func23, Tryz.ntmps23
  by_cases hl : xs.length = ys.length
  · have HL := Aside0.mk hl
    have h0 : ((xs.length : Int) != (ys.length : Int)) = false := by simp [hl]
    have h0' : ((xs.length : Int) == (ys.length : Int)) = true := by simp [hl]
    clear hl
    go_wp2_with fail
    go_loopw [5] (fun v W1 => ∃ k : Nat, v = .int .i64 k ∧ k ≤ xs.length ∧ Aside0 (∀ j, j < k → xs[j]? = ys[j]?) ∧ Aside0 (Below W.heap.size W W1)) (fun v _ => xs.length - (intOf v).toNat)
    case atStart => exact ⟨0, rfl, Nat.zero_le _, ⟨fun j hj => by omega⟩, ⟨Below.refl _ _⟩⟩
    case round =>
      obtain ⟨k, rfl, hk, HS, HBW⟩ := hrel
      by_cases hlt : k < xs.length
      · have hl2 := HL.out
        obtain ⟨x, hx⟩ : ∃ x, xs[k]? = some x := ⟨_, List.getElem?_eq_getElem hlt⟩
        obtain ⟨y, hy⟩ : ∃ y, ys[k]? = some y := ⟨_, List.getElem?_eq_getElem (by omega)⟩
        obtain ⟨ad, rfl, a0⟩ := Kd.at_int (Kd.C_below HA.out HBW.out) (k : Int) (by omega) (by omega)
        obtain ⟨bd, rfl, b0⟩ := Kd.at_int (Kd.C_below HB.out HBW.out) (k : Int) (by omega) (by omega)
        rw [show rd xs (k : Int) = x by unfold rd; rw [Int.toNat_natCast, List.getD_eq_getElem?_getD, hx]; rfl, Int.toNat_natCast] at a0
        rw [show rd ys (k : Int) = y by unfold rd; rw [Int.toNat_natCast, List.getD_eq_getElem?_getD, hy]; rfl, Int.toNat_natCast] at b0
        have HX := Aside0.mk hx
        have HY := Aside0.mk hy
        have hky : k < ys.length := by omega
        clear hx hy hl2
        cases h1 : (x == y) with
        | true =>
          have h2 : (x != y) = false := by simp [bne, h1]
          have HE := Aside0.mk (eq_of_beq h1)
          go_wp2_with (go_quiet (fail))
          go_roundw
          case rel => exact ⟨k + 1, by go_num, by omega, ⟨same_upto HS.out HX.out HY.out HE.out⟩, ⟨drewn HBW.out nq⟩⟩
          case measure => simp [intOf]; omega
        | false =>
          have h2 : (x != y) = true := by simp [bne, h1]
          have HE := Aside0.mk (show xs ≠ ys from fun he => by have h3 := HX.out; rw [he, HY.out] at h3; have h4 := Option.some.inj h3; rw [h4] at h1; simp at h1)
          go_wp2_with (go_quiet (fail))
          go_ret
          exact ⟨by rw [decide_eq_false HE.out]; rfl, drewn HBW.out nq⟩
      · go_wp2_with fail
        go_ret
        exact ⟨by rw [decide_eq_true (same_all HS.out HL.out (by omega))]; rfl, HBW.out⟩
  · have HE := Aside0.mk (show xs ≠ ys from fun he => hl (by rw [he]))
    have h0 : ((xs.length : Int) != (ys.length : Int)) = true := by simp; omega
    have h0' : ((xs.length : Int) == (ys.length : Int)) = false := by simp; omega
    go_wp2_with fail
    go_ret
    exact ⟨by rw [decide_eq_false HE.out]; rfl, Below.refl _ _⟩
end Go.Proofs.YtmneemhplffemaaGreatDoorRR.Same
