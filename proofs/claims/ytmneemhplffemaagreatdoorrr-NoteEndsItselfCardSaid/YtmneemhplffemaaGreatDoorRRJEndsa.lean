/- NoteEndsItself: no beginning of a note's bytes is a note, nor are these with others behind them. No condition beyond the row's own. -/
import Derived.ArgAppend
import Derived.Below
import Derived.BigQuiet
import Derived.ChangeOld
import Derived.ChangeSlices
import Derived.Deep.AppendLies
import Derived.Deep.CutBlock
import Derived.Deep.DeepCutAuto
import Derived.Deep.DeepHandedRow
import Derived.Deep.Draws
import Derived.Deep.LoopGhost
import Derived.Deep.OwnRows
import Derived.Deep.QuietTactic
import Derived.Deep.RegionHeld3
import Derived.Deep.RegionLaw
import Derived.Deep.RegionLawGrows
import Derived.Deep.Slices
import Derived.Deep.WholeRow
import Derived.Defers
import Derived.HandedShaped
import Derived.KernelRfl
import Derived.Laws.BitsLemmas
import Derived.Laws.BytesArg
import Derived.Laws.EntriesVeiled
import Derived.Laws.IdiomCopy
import Derived.Laws.MakeOwn
import Derived.Laws.OwnMore
import Derived.Laws.Rows
import Derived.Laws.Slices
import Derived.Laws.StructEq
import Derived.Laws.Tables
import Derived.Lib.AppendStr
import Derived.Lib.ConvBytes
import Derived.Lib.Hide
import Derived.Lib.Join
import Derived.Lib.LaidTab
import Derived.Lib.SplitLaws
import Derived.LoopTactic
import Derived.Maps.AppendAt
import Derived.OpenShut
import Derived.OrdersHeld
import Derived.Outline
import Derived.OwnWalk
import Derived.ProofKit
import Derived.Recover
import Derived.RowKit
import Derived.RowKit3
import Derived.Shelf.LaysM
import Derived.Shelf.Strings.Count
import Derived.Shelf.Strings.Explode
import Derived.Shelf.Strings.Prefix
import Derived.Shelf.Strings.RuneCount
import Derived.Shelf.Strings.Search1
import Derived.Shelf.Strings.Search2
import Derived.Shelf.Strings.Search3
import Derived.Shelf.Strings.Shaped
import Derived.Shelf.Strings.Split
import Derived.Shelf.Strings.SplitShaped
import Derived.Shelf.Unicode.Decode
import Derived.Shelf.Unicode.DecodeAny
import Derived.Shelf.Unicode.DecodeSlow
import Derived.Shelf.Utf8.RuneCount
import Derived.Shelf.Vars
import Derived.ShutString
import Derived.SizedLaws
import Derived.StillTailTactics
import Derived.Tactics
import Derived.Test.YtmneemhplffemaaGreatDoorRRCards
import Derived.Test.YtmneemhplffemaaGreatDoorRRProg
import Derived.Test.YtmneemhplffemaaGreatDoorRRTie
import Derived.WalkKit
import Derived.WalkLawsBesides
import Derived.WideLaws
import Derived.Test.YtmneemhplffemaaGreatDoorRRJBf
set_option linter.unusedVariables false
set_option linter.unusedSimpArgs false
namespace Go.Proofs.YtmneemhplffemaaGreatDoorRR.Same
open Go.RowKit Go.Proofs.YtmneemhplffemaaGreatDoorRR.Row Go.Proofs.YtmneemhplffemaaGreatDoorRR.Ord Go.Proofs.YtmneemhplffemaaGreatDoorRR.Name Go.Proofs.YtmneemhplffemaaGreatDoorRR.Chk Go.Proofs.YtmneemhplffemaaGreatDoorRR.May Go.Proofs.YtmneemhplffemaaGreatDoorRR.Ext Go.Proofs.YtmneemhplffemaaGreatDoorRR.Wire Go.Proofs.YtmneemhplffemaaGreatDoorRR.Mem Go.Proofs.YtmneemhplffemaaGreatDoorRR.Put Go.Proofs.YtmneemhplffemaaGreatDoorRR.Get Go.Proofs.YtmneemhplffemaaGreatDoorRR.Law Go.Proofs.YtmneemhplffemaaGreatDoorRR.Ki Go.Proofs.YtmneemhplffemaaGreatDoorRR.Tab Go.Proofs.YtmneemhplffemaaGreatDoorRR.Arg Go.Proofs.YtmneemhplffemaaGreatDoorRRW.PrintWords
set_option linter.unusedVariables false
set_option linter.unusedSimpArgs false
theorem wf64 {v : Int} (h : (Lit.int .i64 v).wf = true) : -9223372036854775808 ≤ v ∧ v ≤ 9223372036854775807 := by
  have e1 : IntKind.i64.min = -9223372036854775808 := by kernel_rfl
  have e2 : IntKind.i64.max = 9223372036854775807 := by kernel_rfl
  simp [Lit.wf, e1, e2] at h
  omega
set_option maxRecDepth 100000 in
set_option maxHeartbeats 8000000 in
theorem c_ends (W : World) (x : Note) (cs : List Value) (cut : Int) (A : Option Addr) (c : Nat) (ys : List Int) (hK : k34.K W x cs) (hO : OkNote x) (hw : (Lit.int .i64 cut).wf = true) (hC : (Kd.int .u8).C W A ys.length ys) (hB : Bytes ys) (hc : ys.length ≤ c) (HE : EnvN W) :
    Calls Tryz.prog 8 #[.agg cs.toArray, .int .i64 cut, .slice A ys.length c] W fun e W' => e = .returned (.bool true) ∧ Below W.heap.size W W' := by
  have HE := Aside0.mk HE
  have HK := Aside0.mk hK
  have HSZ := Aside0.mk (cs_size hK)
  have HSA := Aside0.mk (ok_sane hO)
  have HC := Aside0.mk hC
  have HY := Aside0.mk hB
  have HCC := Aside0.mk hc
  have hm : ys.length ≤ 9223372036854775807 := hC.2.1
  obtain ⟨hw1, hw2⟩ := wf64 hw
  have HW1 := Aside0.mk hw1
  have HW2 := Aside0.mk hw2
  clear hC hB hc hK hO hw hw1 hw2
  go_enter Tryz.func8, Tryz.ntmps8
  go_upto_region 4 with (first | ((with_reducible refine gate_box (t := 34) rfl ?_); refine box_row rfl rfl rfl ?_; intro gb hgb w1 hbx hb1; have HX1 := Aside0.mk hbx; have HB1 := Aside0.mk hb1; clear hbx hb1 hgb) | (go_at_call 15; (with_reducible refine (c_begins _ (HE.out.at_ HB1.out)).mono ?_); rintro e w2 ⟨rfl, hb2⟩; have HX2 := Aside0.mk (blk_below hb2 HX1.out); have HB2 := Aside0.mk (below_step HB1.out hb2); clear hb2))
  cases hmc : mCheck x with
  | false =>
    have HMC := Aside0.mk hmc
    clear hmc
    go_wp2_with (first | ((with_reducible refine gate_load (t := 34) rfl ?_); refine load_row rfl rfl Tryz.underlying34 rfl HX2.out rfl HSZ.out ?_) | (go_at_call 21; (with_reducible refine (c_encodeP W w2 x cs HK.out HB2.out HE.out HSA.out).mono ?_); rintro e w3 ⟨hb3, hno, _⟩; obtain rfl := hno HMC.out; have HB3 := Aside0.mk (below_step HB2.out hb3); clear hno hb3))
    go_ret
    exact ⟨rfl, HB3.out⟩
  | true =>
    have HMC := Aside0.mk hmc
    have hfn := fine_note hmc
    have hno := fun k (hk : k < (encNote x).length) => no_cut hmc hk
    have hmo := fun (zs : List Int) (hz : zs ≠ []) => no_more hmc hz
    have hps := note_pos x
    obtain ⟨bs, hbs⟩ : ∃ bs, encNote x = bs := ⟨_, rfl⟩
    have HBS := Aside0.mk hbs
    rw [hbs] at hfn hno hmo hps
    have HFN := Aside0.mk hfn
    have HNO := Aside0.mk hno
    have HMO := Aside0.mk hmo
    have HLB := Aside0.mk hfn.1
    clear hmc hfn hno hmo hbs
    go_upto_region 5 with (first | ((with_reducible refine gate_load (t := 34) rfl ?_); refine load_row rfl rfl Tryz.underlying34 rfl HX2.out rfl HSZ.out ?_) | (go_at_call 21; (with_reducible refine (c_encodeP W w2 x cs HK.out HB2.out HE.out HSA.out).mono ?_); rintro e w3 ⟨hb3, _, hok⟩; obtain ⟨v, rfl, hv⟩ := hok HMC.out; rw [HBS.out] at hv; obtain ⟨B, d, rfl⟩ := Kd.R_slice hv; have HV3 := Aside0.mk (Kd.R_reads' hv).2.2; have HD3 := Aside0.mk (Kd.R_reads' hv).2.1; have HB3 := Aside0.mk (below_step HB2.out hb3); clear hok hb3 hv))
    cases h1 : decide ((1000 : Int) < ys.length) with
    | true =>
      have h1_0 : decide ((ys.length : Int) > 1000) = true := h1
      go_wp2_with fail
      go_ret
      exact ⟨rfl, HB3.out⟩
    | false =>
      have h1_0 : decide ((ys.length : Int) > 1000) = false := h1
      have h0_0 : ((bs.length : Int) == 0) = false := by simp only [beq_eq_false_iff_ne, ne_eq]; omega
      go_upto_region 9 with fail
      have hcut : Aside0 True := ⟨trivial⟩
      cases h2 : decide (cut < 0) with
      | true =>
        have e1 : wrap64 (cut + 1) = cut + 1 := by have := HW1.out; have := of_decide_eq_true h2; unfold wrap64; omega
        have e2 : wrap64 (-(cut + 1)) = -(cut + 1) := by have := HW1.out; have := of_decide_eq_true h2; unfold wrap64; omega
        obtain ⟨m, hmm⟩ := Int.eq_ofNat_of_zero_le (show 0 ≤ -(cut + 1) by have := of_decide_eq_true h2; omega)
        rw [hmm] at e2
        have hk0 : m % bs.length < bs.length := Nat.mod_lt _ hps
        obtain ⟨k, hk⟩ : ∃ k, m % bs.length = k := ⟨_, rfl⟩
        rw [hk] at hk0
        have e3 : Int.tmod (m : Int) (bs.length : Int) = (k : Int) := by rw [← hk]; exact (Int.ofNat_tmod m bs.length).symm
        go_upto_region 12 with fail
        have hlk : (bs.take k).length = k := by rw [List.length_take]; omega
        have hkd : k ≤ d := by have := HD3.out; omega
        have HLK := Aside0.mk hlk
        have hed := c_decodeP w3 w3 B d (bs.take k) ⟨Kd.C_take HV3.out (by omega), fun b hb => HFN.out.2 b (List.mem_of_mem_take hb), by omega, by have := HLB.out; omega⟩ (Below.refl _ _) (HE.out.at_ HB3.out)
        rw [hlk] at hed
        have HED := Aside0.mk hed
        have HNK := Aside0.mk (HNO.out k hk0)
        clear hed hlk hk
        go_upto_region 15 with (first | (go_at_call 24; (with_reducible refine HED.out.mono ?_); rintro e w4 ⟨hb4, _, _, hz⟩; obtain rfl := hz (by have := HLK.out; have := HLB.out; omega) HNK.out; have HB4 := Aside0.mk (below_step HB3.out hb4); have HV4 := Aside0.mk (Kd.C_below HV3.out hb4); clear hz hb4) | ((with_reducible refine gate_store2 (t := 34) rfl ?_); refine store_row (old := zeroCells.toArray) (cs := zeroCells.toArray) rfl rfl rfl (Mem.blk_alloc _) rfl rfl zero_size rfl zero_one ?_; intro w5 hm hx; have HB5 := Aside0.mk (below_step HB4.out (Moved.above_ hm (Nat.le_refl _))); have HV5 := Aside0.mk (Kd.C_below HV4.out (Moved.above_ hm (Nat.le_refl _))); clear hm hx))
        by_cases hy0 : ys = []
        · have h3_0 : ((ys.length : Int) == 0) = true := by rw [hy0]; rfl
          go_wp2_with fail
          go_ret
          exact ⟨rfl, HB5.out⟩
        · have hy1 : 1 ≤ ys.length := by
            rcases Nat.eq_zero_or_pos ys.length with h | h
            · exact absurd (List.eq_nil_of_length_eq_zero h) hy0
            · exact h
          have h3_0 : ((ys.length : Int) == 0) = false := by simp only [beq_eq_false_iff_ne, ne_eq]; omega
          have hyl := of_decide_eq_false h1
          have HYL := Aside0.mk (show ys.length ≤ 1000 by omega)
          have HMN := Aside0.mk (HMO.out ys hy0)
          clear hy0 hyl
          by_cases hbig : 262144 < bs.length + ys.length
          · have HBIG := Aside0.mk hbig
            go_wp2_with (first | ((with_reducible refine gate_builtin (b := .append) (xs := #[.tmp 54, .tmp 55]) rfl ?_); at_builtin; refine Kd.R_append_row (Value.int .u8) 0 (w0 := W) W.heap.size rfl (.tmp 54) (.tmp 55) 41 5 (.int .u8 0) 1 rfl Tryz.underlying41 info5 rfl (by decide) (.slice none 0 0) [] bs B _ d (fun _ => True) rfl rfl (fun _ _ => trivial) (Kd.R_nil _ _ _ _ _) (HV5.out) HB5.out (below_size HB5.out) (by have := HLB.out; have := HYL.out; simp; omega) ?_; intro v1 w6 ho hb _ _; rw [List.nil_append] at ho; obtain ⟨B1, d1, rfl⟩ := Kd.R_slice ho; have HO6 := Aside0.mk ho; have HB6 := Aside0.mk hb; clear ho hb) | ((with_reducible refine gate_builtin (b := .append) (xs := #[.tmp 57, .tmp 58]) rfl ?_); at_builtin; refine Kd.R_append_row (Value.int .u8) 0 (w0 := W) W.heap.size rfl (.tmp 57) (.tmp 58) 41 5 (.int .u8 0) 1 rfl Tryz.underlying41 info5 rfl (by decide) (.slice B1 bs.length d1) bs ys A _ c (fun _ => True) rfl rfl (fun _ _ => trivial) (HO6.out) (Kd.C_below HC.out HB6.out) HB6.out (below_size HB6.out) (by have := HLB.out; have := HYL.out; simp; omega) ?_; intro v1 w7 ho hb _ _; obtain ⟨zs, hzs⟩ : ∃ zs, zs = bs ++ ys := ⟨_, rfl⟩; rw [← hzs] at ho; have HZL := Aside0.mk (show zs.length = bs.length + ys.length by rw [hzs, List.length_append]); have HZN := Aside0.mk (show dNote zs = none by rw [hzs]; exact HMN.out); have HZB := Aside0.mk (show Bytes zs by rw [hzs]; intro b hb; rcases List.mem_append.1 hb with h | h; exact HFN.out.2 b h; exact HY.out b h); clear hzs; obtain ⟨B2, d2, rfl⟩ := Kd.R_slice ho; have HO7 := Aside0.mk ho; have HB7 := Aside0.mk hb; clear ho hb) | (go_at_call 24; have hed := c_decodeP w7 w7 B2 d2 zs ⟨(Kd.R_reads' HO7.out).2.2, HZB.out, (Kd.R_reads' HO7.out).2.1, by have := HZL.out; have := HLB.out; have := HYL.out; omega⟩ (Below.refl _ _) (HE.out.at_ HB7.out); (with_reducible refine hed.mono ?_); clear hed; rintro e w8 ⟨hb8, hz, _, _⟩; obtain rfl := hz (by have := HZL.out; have := HBIG.out; omega); have HB8 := Aside0.mk (below_step HB7.out hb8); clear hz hb8) | ((with_reducible refine gate_store2 (t := 34) rfl ?_); refine store_row (old := zeroCells.toArray) (cs := zeroCells.toArray) rfl rfl rfl (Mem.blk_alloc _) rfl rfl zero_size rfl zero_one ?_; intro w9 hm hx; have HB9 := Aside0.mk (below_step HB8.out (Moved.above_ hm (Nat.le_refl _))); clear hm hx))
            go_ret
            exact ⟨rfl, HB9.out⟩
          · have HBIG := Aside0.mk hbig
            go_wp2_with (first | ((with_reducible refine gate_builtin (b := .append) (xs := #[.tmp 54, .tmp 55]) rfl ?_); at_builtin; refine Kd.R_append_row (Value.int .u8) 0 (w0 := W) W.heap.size rfl (.tmp 54) (.tmp 55) 41 5 (.int .u8 0) 1 rfl Tryz.underlying41 info5 rfl (by decide) (.slice none 0 0) [] bs B _ d (fun _ => True) rfl rfl (fun _ _ => trivial) (Kd.R_nil _ _ _ _ _) (HV5.out) HB5.out (below_size HB5.out) (by have := HLB.out; have := HYL.out; simp; omega) ?_; intro v1 w6 ho hb _ _; rw [List.nil_append] at ho; obtain ⟨B1, d1, rfl⟩ := Kd.R_slice ho; have HO6 := Aside0.mk ho; have HB6 := Aside0.mk hb; clear ho hb) | ((with_reducible refine gate_builtin (b := .append) (xs := #[.tmp 57, .tmp 58]) rfl ?_); at_builtin; refine Kd.R_append_row (Value.int .u8) 0 (w0 := W) W.heap.size rfl (.tmp 57) (.tmp 58) 41 5 (.int .u8 0) 1 rfl Tryz.underlying41 info5 rfl (by decide) (.slice B1 bs.length d1) bs ys A _ c (fun _ => True) rfl rfl (fun _ _ => trivial) (HO6.out) (Kd.C_below HC.out HB6.out) HB6.out (below_size HB6.out) (by have := HLB.out; have := HYL.out; simp; omega) ?_; intro v1 w7 ho hb _ _; obtain ⟨zs, hzs⟩ : ∃ zs, zs = bs ++ ys := ⟨_, rfl⟩; rw [← hzs] at ho; have HZL := Aside0.mk (show zs.length = bs.length + ys.length by rw [hzs, List.length_append]); have HZN := Aside0.mk (show dNote zs = none by rw [hzs]; exact HMN.out); have HZB := Aside0.mk (show Bytes zs by rw [hzs]; intro b hb; rcases List.mem_append.1 hb with h | h; exact HFN.out.2 b h; exact HY.out b h); clear hzs; obtain ⟨B2, d2, rfl⟩ := Kd.R_slice ho; have HO7 := Aside0.mk ho; have HB7 := Aside0.mk hb; clear ho hb) | (go_at_call 24; have hed := c_decodeP w7 w7 B2 d2 zs ⟨(Kd.R_reads' HO7.out).2.2, HZB.out, (Kd.R_reads' HO7.out).2.1, by have := HZL.out; have := HLB.out; have := HYL.out; omega⟩ (Below.refl _ _) (HE.out.at_ HB7.out); (with_reducible refine hed.mono ?_); clear hed; rintro e w8 ⟨hb8, _, _, hz⟩; obtain rfl := hz (by have := HZL.out; have := HBIG.out; omega) (fun y hy => by rw [HZN.out] at hy; cases hy); have HB8 := Aside0.mk (below_step HB7.out hb8); clear hz hb8) | ((with_reducible refine gate_store2 (t := 34) rfl ?_); refine store_row (old := zeroCells.toArray) (cs := zeroCells.toArray) rfl rfl rfl (Mem.blk_alloc _) rfl rfl zero_size rfl zero_one ?_; intro w9 hm hx; have HB9 := Aside0.mk (below_step HB8.out (Moved.above_ hm (Nat.le_refl _))); clear hm hx))
            go_ret
            exact ⟨rfl, HB9.out⟩
      | false =>
        obtain ⟨m, rfl⟩ := Int.eq_ofNat_of_zero_le (show 0 ≤ cut by have := of_decide_eq_false h2; omega)
        have hk0 : m % bs.length < bs.length := Nat.mod_lt _ hps
        obtain ⟨k, hk⟩ : ∃ k, m % bs.length = k := ⟨_, rfl⟩
        rw [hk] at hk0
        have e3 : Int.tmod (m : Int) (bs.length : Int) = (k : Int) := by rw [← hk]; exact (Int.ofNat_tmod m bs.length).symm
        go_upto_region 12 with fail
        have hlk : (bs.take k).length = k := by rw [List.length_take]; omega
        have hkd : k ≤ d := by have := HD3.out; omega
        have HLK := Aside0.mk hlk
        have hed := c_decodeP w3 w3 B d (bs.take k) ⟨Kd.C_take HV3.out (by omega), fun b hb => HFN.out.2 b (List.mem_of_mem_take hb), by omega, by have := HLB.out; omega⟩ (Below.refl _ _) (HE.out.at_ HB3.out)
        rw [hlk] at hed
        have HED := Aside0.mk hed
        have HNK := Aside0.mk (HNO.out k hk0)
        clear hed hlk hk
        go_upto_region 15 with (first | (go_at_call 24; (with_reducible refine HED.out.mono ?_); rintro e w4 ⟨hb4, _, _, hz⟩; obtain rfl := hz (by have := HLK.out; have := HLB.out; omega) HNK.out; have HB4 := Aside0.mk (below_step HB3.out hb4); have HV4 := Aside0.mk (Kd.C_below HV3.out hb4); clear hz hb4) | ((with_reducible refine gate_store2 (t := 34) rfl ?_); refine store_row (old := zeroCells.toArray) (cs := zeroCells.toArray) rfl rfl rfl (Mem.blk_alloc _) rfl rfl zero_size rfl zero_one ?_; intro w5 hm hx; have HB5 := Aside0.mk (below_step HB4.out (Moved.above_ hm (Nat.le_refl _))); have HV5 := Aside0.mk (Kd.C_below HV4.out (Moved.above_ hm (Nat.le_refl _))); clear hm hx))
        by_cases hy0 : ys = []
        · have h3_0 : ((ys.length : Int) == 0) = true := by rw [hy0]; rfl
          go_wp2_with fail
          go_ret
          exact ⟨rfl, HB5.out⟩
        · have hy1 : 1 ≤ ys.length := by
            rcases Nat.eq_zero_or_pos ys.length with h | h
            · exact absurd (List.eq_nil_of_length_eq_zero h) hy0
            · exact h
          have h3_0 : ((ys.length : Int) == 0) = false := by simp only [beq_eq_false_iff_ne, ne_eq]; omega
          have hyl := of_decide_eq_false h1
          have HYL := Aside0.mk (show ys.length ≤ 1000 by omega)
          have HMN := Aside0.mk (HMO.out ys hy0)
          clear hy0 hyl
          by_cases hbig : 262144 < bs.length + ys.length
          · have HBIG := Aside0.mk hbig
            go_wp2_with (first | ((with_reducible refine gate_builtin (b := .append) (xs := #[.tmp 54, .tmp 55]) rfl ?_); at_builtin; refine Kd.R_append_row (Value.int .u8) 0 (w0 := W) W.heap.size rfl (.tmp 54) (.tmp 55) 41 5 (.int .u8 0) 1 rfl Tryz.underlying41 info5 rfl (by decide) (.slice none 0 0) [] bs B _ d (fun _ => True) rfl rfl (fun _ _ => trivial) (Kd.R_nil _ _ _ _ _) (HV5.out) HB5.out (below_size HB5.out) (by have := HLB.out; have := HYL.out; simp; omega) ?_; intro v1 w6 ho hb _ _; rw [List.nil_append] at ho; obtain ⟨B1, d1, rfl⟩ := Kd.R_slice ho; have HO6 := Aside0.mk ho; have HB6 := Aside0.mk hb; clear ho hb) | ((with_reducible refine gate_builtin (b := .append) (xs := #[.tmp 57, .tmp 58]) rfl ?_); at_builtin; refine Kd.R_append_row (Value.int .u8) 0 (w0 := W) W.heap.size rfl (.tmp 57) (.tmp 58) 41 5 (.int .u8 0) 1 rfl Tryz.underlying41 info5 rfl (by decide) (.slice B1 bs.length d1) bs ys A _ c (fun _ => True) rfl rfl (fun _ _ => trivial) (HO6.out) (Kd.C_below HC.out HB6.out) HB6.out (below_size HB6.out) (by have := HLB.out; have := HYL.out; simp; omega) ?_; intro v1 w7 ho hb _ _; obtain ⟨zs, hzs⟩ : ∃ zs, zs = bs ++ ys := ⟨_, rfl⟩; rw [← hzs] at ho; have HZL := Aside0.mk (show zs.length = bs.length + ys.length by rw [hzs, List.length_append]); have HZN := Aside0.mk (show dNote zs = none by rw [hzs]; exact HMN.out); have HZB := Aside0.mk (show Bytes zs by rw [hzs]; intro b hb; rcases List.mem_append.1 hb with h | h; exact HFN.out.2 b h; exact HY.out b h); clear hzs; obtain ⟨B2, d2, rfl⟩ := Kd.R_slice ho; have HO7 := Aside0.mk ho; have HB7 := Aside0.mk hb; clear ho hb) | (go_at_call 24; have hed := c_decodeP w7 w7 B2 d2 zs ⟨(Kd.R_reads' HO7.out).2.2, HZB.out, (Kd.R_reads' HO7.out).2.1, by have := HZL.out; have := HLB.out; have := HYL.out; omega⟩ (Below.refl _ _) (HE.out.at_ HB7.out); (with_reducible refine hed.mono ?_); clear hed; rintro e w8 ⟨hb8, hz, _, _⟩; obtain rfl := hz (by have := HZL.out; have := HBIG.out; omega); have HB8 := Aside0.mk (below_step HB7.out hb8); clear hz hb8) | ((with_reducible refine gate_store2 (t := 34) rfl ?_); refine store_row (old := zeroCells.toArray) (cs := zeroCells.toArray) rfl rfl rfl (Mem.blk_alloc _) rfl rfl zero_size rfl zero_one ?_; intro w9 hm hx; have HB9 := Aside0.mk (below_step HB8.out (Moved.above_ hm (Nat.le_refl _))); clear hm hx))
            go_ret
            exact ⟨rfl, HB9.out⟩
          · have HBIG := Aside0.mk hbig
            go_wp2_with (first | ((with_reducible refine gate_builtin (b := .append) (xs := #[.tmp 54, .tmp 55]) rfl ?_); at_builtin; refine Kd.R_append_row (Value.int .u8) 0 (w0 := W) W.heap.size rfl (.tmp 54) (.tmp 55) 41 5 (.int .u8 0) 1 rfl Tryz.underlying41 info5 rfl (by decide) (.slice none 0 0) [] bs B _ d (fun _ => True) rfl rfl (fun _ _ => trivial) (Kd.R_nil _ _ _ _ _) (HV5.out) HB5.out (below_size HB5.out) (by have := HLB.out; have := HYL.out; simp; omega) ?_; intro v1 w6 ho hb _ _; rw [List.nil_append] at ho; obtain ⟨B1, d1, rfl⟩ := Kd.R_slice ho; have HO6 := Aside0.mk ho; have HB6 := Aside0.mk hb; clear ho hb) | ((with_reducible refine gate_builtin (b := .append) (xs := #[.tmp 57, .tmp 58]) rfl ?_); at_builtin; refine Kd.R_append_row (Value.int .u8) 0 (w0 := W) W.heap.size rfl (.tmp 57) (.tmp 58) 41 5 (.int .u8 0) 1 rfl Tryz.underlying41 info5 rfl (by decide) (.slice B1 bs.length d1) bs ys A _ c (fun _ => True) rfl rfl (fun _ _ => trivial) (HO6.out) (Kd.C_below HC.out HB6.out) HB6.out (below_size HB6.out) (by have := HLB.out; have := HYL.out; simp; omega) ?_; intro v1 w7 ho hb _ _; obtain ⟨zs, hzs⟩ : ∃ zs, zs = bs ++ ys := ⟨_, rfl⟩; rw [← hzs] at ho; have HZL := Aside0.mk (show zs.length = bs.length + ys.length by rw [hzs, List.length_append]); have HZN := Aside0.mk (show dNote zs = none by rw [hzs]; exact HMN.out); have HZB := Aside0.mk (show Bytes zs by rw [hzs]; intro b hb; rcases List.mem_append.1 hb with h | h; exact HFN.out.2 b h; exact HY.out b h); clear hzs; obtain ⟨B2, d2, rfl⟩ := Kd.R_slice ho; have HO7 := Aside0.mk ho; have HB7 := Aside0.mk hb; clear ho hb) | (go_at_call 24; have hed := c_decodeP w7 w7 B2 d2 zs ⟨(Kd.R_reads' HO7.out).2.2, HZB.out, (Kd.R_reads' HO7.out).2.1, by have := HZL.out; have := HLB.out; have := HYL.out; omega⟩ (Below.refl _ _) (HE.out.at_ HB7.out); (with_reducible refine hed.mono ?_); clear hed; rintro e w8 ⟨hb8, _, _, hz⟩; obtain rfl := hz (by have := HZL.out; have := HBIG.out; omega) (fun y hy => by rw [HZN.out] at hy; cases hy); have HB8 := Aside0.mk (below_step HB7.out hb8); clear hz hb8) | ((with_reducible refine gate_store2 (t := 34) rfl ?_); refine store_row (old := zeroCells.toArray) (cs := zeroCells.toArray) rfl rfl rfl (Mem.blk_alloc _) rfl rfl zero_size rfl zero_one ?_; intro w9 hm hx; have HB9 := Aside0.mk (below_step HB8.out (Moved.above_ hm (Nat.le_refl _))); clear hm hx))
            go_ret
            exact ⟨rfl, HB9.out⟩
end Go.Proofs.YtmneemhplffemaaGreatDoorRR.Same
namespace Go.Proofs.YtmneemhplffemaaGreatDoorRR.Law3
open Go.RowKit Go.Proofs.YtmneemhplffemaaGreatDoorRR.Chk Go.Proofs.YtmneemhplffemaaGreatDoorRR.Law Go.Proofs.YtmneemhplffemaaGreatDoorRR.Ki Go.Proofs.YtmneemhplffemaaGreatDoorRR.Arg Go.Proofs.YtmneemhplffemaaGreatDoorRRW.PrintWords
theorem ends (x : Note) (cs : List Value) (cut : Int) (A : Option Addr) (len cap : Nat) (z : List Int) (W : World) (hK : k34.K W x cs) (hO : OkNote x) (hw : (Lit.int .i64 cut).wf = true) (w : (A = none ∧ len = 0 ∧ cap = 0 ∧ z = []) ∨ ∃ x, A = some x ∧ len ≤ cap ∧ cap ≤ maxLen ∧ z.length = cap ∧ (∀ i, i < z.length → W.cell? (x.add i) = some (.int .u8 (z.getD i 0))) ∧ ∀ n ∈ z, (Lit.int .u8 n).wf = true) (HE : EnvN W) :
    Calls Tryz.prog 8 #[.agg cs.toArray, .int .i64 cut, .slice A len cap] W fun e W' => e = .returned (.bool true) ∧ Below W.heap.size W W' := by
  obtain ⟨xs, rfl, hc, hC, hB⟩ := Ext.bytes_of w
  exact Same.c_ends W x cs cut A cap xs hK hO hw hC hB hc HE
end Go.Proofs.YtmneemhplffemaaGreatDoorRR.Law3
namespace Go.Proofs.YtmneemhplffemaaGreatDoorRR.noteEndsItself
open Go.ChangeShapes Go.WideShapes Go.ChangeAt Go.RowKit Go.Proofs.YtmneemhplffemaaGreatDoorRRW
open Go.ChangeMaps (open_string shut_string)
set_option linter.unusedVariables false
set_option linter.unusedSimpArgs false
theorem own : ownKnob Tryz.prog.godebug = none := by kernel_rfl
theorem laidOut : laidOutB Tryz.prog = true := by kernel_rfl
def IsRow (k : IntKind) (w : World) (a : Option Addr) (len cap : Nat) (zs : List Int) : Prop :=
  (a = none ∧ len = 0 ∧ cap = 0 ∧ zs = []) ∨
  ∃ x, a = some x ∧ len ≤ cap ∧ cap ≤ maxLen ∧ zs.length = cap ∧ (∀ i, i < zs.length → w.cell? (x.add i) = some (.int k (zs.getD i 0))) ∧ ∀ n ∈ zs, (Lit.int k n).wf = true
theorem laid_met (os : Os) : laidMet Tryz.prog Rows.noteEndsItselfRow.laid ((Ext.laidWorld os).forCall (fun _ _ => 0) ⟨#[], #[.agg #[.int .i64 0, .int .i64 0, .int .i64 0, .int .i64 0, .int .i64 0, .int .i64 0, .int .i64 0, .int .i64 0, .int .i64 0, .int .i64 0, .int .i64 0, .slice none 0 0, .slice none 0 0, .int .i64 0, .int .i64 0, .int .i64 0, .slice none 0 0, .slice none 0 0, .slice none 0 0, .slice none 0 0, .string ByteArray.empty], .int .i64 0, .slice none 0 0], []⟩).memory := laidMet_of_run' 8 (by kernel_rfl) (by kernel_rfl)
theorem reads (os : Os) {H : Type} (enc : TypeId × Value → H) : ∃ places, DataW.whole enc Tryz.prog ((Ext.laidWorld os).forCall (fun _ _ => 0) ⟨#[], #[.agg #[.int .i64 0, .int .i64 0, .int .i64 0, .int .i64 0, .int .i64 0, .int .i64 0, .int .i64 0, .int .i64 0, .int .i64 0, .int .i64 0, .int .i64 0, .slice none 0 0, .slice none 0 0, .int .i64 0, .int .i64 0, .int .i64 0, .slice none 0 0, .slice none 0 0, .slice none 0 0, .slice none 0 0, .string ByteArray.empty], .int .i64 0, .slice none 0 0], []⟩).memory Tryz.f8.params.toList Rows.noteEndsItselfSpec.vars false (#[.agg #[.int .i64 0, .int .i64 0, .int .i64 0, .int .i64 0, .int .i64 0, .int .i64 0, .int .i64 0, .int .i64 0, .int .i64 0, .int .i64 0, .int .i64 0, .slice none 0 0, .slice none 0 0, .int .i64 0, .int .i64 0, .int .i64 0, .slice none 0 0, .slice none 0 0, .slice none 0 0, .slice none 0 0, .string ByteArray.empty], .int .i64 0, .slice none 0 0] : Array Value).toList 8 = some ([.agg [.lit (.int .i64 0), .agg [.lit (.int .i64 0), .lit (.int .i64 0), .lit (.int .i64 0)], .lit (.int .i64 0), .lit (.int .i64 0), .lit (.int .i64 0), .lit (.int .i64 0), .lit (.int .i64 0), .lit (.int .i64 0), .lit (.int .i64 0), .nil, .nil, .agg [.lit (.int .i64 0), .lit (.int .i64 0), .lit (.int .i64 0), .nil], .nil, .nil, .nil, .lit (.string [])], .lit (.int .i64 0), .nil], [], places) := ⟨[], by kernel_rfl⟩
set_option maxRecDepth 100000 in
/-- THE WALK, FOR EVERY ARGUMENT AND EVERY WORLD THAT HOLDS THE TABLES. -/
theorem contract (H : Type) (enc : TypeId × Value → H) (W : World) (base : Nat) (args : Array Value) (ds gs : List (DataW H)) (before : List MemPlace)
    (hval0 : ∀ (j : Nat) t v, Tryz.f8.params[j]? = some t → args[j]? = some v → Value.okWide Tryz.prog W .any base t v)
    (hW : DataW.Whole enc Tryz.prog Tryz.f8.params.toList Rows.noteEndsItselfSpec.vars false W args.toList ds gs before)
    (hsz0 : (DataW.weightsEach Tryz.prog (Tryz.f8.params.toList ++ Rows.noteEndsItselfSpec.plain.varTypes Tryz.prog) (ds ++ gs)).all (· ≤ reachBytes) = true) (HE : Chk.EnvN W) :
    Calls Tryz.prog 8 args W fun e W' => ∃ v, e = .returned v ∧ Rows.noteEndsItselfSpec.post enc Tryz.prog Tryz.f8 false true false false W args v W' := by
  have hsz := hsz0
  have hval := hval0
  have hW' := hW
  obtain ⟨p, q, hA0, hV, rfl, hfz, hnd⟩ := hW
  have hA : DataW.TrodAll enc Tryz.prog W 0 (fun _ => true) true Tryz.f8.params.toList args.toList ds p := hA0
  rw [Tryz.params8] at hA hval hsz
  obtain ⟨v0, vs0, d0, ds0, p0, q0, hargs, rfl, rfl, h0, r0⟩ := trodAll_cons hA
  obtain ⟨v1, vs1, d1, ds1, p1, q1, rfl, rfl, rfl, h1, r1⟩ := trodAll_cons r0
  obtain ⟨v2, vs2, d2, ds2, p2, q2, rfl, rfl, rfl, h2, r2⟩ := trodAll_cons r1
  obtain ⟨rfl, rfl, rfl⟩ := trodAll_nil r2
  obtain rfl : args = #[v0, v1, v2] := by cases args; simp_all
  obtain ⟨rfl, rfl⟩ := trodVars_none hV
  have k0 := h0
  have lt0 : ∀ x ∈ p0, x.block < W.heap.size := by obtain ⟨m, hm⟩ := k0; exact DataW.trod_lt m _ _ _ hm
  obtain ⟨a0, c0, rfl, w0, o0⟩ := Arg.in_any Arg.u_note.choose_spec Arg.oNote hsz (j := 0) rfl rfl (hval 0 34 v0 rfl rfl) h0
  obtain ⟨a1, rfl, rfl, rfl, w1⟩ := open_int Tryz.underlying3 (hval 1 3 v1 rfl rfl) h1
  obtain ⟨a2, len2, cap2, rfl⟩ := okWide_slice Tryz.underlying41 (hval 2 41 v2 rfl rfl)
  have k2 := h2
  have lt2 : ∀ x ∈ p2, x.block < W.heap.size := by obtain ⟨m, hm⟩ := k2; exact DataW.trod_lt m _ _ _ hm
  obtain ⟨z2, w2⟩ : ∃ zs, IsRow .u8 W a2 len2 cap2 zs := by
    obtain ⟨fuel, hf⟩ := h2
    rcases open_ints Tryz.underlying41 Tryz.underlying5 (by kernel_rfl) hf with ⟨hcs, _⟩ | ⟨x, l, c, zs, hcs, _, hl, hm, hz, _, hcell, hwz⟩
    · simp [Value.cells] at hcs
      obtain ⟨rfl, rfl, rfl⟩ := hcs
      exact ⟨[], .inl ⟨rfl, rfl, rfl, rfl⟩⟩
    · simp [Value.cells] at hcs
      obtain ⟨rfl, rfl, rfl⟩ := hcs
      exact ⟨zs, .inr ⟨_, rfl, hl, hm, by simpa using hz, hcell, hwz⟩⟩
  clear hA0 hval0 hsz0 hsz
  refine (Law3.ends a0 c0 a1 a2 len2 cap2 z2 W w0 o0 w1 w2 HE).mono fun e W' ⟨he, bel⟩ => ?_
  subst he
  exact ⟨_, rfl, _, _, _, [], _, [], hW', trodAll_mk1 (shut_bool Tryz.underlying4 _), (trodAll_cons_mk (Below.trod laidOut (by kernel_rfl) (of_decide_eq_true (by kernel_rfl)) k0 bel lt0) (trodAll_cons_mk (shut_int Tryz.underlying3 w1) (trodAll_cons_mk (Below.trod laidOut (by kernel_rfl) (of_decide_eq_true (by kernel_rfl)) k2 bel lt2) trodAll_mk0))), rfl, bel.frame _, fun h => by cases h⟩
set_option maxRecDepth 100000 in
theorem lifted (os : Os) (started : os.Started) (H : Type) (enc : TypeId × Value → H) (F : Stop.Interp) :
    ReturnsInHanded {} Tryz.checked os 8 .any ((OpenSpec.ofChange Rows.noteEndsItselfSpec).preRow enc Tryz.prog Tryz.f8 Rows.noteEndsItselfRow.domain false Rows.noteEndsItselfRow.laid) (((OpenSpec.ofChange Rows.noteEndsItselfSpec).at F).post enc Tryz.prog Tryz.f8 false true false false) := by
  obtain ⟨places, hx⟩ := reads os enc
  refine returnsInHanded_of_row (C := Tryz.checked) (s := OpenSpec.ofChange Rows.noteEndsItselfSpec) own started (by kernel_rfl) Tryz.func8
    (witness_row_at (enc := enc) (C := Tryz.checked) false (Ext.laidWorld os) #[.agg #[.int .i64 0, .int .i64 0, .int .i64 0, .int .i64 0, .int .i64 0, .int .i64 0, .int .i64 0, .int .i64 0, .int .i64 0, .int .i64 0, .int .i64 0, .slice none 0 0, .slice none 0 0, .int .i64 0, .int .i64 0, .int .i64 0, .slice none 0 0, .slice none 0 0, .slice none 0 0, .slice none 0 0, .string ByteArray.empty], .int .i64 0, .slice none 0 0] rfl (by kernel_rfl) (by kernel_rfl) (by kernel_rfl)
      (OpenSpec.preRow_of_cond 8 hx (by kernel_rfl) (fun k hk => by cases hk) (by kernel_rfl) (laid_met os))) ?_
  intro W base args ds gs before hval hW _ _ hsz hL hS _
  exact contract H enc W base args ds gs before hval hW hsz (Ext.env_note hS hL)
theorem f_inPlace : (Rows.noteEndsItselfRow.inPlace == Tryz.prog.inPlace 8) = true := by kernel_rfl
theorem f_unfollowed : (Rows.noteEndsItselfRow.unfollowed == Tryz.prog.unfollowed 8) = true := by kernel_rfl
theorem f_recurses : (Rows.noteEndsItselfRow.recurses == Tryz.prog.recurses 8) = true := by kernel_rfl
theorem f_named : (Rows.noteEndsItselfRow.named == Tryz.prog.varsNamed 8) = true := by kernel_rfl
theorem f_maps : mapsRowed Tryz.prog = true := by kernel_rfl
theorem f_laid : laidOutB Tryz.prog = true := by kernel_rfl
set_option maxRecDepth 100000 in
set_option maxHeartbeats 8000000 in
theorem closed : joinedFacts Tryz.pinned.checked.prog 8 Tryz.f8 (OpenSpec.ofChange Rows.noteEndsItselfSpec).bare Rows.noteEndsItselfRow = true := by
  show joinedFacts Tryz.prog 8 Tryz.f8 (OpenSpec.ofChange Rows.noteEndsItselfSpec).bare Rows.noteEndsItselfRow = true
  unfold joinedFacts
  simp only [Bool.and_eq_true]
  repeat' (with_reducible apply And.intro)
  all_goals first | with_reducible exact f_inPlace | with_reducible exact f_unfollowed | with_reducible exact f_recurses | with_reducible exact f_named | with_reducible exact f_maps | with_reducible exact f_laid | (as_aux_lemma => kernel_rfl)
theorem hinst : Tryz.f8.isInstance Tryz.pinned.checked.prog Rows.noteEndsItselfRow.origin Rows.noteEndsItselfRow.targs := of_decide_eq_true (by kernel_rfl)
theorem hwrap : Tryz.f8.isWrapper Tryz.pinned.checked.prog Rows.noteEndsItselfRow.wrapper Rows.noteEndsItselfRow.mainSum := by unfold Func.isWrapper; first | (rw [if_pos (by decide +kernel)]; kernel_rfl) | (rw [if_neg (by decide +kernel)]; exact ⟨rfl, rfl⟩)
theorem hfn : Tryz.pinned.checked.prog.funcNamed Rows.noteEndsItselfRow.func = some 8 := by kernel_rfl
theorem said : Rows.NoteEndsItselfSaid :=
  OpenClaim.holds_of_cond 8 Tryz.f8 rfl rfl rfl rfl rfl rfl rfl ⟨rfl, rfl, rfl, rfl, rfl⟩ rfl rfl rfl rfl rfl hfn Tryz.func8 closed hinst hwrap
    (fun os started H enc _ F => by rw [OpenClaim.pre_eq_preRow]; exact lifted os started H enc F)
theorem looks_on : true = Tryz.pinned.checked.prog.looks [] := by kernel_rfl
/-- No parameter wants a stand-in; what the program looks at is told: what the card asks. -/
theorem plain (f : FuncId) (fn : Func) (hf : Tryz.pinned.checked.prog.funcNamed "herald/heraldlaw3.NoteEndsItself" = some f) (hfn : Tryz.pinned.checked.prog.funcs[f]? = some fn) :
    true = Tryz.pinned.checked.prog.looks [] ∧ ∀ (j : Nat) t, fn.params[j]? = some t → Tryz.pinned.checked.prog.wantsStandIn t = false := by
  obtain rfl : f = 8 := Option.some.inj ((show Tryz.prog.funcNamed "herald/heraldlaw3.NoteEndsItself" = some 8 by kernel_rfl).symm.trans hf) |>.symm
  obtain rfl : fn = Tryz.f8 := (Option.some.inj (Tryz.func8.symm.trans hfn)).symm
  refine ⟨looks_on, fun j t ht => ?_⟩
  rw [Tryz.params8] at ht
  have hm := Array.mem_of_getElem? ht
  simp only [Array.mem_def, List.mem_cons, or_false, List.not_mem_nil] at hm
  rcases hm with rfl | rfl | rfl
  · exact (show Tryz.prog.wantsStandIn 34 = false by kernel_rfl)
  · exact (show Tryz.prog.wantsStandIn 3 = false by kernel_rfl)
  · exact (show Tryz.prog.wantsStandIn 41 = false by kernel_rfl)
theorem wfText : Rows.noteEndsItselfRow.wfByText (OpenSpec.ofChange Rows.noteEndsItselfSpec) = true := by kernel_rfl
theorem goesBy : false = Rows.noteEndsItselfRow.goesBy Tryz.pinned.checked.prog := by kernel_rfl
/-- THE CARD -/
theorem card : Rows.NoteEndsItselfCardSaid :=
  Claim7.holds_tied_plain_at .later [] _ _ _ _ said (fun _ h => by cases h) wfText (fun _ h => by cases h) noteEndsItself_row_tie rfl ⟨rfl, rfl⟩ (by kernel_rfl) rfl plain goesBy
end Go.Proofs.YtmneemhplffemaaGreatDoorRR.noteEndsItself
namespace Go.Proofs.YtmneemhplffemaaGreatDoorRR
/-- The card, under a short name, for the claim. -/
theorem noteEndsItself_holds : Rows.NoteEndsItselfCardSaid := noteEndsItself.card
end Go.Proofs.YtmneemhplffemaaGreatDoorRR
