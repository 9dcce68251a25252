/- NoteSays: bytes that are read as a note are just those that are written of it. No condition beyond the row's own. -/
import Derived.ArgAppend
import Derived.Below
import Derived.BigQuiet
import Derived.ChangeOld
import Derived.ChangeSlices
import Derived.Deep.AppendLies
import Derived.Deep.CutBlock
import Derived.Deep.DeepCutAuto
import Derived.Deep.DeepHandedRow
import Derived.Deep.Draws
import Derived.Deep.LoopGhost
import Derived.Deep.OwnRows
import Derived.Deep.QuietTactic
import Derived.Deep.RegionHeld3
import Derived.Deep.RegionLaw
import Derived.Deep.RegionLawGrows
import Derived.Deep.WholeRow
import Derived.Defers
import Derived.HandedShaped
import Derived.KernelRfl
import Derived.Laws.BitsLemmas
import Derived.Laws.BytesArg
import Derived.Laws.EntriesVeiled
import Derived.Laws.IdiomCopy
import Derived.Laws.MakeOwn
import Derived.Laws.OwnMore
import Derived.Laws.Rows
import Derived.Laws.Slices
import Derived.Laws.StructEq
import Derived.Laws.Tables
import Derived.Lib.AppendStr
import Derived.Lib.ConvBytes
import Derived.Lib.Hide
import Derived.Lib.Join
import Derived.Lib.LaidTab
import Derived.Lib.SplitLaws
import Derived.LoopTactic
import Derived.Maps.AppendAt
import Derived.OpenShut
import Derived.OrdersHeld
import Derived.Outline
import Derived.OwnWalk
import Derived.ProofKit
import Derived.Recover
import Derived.RowKit
import Derived.RowKit3
import Derived.Shelf.LaysM
import Derived.Shelf.Strings.Count
import Derived.Shelf.Strings.Explode
import Derived.Shelf.Strings.Prefix
import Derived.Shelf.Strings.RuneCount
import Derived.Shelf.Strings.Search1
import Derived.Shelf.Strings.Search2
import Derived.Shelf.Strings.Search3
import Derived.Shelf.Strings.Shaped
import Derived.Shelf.Strings.Split
import Derived.Shelf.Strings.SplitShaped
import Derived.Shelf.Unicode.Decode
import Derived.Shelf.Unicode.DecodeAny
import Derived.Shelf.Unicode.DecodeSlow
import Derived.Shelf.Utf8.RuneCount
import Derived.Shelf.Vars
import Derived.ShutString
import Derived.SizedLaws
import Derived.StillTailTactics
import Derived.Tactics
import Derived.Test.YtmneemhplffemaaGreatDoorRRCards
import Derived.Test.YtmneemhplffemaaGreatDoorRRProg
import Derived.Test.YtmneemhplffemaaGreatDoorRRTie
import Derived.WalkKit
import Derived.WalkLawsBesides
import Derived.WideLaws
import Derived.Test.YtmneemhplffemaaGreatDoorRRJBf
set_option linter.unusedVariables false
set_option linter.unusedSimpArgs false
namespace Go.Proofs.YtmneemhplffemaaGreatDoorRR.Same
open Go.RowKit Go.Proofs.YtmneemhplffemaaGreatDoorRR.Row Go.Proofs.YtmneemhplffemaaGreatDoorRR.Ord Go.Proofs.YtmneemhplffemaaGreatDoorRR.Name Go.Proofs.YtmneemhplffemaaGreatDoorRR.Chk Go.Proofs.YtmneemhplffemaaGreatDoorRR.May Go.Proofs.YtmneemhplffemaaGreatDoorRR.Ext Go.Proofs.YtmneemhplffemaaGreatDoorRR.Wire Go.Proofs.YtmneemhplffemaaGreatDoorRR.Mem Go.Proofs.YtmneemhplffemaaGreatDoorRR.Put Go.Proofs.YtmneemhplffemaaGreatDoorRR.Get Go.Proofs.YtmneemhplffemaaGreatDoorRR.Law Go.Proofs.YtmneemhplffemaaGreatDoorRR.Ki Go.Proofs.YtmneemhplffemaaGreatDoorRR.Tab Go.Proofs.YtmneemhplffemaaGreatDoorRRW.PrintWords
set_option linter.unusedVariables false
set_option linter.unusedSimpArgs false
theorem same0' (W : World) : Calls Tryz.prog 19 #[.agg zeroCells.toArray, .agg #[.int .i64 0, .int .i64 0, .int .i64 0, .int .i64 0, .int .i64 0, .int .i64 0, .int .i64 0, .int .i64 0, .int .i64 0, .int .i64 0, .int .i64 0, .slice none 0 0, .slice none 0 0, .int .i64 0, .int .i64 0, .int .i64 0, .slice none 0 0, .slice none 0 0, .slice none 0 0, .slice none 0 0, .string ⟨#[]⟩]] W fun e W' => e = .returned (.bool true) ∧ Below W.heap.size W W' := same0 W
set_option maxRecDepth 100000 in
set_option maxHeartbeats 8000000 in
theorem c_says (W : World) (A : Option Addr) (c : Nat) (xs : List Int) (hC : (Kd.int .u8).C W A xs.length xs) (hB : Bytes xs) (hc : xs.length ≤ c) (HE : EnvN W) :
    Calls Tryz.prog 7 #[.slice A xs.length c] W fun e W' => e = .returned (.bool true) ∧ Below W.heap.size W W' := by
  have HE := Aside0.mk HE
  have HC := Aside0.mk hC
  have HY := Aside0.mk hB
  have HCC := Aside0.mk hc
  have hm : xs.length ≤ 9223372036854775807 := hC.2.1
  clear hC hB hc
  go_enter Tryz.func7, Tryz.ntmps7
  go_upto_region 4 with (go_at_call 15; (with_reducible refine (c_begins _ HE.out).mono ?_); rintro e w1 ⟨rfl, hb1⟩; have HB1 := Aside0.mk hb1; clear hb1)
  cases h1 : decide ((300000 : Int) < xs.length) with
  | true =>
    have h1_0 : decide ((xs.length : Int) > 300000) = true := h1
    go_wp2_with fail
    go_ret
    exact ⟨rfl, HB1.out⟩
  | false =>
    have h1_0 : decide ((xs.length : Int) > 300000) = false := h1
    have hlen := of_decide_eq_false h1
    have HLEN := Aside0.mk (show xs.length ≤ 1000000000 by omega)
    have HD := Aside0.mk (Get.Data.mk (Kd.C_below HC.out HB1.out) HY.out HCC.out HLEN.out)
    have HED := Aside0.mk (c_decodeP w1 w1 A c xs HD.out (Below.refl _ _) (HE.out.at_ HB1.out))
    clear hlen
    by_cases hbig : 262144 < xs.length
    · have h2 : decide ((262144 : Int) < xs.length) = true := by simp; omega
      have h2_0 : decide ((xs.length : Int) > 262144) = true := h2
      go_upto_region 7 with (first | (go_at_call 24; (with_reducible refine HED.out.mono ?_); rintro e w2 ⟨hb2, hz, _, _⟩; obtain rfl := hz hbig; have HB2 := Aside0.mk (below_step HB1.out hb2); clear hz hb2) | ((with_reducible refine gate_store2 (t := 34) rfl ?_); refine store_row (old := zeroCells.toArray) (cs := zeroCells.toArray) rfl rfl rfl (Mem.blk_alloc _) rfl rfl zero_size rfl zero_one ?_; intro w3 hm3 hx3; have HX3 := Aside0.mk hx3; have HB3 := Aside0.mk (below_step HB2.out (Moved.above_ hm3 (Nat.le_refl _))); clear hm3 hx3))
      go_wp2_with (first | ((with_reducible refine gate_load (t := 34) rfl ?_); refine load_row rfl rfl Tryz.underlying34 rfl HX3.out rfl zero_size ?_) | (go_at_call 19; (with_reducible refine (same0' _).mono ?_); rintro e w4 ⟨rfl, hb4⟩; have HB4 := Aside0.mk (below_step HB3.out hb4); clear hb4))
      go_ret
      exact ⟨rfl, HB4.out⟩
    · cases hx : dNote xs with
      | none =>
        have HN := Aside0.mk (show ∀ y, dNote xs = some y → mCheck y = false from fun y h => by rw [hx] at h; cases h)
        clear hx
        go_upto_region 7 with (first | (go_at_call 24; (with_reducible refine HED.out.mono ?_); rintro e w2 ⟨hb2, _, _, hz⟩; obtain rfl := hz (by omega) HN.out; have HB2 := Aside0.mk (below_step HB1.out hb2); clear hz hb2) | ((with_reducible refine gate_store2 (t := 34) rfl ?_); refine store_row (old := zeroCells.toArray) (cs := zeroCells.toArray) rfl rfl rfl (Mem.blk_alloc _) rfl rfl zero_size rfl zero_one ?_; intro w3 hm3 hx3; have HX3 := Aside0.mk hx3; have HB3 := Aside0.mk (below_step HB2.out (Moved.above_ hm3 (Nat.le_refl _))); clear hm3 hx3))
        go_wp2_with (first | ((with_reducible refine gate_load (t := 34) rfl ?_); refine load_row rfl rfl Tryz.underlying34 rfl HX3.out rfl zero_size ?_) | (go_at_call 19; (with_reducible refine (same0' _).mono ?_); rintro e w4 ⟨rfl, hb4⟩; have HB4 := Aside0.mk (below_step HB3.out hb4); clear hb4))
        go_ret
        exact ⟨rfl, HB4.out⟩
      | some y =>
        cases hmc : mCheck y with
        | false =>
          have HN := Aside0.mk (show ∀ y', dNote xs = some y' → mCheck y' = false from fun y' h => by rw [hx] at h; obtain rfl := Option.some.inj h; exact hmc)
          clear hx hmc
          go_upto_region 7 with (first | (go_at_call 24; (with_reducible refine HED.out.mono ?_); rintro e w2 ⟨hb2, _, _, hz⟩; obtain rfl := hz (by omega) HN.out; have HB2 := Aside0.mk (below_step HB1.out hb2); clear hz hb2) | ((with_reducible refine gate_store2 (t := 34) rfl ?_); refine store_row (old := zeroCells.toArray) (cs := zeroCells.toArray) rfl rfl rfl (Mem.blk_alloc _) rfl rfl zero_size rfl zero_one ?_; intro w3 hm3 hx3; have HX3 := Aside0.mk hx3; have HB3 := Aside0.mk (below_step HB2.out (Moved.above_ hm3 (Nat.le_refl _))); clear hm3 hx3))
          go_wp2_with (first | ((with_reducible refine gate_load (t := 34) rfl ?_); refine load_row rfl rfl Tryz.underlying34 rfl HX3.out rfl zero_size ?_) | (go_at_call 19; (with_reducible refine (same0' _).mono ?_); rintro e w4 ⟨rfl, hb4⟩; have HB4 := Aside0.mk (below_step HB3.out hb4); clear hb4))
          go_ret
          exact ⟨rfl, HB4.out⟩
        | true =>
          have HX0 := Aside0.mk hx
          have HMC := Aside0.mk hmc
          have HSAY := Aside0.mk (dNote_says HY.out hx)
          have HSA := Aside0.mk (sane_note HY.out (by omega) hx)
          clear hx hmc
          go_upto_region 7 with (first | (go_at_call 24; (with_reducible refine HED.out.mono ?_); rintro e w2 ⟨hb2, _, hok, _⟩; obtain ⟨cs, hM, rfl⟩ := hok (by omega) y HX0.out HMC.out; have HB2 := Aside0.mk (below_step HB1.out hb2); have HK2 := Aside0.mk (k34.K_of_M hM); have HSZ := Aside0.mk (cs_size HK2.out); have HE2 := Aside0.mk (HE.out.at_ HB2.out); clear hok hb2 hM) | ((with_reducible refine gate_store2 (t := 34) rfl ?_); refine store_row (old := zeroCells.toArray) (cs := cs.toArray) rfl rfl rfl (Mem.blk_alloc _) rfl rfl HSZ.out (note_size HK2.out) (note_one HK2.out) ?_; intro w3 hm3 hx3; have HX3 := Aside0.mk hx3; have HBK := Aside0.mk (Moved.above_ hm3 (Nat.le_refl _)); clear hm3 hx3))
          go_wp2_with (first | ((with_reducible refine gate_load (t := 34) rfl ?_); first | refine load_row rfl rfl Tryz.underlying34 rfl HX4.out rfl HSZ.out ?_ | refine load_row rfl rfl Tryz.underlying34 rfl HX3.out rfl HSZ.out ?_) | (go_at_call 21; (with_reducible refine (c_encodeP w2 w3 y cs HK2.out HBK.out HE2.out HSA.out).mono ?_); rintro e w4 ⟨hb4, _, hok⟩; obtain ⟨v, rfl, hv⟩ := hok HMC.out; rw [HSAY.out] at hv; obtain ⟨B, d, rfl⟩ := Kd.R_slice hv; have HV4 := Aside0.mk (Kd.R_reads' hv).2.2; have HX4 := Aside0.mk (blk_below hb4 HX3.out); have HBK4 := Aside0.mk (below_step HBK.out hb4); clear hok hb4 hv) | (go_at_call 17; have hch := c_checkP w2 w4 y cs HK2.out HBK4.out HE2.out HSA.out; rw [HMC.out] at hch; (with_reducible refine hch.mono ?_); clear hch; rintro e w5 ⟨rfl, hb5⟩; have HB5 := Aside0.mk (below_step (below_step HB2.out HBK4.out) hb5); have hcb := c_bytes w5 B A d c xs xs (Kd.C_below HV4.out hb5) (Kd.C_below HC.out HB5.out); rw [decide_eq_true rfl] at hcb; have HCB := Aside0.mk hcb; clear hb5 hcb) | (go_at_call 23; (with_reducible refine HCB.out.mono ?_); rintro e w6 ⟨rfl, hb6⟩; have HB6 := Aside0.mk (below_step HB5.out hb6); clear hb6))
          go_ret
          exact ⟨rfl, HB6.out⟩
end Go.Proofs.YtmneemhplffemaaGreatDoorRR.Same
namespace Go.Proofs.YtmneemhplffemaaGreatDoorRR.Law3
open Go.RowKit Go.Proofs.YtmneemhplffemaaGreatDoorRR.Chk Go.Proofs.YtmneemhplffemaaGreatDoorRRW.PrintWords
theorem says (A : Option Addr) (len cap : Nat) (z : List Int) (W : World) (w : (A = none ∧ len = 0 ∧ cap = 0 ∧ z = []) ∨ ∃ x, A = some x ∧ len ≤ cap ∧ cap ≤ maxLen ∧ z.length = cap ∧ (∀ i, i < z.length → W.cell? (x.add i) = some (.int .u8 (z.getD i 0))) ∧ ∀ n ∈ z, (Lit.int .u8 n).wf = true) (HE : EnvN W) :
    Calls Tryz.prog 7 #[.slice A len cap] W fun e W' => e = .returned (.bool true) ∧ Below W.heap.size W W' := by
  obtain ⟨xs, rfl, hc, hC, hB⟩ := Ext.bytes_of w
  exact Same.c_says W A cap xs hC hB hc HE
end Go.Proofs.YtmneemhplffemaaGreatDoorRR.Law3
namespace Go.Proofs.YtmneemhplffemaaGreatDoorRR.noteSays
open Go.ChangeShapes Go.WideShapes Go.ChangeAt Go.RowKit Go.Proofs.YtmneemhplffemaaGreatDoorRRW
open Go.ChangeMaps (open_string shut_string)
set_option linter.unusedVariables false
set_option linter.unusedSimpArgs false
theorem own : ownKnob Tryz.prog.godebug = none := by kernel_rfl
theorem laidOut : laidOutB Tryz.prog = true := by kernel_rfl
def IsRow (k : IntKind) (w : World) (a : Option Addr) (len cap : Nat) (zs : List Int) : Prop :=
  (a = none ∧ len = 0 ∧ cap = 0 ∧ zs = []) ∨
  ∃ x, a = some x ∧ len ≤ cap ∧ cap ≤ maxLen ∧ zs.length = cap ∧ (∀ i, i < zs.length → w.cell? (x.add i) = some (.int k (zs.getD i 0))) ∧ ∀ n ∈ zs, (Lit.int k n).wf = true
theorem laid_met (os : Os) : laidMet Tryz.prog Rows.noteSaysRow.laid ((Ext.laidWorld os).forCall (fun _ _ => 0) ⟨#[], #[.slice none 0 0], []⟩).memory := laidMet_of_run' 8 (by kernel_rfl) (by kernel_rfl)
theorem reads (os : Os) {H : Type} (enc : TypeId × Value → H) : ∃ places, DataW.whole enc Tryz.prog ((Ext.laidWorld os).forCall (fun _ _ => 0) ⟨#[], #[.slice none 0 0], []⟩).memory Tryz.f7.params.toList Rows.noteSaysSpec.vars false (#[.slice none 0 0] : Array Value).toList 8 = some ([.nil], [], places) := ⟨[], by kernel_rfl⟩
set_option maxRecDepth 100000 in
/-- THE WALK, FOR EVERY ARGUMENT AND EVERY WORLD THAT HOLDS THE TABLES. -/
theorem contract (H : Type) (enc : TypeId × Value → H) (W : World) (base : Nat) (args : Array Value) (ds gs : List (DataW H)) (before : List MemPlace)
    (hval0 : ∀ (j : Nat) t v, Tryz.f7.params[j]? = some t → args[j]? = some v → Value.okWide Tryz.prog W .any base t v)
    (hW : DataW.Whole enc Tryz.prog Tryz.f7.params.toList Rows.noteSaysSpec.vars false W args.toList ds gs before)
    (hsz0 : (DataW.weightsEach Tryz.prog (Tryz.f7.params.toList ++ Rows.noteSaysSpec.plain.varTypes Tryz.prog) (ds ++ gs)).all (· ≤ reachBytes) = true) (HE : Chk.EnvN W) :
    Calls Tryz.prog 7 args W fun e W' => ∃ v, e = .returned v ∧ Rows.noteSaysSpec.post enc Tryz.prog Tryz.f7 false true false false W args v W' := by
  have hsz := hsz0
  have hval := hval0
  have hW' := hW
  obtain ⟨p, q, hA0, hV, rfl, hfz, hnd⟩ := hW
  have hA : DataW.TrodAll enc Tryz.prog W 0 (fun _ => true) true Tryz.f7.params.toList args.toList ds p := hA0
  rw [Tryz.params7] at hA hval hsz
  obtain ⟨v0, vs0, d0, ds0, p0, q0, hargs, rfl, rfl, h0, r0⟩ := trodAll_cons hA
  obtain ⟨rfl, rfl, rfl⟩ := trodAll_nil r0
  obtain rfl : args = #[v0] := by cases args; simp_all
  obtain ⟨rfl, rfl⟩ := trodVars_none hV
  obtain ⟨a0, len0, cap0, rfl⟩ := okWide_slice Tryz.underlying41 (hval 0 41 v0 rfl rfl)
  have k0 := h0
  have lt0 : ∀ x ∈ p0, x.block < W.heap.size := by obtain ⟨m, hm⟩ := k0; exact DataW.trod_lt m _ _ _ hm
  obtain ⟨z0, w0⟩ : ∃ zs, IsRow .u8 W a0 len0 cap0 zs := by
    obtain ⟨fuel, hf⟩ := h0
    rcases open_ints Tryz.underlying41 Tryz.underlying5 (by kernel_rfl) hf with ⟨hcs, _⟩ | ⟨x, l, c, zs, hcs, _, hl, hm, hz, _, hcell, hwz⟩
    · simp [Value.cells] at hcs
      obtain ⟨rfl, rfl, rfl⟩ := hcs
      exact ⟨[], .inl ⟨rfl, rfl, rfl, rfl⟩⟩
    · simp [Value.cells] at hcs
      obtain ⟨rfl, rfl, rfl⟩ := hcs
      exact ⟨zs, .inr ⟨_, rfl, hl, hm, by simpa using hz, hcell, hwz⟩⟩
  clear hA0 hval0 hsz0 hsz
  refine (Law3.says a0 len0 cap0 z0 W w0 HE).mono fun e W' ⟨he, bel⟩ => ?_
  subst he
  exact ⟨_, rfl, _, _, _, [], _, [], hW', trodAll_mk1 (shut_bool Tryz.underlying4 _), (trodAll_cons_mk (Below.trod laidOut (by kernel_rfl) (of_decide_eq_true (by kernel_rfl)) k0 bel lt0) trodAll_mk0), rfl, bel.frame _, fun h => by cases h⟩
set_option maxRecDepth 100000 in
theorem lifted (os : Os) (started : os.Started) (H : Type) (enc : TypeId × Value → H) (F : Stop.Interp) :
    ReturnsInHanded {} Tryz.checked os 7 .any ((OpenSpec.ofChange Rows.noteSaysSpec).preRow enc Tryz.prog Tryz.f7 Rows.noteSaysRow.domain false Rows.noteSaysRow.laid) (((OpenSpec.ofChange Rows.noteSaysSpec).at F).post enc Tryz.prog Tryz.f7 false true false false) := by
  obtain ⟨places, hx⟩ := reads os enc
  refine returnsInHanded_of_row (C := Tryz.checked) (s := OpenSpec.ofChange Rows.noteSaysSpec) own started (by kernel_rfl) Tryz.func7
    (witness_row_at (enc := enc) (C := Tryz.checked) false (Ext.laidWorld os) #[.slice none 0 0] rfl (by kernel_rfl) (by kernel_rfl) (by kernel_rfl)
      (OpenSpec.preRow_of_cond 8 hx (by kernel_rfl) (fun k hk => by cases hk) (by kernel_rfl) (laid_met os))) ?_
  intro W base args ds gs before hval hW _ _ hsz hL hS _
  exact contract H enc W base args ds gs before hval hW hsz (Ext.env_note hS hL)
theorem f_inPlace : (Rows.noteSaysRow.inPlace == Tryz.prog.inPlace 7) = true := by kernel_rfl
theorem f_unfollowed : (Rows.noteSaysRow.unfollowed == Tryz.prog.unfollowed 7) = true := by kernel_rfl
theorem f_recurses : (Rows.noteSaysRow.recurses == Tryz.prog.recurses 7) = true := by kernel_rfl
theorem f_named : (Rows.noteSaysRow.named == Tryz.prog.varsNamed 7) = true := by kernel_rfl
theorem f_maps : mapsRowed Tryz.prog = true := by kernel_rfl
theorem f_laid : laidOutB Tryz.prog = true := by kernel_rfl
set_option maxRecDepth 100000 in
set_option maxHeartbeats 8000000 in
theorem closed : joinedFacts Tryz.pinned.checked.prog 7 Tryz.f7 (OpenSpec.ofChange Rows.noteSaysSpec).bare Rows.noteSaysRow = true := by
  show joinedFacts Tryz.prog 7 Tryz.f7 (OpenSpec.ofChange Rows.noteSaysSpec).bare Rows.noteSaysRow = true
  unfold joinedFacts
  simp only [Bool.and_eq_true]
  repeat' (with_reducible apply And.intro)
  all_goals first | with_reducible exact f_inPlace | with_reducible exact f_unfollowed | with_reducible exact f_recurses | with_reducible exact f_named | with_reducible exact f_maps | with_reducible exact f_laid | (as_aux_lemma => kernel_rfl)
theorem hinst : Tryz.f7.isInstance Tryz.pinned.checked.prog Rows.noteSaysRow.origin Rows.noteSaysRow.targs := of_decide_eq_true (by kernel_rfl)
theorem hwrap : Tryz.f7.isWrapper Tryz.pinned.checked.prog Rows.noteSaysRow.wrapper Rows.noteSaysRow.mainSum := by unfold Func.isWrapper; first | (rw [if_pos (by decide +kernel)]; kernel_rfl) | (rw [if_neg (by decide +kernel)]; exact ⟨rfl, rfl⟩)
theorem hfn : Tryz.pinned.checked.prog.funcNamed Rows.noteSaysRow.func = some 7 := by kernel_rfl
theorem said : Rows.NoteSaysSaid :=
  OpenClaim.holds_of_cond 7 Tryz.f7 rfl rfl rfl rfl rfl rfl rfl ⟨rfl, rfl, rfl, rfl, rfl⟩ rfl rfl rfl rfl rfl hfn Tryz.func7 closed hinst hwrap
    (fun os started H enc _ F => by rw [OpenClaim.pre_eq_preRow]; exact lifted os started H enc F)
theorem looks_on : true = Tryz.pinned.checked.prog.looks [] := by kernel_rfl
/-- No parameter wants a stand-in; what the program looks at is told: what the card asks. -/
theorem plain (f : FuncId) (fn : Func) (hf : Tryz.pinned.checked.prog.funcNamed "herald/heraldlaw3.NoteSays" = some f) (hfn : Tryz.pinned.checked.prog.funcs[f]? = some fn) :
    true = Tryz.pinned.checked.prog.looks [] ∧ ∀ (j : Nat) t, fn.params[j]? = some t → Tryz.pinned.checked.prog.wantsStandIn t = false := by
  obtain rfl : f = 7 := Option.some.inj ((show Tryz.prog.funcNamed "herald/heraldlaw3.NoteSays" = some 7 by kernel_rfl).symm.trans hf) |>.symm
  obtain rfl : fn = Tryz.f7 := (Option.some.inj (Tryz.func7.symm.trans hfn)).symm
  refine ⟨looks_on, fun j t ht => ?_⟩
  rw [Tryz.params7] at ht
  have hm := Array.mem_of_getElem? ht
  simp only [Array.mem_def, List.mem_cons, or_false, List.not_mem_nil] at hm
  subst hm
  exact (show Tryz.prog.wantsStandIn 41 = false by kernel_rfl)
theorem wfText : Rows.noteSaysRow.wfByText (OpenSpec.ofChange Rows.noteSaysSpec) = true := by kernel_rfl
theorem goesBy : false = Rows.noteSaysRow.goesBy Tryz.pinned.checked.prog := by kernel_rfl
/-- THE CARD -/
theorem card : Rows.NoteSaysCardSaid :=
  Claim7.holds_tied_plain_at .later [] _ _ _ _ said (fun _ h => by cases h) wfText (fun _ h => by cases h) noteSays_row_tie rfl ⟨rfl, rfl⟩ (by kernel_rfl) rfl plain goesBy
end Go.Proofs.YtmneemhplffemaaGreatDoorRR.noteSays
namespace Go.Proofs.YtmneemhplffemaaGreatDoorRR
/-- The card, under a short name, for the claim. -/
theorem noteSays_holds : Rows.NoteSaysCardSaid := noteSays.card
end Go.Proofs.YtmneemhplffemaaGreatDoorRR
