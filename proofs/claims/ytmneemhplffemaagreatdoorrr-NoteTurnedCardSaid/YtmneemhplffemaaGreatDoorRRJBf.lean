/- Texts of the proof, joined. -/
import Derived.ArgAppend
import Derived.Below
import Derived.BigQuiet
import Derived.Deep.AppendLies
import Derived.Deep.CutBlock
import Derived.Deep.DeepCutAuto
import Derived.Deep.DeepHandedRow
import Derived.Deep.Draws
import Derived.Deep.LoopGhost
import Derived.Deep.OwnRows
import Derived.Deep.QuietTactic
import Derived.Deep.RegionHeld3
import Derived.Deep.RegionLaw
import Derived.Deep.RegionLawGrows
import Derived.Deep.Slices
import Derived.Deep.WholeRow
import Derived.Defers
import Derived.HandedShaped
import Derived.KernelRfl
import Derived.Laws.BitsLemmas
import Derived.Laws.BytesArg
import Derived.Laws.EntriesVeiled
import Derived.Laws.IdiomCopy
import Derived.Laws.MakeOwn
import Derived.Laws.OwnMore
import Derived.Laws.Rows
import Derived.Laws.Slices
import Derived.Laws.StructEq
import Derived.Laws.Tables
import Derived.Lib.AppendStr
import Derived.Lib.ConvBytes
import Derived.Lib.Hide
import Derived.Lib.Join
import Derived.Lib.LaidTab
import Derived.Lib.SplitLaws
import Derived.LoopTactic
import Derived.Maps.AppendAt
import Derived.OpenShut
import Derived.OrdersHeld
import Derived.Outline
import Derived.OwnWalk
import Derived.ProofKit
import Derived.Recover
import Derived.RowKit
import Derived.RowKit3
import Derived.Shelf.LaysM
import Derived.Shelf.Strings.Count
import Derived.Shelf.Strings.Explode
import Derived.Shelf.Strings.Prefix
import Derived.Shelf.Strings.RuneCount
import Derived.Shelf.Strings.Search1
import Derived.Shelf.Strings.Search2
import Derived.Shelf.Strings.Search3
import Derived.Shelf.Strings.Shaped
import Derived.Shelf.Strings.Split
import Derived.Shelf.Strings.SplitShaped
import Derived.Shelf.Unicode.Decode
import Derived.Shelf.Unicode.DecodeAny
import Derived.Shelf.Unicode.DecodeSlow
import Derived.Shelf.Utf8.RuneCount
import Derived.Shelf.Vars
import Derived.SizedLaws
import Derived.StillTailTactics
import Derived.Tactics
import Derived.Test.YtmneemhplffemaaGreatDoorRRCards
import Derived.Test.YtmneemhplffemaaGreatDoorRRProg
import Derived.Test.YtmneemhplffemaaGreatDoorRRTie
import Derived.WalkKit
import Derived.WalkLawsBesides
import Derived.WideLaws
import Derived.Test.YtmneemhplffemaaGreatDoorRRJBe
set_option linter.unusedVariables false
set_option linter.unusedSimpArgs false
namespace Go.Proofs.YtmneemhplffemaaGreatDoorRR.Same
open Go.RowKit Go.Proofs.YtmneemhplffemaaGreatDoorRR.Ord Go.Proofs.YtmneemhplffemaaGreatDoorRR.Name Go.Proofs.YtmneemhplffemaaGreatDoorRR.Ext Go.Proofs.YtmneemhplffemaaGreatDoorRR.Wire Go.Proofs.YtmneemhplffemaaGreatDoorRR.Mem Go.Proofs.YtmneemhplffemaaGreatDoorRR.Put Go.Proofs.YtmneemhplffemaaGreatDoorRR.Get Go.Proofs.YtmneemhplffemaaGreatDoorRR.Law Go.Proofs.YtmneemhplffemaaGreatDoorRR.Row Go.Proofs.YtmneemhplffemaaGreatDoorRR.Ki Go.Proofs.YtmneemhplffemaaGreatDoorRR.Chk Go.Proofs.YtmneemhplffemaaGreatDoorRR.May Go.Proofs.YtmneemhplffemaaGreatDoorRR.Tab Go.Proofs.YtmneemhplffemaaGreatDoorRRW.PrintWords
set_option linter.unusedVariables false
set_option linter.unusedSimpArgs false
theorem lit_R {α : Type} (d : Kd α) (W : World) (e : Nat) (xs : List α) (inner : List Value) (hrep : Reps (d.M W W.heap.size (fun _ => True)) d.sz xs inner) (hm : xs.length ≤ 9223372036854775807) :
    d.R e (W.alloc (.cells inner.toArray e)) W.heap.size (fun _ => True) (.slice (some ⟨W.heap.size, 0, none⟩) xs.length xs.length) xs := by
  refine ⟨fun _ _ => trivial, inner, ?_, ?_⟩
  · have h2 := World.ownsRow_lit (base := W.heap.size) (e := e) (size := d.sz) W inner.toArray xs.length (Nat.le_refl _) (by simpa [maxLen] using hm) (by simpa using hrep.1)
    simpa using h2
  · refine hrep.imp_ (fun p c hp => d.M_mono (fun k hk => ⟨trivial, fun he => ?_⟩) (Kd.M_below (d.M_bound hp) (below_alloc (Below.refl _ _) _)))
    have h3 : k = W.heap.size := by simpa [Value.ownBlock] using he
    have := hk.2.2.1
    omega
def opA : S78 := ⟨2, ⟨#[47, 97]⟩, ⟨#[120]⟩, -1, 0⟩
def noteA : Note := { zeroNote 2 with f2 := 1, f4 := 2, f9 := [opA] }
def noteB : Note := { zeroNote 22 with f1 := ⟨3, 2, 1⟩ }
theorem okA : mCheck noteA = true := by kernel_rfl
theorem encA : encNote noteA = [2, 1, 2, 1, 2, 2, 47, 97, 1, 120, 0, 0] := by kernel_rfl
theorem okB : mCheck noteB = true := by kernel_rfl
theorem decB : dNote [22, 3, 2, 1] = some noteB := by kernel_rfl
theorem okC : mCheck (zeroNote 1) = false := by kernel_rfl
theorem saneA : Sane noteA := ⟨(fun r hr => absurd hr (by simp [noteA, zeroNote])), by simp [noteA], Nat.zero_le _, Nat.zero_le _, Nat.zero_le _, Nat.zero_le _, Nat.zero_le _⟩
theorem opsA (W : World) : Reps (k78.M W W.heap.size (fun _ => True)) k78.sz [opA] [.int .i64 2, .string ⟨#[47, 97]⟩, .string ⟨#[120]⟩, .int .i64 (-1), .int .i64 0] := by
  refine ⟨rfl, fun j p h => ?_⟩
  match j, h with
  | 0, h =>
    simp only [List.getElem?_cons_zero, Option.some.injEq] at h
    subst h
    exact k78_mkM W W.heap.size _ opA
  | j + 1, h => simp at h
theorem bytesLit (W : World) (xs : List Int) : Reps ((Kd.int .u8).M W W.heap.size (fun _ => True)) (Kd.int .u8).sz xs (xs.map (Value.int .u8)) := by
  refine ⟨by rw [List.length_map]; exact (Nat.mul_one _).symm, fun j p h => ?_⟩
  obtain ⟨hj, hp⟩ := List.getElem?_eq_some_iff.1 h
  have e : (((xs.map (Value.int .u8)).drop (j * 1)).take 1) = [Value.int .u8 p] := by
    rw [Nat.mul_one, List.drop_eq_getElem_cons (by rw [List.length_map]; exact hj), List.take_succ_cons, List.take_zero, List.getElem_map, hp]
  exact e
theorem litA (W : World) : BRow (W.alloc (.cells #[.int .u8 2, .int .u8 1, .int .u8 2, .int .u8 1, .int .u8 2, .int .u8 2, .int .u8 47, .int .u8 97, .int .u8 1, .int .u8 120, .int .u8 0, .int .u8 0] 5)) W.heap.size (.slice (some ⟨W.heap.size, 0, none⟩) 12 12) [2, 1, 2, 1, 2, 2, 47, 97, 1, 120, 0, 0] :=
  lit_R (Kd.int .u8) W 5 [2, 1, 2, 1, 2, 2, 47, 97, 1, 120, 0, 0] _ (bytesLit W _) (by decide)
theorem litB (W : World) : BRow (W.alloc (.cells #[.int .u8 22, .int .u8 3, .int .u8 2, .int .u8 1] 5)) W.heap.size (.slice (some ⟨W.heap.size, 0, none⟩) 4 4) [22, 3, 2, 1] :=
  lit_R (Kd.int .u8) W 5 [22, 3, 2, 1] _ (bytesLit W _) (by decide)
theorem keyA (W : World) : k34.M (W.alloc (.cells #[.int .i64 2, .string ⟨#[47, 97]⟩, .string ⟨#[120]⟩, .int .i64 (-1), .int .i64 0] 78)) W.heap.size (fun _ => True) noteA [.int .i64 2, .int .i64 0, .int .i64 0, .int .i64 0, .int .i64 1, .int .i64 0, .int .i64 2, .int .i64 0, .int .i64 0, .int .i64 0, .int .i64 0, .slice (some ⟨W.heap.size, 0, none⟩) 1 1, .slice none 0 0, .int .i64 0, .int .i64 0, .int .i64 0, .slice none 0 0, .slice none 0 0, .slice none 0 0, .slice none 0 0, .string ⟨#[]⟩] :=
  k34_mkM _ _ _ noteA (Kd.R_mono (lit_R k78 W 78 [opA] _ (opsA W) (by decide)) (fun _ _ => trivial)) (Kd.R_nil _ _ _ _ _) (Kd.R_nil _ _ _ _ _) (Kd.R_nil _ _ _ _ _) (Kd.R_nil _ _ _ _ _) (Kd.R_nil _ _ _ _ _)
set_option maxRecDepth 100000 in
set_option maxHeartbeats 8000000 in
theorem c_begins (W : World) (HE : EnvN W) : Calls Tryz.prog 15 #[] W fun e W' => e = .returned (.bool true) ∧ Below W.heap.size W W' := by
  have HE := Aside0.mk HE
  have HKA := Aside0.mk (keyA W)
  go_enter Tryz.func15, Tryz.ntmps15
  have HMA := Aside0.mk okA
  have hbA := below_alloc (Below.refl W.heap.size W) (Obj.cells #[.int .i64 2, .string ⟨#[47, 97]⟩, .string ⟨#[120]⟩, .int .i64 (-1), .int .i64 0] 78 (0, 0))
  have HBA := Aside0.mk hbA
  have hea := c_encodeP _ _ noteA _ (k34.K_of_M HKA.out) (Below.refl _ _) (HE.out.at_ hbA) saneA
  have HEA := Aside0.mk hea
  clear hbA hea
  go_upto_region 2 with (go_at_call 21; (with_reducible refine HEA.out.mono ?_); rintro e w2 ⟨hb2, _, hok⟩; obtain ⟨va, rfl, hva⟩ := hok okA; rw [encA] at hva; obtain ⟨A, c, hea⟩ := Kd.R_slice hva; rw [show ([2, 1, 2, 1, 2, 2, 47, 97, 1, 120, 0, 0] : List Int).length = 12 from rfl] at hea; subst hea; have HVA := Aside0.mk hva; have HB2 := Aside0.mk (below_step HBA.out hb2); clear hok hb2 hva)
  clear HEA HKA HBA HMA
  have hb3 := below_alloc (Below.refl w2.heap.size w2) (Obj.cells #[.int .u8 22, .int .u8 3, .int .u8 2, .int .u8 1] 5 (0, 0))
  have HB3 := Aside0.mk (below_step HB2.out hb3)
  have HV3 := Aside0.mk (Kd.R_below HVA.out hb3)
  have hdd : Get.Data (w2.alloc (Obj.cells #[.int .u8 22, .int .u8 3, .int .u8 2, .int .u8 1] 5 (0, 0))) (some ⟨w2.heap.size, 0, none⟩) 4 [22, 3, 2, 1] := ⟨(Kd.R_reads' (litB w2)).2.2, (by intro b hb; simp at hb; omega), by decide, by decide⟩
  have hed := c_decodeP _ _ _ 4 [22, 3, 2, 1] hdd (Below.refl _ _) (HE.out.at_ HB3.out)
  rw [show ([22, 3, 2, 1] : List Int).length = 4 from rfl] at hed
  have HED := Aside0.mk hed
  clear hb3 hdd hed
  go_upto_region 3 with (first | (go_at_call 24; (with_reducible refine HED.out.mono ?_); rintro e w4 ⟨hb4, _, hok, _⟩; obtain ⟨cs, hM, rfl⟩ := hok (by decide) noteB decB okB; have HM4 := Aside0.mk hM; have HV4 := Aside0.mk (Kd.R_below HV3.out hb4); have HB4 := Aside0.mk (below_step HB3.out hb4); have HK4 := Aside0.mk (k34.K_of_M hM); have HSZ := Aside0.mk (cs_size HK4.out); clear hok hb4 hM) | ((with_reducible refine gate_store2 (t := 34) rfl ?_); refine store_row (old := zeroCells.toArray) (cs := cs.toArray) rfl rfl rfl (Mem.blk_alloc _) rfl rfl HSZ.out (note_size HK4.out) (note_one HK4.out) ?_; intro w5 hm5 hx5; have HX5 := Aside0.mk hx5; have hb5 := Moved.above_ hm5 (Nat.le_refl _); have HV5 := Aside0.mk (Kd.R_below HV4.out hb5); have HB5 := Aside0.mk (below_step HB4.out hb5); clear hm5 hx5 hb5))
  have hv0 : w5.cell? ⟨w4.heap.size, 0, none⟩ = some (.int .i64 22) ∧ w5.cell? ⟨w4.heap.size, 1, none⟩ = some (.int .i64 3) ∧ w5.cell? ⟨w4.heap.size, 2, none⟩ = some (.int .i64 2) ∧ w5.cell? ⟨w4.heap.size, 3, none⟩ = some (.int .i64 1) := by
    obtain ⟨v11, v12, v16, v17, v18, v19, rfl, _⟩ := k34_openM HM4.out
    exact ⟨blk_cell HX5.out 0, blk_cell HX5.out 1, blk_cell HX5.out 2, blk_cell HX5.out 3⟩
  have HV0 := Aside0.mk hv0
  have hee := c_encodeP w5 w5 (zeroNote 1) [.int .i64 1, .int .i64 0, .int .i64 0, .int .i64 0, .int .i64 0, .int .i64 0, .int .i64 0, .int .i64 0, .int .i64 0, .int .i64 0, .int .i64 0, .slice none 0 0, .slice none 0 0, .int .i64 0, .int .i64 0, .int .i64 0, .slice none 0 0, .slice none 0 0, .slice none 0 0, .slice none 0 0, .string ⟨#[]⟩] (k34.K_of_M (zero_M w5 w5.heap.size 1)) (Below.refl _ _) (HE.out.at_ HB5.out) (sane_zero 1)
  have HEE := Aside0.mk hee
  clear hv0 hee HED HSZ HK4 HM4 HX5 HV4 HB4 HV3 HB3 HB2 HVA
  go_upto_region 4 with (go_loud (go_at_call 21; (with_reducible refine HEE.out.mono ?_); rintro e w6 ⟨hb6, hok, _⟩; obtain rfl := hok okC; have HV6 := Aside0.mk (Kd.R_below HV5.out hb6); have HB6 := Aside0.mk (below_step HB5.out hb6); have hbl := below_alloc (Below.refl w6.heap.size w6) (Obj.cells #[.int .u8 2, .int .u8 1, .int .u8 2, .int .u8 1, .int .u8 2, .int .u8 2, .int .u8 47, .int .u8 97, .int .u8 1, .int .u8 120, .int .u8 0, .int .u8 0] 5 (0, 0)); have HBL := Aside0.mk (below_step HB6.out hbl); have HB67 := Aside0.mk hb6; have HBL7 := Aside0.mk hbl; clear hb6 hbl hok))
  have hn1 := pw_cell_below HBL7.out (pw_cell_below HB67.out HV0.out.1)
  have hn2 := pw_cell_below HBL7.out (pw_cell_below HB67.out HV0.out.2.1)
  have hn3 := pw_cell_below HBL7.out (pw_cell_below HB67.out HV0.out.2.2.1)
  have hn4 := pw_cell_below HBL7.out (pw_cell_below HB67.out HV0.out.2.2.2)
  have hN := Aside0.mk (And.intro hn1 (And.intro hn2 (And.intro hn3 hn4)))
  have hcb : Calls Tryz.prog 23 #[.slice A 12 c, .slice (some ⟨w6.heap.size, 0, none⟩) 12 12] (w6.alloc (Obj.cells #[.int .u8 2, .int .u8 1, .int .u8 2, .int .u8 1, .int .u8 2, .int .u8 2, .int .u8 47, .int .u8 97, .int .u8 1, .int .u8 120, .int .u8 0, .int .u8 0] 5 (0, 0))) fun e W' => e = .returned (.bool (decide (([2, 1, 2, 1, 2, 2, 47, 97, 1, 120, 0, 0] : List Int) = [2, 1, 2, 1, 2, 2, 47, 97, 1, 120, 0, 0]))) ∧ Below _ _ W' :=
    c_bytes _ A _ c 12 [2, 1, 2, 1, 2, 2, 47, 97, 1, 120, 0, 0] [2, 1, 2, 1, 2, 2, 47, 97, 1, 120, 0, 0] (Kd.C_below (Kd.R_reads' HV6.out).2.2 HBL7.out) (Kd.R_reads' (litA w6)).2.2
  rw [decide_eq_true rfl] at hcb
  have HCB := Aside0.mk hcb
  clear hcb HEE HV5 HB5 HV0 HB67 hn1 hn2 hn3 hn4 HBL7 HV6 HB6
  go_wp2_with (go_loud (go_at_call 23; (with_reducible refine HCB.out.mono ?_); rintro e w8 ⟨rfl, hb8⟩; obtain ⟨hm1, hm2, hm3, hm4⟩ := hN.out; have m_1 := pw_cell_below hb8 hm1; have m_2 := pw_cell_below hb8 hm2; have m_3 := pw_cell_below hb8 hm3; have m_4 := pw_cell_below hb8 hm4; have HB8 := Aside0.mk (below_step HBL.out hb8); clear hb8 hm1 hm2 hm3 hm4 hN))
  go_ret
  exact ⟨rfl, HB8.out⟩
end Go.Proofs.YtmneemhplffemaaGreatDoorRR.Same
namespace Go.Proofs.YtmneemhplffemaaGreatDoorRR.Law
open Go.RowKit Go.Proofs.YtmneemhplffemaaGreatDoorRR.Ord Go.Proofs.YtmneemhplffemaaGreatDoorRR.Name Go.Proofs.YtmneemhplffemaaGreatDoorRR.Ext Go.Proofs.YtmneemhplffemaaGreatDoorRR.Wire Go.Proofs.YtmneemhplffemaaGreatDoorRR.Mem Go.Proofs.YtmneemhplffemaaGreatDoorRR.Put Go.Proofs.YtmneemhplffemaaGreatDoorRR.Get Go.Proofs.YtmneemhplffemaaGreatDoorRR.Ki Go.Proofs.YtmneemhplffemaaGreatDoorRR.Chk Go.Proofs.YtmneemhplffemaaGreatDoorRR.May Go.Proofs.YtmneemhplffemaaGreatDoorRRW.PrintWords
set_option linter.unusedVariables false
/-- Bytes, and at most so many. -/
def Fine (xs : List Int) (n : Nat) : Prop := xs.length ≤ n ∧ ∀ b ∈ xs, 0 ≤ b ∧ b < 256
theorem Fine.mono {xs : List Int} {n m : Nat} (h : Fine xs n) (hm : n ≤ m) : Fine xs m := ⟨Nat.le_trans h.1 hm, h.2⟩
theorem fine_app {xs ys : List Int} {n m : Nat} (h : Fine xs n) (k : Fine ys m) : Fine (xs ++ ys) (n + m) := by
  refine ⟨?_, fun b hb => ?_⟩
  · rw [List.length_append]
    exact Nat.add_le_add h.1 k.1
  · rcases List.mem_append.1 hb with hb | hb
    · exact h.2 b hb
    · exact k.2 b hb
theorem fine_flat {α : Type} {f : α → List Int} {B : Nat} : ∀ {l : List α} {n : Nat}, l.length ≤ n → (∀ y ∈ l, Fine (f y) B) → Fine (l.flatMap f) (n * B) := by
  intro l
  induction l with
  | nil => intro n _ _; exact ⟨by simp, by simp⟩
  | cons a l ih =>
    intro n hn h
    obtain ⟨m, rfl⟩ : ∃ m, n = m + 1 := ⟨n - 1, by simp at hn; omega⟩
    rw [List.flatMap_cons, Nat.succ_mul, Nat.add_comm]
    exact fine_app (h a List.mem_cons_self) (ih (by simp at hn; omega) (fun y hy => h y (List.mem_cons_of_mem _ hy)))
theorem fine_enc (f : Nat) : ∀ v : Nat, v < 128 ^ (f + 1) → ∀ b ∈ encN f v, 0 ≤ b ∧ b < 256 := by
  induction f with
  | zero =>
    intro v hv b hb
    simp only [encN, List.mem_singleton] at hb
    subst hb
    simp at hv
    omega
  | succ f ih =>
    intro v hv b hb
    unfold encN at hb
    split at hb
    · simp only [List.mem_singleton] at hb
      subst hb
      omega
    · rcases List.mem_cons.1 hb with rfl | hb
      · omega
      · refine ih (v / 128) ?_ b hb
        rw [Nat.pow_succ] at hv
        exact Nat.div_lt_of_lt_mul (by rw [Nat.mul_comm]; exact hv)
theorem fine_num {v : Int} (h : isN v) : Fine (encNum v) 5 := by
  refine ⟨(encNum_len v).2, fine_enc 4 v.toNat ?_⟩
  have h1 := h.1
  have h2 := h.2
  have : (128 : Nat) ^ (4 + 1) = 34359738368 := by decide
  rw [this]
  omega
theorem fine_txt {s : ByteArray} {n : Nat} (h : s.size ≤ n) (hn : n ≤ 2147483647) : Fine (encTxt s) (5 + n) := by
  refine fine_app (fine_num ⟨by omega, by omega⟩) ⟨by rw [bytesOf_length]; exact h, fun b hb => ?_⟩
  simp only [bytesOf, List.mem_map] at hb
  obtain ⟨c, _, rfl⟩ := hb
  have := c.toNat_lt
  omega
theorem fine_list {α : Type} {f : α → List Int} {B n : Nat} {l : List α} (hn : l.length ≤ n) (hm : n ≤ 2147483647) (h : ∀ y ∈ l, Fine (f y) B) : Fine (encList f l) (5 + n * B) :=
  fine_app (fine_num ⟨by omega, by omega⟩) (fine_flat hn h)
theorem fine_op {x : S78} (h : OpOk x) : Fine (encOp x) 542 := by
  obtain ⟨n0, t1, t2, n3, n4⟩ := h
  refine (fine_app (fine_app (fine_app (fine_app (fine_num n0) (fine_txt t1 (by decide))) (fine_txt t2 (by decide))) (m := 10) ?_) (fine_num n4)).mono (by decide)
  split
  · exact (fine_num ⟨by decide, by decide⟩).mono (by decide)
  · rename_i hn
    exact fine_app (fine_num ⟨by decide, by decide⟩) (fine_num (n3.resolve_left hn))
theorem fine_entry {x : S55} (h : EntryOk x) : Fine (encEntry x) 2198 := by
  obtain ⟨n0, n1, n2, n3, n4, m5, l5⟩ := h
  refine (fine_app (fine_flat (n := 5) (B := 5) (Nat.le_refl _) (fun y hy => ?_)) (fine_list m5 (by decide) (fun y hy => fine_op (l5 y hy)))).mono (by decide)
  simp only [List.mem_cons, List.not_mem_nil, or_false] at hy
  rcases hy with rfl | rfl | rfl | rfl | rfl <;> exact fine_num (by assumption)
theorem fine_result {x : S81} (h : ResultOk x) : Fine (encResult x) 17300 := by
  obtain ⟨t0, t1, n2, n3, n4, n5, m6, l6⟩ := h
  refine (fine_app (fine_app (fine_app (fine_txt t0 (by decide)) (fine_txt t1 (by decide))) (fine_flat (n := 4) (B := 5) (Nat.le_refl _) (fun y hy => ?_))) (fine_list m6 (by decide) (fun y hy => fine_txt (l6 y hy) (by decide)))).mono (by decide)
  simp only [List.mem_cons, List.not_mem_nil, or_false] at hy
  rcases hy with rfl | rfl | rfl | rfl <;> exact fine_num (by assumption)
theorem fine_reply {x : S29} (h : ReplyOk x) : Fine (encReply x) 69220 := by
  obtain ⟨n0, n1, n2, m3, l3⟩ := h
  exact (fine_app (fine_app (fine_app (fine_num n0) (fine_num n1)) (fine_num n2)) (fine_list m3 (by decide) (fun y hy => fine_result (l3 y hy)))).mono (by decide)
theorem fine_watch {x : S96} (h : WatchOk x) : Fine (encWatch x) 276 := by
  obtain ⟨n0, n2, n3, t1⟩ := h
  exact (fine_app (fine_app (fine_app (fine_num n0) (fine_txt t1 (by decide))) (fine_num n2)) (fine_num n3)).mono (by decide)
theorem fine_seen {x : S88} (h : mSeen x = true) : Fine (encSeen x) 181 := by
  unfold mSeen at h
  simp only [Bool.and_eq_true, decide_eq_true_eq] at h
  obtain ⟨⟨h0, h1⟩, h2⟩ := h
  exact (fine_app (fine_app (fine_txt (is_size h0) (by decide)) (fine_txt (n := 64) (by omega) (by decide))) (fine_num (isN_ok h2))).mono (by decide)
theorem fine_shot {i : Int} {x : S84} (hi : isN i) (h : mShot x = true) : Fine (encPart ⟨i, x⟩) 11800 := by
  unfold mShot at h
  simp only [Bool.and_eq_true, decide_eq_true_eq] at h
  obtain ⟨⟨⟨h0, h1⟩, h2⟩, h3, h4⟩ := h
  exact (fine_app (fine_app (fine_app (fine_app (fine_num hi) (fine_num (isN_ok h0))) (fine_txt (is_size h1) (by decide))) (fine_num (kind_num h2))) (fine_list (n := 64) (by omega) (by decide) (fun y hy => fine_seen (List.all_eq_true.1 h4 y hy)))).mono (by decide)
theorem fine_part {x : S86} (h : mPart x = true) : Fine (encPart x) 11800 := by
  unfold mPart at h
  simp only [Bool.and_eq_true, decide_eq_true_eq] at h
  exact fine_shot (i := x.f0) (x := x.f1) (isN_ok h.1.1) h.2
theorem fine_empty {i : Int} {x : S84} (hi : isN i) (h : mEmpty x = true) : Fine (encPart ⟨i, x⟩) 11800 := by
  unfold mEmpty at h
  simp only [Bool.and_eq_true, beq_iff_eq] at h
  obtain ⟨⟨⟨h0, h1⟩, h2⟩, h3⟩ := h
  have h1' := empty_size h1
  exact (fine_app (fine_app (fine_app (fine_app (fine_num hi) (fine_num (v := x.f0) ⟨by omega, by omega⟩)) (fine_txt (s := x.f1) (n := 102) (by omega) (by decide))) (fine_num (v := x.f2) ⟨by omega, by omega⟩)) (fine_list (l := x.f3) (n := 0) (B := 181) (by omega) (by decide) (fun y hy => by rw [List.eq_nil_of_length_eq_zero h3] at hy; cases hy))).mono (by decide)
theorem fine_tagged {x : S148} (h : mTagged x = true) : Fine (encTagged x) 212 := by
  have hk := tagged_ok h
  unfold mTagged at h
  simp only [Bool.and_eq_true, decide_eq_true_eq] at h
  obtain ⟨⟨⟨⟨⟨⟨h0, h1⟩, h2⟩, h3⟩, h4⟩, h5⟩, h6⟩ := h
  exact (fine_app (fine_app (fine_app (fine_app (fine_num (kind_num h0)) (fine_txt (is_size h1) (by decide))) (fine_txt (n := 64) (by omega) (by decide))) (fine_num (isN_ok h3))) (fine_list (n := 4) (by omega) (by decide) (fun y hy => fine_num (hk.l4 y hy)))).mono (by decide)
theorem fine_event {x : S91} (h : mItem x = true) (hm : x.f2 = false) : Fine (encItem x) 13600 := by
  unfold mItem at h
  rw [hm] at h
  simp only [Bool.and_eq_true, Bool.false_eq_true, if_false, decide_eq_true_eq, beq_iff_eq] at h
  obtain ⟨⟨h0, h1⟩, ⟨h3, h4⟩, h5, h6⟩ := h
  unfold encItem
  rw [hm, if_neg (by decide)]
  exact (fine_app (fine_app (fine_num (isN_ok h0)) (fine_num (isN_ok h1))) (fine_app (fine_num ⟨by decide, by decide⟩) (fine_list (n := 64) (by omega) (by decide) (fun y hy => fine_tagged (List.all_eq_true.1 h6 y hy))))).mono (by decide)
theorem fine_item {x : S91} (h : mItem x = true) : Fine (encItem x) 47300 := by
  cases hm : x.f2 with
  | false => exact (fine_event h hm).mono (by decide)
  | true =>
    unfold mItem at h
    rw [hm] at h
    simp only [Bool.and_eq_true, if_true, decide_eq_true_eq, beq_iff_eq] at h
    obtain ⟨⟨h0, h1⟩, ⟨h3, h4⟩, h5, h6⟩ := h
    unfold encItem
    rw [hm, if_pos rfl]
    exact (fine_app (fine_app (fine_num (isN_ok h0)) (fine_num (isN_ok h1))) (fine_app (fine_num ⟨by decide, by decide⟩) (fine_list (n := 4) (by omega) (by decide) (fun y hy => fine_part (List.all_eq_true.1 h6 y hy))))).mono (by decide)
/-- Only the first item of a note may be a marker. -/
theorem fine_items {l : List S91} (h : mItems l = true) : Fine (encList encItem l) 142600 := by
  unfold mItems at h
  simp only [Bool.and_eq_true, Bool.not_eq_true', decide_eq_false_iff_not, decide_eq_true_eq] at h
  obtain ⟨⟨h0, h1, h2⟩, h3⟩ := h
  match l, h0, h1, h2, h3 with
  | [], h0, _, _, _ => exact absurd (by simp) h0
  | a :: r, _, h1, h2, h3 =>
    have ha := List.all_eq_true.1 h2 a List.mem_cons_self
    have hr : ∀ y ∈ r, y.f2 = false := by
      intro y hy
      obtain ⟨i, hi⟩ := List.getElem?_of_mem hy
      have hl : i < r.length := (List.getElem?_eq_some_iff.1 hi).1
      have h4 := List.all_eq_true.1 h3 i (List.mem_range.2 (by simpa using hl))
      simp only [List.drop_succ_cons, List.drop_zero, mPairAt, hi, Option.elim_some, Bool.and_eq_true, Bool.not_eq_true'] at h4
      exact h4.1
    have hlr : r.length ≤ 7 := by simp at h1; omega
    refine (fine_app (fine_num (v := ((a :: r).length : Int)) ⟨by omega, by simp at h1 ⊢; omega⟩) (m := 47300 + 7 * 13600) ?_).mono (by decide)
    rw [List.flatMap_cons]
    exact fine_app (fine_item ha) (fine_flat hlr (fun y hy => fine_event (List.all_eq_true.1 h2 y (List.mem_cons_of_mem _ hy)) (hr y hy)))
/-- The greatest that a field's bytes may be. -/
def lim : Ltr → Nat
  | .lv => 15
  | .uW | .lw | .ld | .uD => 4421
  | .ly => 69220
  | .la => 200005
  | .lo => 8677
  | .uE => 35173
  | .uI => 142600
  | .uP => 11805
  | _ => 5
theorem fine_F {x : Note} (l : Ltr) (hk : OkL l x) (h : okF l x = true) (hP : l = .uP → mGranted x = true) : Fine (encF l x) (lim l) := by
  cases l
  case lv => exact fine_app (m := 10) (fine_num hk.1) (fine_app (fine_num hk.2.1) (fine_num hk.2.2))
  case uW => exact (fine_list hk.1 (by decide) (fun y hy => fine_watch (hk.2 y hy))).mono (by decide)
  case lw => exact (fine_list hk.1 (by decide) (fun y hy => fine_watch (hk.2 y hy))).mono (by decide)
  case ld => exact (fine_list hk.1 (by decide) (fun y hy => fine_watch (hk.2 y hy))).mono (by decide)
  case uD => exact (fine_list hk.1 (by decide) (fun y hy => fine_watch (hk.2 y hy))).mono (by decide)
  case ly => exact fine_reply hk
  case la =>
    simp only [okF, decide_eq_true_eq] at h
    exact fine_txt (n := 200000) (by omega) (by decide)
  case lo => exact (fine_list hk.1 (by decide) (fun y hy => fine_op (hk.2 y hy))).mono (by decide)
  case uE => exact (fine_list hk.1 (by decide) (fun y hy => fine_entry (hk.2 y hy))).mono (by decide)
  case uI => exact fine_items h
  case uP =>
    obtain ⟨p, hp, h1⟩ := one_of h
    simp only [Bool.and_eq_true] at h1
    have hg := hP rfl
    unfold mGranted at hg
    rw [hp] at hg
    simp only [List.getElem?_cons_zero, Option.elim_some] at hg
    have hf : Fine (encPart p) 11800 := by
      split at hg
      · exact fine_shot (i := p.f0) (x := p.f1) (isN_ok h1.1) hg
      · exact fine_empty (i := p.f0) (x := p.f1) (isN_ok h1.1) hg
    show Fine (encList encPart x.f13) 11805
    rw [hp]
    exact (fine_list (n := 1) (l := [p]) (Nat.le_refl _) (by decide) (fun y hy => by rw [List.mem_singleton.1 hy]; exact hf)).mono (by decide)
  all_goals exact fine_num hk
theorem fine_word {x : Note} : ∀ {w : List Ltr}, (∀ l ∈ w, Fine (encF l x) (lim l)) → Fine (w.flatMap fun l => encF l x) ((w.map lim).foldr (· + ·) 0) := by
  intro w
  induction w with
  | nil => intro _; exact ⟨by simp, by simp⟩
  | cons l w ih =>
    intro h
    rw [List.flatMap_cons, List.map_cons, List.foldr_cons]
    exact fine_app (h l List.mem_cons_self) (ih (fun y hy => h y (List.mem_cons_of_mem _ hy)))
theorem lim_word : ∀ k : Fin 25, ((word k.val).map lim).foldr (· + ·) 0 ≤ 262107 := by decide
theorem fine_note {x : Note} (h : mCheck x = true) : Fine (encNote x) 262112 := by
  have hc := checked h
  have h0 := hc.lo
  have h1 := hc.hi
  refine (fine_app (fine_num ⟨by omega, by omega⟩) (fine_word (fun l hl => fine_F l (hc.ok l hl) (hc.right l hl) (fun hP => hc.granted (by
    subst hP
    have := word_P (k := x.f0.toNat) (by omega) hl
    omega))))).mono ?_
  have := lim_word ⟨x.f0.toNat, by omega⟩
  simp only at this
  omega
theorem note_pos (x : Note) : 1 ≤ (encNote x).length := by
  unfold encNote
  rw [List.length_append]
  have := (encNum_len x.f0).1
  omega
/-- No beginning of a note's bytes is a note. -/
theorem no_cut {x : Note} (h : mCheck x = true) {k : Nat} (hk : k < (encNote x).length) : ∀ y, dNote ((encNote x).take k) = some y → mCheck y = false := by
  intro y hy
  cases hm : mCheck y with
  | false => rfl
  | true =>
    have hB : Bytes ((encNote x).take k) := fun b hb => (fine_note h).2 b (List.mem_of_mem_take hb)
    have h1 := dNote_says hB hy
    have h2 := dNote_begins (xs := encNote x) (ys := (encNote x).drop k) (checked hm) (by rw [h1, List.take_append_drop]) (by rw [dNote_of (checked h)]; simp)
    have h3 := congrArg List.length h2
    rw [List.length_drop] at h3
    simp at h3
    omega
/-- A note's bytes with others behind them are none. -/
theorem no_more {x : Note} (h : mCheck x = true) {ys : List Int} (hy : ys ≠ []) : dNote (encNote x ++ ys) = none := by
  cases hd : dNote (encNote x ++ ys) with
  | none => rfl
  | some y => exact absurd (dNote_begins (checked h) rfl (by rw [hd]; simp)) hy
end Go.Proofs.YtmneemhplffemaaGreatDoorRR.Law
namespace Go.Proofs.YtmneemhplffemaaGreatDoorRR.Same
open Go.RowKit Go.Proofs.YtmneemhplffemaaGreatDoorRR.Row Go.Proofs.YtmneemhplffemaaGreatDoorRR.Ext Go.Proofs.YtmneemhplffemaaGreatDoorRR.Mem Go.Proofs.YtmneemhplffemaaGreatDoorRR.Tab Go.Proofs.YtmneemhplffemaaGreatDoorRRW.PrintWords
set_option linter.unusedVariables false
set_option linter.unusedSimpArgs false
set_option maxRecDepth 100000 in
set_option maxHeartbeats 8000000 in
theorem ops0 (W : World) : Calls Tryz.prog 55 #[.slice none 0 0, .slice none 0 0] W fun e W' => e = .returned (.bool true) ∧ Below W.heap.size W W' := by
  go_enter Tryz.func55, Tryz.ntmps55
  go_wp2_with fail
  go_loopw [5] (fun v W1 => v = .int .i64 0 ∧ Below W.heap.size W W1) (fun _ _ => 0)
  case atStart => exact ⟨rfl, by first | exact Below.refl _ _ | assumption | (repeat' first | exact Below.refl _ _ | refine below_alloc ?_ _)⟩
  case round =>
  obtain ⟨rfl, hb0⟩ := hrel
  go_wp2_with fail
  go_ret
  exact ⟨rfl, by assumption⟩
set_option maxRecDepth 100000 in
set_option maxHeartbeats 8000000 in
theorem parts0 (W : World) : Calls Tryz.prog 57 #[.slice none 0 0, .slice none 0 0] W fun e W' => e = .returned (.bool true) ∧ Below W.heap.size W W' := by
  go_enter Tryz.func57, Tryz.ntmps57
  go_wp2_with fail
  go_loopw [5] (fun v W1 => v = .int .i64 0 ∧ Below W.heap.size W W1) (fun _ _ => 0)
  case atStart => exact ⟨rfl, by first | exact Below.refl _ _ | assumption | (repeat' first | exact Below.refl _ _ | refine below_alloc ?_ _)⟩
  case round =>
  obtain ⟨rfl, hb0⟩ := hrel
  go_wp2_with fail
  go_ret
  exact ⟨rfl, by assumption⟩
set_option maxRecDepth 100000 in
set_option maxHeartbeats 8000000 in
theorem reply0 (W : World) : Calls Tryz.prog 56 #[.agg #[.int .i64 0, .int .i64 0, .int .i64 0, .slice none 0 0], .agg #[.int .i64 0, .int .i64 0, .int .i64 0, .slice none 0 0]] W fun e W' => e = .returned (.bool true) ∧ Below W.heap.size W W' := by
  go_enter Tryz.func56, Tryz.ntmps56
  go_wp2_with (first | ((with_reducible refine gate_box (t := 29) rfl ?_); refine box_row rfl rfl rfl ?_; intro g2 hg2 w2 hx2 hb2; have HX2 := Aside0.mk (blk_below hb2 HX1.out); have n_0 := blk_cell HX2.out 0; have n_1 := blk_cell HX2.out 1; have n_2 := blk_cell HX2.out 2; have n_3 := blk_cell HX2.out 3; have m_0 := blk_cell hx2 0; have m_1 := blk_cell hx2 1; have m_2 := blk_cell hx2 2; have m_3 := blk_cell hx2 3; simp at n_0 n_1 n_2 n_3 m_0 m_1 m_2 m_3; have HB2 := Aside0.mk (below_step HB1.out hb2); clear hx2 hb2 hg2) | ((with_reducible refine gate_box (t := 29) rfl ?_); refine box_row rfl rfl rfl ?_; intro g1 hg1 w1 hx1 hb1; have HX1 := Aside0.mk hx1; have HB1 := Aside0.mk hb1; clear hx1 hb1 hg1))
  go_loopw [5] (fun v W1 => v = .int .i64 0 ∧ Below W.heap.size W W1 ∧ W1.cell? ⟨g1, 3, none⟩ = some (.slice none 0 0)) (fun _ _ => 0)
  case atStart => exact ⟨rfl, HB2.out, n_3⟩
  case round =>
  clear n_0 n_1 n_2 n_3 m_0 m_1 m_2 m_3
  obtain ⟨rfl, hb0, n_3⟩ := hrel
  go_wp2_with fail
  go_ret
  exact ⟨rfl, hb0⟩
set_option maxRecDepth 100000 in
set_option maxHeartbeats 8000000 in
theorem same0 (W : World) : Calls Tryz.prog 19 #[.agg zeroCells.toArray, .agg zeroCells.toArray] W fun e W' => e = .returned (.bool true) ∧ Below W.heap.size W W' := by
  go_enter Tryz.func19, Tryz.ntmps19
  go_wp2_with (first | ((with_reducible refine gate_box (t := 34) rfl ?_); refine box_row rfl rfl rfl ?_; intro g2 hg2 w2 hx2 hb2; have HX2 := Aside0.mk (blk_below hb2 HX1.out); have HY2 := Aside0.mk hx2; have HB2 := Aside0.mk (below_step HB1.out hb2); clear hx2 hb2 hg2; have n_0 : w2.cell? ⟨g1, 0, none⟩ = some (.int .i64 0) := blk_cell HX2.out 0; have n_1 : w2.cell? ⟨g1, 1, none⟩ = some (.int .i64 0) := blk_cell HX2.out 1; have n_2 : w2.cell? ⟨g1, 2, none⟩ = some (.int .i64 0) := blk_cell HX2.out 2; have n_3 : w2.cell? ⟨g1, 3, none⟩ = some (.int .i64 0) := blk_cell HX2.out 3; have n_4 : w2.cell? ⟨g1, 4, none⟩ = some (.int .i64 0) := blk_cell HX2.out 4; have n_5 : w2.cell? ⟨g1, 5, none⟩ = some (.int .i64 0) := blk_cell HX2.out 5; have n_6 : w2.cell? ⟨g1, 6, none⟩ = some (.int .i64 0) := blk_cell HX2.out 6; have n_7 : w2.cell? ⟨g1, 7, none⟩ = some (.int .i64 0) := blk_cell HX2.out 7; have n_8 : w2.cell? ⟨g1, 8, none⟩ = some (.int .i64 0) := blk_cell HX2.out 8; have n_9 : w2.cell? ⟨g1, 9, none⟩ = some (.int .i64 0) := blk_cell HX2.out 9; have n_10 : w2.cell? ⟨g1, 10, none⟩ = some (.int .i64 0) := blk_cell HX2.out 10; have n_20 : w2.cell? ⟨g1, 20, none⟩ = some (.string ⟨#[]⟩) := blk_cell HX2.out 20; have n_11 : w2.cell? ⟨g1, 11, none⟩ = some (.slice none 0 0) := blk_cell HX2.out 11; have n_12 : w2.cell? ⟨g1, 12, none⟩ = some (.slice none 0 0) := blk_cell HX2.out 12; have n_17 : w2.cell? ⟨g1, 17, none⟩ = some (.slice none 0 0) := blk_cell HX2.out 17; have n_19 : w2.cell? ⟨g1, 19, none⟩ = some (.slice none 0 0) := blk_cell HX2.out 19; have m_0 : w2.cell? ⟨g2, 0, none⟩ = some (.int .i64 0) := blk_cell HY2.out 0; have m_1 : w2.cell? ⟨g2, 1, none⟩ = some (.int .i64 0) := blk_cell HY2.out 1; have m_2 : w2.cell? ⟨g2, 2, none⟩ = some (.int .i64 0) := blk_cell HY2.out 2; have m_3 : w2.cell? ⟨g2, 3, none⟩ = some (.int .i64 0) := blk_cell HY2.out 3; have m_4 : w2.cell? ⟨g2, 4, none⟩ = some (.int .i64 0) := blk_cell HY2.out 4; have m_5 : w2.cell? ⟨g2, 5, none⟩ = some (.int .i64 0) := blk_cell HY2.out 5; have m_6 : w2.cell? ⟨g2, 6, none⟩ = some (.int .i64 0) := blk_cell HY2.out 6; have m_7 : w2.cell? ⟨g2, 7, none⟩ = some (.int .i64 0) := blk_cell HY2.out 7; have m_8 : w2.cell? ⟨g2, 8, none⟩ = some (.int .i64 0) := blk_cell HY2.out 8; have m_9 : w2.cell? ⟨g2, 9, none⟩ = some (.int .i64 0) := blk_cell HY2.out 9; have m_10 : w2.cell? ⟨g2, 10, none⟩ = some (.int .i64 0) := blk_cell HY2.out 10; have m_20 : w2.cell? ⟨g2, 20, none⟩ = some (.string ⟨#[]⟩) := blk_cell HY2.out 20; have m_11 : w2.cell? ⟨g2, 11, none⟩ = some (.slice none 0 0) := blk_cell HY2.out 11; have m_12 : w2.cell? ⟨g2, 12, none⟩ = some (.slice none 0 0) := blk_cell HY2.out 12; have m_17 : w2.cell? ⟨g2, 17, none⟩ = some (.slice none 0 0) := blk_cell HY2.out 17; have m_19 : w2.cell? ⟨g2, 19, none⟩ = some (.slice none 0 0) := blk_cell HY2.out 19; skip) | ((with_reducible refine gate_box (t := 34) rfl ?_); refine box_row rfl rfl rfl ?_; intro g1 hg1 w1 hx1 hb1; have HX1 := Aside0.mk hx1; have HB1 := Aside0.mk hb1; clear hx1 hb1 hg1) | (go_at_call 55; (with_reducible refine (ops0 _).mono ?_); rintro e w3 ⟨rfl, hb3⟩; have HX3 := Aside0.mk (blk_below hb3 HX2.out); have HY3 := Aside0.mk (blk_below hb3 HY2.out); have HB3 := Aside0.mk (below_step HB2.out hb3); clear hb3; have p_13 : w3.cell? ⟨g1, 13, none⟩ = some (.int .i64 0) := blk_cell HX3.out 13; have p_14 : w3.cell? ⟨g1, 14, none⟩ = some (.int .i64 0) := blk_cell HX3.out 14; have p_15 : w3.cell? ⟨g1, 15, none⟩ = some (.int .i64 0) := blk_cell HX3.out 15; have p_16 : w3.cell? ⟨g1, 16, none⟩ = some (.slice none 0 0) := blk_cell HX3.out 16; have r_13 : w3.cell? ⟨g2, 13, none⟩ = some (.int .i64 0) := blk_cell HY3.out 13; have r_14 : w3.cell? ⟨g2, 14, none⟩ = some (.int .i64 0) := blk_cell HY3.out 14; have r_15 : w3.cell? ⟨g2, 15, none⟩ = some (.int .i64 0) := blk_cell HY3.out 15; have r_16 : w3.cell? ⟨g2, 16, none⟩ = some (.slice none 0 0) := blk_cell HY3.out 16; skip) | (go_at_call 56; (with_reducible refine (reply0 _).mono ?_); rintro e w4 ⟨rfl, hb4⟩; have HX4 := Aside0.mk (blk_below hb4 HX3.out); have HY4 := Aside0.mk (blk_below hb4 HY3.out); have HB4 := Aside0.mk (below_step HB3.out hb4); clear hb4; have s_18 : w4.cell? ⟨g1, 18, none⟩ = some (.slice none 0 0) := blk_cell HX4.out 18; have t_18 : w4.cell? ⟨g2, 18, none⟩ = some (.slice none 0 0) := blk_cell HY4.out 18; skip) | (go_at_call 57; (with_reducible refine (parts0 _).mono ?_); rintro e w5 ⟨rfl, hb5⟩; have HX5 := Aside0.mk (blk_below hb5 HX4.out); have HB5 := Aside0.mk (below_step HB4.out hb5); clear hb5))
  go_loopw [5] (fun v W1 => v = .int .i64 0 ∧ Aside0 (Below W.heap.size W W1) ∧ Aside0 (W1.heap[g1]? = some (.cells zeroCells.toArray 34 (0, 0)))) (fun _ _ => 0)
  case atStart => exact ⟨rfl, HB5, HX5⟩
  case round =>
  clear HB5 HX5
  obtain ⟨rfl, HB5, HX5⟩ := hrel
  have q_12 : wr.cell? ⟨g1, 12, none⟩ = some (.slice none 0 0) := blk_cell HX5.out 12
  have q_17 : wr.cell? ⟨g1, 17, none⟩ = some (.slice none 0 0) := blk_cell HX5.out 17
  have q_19 : wr.cell? ⟨g1, 19, none⟩ = some (.slice none 0 0) := blk_cell HX5.out 19
  go_wp2_with fail
  go_loopw [7] (fun v W1 => v = .int .i64 0 ∧ Aside0 (Below W.heap.size W W1) ∧ Aside0 (W1.heap[g1]? = some (.cells zeroCells.toArray 34 (0, 0)))) (fun _ _ => 0)
  case atStart => exact ⟨rfl, HB5, HX5⟩
  case round =>
  clear HB5 HX5 q_12 q_17 q_19
  obtain ⟨rfl, HB5, HX5⟩ := hrel
  have q_17 := blk_cell HX5.out 17
  have q_19 := blk_cell HX5.out 19
  simp [zeroCells] at q_17 q_19
  go_wp2_with fail
  go_loopw [8] (fun v W1 => v = .int .i64 0 ∧ Aside0 (Below W.heap.size W W1) ∧ Aside0 (W1.heap[g1]? = some (.cells zeroCells.toArray 34 (0, 0)))) (fun _ _ => 0)
  case atStart => exact ⟨rfl, HB5, HX5⟩
  case round =>
  clear HB5 HX5 q_17 q_19
  obtain ⟨rfl, HB5, HX5⟩ := hrel
  have q_17 := blk_cell HX5.out 17
  have q_19 := blk_cell HX5.out 19
  simp [zeroCells] at q_17 q_19
  go_wp2_with fail
  go_ret
  exact ⟨rfl, HB5.out⟩
end Go.Proofs.YtmneemhplffemaaGreatDoorRR.Same
namespace Go.Proofs.YtmneemhplffemaaGreatDoorRR.Arg
open Go.RowKit Go.ChangeShapes Go.WideShapes Go.Deep Go.Proofs.YtmneemhplffemaaGreatDoorRR.Ki Go.Proofs.YtmneemhplffemaaGreatDoorRR.Tab Go.Proofs.YtmneemhplffemaaGreatDoorRRW.PrintWords
set_option linter.unusedVariables false
set_option linter.unusedSimpArgs false
/-- What can be read at a type is of a kind, and is as its weight allows. -/
def Opens {α : Type} (P : Program) (t : TypeId) (k : Kd α) (ok : α → Prop) : Prop :=
  ∀ {H : Type} (enc : TypeId × Value → H) (w : World) (base fuel : Nat) (sp : Nat → Bool) (cs : List Value) (x : DataW H × List MemPlace),
    DataW.trod enc P w base sp true fuel t cs = some x → (∀ n ∈ x.1.weights P t, n ≤ reachBytes) → ∃ y, k.K w y cs ∧ ok y
theorem mem_all {H : Type} {P : Program} {e : TypeId} : ∀ {l : List (DataW H)} {d : DataW H}, d ∈ l → ∀ n ∈ d.weights P e, n ∈ DataW.weightsAll P e l := by
  intro l
  induction l with
  | nil => intro d h; cases h
  | cons a l ih =>
    intro d h n hn
    simp only [DataW.weightsAll, List.mem_append]
    rcases List.mem_cons.1 h with rfl | h
    · exact .inl hn
    · exact .inr (ih h n hn)
theorem list_of {α : Type} {p : Nat → α → Prop} : ∀ n : Nat, (∀ i, i < n → ∃ x, p i x) → ∃ xs : List α, xs.length = n ∧ ∀ (i : Nat) x, xs[i]? = some x → p i x := by
  intro n
  induction n with
  | zero => intro _; exact ⟨[], rfl, fun i x h => by simp at h⟩
  | succ n ih =>
    intro h
    obtain ⟨xs, hl, hx⟩ := ih (fun i hi => h i (Nat.lt_succ_of_lt hi))
    obtain ⟨y, hy⟩ := h n (Nat.lt_succ_self n)
    refine ⟨xs ++ [y], by simp [hl], fun i x hi => ?_⟩
    rcases Nat.lt_trichotomy i n with h1 | h1 | h1
    · rw [List.getElem?_append_left (by omega)] at hi
      exact hx i x hi
    · subst h1
      rw [List.getElem?_append_right (by omega), hl, Nat.sub_self] at hi
      simp at hi
      exact hi ▸ hy
    · rw [List.getElem?_eq_none (by simp; omega)] at hi
      cases hi
section
variable {P : Program} {t : TypeId}
theorem opens_int {k : IntKind} (ht : P.underlying t = some (.int k)) : Opens P t (Kd.int k) (fun y => (Lit.int k y).wf = true) := by
  intro H enc w base fuel sp cs x h _
  obtain ⟨n, rfl, _, hw⟩ := DataW.trod_int ht h
  exact ⟨n, rfl, hw⟩
theorem opens_bool (ht : P.underlying t = some .bool) : Opens P t Kd.bool (fun _ => True) := by
  intro H enc w base fuel sp cs x h _
  obtain ⟨n, rfl, _⟩ := DataW.trod_bool ht h
  exact ⟨n, rfl, trivial⟩
theorem opens_string (ht : P.underlying t = some .string) : Opens P t Kd.string (fun s => s.size ≤ 140737488351232) := by
  intro H enc w base fuel sp cs x h hw
  obtain ⟨s, rfl, rfl, _⟩ := DataW.trod_string ht h
  refine ⟨s, rfl, ?_⟩
  have := hw s.data.toList.length (by simp [DataW.weights])
  simpa [reachBytes] using this
theorem opens_slice {α : Type} {e : TypeId} {k : Kd α} {ok : α → Prop} (ht : P.underlying t = some (.slice e)) (hB : 8 ≤ P.bytesOf e) (hk : Opens P e k ok) :
    Opens P t (Kd.slice e k) (fun ys => ys.length * 8 ≤ 140737488351232 ∧ ∀ y ∈ ys, ok y) := by
  intro H enc w base fuel sp cs x h hw
  rcases open_slice ht h with ⟨rfl, rfl⟩ | ⟨a, len, cap, m, n, D, Pl, rfl, hb, hl, hm, hmm, rfl, hx⟩
  · exact ⟨[], ⟨none, 0, rfl, Nat.le_refl _, Kd.C_nil _ _⟩, by simp, by simp⟩
  · have hlm : len ≤ m := by rw [hmm]; split <;> omega
    have hws : ∀ i, i < len → ∀ q ∈ (D i).weights P e, q ≤ reachBytes := by
      intro i hi q hq
      refine hw q ?_
      simp only [DataW.weights, ht, List.mem_cons, List.mem_append]
      exact .inr (.inl (mem_all (List.mem_map.2 ⟨i, List.mem_range.2 hi, rfl⟩) q hq))
    have hlen : len * 8 ≤ 140737488351232 := by
      have := hw ((((List.range len).map D).length + ((List.range (m - len)).map fun j => D (len + j)).length) * P.bytesOf e) (by simp only [DataW.weights, ht]; exact List.mem_cons_self)
      rw [List.length_map, List.length_range] at this
      exact Nat.le_trans (Nat.mul_le_mul (Nat.le_add_right _ _) hB) this
    obtain ⟨ys, hyl, hys⟩ := list_of (p := fun i y => (∃ c : List Value, c.length = k.sz ∧ k.K w y c ∧ ∀ (j : Nat) u, c[j]? = some u → w.cell? (a.add (i * k.sz + j)) = some u) ∧ ok y) len (fun i hi => by
      obtain ⟨cs', hc, htr⟩ := hx i (by omega)
      obtain ⟨y, hK, hy⟩ := hk enc w base n sp cs' (D i, Pl i) htr (hws i hi)
      obtain ⟨_, hcl, hcc⟩ := World.cells?_some hc
      have hsz := k.K_len hK
      refine ⟨y, ⟨cs', hsz, hK, fun j u hu => ?_⟩, hy⟩
      have hj : j < cs'.length := (List.getElem?_eq_some_iff.1 hu).1
      have h1 := hcc j (by omega)
      rw [hu, Go.Deep.add_add, ← hcl, hsz] at h1
      exact h1)
    refine ⟨ys, ⟨some a, cap, by rw [hyl], by omega, rfl, ?_, fun _ => ⟨a, rfl, fun j p hj => (hys j p hj).1⟩⟩, by rw [hyl]; exact hlen, fun y hy => ?_⟩
    · rw [hyl]
      simp only [maxLen] at hm
      omega
    · obtain ⟨i, hi⟩ := List.getElem?_of_mem hy
      exact (hys i y hi).2
def OpensFs {α : Type} (P : Program) (fs : List Field) (o sz : Nat) (k : Kd α) (ok : α → Prop) : Prop :=
  ∀ {H : Type} (enc : TypeId × Value → H) (w : World) (base fuel : Nat) (sp : Nat → Bool) (cs : List Value), cs.length = sz →
    (∀ f ∈ fs, ∃ x : DataW H × List MemPlace, DataW.trod enc P w base sp true fuel f.type ((cs.drop f.offset).take (P.cellsOf f.type)) = some x ∧ ∀ n ∈ x.1.weights P f.type, n ≤ reachBytes) →
    ∃ y, k.K w y (cs.drop o) ∧ ok y
theorem opensFs_one {α : Type} {f : Field} {o sz : Nat} {k : Kd α} {ok : α → Prop} (hf : f.offset = o) (hz : sz ≤ o + P.cellsOf f.type) (hk : Opens P f.type k ok) : OpensFs P [f] o sz k ok := by
  intro H enc w base fuel sp cs hl h
  obtain ⟨x, hx, hw⟩ := h f (List.mem_singleton.2 rfl)
  rw [hf, List.take_of_length_le (by rw [List.length_drop]; omega)] at hx
  exact hk enc w base fuel sp _ x hx hw
theorem opensFs_cons {α β : Type} {f : Field} {fs : List Field} {o sz : Nat} {k : Kd α} {ok : α → Prop} {k2 : Kd β} {ok2 : β → Prop} (hf : f.offset = o) (hk : Opens P f.type k ok) (hr : OpensFs P fs (o + P.cellsOf f.type) sz k2 ok2) :
    OpensFs P (f :: fs) o sz (Kd.pair k k2) (fun y => ok y.1 ∧ ok2 y.2) := by
  intro H enc w base fuel sp cs hl h
  obtain ⟨x, hx, hw⟩ := h f List.mem_cons_self
  rw [hf] at hx
  obtain ⟨y1, h1, o1⟩ := hk enc w base fuel sp _ x hx hw
  obtain ⟨y2, h2, o2⟩ := hr enc w base fuel sp cs hl (fun g hg => h g (List.mem_cons_of_mem _ hg))
  refine ⟨(y1, y2), ⟨_, _, ?_, h1, h2⟩, o1, o2⟩
  rw [← List.drop_drop, List.take_append_drop]
theorem opens_struct {α β : Type} {fs : Array Field} {l : List Field} {k : Kd α} {ok : α → Prop} {sz : Nat} (ht : P.underlying t = some (.struct fs)) (hl : fs.toList = l) (hc : P.cellsOf t = sz) (hs : OpensFs P l 0 sz k ok) (g : β → α) (g' : α → β) (hg : ∀ a, g (g' a) = a) :
    Opens P t (Kd.iso k g) (fun y => ok (g y)) := by
  intro H enc w base fuel sp cs x h hw
  obtain ⟨xs, n, _, rfl, hlen, hxl, hf⟩ := DataW.trod_struct ht h
  obtain ⟨y, hK, ho⟩ := hs enc w base n sp cs (by rw [hlen, hc]) (fun f hmem => by
    rw [← hl] at hmem
    obtain ⟨i, hi⟩ := List.getElem?_of_mem hmem
    have hi' : fs[i]? = some f := by rw [← Array.getElem?_toList]; exact hi
    have hil : i < fs.size := (Array.getElem?_eq_some_iff.1 hi').1
    obtain ⟨z, hz⟩ : ∃ z, xs[i]? = some z := ⟨_, List.getElem?_eq_getElem (by omega)⟩
    refine ⟨z, (hf i f hi').trans hz, fun q hq => hw q ?_⟩
    simp only [DataW.weights, ht]
    exact DataW.weights_mem_each (j := i) (t := f.type) (d := z.1) (by rw [List.getElem?_map, hi]; rfl) (by rw [List.getElem?_map, hz]; rfl) q hq)
  refine ⟨g' y, ?_, ?_⟩
  · show k.K w (g (g' y)) cs
    rw [hg]
    exact hK
  · show ok (g (g' y))
    rw [hg]
    exact ho
theorem opens_mono {α : Type} {k : Kd α} {ok ok' : α → Prop} (h : Opens P t k ok) (hi : ∀ y, ok y → ok' y) : Opens P t k ok' := by
  intro H enc w base fuel sp cs x ht hw
  obtain ⟨y, hK, ho⟩ := h enc w base fuel sp cs x ht hw
  exact ⟨y, hK, hi y ho⟩
end
/-- A value of type Op that a row can hand. -/
def OkOp (x : S78) : Prop := (Lit.int .i64 x.f0).wf = true ∧ x.f1.size ≤ 140737488351232 ∧ x.f2.size ≤ 140737488351232 ∧ (Lit.int .i64 x.f3).wf = true ∧ (Lit.int .i64 x.f4).wf = true
theorem oOp : Opens Tryz.prog 78 k78 OkOp :=
  opens_mono (opens_struct (sz := 5) Tryz.underlying78 rfl (by kernel_rfl)
    (opensFs_cons (by kernel_rfl) (opens_int Tryz.underlying3)
    (opensFs_cons (by kernel_rfl) (opens_string Tryz.underlying9)
    (opensFs_cons (by kernel_rfl) (opens_string Tryz.underlying9)
    (opensFs_cons (by kernel_rfl) (opens_int Tryz.underlying3)
    (opensFs_one (by kernel_rfl) (of_decide_eq_true (by kernel_rfl)) (opens_int Tryz.underlying3))))))
    (fun x : S78 => (x.f0, x.f1, x.f2, x.f3, x.f4)) (fun p => ⟨p.1, p.2.1, p.2.2.1, p.2.2.2.1, p.2.2.2.2⟩) (fun _ => rfl)) (fun _ h => h)
/-- A value of type Entry that a row can hand. -/
def OkEntry (x : S55) : Prop := (Lit.int .i64 x.f0).wf = true ∧ (Lit.int .i64 x.f1).wf = true ∧ (Lit.int .i64 x.f2).wf = true ∧ (Lit.int .i64 x.f3).wf = true ∧ (Lit.int .i64 x.f4).wf = true ∧ (x.f5.length * 8 ≤ 140737488351232 ∧ ∀ y ∈ x.f5, OkOp y)
theorem oEntry : Opens Tryz.prog 55 k55 OkEntry :=
  opens_mono (opens_struct (sz := 6) Tryz.underlying55 rfl (by kernel_rfl)
    (opensFs_cons (by kernel_rfl) (opens_int Tryz.underlying3)
    (opensFs_cons (by kernel_rfl) (opens_int Tryz.underlying3)
    (opensFs_cons (by kernel_rfl) (opens_int Tryz.underlying3)
    (opensFs_cons (by kernel_rfl) (opens_int Tryz.underlying3)
    (opensFs_cons (by kernel_rfl) (opens_int Tryz.underlying3)
    (opensFs_one (by kernel_rfl) (of_decide_eq_true (by kernel_rfl)) (opens_slice Tryz.underlying25 (of_decide_eq_true (by kernel_rfl)) oOp)))))))
    (fun x : S55 => (x.f0, x.f1, x.f2, x.f3, x.f4, x.f5)) (fun p => ⟨p.1, p.2.1, p.2.2.1, p.2.2.2.1, p.2.2.2.2.1, p.2.2.2.2.2⟩) (fun _ => rfl)) (fun _ h => h)
/-- A value of type Result that a row can hand. -/
def OkResult (x : S81) : Prop := x.f0.size ≤ 140737488351232 ∧ x.f1.size ≤ 140737488351232 ∧ (Lit.int .i64 x.f2).wf = true ∧ (Lit.int .i64 x.f3).wf = true ∧ (Lit.int .i64 x.f4).wf = true ∧ (Lit.int .i64 x.f5).wf = true ∧ (x.f6.length * 8 ≤ 140737488351232 ∧ ∀ y ∈ x.f6, y.size ≤ 140737488351232)
theorem oResult : Opens Tryz.prog 81 k81 OkResult :=
  opens_mono (opens_struct (sz := 7) Tryz.underlying81 rfl (by kernel_rfl)
    (opensFs_cons (by kernel_rfl) (opens_string Tryz.underlying9)
    (opensFs_cons (by kernel_rfl) (opens_string Tryz.underlying9)
    (opensFs_cons (by kernel_rfl) (opens_int Tryz.underlying3)
    (opensFs_cons (by kernel_rfl) (opens_int Tryz.underlying3)
    (opensFs_cons (by kernel_rfl) (opens_int Tryz.underlying3)
    (opensFs_cons (by kernel_rfl) (opens_int Tryz.underlying3)
    (opensFs_one (by kernel_rfl) (of_decide_eq_true (by kernel_rfl)) (opens_slice Tryz.underlying79 (of_decide_eq_true (by kernel_rfl)) (opens_string Tryz.underlying9)))))))))
    (fun x : S81 => (x.f0, x.f1, x.f2, x.f3, x.f4, x.f5, x.f6)) (fun p => ⟨p.1, p.2.1, p.2.2.1, p.2.2.2.1, p.2.2.2.2.1, p.2.2.2.2.2.1, p.2.2.2.2.2.2⟩) (fun _ => rfl)) (fun _ h => h)
/-- A value of type Reply that a row can hand. -/
def OkReply (x : S29) : Prop := (Lit.int .i64 x.f0).wf = true ∧ (Lit.int .i64 x.f1).wf = true ∧ (Lit.int .i64 x.f2).wf = true ∧ (x.f3.length * 8 ≤ 140737488351232 ∧ ∀ y ∈ x.f3, OkResult y)
theorem oReply : Opens Tryz.prog 29 k29 OkReply :=
  opens_mono (opens_struct (sz := 4) Tryz.underlying29 rfl (by kernel_rfl)
    (opensFs_cons (by kernel_rfl) (opens_int Tryz.underlying3)
    (opensFs_cons (by kernel_rfl) (opens_int Tryz.underlying24)
    (opensFs_cons (by kernel_rfl) (opens_int Tryz.underlying3)
    (opensFs_one (by kernel_rfl) (of_decide_eq_true (by kernel_rfl)) (opens_slice Tryz.underlying27 (of_decide_eq_true (by kernel_rfl)) oResult)))))
    (fun x : S29 => (x.f0, x.f1, x.f2, x.f3)) (fun p => ⟨p.1, p.2.1, p.2.2.1, p.2.2.2⟩) (fun _ => rfl)) (fun _ h => h)
/-- A value of type Watch that a row can hand. -/
def OkWatch (x : S96) : Prop := (Lit.int .i64 x.f0).wf = true ∧ x.f1.size ≤ 140737488351232 ∧ (Lit.int .i64 x.f2).wf = true ∧ (Lit.int .i64 x.f3).wf = true
theorem oWatch : Opens Tryz.prog 96 k96 OkWatch :=
  opens_mono (opens_struct (sz := 4) Tryz.underlying96 rfl (by kernel_rfl)
    (opensFs_cons (by kernel_rfl) (opens_int Tryz.underlying3)
    (opensFs_cons (by kernel_rfl) (opens_string Tryz.underlying9)
    (opensFs_cons (by kernel_rfl) (opens_int Tryz.underlying3)
    (opensFs_one (by kernel_rfl) (of_decide_eq_true (by kernel_rfl)) (opens_int Tryz.underlying3)))))
    (fun x : S96 => (x.f0, x.f1, x.f2, x.f3)) (fun p => ⟨p.1, p.2.1, p.2.2.1, p.2.2.2⟩) (fun _ => rfl)) (fun _ h => h)
/-- A value of type Seen that a row can hand. -/
def OkSeen (x : S88) : Prop := x.f0.size ≤ 140737488351232 ∧ x.f1.size ≤ 140737488351232 ∧ (Lit.int .i64 x.f2).wf = true
theorem oSeen : Opens Tryz.prog 88 k88 OkSeen :=
  opens_mono (opens_struct (sz := 3) Tryz.underlying88 rfl (by kernel_rfl)
    (opensFs_cons (by kernel_rfl) (opens_string Tryz.underlying9)
    (opensFs_cons (by kernel_rfl) (opens_string Tryz.underlying9)
    (opensFs_one (by kernel_rfl) (of_decide_eq_true (by kernel_rfl)) (opens_int Tryz.underlying3))))
    (fun x : S88 => (x.f0, x.f1, x.f2)) (fun p => ⟨p.1, p.2.1, p.2.2⟩) (fun _ => rfl)) (fun _ h => h)
/-- A value of type Shot that a row can hand. -/
def OkShot (x : S84) : Prop := (Lit.int .i64 x.f0).wf = true ∧ x.f1.size ≤ 140737488351232 ∧ (Lit.int .i64 x.f2).wf = true ∧ (x.f3.length * 8 ≤ 140737488351232 ∧ ∀ y ∈ x.f3, OkSeen y)
theorem oShot : Opens Tryz.prog 84 k84 OkShot :=
  opens_mono (opens_struct (sz := 4) Tryz.underlying84 rfl (by kernel_rfl)
    (opensFs_cons (by kernel_rfl) (opens_int Tryz.underlying3)
    (opensFs_cons (by kernel_rfl) (opens_string Tryz.underlying9)
    (opensFs_cons (by kernel_rfl) (opens_int Tryz.underlying3)
    (opensFs_one (by kernel_rfl) (of_decide_eq_true (by kernel_rfl)) (opens_slice Tryz.underlying82 (of_decide_eq_true (by kernel_rfl)) oSeen)))))
    (fun x : S84 => (x.f0, x.f1, x.f2, x.f3)) (fun p => ⟨p.1, p.2.1, p.2.2.1, p.2.2.2⟩) (fun _ => rfl)) (fun _ h => h)
/-- A value of type Part that a row can hand. -/
def OkPart (x : S86) : Prop := (Lit.int .i64 x.f0).wf = true ∧ OkShot x.f1
theorem oPart : Opens Tryz.prog 86 k86 OkPart :=
  opens_mono (opens_struct (sz := 5) Tryz.underlying86 rfl (by kernel_rfl)
    (opensFs_cons (by kernel_rfl) (opens_int Tryz.underlying3)
    (opensFs_one (by kernel_rfl) (of_decide_eq_true (by kernel_rfl)) oShot))
    (fun x : S86 => (x.f0, x.f1)) (fun p => ⟨p.1, p.2⟩) (fun _ => rfl)) (fun _ h => h)
/-- A value of type Change that a row can hand. -/
def OkChange (x : S145) : Prop := (Lit.int .i64 x.f0).wf = true ∧ x.f1.size ≤ 140737488351232 ∧ x.f2.size ≤ 140737488351232 ∧ (Lit.int .i64 x.f3).wf = true
theorem oChange : Opens Tryz.prog 145 k145 OkChange :=
  opens_mono (opens_struct (sz := 4) Tryz.underlying145 rfl (by kernel_rfl)
    (opensFs_cons (by kernel_rfl) (opens_int Tryz.underlying3)
    (opensFs_cons (by kernel_rfl) (opens_string Tryz.underlying9)
    (opensFs_cons (by kernel_rfl) (opens_string Tryz.underlying9)
    (opensFs_one (by kernel_rfl) (of_decide_eq_true (by kernel_rfl)) (opens_int Tryz.underlying3)))))
    (fun x : S145 => (x.f0, x.f1, x.f2, x.f3)) (fun p => ⟨p.1, p.2.1, p.2.2.1, p.2.2.2⟩) (fun _ => rfl)) (fun _ h => h)
/-- A value of type Tagged that a row can hand. -/
def OkTagged (x : S148) : Prop := OkChange x.f0 ∧ (x.f1.length * 8 ≤ 140737488351232 ∧ ∀ y ∈ x.f1, (Lit.int .i64 y).wf = true)
theorem oTagged : Opens Tryz.prog 148 k148 OkTagged :=
  opens_mono (opens_struct (sz := 5) Tryz.underlying148 rfl (by kernel_rfl)
    (opensFs_cons (by kernel_rfl) oChange
    (opensFs_one (by kernel_rfl) (of_decide_eq_true (by kernel_rfl)) (opens_slice Tryz.underlying146 (of_decide_eq_true (by kernel_rfl)) (opens_int Tryz.underlying3))))
    (fun x : S148 => (x.f0, x.f1)) (fun p => ⟨p.1, p.2⟩) (fun _ => rfl)) (fun _ h => h)
/-- A value of type Item that a row can hand. -/
def OkItem (x : S91) : Prop := (Lit.int .i64 x.f0).wf = true ∧ (Lit.int .i64 x.f1).wf = true ∧ True ∧ (x.f3.length * 8 ≤ 140737488351232 ∧ ∀ y ∈ x.f3, OkTagged y) ∧ (x.f4.length * 8 ≤ 140737488351232 ∧ ∀ y ∈ x.f4, OkPart y)
theorem oItem : Opens Tryz.prog 91 k91 OkItem :=
  opens_mono (opens_struct (sz := 5) Tryz.underlying91 rfl (by kernel_rfl)
    (opensFs_cons (by kernel_rfl) (opens_int Tryz.underlying3)
    (opensFs_cons (by kernel_rfl) (opens_int Tryz.underlying3)
    (opensFs_cons (by kernel_rfl) (opens_bool Tryz.underlying4)
    (opensFs_cons (by kernel_rfl) (opens_slice Tryz.underlying89 (of_decide_eq_true (by kernel_rfl)) oTagged)
    (opensFs_one (by kernel_rfl) (of_decide_eq_true (by kernel_rfl)) (opens_slice Tryz.underlying31 (of_decide_eq_true (by kernel_rfl)) oPart))))))
    (fun x : S91 => (x.f0, x.f1, x.f2, x.f3, x.f4)) (fun p => ⟨p.1, p.2.1, p.2.2.1, p.2.2.2.1, p.2.2.2.2⟩) (fun _ => rfl)) (fun _ h => h)
/-- A value of type View that a row can hand. -/
def OkView (x : S23) : Prop := (Lit.int .i64 x.f0).wf = true ∧ (Lit.int .i64 x.f1).wf = true ∧ (Lit.int .i64 x.f2).wf = true
theorem oView : Opens Tryz.prog 23 k23 OkView :=
  opens_mono (opens_struct (sz := 3) Tryz.underlying23 rfl (by kernel_rfl)
    (opensFs_cons (by kernel_rfl) (opens_int Tryz.underlying3)
    (opensFs_cons (by kernel_rfl) (opens_int Tryz.underlying3)
    (opensFs_one (by kernel_rfl) (of_decide_eq_true (by kernel_rfl)) (opens_int Tryz.underlying3))))
    (fun x : S23 => (x.f0, x.f1, x.f2)) (fun p => ⟨p.1, p.2.1, p.2.2⟩) (fun _ => rfl)) (fun _ h => h)
/-- A value of type Note that a row can hand. -/
def OkNote (x : S34) : Prop := (Lit.int .i64 x.f0).wf = true ∧ OkView x.f1 ∧ (Lit.int .i64 x.f2).wf = true ∧ (Lit.int .i64 x.f3).wf = true ∧ (Lit.int .i64 x.f4).wf = true ∧ (Lit.int .i64 x.f5).wf = true ∧ (Lit.int .i64 x.f6).wf = true ∧ (Lit.int .i64 x.f7).wf = true ∧ (Lit.int .i64 x.f8).wf = true ∧ (x.f9.length * 8 ≤ 140737488351232 ∧ ∀ y ∈ x.f9, OkOp y) ∧ (x.f10.length * 8 ≤ 140737488351232 ∧ ∀ y ∈ x.f10, OkEntry y) ∧ OkReply x.f11 ∧ (x.f12.length * 8 ≤ 140737488351232 ∧ ∀ y ∈ x.f12, OkWatch y) ∧ (x.f13.length * 8 ≤ 140737488351232 ∧ ∀ y ∈ x.f13, OkPart y) ∧ (x.f14.length * 8 ≤ 140737488351232 ∧ ∀ y ∈ x.f14, OkItem y) ∧ x.f15.size ≤ 140737488351232
theorem oNote : Opens Tryz.prog 34 k34 OkNote :=
  opens_mono (opens_struct (sz := 21) Tryz.underlying34 rfl (by kernel_rfl)
    (opensFs_cons (by kernel_rfl) (opens_int Tryz.underlying3)
    (opensFs_cons (by kernel_rfl) oView
    (opensFs_cons (by kernel_rfl) (opens_int Tryz.underlying3)
    (opensFs_cons (by kernel_rfl) (opens_int Tryz.underlying3)
    (opensFs_cons (by kernel_rfl) (opens_int Tryz.underlying3)
    (opensFs_cons (by kernel_rfl) (opens_int Tryz.underlying3)
    (opensFs_cons (by kernel_rfl) (opens_int Tryz.underlying3)
    (opensFs_cons (by kernel_rfl) (opens_int Tryz.underlying3)
    (opensFs_cons (by kernel_rfl) (opens_int Tryz.underlying24)
    (opensFs_cons (by kernel_rfl) (opens_slice Tryz.underlying25 (of_decide_eq_true (by kernel_rfl)) oOp)
    (opensFs_cons (by kernel_rfl) (opens_slice Tryz.underlying26 (of_decide_eq_true (by kernel_rfl)) oEntry)
    (opensFs_cons (by kernel_rfl) oReply
    (opensFs_cons (by kernel_rfl) (opens_slice Tryz.underlying30 (of_decide_eq_true (by kernel_rfl)) oWatch)
    (opensFs_cons (by kernel_rfl) (opens_slice Tryz.underlying31 (of_decide_eq_true (by kernel_rfl)) oPart)
    (opensFs_cons (by kernel_rfl) (opens_slice Tryz.underlying32 (of_decide_eq_true (by kernel_rfl)) oItem)
    (opensFs_one (by kernel_rfl) (of_decide_eq_true (by kernel_rfl)) (opens_string Tryz.underlying9)))))))))))))))))
    (fun x : S34 => (x.f0, x.f1, x.f2, x.f3, x.f4, x.f5, x.f6, x.f7, x.f8, x.f9, x.f10, x.f11, x.f12, x.f13, x.f14, x.f15)) (fun p => ⟨p.1, p.2.1, p.2.2.1, p.2.2.2.1, p.2.2.2.2.1, p.2.2.2.2.2.1, p.2.2.2.2.2.2.1, p.2.2.2.2.2.2.2.1, p.2.2.2.2.2.2.2.2.1, p.2.2.2.2.2.2.2.2.2.1, p.2.2.2.2.2.2.2.2.2.2.1, p.2.2.2.2.2.2.2.2.2.2.2.1, p.2.2.2.2.2.2.2.2.2.2.2.2.1, p.2.2.2.2.2.2.2.2.2.2.2.2.2.1, p.2.2.2.2.2.2.2.2.2.2.2.2.2.2.1, p.2.2.2.2.2.2.2.2.2.2.2.2.2.2.2⟩) (fun _ => rfl)) (fun _ h => h)
theorem ok_sane {x : S34} (h : OkNote x) : Sane x := by
  obtain ⟨_, _, _, _, _, _, _, _, _, h9, h10, h11, h12, h13, h14, _⟩ := h
  refine ⟨fun r hr y hy => ?_, by omega, by omega, ?_, by omega, by omega, by omega⟩
  · have h1 := h11.2.2.2.2 r hr
    have h2 := h1.2.2.2.2.2.2.2 y hy
    omega
  · have h1 := h11.2.2.2.1
    omega
theorem in_any {α : Type} {P : Program} {t : TypeId} {fs : Array Field} {k : Kd α} {ok : α → Prop} (hu : P.underlying t = some (.struct fs)) (hO : Opens P t k ok) {H : Type} {enc : TypeId × Value → H} {W : World} {r : Reach} {base : Nat} {v : Value} {d : DataW H} {ps : List MemPlace} {ts : List TypeId} {ds : List (DataW H)} {j : Nat}
    (hsz : (DataW.weightsEach P ts ds).all (· ≤ reachBytes) = true) (ht : ts[j]? = some t) (hd : ds[j]? = some d)
    (hv : Value.okWide P W r base t v) (h : DataW.Trod enc P W 0 (fun _ => true) true t v d ps) :
    ∃ (x : α) (cs : List Value), v = .agg cs.toArray ∧ k.K W x cs ∧ ok x := by
  obtain ⟨cs, rfl, _⟩ := okWide_struct hu hv
  obtain ⟨fuel, hf⟩ := h
  obtain ⟨x, hK, ho⟩ := hO enc W 0 fuel _ _ _ hf (fun n hn => by have h1 := List.all_eq_true.1 hsz n (DataW.weights_mem_each ht hd n hn); simpa only [decide_eq_true_eq] using h1)
  exact ⟨x, cs.toList, by simp, hK, ho⟩
theorem u_note : ∃ fs, Tryz.prog.underlying 34 = some (.struct fs) := ⟨_, Tryz.underlying34⟩
theorem u_entry : ∃ fs, Tryz.prog.underlying 55 = some (.struct fs) := ⟨_, Tryz.underlying55⟩
end Go.Proofs.YtmneemhplffemaaGreatDoorRR.Arg
namespace Go.Proofs.YtmneemhplffemaaGreatDoorRR.Ext
open Go.RowKit Go.Proofs.YtmneemhplffemaaGreatDoorRR.Chk Go.Proofs.YtmneemhplffemaaGreatDoorRRW.PrintWords
theorem laidMet_tail {P : Program} {W : World} {x : String × DataW Unit} {l : List (String × DataW Unit)} (h : laidMet P (x :: l) W) : laidMet P l W := by
  obtain ⟨ps, ⟨g, t, cs, fuel, p, q, _, _, _, _, hq, rfl⟩, hnd, hc⟩ := h
  exact ⟨q, hq, (List.nodup_append.1 hnd).2.1, fun b off hb => hc b off (List.mem_append_right _ hb)⟩
def strData {H : Type} (l : List ByteArray) : DataW H := .agg (l.map fun s => .lit (.string s.data.toList))
/-- An array of texts that reads as the table holds the table's texts, cell for cell. -/
theorem cells_of_strs {H : Type} {enc : TypeId × Value → H} {P : Program} {w : World} {base : Nat} {sp : Nat → Bool} {held : Bool} {fuel : Nat} {t e : TypeId} {n : Nat} {cs : List Value} {zs : List ByteArray} {p : List MemPlace}
    (ht : P.underlying t = some (.array n e)) (he : P.underlying e = some .string) (hce : P.cellsOf e = 1) (hct : P.cellsOf t = n)
    (h : DataW.trod enc P w base sp held fuel t cs = some (strData zs, p)) : cs = zs.map Value.string := by
  cases fuel with
  | zero => simp [DataW.trod] at h
  | succ fuel =>
    simp only [DataW.trod, ht, hce, hct, Nat.mul_one] at h
    split at h
    · rename_i hl
      obtain ⟨xs, hm, hx⟩ := Option.map_eq_some_iff.1 h
      have hxs : xs.map (·.1) = zs.map fun z => (DataW.lit (.string z.data.toList) : DataW H) := by
        have := congrArg Prod.fst hx
        simpa [strData] using this
      have hxl : xs.length = n := by simpa using Lib.mapM_length hm
      have hzl : zs.length = n := by
        have := congrArg List.length hxs
        simp at this
        omega
      apply List.ext_getElem?
      intro i
      by_cases hi : i < n
      · obtain ⟨b, hb, hf⟩ := Lib.mapM_at hm i i (by simp [hi])
        obtain ⟨z, hc, rfl, _⟩ := DataW.trod_string he hf
        have h1 : cs[i]? = some (.string z) := by
          have := congrArg (·[0]?) hc
          simpa [List.getElem?_take, List.getElem?_drop] using this
        have h2 : (xs.map (·.1))[i]? = some (DataW.lit (.string z.data.toList) : DataW H) := by simp [hb]
        rw [hxs] at h2
        simp only [List.getElem?_map, Option.map_eq_some_iff, DataW.lit.injEq, Lit.string.injEq] at h2
        obtain ⟨z', hz', he'⟩ := h2
        have : z' = z := by
          cases z; cases z'; simp_all
        subst this
        simp [h1, hz']
      · rw [List.getElem?_eq_none (by omega), List.getElem?_eq_none (by simp; omega)]
    · cases h
theorem strs_of_head {P : Program} {W : World} {name : String} {zs : List ByteArray} {rest : List (String × DataW Unit)} {g : Nat} {t e : TypeId} {n : Nat}
    (hg : P.globalNamed name = some g) (hty : (P.globals[g]?).map (·.type) = some t) (ht : P.underlying t = some (.array n e)) (he : P.underlying e = some .string) (hce : P.cellsOf e = 1) (hct : P.cellsOf t = n)
    (h : laidMet P ((name, strData zs) :: rest) W) (i : Nat) (hi : i < zs.length) : W.cell? ⟨g, i, none⟩ = some (.string (zs.getD i ByteArray.empty)) := by
  obtain ⟨ps, ⟨g', t', cs, fuel, p, q, hg', ht', hvar, hd, _, _⟩, _⟩ := h
  obtain rfl := Option.some.inj (hg.symm.trans hg')
  obtain rfl := Option.some.inj (hty.symm.trans ht')
  have hcs := cells_of_strs ht he hce hct hd
  have h2 := World.var?_cell hg hvar i
  rw [h2, ← Array.getElem?_toList, hcs, List.getElem?_map, List.getElem?_eq_getElem hi, List.getD_eq_getElem?_getD, List.getElem?_eq_getElem hi]
  rfl
def namedTab : List Int := (List.range 128).map fun i => Name.tab i
theorem named_data : Rows.laid_herald_place_named = Lib.tabData (H := Unit) .u8 namedTab := by kernel_rfl
theorem has_data : Rows.laid_herald_note_has = strData (H := Unit) hasList := by kernel_rfl
theorem gNamed : Tryz.prog.globalNamed "herald/place.named" = some 2 := by kernel_rfl
theorem gHas : Tryz.prog.globalNamed "herald/note.has" = some 0 := by kernel_rfl
theorem gNamedType : (Tryz.prog.globals[2]?).map (·.type) = some 288 := by kernel_rfl
theorem gHasType : (Tryz.prog.globals[0]?).map (·.type) = some 158 := by kernel_rfl
theorem cNamed : Tryz.prog.cellsOf 288 = 128 := by kernel_rfl
theorem cHas : Tryz.prog.cellsOf 158 = 25 := by kernel_rfl
theorem cByte : Tryz.prog.cellsOf 5 = 1 := by kernel_rfl
theorem cStr : Tryz.prog.cellsOf 9 = 1 := by kernel_rfl
theorem namedTab_at (i : Nat) (h : i < 128) : namedTab.getD i 0 = Name.tab i := by
  simp [namedTab, h]
theorem maxLen_of {W : World} (hS : W.ShapedOpen Tryz.prog) : ∃ m, W.cell? ⟨3, 0, none⟩ = some (.int .i64 m) :=
  Go.Proofs.cell_of_shapedOpen_int (zero := #[.int .i64 0]) (t := 3) hS (of_decide_eq_true (by kernel_rfl)) (by kernel_rfl) rfl (by kernel_rfl) (by kernel_rfl) Tryz.underlying3
theorem env_of_tab {W : World} {rest : List (String × DataW Unit)} (hS : W.ShapedOpen Tryz.prog) (h : laidMet Tryz.prog (("herald/place.named", Lib.tabData .u8 namedTab) :: rest) W) : Env W := by
  refine ⟨maxLen_of hS, fun i hi => ?_⟩
  have hT := Lib.tabIs_of_head gNamed gNamedType Tryz.underlying288 Tryz.underlying5 cByte cNamed h
  have := hT.cell gNamed i (by simp [namedTab]; exact hi)
  rw [namedTab_at i hi] at this
  exact this
/-- The rows without the reference. -/
theorem env_note {W : World} (hS : W.ShapedOpen Tryz.prog) (h : laidMetH Tryz.prog [("unicode/utf8.acceptRanges", Rows.laid_unicode_utf8_acceptRanges), ("herald/place.named", Rows.laid_herald_place_named), ("herald/note.has", Rows.laid_herald_note_has), ("unicode/utf8.first", Rows.laid_unicode_utf8_first)] W) : EnvN W := by
  have h' : laidMet Tryz.prog [("unicode/utf8.acceptRanges", Rows.laid_unicode_utf8_acceptRanges), ("herald/place.named", Rows.laid_herald_place_named), ("herald/note.has", Rows.laid_herald_note_has), ("unicode/utf8.first", Rows.laid_unicode_utf8_first)] W := h
  rw [named_data, has_data] at h'
  have h2 := laidMet_tail h'
  exact ⟨env_of_tab hS h2, fun i hi => strs_of_head gHas gHasType Tryz.underlying158 Tryz.underlying9 cStr cHas (laidMet_tail h2) i hi⟩
/-- The scalars of a datum, in order. -/
def flat : Nat → DataW Unit → List Value
  | n + 1, .agg l => l.flatMap (flat n)
  | _, .lit (.int k z) => [.int k z]
  | _, .lit (.string s) => [.string ⟨s.toArray⟩]
  | _, _ => []
/-- A WORLD FOR THE WITNESSES: the settled one, each listed table (by its block) holding what its initialiser lays. -/
noncomputable def laidWorld (os : Os) : World :=
  let lay (d : DataW Unit) (h : Array Obj) (b : Nat) : Array Obj := h.modify b fun
    | .cells _ t frozen => .cells (flat 4 d).toArray t frozen
    | o => o
  let w := World.holding Tryz.prog os ⟨#[], #[], []⟩
  { w with heap := lay Rows.laid_unicode_utf8_acceptRanges (lay Rows.laid_unicode_utf8_first (lay Rows.laid_herald_note_has (lay Rows.laid_herald_place_named w.heap 2) 0) 4) 5 }
theorem bytes_of {W : World} {A : Option Addr} {len cap : Nat} {zs : List Int} (h : (A = none ∧ len = 0 ∧ cap = 0 ∧ zs = []) ∨ ∃ x, A = some x ∧ len ≤ cap ∧ cap ≤ maxLen ∧ zs.length = cap ∧ (∀ i, i < zs.length → W.cell? (x.add i) = some (.int .u8 (zs.getD i 0))) ∧ ∀ n ∈ zs, (Lit.int .u8 n).wf = true) :
    ∃ xs : List Int, xs.length = len ∧ len ≤ cap ∧ (Kd.int .u8).C W A xs.length xs ∧ (∀ b ∈ xs, 0 ≤ b ∧ b < 256) := by
  rcases h with ⟨rfl, rfl, rfl, rfl⟩ | ⟨x, rfl, hl, hm, hz, hc, hw⟩
  · exact ⟨[], rfl, Nat.le_refl _, Kd.C_of_reads (d := 0) ⟨rfl, Nat.zero_le _, fun h => absurd h (by simp)⟩, by simp⟩
  · have hlen : (zs.take len).length = len := by rw [List.length_take]; omega
    refine ⟨zs.take len, hlen, hl, Kd.C_of_reads (d := 0) ⟨rfl, by rw [hlen]; simp only [maxLen] at hm; omega, fun _ => ⟨x, rfl, fun j hj => ?_⟩⟩, fun b hb => ?_⟩
    · rw [hlen] at hj
      rw [hc j (by omega), List.getD_eq_getElem?_getD, List.getD_eq_getElem?_getD, List.getElem?_take, if_pos hj]
    · have h1 := hw b (List.mem_of_mem_take hb)
      have e1 : IntKind.u8.min = 0 := by kernel_rfl
      have e2 : IntKind.u8.max = 255 := by kernel_rfl
      simp [Lit.wf, e1, e2] at h1
      omega
end Go.Proofs.YtmneemhplffemaaGreatDoorRR.Ext
