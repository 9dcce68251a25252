/- Texts of the proof, joined. -/
import Derived.ArgAppend
import Derived.Below
import Derived.BigQuiet
import Derived.Deep.AppendLies
import Derived.Deep.CutBlock
import Derived.Deep.DeepCutAuto
import Derived.Deep.DeepHandedRow
import Derived.Deep.Draws
import Derived.Deep.LoopGhost
import Derived.Deep.OwnRows
import Derived.Deep.QuietTactic
import Derived.Deep.RegionHeld3
import Derived.Deep.WholeRow
import Derived.HandedShaped
import Derived.KernelRfl
import Derived.Laws.BitsLemmas
import Derived.Laws.BytesArg
import Derived.Laws.EntriesVeiled
import Derived.Laws.IdiomCopy
import Derived.Laws.MakeOwn
import Derived.Laws.OwnMore
import Derived.Laws.Rows
import Derived.Laws.Slices
import Derived.Laws.StructEq
import Derived.Laws.Tables
import Derived.Lib.AppendStr
import Derived.Lib.ConvBytes
import Derived.Lib.Hide
import Derived.Lib.Join
import Derived.Lib.LaidTab
import Derived.Lib.SplitLaws
import Derived.LoopTactic
import Derived.Maps.AppendAt
import Derived.OpenShut
import Derived.OrdersHeld
import Derived.Outline
import Derived.OwnWalk
import Derived.ProofKit
import Derived.RowKit
import Derived.RowKit3
import Derived.Shelf.LaysM
import Derived.Shelf.Strings.Count
import Derived.Shelf.Strings.Explode
import Derived.Shelf.Strings.Prefix
import Derived.Shelf.Strings.RuneCount
import Derived.Shelf.Strings.Search1
import Derived.Shelf.Strings.Search2
import Derived.Shelf.Strings.Search3
import Derived.Shelf.Strings.Shaped
import Derived.Shelf.Strings.Split
import Derived.Shelf.Strings.SplitShaped
import Derived.Shelf.Unicode.Decode
import Derived.Shelf.Unicode.DecodeSlow
import Derived.Shelf.Utf8.RuneCount
import Derived.Shelf.Vars
import Derived.Tactics
import Derived.Test.YtmneemhplffemaaGreatDoorRRCards
import Derived.Test.YtmneemhplffemaaGreatDoorRRProg
import Derived.Test.YtmneemhplffemaaGreatDoorRRTie
import Derived.WalkKit
import Derived.WalkLawsBesides
import Derived.WideLaws
import Derived.Test.YtmneemhplffemaaGreatDoorRRJEb
set_option linter.unusedVariables false
set_option linter.unusedSimpArgs false
namespace Go.Proofs.YtmneemhplffemaaGreatDoorRR.Put
open Go.RowKit Go.Proofs.YtmneemhplffemaaGreatDoorRR.Ext Go.Proofs.YtmneemhplffemaaGreatDoorRR.Wire Go.Proofs.YtmneemhplffemaaGreatDoorRR.Mem Go.Proofs.YtmneemhplffemaaGreatDoorRR.Ki Go.Proofs.YtmneemhplffemaaGreatDoorRRW.PrintWords

structure EntryOk (x : S55) : Prop where
 n0 : isN x.f0
 n1 : isN x.f1
 n2 : isN x.f2
 n3 : isN x.f3
 n4 : isN x.f4
 m5 : x.f5.length ≤ 4
 l5 : ∀ y ∈ x.f5, OpOk y
def encEntry (x : S55) : List Int := [x.f0, x.f1, x.f2, x.f3, x.f4].flatMap encNum ++ encList encOp x.f5
theorem len_Entry (x : S55) (hx : EntryOk x) : (encEntry x).length ≤ 12000 := by
 have e0 := num_le x.f0
 have e1 := num_le x.f1
 have e2 := num_le x.f2
 have e3 := num_le x.f3
 have e4 := num_le x.f4
 have m5 := hx.m5
 have q5 := list_le len_Op hx.l5
 have e90 := num_le 0
 have e91 := num_le 1
 have f0 := flat_le (xs := [x.f0, x.f1, x.f2, x.f3, x.f4]) (n := 5) (enc := encNum) (fun y _ => num_le y)
 simp only [List.length_cons, List.length_nil] at f0
 simp only [encEntry, List.length_append]
 omega
set_option maxRecDepth 100000 in
set_option maxHeartbeats 1000000 in
theorem putEntry_any (x : S55) (hx : EntryOk x) (cs : List Value) (w0 W : World) (hk : k55.K w0 x cs) (hb : Below w0.heap.size w0 W) (base g : Nat) (v : Value) (bs : List Int) (hbase : w0.heap.size ≤ base) (hp : Pen 127 W base g v bs) (hl : bs.length + 12000 ≤ 140737488355328) :
  Calls Tryz.prog 75 #[.pointer (some ⟨g, 0, none⟩), .agg cs.toArray] W fun e W' => e = .returned (.tuple #[]) ∧ Wrote 127 W W' base g v (bs ++ encEntry x) := by
 obtain ⟨A5, c5, rfl, l5, g5⟩ := k55_open hk
 have HX := Aside0.mk hx
 have HP := Aside0.mk hp
 have HB := Aside0.mk hb
 have G5 := Aside0.mk g5
 have m5 := hx.m5
 have e0 := num_le x.f0
 have e1 := num_le x.f1
 have e2 := num_le x.f2
 have e3 := num_le x.f3
 have e4 := num_le x.f4
 have e90 := num_le 0
 have e91 := num_le 1
 have HS0 := Aside0.mk ((Pend.begin_ HP.out).lay (.cells #[.int .i64 x.f0, .int .i64 x.f1, .int .i64 x.f2, .int .i64 x.f3, .int .i64 x.f4, .slice A5 x.f5.length c5] 55 (0, 0)))
 obtain ⟨l, hl0⟩ : ∃ l : List Int, l = [x.f0, x.f1, x.f2, x.f3, x.f4] := ⟨_, rfl⟩
 have HLE := Aside0.mk hl0
 have hln : l.length = 5 := by rw [hl0]; rfl
 have HLN : Aside0 (∀ y ∈ l, isN y) := ⟨by rw [hl0]; intro y hy; simp only [List.mem_cons, List.not_mem_nil, or_false] at hy; rcases hy with rfl | rfl | rfl | rfl | rfl <;> first | exact hx.n0 | exact hx.n1 | exact hx.n2 | exact hx.n3 | exact hx.n4 ⟩
 have HFL : Aside0 (∀ k, ((l.take k).flatMap encNum).length ≤ 25) := ⟨fun k => by have := flat_take k len_int HLN.out; rw [hln] at this; omega⟩
 clear hl0 hln
 clear hk hp hb hx g5
 go_enter Tryz.func75, Tryz.ntmps75

 have HS00 := Aside0.mk ((HS0.out.lay (Obj.cells #[.int .i64 x.f0, .int .i64 x.f1, .int .i64 x.f2, .int .i64 x.f3, .int .i64 x.f4] 3 (0, 0))).less (B' := fun k o => (k = W.heap.size ∧ o = Obj.cells #[.int .i64 x.f0, .int .i64 x.f1, .int .i64 x.f2, .int .i64 x.f3, .int .i64 x.f4, .slice A5 x.f5.length c5] 55 (0, 0)) ∨ (k = W.heap.size + 1 ∧ o = Obj.cells #[.int .i64 x.f0, .int .i64 x.f1, .int .i64 x.f2, .int .i64 x.f3, .int .i64 x.f4] 3 (0, 0))) (fun k o hk => hk.elim (fun h => .inl (.inr h)) (fun h => .inr ⟨h.1.trans (by simp), h.2⟩)))
 go_wp2_with fail
 go_loopw [18] (fun vi wr => ∃ k : Nat, vi = .int .i64 k ∧ k ≤ 5 ∧ ∃ v' : Value, Aside0 (Pend 127 W wr base g v v' (bs ++ (l.take k).flatMap encNum) (fun k o => (k = W.heap.size ∧ o = Obj.cells #[.int .i64 x.f0, .int .i64 x.f1, .int .i64 x.f2, .int .i64 x.f3, .int .i64 x.f4, .slice A5 x.f5.length c5] 55 (0, 0)) ∨ (k = W.heap.size + 1 ∧ o = Obj.cells #[.int .i64 x.f0, .int .i64 x.f1, .int .i64 x.f2, .int .i64 x.f3, .int .i64 x.f4] 3 (0, 0))))) (fun vi _ => 5 - (intOf vi).toNat)
 case atStart => exact ⟨0, rfl, Nat.zero_le _, _, ⟨by simpa using HS00.out⟩⟩
 case round =>
  skip
  obtain ⟨k, rfl, hk, v', HS⟩ := hrel
  by_cases hlt : k < 5
  · have hcl := HS.out.cells (k := W.heap.size + 1) (.inr ⟨rfl, rfl⟩)
    obtain rfl | rfl | rfl | rfl | rfl : k = 0 ∨ k = 1 ∨ k = 2 ∨ k = 3 ∨ k = 4 := by omega
    all_goals
     go_wp2_with fail
     refine (Pend.num HS.out _ (by first | exact HX.out.n0 | exact HX.out.n1 | exact HX.out.n2 | exact HX.out.n3 | exact HX.out.n4 ) (by have := HFL.out; (first | have := HFL.out 0 | skip); have q0 := HFL.out 0; have q1 := HFL.out 1; have q2 := HFL.out 2; have q3 := HFL.out 3; have q4 := HFL.out 4; simp only [List.length_append]; omega)).mono ?_
     rintro e w2 ⟨rfl, v2, hs2⟩
     have HS2 := Aside0.mk hs2
     clear hs2 hcl
     go_wp2_with fail
     go_roundw
     case rel => first | exact ⟨1, rfl, by omega, v2, ⟨by rw [flat_snoc (k := 0) (show l[0]? = some x.f0 by rw [HLE.out]; rfl), ← List.append_assoc]; exact HS2.out⟩⟩ | exact ⟨2, rfl, by omega, v2, ⟨by rw [flat_snoc (k := 1) (show l[1]? = some x.f1 by rw [HLE.out]; rfl), ← List.append_assoc]; exact HS2.out⟩⟩ | exact ⟨3, rfl, by omega, v2, ⟨by rw [flat_snoc (k := 2) (show l[2]? = some x.f2 by rw [HLE.out]; rfl), ← List.append_assoc]; exact HS2.out⟩⟩ | exact ⟨4, rfl, by omega, v2, ⟨by rw [flat_snoc (k := 3) (show l[3]? = some x.f3 by rw [HLE.out]; rfl), ← List.append_assoc]; exact HS2.out⟩⟩ | exact ⟨5, rfl, by omega, v2, ⟨by rw [flat_snoc (k := 4) (show l[4]? = some x.f4 by rw [HLE.out]; rfl), ← List.append_assoc]; exact HS2.out⟩⟩ 
     case measure => simp [intOf]
  · have hcb := HS.out.cells (k := W.heap.size) (.inl ⟨rfl, rfl⟩)
    have HSE := Aside0.mk (show Pend 127 W wr base g v v' (bs ++ l.flatMap encNum) (fun k o => False ∨ (k = W.heap.size ∧ o = Obj.cells #[.int .i64 x.f0, .int .i64 x.f1, .int .i64 x.f2, .int .i64 x.f3, .int .i64 x.f4, .slice A5 x.f5.length c5] 55 (0, 0))) from by
     have h := HS.out.less (B' := fun k o => False ∨ (k = W.heap.size ∧ o = Obj.cells #[.int .i64 x.f0, .int .i64 x.f1, .int .i64 x.f2, .int .i64 x.f3, .int .i64 x.f4, .slice A5 x.f5.length c5] 55 (0, 0))) (fun k o hk => .inl (hk.resolve_left (fun h => h)))
     rw [List.take_of_length_le (by rw [HLE.out]; exact Nat.le_of_not_lt hlt)] at h
     exact h)
    have hfl := HFL.out 5
    rw [List.take_of_length_le (by rw [HLE.out]; exact Nat.le_refl _)] at hfl
    go_wp2_with fail
    refine (putList_Op 121 (fun args w => by kernel_rfl) encOp OpOk 2000 put_Op len_Op A5 c5 x.f5 w0 _ G5.out HX.out.l5 (HSE.out.above HP.out HB.out hbase) base g _ _ hbase HSE.out.pen (by omega) (by first | omega | (simp only [List.length_append]; omega))).mono ?_
    rintro e w9 ⟨rfl, hw9⟩
    obtain ⟨v9, hs9⟩ := HSE.out.step hw9
    have HS9 := Aside0.mk hs9
    clear hs9 hw9 hcb
    go_wp2_with fail
    first | go_end0 | refine bodyPost_ret (results_none rfl _ _ _) rfl ?_
    exact ⟨rfl, by unfold encEntry; rw [← HLE.out]; simpa only [List.append_assoc] using HS9.out.wrote⟩
theorem put_Entry : PutEntry 75 encEntry EntryOk 12000 := fun x cs w0 W hx hk hb base g v bs hbase hp hl => putEntry_any x hx cs w0 W hk hb base g v bs hbase hp hl
structure ResultOk (x : S81) : Prop where
 t0 : x.f0.size ≤ 256
 t1 : x.f1.size ≤ 256
 n2 : isN x.f2
 n3 : isN x.f3
 n4 : isN x.f4
 n5 : isN x.f5
 m6 : x.f6.length ≤ 64
 l6 : ∀ y ∈ x.f6, TxtOk y
def encResult (x : S81) : List Int := encTxt x.f0 ++ encTxt x.f1 ++ [x.f2, x.f3, x.f4, x.f5].flatMap encNum ++ encList encTxt x.f6
theorem len_Result (x : S81) (hx : ResultOk x) : (encResult x).length ≤ 25000 := by
 have e0 := txt_le x.f0
 have h0 := hx.t0
 have e1 := txt_le x.f1
 have h1 := hx.t1
 have e2 := num_le x.f2
 have e3 := num_le x.f3
 have e4 := num_le x.f4
 have e5 := num_le x.f5
 have m6 := hx.m6
 have q6 := list_le len_string hx.l6
 have e90 := num_le 0
 have e91 := num_le 1
 have f0 := flat_le (xs := [x.f2, x.f3, x.f4, x.f5]) (n := 5) (enc := encNum) (fun y _ => num_le y)
 simp only [List.length_cons, List.length_nil] at f0
 simp only [encResult, List.length_append]
 omega
set_option maxRecDepth 100000 in
set_option maxHeartbeats 1000000 in
theorem putResult_any (x : S81) (hx : ResultOk x) (cs : List Value) (w0 W : World) (hk : k81.K w0 x cs) (hb : Below w0.heap.size w0 W) (base g : Nat) (v : Value) (bs : List Int) (hbase : w0.heap.size ≤ base) (hp : Pen 127 W base g v bs) (hl : bs.length + 25000 ≤ 140737488355328) :
  Calls Tryz.prog 244 #[.pointer (some ⟨g, 0, none⟩), .agg cs.toArray] W fun e W' => e = .returned (.tuple #[]) ∧ Wrote 127 W W' base g v (bs ++ encResult x) := by
 obtain ⟨A6, c6, rfl, l6, g6⟩ := k81_open hk
 have HX := Aside0.mk hx
 have HP := Aside0.mk hp
 have HB := Aside0.mk hb
 have G6 := Aside0.mk g6
 have m6 := hx.m6
 have e0 := txt_le x.f0
 have h0 := hx.t0
 have e1 := txt_le x.f1
 have h1 := hx.t1
 have e2 := num_le x.f2
 have e3 := num_le x.f3
 have e4 := num_le x.f4
 have e5 := num_le x.f5
 have e90 := num_le 0
 have e91 := num_le 1
 have HS0 := Aside0.mk ((Pend.begin_ HP.out).lay (.cells #[.string x.f0, .string x.f1, .int .i64 x.f2, .int .i64 x.f3, .int .i64 x.f4, .int .i64 x.f5, .slice A6 x.f6.length c6] 81 (0, 0)))
 obtain ⟨l, hl0⟩ : ∃ l : List Int, l = [x.f2, x.f3, x.f4, x.f5] := ⟨_, rfl⟩
 have HLE := Aside0.mk hl0
 have hln : l.length = 4 := by rw [hl0]; rfl
 have HLN : Aside0 (∀ y ∈ l, isN y) := ⟨by rw [hl0]; intro y hy; simp only [List.mem_cons, List.not_mem_nil, or_false] at hy; rcases hy with rfl | rfl | rfl | rfl <;> first | exact hx.n2 | exact hx.n3 | exact hx.n4 | exact hx.n5 ⟩
 have HFL : Aside0 (∀ k, ((l.take k).flatMap encNum).length ≤ 20) := ⟨fun k => by have := flat_take k len_int HLN.out; rw [hln] at this; omega⟩
 clear hl0 hln
 clear hk hp hb hx g6
 go_enter Tryz.func244, Tryz.ntmps244
 go_wp2_with fail
 refine (Pend.txt HS0.out x.f0 (by have := HX.out.t0; omega) (by first | omega | (simp only [List.length_append]; omega))).mono ?_
 rintro e w1 ⟨rfl, v1, hs1⟩
 have hc1 := hs1.cells (k := W.heap.size) (.inr ⟨rfl, rfl⟩)
 have HS1 := Aside0.mk hs1
 clear hs1
 go_wp2_with fail
 refine (Pend.txt HS1.out x.f1 (by have := HX.out.t1; omega) (by first | omega | (simp only [List.length_append]; omega))).mono ?_
 rintro e w2 ⟨rfl, v2, hs2⟩
 have hc2 := hs2.cells (k := W.heap.size) (.inr ⟨rfl, rfl⟩)
 have HS2 := Aside0.mk hs2
 clear hs2 hc1
 have HS00 := Aside0.mk ((HS2.out.lay (Obj.cells #[.int .i64 x.f2, .int .i64 x.f3, .int .i64 x.f4, .int .i64 x.f5] 3 (0, 0))).less (B' := fun k o => (k = W.heap.size ∧ o = Obj.cells #[.string x.f0, .string x.f1, .int .i64 x.f2, .int .i64 x.f3, .int .i64 x.f4, .int .i64 x.f5, .slice A6 x.f6.length c6] 81 (0, 0)) ∨ (k = w2.heap.size ∧ o = Obj.cells #[.int .i64 x.f2, .int .i64 x.f3, .int .i64 x.f4, .int .i64 x.f5] 3 (0, 0))) (fun k o hk => hk.elim (fun h => .inl (.inr h)) (fun h => .inr ⟨h.1.trans (by simp), h.2⟩)))
 go_wp2_with fail
 go_loopw [24] (fun vi wr => ∃ k : Nat, vi = .int .i64 k ∧ k ≤ 4 ∧ ∃ v' : Value, Aside0 (Pend 127 W wr base g v v' (bs ++ encTxt x.f0 ++ encTxt x.f1 ++ (l.take k).flatMap encNum) (fun k o => (k = W.heap.size ∧ o = Obj.cells #[.string x.f0, .string x.f1, .int .i64 x.f2, .int .i64 x.f3, .int .i64 x.f4, .int .i64 x.f5, .slice A6 x.f6.length c6] 81 (0, 0)) ∨ (k = w2.heap.size ∧ o = Obj.cells #[.int .i64 x.f2, .int .i64 x.f3, .int .i64 x.f4, .int .i64 x.f5] 3 (0, 0))))) (fun vi _ => 4 - (intOf vi).toNat)
 case atStart => exact ⟨0, rfl, Nat.zero_le _, _, ⟨by simpa using HS00.out⟩⟩
 case round =>
  clear hc2
  obtain ⟨k, rfl, hk, v', HS⟩ := hrel
  by_cases hlt : k < 4
  · have hcl := HS.out.cells (k := w2.heap.size) (.inr ⟨rfl, rfl⟩)
    obtain rfl | rfl | rfl | rfl : k = 0 ∨ k = 1 ∨ k = 2 ∨ k = 3 := by omega
    all_goals
     go_wp2_with fail
     refine (Pend.num HS.out _ (by first | exact HX.out.n2 | exact HX.out.n3 | exact HX.out.n4 | exact HX.out.n5 ) (by have := HFL.out; (first | have := HFL.out 0 | skip); have q0 := HFL.out 0; have q1 := HFL.out 1; have q2 := HFL.out 2; have q3 := HFL.out 3; have q4 := HFL.out 4; simp only [List.length_append]; omega)).mono ?_
     rintro e w2 ⟨rfl, v2, hs2⟩
     have HS2 := Aside0.mk hs2
     clear hs2 hcl
     go_wp2_with fail
     go_roundw
     case rel => first | exact ⟨1, rfl, by omega, v2, ⟨by rw [flat_snoc (k := 0) (show l[0]? = some x.f2 by rw [HLE.out]; rfl), ← List.append_assoc]; exact HS2.out⟩⟩ | exact ⟨2, rfl, by omega, v2, ⟨by rw [flat_snoc (k := 1) (show l[1]? = some x.f3 by rw [HLE.out]; rfl), ← List.append_assoc]; exact HS2.out⟩⟩ | exact ⟨3, rfl, by omega, v2, ⟨by rw [flat_snoc (k := 2) (show l[2]? = some x.f4 by rw [HLE.out]; rfl), ← List.append_assoc]; exact HS2.out⟩⟩ | exact ⟨4, rfl, by omega, v2, ⟨by rw [flat_snoc (k := 3) (show l[3]? = some x.f5 by rw [HLE.out]; rfl), ← List.append_assoc]; exact HS2.out⟩⟩ 
     case measure => simp [intOf]
  · have hcb := HS.out.cells (k := W.heap.size) (.inl ⟨rfl, rfl⟩)
    have HSE := Aside0.mk (show Pend 127 W wr base g v v' (bs ++ encTxt x.f0 ++ encTxt x.f1 ++ l.flatMap encNum) (fun k o => False ∨ (k = W.heap.size ∧ o = Obj.cells #[.string x.f0, .string x.f1, .int .i64 x.f2, .int .i64 x.f3, .int .i64 x.f4, .int .i64 x.f5, .slice A6 x.f6.length c6] 81 (0, 0))) from by
     have h := HS.out.less (B' := fun k o => False ∨ (k = W.heap.size ∧ o = Obj.cells #[.string x.f0, .string x.f1, .int .i64 x.f2, .int .i64 x.f3, .int .i64 x.f4, .int .i64 x.f5, .slice A6 x.f6.length c6] 81 (0, 0))) (fun k o hk => .inl (hk.resolve_left (fun h => h)))
     rw [List.take_of_length_le (by rw [HLE.out]; exact Nat.le_of_not_lt hlt)] at h
     exact h)
    have hfl := HFL.out 4
    rw [List.take_of_length_le (by rw [HLE.out]; exact Nat.le_refl _)] at hfl
    go_wp2_with fail
    refine (putList_string 268 (fun args w => by kernel_rfl) encTxt TxtOk 300 put_string len_string A6 c6 x.f6 w0 _ G6.out HX.out.l6 (HSE.out.above HP.out HB.out hbase) base g _ _ hbase HSE.out.pen (by omega) (by first | omega | (simp only [List.length_append]; omega))).mono ?_
    rintro e w9 ⟨rfl, hw9⟩
    obtain ⟨v9, hs9⟩ := HSE.out.step hw9
    have HS9 := Aside0.mk hs9
    clear hs9 hw9 hcb
    go_wp2_with fail
    first | go_end0 | refine bodyPost_ret (results_none rfl _ _ _) rfl ?_
    exact ⟨rfl, by unfold encResult; rw [← HLE.out]; simpa only [List.append_assoc] using HS9.out.wrote⟩
theorem put_Result : PutResult 244 encResult ResultOk 25000 := fun x cs w0 W hx hk hb base g v bs hbase hp hl => putResult_any x hx cs w0 W hk hb base g v bs hbase hp hl
structure ReplyOk (x : S29) : Prop where
 n0 : isN x.f0
 n1 : isN x.f1
 n2 : isN x.f2
 m3 : x.f3.length ≤ 4
 l3 : ∀ y ∈ x.f3, ResultOk y
def encReply (x : S29) : List Int := encNum x.f0 ++ encNum x.f1 ++ encNum x.f2 ++ encList encResult x.f3
theorem len_Reply (x : S29) (hx : ReplyOk x) : (encReply x).length ≤ 200000 := by
 have e0 := num_le x.f0
 have e1 := num_le x.f1
 have e2 := num_le x.f2
 have m3 := hx.m3
 have q3 := list_le len_Result hx.l3
 have e90 := num_le 0
 have e91 := num_le 1
 simp only [encReply, List.length_append]
 omega
set_option maxRecDepth 100000 in
set_option maxHeartbeats 1000000 in
theorem putReply_any (x : S29) (hx : ReplyOk x) (cs : List Value) (w0 W : World) (hk : k29.K w0 x cs) (hb : Below w0.heap.size w0 W) (base g : Nat) (v : Value) (bs : List Int) (hbase : w0.heap.size ≤ base) (hp : Pen 127 W base g v bs) (hl : bs.length + 200000 ≤ 140737488355328) :
  Calls Tryz.prog 181 #[.pointer (some ⟨g, 0, none⟩), .agg cs.toArray] W fun e W' => e = .returned (.tuple #[]) ∧ Wrote 127 W W' base g v (bs ++ encReply x) := by
 obtain ⟨A3, c3, rfl, l3, g3⟩ := k29_open hk
 have HX := Aside0.mk hx
 have HP := Aside0.mk hp
 have HB := Aside0.mk hb
 have G3 := Aside0.mk g3
 have m3 := hx.m3
 have e0 := num_le x.f0
 have e1 := num_le x.f1
 have e2 := num_le x.f2
 have e90 := num_le 0
 have e91 := num_le 1
 have HS0 := Aside0.mk ((Pend.begin_ HP.out).lay (.cells #[.int .i64 x.f0, .int .i64 x.f1, .int .i64 x.f2, .slice A3 x.f3.length c3] 29 (0, 0)))
 clear hk hp hb hx g3
 go_enter Tryz.func181, Tryz.ntmps181
 go_wp2_with fail
 refine (Pend.num HS0.out x.f0 HX.out.n0 (by first | omega | (simp only [List.length_append]; omega))).mono ?_
 rintro e w1 ⟨rfl, v1, hs1⟩
 have hc1 := hs1.cells (k := W.heap.size) (.inr ⟨rfl, rfl⟩)
 have HS1 := Aside0.mk hs1
 clear hs1
 go_wp2_with fail
 refine (Pend.num HS1.out x.f1 HX.out.n1 (by first | omega | (simp only [List.length_append]; omega))).mono ?_
 rintro e w2 ⟨rfl, v2, hs2⟩
 have hc2 := hs2.cells (k := W.heap.size) (.inr ⟨rfl, rfl⟩)
 have HS2 := Aside0.mk hs2
 clear hs2 hc1
 go_wp2_with fail
 refine (Pend.num HS2.out x.f2 HX.out.n2 (by first | omega | (simp only [List.length_append]; omega))).mono ?_
 rintro e w3 ⟨rfl, v3, hs3⟩
 have hc3 := hs3.cells (k := W.heap.size) (.inr ⟨rfl, rfl⟩)
 have HS3 := Aside0.mk hs3
 clear hs3 hc2
 go_wp2_with fail
 refine (putList_Result 244 (fun args w => by kernel_rfl) encResult ResultOk 25000 put_Result len_Result A3 c3 x.f3 w0 _ G3.out HX.out.l3 (HS3.out.above HP.out HB.out hbase) base g _ _ hbase HS3.out.pen (by omega) (by first | omega | (simp only [List.length_append]; omega))).mono ?_
 rintro e w4 ⟨rfl, hw4⟩
 obtain ⟨v4, hs4⟩ := HS3.out.step hw4
 have hc4 := hs4.cells (k := W.heap.size) (.inr ⟨rfl, rfl⟩)
 have HS4 := Aside0.mk hs4
 clear hs4 hw4 hc3
 go_wp2_with fail
 first | go_end0 | refine bodyPost_ret (results_none rfl _ _ _) rfl ?_
 exact ⟨rfl, by unfold encReply; simpa only [List.append_assoc] using HS4.out.wrote⟩
end Go.Proofs.YtmneemhplffemaaGreatDoorRR.Put
namespace Go.Proofs.YtmneemhplffemaaGreatDoorRR.Get
open Go.RowKit Go.Proofs.YtmneemhplffemaaGreatDoorRR.Ext Go.Proofs.YtmneemhplffemaaGreatDoorRR.Wire Go.Proofs.YtmneemhplffemaaGreatDoorRR.Mem Go.Proofs.YtmneemhplffemaaGreatDoorRR.Ki Go.Proofs.YtmneemhplffemaaGreatDoorRRW.PrintWords


structure Look (W0 W : World) (g : Nat) (A : Option Addr) (n c a : Nat) (B : Nat → Obj → Prop) : Prop where mk ::
 eye : Eye W g A n c a
 mov : Moved W0 W (fun k => k = g)
 box : ∀ k o, B k o → W.heap[k]? = some o ∧ k ≠ g
theorem Look.begin_ {W : World} {g n c a : Nat} {A : Option Addr} (h : Eye W g A n c a) : Look W W g A n c a (fun _ _ => False) := ⟨h, Moved.refl _ _, fun _ _ h => h.elim⟩
theorem Look.lay {W0 W : World} {g n c a : Nat} {A : Option Addr} {B : Nat → Obj → Prop} (h : Look W0 W g A n c a B) (o : Obj) : Look W0 (W.alloc o) g A n c a (fun k o' => B k o' ∨ (k = W.heap.size ∧ o' = o)) := by
 refine ⟨blk_below (below_alloc (Below.refl _ _) o) h.eye, h.mov.alloc o, fun k o' hk => ?_⟩
 rcases hk with hk | ⟨rfl, rfl⟩
 · have h1 := h.box k o' hk
   exact ⟨blk_below (below_alloc (Below.refl _ _) o) h1.1, h1.2⟩
 · exact ⟨blk_alloc _, fun hp => by have := blk_lt h.eye; omega⟩
theorem Look.step {W0 W W1 : World} {g n c a b : Nat} {A : Option Addr} {B : Nat → Obj → Prop} (h : Look W0 W g A n c a B) (hm : Moved W W1 (fun k => k = g)) (he : Eye W1 g A n c b) : Look W0 W1 g A n c b B :=
 ⟨he, h.mov.trans hm (fun _ _ h => h), fun k o hk => ⟨hm.blk (h.box k o hk).1 (h.box k o hk).2, (h.box k o hk).2⟩⟩
theorem Look.cells {W0 W : World} {g n c a k t : Nat} {A : Option Addr} {B : Nat → Obj → Prop} {cs : Array Value} (h : Look W0 W g A n c a B) (hB : B k (.cells cs t (0, 0))) (i : Nat) : W.cell? ⟨k, i, none⟩ = cs[i]? := blk_cell (h.box _ _ hB).1 i
theorem Look.free {W0 W : World} {g n c a k t : Nat} {A : Option Addr} {B : Nat → Obj → Prop} {cs : Array Value} (h : Look W0 W g A n c a B) (hB : B k (.cells cs t (0, 0))) (i : Nat) : W.frozen? ⟨k, i, none⟩ = false := blk_frozen (h.box _ _ hB).1 i
set_option maxRecDepth 100000 in
theorem get_string (w0 : World) (A : Option Addr) (c : Nat) (xs : List Int) (hD : Data w0 A c xs) : Getstring 270 dTxt w0 A c xs := by
 intro W g a ha hb hg hE
 have HN := Aside0.mk (rtxt w0 W g A c a xs hD ha hb hg hE)
 clear hE hb hD
 go_enter Tryz.func270, Tryz.ntmps270
 go_wp2_with fail
 refine HN.out.mono ?_
 rintro e w1 ⟨hm, hn, hs⟩
 cases hr : dTxt xs a with
 | none =>
   obtain rfl := hn hr
   exact ⟨rfl, hm, (fun _ => rfl), fun x a' h => by rw [hr] at h; cases h⟩
 | some p =>
   obtain ⟨x, a1⟩ := p
   obtain ⟨v, rfl, rfl, he⟩ := hs _ _ hr
   have HM := Aside0.mk hm
   have HE := Aside0.mk he
   have HR := Aside0.mk hr
   clear hm hn hs he hr
   go_wp2_with fail
   go_ret
   refine ⟨HM.out, (fun h => by rw [HR.out] at h; cases h), fun y z h => ?_⟩
   rw [HR.out] at h
   simp only [Option.some.injEq, Prod.mk.injEq] at h
   obtain ⟨rfl, rfl⟩ := h
   exact ⟨_, rfl, rfl, HE.out⟩
set_option maxRecDepth 100000 in
theorem get_int (w0 : World) (A : Option Addr) (c : Nat) (xs : List Int) (hD : Data w0 A c xs) : Getint 279 dNum w0 A c xs := by
 intro W g a ha hb hg hE
 have HN := Aside0.mk (rnum w0 W g A c a xs hD ha hb hg hE)
 clear hE hb hD
 go_enter Tryz.func279, Tryz.ntmps279
 go_wp2_with fail
 refine HN.out.mono ?_
 rintro e w1 ⟨hm, hn, hs⟩
 cases hr : dNum xs a with
 | none =>
   obtain rfl := hn hr
   exact ⟨rfl, hm, (fun _ => rfl), fun x a' h => by rw [hr] at h; cases h⟩
 | some p =>
   obtain ⟨x, a1⟩ := p
   obtain ⟨v, rfl, rfl, he⟩ := hs _ _ hr
   have HM := Aside0.mk hm
   have HE := Aside0.mk he
   have HR := Aside0.mk hr
   clear hm hn hs he hr
   go_wp2_with fail
   go_ret
   refine ⟨HM.out, (fun h => by rw [HR.out] at h; cases h), fun y z h => ?_⟩
   rw [HR.out] at h
   simp only [Option.some.injEq, Prod.mk.injEq] at h
   obtain ⟨rfl, rfl⟩ := h
   exact ⟨_, rfl, rfl, HE.out⟩
def dWatch (xs : List Int) (a : Nat) : Option (S96 × Nat) :=
 (dNum xs a).bind fun p0 => (dTxt xs p0.2).bind fun p1 => (dNum xs p1.2).bind fun p2 => (dNum xs p2.2).bind fun p3 => some (⟨p0.1, p1.1, p2.1, p3.1⟩, p3.2)
theorem goes_Watch {xs : List Int} (hB : Bytes xs) : Goes dWatch xs := by
 intro a x b ha h
 unfold dWatch at h
 obtain ⟨p0, h0, h⟩ := Option.bind_eq_some_iff.1 h
 have g0 := goes_num hB _ _ _ ha h0
 obtain ⟨p1, h1, h⟩ := Option.bind_eq_some_iff.1 h
 have g1 := goes_txt hB _ _ _ g0 h1
 obtain ⟨p2, h2, h⟩ := Option.bind_eq_some_iff.1 h
 have g2 := goes_num hB _ _ _ g1 h2
 obtain ⟨p3, h3, h⟩ := Option.bind_eq_some_iff.1 h
 have g3 := goes_num hB _ _ _ g2 h3
 simp only [Option.some.injEq, Prod.mk.injEq] at h
 obtain ⟨_, rfl⟩ := h
 exact g3
set_option maxRecDepth 100000 in
set_option maxHeartbeats 2000000 in
theorem get_Watch (w0 : World) (A : Option Addr) (c : Nat) (xs : List Int) (hD : Data w0 A c xs) : GetWatch 232 dWatch w0 A c xs := by
 intro W g a0 ha0 hb hg hE
 have HD := Aside0.mk hD
 have HB := Aside0.mk hb
 have HS0 := Aside0.mk ((Look.begin_ hE).lay (.cells #[.int .i64 0, .string ⟨#[]⟩, .int .i64 0, .int .i64 0] 96 (0, 0)))
 clear hE hb hD
 go_enter Tryz.func232, Tryz.ntmps232
 go_wp2_with fail
 refine (rnum w0 _ g A c a0 xs HD.out ha0 (HS0.out.mov.above HB.out (fun k hk => by omega)) hg HS0.out.eye).mono ?_
 rintro e w1 ⟨hm, hn, hs⟩
 cases hr : dNum xs a0 with
 | none =>
   obtain rfl := hn hr
   have HR := Aside0.mk (show dWatch xs a0 = none by simp only [dWatch, hr, Option.bind_none, Option.bind_some])
   exact ⟨rfl, HS0.out.mov.trans hm (fun _ _ h => h), (fun _ => rfl), fun x a' h => by rw [HR.out] at h; cases h⟩
 | some p =>
   obtain ⟨x0, a1⟩ := p
   obtain ⟨v0, rfl, rfl, he⟩ := hs _ _ hr
   have ha1 := goes_num HD.out.bytes _ _ _ ha0 hr
   have HI0 := Aside0.mk hr
   have HS1 := Aside0.mk (HS0.out.step hm he)
   clear hm hn hs he hr
   go_wp2_with fail
   refine (rtxt w0 _ g A c a1 xs HD.out ha1 (HS1.out.mov.above HB.out (fun k hk => by omega)) hg HS1.out.eye).mono ?_
   rintro e w2 ⟨hm, hn, hs⟩
   cases hr : dTxt xs a1 with
   | none =>
     obtain rfl := hn hr
     have HR := Aside0.mk (show dWatch xs a0 = none by simp only [dWatch, HI0.out, hr, Option.bind_none, Option.bind_some])
     exact ⟨rfl, HS1.out.mov.trans hm (fun _ _ h => h), (fun _ => rfl), fun x a' h => by rw [HR.out] at h; cases h⟩
   | some p =>
     obtain ⟨x1, a2⟩ := p
     obtain ⟨v1, rfl, rfl, he⟩ := hs _ _ hr
     have ha2 := goes_txt HD.out.bytes _ _ _ ha1 hr
     have HI1 := Aside0.mk hr
     have HS2 := Aside0.mk (HS1.out.step hm he)
     clear hm hn hs he hr
     go_wp2_with fail
     refine (rnum w0 _ g A c a2 xs HD.out ha2 (HS2.out.mov.above HB.out (fun k hk => by omega)) hg HS2.out.eye).mono ?_
     rintro e w3 ⟨hm, hn, hs⟩
     cases hr : dNum xs a2 with
     | none =>
       obtain rfl := hn hr
       have HR := Aside0.mk (show dWatch xs a0 = none by simp only [dWatch, HI0.out, HI1.out, hr, Option.bind_none, Option.bind_some])
       exact ⟨rfl, HS2.out.mov.trans hm (fun _ _ h => h), (fun _ => rfl), fun x a' h => by rw [HR.out] at h; cases h⟩
     | some p =>
       obtain ⟨x2, a3⟩ := p
       obtain ⟨v2, rfl, rfl, he⟩ := hs _ _ hr
       have ha3 := goes_num HD.out.bytes _ _ _ ha2 hr
       have HI2 := Aside0.mk hr
       have HS3 := Aside0.mk (HS2.out.step hm he)
       clear hm hn hs he hr
       go_wp2_with fail
       refine (rnum w0 _ g A c a3 xs HD.out ha3 (HS3.out.mov.above HB.out (fun k hk => by omega)) hg HS3.out.eye).mono ?_
       rintro e w4 ⟨hm, hn, hs⟩
       cases hr : dNum xs a3 with
       | none =>
         obtain rfl := hn hr
         have HR := Aside0.mk (show dWatch xs a0 = none by simp only [dWatch, HI0.out, HI1.out, HI2.out, hr, Option.bind_none, Option.bind_some])
         exact ⟨rfl, HS3.out.mov.trans hm (fun _ _ h => h), (fun _ => rfl), fun x a' h => by rw [HR.out] at h; cases h⟩
       | some p =>
         obtain ⟨x3, a4⟩ := p
         obtain ⟨v3, rfl, rfl, he⟩ := hs _ _ hr
         have ha4 := goes_num HD.out.bytes _ _ _ ha3 hr
         have HI3 := Aside0.mk hr
         have HS4 := Aside0.mk (HS3.out.step hm he)
         clear hm hn hs he hr
         have hc := HS4.out.cells (k := W.heap.size) (.inr ⟨rfl, rfl⟩)
         have hf := HS4.out.free (k := W.heap.size) (.inr ⟨rfl, rfl⟩)
         have HBX := Aside0.mk (HS4.out.box W.heap.size _ (.inr ⟨rfl, rfl⟩))
         go_wp2_with fail
         refine bodyPost_ret (v := .agg #[.int .i64 x0, .string x1, .int .i64 x2, .int .i64 x3]) (by simp [results, Tryz.results232, go_sem, hc]) rfl ?_
         have hmv := ((((Moved.refl w4 (fun k => k = W.heap.size)).set_ (p := ⟨W.heap.size, 0, none⟩) (.inl rfl) (.int .i64 x0)).set_ (p := ⟨W.heap.size, 1, none⟩) (.inl rfl) (.string x1)).set_ (p := ⟨W.heap.size, 2, none⟩) (.inl rfl) (.int .i64 x2)).set_ (p := ⟨W.heap.size, 3, none⟩) (.inl rfl) (.int .i64 x3)
         have HR := Aside0.mk (show dWatch xs a0 = some (⟨x0, x1, x2, x3⟩, a4) by simp only [dWatch, HI0.out, HI1.out, HI2.out, HI3.out, Option.bind_some])
         refine ⟨HS4.out.mov.trans hmv (fun k hk hs => by omega), (fun h => by rw [HR.out] at h; cases h), fun x z h => ?_⟩
         rw [HR.out] at h
         simp only [Option.some.injEq, Prod.mk.injEq] at h
         obtain ⟨rfl, rfl⟩ := h
         exact ⟨_, rfl, ⟨[.int .i64 x0, .string x1, .int .i64 x2, .int .i64 x3], rfl, k96_mkM _ _ _ _ ⟩, hmv.blk HS4.out.eye (fun h => HBX.out.2 h.symm)⟩
def dSeen (xs : List Int) (a : Nat) : Option (S88 × Nat) :=
 (dTxt xs a).bind fun p0 => (dTxt xs p0.2).bind fun p1 => (dNum xs p1.2).bind fun p2 => some (⟨p0.1, p1.1, p2.1⟩, p2.2)
theorem goes_Seen {xs : List Int} (hB : Bytes xs) : Goes dSeen xs := by
 intro a x b ha h
 unfold dSeen at h
 obtain ⟨p0, h0, h⟩ := Option.bind_eq_some_iff.1 h
 have g0 := goes_txt hB _ _ _ ha h0
 obtain ⟨p1, h1, h⟩ := Option.bind_eq_some_iff.1 h
 have g1 := goes_txt hB _ _ _ g0 h1
 obtain ⟨p2, h2, h⟩ := Option.bind_eq_some_iff.1 h
 have g2 := goes_num hB _ _ _ g1 h2
 simp only [Option.some.injEq, Prod.mk.injEq] at h
 obtain ⟨_, rfl⟩ := h
 exact g2
set_option maxRecDepth 100000 in
set_option maxHeartbeats 2000000 in
theorem get_Seen (w0 : World) (A : Option Addr) (c : Nat) (xs : List Int) (hD : Data w0 A c xs) : GetSeen 260 dSeen w0 A c xs := by
 intro W g a0 ha0 hb hg hE
 have HD := Aside0.mk hD
 have HB := Aside0.mk hb
 have HS0 := Aside0.mk ((Look.begin_ hE).lay (.cells #[.string ⟨#[]⟩, .string ⟨#[]⟩, .int .i64 0] 88 (0, 0)))
 clear hE hb hD
 go_enter Tryz.func260, Tryz.ntmps260
 go_wp2_with fail
 refine (rtxt w0 _ g A c a0 xs HD.out ha0 (HS0.out.mov.above HB.out (fun k hk => by omega)) hg HS0.out.eye).mono ?_
 rintro e w1 ⟨hm, hn, hs⟩
 cases hr : dTxt xs a0 with
 | none =>
   obtain rfl := hn hr
   have HR := Aside0.mk (show dSeen xs a0 = none by simp only [dSeen, hr, Option.bind_none, Option.bind_some])
   exact ⟨rfl, HS0.out.mov.trans hm (fun _ _ h => h), (fun _ => rfl), fun x a' h => by rw [HR.out] at h; cases h⟩
 | some p =>
   obtain ⟨x0, a1⟩ := p
   obtain ⟨v0, rfl, rfl, he⟩ := hs _ _ hr
   have ha1 := goes_txt HD.out.bytes _ _ _ ha0 hr
   have HI0 := Aside0.mk hr
   have HS1 := Aside0.mk (HS0.out.step hm he)
   clear hm hn hs he hr
   go_wp2_with fail
   refine (rtxt w0 _ g A c a1 xs HD.out ha1 (HS1.out.mov.above HB.out (fun k hk => by omega)) hg HS1.out.eye).mono ?_
   rintro e w2 ⟨hm, hn, hs⟩
   cases hr : dTxt xs a1 with
   | none =>
     obtain rfl := hn hr
     have HR := Aside0.mk (show dSeen xs a0 = none by simp only [dSeen, HI0.out, hr, Option.bind_none, Option.bind_some])
     exact ⟨rfl, HS1.out.mov.trans hm (fun _ _ h => h), (fun _ => rfl), fun x a' h => by rw [HR.out] at h; cases h⟩
   | some p =>
     obtain ⟨x1, a2⟩ := p
     obtain ⟨v1, rfl, rfl, he⟩ := hs _ _ hr
     have ha2 := goes_txt HD.out.bytes _ _ _ ha1 hr
     have HI1 := Aside0.mk hr
     have HS2 := Aside0.mk (HS1.out.step hm he)
     clear hm hn hs he hr
     go_wp2_with fail
     refine (rnum w0 _ g A c a2 xs HD.out ha2 (HS2.out.mov.above HB.out (fun k hk => by omega)) hg HS2.out.eye).mono ?_
     rintro e w3 ⟨hm, hn, hs⟩
     cases hr : dNum xs a2 with
     | none =>
       obtain rfl := hn hr
       have HR := Aside0.mk (show dSeen xs a0 = none by simp only [dSeen, HI0.out, HI1.out, hr, Option.bind_none, Option.bind_some])
       exact ⟨rfl, HS2.out.mov.trans hm (fun _ _ h => h), (fun _ => rfl), fun x a' h => by rw [HR.out] at h; cases h⟩
     | some p =>
       obtain ⟨x2, a3⟩ := p
       obtain ⟨v2, rfl, rfl, he⟩ := hs _ _ hr
       have ha3 := goes_num HD.out.bytes _ _ _ ha2 hr
       have HI2 := Aside0.mk hr
       have HS3 := Aside0.mk (HS2.out.step hm he)
       clear hm hn hs he hr
       have hc := HS3.out.cells (k := W.heap.size) (.inr ⟨rfl, rfl⟩)
       have hf := HS3.out.free (k := W.heap.size) (.inr ⟨rfl, rfl⟩)
       have HBX := Aside0.mk (HS3.out.box W.heap.size _ (.inr ⟨rfl, rfl⟩))
       go_wp2_with fail
       refine bodyPost_ret (v := .agg #[.string x0, .string x1, .int .i64 x2]) (by simp [results, Tryz.results260, go_sem, hc]) rfl ?_
       have hmv := (((Moved.refl w3 (fun k => k = W.heap.size)).set_ (p := ⟨W.heap.size, 0, none⟩) (.inl rfl) (.string x0)).set_ (p := ⟨W.heap.size, 1, none⟩) (.inl rfl) (.string x1)).set_ (p := ⟨W.heap.size, 2, none⟩) (.inl rfl) (.int .i64 x2)
       have HR := Aside0.mk (show dSeen xs a0 = some (⟨x0, x1, x2⟩, a3) by simp only [dSeen, HI0.out, HI1.out, HI2.out, Option.bind_some])
       refine ⟨HS3.out.mov.trans hmv (fun k hk hs => by omega), (fun h => by rw [HR.out] at h; cases h), fun x z h => ?_⟩
       rw [HR.out] at h
       simp only [Option.some.injEq, Prod.mk.injEq] at h
       obtain ⟨rfl, rfl⟩ := h
       exact ⟨_, rfl, ⟨[.string x0, .string x1, .int .i64 x2], rfl, k88_mkM _ _ _ _ ⟩, hmv.blk HS3.out.eye (fun h => HBX.out.2 h.symm)⟩
def dPart (xs : List Int) (a : Nat) : Option (S86 × Nat) :=
 (dNum xs a).bind fun p0 => (dNum xs p0.2).bind fun p1 => (dTxt xs p1.2).bind fun p2 => (dNum xs p2.2).bind fun p3 => ((dLst dSeen) xs p3.2).bind fun p4 => some (⟨p0.1, ⟨p1.1, p2.1, p3.1, p4.1⟩⟩, p4.2)
theorem goes_Part {xs : List Int} (hB : Bytes xs) : Goes dPart xs := by
 intro a x b ha h
 unfold dPart at h
 obtain ⟨p0, h0, h⟩ := Option.bind_eq_some_iff.1 h
 have g0 := goes_num hB _ _ _ ha h0
 obtain ⟨p1, h1, h⟩ := Option.bind_eq_some_iff.1 h
 have g1 := goes_num hB _ _ _ g0 h1
 obtain ⟨p2, h2, h⟩ := Option.bind_eq_some_iff.1 h
 have g2 := goes_txt hB _ _ _ g1 h2
 obtain ⟨p3, h3, h⟩ := Option.bind_eq_some_iff.1 h
 have g3 := goes_num hB _ _ _ g2 h3
 obtain ⟨p4, h4, h⟩ := Option.bind_eq_some_iff.1 h
 have g4 := goes_lst hB (goes_Seen hB) _ _ _ g3 h4
 simp only [Option.some.injEq, Prod.mk.injEq] at h
 obtain ⟨_, rfl⟩ := h
 exact g4
set_option maxRecDepth 100000 in
set_option maxHeartbeats 2000000 in
theorem get_Part (w0 : World) (A : Option Addr) (c : Nat) (xs : List Int) (hD : Data w0 A c xs) : GetPart 216 dPart w0 A c xs := by
 intro W g a0 ha0 hb hg hE
 have HD := Aside0.mk hD
 have HB := Aside0.mk hb
 have HS0 := Aside0.mk ((Look.begin_ hE).lay (.cells #[.int .i64 0, .int .i64 0, .string ⟨#[]⟩, .int .i64 0, .slice none 0 0] 86 (0, 0)))
 clear hE hb hD
 go_enter Tryz.func216, Tryz.ntmps216
 go_wp2_with fail
 refine (rnum w0 _ g A c a0 xs HD.out ha0 (HS0.out.mov.above HB.out (fun k hk => by omega)) hg HS0.out.eye).mono ?_
 rintro e w1 ⟨hm, hn, hs⟩
 cases hr : dNum xs a0 with
 | none =>
   obtain rfl := hn hr
   have HR := Aside0.mk (show dPart xs a0 = none by simp only [dPart, hr, Option.bind_none, Option.bind_some])
   exact ⟨rfl, HS0.out.mov.trans hm (fun _ _ h => h), (fun _ => rfl), fun x a' h => by rw [HR.out] at h; cases h⟩
 | some p =>
   obtain ⟨x0, a1⟩ := p
   obtain ⟨v0, rfl, rfl, he⟩ := hs _ _ hr
   have ha1 := goes_num HD.out.bytes _ _ _ ha0 hr
   have HI0 := Aside0.mk hr
   have HS1 := Aside0.mk (HS0.out.step hm he)
   clear hm hn hs he hr
   go_wp2_with fail
   refine (rnum w0 _ g A c a1 xs HD.out ha1 (HS1.out.mov.above HB.out (fun k hk => by omega)) hg HS1.out.eye).mono ?_
   rintro e w2 ⟨hm, hn, hs⟩
   cases hr : dNum xs a1 with
   | none =>
     obtain rfl := hn hr
     have HR := Aside0.mk (show dPart xs a0 = none by simp only [dPart, HI0.out, hr, Option.bind_none, Option.bind_some])
     exact ⟨rfl, HS1.out.mov.trans hm (fun _ _ h => h), (fun _ => rfl), fun x a' h => by rw [HR.out] at h; cases h⟩
   | some p =>
     obtain ⟨x1, a2⟩ := p
     obtain ⟨v1, rfl, rfl, he⟩ := hs _ _ hr
     have ha2 := goes_num HD.out.bytes _ _ _ ha1 hr
     have HI1 := Aside0.mk hr
     have HS2 := Aside0.mk (HS1.out.step hm he)
     clear hm hn hs he hr
     go_wp2_with fail
     refine (rtxt w0 _ g A c a2 xs HD.out ha2 (HS2.out.mov.above HB.out (fun k hk => by omega)) hg HS2.out.eye).mono ?_
     rintro e w3 ⟨hm, hn, hs⟩
     cases hr : dTxt xs a2 with
     | none =>
       obtain rfl := hn hr
       have HR := Aside0.mk (show dPart xs a0 = none by simp only [dPart, HI0.out, HI1.out, hr, Option.bind_none, Option.bind_some])
       exact ⟨rfl, HS2.out.mov.trans hm (fun _ _ h => h), (fun _ => rfl), fun x a' h => by rw [HR.out] at h; cases h⟩
     | some p =>
       obtain ⟨x2, a3⟩ := p
       obtain ⟨v2, rfl, rfl, he⟩ := hs _ _ hr
       have ha3 := goes_txt HD.out.bytes _ _ _ ha2 hr
       have HI2 := Aside0.mk hr
       have HS3 := Aside0.mk (HS2.out.step hm he)
       clear hm hn hs he hr
       go_wp2_with fail
       refine (rnum w0 _ g A c a3 xs HD.out ha3 (HS3.out.mov.above HB.out (fun k hk => by omega)) hg HS3.out.eye).mono ?_
       rintro e w4 ⟨hm, hn, hs⟩
       cases hr : dNum xs a3 with
       | none =>
         obtain rfl := hn hr
         have HR := Aside0.mk (show dPart xs a0 = none by simp only [dPart, HI0.out, HI1.out, HI2.out, hr, Option.bind_none, Option.bind_some])
         exact ⟨rfl, HS3.out.mov.trans hm (fun _ _ h => h), (fun _ => rfl), fun x a' h => by rw [HR.out] at h; cases h⟩
       | some p =>
         obtain ⟨x3, a4⟩ := p
         obtain ⟨v3, rfl, rfl, he⟩ := hs _ _ hr
         have ha4 := goes_num HD.out.bytes _ _ _ ha3 hr
         have HI3 := Aside0.mk hr
         have HS4 := Aside0.mk (HS3.out.step hm he)
         clear hm hn hs he hr
         go_wp2_with fail
         refine (getList_Seen 260 (fun args w => by kernel_rfl) dSeen w0 _ g A c a4 xs (get_Seen w0 A c xs HD.out) (goes_Seen HD.out.bytes) HD.out ha4 (HS4.out.mov.above HB.out (fun k hk => by omega)) hg HS4.out.eye).mono ?_
         rintro e w5 ⟨hm, hn, hs⟩
         cases hr : (dLst dSeen) xs a4 with
         | none =>
           obtain rfl := hn hr
           have HR := Aside0.mk (show dPart xs a0 = none by simp only [dPart, HI0.out, HI1.out, HI2.out, HI3.out, hr, Option.bind_none, Option.bind_some])
           exact ⟨rfl, HS4.out.mov.trans hm (fun _ _ h => h), (fun _ => rfl), fun x a' h => by rw [HR.out] at h; cases h⟩
         | some p =>
           obtain ⟨x4, a5⟩ := p
           obtain ⟨v4, rfl, ho, he⟩ := hs _ _ hr
           have HO4 := Aside0.mk (Kd.R_lower ho HS4.out.mov.size)
           obtain ⟨A4, c4, rfl, _, _⟩ := Kd.R_reads ho
           clear ho
           have ha5 := goes_lst HD.out.bytes (goes_Seen HD.out.bytes) _ _ _ ha4 hr
           have HI4 := Aside0.mk hr
           have HS5 := Aside0.mk (HS4.out.step hm he)
           clear hm hn hs he hr
           have hc := HS5.out.cells (k := W.heap.size) (.inr ⟨rfl, rfl⟩)
           have hf := HS5.out.free (k := W.heap.size) (.inr ⟨rfl, rfl⟩)
           have HBX := Aside0.mk (HS5.out.box W.heap.size _ (.inr ⟨rfl, rfl⟩))
           go_wp2_with fail
           refine bodyPost_ret (v := .agg #[.int .i64 x0, .int .i64 x1, .string x2, .int .i64 x3, .slice A4 x4.length c4]) (by simp [results, Tryz.results216, go_sem, hc]) rfl ?_
           have hmv := (((((Moved.refl w5 (fun k => k = W.heap.size)).set_ (p := ⟨W.heap.size, 0, none⟩) (.inl rfl) (.int .i64 x0)).set_ (p := ⟨W.heap.size, 1, none⟩) (.inl rfl) (.int .i64 x1)).set_ (p := ⟨W.heap.size, 2, none⟩) (.inl rfl) (.string x2)).set_ (p := ⟨W.heap.size, 3, none⟩) (.inl rfl) (.int .i64 x3)).set_ (p := ⟨W.heap.size, 4, none⟩) (.inl rfl) (.slice A4 x4.length c4)
           have HR := Aside0.mk (show dPart xs a0 = some (⟨x0, ⟨x1, x2, x3, x4⟩⟩, a5) by simp only [dPart, HI0.out, HI1.out, HI2.out, HI3.out, HI4.out, Option.bind_some])
           refine ⟨HS5.out.mov.trans hmv (fun k hk hs => by omega), (fun h => by rw [HR.out] at h; cases h), fun x z h => ?_⟩
           rw [HR.out] at h
           simp only [Option.some.injEq, Prod.mk.injEq] at h
           obtain ⟨rfl, rfl⟩ := h
           exact ⟨_, rfl, ⟨[.int .i64 x0, .int .i64 x1, .string x2, .int .i64 x3, .slice A4 x4.length c4], rfl, k86_mkM _ _ _ _ (R_moved HO4.out HBX.out.1 (by decide) hmv)⟩, hmv.blk HS5.out.eye (fun h => HBX.out.2 h.symm)⟩
def dTagged (xs : List Int) (a : Nat) : Option (S148 × Nat) :=
 (dNum xs a).bind fun p0 => (dTxt xs p0.2).bind fun p1 => (dTxt xs p1.2).bind fun p2 => (dNum xs p2.2).bind fun p3 => ((dLst dNum) xs p3.2).bind fun p4 => some (⟨⟨p0.1, p1.1, p2.1, p3.1⟩, p4.1⟩, p4.2)
theorem goes_Tagged {xs : List Int} (hB : Bytes xs) : Goes dTagged xs := by
 intro a x b ha h
 unfold dTagged at h
 obtain ⟨p0, h0, h⟩ := Option.bind_eq_some_iff.1 h
 have g0 := goes_num hB _ _ _ ha h0
 obtain ⟨p1, h1, h⟩ := Option.bind_eq_some_iff.1 h
 have g1 := goes_txt hB _ _ _ g0 h1
 obtain ⟨p2, h2, h⟩ := Option.bind_eq_some_iff.1 h
 have g2 := goes_txt hB _ _ _ g1 h2
 obtain ⟨p3, h3, h⟩ := Option.bind_eq_some_iff.1 h
 have g3 := goes_num hB _ _ _ g2 h3
 obtain ⟨p4, h4, h⟩ := Option.bind_eq_some_iff.1 h
 have g4 := goes_lst hB (goes_num hB) _ _ _ g3 h4
 simp only [Option.some.injEq, Prod.mk.injEq] at h
 obtain ⟨_, rfl⟩ := h
 exact g4
set_option maxRecDepth 100000 in
set_option maxHeartbeats 2000000 in
theorem get_Tagged (w0 : World) (A : Option Addr) (c : Nat) (xs : List Int) (hD : Data w0 A c xs) : GetTagged 254 dTagged w0 A c xs := by
 intro W g a0 ha0 hb hg hE
 have HD := Aside0.mk hD
 have HB := Aside0.mk hb
 have HS0 := Aside0.mk ((Look.begin_ hE).lay (.cells #[.int .i64 0, .string ⟨#[]⟩, .string ⟨#[]⟩, .int .i64 0, .slice none 0 0] 148 (0, 0)))
 clear hE hb hD
 go_enter Tryz.func254, Tryz.ntmps254
 go_wp2_with fail
 refine (rnum w0 _ g A c a0 xs HD.out ha0 (HS0.out.mov.above HB.out (fun k hk => by omega)) hg HS0.out.eye).mono ?_
 rintro e w1 ⟨hm, hn, hs⟩
 cases hr : dNum xs a0 with
 | none =>
   obtain rfl := hn hr
   have HR := Aside0.mk (show dTagged xs a0 = none by simp only [dTagged, hr, Option.bind_none, Option.bind_some])
   exact ⟨rfl, HS0.out.mov.trans hm (fun _ _ h => h), (fun _ => rfl), fun x a' h => by rw [HR.out] at h; cases h⟩
 | some p =>
   obtain ⟨x0, a1⟩ := p
   obtain ⟨v0, rfl, rfl, he⟩ := hs _ _ hr
   have ha1 := goes_num HD.out.bytes _ _ _ ha0 hr
   have HI0 := Aside0.mk hr
   have HS1 := Aside0.mk (HS0.out.step hm he)
   clear hm hn hs he hr
   go_wp2_with fail
   refine (rtxt w0 _ g A c a1 xs HD.out ha1 (HS1.out.mov.above HB.out (fun k hk => by omega)) hg HS1.out.eye).mono ?_
   rintro e w2 ⟨hm, hn, hs⟩
   cases hr : dTxt xs a1 with
   | none =>
     obtain rfl := hn hr
     have HR := Aside0.mk (show dTagged xs a0 = none by simp only [dTagged, HI0.out, hr, Option.bind_none, Option.bind_some])
     exact ⟨rfl, HS1.out.mov.trans hm (fun _ _ h => h), (fun _ => rfl), fun x a' h => by rw [HR.out] at h; cases h⟩
   | some p =>
     obtain ⟨x1, a2⟩ := p
     obtain ⟨v1, rfl, rfl, he⟩ := hs _ _ hr
     have ha2 := goes_txt HD.out.bytes _ _ _ ha1 hr
     have HI1 := Aside0.mk hr
     have HS2 := Aside0.mk (HS1.out.step hm he)
     clear hm hn hs he hr
     go_wp2_with fail
     refine (rtxt w0 _ g A c a2 xs HD.out ha2 (HS2.out.mov.above HB.out (fun k hk => by omega)) hg HS2.out.eye).mono ?_
     rintro e w3 ⟨hm, hn, hs⟩
     cases hr : dTxt xs a2 with
     | none =>
       obtain rfl := hn hr
       have HR := Aside0.mk (show dTagged xs a0 = none by simp only [dTagged, HI0.out, HI1.out, hr, Option.bind_none, Option.bind_some])
       exact ⟨rfl, HS2.out.mov.trans hm (fun _ _ h => h), (fun _ => rfl), fun x a' h => by rw [HR.out] at h; cases h⟩
     | some p =>
       obtain ⟨x2, a3⟩ := p
       obtain ⟨v2, rfl, rfl, he⟩ := hs _ _ hr
       have ha3 := goes_txt HD.out.bytes _ _ _ ha2 hr
       have HI2 := Aside0.mk hr
       have HS3 := Aside0.mk (HS2.out.step hm he)
       clear hm hn hs he hr
       go_wp2_with fail
       refine (rnum w0 _ g A c a3 xs HD.out ha3 (HS3.out.mov.above HB.out (fun k hk => by omega)) hg HS3.out.eye).mono ?_
       rintro e w4 ⟨hm, hn, hs⟩
       cases hr : dNum xs a3 with
       | none =>
         obtain rfl := hn hr
         have HR := Aside0.mk (show dTagged xs a0 = none by simp only [dTagged, HI0.out, HI1.out, HI2.out, hr, Option.bind_none, Option.bind_some])
         exact ⟨rfl, HS3.out.mov.trans hm (fun _ _ h => h), (fun _ => rfl), fun x a' h => by rw [HR.out] at h; cases h⟩
       | some p =>
         obtain ⟨x3, a4⟩ := p
         obtain ⟨v3, rfl, rfl, he⟩ := hs _ _ hr
         have ha4 := goes_num HD.out.bytes _ _ _ ha3 hr
         have HI3 := Aside0.mk hr
         have HS4 := Aside0.mk (HS3.out.step hm he)
         clear hm hn hs he hr
         go_wp2_with fail
         refine (getList_int 279 (fun args w => by kernel_rfl) dNum w0 _ g A c a4 xs (get_int w0 A c xs HD.out) (goes_num HD.out.bytes) HD.out ha4 (HS4.out.mov.above HB.out (fun k hk => by omega)) hg HS4.out.eye).mono ?_
         rintro e w5 ⟨hm, hn, hs⟩
         cases hr : (dLst dNum) xs a4 with
         | none =>
           obtain rfl := hn hr
           have HR := Aside0.mk (show dTagged xs a0 = none by simp only [dTagged, HI0.out, HI1.out, HI2.out, HI3.out, hr, Option.bind_none, Option.bind_some])
           exact ⟨rfl, HS4.out.mov.trans hm (fun _ _ h => h), (fun _ => rfl), fun x a' h => by rw [HR.out] at h; cases h⟩
         | some p =>
           obtain ⟨x4, a5⟩ := p
           obtain ⟨v4, rfl, ho, he⟩ := hs _ _ hr
           have HO4 := Aside0.mk (Kd.R_lower ho HS4.out.mov.size)
           obtain ⟨A4, c4, rfl, _, _⟩ := Kd.R_reads ho
           clear ho
           have ha5 := goes_lst HD.out.bytes (goes_num HD.out.bytes) _ _ _ ha4 hr
           have HI4 := Aside0.mk hr
           have HS5 := Aside0.mk (HS4.out.step hm he)
           clear hm hn hs he hr
           have hc := HS5.out.cells (k := W.heap.size) (.inr ⟨rfl, rfl⟩)
           have hf := HS5.out.free (k := W.heap.size) (.inr ⟨rfl, rfl⟩)
           have HBX := Aside0.mk (HS5.out.box W.heap.size _ (.inr ⟨rfl, rfl⟩))
           go_wp2_with fail
           refine bodyPost_ret (v := .agg #[.int .i64 x0, .string x1, .string x2, .int .i64 x3, .slice A4 x4.length c4]) (by simp [results, Tryz.results254, go_sem, hc]) rfl ?_
           have hmv := (((((Moved.refl w5 (fun k => k = W.heap.size)).set_ (p := ⟨W.heap.size, 0, none⟩) (.inl rfl) (.int .i64 x0)).set_ (p := ⟨W.heap.size, 1, none⟩) (.inl rfl) (.string x1)).set_ (p := ⟨W.heap.size, 2, none⟩) (.inl rfl) (.string x2)).set_ (p := ⟨W.heap.size, 3, none⟩) (.inl rfl) (.int .i64 x3)).set_ (p := ⟨W.heap.size, 4, none⟩) (.inl rfl) (.slice A4 x4.length c4)
           have HR := Aside0.mk (show dTagged xs a0 = some (⟨⟨x0, x1, x2, x3⟩, x4⟩, a5) by simp only [dTagged, HI0.out, HI1.out, HI2.out, HI3.out, HI4.out, Option.bind_some])
           refine ⟨HS5.out.mov.trans hmv (fun k hk hs => by omega), (fun h => by rw [HR.out] at h; cases h), fun x z h => ?_⟩
           rw [HR.out] at h
           simp only [Option.some.injEq, Prod.mk.injEq] at h
           obtain ⟨rfl, rfl⟩ := h
           exact ⟨_, rfl, ⟨[.int .i64 x0, .string x1, .string x2, .int .i64 x3, .slice A4 x4.length c4], rfl, k148_mkM _ _ _ _ (R_moved HO4.out HBX.out.1 (by decide) hmv)⟩, hmv.blk HS5.out.eye (fun h => HBX.out.2 h.symm)⟩
def dResult (xs : List Int) (a : Nat) : Option (S81 × Nat) :=
 (dTxt xs a).bind fun p0 => (dTxt xs p0.2).bind fun p1 => (dNum xs p1.2).bind fun p2 => (dNum xs p2.2).bind fun p3 => (dNum xs p3.2).bind fun p4 => (dNum xs p4.2).bind fun p5 => ((dLst dTxt) xs p5.2).bind fun p6 => some (⟨p0.1, p1.1, p2.1, p3.1, p4.1, p5.1, p6.1⟩, p6.2)
theorem goes_Result {xs : List Int} (hB : Bytes xs) : Goes dResult xs := by
 intro a x b ha h
 unfold dResult at h
 obtain ⟨p0, h0, h⟩ := Option.bind_eq_some_iff.1 h
 have g0 := goes_txt hB _ _ _ ha h0
 obtain ⟨p1, h1, h⟩ := Option.bind_eq_some_iff.1 h
 have g1 := goes_txt hB _ _ _ g0 h1
 obtain ⟨p2, h2, h⟩ := Option.bind_eq_some_iff.1 h
 have g2 := goes_num hB _ _ _ g1 h2
 obtain ⟨p3, h3, h⟩ := Option.bind_eq_some_iff.1 h
 have g3 := goes_num hB _ _ _ g2 h3
 obtain ⟨p4, h4, h⟩ := Option.bind_eq_some_iff.1 h
 have g4 := goes_num hB _ _ _ g3 h4
 obtain ⟨p5, h5, h⟩ := Option.bind_eq_some_iff.1 h
 have g5 := goes_num hB _ _ _ g4 h5
 obtain ⟨p6, h6, h⟩ := Option.bind_eq_some_iff.1 h
 have g6 := goes_lst hB (goes_txt hB) _ _ _ g5 h6
 simp only [Option.some.injEq, Prod.mk.injEq] at h
 obtain ⟨_, rfl⟩ := h
 exact g6
set_option maxRecDepth 100000 in
set_option maxHeartbeats 2000000 in
theorem get_Result (w0 : World) (A : Option Addr) (c : Nat) (xs : List Int) (hD : Data w0 A c xs) : GetResult 246 dResult w0 A c xs := by
 intro W g a0 ha0 hb hg hE
 have HD := Aside0.mk hD
 have HB := Aside0.mk hb
 have HS0 := Aside0.mk ((Look.begin_ hE).lay (.cells #[.string ⟨#[]⟩, .string ⟨#[]⟩, .int .i64 0, .int .i64 0, .int .i64 0, .int .i64 0, .slice none 0 0] 81 (0, 0)))
 clear hE hb hD
 go_enter Tryz.func246, Tryz.ntmps246
 go_wp2_with fail
 refine (rtxt w0 _ g A c a0 xs HD.out ha0 (HS0.out.mov.above HB.out (fun k hk => by omega)) hg HS0.out.eye).mono ?_
 rintro e w1 ⟨hm, hn, hs⟩
 cases hr : dTxt xs a0 with
 | none =>
   obtain rfl := hn hr
   have HR := Aside0.mk (show dResult xs a0 = none by simp only [dResult, hr, Option.bind_none, Option.bind_some])
   exact ⟨rfl, HS0.out.mov.trans hm (fun _ _ h => h), (fun _ => rfl), fun x a' h => by rw [HR.out] at h; cases h⟩
 | some p =>
   obtain ⟨x0, a1⟩ := p
   obtain ⟨v0, rfl, rfl, he⟩ := hs _ _ hr
   have ha1 := goes_txt HD.out.bytes _ _ _ ha0 hr
   have HI0 := Aside0.mk hr
   have HS1 := Aside0.mk (HS0.out.step hm he)
   clear hm hn hs he hr
   go_wp2_with fail
   refine (rtxt w0 _ g A c a1 xs HD.out ha1 (HS1.out.mov.above HB.out (fun k hk => by omega)) hg HS1.out.eye).mono ?_
   rintro e w2 ⟨hm, hn, hs⟩
   cases hr : dTxt xs a1 with
   | none =>
     obtain rfl := hn hr
     have HR := Aside0.mk (show dResult xs a0 = none by simp only [dResult, HI0.out, hr, Option.bind_none, Option.bind_some])
     exact ⟨rfl, HS1.out.mov.trans hm (fun _ _ h => h), (fun _ => rfl), fun x a' h => by rw [HR.out] at h; cases h⟩
   | some p =>
     obtain ⟨x1, a2⟩ := p
     obtain ⟨v1, rfl, rfl, he⟩ := hs _ _ hr
     have ha2 := goes_txt HD.out.bytes _ _ _ ha1 hr
     have HI1 := Aside0.mk hr
     have HS2 := Aside0.mk (HS1.out.step hm he)
     clear hm hn hs he hr
     go_wp2_with fail
     refine (rnum w0 _ g A c a2 xs HD.out ha2 (HS2.out.mov.above HB.out (fun k hk => by omega)) hg HS2.out.eye).mono ?_
     rintro e w3 ⟨hm, hn, hs⟩
     cases hr : dNum xs a2 with
     | none =>
       obtain rfl := hn hr
       have HR := Aside0.mk (show dResult xs a0 = none by simp only [dResult, HI0.out, HI1.out, hr, Option.bind_none, Option.bind_some])
       exact ⟨rfl, HS2.out.mov.trans hm (fun _ _ h => h), (fun _ => rfl), fun x a' h => by rw [HR.out] at h; cases h⟩
     | some p =>
       obtain ⟨x2, a3⟩ := p
       obtain ⟨v2, rfl, rfl, he⟩ := hs _ _ hr
       have ha3 := goes_num HD.out.bytes _ _ _ ha2 hr
       have HI2 := Aside0.mk hr
       have HS3 := Aside0.mk (HS2.out.step hm he)
       clear hm hn hs he hr
       go_wp2_with fail
       refine (rnum w0 _ g A c a3 xs HD.out ha3 (HS3.out.mov.above HB.out (fun k hk => by omega)) hg HS3.out.eye).mono ?_
       rintro e w4 ⟨hm, hn, hs⟩
       cases hr : dNum xs a3 with
       | none =>
         obtain rfl := hn hr
         have HR := Aside0.mk (show dResult xs a0 = none by simp only [dResult, HI0.out, HI1.out, HI2.out, hr, Option.bind_none, Option.bind_some])
         exact ⟨rfl, HS3.out.mov.trans hm (fun _ _ h => h), (fun _ => rfl), fun x a' h => by rw [HR.out] at h; cases h⟩
       | some p =>
         obtain ⟨x3, a4⟩ := p
         obtain ⟨v3, rfl, rfl, he⟩ := hs _ _ hr
         have ha4 := goes_num HD.out.bytes _ _ _ ha3 hr
         have HI3 := Aside0.mk hr
         have HS4 := Aside0.mk (HS3.out.step hm he)
         clear hm hn hs he hr
         go_wp2_with fail
         refine (rnum w0 _ g A c a4 xs HD.out ha4 (HS4.out.mov.above HB.out (fun k hk => by omega)) hg HS4.out.eye).mono ?_
         rintro e w5 ⟨hm, hn, hs⟩
         cases hr : dNum xs a4 with
         | none =>
           obtain rfl := hn hr
           have HR := Aside0.mk (show dResult xs a0 = none by simp only [dResult, HI0.out, HI1.out, HI2.out, HI3.out, hr, Option.bind_none, Option.bind_some])
           exact ⟨rfl, HS4.out.mov.trans hm (fun _ _ h => h), (fun _ => rfl), fun x a' h => by rw [HR.out] at h; cases h⟩
         | some p =>
           obtain ⟨x4, a5⟩ := p
           obtain ⟨v4, rfl, rfl, he⟩ := hs _ _ hr
           have ha5 := goes_num HD.out.bytes _ _ _ ha4 hr
           have HI4 := Aside0.mk hr
           have HS5 := Aside0.mk (HS4.out.step hm he)
           clear hm hn hs he hr
           go_wp2_with fail
           refine (rnum w0 _ g A c a5 xs HD.out ha5 (HS5.out.mov.above HB.out (fun k hk => by omega)) hg HS5.out.eye).mono ?_
           rintro e w6 ⟨hm, hn, hs⟩
           cases hr : dNum xs a5 with
           | none =>
             obtain rfl := hn hr
             have HR := Aside0.mk (show dResult xs a0 = none by simp only [dResult, HI0.out, HI1.out, HI2.out, HI3.out, HI4.out, hr, Option.bind_none, Option.bind_some])
             exact ⟨rfl, HS5.out.mov.trans hm (fun _ _ h => h), (fun _ => rfl), fun x a' h => by rw [HR.out] at h; cases h⟩
           | some p =>
             obtain ⟨x5, a6⟩ := p
             obtain ⟨v5, rfl, rfl, he⟩ := hs _ _ hr
             have ha6 := goes_num HD.out.bytes _ _ _ ha5 hr
             have HI5 := Aside0.mk hr
             have HS6 := Aside0.mk (HS5.out.step hm he)
             clear hm hn hs he hr
             go_wp2_with fail
             refine (getList_string 270 (fun args w => by kernel_rfl) dTxt w0 _ g A c a6 xs (get_string w0 A c xs HD.out) (goes_txt HD.out.bytes) HD.out ha6 (HS6.out.mov.above HB.out (fun k hk => by omega)) hg HS6.out.eye).mono ?_
             rintro e w7 ⟨hm, hn, hs⟩
             cases hr : (dLst dTxt) xs a6 with
             | none =>
               obtain rfl := hn hr
               have HR := Aside0.mk (show dResult xs a0 = none by simp only [dResult, HI0.out, HI1.out, HI2.out, HI3.out, HI4.out, HI5.out, hr, Option.bind_none, Option.bind_some])
               exact ⟨rfl, HS6.out.mov.trans hm (fun _ _ h => h), (fun _ => rfl), fun x a' h => by rw [HR.out] at h; cases h⟩
             | some p =>
               obtain ⟨x6, a7⟩ := p
               obtain ⟨v6, rfl, ho, he⟩ := hs _ _ hr
               have HO6 := Aside0.mk (Kd.R_lower ho HS6.out.mov.size)
               obtain ⟨A6, c6, rfl, _, _⟩ := Kd.R_reads ho
               clear ho
               have ha7 := goes_lst HD.out.bytes (goes_txt HD.out.bytes) _ _ _ ha6 hr
               have HI6 := Aside0.mk hr
               have HS7 := Aside0.mk (HS6.out.step hm he)
               clear hm hn hs he hr
               have hc := HS7.out.cells (k := W.heap.size) (.inr ⟨rfl, rfl⟩)
               have hf := HS7.out.free (k := W.heap.size) (.inr ⟨rfl, rfl⟩)
               have HBX := Aside0.mk (HS7.out.box W.heap.size _ (.inr ⟨rfl, rfl⟩))
               go_wp2_with fail
               refine bodyPost_ret (v := .agg #[.string x0, .string x1, .int .i64 x2, .int .i64 x3, .int .i64 x4, .int .i64 x5, .slice A6 x6.length c6]) (by simp [results, Tryz.results246, go_sem, hc]) rfl ?_
               have hmv := (((((((Moved.refl w7 (fun k => k = W.heap.size)).set_ (p := ⟨W.heap.size, 0, none⟩) (.inl rfl) (.string x0)).set_ (p := ⟨W.heap.size, 1, none⟩) (.inl rfl) (.string x1)).set_ (p := ⟨W.heap.size, 2, none⟩) (.inl rfl) (.int .i64 x2)).set_ (p := ⟨W.heap.size, 3, none⟩) (.inl rfl) (.int .i64 x3)).set_ (p := ⟨W.heap.size, 4, none⟩) (.inl rfl) (.int .i64 x4)).set_ (p := ⟨W.heap.size, 5, none⟩) (.inl rfl) (.int .i64 x5)).set_ (p := ⟨W.heap.size, 6, none⟩) (.inl rfl) (.slice A6 x6.length c6)
               have HR := Aside0.mk (show dResult xs a0 = some (⟨x0, x1, x2, x3, x4, x5, x6⟩, a7) by simp only [dResult, HI0.out, HI1.out, HI2.out, HI3.out, HI4.out, HI5.out, HI6.out, Option.bind_some])
               refine ⟨HS7.out.mov.trans hmv (fun k hk hs => by omega), (fun h => by rw [HR.out] at h; cases h), fun x z h => ?_⟩
               rw [HR.out] at h
               simp only [Option.some.injEq, Prod.mk.injEq] at h
               obtain ⟨rfl, rfl⟩ := h
               exact ⟨_, rfl, ⟨[.string x0, .string x1, .int .i64 x2, .int .i64 x3, .int .i64 x4, .int .i64 x5, .slice A6 x6.length c6], rfl, k81_mkM _ _ _ _ (R_moved HO6.out HBX.out.1 (by decide) hmv)⟩, hmv.blk HS7.out.eye (fun h => HBX.out.2 h.symm)⟩
def dReply (xs : List Int) (a : Nat) : Option (S29 × Nat) :=
 (dNum xs a).bind fun p0 => (dNum xs p0.2).bind fun p1 => (dNum xs p1.2).bind fun p2 => ((dLst dResult) xs p2.2).bind fun p3 => some (⟨p0.1, p1.1, p2.1, p3.1⟩, p3.2)
theorem goes_Reply {xs : List Int} (hB : Bytes xs) : Goes dReply xs := by
 intro a x b ha h
 unfold dReply at h
 obtain ⟨p0, h0, h⟩ := Option.bind_eq_some_iff.1 h
 have g0 := goes_num hB _ _ _ ha h0
 obtain ⟨p1, h1, h⟩ := Option.bind_eq_some_iff.1 h
 have g1 := goes_num hB _ _ _ g0 h1
 obtain ⟨p2, h2, h⟩ := Option.bind_eq_some_iff.1 h
 have g2 := goes_num hB _ _ _ g1 h2
 obtain ⟨p3, h3, h⟩ := Option.bind_eq_some_iff.1 h
 have g3 := goes_lst hB (goes_Result hB) _ _ _ g2 h3
 simp only [Option.some.injEq, Prod.mk.injEq] at h
 obtain ⟨_, rfl⟩ := h
 exact g3
set_option maxRecDepth 100000 in
set_option maxHeartbeats 2000000 in
theorem get_Reply (w0 : World) (A : Option Addr) (c : Nat) (xs : List Int) (hD : Data w0 A c xs) (W : World) (g a0 : Nat) (ha0 : a0 ≤ xs.length) (hb : Below w0.heap.size w0 W) (hg : w0.heap.size ≤ g) (hE : Eye W g A xs.length c a0) :
   Calls Tryz.prog 183 #[.pointer (some ⟨g, 0, none⟩)] W fun e W' => Got W W' g A xs.length c (dReply xs a0) (fun v x => ∃ cs : List Value, v = .agg cs.toArray ∧ k29.M W' W.heap.size (fun _ => True) x cs) e := by
 have HD := Aside0.mk hD
 have HB := Aside0.mk hb
 have HS0 := Aside0.mk ((Look.begin_ hE).lay (.cells #[.int .i64 0, .int .i64 0, .int .i64 0, .slice none 0 0] 29 (0, 0)))
 clear hE hb hD
 go_enter Tryz.func183, Tryz.ntmps183
 go_wp2_with fail
 refine (rnum w0 _ g A c a0 xs HD.out ha0 (HS0.out.mov.above HB.out (fun k hk => by omega)) hg HS0.out.eye).mono ?_
 rintro e w1 ⟨hm, hn, hs⟩
 cases hr : dNum xs a0 with
 | none =>
   obtain rfl := hn hr
   have HR := Aside0.mk (show dReply xs a0 = none by simp only [dReply, hr, Option.bind_none, Option.bind_some])
   exact ⟨rfl, HS0.out.mov.trans hm (fun _ _ h => h), (fun _ => rfl), fun x a' h => by rw [HR.out] at h; cases h⟩
 | some p =>
   obtain ⟨x0, a1⟩ := p
   obtain ⟨v0, rfl, rfl, he⟩ := hs _ _ hr
   have ha1 := goes_num HD.out.bytes _ _ _ ha0 hr
   have HI0 := Aside0.mk hr
   have HS1 := Aside0.mk (HS0.out.step hm he)
   clear hm hn hs he hr
   go_wp2_with fail
   refine (rnum w0 _ g A c a1 xs HD.out ha1 (HS1.out.mov.above HB.out (fun k hk => by omega)) hg HS1.out.eye).mono ?_
   rintro e w2 ⟨hm, hn, hs⟩
   cases hr : dNum xs a1 with
   | none =>
     obtain rfl := hn hr
     have HR := Aside0.mk (show dReply xs a0 = none by simp only [dReply, HI0.out, hr, Option.bind_none, Option.bind_some])
     exact ⟨rfl, HS1.out.mov.trans hm (fun _ _ h => h), (fun _ => rfl), fun x a' h => by rw [HR.out] at h; cases h⟩
   | some p =>
     obtain ⟨x1, a2⟩ := p
     obtain ⟨v1, rfl, rfl, he⟩ := hs _ _ hr
     have ha2 := goes_num HD.out.bytes _ _ _ ha1 hr
     have HI1 := Aside0.mk hr
     have HS2 := Aside0.mk (HS1.out.step hm he)
     clear hm hn hs he hr
     go_wp2_with fail
     refine (rnum w0 _ g A c a2 xs HD.out ha2 (HS2.out.mov.above HB.out (fun k hk => by omega)) hg HS2.out.eye).mono ?_
     rintro e w3 ⟨hm, hn, hs⟩
     cases hr : dNum xs a2 with
     | none =>
       obtain rfl := hn hr
       have HR := Aside0.mk (show dReply xs a0 = none by simp only [dReply, HI0.out, HI1.out, hr, Option.bind_none, Option.bind_some])
       exact ⟨rfl, HS2.out.mov.trans hm (fun _ _ h => h), (fun _ => rfl), fun x a' h => by rw [HR.out] at h; cases h⟩
     | some p =>
       obtain ⟨x2, a3⟩ := p
       obtain ⟨v2, rfl, rfl, he⟩ := hs _ _ hr
       have ha3 := goes_num HD.out.bytes _ _ _ ha2 hr
       have HI2 := Aside0.mk hr
       have HS3 := Aside0.mk (HS2.out.step hm he)
       clear hm hn hs he hr
       go_wp2_with fail
       refine (getList_Result 246 (fun args w => by kernel_rfl) dResult w0 _ g A c a3 xs (get_Result w0 A c xs HD.out) (goes_Result HD.out.bytes) HD.out ha3 (HS3.out.mov.above HB.out (fun k hk => by omega)) hg HS3.out.eye).mono ?_
       rintro e w4 ⟨hm, hn, hs⟩
       cases hr : (dLst dResult) xs a3 with
       | none =>
         obtain rfl := hn hr
         have HR := Aside0.mk (show dReply xs a0 = none by simp only [dReply, HI0.out, HI1.out, HI2.out, hr, Option.bind_none, Option.bind_some])
         exact ⟨rfl, HS3.out.mov.trans hm (fun _ _ h => h), (fun _ => rfl), fun x a' h => by rw [HR.out] at h; cases h⟩
       | some p =>
         obtain ⟨x3, a4⟩ := p
         obtain ⟨v3, rfl, ho, he⟩ := hs _ _ hr
         have HO3 := Aside0.mk (Kd.R_lower ho HS3.out.mov.size)
         obtain ⟨A3, c3, rfl, _, _⟩ := Kd.R_reads ho
         clear ho
         have ha4 := goes_lst HD.out.bytes (goes_Result HD.out.bytes) _ _ _ ha3 hr
         have HI3 := Aside0.mk hr
         have HS4 := Aside0.mk (HS3.out.step hm he)
         clear hm hn hs he hr
         have hc := HS4.out.cells (k := W.heap.size) (.inr ⟨rfl, rfl⟩)
         have hf := HS4.out.free (k := W.heap.size) (.inr ⟨rfl, rfl⟩)
         have HBX := Aside0.mk (HS4.out.box W.heap.size _ (.inr ⟨rfl, rfl⟩))
         go_wp2_with fail
         refine bodyPost_ret (v := .agg #[.int .i64 x0, .int .i64 x1, .int .i64 x2, .slice A3 x3.length c3]) (by simp [results, Tryz.results183, go_sem, hc]) rfl ?_
         have hmv := ((((Moved.refl w4 (fun k => k = W.heap.size)).set_ (p := ⟨W.heap.size, 0, none⟩) (.inl rfl) (.int .i64 x0)).set_ (p := ⟨W.heap.size, 1, none⟩) (.inl rfl) (.int .i64 x1)).set_ (p := ⟨W.heap.size, 2, none⟩) (.inl rfl) (.int .i64 x2)).set_ (p := ⟨W.heap.size, 3, none⟩) (.inl rfl) (.slice A3 x3.length c3)
         have HR := Aside0.mk (show dReply xs a0 = some (⟨x0, x1, x2, x3⟩, a4) by simp only [dReply, HI0.out, HI1.out, HI2.out, HI3.out, Option.bind_some])
         refine ⟨HS4.out.mov.trans hmv (fun k hk hs => by omega), (fun h => by rw [HR.out] at h; cases h), fun x z h => ?_⟩
         rw [HR.out] at h
         simp only [Option.some.injEq, Prod.mk.injEq] at h
         obtain ⟨rfl, rfl⟩ := h
         exact ⟨_, rfl, ⟨[.int .i64 x0, .int .i64 x1, .int .i64 x2, .slice A3 x3.length c3], rfl, k29_mkM _ _ _ _ (R_moved HO3.out HBX.out.1 (by decide) hmv)⟩, hmv.blk HS4.out.eye (fun h => HBX.out.2 h.symm)⟩
end Go.Proofs.YtmneemhplffemaaGreatDoorRR.Get
namespace Go.Proofs.YtmneemhplffemaaGreatDoorRR.Get
open Go.RowKit Go.Proofs.YtmneemhplffemaaGreatDoorRR.Ext Go.Proofs.YtmneemhplffemaaGreatDoorRR.Wire Go.Proofs.YtmneemhplffemaaGreatDoorRR.Mem Go.Proofs.YtmneemhplffemaaGreatDoorRR.Ki Go.Proofs.YtmneemhplffemaaGreatDoorRRW.PrintWords


theorem Look.store {W0 W : World} {g n c a k t : Nat} {A : Option Addr} {B : Nat → Obj → Prop} {cs : Array Value} (h : Look W0 W g A n c a B) (hb : W.heap[k]? = some (.cells cs t (0, 0))) (hk : k ≠ g) (hn : W0.heap.size ≤ k) (i : Nat) (u : Value) :
   Look W0 (W.setCell ⟨k, i, none⟩ u) g A n c a (fun j o => (B j o ∧ j ≠ k) ∨ (j = k ∧ o = .cells (cs.setIfInBounds i u) t (0, 0))) := by
 refine ⟨blk_far h.eye (p := ⟨k, i, none⟩) (fun e => hk e.symm) u, h.mov.set_ (.inr hn) u, fun j o hj => ?_⟩
 rcases hj with ⟨hj, hne⟩ | ⟨rfl, rfl⟩
 · exact ⟨(Below.heap_setCell W ⟨k, i, none⟩ u j hne).trans (h.box j o hj).1, (h.box j o hj).2⟩
 · exact ⟨blk_set hb i u, hk⟩
theorem Look.less {W0 W : World} {g n c a : Nat} {A : Option Addr} {B B' : Nat → Obj → Prop} (h : Look W0 W g A n c a B) (hB : ∀ k o, B' k o → B k o) : Look W0 W g A n c a B' := ⟨h.eye, h.mov, fun k o hk => h.box k o (hB k o hk)⟩
theorem R_moved2 {α : Type} {d : Kd α} {e : Nat} {w w1 : World} {base g g' : Nat} {v : Value} {xs : List α} {t : Nat} {cs cs' : Array Value} (h : d.R e w base (fun _ => True) v xs) (hb : w.heap[g]? = some (.cells cs t (0, 0))) (hb' : w.heap[g']? = some (.cells cs' t (0, 0))) (ht : ∀ q, q ∈ e :: d.E → q ≠ t) (hm : Moved w w1 (fun k => k = g ∨ k = g')) : d.R e w1 base (fun _ => True) v xs :=
 Kd.R_mono (Kd.R_step (Kd.R_types (Kd.R_types h hb ht) hb' ht) (fun k hk hl => hm.block k hl (fun h => h.elim hk.1.2 hk.2))) (fun _ _ => trivial)
def dVer (xs : List Int) (p : Bool × Nat) : Option (Int × Nat) := if p.1 = true then dNum xs p.2 else some (-1, p.2)
def dOp (xs : List Int) (a : Nat) : Option (S78 × Nat) :=
 (dNum xs a).bind fun p0 => (dTxt xs p0.2).bind fun p1 => (dTxt xs p1.2).bind fun p2 => (dTru xs p2.2).bind fun p3 => (dVer xs p3).bind fun p4 => (dNum xs p4.2).bind fun p5 => some (⟨p0.1, p1.1, p2.1, p4.1, p5.1⟩, p5.2)
theorem dVer_true (xs : List Int) (b : Nat) : dVer xs (true, b) = dNum xs b := rfl
theorem dVer_false (xs : List Int) (b : Nat) : dVer xs (false, b) = some (-1, b) := rfl
theorem goes_Op {xs : List Int} (hB : Bytes xs) : Goes dOp xs := by
 intro a x b ha h
 unfold dOp at h
 obtain ⟨p0, h0, h⟩ := Option.bind_eq_some_iff.1 h
 have g0 := goes_num hB _ _ _ ha h0
 obtain ⟨p1, h1, h⟩ := Option.bind_eq_some_iff.1 h
 have g1 := goes_txt hB _ _ _ g0 h1
 obtain ⟨p2, h2, h⟩ := Option.bind_eq_some_iff.1 h
 have g2 := goes_txt hB _ _ _ g1 h2
 obtain ⟨p3, h3, h⟩ := Option.bind_eq_some_iff.1 h
 have g3 := goes_tru hB _ _ _ g2 h3
 obtain ⟨p4, h4, h⟩ := Option.bind_eq_some_iff.1 h
 have g4 : p4.2 ≤ xs.length := by
  unfold dVer at h4
  split at h4
  · exact goes_num hB _ _ _ g3 h4
  · simp only [Option.some.injEq] at h4
    rw [← h4]
    exact g3
 obtain ⟨p5, h5, h⟩ := Option.bind_eq_some_iff.1 h
 have g5 := goes_num hB _ _ _ g4 h5
 simp only [Option.some.injEq, Prod.mk.injEq] at h
 obtain ⟨_, rfl⟩ := h
 exact g5
set_option maxRecDepth 100000 in
set_option maxHeartbeats 4000000 in
theorem get_Op (w0 : World) (A : Option Addr) (c : Nat) (xs : List Int) (hD : Data w0 A c xs) : GetOp 123 dOp w0 A c xs := by
 intro W g a0 ha0 hb hg hE
 have HD := Aside0.mk hD
 have HB := Aside0.mk hb
 have HS0 := Aside0.mk ((Look.begin_ hE).lay (.cells #[.int .i64 0, .string ⟨#[]⟩, .string ⟨#[]⟩, .int .i64 0, .int .i64 0] 78 (0, 0)))
 clear hE hb hD
 go_enter Tryz.func123, Tryz.ntmps123
 go_wp2_with fail
 refine (rnum w0 _ g A c a0 xs HD.out ha0 (HS0.out.mov.above HB.out (fun k hk => by omega)) hg HS0.out.eye).mono ?_
 rintro e w1 ⟨hm, hn, hs⟩
 cases hr : dNum xs a0 with
 | none =>
   obtain rfl := hn hr
   have HR := Aside0.mk (show dOp xs a0 = none by simp only [dOp, hr, Option.bind_none, Option.bind_some])
   exact ⟨rfl, HS0.out.mov.trans hm (fun _ _ h => h), (fun _ => rfl), fun x a' h => by rw [HR.out] at h; cases h⟩
 | some p =>
   obtain ⟨x0, a1⟩ := p
   obtain ⟨v0, rfl, rfl, he⟩ := hs _ _ hr
   have ha1 := goes_num HD.out.bytes _ _ _ ha0 hr
   have HI0 := Aside0.mk hr
   have HS1 := Aside0.mk (HS0.out.step hm he)
   clear hm hn hs he hr
   go_wp2_with fail
   refine (rtxt w0 _ g A c a1 xs HD.out ha1 (HS1.out.mov.above HB.out (fun k hk => by omega)) hg HS1.out.eye).mono ?_
   rintro e w2 ⟨hm, hn, hs⟩
   cases hr : dTxt xs a1 with
   | none =>
     obtain rfl := hn hr
     have HR := Aside0.mk (show dOp xs a0 = none by simp only [dOp, HI0.out, hr, Option.bind_none, Option.bind_some])
     exact ⟨rfl, HS1.out.mov.trans hm (fun _ _ h => h), (fun _ => rfl), fun x a' h => by rw [HR.out] at h; cases h⟩
   | some p =>
     obtain ⟨x1, a2⟩ := p
     obtain ⟨v1, rfl, rfl, he⟩ := hs _ _ hr
     have ha2 := goes_txt HD.out.bytes _ _ _ ha1 hr
     have HI1 := Aside0.mk hr
     have HS2 := Aside0.mk (HS1.out.step hm he)
     clear hm hn hs he hr
     go_wp2_with fail
     refine (rtxt w0 _ g A c a2 xs HD.out ha2 (HS2.out.mov.above HB.out (fun k hk => by omega)) hg HS2.out.eye).mono ?_
     rintro e w3 ⟨hm, hn, hs⟩
     cases hr : dTxt xs a2 with
     | none =>
       obtain rfl := hn hr
       have HR := Aside0.mk (show dOp xs a0 = none by simp only [dOp, HI0.out, HI1.out, hr, Option.bind_none, Option.bind_some])
       exact ⟨rfl, HS2.out.mov.trans hm (fun _ _ h => h), (fun _ => rfl), fun x a' h => by rw [HR.out] at h; cases h⟩
     | some p =>
       obtain ⟨x2, a3⟩ := p
       obtain ⟨v2, rfl, rfl, he⟩ := hs _ _ hr
       have ha3 := goes_txt HD.out.bytes _ _ _ ha2 hr
       have HI2 := Aside0.mk hr
       have HS3 := Aside0.mk (HS2.out.step hm he)
       clear hm hn hs he hr
       have HS3b := Aside0.mk (HS3.out.lay (.cells #[.int .i64 x0, .string x1, .string x2, .int .i64 (-1), .int .i64 0] 78 (0, 0)))
       have HSZ := Aside0.mk HS3.out.mov.size
       go_wp2_with fail
       refine (rtru w0 _ g A c a3 xs HD.out ha3 (HS3b.out.mov.above HB.out (fun k hk => by omega)) hg HS3b.out.eye).mono ?_
       rintro e w4 ⟨hm, hn, hs⟩
       cases hr : dTru xs a3 with
       | none =>
         obtain rfl := hn hr
         have HR := Aside0.mk (show dOp xs a0 = none by simp only [dOp, HI0.out, HI1.out, HI2.out, hr, Option.bind_none, Option.bind_some])
         exact ⟨rfl, HS3b.out.mov.trans hm (fun _ _ h => h), (fun _ => rfl), fun x a' h => by rw [HR.out] at h; cases h⟩
       | some p =>
         obtain ⟨x3, a4⟩ := p
         obtain ⟨v3, rfl, rfl, he⟩ := hs _ _ hr
         have ha4 := goes_tru HD.out.bytes _ _ _ ha3 hr
         have HI3 := Aside0.mk hr
         have HS4 := Aside0.mk (HS3b.out.step hm he)
         clear hm hn hs he hr
         have HBX0 := Aside0.mk (HS4.out.box W.heap.size _ (.inl (.inr ⟨rfl, rfl⟩)))
         have HBY0 := Aside0.mk (HS4.out.box w3.heap.size _ (.inr ⟨rfl, rfl⟩))
         have hne : W.heap.size ≠ w3.heap.size := by have := blk_lt (HS3.out.box W.heap.size _ (.inr ⟨rfl, rfl⟩)).1; omega
         cases x3 with
         | false =>
           have hc := HBY0.out
           clear hc
           go_wp2_with fail
           refine (rnum w0 _ g A c a4 xs HD.out ha4 (HS4.out.mov.above HB.out (fun k hk => by omega)) hg HS4.out.eye).mono ?_
           rintro e w5 ⟨hm, hn, hs⟩
           cases hr : dNum xs a4 with
           | none =>
             obtain rfl := hn hr
             have HR := Aside0.mk (show dOp xs a0 = none by simp only [dOp, HI0.out, HI1.out, HI2.out, HI3.out, dVer_false, hr, Option.bind_none, Option.bind_some])
             exact ⟨rfl, HS4.out.mov.trans hm (fun _ _ h => h), (fun _ => rfl), fun x a' h => by rw [HR.out] at h; cases h⟩
           | some p =>
             obtain ⟨x4, a5⟩ := p
             obtain ⟨v4, rfl, rfl, he⟩ := hs _ _ hr
             have ha5 := goes_num HD.out.bytes _ _ _ ha4 hr
             have HI4 := Aside0.mk hr
             have HS5 := Aside0.mk (HS4.out.step hm he)
             clear hm hn hs he hr
             have HBX := Aside0.mk (HS5.out.box W.heap.size _ (.inl (.inr ⟨rfl, rfl⟩)))
             have HBY := Aside0.mk (HS5.out.box w3.heap.size _ (.inr ⟨rfl, rfl⟩))
             have hc := blk_cell HBX.out.1
             have hf := blk_frozen HBX.out.1
             have hc2 := blk_cell HBY.out.1
             have hf2 := blk_frozen HBY.out.1
             go_wp2_with fail
             refine bodyPost_ret (v := .agg #[.int .i64 x0, .string x1, .string x2, .int .i64 (-1), .int .i64 x4]) (by simp [results, Tryz.results123, go_sem, hc]) rfl ?_
             have hmv := ((((((Moved.refl w5 (fun k => k = W.heap.size ∨ k = w3.heap.size)).set_ (p := ⟨w3.heap.size, 4, none⟩) (.inl (.inr rfl)) (.int .i64 x4)).set_ (p := ⟨W.heap.size, 0, none⟩) (.inl (.inl rfl)) (.int .i64 x0)).set_ (p := ⟨W.heap.size, 1, none⟩) (.inl (.inl rfl)) (.string x1)).set_ (p := ⟨W.heap.size, 2, none⟩) (.inl (.inl rfl)) (.string x2)).set_ (p := ⟨W.heap.size, 3, none⟩) (.inl (.inl rfl)) (.int .i64 (-1))).set_ (p := ⟨W.heap.size, 4, none⟩) (.inl (.inl rfl)) (.int .i64 x4)
             have HR := Aside0.mk (show dOp xs a0 = some (⟨x0, x1, x2, -1, x4⟩, a5) by simp only [dOp, HI0.out, HI1.out, HI2.out, HI3.out, dVer_false, HI4.out, Option.bind_some])
             refine ⟨HS5.out.mov.trans hmv (fun k hk hs => by have := HSZ.out; omega), (fun h => by rw [HR.out] at h; cases h), fun x z h => ?_⟩
             rw [HR.out] at h
             simp only [Option.some.injEq, Prod.mk.injEq] at h
             obtain ⟨rfl, rfl⟩ := h
             exact ⟨_, rfl, ⟨[.int .i64 x0, .string x1, .string x2, .int .i64 (-1), .int .i64 x4], rfl, k78_mkM _ _ _ _ ⟩, hmv.blk HS5.out.eye (fun h => by rcases h with h | h <;> first | exact HBX.out.2 h.symm | exact HBY.out.2 h.symm)⟩
         | true =>
           go_wp2_with fail
           refine (rnum w0 _ g A c a4 xs HD.out ha4 (HS4.out.mov.above HB.out (fun k hk => by omega)) hg HS4.out.eye).mono ?_
           rintro e w5 ⟨hm, hn, hs⟩
           cases hr : dNum xs a4 with
           | none =>
             obtain rfl := hn hr
             have HR := Aside0.mk (show dOp xs a0 = none by simp only [dOp, HI0.out, HI1.out, HI2.out, HI3.out, dVer_true, hr, Option.bind_none, Option.bind_some])
             exact ⟨rfl, HS4.out.mov.trans hm (fun _ _ h => h), (fun _ => rfl), fun x a' h => by rw [HR.out] at h; cases h⟩
           | some p =>
             obtain ⟨x4, a5⟩ := p
             obtain ⟨v4, rfl, rfl, he⟩ := hs _ _ hr
             have ha5 := goes_num HD.out.bytes _ _ _ ha4 hr
             have HI4 := Aside0.mk hr
             have HS5 := Aside0.mk (HS4.out.step hm he)
             clear hm hn hs he hr
             have hc2 := HS5.out.cells (k := w3.heap.size) (.inr ⟨rfl, rfl⟩)
             have hf2 := HS5.out.free (k := w3.heap.size) (.inr ⟨rfl, rfl⟩)
             have HS5b := Aside0.mk (HS5.out.store (HS5.out.box w3.heap.size _ (.inr ⟨rfl, rfl⟩)).1 HBY0.out.2 HSZ.out 3 (.int .i64 x4))
             go_wp2_with fail
             refine (rnum w0 _ g A c a5 xs HD.out ha5 (HS5b.out.mov.above HB.out (fun k hk => by omega)) hg HS5b.out.eye).mono ?_
             rintro e w6 ⟨hm, hn, hs⟩
             cases hr : dNum xs a5 with
             | none =>
               obtain rfl := hn hr
               have HR := Aside0.mk (show dOp xs a0 = none by simp only [dOp, HI0.out, HI1.out, HI2.out, HI3.out, dVer_true, HI4.out, hr, Option.bind_none, Option.bind_some])
               exact ⟨rfl, HS5b.out.mov.trans hm (fun _ _ h => h), (fun _ => rfl), fun x a' h => by rw [HR.out] at h; cases h⟩
             | some p =>
               obtain ⟨x5, a6⟩ := p
               obtain ⟨v5, rfl, rfl, he⟩ := hs _ _ hr
               have ha6 := goes_num HD.out.bytes _ _ _ ha5 hr
               have HI5 := Aside0.mk hr
               have HS6 := Aside0.mk (HS5b.out.step hm he)
               clear hm hn hs he hr
               clear hc2 hf2
               have HBX := Aside0.mk (HS6.out.box W.heap.size _ (.inl ⟨.inl (.inr ⟨rfl, rfl⟩), hne⟩))
               have HBY := Aside0.mk (HS6.out.box w3.heap.size _ (.inr ⟨rfl, rfl⟩))
               have hc := blk_cell HBX.out.1
               have hf := blk_frozen HBX.out.1
               have hc2 := blk_cell HBY.out.1
               have hf2 := blk_frozen HBY.out.1
               go_wp2_with fail
               refine bodyPost_ret (v := .agg #[.int .i64 x0, .string x1, .string x2, .int .i64 x4, .int .i64 x5]) (by simp [results, Tryz.results123, go_sem, hc]) rfl ?_
               have hmv := ((((((Moved.refl w6 (fun k => k = W.heap.size ∨ k = w3.heap.size)).set_ (p := ⟨w3.heap.size, 4, none⟩) (.inl (.inr rfl)) (.int .i64 x5)).set_ (p := ⟨W.heap.size, 0, none⟩) (.inl (.inl rfl)) (.int .i64 x0)).set_ (p := ⟨W.heap.size, 1, none⟩) (.inl (.inl rfl)) (.string x1)).set_ (p := ⟨W.heap.size, 2, none⟩) (.inl (.inl rfl)) (.string x2)).set_ (p := ⟨W.heap.size, 3, none⟩) (.inl (.inl rfl)) (.int .i64 x4)).set_ (p := ⟨W.heap.size, 4, none⟩) (.inl (.inl rfl)) (.int .i64 x5)
               have HR := Aside0.mk (show dOp xs a0 = some (⟨x0, x1, x2, x4, x5⟩, a6) by simp only [dOp, HI0.out, HI1.out, HI2.out, HI3.out, dVer_true, HI4.out, HI5.out, Option.bind_some])
               refine ⟨HS6.out.mov.trans hmv (fun k hk hs => by have := HSZ.out; omega), (fun h => by rw [HR.out] at h; cases h), fun x z h => ?_⟩
               rw [HR.out] at h
               simp only [Option.some.injEq, Prod.mk.injEq] at h
               obtain ⟨rfl, rfl⟩ := h
               exact ⟨_, rfl, ⟨[.int .i64 x0, .string x1, .string x2, .int .i64 x4, .int .i64 x5], rfl, k78_mkM _ _ _ _ ⟩, hmv.blk HS6.out.eye (fun h => by rcases h with h | h <;> first | exact HBX.out.2 h.symm | exact HBY.out.2 h.symm)⟩
def dEntry (xs : List Int) (a : Nat) : Option (S55 × Nat) :=
 (dNum xs a).bind fun p0 => (dNum xs p0.2).bind fun p1 => (dNum xs p1.2).bind fun p2 => (dNum xs p2.2).bind fun p3 => (dNum xs p3.2).bind fun p4 => ((dLst dOp) xs p4.2).bind fun p5 => some (⟨p0.1, p1.1, p2.1, p3.1, p4.1, p5.1⟩, p5.2)
theorem goes_Entry {xs : List Int} (hB : Bytes xs) : Goes dEntry xs := by
 intro a x b ha h
 unfold dEntry at h
 obtain ⟨p0, h0, h⟩ := Option.bind_eq_some_iff.1 h
 have g0 := goes_num hB _ _ _ ha h0
 obtain ⟨p1, h1, h⟩ := Option.bind_eq_some_iff.1 h
 have g1 := goes_num hB _ _ _ g0 h1
 obtain ⟨p2, h2, h⟩ := Option.bind_eq_some_iff.1 h
 have g2 := goes_num hB _ _ _ g1 h2
 obtain ⟨p3, h3, h⟩ := Option.bind_eq_some_iff.1 h
 have g3 := goes_num hB _ _ _ g2 h3
 obtain ⟨p4, h4, h⟩ := Option.bind_eq_some_iff.1 h
 have g4 := goes_num hB _ _ _ g3 h4
 obtain ⟨p5, h5, h⟩ := Option.bind_eq_some_iff.1 h
 have g5 := goes_lst hB (goes_Op hB) _ _ _ g4 h5
 simp only [Option.some.injEq, Prod.mk.injEq] at h
 obtain ⟨_, rfl⟩ := h
 exact g5
set_option maxRecDepth 100000 in
set_option maxHeartbeats 2000000 in
theorem get_Entry (w0 : World) (A : Option Addr) (c : Nat) (xs : List Int) (hD : Data w0 A c xs) : GetEntry 79 dEntry w0 A c xs := by
 intro W g a0 ha0 hb hg hE
 have HD := Aside0.mk hD
 have HB := Aside0.mk hb
 have HS0 := Aside0.mk ((Look.begin_ hE).lay (.cells #[.int .i64 0, .int .i64 0, .int .i64 0, .int .i64 0, .int .i64 0, .slice none 0 0] 55 (0, 0)))
 clear hE hb hD
 go_enter Tryz.func79, Tryz.ntmps79
 go_wp2_with fail
 refine (rnum w0 _ g A c a0 xs HD.out ha0 (HS0.out.mov.above HB.out (fun k hk => by omega)) hg HS0.out.eye).mono ?_
 rintro e w1 ⟨hm, hn, hs⟩
 cases hr : dNum xs a0 with
 | none =>
   obtain rfl := hn hr
   have HR := Aside0.mk (show dEntry xs a0 = none by simp only [dEntry, hr, Option.bind_none, Option.bind_some])
   exact ⟨rfl, HS0.out.mov.trans hm (fun _ _ h => h), (fun _ => rfl), fun x a' h => by rw [HR.out] at h; cases h⟩
 | some p =>
   obtain ⟨x0, a1⟩ := p
   obtain ⟨v0, rfl, rfl, he⟩ := hs _ _ hr
   have ha1 := goes_num HD.out.bytes _ _ _ ha0 hr
   have HI0 := Aside0.mk hr
   have HS1 := Aside0.mk (HS0.out.step hm he)
   clear hm hn hs he hr
   go_wp2_with fail
   refine (rnum w0 _ g A c a1 xs HD.out ha1 (HS1.out.mov.above HB.out (fun k hk => by omega)) hg HS1.out.eye).mono ?_
   rintro e w2 ⟨hm, hn, hs⟩
   cases hr : dNum xs a1 with
   | none =>
     obtain rfl := hn hr
     have HR := Aside0.mk (show dEntry xs a0 = none by simp only [dEntry, HI0.out, hr, Option.bind_none, Option.bind_some])
     exact ⟨rfl, HS1.out.mov.trans hm (fun _ _ h => h), (fun _ => rfl), fun x a' h => by rw [HR.out] at h; cases h⟩
   | some p =>
     obtain ⟨x1, a2⟩ := p
     obtain ⟨v1, rfl, rfl, he⟩ := hs _ _ hr
     have ha2 := goes_num HD.out.bytes _ _ _ ha1 hr
     have HI1 := Aside0.mk hr
     have HS2 := Aside0.mk (HS1.out.step hm he)
     clear hm hn hs he hr
     go_wp2_with fail
     refine (rnum w0 _ g A c a2 xs HD.out ha2 (HS2.out.mov.above HB.out (fun k hk => by omega)) hg HS2.out.eye).mono ?_
     rintro e w3 ⟨hm, hn, hs⟩
     cases hr : dNum xs a2 with
     | none =>
       obtain rfl := hn hr
       have HR := Aside0.mk (show dEntry xs a0 = none by simp only [dEntry, HI0.out, HI1.out, hr, Option.bind_none, Option.bind_some])
       exact ⟨rfl, HS2.out.mov.trans hm (fun _ _ h => h), (fun _ => rfl), fun x a' h => by rw [HR.out] at h; cases h⟩
     | some p =>
       obtain ⟨x2, a3⟩ := p
       obtain ⟨v2, rfl, rfl, he⟩ := hs _ _ hr
       have ha3 := goes_num HD.out.bytes _ _ _ ha2 hr
       have HI2 := Aside0.mk hr
       have HS3 := Aside0.mk (HS2.out.step hm he)
       clear hm hn hs he hr
       go_wp2_with fail
       refine (rnum w0 _ g A c a3 xs HD.out ha3 (HS3.out.mov.above HB.out (fun k hk => by omega)) hg HS3.out.eye).mono ?_
       rintro e w4 ⟨hm, hn, hs⟩
       cases hr : dNum xs a3 with
       | none =>
         obtain rfl := hn hr
         have HR := Aside0.mk (show dEntry xs a0 = none by simp only [dEntry, HI0.out, HI1.out, HI2.out, hr, Option.bind_none, Option.bind_some])
         exact ⟨rfl, HS3.out.mov.trans hm (fun _ _ h => h), (fun _ => rfl), fun x a' h => by rw [HR.out] at h; cases h⟩
       | some p =>
         obtain ⟨x3, a4⟩ := p
         obtain ⟨v3, rfl, rfl, he⟩ := hs _ _ hr
         have ha4 := goes_num HD.out.bytes _ _ _ ha3 hr
         have HI3 := Aside0.mk hr
         have HS4 := Aside0.mk (HS3.out.step hm he)
         clear hm hn hs he hr
         go_wp2_with fail
         refine (rnum w0 _ g A c a4 xs HD.out ha4 (HS4.out.mov.above HB.out (fun k hk => by omega)) hg HS4.out.eye).mono ?_
         rintro e w5 ⟨hm, hn, hs⟩
         cases hr : dNum xs a4 with
         | none =>
           obtain rfl := hn hr
           have HR := Aside0.mk (show dEntry xs a0 = none by simp only [dEntry, HI0.out, HI1.out, HI2.out, HI3.out, hr, Option.bind_none, Option.bind_some])
           exact ⟨rfl, HS4.out.mov.trans hm (fun _ _ h => h), (fun _ => rfl), fun x a' h => by rw [HR.out] at h; cases h⟩
         | some p =>
           obtain ⟨x4, a5⟩ := p
           obtain ⟨v4, rfl, rfl, he⟩ := hs _ _ hr
           have ha5 := goes_num HD.out.bytes _ _ _ ha4 hr
           have HI4 := Aside0.mk hr
           have HS5 := Aside0.mk (HS4.out.step hm he)
           clear hm hn hs he hr
           go_wp2_with fail
           refine (getList_Op 123 (fun args w => by kernel_rfl) dOp w0 _ g A c a5 xs (get_Op w0 A c xs HD.out) (goes_Op HD.out.bytes) HD.out ha5 (HS5.out.mov.above HB.out (fun k hk => by omega)) hg HS5.out.eye).mono ?_
           rintro e w6 ⟨hm, hn, hs⟩
           cases hr : (dLst dOp) xs a5 with
           | none =>
             obtain rfl := hn hr
             have HR := Aside0.mk (show dEntry xs a0 = none by simp only [dEntry, HI0.out, HI1.out, HI2.out, HI3.out, HI4.out, hr, Option.bind_none, Option.bind_some])
             exact ⟨rfl, HS5.out.mov.trans hm (fun _ _ h => h), (fun _ => rfl), fun x a' h => by rw [HR.out] at h; cases h⟩
           | some p =>
             obtain ⟨x5, a6⟩ := p
             obtain ⟨v5, rfl, ho, he⟩ := hs _ _ hr
             have HO5 := Aside0.mk (Kd.R_lower ho HS5.out.mov.size)
             obtain ⟨A5, c5, rfl, _, _⟩ := Kd.R_reads ho
             clear ho
             have ha6 := goes_lst HD.out.bytes (goes_Op HD.out.bytes) _ _ _ ha5 hr
             have HI5 := Aside0.mk hr
             have HS6 := Aside0.mk (HS5.out.step hm he)
             clear hm hn hs he hr
             have hc := HS6.out.cells (k := W.heap.size) (.inr ⟨rfl, rfl⟩)
             have hf := HS6.out.free (k := W.heap.size) (.inr ⟨rfl, rfl⟩)
             have HBX := Aside0.mk (HS6.out.box W.heap.size _ (.inr ⟨rfl, rfl⟩))
             go_wp2_with fail
             refine bodyPost_ret (v := .agg #[.int .i64 x0, .int .i64 x1, .int .i64 x2, .int .i64 x3, .int .i64 x4, .slice A5 x5.length c5]) (by simp [results, Tryz.results79, go_sem, hc]) rfl ?_
             have hmv := ((((((Moved.refl w6 (fun k => k = W.heap.size)).set_ (p := ⟨W.heap.size, 0, none⟩) (.inl rfl) (.int .i64 x0)).set_ (p := ⟨W.heap.size, 1, none⟩) (.inl rfl) (.int .i64 x1)).set_ (p := ⟨W.heap.size, 2, none⟩) (.inl rfl) (.int .i64 x2)).set_ (p := ⟨W.heap.size, 3, none⟩) (.inl rfl) (.int .i64 x3)).set_ (p := ⟨W.heap.size, 4, none⟩) (.inl rfl) (.int .i64 x4)).set_ (p := ⟨W.heap.size, 5, none⟩) (.inl rfl) (.slice A5 x5.length c5)
             have HR := Aside0.mk (show dEntry xs a0 = some (⟨x0, x1, x2, x3, x4, x5⟩, a6) by simp only [dEntry, HI0.out, HI1.out, HI2.out, HI3.out, HI4.out, HI5.out, Option.bind_some])
             refine ⟨HS6.out.mov.trans hmv (fun k hk hs => by omega), (fun h => by rw [HR.out] at h; cases h), fun x z h => ?_⟩
             rw [HR.out] at h
             simp only [Option.some.injEq, Prod.mk.injEq] at h
             obtain ⟨rfl, rfl⟩ := h
             exact ⟨_, rfl, ⟨[.int .i64 x0, .int .i64 x1, .int .i64 x2, .int .i64 x3, .int .i64 x4, .slice A5 x5.length c5], rfl, k55_mkM _ _ _ _ (R_moved HO5.out HBX.out.1 (by decide) hmv)⟩, hmv.blk HS6.out.eye (fun h => HBX.out.2 h.symm)⟩
def dIn (xs : List Int) (p0 p1 : Int) (p : Bool × Nat) : Option (S91 × Nat) :=
 if p.1 = true then (dLst dPart xs p.2).bind fun q => some (⟨p0, p1, true, [], q.1⟩, q.2) else (dLst dTagged xs p.2).bind fun q => some (⟨p0, p1, false, q.1, []⟩, q.2)
theorem dIn_true (xs : List Int) (p0 p1 : Int) (b : Nat) : dIn xs p0 p1 (true, b) = (dLst dPart xs b).bind fun q => some (⟨p0, p1, true, [], q.1⟩, q.2) := rfl
theorem dIn_false (xs : List Int) (p0 p1 : Int) (b : Nat) : dIn xs p0 p1 (false, b) = (dLst dTagged xs b).bind fun q => some (⟨p0, p1, false, q.1, []⟩, q.2) := rfl
def dItem (xs : List Int) (a : Nat) : Option (S91 × Nat) :=
 (dNum xs a).bind fun p0 => (dNum xs p0.2).bind fun p1 => (dTru xs p1.2).bind fun p2 => dIn xs p0.1 p1.1 p2
theorem goes_Item {xs : List Int} (hB : Bytes xs) : Goes dItem xs := by
 intro a x b ha h
 unfold dItem at h
 obtain ⟨p0, h0, h⟩ := Option.bind_eq_some_iff.1 h
 have g0 := goes_num hB _ _ _ ha h0
 obtain ⟨p1, h1, h⟩ := Option.bind_eq_some_iff.1 h
 have g1 := goes_num hB _ _ _ g0 h1
 obtain ⟨p2, h2, h⟩ := Option.bind_eq_some_iff.1 h
 have g2 := goes_tru hB _ _ _ g1 h2
 unfold dIn at h
 split at h
 · obtain ⟨q, h3, h⟩ := Option.bind_eq_some_iff.1 h
   simp only [Option.some.injEq, Prod.mk.injEq] at h
   obtain ⟨_, rfl⟩ := h
   exact goes_lst hB (goes_Part hB) _ _ _ g2 h3
 · obtain ⟨q, h3, h⟩ := Option.bind_eq_some_iff.1 h
   simp only [Option.some.injEq, Prod.mk.injEq] at h
   obtain ⟨_, rfl⟩ := h
   exact goes_lst hB (goes_Tagged hB) _ _ _ g2 h3
set_option maxRecDepth 100000 in
set_option maxHeartbeats 4000000 in
theorem get_Item (w0 : World) (A : Option Addr) (c : Nat) (xs : List Int) (hD : Data w0 A c xs) : GetItem 207 dItem w0 A c xs := by
 intro W g a0 ha0 hb hg hE
 have HD := Aside0.mk hD
 have HB := Aside0.mk hb
 have HS0 := Aside0.mk ((Look.begin_ hE).lay (.cells #[.int .i64 0, .int .i64 0, .bool false, .slice none 0 0, .slice none 0 0] 91 (0, 0)))
 clear hE hb hD
 go_enter Tryz.func207, Tryz.ntmps207
 go_wp2_with fail
 refine (rnum w0 _ g A c a0 xs HD.out ha0 (HS0.out.mov.above HB.out (fun k hk => by omega)) hg HS0.out.eye).mono ?_
 rintro e w1 ⟨hm, hn, hs⟩
 cases hr : dNum xs a0 with
 | none =>
   obtain rfl := hn hr
   have HR := Aside0.mk (show dItem xs a0 = none by simp only [dItem, hr, Option.bind_none, Option.bind_some])
   exact ⟨rfl, HS0.out.mov.trans hm (fun _ _ h => h), (fun _ => rfl), fun x a' h => by rw [HR.out] at h; cases h⟩
 | some p =>
   obtain ⟨x0, a1⟩ := p
   obtain ⟨v0, rfl, rfl, he⟩ := hs _ _ hr
   have ha1 := goes_num HD.out.bytes _ _ _ ha0 hr
   have HI0 := Aside0.mk hr
   have HS1 := Aside0.mk (HS0.out.step hm he)
   clear hm hn hs he hr
   go_wp2_with fail
   refine (rnum w0 _ g A c a1 xs HD.out ha1 (HS1.out.mov.above HB.out (fun k hk => by omega)) hg HS1.out.eye).mono ?_
   rintro e w2 ⟨hm, hn, hs⟩
   cases hr : dNum xs a1 with
   | none =>
     obtain rfl := hn hr
     have HR := Aside0.mk (show dItem xs a0 = none by simp only [dItem, HI0.out, hr, Option.bind_none, Option.bind_some])
     exact ⟨rfl, HS1.out.mov.trans hm (fun _ _ h => h), (fun _ => rfl), fun x a' h => by rw [HR.out] at h; cases h⟩
   | some p =>
     obtain ⟨x1, a2⟩ := p
     obtain ⟨v1, rfl, rfl, he⟩ := hs _ _ hr
     have ha2 := goes_num HD.out.bytes _ _ _ ha1 hr
     have HI1 := Aside0.mk hr
     have HS2 := Aside0.mk (HS1.out.step hm he)
     clear hm hn hs he hr
     go_wp2_with fail
     refine (rtru w0 _ g A c a2 xs HD.out ha2 (HS2.out.mov.above HB.out (fun k hk => by omega)) hg HS2.out.eye).mono ?_
     rintro e w3 ⟨hm, hn, hs⟩
     cases hr : dTru xs a2 with
     | none =>
       obtain rfl := hn hr
       have HR := Aside0.mk (show dItem xs a0 = none by simp only [dItem, HI0.out, HI1.out, hr, Option.bind_none, Option.bind_some])
       exact ⟨rfl, HS2.out.mov.trans hm (fun _ _ h => h), (fun _ => rfl), fun x a' h => by rw [HR.out] at h; cases h⟩
     | some p =>
       obtain ⟨x2, a3⟩ := p
       obtain ⟨v2, rfl, rfl, he⟩ := hs _ _ hr
       have ha3 := goes_tru HD.out.bytes _ _ _ ha2 hr
       have HI2 := Aside0.mk hr
       have HS3 := Aside0.mk (HS2.out.step hm he)
       clear hm hn hs he hr
       have HSZ := Aside0.mk HS3.out.mov.size
       have hne : W.heap.size ≠ w3.heap.size := by have := blk_lt (HS3.out.box W.heap.size _ (.inr ⟨rfl, rfl⟩)).1; omega
       cases x2 with
       | false =>
         have HS3b := Aside0.mk (HS3.out.lay (.cells #[.int .i64 x0, .int .i64 x1, .bool false, .slice none 0 0, .slice none 0 0] 91 (0, 0)))
         go_wp2_with fail
         refine (getList_Tagged 254 (fun args w => by kernel_rfl) dTagged w0 _ g A c a3 xs (get_Tagged w0 A c xs HD.out) (goes_Tagged HD.out.bytes) HD.out ha3 (HS3b.out.mov.above HB.out (fun k hk => by omega)) hg HS3b.out.eye).mono ?_
         rintro e w4 ⟨hm, hn, hs⟩
         cases hr : (dLst dTagged) xs a3 with
         | none =>
           obtain rfl := hn hr
           have HR := Aside0.mk (show dItem xs a0 = none by simp only [dItem, HI0.out, HI1.out, HI2.out, dIn_false, hr, Option.bind_none, Option.bind_some])
           exact ⟨rfl, HS3b.out.mov.trans hm (fun _ _ h => h), (fun _ => rfl), fun x a' h => by rw [HR.out] at h; cases h⟩
         | some p =>
           obtain ⟨x3, a4⟩ := p
           obtain ⟨v3, rfl, ho, he⟩ := hs _ _ hr
           have HO3 := Aside0.mk (Kd.R_lower ho HS3b.out.mov.size)
           obtain ⟨A3, c3, rfl, _, _⟩ := Kd.R_reads ho
           clear ho
           have ha4 := goes_lst HD.out.bytes (goes_Tagged HD.out.bytes) _ _ _ ha3 hr
           have HI3 := Aside0.mk hr
           have HS4 := Aside0.mk (HS3b.out.step hm he)
           clear hm hn hs he hr
           have HBX := Aside0.mk (HS4.out.box W.heap.size _ (.inl (.inr ⟨rfl, rfl⟩)))
           have HBY := Aside0.mk (HS4.out.box w3.heap.size _ (.inr ⟨rfl, rfl⟩))
           have hc := blk_cell HBX.out.1
           have hf := blk_frozen HBX.out.1
           have hc2 := blk_cell HBY.out.1
           have hf2 := blk_frozen HBY.out.1
           go_wp2_with fail
           refine bodyPost_ret (v := .agg #[.int .i64 x0, .int .i64 x1, .bool false, .slice A3 x3.length c3, .slice none 0 0]) (by simp [results, Tryz.results207, go_sem, hc]) rfl ?_
           have hmv := ((((((Moved.refl w4 (fun k => k = W.heap.size ∨ k = w3.heap.size)).set_ (p := ⟨w3.heap.size, 3, none⟩) (.inl (.inr rfl)) (.slice A3 x3.length c3)).set_ (p := ⟨W.heap.size, 0, none⟩) (.inl (.inl rfl)) (.int .i64 x0)).set_ (p := ⟨W.heap.size, 1, none⟩) (.inl (.inl rfl)) (.int .i64 x1)).set_ (p := ⟨W.heap.size, 2, none⟩) (.inl (.inl rfl)) (.bool false)).set_ (p := ⟨W.heap.size, 3, none⟩) (.inl (.inl rfl)) (.slice A3 x3.length c3)).set_ (p := ⟨W.heap.size, 4, none⟩) (.inl (.inl rfl)) (.slice none 0 0)
           have HR := Aside0.mk (show dItem xs a0 = some (⟨x0, x1, false, x3, []⟩, a4) by simp only [dItem, HI0.out, HI1.out, HI2.out, dIn_false, HI3.out, Option.bind_some])
           refine ⟨HS4.out.mov.trans hmv (fun k hk hs => by have := HSZ.out; omega), (fun h => by rw [HR.out] at h; cases h), fun x z h => ?_⟩
           rw [HR.out] at h
           simp only [Option.some.injEq, Prod.mk.injEq] at h
           obtain ⟨rfl, rfl⟩ := h
           exact ⟨_, rfl, ⟨[.int .i64 x0, .int .i64 x1, .bool false, .slice A3 x3.length c3, .slice none 0 0], rfl, k91_mkM _ _ _ _ (R_moved2 HO3.out HBX.out.1 HBY.out.1 (by decide) hmv) (Kd.R_nil _ _ _ _ _)⟩, hmv.blk HS4.out.eye (fun h => by rcases h with h | h <;> first | exact HBX.out.2 h.symm | exact HBY.out.2 h.symm)⟩
       | true =>
         have HS3b := Aside0.mk (HS3.out.lay (.cells #[.int .i64 x0, .int .i64 x1, .bool true, .slice none 0 0, .slice none 0 0] 91 (0, 0)))
         go_wp2_with fail
         refine (getList_Part 216 (fun args w => by kernel_rfl) dPart w0 _ g A c a3 xs (get_Part w0 A c xs HD.out) (goes_Part HD.out.bytes) HD.out ha3 (HS3b.out.mov.above HB.out (fun k hk => by omega)) hg HS3b.out.eye).mono ?_
         rintro e w4 ⟨hm, hn, hs⟩
         cases hr : (dLst dPart) xs a3 with
         | none =>
           obtain rfl := hn hr
           have HR := Aside0.mk (show dItem xs a0 = none by simp only [dItem, HI0.out, HI1.out, HI2.out, dIn_true, hr, Option.bind_none, Option.bind_some])
           exact ⟨rfl, HS3b.out.mov.trans hm (fun _ _ h => h), (fun _ => rfl), fun x a' h => by rw [HR.out] at h; cases h⟩
         | some p =>
           obtain ⟨x3, a4⟩ := p
           obtain ⟨v3, rfl, ho, he⟩ := hs _ _ hr
           have HO3 := Aside0.mk (Kd.R_lower ho HS3b.out.mov.size)
           obtain ⟨A3, c3, rfl, _, _⟩ := Kd.R_reads ho
           clear ho
           have ha4 := goes_lst HD.out.bytes (goes_Part HD.out.bytes) _ _ _ ha3 hr
           have HI3 := Aside0.mk hr
           have HS4 := Aside0.mk (HS3b.out.step hm he)
           clear hm hn hs he hr
           have HBX := Aside0.mk (HS4.out.box W.heap.size _ (.inl (.inr ⟨rfl, rfl⟩)))
           have HBY := Aside0.mk (HS4.out.box w3.heap.size _ (.inr ⟨rfl, rfl⟩))
           have hc := blk_cell HBX.out.1
           have hf := blk_frozen HBX.out.1
           have hc2 := blk_cell HBY.out.1
           have hf2 := blk_frozen HBY.out.1
           go_wp2_with fail
           refine bodyPost_ret (v := .agg #[.int .i64 x0, .int .i64 x1, .bool true, .slice none 0 0, .slice A3 x3.length c3]) (by simp [results, Tryz.results207, go_sem, hc]) rfl ?_
           have hmv := ((((((Moved.refl w4 (fun k => k = W.heap.size ∨ k = w3.heap.size)).set_ (p := ⟨w3.heap.size, 4, none⟩) (.inl (.inr rfl)) (.slice A3 x3.length c3)).set_ (p := ⟨W.heap.size, 0, none⟩) (.inl (.inl rfl)) (.int .i64 x0)).set_ (p := ⟨W.heap.size, 1, none⟩) (.inl (.inl rfl)) (.int .i64 x1)).set_ (p := ⟨W.heap.size, 2, none⟩) (.inl (.inl rfl)) (.bool true)).set_ (p := ⟨W.heap.size, 3, none⟩) (.inl (.inl rfl)) (.slice none 0 0)).set_ (p := ⟨W.heap.size, 4, none⟩) (.inl (.inl rfl)) (.slice A3 x3.length c3)
           have HR := Aside0.mk (show dItem xs a0 = some (⟨x0, x1, true, [], x3⟩, a4) by simp only [dItem, HI0.out, HI1.out, HI2.out, dIn_true, HI3.out, Option.bind_some])
           refine ⟨HS4.out.mov.trans hmv (fun k hk hs => by have := HSZ.out; omega), (fun h => by rw [HR.out] at h; cases h), fun x z h => ?_⟩
           rw [HR.out] at h
           simp only [Option.some.injEq, Prod.mk.injEq] at h
           obtain ⟨rfl, rfl⟩ := h
           exact ⟨_, rfl, ⟨[.int .i64 x0, .int .i64 x1, .bool true, .slice none 0 0, .slice A3 x3.length c3], rfl, k91_mkM _ _ _ _ (Kd.R_nil _ _ _ _ _) (R_moved2 HO3.out HBX.out.1 HBY.out.1 (by decide) hmv)⟩, hmv.blk HS4.out.eye (fun h => by rcases h with h | h <;> first | exact HBX.out.2 h.symm | exact HBY.out.2 h.symm)⟩
end Go.Proofs.YtmneemhplffemaaGreatDoorRR.Get
namespace Go.Proofs.YtmneemhplffemaaGreatDoorRR.Law
open Go.RowKit Go.Proofs.YtmneemhplffemaaGreatDoorRR.Ext Go.Proofs.YtmneemhplffemaaGreatDoorRR.Wire Go.Proofs.YtmneemhplffemaaGreatDoorRR.Mem Go.Proofs.YtmneemhplffemaaGreatDoorRR.Put Go.Proofs.YtmneemhplffemaaGreatDoorRR.Get Go.Proofs.YtmneemhplffemaaGreatDoorRR.Ki Go.Proofs.YtmneemhplffemaaGreatDoorRRW.PrintWords
def Says {β : Type} (d : List Int → Nat → Option (β × Nat)) (enc : β → List Int) (xs : List Int) : Prop :=
 ∀ a x b, a ≤ xs.length → d xs a = some (x, b) → a ≤ b ∧ b ≤ xs.length ∧ (xs.take b).drop a = enc x
def Reads {β : Type} (d : List Int → Nat → Option (β × Nat)) (enc : β → List Int) (ok : β → Prop) : Prop :=
 ∀ (xs rest : List Int) (a : Nat) (x : β), ok x → xs.drop a = enc x ++ rest → d xs a = some (x, a + (enc x).length)
theorem cat_ {xs u v : List Int} {a q r : Nat} (h1 : (xs.take q).drop a = u) (h2 : (xs.take r).drop q = v) (l1 : a ≤ q) (l2 : q ≤ r) (l3 : r ≤ xs.length) : (xs.take r).drop a = u ++ v := by
 rw [cut_two l1 l2 l3, h1, h2]
theorem drop_next {xs u v : List Int} {a : Nat} (h : xs.drop a = u ++ v) : xs.drop (a + u.length) = v := by
 rw [← List.drop_drop, h, List.drop_left]
theorem says_num {xs : List Int} (hB : Bytes xs) : Says dNum encNum xs := fun a x b _ h => by
 obtain ⟨_, _, _, h1, h2, h3⟩ := dNum_some hB h
 exact ⟨by omega, h2, h3⟩
theorem says_txt {xs : List Int} (hB : Bytes xs) : Says dTxt encTxt xs := fun a x b _ h => by
 obtain ⟨_, _, h1, h2, h3⟩ := dTxt_some hB h
 exact ⟨by omega, h2, h3⟩
def encTru (b : Bool) : List Int := encNum (if b = true then 1 else 0)
theorem says_tru {xs : List Int} (hB : Bytes xs) : Says dTru encTru xs := by
 intro a x b ha h
 unfold dTru at h
 cases hr : dNum xs a with
 | none => rw [hr] at h; cases h
 | some p =>
   obtain ⟨v, b'⟩ := p
   rw [hr] at h
   simp only at h
   split at h
   · cases h
   · rename_i h1
     simp only [Option.some.injEq, Prod.mk.injEq] at h
     obtain ⟨rfl, rfl⟩ := h
     obtain ⟨_, h0, _, h2, h3, h4⟩ := dNum_some hB hr
     refine ⟨by omega, h3, h4.trans ?_⟩
     unfold encTru
     congr 1
     by_cases hv : v = 1
     · simp [hv]
     · have : v = 0 := by omega
       simp [this]
theorem says_rep {β : Type} {d : List Int → Nat → Option (β × Nat)} {enc : β → List Int} {xs : List Int} (h : Says d enc xs) (n : Nat) : ∀ a l z, a ≤ xs.length → dRep d xs n a = some (l, z) → a ≤ z ∧ z ≤ xs.length ∧ (xs.take z).drop a = l.flatMap enc ∧ l.length = n := by
 induction n with
 | zero =>
   intro a l z ha he
   simp only [dRep, Option.some.injEq, Prod.mk.injEq] at he
   obtain ⟨rfl, rfl⟩ := he
   exact ⟨Nat.le_refl _, ha, by rw [List.drop_eq_nil_of_le (by rw [List.length_take]; omega)]; rfl, rfl⟩
 | succ n ih =>
   intro a l z ha he
   rw [dRep] at he
   cases hr : d xs a with
   | none => rw [hr] at he; cases he
   | some p =>
     obtain ⟨x, b⟩ := p
     rw [hr] at he
     simp only at he
     cases hr2 : dRep d xs n b with
     | none => rw [hr2] at he; cases he
     | some p2 =>
       obtain ⟨l2, z2⟩ := p2
       rw [hr2] at he
       simp only [Option.some.injEq, Prod.mk.injEq] at he
       obtain ⟨rfl, rfl⟩ := he
       obtain ⟨l0, g0, c0⟩ := h a x b ha hr
       obtain ⟨l1, g1, c1, e1⟩ := ih b l2 z2 g0 hr2
       exact ⟨by omega, g1, by rw [cat_ c0 c1 l0 l1 g1, List.flatMap_cons], by rw [List.length_cons, e1]⟩
theorem says_lst {β : Type} {d : List Int → Nat → Option (β × Nat)} {enc : β → List Int} {xs : List Int} (hB : Bytes xs) (h : Says d enc xs) : Says (dLst d) (encList enc) xs := by
 intro a l z ha he
 unfold dLst at he
 cases hr : dNum xs a with
 | none => rw [hr] at he; cases he
 | some p =>
   obtain ⟨n, b⟩ := p
   rw [hr] at he
   obtain ⟨_, hn, _, l0, g0, c0⟩ := dNum_some hB hr
   obtain ⟨l1, g1, c1, e1⟩ := says_rep h _ b l z g0 he
   refine ⟨by omega, g1, ?_⟩
   rw [cat_ c0 c1 (by omega) l1 g1]
   unfold encList
   rw [show ((l.length : Nat) : Int) = n by omega]
theorem reads_num : Reads dNum encNum isN := by
 intro xs rest a x hx h
 unfold dNum
 rw [rdNum_of hx.1 hx.2 h]
 simp
 omega
theorem str_bytes (s : ByteArray) : strOfNums (bytesOf s) = s := by
 unfold strOfNums bytesOf
 cases s with
 | mk d =>
   congr 1
   simp only [List.map_map]
   have : (fun x : UInt8 => UInt8.ofNat ((x.toNat : Int)).toNat) = id := by
    funext x
    simp
   simp [Function.comp_def]
theorem reads_txt : Reads dTxt encTxt (fun s => s.size ≤ 262144) := by
 intro xs rest a s hs h
 unfold encTxt at h
 rw [List.append_assoc] at h
 have hn := rdNum_of (xs := xs) (a := a) (v := (s.size : Int)) (by omega) (by omega) h
 have hd := drop_next h
 have hb : (bytesOf s).length = s.size := bytesOf_length s
 have hlen : a + (encNum (s.size : Int)).length + s.size ≤ xs.length := by
  have := congrArg List.length hd
  rw [List.length_drop, List.length_append, hb] at this
  have h1 := encNum_len (s.size : Int)
  by_cases hz : s.size = 0
  · have h2 := congrArg List.length h
    rw [List.length_drop, List.length_append] at h2
    omega
  · omega
 have e1 : ((a + (encNum (s.size : Int)).length : Nat) : Int) + (s.size : Int) = ((a + (encNum (s.size : Int)).length + s.size : Nat) : Int) := by omega
 have hcut : (xs.take (a + (encNum (s.size : Int)).length + s.size)).drop (a + (encNum (s.size : Int)).length) = bytesOf s := by
  rw [List.drop_take, hd, show a + (encNum (s.size : Int)).length + s.size - (a + (encNum (s.size : Int)).length) = (bytesOf s).length by rw [hb]; omega, List.take_left]
 have hr : rdTxt xs a = (s, ((a + (encNum (s.size : Int)).length + s.size : Nat) : Int), 0) := by
  unfold rdTxt
  rw [hn]
  simp only [if_true]
  rw [if_neg (by omega), if_neg (by omega), e1, Int.toNat_natCast, Int.toNat_natCast, hcut, str_bytes]
 unfold dTxt
 rw [hr]
 simp only [if_true, Int.toNat_natCast, encTxt, List.length_append, hb, Nat.add_assoc]
theorem reads_tru : Reads dTru encTru (fun _ => True) := by
 intro xs rest a x _ h
 unfold encTru at h ⊢
 have hi : isN (if x = true then 1 else 0) := by cases x <;> exact ⟨by decide, by decide⟩
 have hr := reads_num xs rest a _ hi h
 unfold dTru
 rw [hr]
 cases x <;> simp
theorem reads_rep {β : Type} {d : List Int → Nat → Option (β × Nat)} {enc : β → List Int} {ok : β → Prop} (h : Reads d enc ok) (l : List β) : ∀ (xs rest : List Int) (a : Nat), (∀ y ∈ l, ok y) → xs.drop a = l.flatMap enc ++ rest → dRep d xs l.length a = some (l, a + (l.flatMap enc).length) := by
 induction l with
 | nil => intro xs rest a _ _; simp [dRep]
 | cons x l ih =>
   intro xs rest a ho he
   rw [List.flatMap_cons, List.append_assoc] at he
   have h1 := h xs _ a x (ho x List.mem_cons_self) he
   have h2 := ih xs rest _ (fun y hy => ho y (List.mem_cons_of_mem _ hy)) (drop_next he)
   rw [List.length_cons, dRep, h1]
   simp only
   rw [h2]
   simp only [List.flatMap_cons, List.length_append, Nat.add_assoc]
theorem reads_lst {β : Type} {d : List Int → Nat → Option (β × Nat)} {enc : β → List Int} {ok : β → Prop} (h : Reads d enc ok) : Reads (dLst d) (encList enc) (fun l => l.length ≤ 2147483647 ∧ ∀ y ∈ l, ok y) := by
 intro xs rest a l hl he
 unfold encList at he ⊢
 rw [List.append_assoc] at he
 have h1 := reads_num xs _ a (l.length : Int) ⟨by omega, by omega⟩ he
 have h2 := reads_rep h l xs rest _ hl.2 (drop_next he)
 unfold dLst
 rw [h1]
 simp only [Int.toNat_natCast]
 rw [h2]
 simp only [List.length_append, Nat.add_assoc]
theorem says_Op {xs : List Int} (hB : Bytes xs) : Says dOp encOp xs := by
 intro a x b ha h
 unfold dOp at h
 obtain ⟨p0, h0, h⟩ := Option.bind_eq_some_iff.1 h
 obtain ⟨l0, g0, c0⟩ := says_num hB a p0.1 p0.2 ha h0
 obtain ⟨p1, h1, h⟩ := Option.bind_eq_some_iff.1 h
 obtain ⟨l1, g1, c1⟩ := says_txt hB p0.2 p1.1 p1.2 g0 h1
 have k1 := cat_ c0 c1 l0 l1 g1
 obtain ⟨p2, h2, h⟩ := Option.bind_eq_some_iff.1 h
 obtain ⟨l2, g2, c2⟩ := says_txt hB p1.2 p2.1 p2.2 g1 h2
 have k2 := cat_ k1 c2 (by omega) l2 g2
 obtain ⟨p3, h3, h⟩ := Option.bind_eq_some_iff.1 h
 obtain ⟨l3, g3, c3⟩ := says_tru hB p2.2 p3.1 p3.2 g2 h3
 have k3 := cat_ k2 c3 (by omega) l3 g3
 obtain ⟨p4, h4, h⟩ := Option.bind_eq_some_iff.1 h
 obtain ⟨p5, h5, h⟩ := Option.bind_eq_some_iff.1 h
 simp only [Option.some.injEq, Prod.mk.injEq] at h
 obtain ⟨rfl, rfl⟩ := h
 obtain ⟨t, b3⟩ := p3
 cases t with
 | true =>
   rw [dVer_true] at h4
   obtain ⟨l4, g4, c4⟩ := says_num hB b3 p4.1 p4.2 g3 h4
   obtain ⟨_, hn, _⟩ := dNum_some hB (show dNum xs b3 = some (p4.1, p4.2) from h4)
   have k4 := cat_ k3 c4 (by omega) l4 g4
   obtain ⟨l5, g5, c5⟩ := says_num hB p4.2 p5.1 p5.2 g4 h5
   have k5 := cat_ k4 c5 (by omega) l5 g5
   refine ⟨by simp only at l3; omega, g5, ?_⟩
   rw [k5]
   simp only [encOp, encTru, if_true]
   rw [if_neg (by omega)]
   simp only [List.append_assoc]
 | false =>
   rw [dVer_false] at h4
   simp only [Option.some.injEq] at h4
   subst h4
   obtain ⟨l5, g5, c5⟩ := says_num hB b3 p5.1 p5.2 g3 h5
   have k5 := cat_ k3 c5 (by simp only at l3; omega) l5 g5
   refine ⟨by simp only at l3; omega, g5, ?_⟩
   rw [k5]
   simp only [encOp, encTru, if_true, Bool.false_eq_true, if_false, List.append_assoc]
theorem reads_Op : Reads dOp encOp OpOk := by
 intro xs rest a x hx h
 by_cases hv : x.f3 = -1
 · have he : encOp x = encNum x.f0 ++ (encTxt x.f1 ++ (encTxt x.f2 ++ (encTru false ++ encNum x.f4))) := by
    simp only [encOp, if_pos hv, encTru, Bool.false_eq_true, if_false, List.append_assoc]
   rw [he] at h ⊢
   simp only [List.append_assoc] at h
   have r0 := reads_num xs _ _ x.f0 hx.n0 h
   have d0 := drop_next h
   have r1 := reads_txt xs _ _ x.f1 (by have := hx.t1; omega) d0
   have d1 := drop_next d0
   have r2 := reads_txt xs _ _ x.f2 (by have := hx.t2; omega) d1
   have d2 := drop_next d1
   have r3 := reads_tru xs _ _ false trivial d2
   have d3 := drop_next d2
   have r5 := reads_num xs _ _ x.f4 hx.n4 d3
   simp only [dOp, r0, r1, r2, r3, dVer_false, r5, Option.bind_some]
   simp only [List.length_append, Nat.add_assoc]
   rw [← hv]
 · have hn := hx.n3.resolve_left hv
   have he : encOp x = encNum x.f0 ++ (encTxt x.f1 ++ (encTxt x.f2 ++ (encTru true ++ (encNum x.f3 ++ encNum x.f4)))) := by
    simp only [encOp, if_neg hv, encTru, if_true, List.append_assoc]
   rw [he] at h ⊢
   simp only [List.append_assoc] at h
   have r0 := reads_num xs _ _ x.f0 hx.n0 h
   have d0 := drop_next h
   have r1 := reads_txt xs _ _ x.f1 (by have := hx.t1; omega) d0
   have d1 := drop_next d0
   have r2 := reads_txt xs _ _ x.f2 (by have := hx.t2; omega) d1
   have d2 := drop_next d1
   have r3 := reads_tru xs _ _ true trivial d2
   have d3 := drop_next d2
   have r4 := reads_num xs _ _ x.f3 hn d3
   have d4 := drop_next d3
   have r5 := reads_num xs _ _ x.f4 hx.n4 d4
   simp only [dOp, r0, r1, r2, r3, dVer_true, r4, r5, Option.bind_some]
   simp only [List.length_append, Nat.add_assoc]
theorem says_Entry {xs : List Int} (hB : Bytes xs) : Says dEntry encEntry xs := by
 intro a x b ha h
 unfold dEntry at h
 obtain ⟨p0, h0, h⟩ := Option.bind_eq_some_iff.1 h
 obtain ⟨l0, g0, c0⟩ := says_num hB a p0.1 p0.2 (by omega) h0
 obtain ⟨p1, h1, h⟩ := Option.bind_eq_some_iff.1 h
 obtain ⟨l1, g1, c1⟩ := says_num hB p0.2 p1.1 p1.2 (by omega) h1
 have k1 := cat_ c0 c1 l0 l1 g1
 obtain ⟨p2, h2, h⟩ := Option.bind_eq_some_iff.1 h
 obtain ⟨l2, g2, c2⟩ := says_num hB p1.2 p2.1 p2.2 (by omega) h2
 have k2 := cat_ k1 c2 (by omega) l2 g2
 obtain ⟨p3, h3, h⟩ := Option.bind_eq_some_iff.1 h
 obtain ⟨l3, g3, c3⟩ := says_num hB p2.2 p3.1 p3.2 (by omega) h3
 have k3 := cat_ k2 c3 (by omega) l3 g3
 obtain ⟨p4, h4, h⟩ := Option.bind_eq_some_iff.1 h
 obtain ⟨l4, g4, c4⟩ := says_num hB p3.2 p4.1 p4.2 (by omega) h4
 have k4 := cat_ k3 c4 (by omega) l4 g4
 obtain ⟨p5, h5, h⟩ := Option.bind_eq_some_iff.1 h
 obtain ⟨l5, g5, c5⟩ := (says_lst hB (says_Op hB)) p4.2 p5.1 p5.2 (by omega) h5
 have k5 := cat_ k4 c5 (by omega) l5 g5
 simp only [Option.some.injEq, Prod.mk.injEq] at h
 obtain ⟨rfl, rfl⟩ := h
 refine ⟨by omega, g5, ?_⟩
 rw [k5]
 simp only [encEntry, List.flatMap_cons, List.flatMap_nil, List.append_nil, List.append_assoc]
theorem reads_Entry : Reads dEntry encEntry EntryOk := by
 intro xs rest a x hx h
 simp only [encEntry, List.flatMap_cons, List.flatMap_nil, List.append_nil, List.append_assoc] at h
 have r0 := reads_num xs _ _ x.f0 hx.n0 h
 have d0 := drop_next h
 have r1 := reads_num xs _ _ x.f1 hx.n1 d0
 have d1 := drop_next d0
 have r2 := reads_num xs _ _ x.f2 hx.n2 d1
 have d2 := drop_next d1
 have r3 := reads_num xs _ _ x.f3 hx.n3 d2
 have d3 := drop_next d2
 have r4 := reads_num xs _ _ x.f4 hx.n4 d3
 have d4 := drop_next d3
 have r5 := (reads_lst reads_Op) xs _ _ x.f5 ⟨by have := hx.m5; omega, hx.l5⟩ d4
 simp only [dEntry, r0, r1, r2, r3, r4, r5, Option.bind_some, encEntry, List.flatMap_cons, List.flatMap_nil, List.append_nil, List.append_assoc, List.length_append]
 simp only [Nat.add_assoc]
structure ItemOne (x : S91) : Prop where
 ok : ItemOk x
 mark : x.f2 = true → x.f3 = []
 event : x.f2 = false → x.f4 = []
end Go.Proofs.YtmneemhplffemaaGreatDoorRR.Law
namespace Go.Proofs.YtmneemhplffemaaGreatDoorRR.Ext
open Go.RowKit Go.Proofs.YtmneemhplffemaaGreatDoorRRW.PrintWords Go.Proofs.YtmneemhplffemaaGreatDoorRR.Ord
def place_isName.f (a0 : ByteArray) : Option Bool := some (Name.okN (tx a0))
theorem ret_bool {a b : Bool} (h : a = b) : Ending.returned (.bool a) = .returned (.bool b) := by rw [h]
def Sofar (s : ByteArray) (i : Nat) : Prop := ((tx s).take i).all Name.okB = true
theorem sofar_next {s : ByteArray} {i : Nat} (h : i < s.size) (hs : Sofar s i) (hc : Name.okB (s[i]'h) = true) : Sofar s (i + 1) := by
 unfold Sofar
 rw [Name.all_snoc s i h, hc, hs]
 rfl
theorem sofar_all {s : ByteArray} {i : Nat} (h : s.size ≤ i) (hs : Sofar s i) : (tx s).all Name.okB = true := by
 unfold Sofar at hs
 rwa [List.take_of_length_le (by rw [tx_length]; exact h)] at hs
set_option maxHeartbeats 1000000 in
theorem place_isName.stays (a0 : ByteArray) (r : Bool) (w : World) (h : place_isName.f a0 = some r) (HE : Env w) :
   Calls Tryz.prog 266 #[.string a0] w fun e w' => e = .returned (.bool r) ∧ w = w' := by
 obtain rfl : Name.okN (tx a0) = r := Option.some.inj h
 clear h
 have HN := Lib.hid (HE.named)
 have hl := tx_length a0
 have htx : a0.toList = tx a0 := ByteArray.toList_eq a0
 have HX := Lib.hid htx
 have HL := Lib.hid hl
 clear hl htx
 by_cases h0 : a0.size = 0
 · have e1 : a0.toList.isEmpty = true := by rw [HX.out, List.isEmpty_iff_length_eq_zero, HL.out]; exact h0
   have e2 : a0.toList = [] := List.isEmpty_iff.1 e1
   have HF := Lib.hid (show Name.okN (tx a0) = false by unfold Name.okN; rw [← HX.out, e2]; rfl)
   clear h0
   go_enter Tryz.func266, Tryz.ntmps266
   go_wp2
   go_ret
   exact ⟨ret_bool HF.out.symm, rfl⟩
 · have e1 : a0.toList.isEmpty = false := by
     rw [Bool.eq_false_iff]
     intro e
     rw [HX.out, List.isEmpty_iff_length_eq_zero, HL.out] at e
     exact h0 e
   have e2 : (a0.toList == []) = false := by rw [beq_eq_false_iff_ne]; intro e; rw [e] at e1; cases e1
   have p0 : 0 < a0.size := by omega
   clear h0
   by_cases h1 : 16 < a0.size
   · have HF := Lib.hid (show Name.okN (tx a0) = false by unfold Name.okN; rw [decide_eq_false (p := (tx a0).length ≤ 16) (by rw [HL.out]; omega)]; simp)
     go_enter Tryz.func266, Tryz.ntmps266
     go_wp2
     go_ret
     exact ⟨ret_bool HF.out.symm, rfl⟩
   · by_cases h2 : a0.toList = [46]
     · have h2b : (a0.toList == [46]) = true := by rw [h2]; rfl
       have HF := Lib.hid (show Name.okN (tx a0) = false by rw [← HX.out, h2]; rfl)
       have H2 := Lib.hid h2
       clear h2
       go_enter Tryz.func266, Tryz.ntmps266
       go_wp2
       go_ret
       exact ⟨ret_bool HF.out.symm, rfl⟩
     · have h2b : (a0.toList == [46]) = false := by rw [beq_eq_false_iff_ne]; exact h2
       have H2 := Lib.hid h2
       clear h2
       by_cases h3 : a0.toList = [46, 46]
       · have h3b : (a0.toList == [46, 46]) = true := by rw [h3]; rfl
         have HF := Lib.hid (show Name.okN (tx a0) = false by rw [← HX.out, h3]; rfl)
         have H3 := Lib.hid h3
         clear h3
         go_enter Tryz.func266, Tryz.ntmps266
         go_wp2
         go_ret
         exact ⟨ret_bool HF.out.symm, rfl⟩
       · have h3b : (a0.toList == [46, 46]) = false := by rw [beq_eq_false_iff_ne]; exact h3
         have HF := Lib.hid (show Name.okN (tx a0) = (tx a0).all Name.okB by
          unfold Name.okN
          rw [← HX.out, h2b, h3b, HX.out, decide_eq_true (p := 1 ≤ (tx a0).length) (by rw [HL.out]; omega), decide_eq_true (p := (tx a0).length ≤ 16) (by rw [HL.out]; omega)]
          rfl)
         have H3 := Lib.hid h3
         clear h3
         have hlen : a0.size ≤ 16 := by omega
         clear h1
         go_enter Tryz.func266, Tryz.ntmps266
         go_wp2
         go_loopw [21] (fun v wr => ∃ i : Nat, i ≤ a0.size ∧ v = .int .i64 i ∧ Sofar a0 i ∧ wr = w) (fun v _ => a0.size - (intOf v).toNat)
         case atStart => exact ⟨0, Nat.zero_le _, rfl, by simp [Sofar], rfl⟩
         case round =>
          obtain ⟨i, hi, rfl, HS, rfl⟩ := hrel
          by_cases hlt : i < a0.size
          · have hby := (a0[i]'hlt).toNat_lt
            by_cases hbig : 128 ≤ (a0[i]'hlt).toNat
            · have HK := Lib.hid (Name.all_false a0 i hlt (Name.okB_small _ hbig))
              have hb1 : decide (128 ≤ ((a0[i]'hlt).toNat : Int)) = true := by simp; omega
              go_wp2
              go_ret
              exact ⟨ret_bool (by rw [HF.out, HK.out]), rfl⟩
            · have hb1 : decide (128 ≤ ((a0[i]'hlt).toNat : Int)) = false := by simp; omega
              have hc := HN.out (a0[i]'hlt).toNat (by omega)
              rw [Name.tab_of] at hc
              by_cases hk : Name.okB (a0[i]'hlt) = true
              · rw [if_pos hk] at hc
                have HS' := sofar_next hlt HS hk
                have HK := Lib.hid hk
                clear hk
                go_wp2
                go_roundw
                case rel => exact ⟨i + 1, by omega, by go_num, HS', trivial⟩
                case measure => simp [intOf]; omega
              · rw [if_neg hk] at hc
                have HK := Lib.hid (Name.all_false a0 i hlt (by simpa using hk))
                clear hk
                go_wp2
                go_ret
                exact ⟨ret_bool (by rw [HF.out, HK.out]), rfl⟩
          · have HK := Lib.hid (sofar_all (by omega) HS)
            go_wp2
            go_ret
            exact ⟨ret_bool (by rw [HF.out, HK.out]), rfl⟩
theorem place_isName.calls (a0 : ByteArray) (r : Bool) (w : World) (h : place_isName.f a0 = some r) (HE : Env w) :
  Calls Tryz.prog 266 #[.string a0] w fun e w' => e = .returned (.bool r) ∧ Below w.heap.size w w' :=
 (place_isName.stays a0 r w h HE).mono fun _ _ ⟨he, hw⟩ => ⟨he, hw ▸ Below.refl _ _⟩
end Go.Proofs.YtmneemhplffemaaGreatDoorRR.Ext
namespace Go.Proofs.YtmneemhplffemaaGreatDoorRR.Ext
open Go.RowKit Go.Proofs.YtmneemhplffemaaGreatDoorRRW.PrintWords
theorem row_strings {w : World} {n : Nat} {l : List ByteArray} {T : Nat} (base : Nat) (hn : n = l.length) (hb : base ≤ w.heap.size) (hm : l.length ≤ maxLen) :
  Kd.R Kd.string T (w.alloc (.cells (l.map Value.string).toArray T)) base (fun _ => True) (.slice (some ⟨w.heap.size, 0, none⟩) n n) l := by
 subst hn
 exact Kd.R_of_own ⟨by simp [encs], .inr ⟨w.heap.size, l.length, (l.map Value.string).toArray, rfl, hb, heap_alloc_new w _, Nat.le_refl _, hm, by simp, by rw [Nat.mul_one, List.take_of_length_le (by simp)]; rfl⟩⟩ (fun _ _ => trivial)
def strings_Split.f (a0 a1 : ByteArray) : Option (List ByteArray) := if a0.size < 4294967281 then (if 1 ≤ a1.size then some (Lib.splitB a1 0 (Lib.countB a0 a1) a0) else none) else none
theorem strings_Split.calls (a0 a1 : ByteArray) (r : List ByteArray) (w : World) (h : strings_Split.f a0 a1 = some r) (HE : Env w) :
   Calls Tryz.prog 265 #[.string a0, .string a1] w fun e w' => ∃ v0_ : Value, e = .returned (v0_) ∧ Kd.R Kd.string 9 w' w.heap.size (fun _ => True) v0_ r ∧ Below w.heap.size w w' := by
 unfold strings_Split.f at h
 by_cases h1 : a0.size < 4294967281
 · by_cases h2 : 1 ≤ a1.size
   · rw [if_pos h1, if_pos h2] at h
     obtain rfl := Option.some.inj h
     obtain ⟨m, hm⟩ := HE.maxLen
     have hl := Lib.splitB_all a1 h2 0 (Lib.countB a0 a1) a0 rfl
     have hc := Lib.countB_le a1 h2 a0.size a0 (Nat.le_refl _)
     refine (Tryz.strings_Split a0 a1 m w h1 hm h2).mono ?_
     rintro e w' ⟨rfl, rfl⟩
     exact ⟨_, rfl, row_strings _ hl.symm (Nat.le_refl _) (by rw [hl]; unfold maxLen; omega), (Below.refl _ _).alloc (Nat.le_refl _) _⟩
   · rw [if_pos h1, if_neg h2] at h; cases h
 · rw [if_neg h1] at h; cases h
def strings_HasPrefix.f (a0 a1 : ByteArray) : Option Bool := some (Lib.hasPrefix a0.data.toList a1.data.toList)
theorem strings_HasPrefix.calls (a0 a1 : ByteArray) (r : Bool) (w : World) (h : strings_HasPrefix.f a0 a1 = some r) :
  Calls Tryz.prog 264 #[.string a0, .string a1] w fun e w' => e = .returned (.bool r) ∧ Drawn0 w w' := by
 obtain rfl := Option.some.inj h
 refine (Tryz.strings_HasPrefix a0 a1 w).mono ?_
 rintro e w' ⟨rfl, rfl⟩
 exact ⟨rfl, Drawn0.refl _⟩
def stringslite_Clone.f (a0 : ByteArray) : Option ByteArray := if a0.size ≤ 281474976710656 then some a0 else none
end Go.Proofs.YtmneemhplffemaaGreatDoorRR.Ext
namespace Go.Proofs.YtmneemhplffemaaGreatDoorRRW.PrintWords
open Go.RowKit
section
variable {P : Program} {d : Nat} {xs ys : Array Value} {f : Field} {fs : List Field} {a b : Value} {r s : Bool} {w : World}
theorem eqf_last (hn : (f.name == "_") = false) (ha : (part f.type xs f.offset).run P w = .ok a w) (hb : (part f.type ys f.offset).run P w = .ok b w) (he : (Op.equalIn d f.type a b).run P w = .ok r w) : (Op.eqFields d xs ys [f]).run P w = .ok r w := by
 have hn' : f.name ≠ "_" := by simpa using hn
 simp only [Op.eqFields, if_pos hn', Sem.run_bind, ha, hb, he, Result.andThen_ok]
 cases r <;> simp
theorem eqf_cons (hn : (f.name == "_") = false) (ha : (part f.type xs f.offset).run P w = .ok a w) (hb : (part f.type ys f.offset).run P w = .ok b w) (he : (Op.equalIn d f.type a b).run P w = .ok r w) (hr : (Op.eqFields d xs ys fs).run P w = .ok s w) : (Op.eqFields d xs ys (f :: fs)).run P w = .ok (r && s) w := by
 have hn' : f.name ≠ "_" := by simpa using hn
 rw [Op.eqFields]
 simp only [if_pos hn', Sem.run_bind, ha, hb, he, Result.andThen_ok]
 cases r
 · simp
 · simpa using hr
theorem eqA_of {t : TypeId} {fs : Array Field} (hu : P.underlying t = some (.struct fs)) (hp : P.stoodInHeld t = false) (h : (Op.eqFields d xs ys fs.toList).run P w = .ok r w) : (Op.equalIn (d + 1) t (.agg xs) (.agg ys)).run P w = .ok r w := by
 have hf : P.fieldsOf t = fs := by simp [Program.fieldsOf, hu]
 rw [run_equalIn_struct (P := P) w d t xs ys (by rw [hf]; exact hu) hp, hf]
 exact h
end
end Go.Proofs.YtmneemhplffemaaGreatDoorRRW.PrintWords
namespace Go.Proofs.YtmneemhplffemaaGreatDoorRRW.PrintWords
theorem Reps.one {α : Type} {R : α → List Value → Prop} {ps : List α} {cs : List Value} {p : α} {v : Value} (hp : R p [v]) (h : Reps R 1 ps cs) : Reps R 1 (p :: ps) (v :: cs) := by
 refine ⟨by simp [h.1], fun j q hq => ?_⟩
 cases j with
 | zero =>
   simp only [List.getElem?_cons_zero, Option.some.injEq] at hq
   subst hq
   simpa using hp
 | succ j =>
   simp only [List.getElem?_cons_succ] at hq
   have h1 := h.2 j q hq
   simpa [Nat.mul_one] using h1
theorem Reps.front {α : Type} {R : α → List Value → Prop} {size : Nat} {ps : List α} {cs c all : List Value} {p : α} (hp : R p c) (hc : c.length = size) (h : Reps R size ps cs) (ha : c ++ cs = all) : Reps R size (p :: ps) all := by
 subst ha
 refine ⟨by rw [List.length_append, hc, h.1, List.length_cons, Nat.succ_mul, Nat.add_comm], fun j q hq => ?_⟩
 cases j with
 | zero =>
   simp only [List.getElem?_cons_zero, Option.some.injEq] at hq
   subst hq
   rw [Nat.zero_mul, List.drop_zero, List.take_append_of_le_length (by omega), List.take_of_length_le (by omega)]
   exact hp
 | succ j =>
   simp only [List.getElem?_cons_succ] at hq
   have h1 := h.2 j q hq
   rw [Nat.succ_mul, List.drop_append, List.drop_of_length_le (by rw [hc]; exact Nat.le_add_left _ _), List.nil_append, hc, Nat.add_sub_cancel]
   exact h1
theorem Reps.c2 {α : Type} {R : α → List Value → Prop} {ps : List α} {cs : List Value} {p : α} {va vb : Value} (hp : R p [va, vb]) (h : Reps R 2 ps cs) : Reps R 2 (p :: ps) (va :: vb :: cs) := Reps.front hp rfl h rfl
theorem Reps.c3 {α : Type} {R : α → List Value → Prop} {ps : List α} {cs : List Value} {p : α} {va vb vc : Value} (hp : R p [va, vb, vc]) (h : Reps R 3 ps cs) : Reps R 3 (p :: ps) (va :: vb :: vc :: cs) := Reps.front hp rfl h rfl
theorem Reps.c4 {α : Type} {R : α → List Value → Prop} {ps : List α} {cs : List Value} {p : α} {va vb vc vd : Value} (hp : R p [va, vb, vc, vd]) (h : Reps R 4 ps cs) : Reps R 4 (p :: ps) (va :: vb :: vc :: vd :: cs) := Reps.front hp rfl h rfl
theorem Reps.c5 {α : Type} {R : α → List Value → Prop} {ps : List α} {cs : List Value} {p : α} {va vb vc vd ve : Value} (hp : R p [va, vb, vc, vd, ve]) (h : Reps R 5 ps cs) : Reps R 5 (p :: ps) (va :: vb :: vc :: vd :: ve :: cs) := Reps.front hp rfl h rfl
theorem Reps.c6 {α : Type} {R : α → List Value → Prop} {ps : List α} {cs : List Value} {p : α} {va vb vc vd ve vf : Value} (hp : R p [va, vb, vc, vd, ve, vf]) (h : Reps R 6 ps cs) : Reps R 6 (p :: ps) (va :: vb :: vc :: vd :: ve :: vf :: cs) := Reps.front hp rfl h rfl
theorem Reps.c7 {α : Type} {R : α → List Value → Prop} {ps : List α} {cs : List Value} {p : α} {va vb vc vd ve vf vg : Value} (hp : R p [va, vb, vc, vd, ve, vf, vg]) (h : Reps R 7 ps cs) : Reps R 7 (p :: ps) (va :: vb :: vc :: vd :: ve :: vf :: vg :: cs) := Reps.front hp rfl h rfl
theorem Reps.c8 {α : Type} {R : α → List Value → Prop} {ps : List α} {cs : List Value} {p : α} {va vb vc vd ve vf vg vh : Value} (hp : R p [va, vb, vc, vd, ve, vf, vg, vh]) (h : Reps R 8 ps cs) : Reps R 8 (p :: ps) (va :: vb :: vc :: vd :: ve :: vf :: vg :: vh :: cs) := Reps.front hp rfl h rfl
theorem Reps.c9 {α : Type} {R : α → List Value → Prop} {ps : List α} {cs : List Value} {p : α} {va vb vc vd ve vf vg vh vi : Value} (hp : R p [va, vb, vc, vd, ve, vf, vg, vh, vi]) (h : Reps R 9 ps cs) : Reps R 9 (p :: ps) (va :: vb :: vc :: vd :: ve :: vf :: vg :: vh :: vi :: cs) := Reps.front hp rfl h rfl
theorem Reps.c10 {α : Type} {R : α → List Value → Prop} {ps : List α} {cs : List Value} {p : α} {va vb vc vd ve vf vg vh vi vj : Value} (hp : R p [va, vb, vc, vd, ve, vf, vg, vh, vi, vj]) (h : Reps R 10 ps cs) : Reps R 10 (p :: ps) (va :: vb :: vc :: vd :: ve :: vf :: vg :: vh :: vi :: vj :: cs) := Reps.front hp rfl h rfl
end Go.Proofs.YtmneemhplffemaaGreatDoorRRW.PrintWords
namespace Go.Proofs.YtmneemhplffemaaGreatDoorRR.PPa
open Go.RowKit Go.Proofs.YtmneemhplffemaaGreatDoorRR.Ext Go.Proofs.YtmneemhplffemaaGreatDoorRRW.PrintWords Go.Proofs.YtmneemhplffemaaGreatDoorRRW.PrintLast Go.Proofs.YtmneemhplffemaaGreatDoorRRW.PrintMore
attribute [local go_sem] max2_int min2_int max_two min_two max_three min_three max_four min_four   -- for this text's walks alone


def errW : Option Int → Value
 | none => .nilIface
 | some c => .iface 0 (.int .i64 c)
theorem errW_none : errW none = .nilIface := rfl
theorem errW_some (c : Int) : errW (some c) = .iface 0 (.int .i64 c) := rfl
end Go.Proofs.YtmneemhplffemaaGreatDoorRR.PPa
namespace Go.Proofs.YtmneemhplffemaaGreatDoorRR.PPa
open Go.RowKit Go.Proofs.YtmneemhplffemaaGreatDoorRR.Ext Go.Proofs.YtmneemhplffemaaGreatDoorRRW.PrintWords Go.Proofs.YtmneemhplffemaaGreatDoorRRW.PrintLast Go.Proofs.YtmneemhplffemaaGreatDoorRRW.PrintMore
attribute [local go_sem] max2_int min2_int max_two min_two max_three min_three max_four min_four   -- for this text's walks alone


def place_Parse.l0 : Nat → List ByteArray → List ByteArray → Int → Int → Option (List ByteArray × Int)
 | 0, _, _, _, _ => none
 | k + 1, x4, x21, x22, x23 => if x23 < x22 then (if 0 ≤ x23 then (if x23 < (x21.length : Int) then ((place_isName.f (rdOf ByteArray.empty x21 x23)).bind fun t106 => (if t106 = true then (place_Parse.l0 k x4 x21 x22 (wrap64 (x23 + 1))) else (some (([] : List ByteArray), 10)))) else (none)) else (none)) else (some (x4, 0))
def place_Parse.f (k : Nat) (a0 : ByteArray) : Option (List ByteArray × Int) := if (a0.size : Int) > 102 then (some (([] : List ByteArray), 2)) else (if a0.toList = ([47] : List UInt8) then (some (([] : List ByteArray), 0)) else ((strings_HasPrefix.f a0 (⟨#[47]⟩ : ByteArray)).bind fun t101 => (if t101 = true then (if 1 ≤ (a0.size : Int) then ((strings_Split.f (a0.extract 1 a0.size) (⟨#[47]⟩ : ByteArray)).bind fun t102 => (if (t102.length : Int) > 6 then (some (([] : List ByteArray), 10)) else (place_Parse.l0 k t102 t102 (t102.length : Int) 0))) else (none)) else (some (([] : List ByteArray), 10)))))
theorem place_Parse.mono_l : ∀ k, (∀ y0 y1 y2 y3, LeO (place_Parse.l0 k y0 y1 y2 y3) (place_Parse.l0 (k + 1) y0 y1 y2 y3))
 | 0 => fun _ _ _ _ r h => by simp [place_Parse.l0] at h
 | k + 1 => by
   have ih0 := place_Parse.mono_l k
   · intro y0 y1 y2 y3
     unfold place_Parse.l0
     repeat' first
     | (with_reducible exact ih0 _ _ _ _)
     | (with_reducible exact LeO.refl _)
     | (with_reducible exact LeO.none _)
     | (with_reducible refine LeO.ite ?_ ?_)
     | (with_reducible refine LeO.bind ?_ (fun _ => ?_))
     | exact ih0 _ _ _ _
     | exact LeO.none _
     | refine LeO.ite ?_ ?_
     | refine LeO.bind ?_ (fun _ => ?_)
theorem place_Parse.mono : ∀ a0 k, LeO (place_Parse.f k a0) (place_Parse.f (k + 1) a0) := by
 intro a0 k
 have ih0 := place_Parse.mono_l k
 unfold place_Parse.f
 repeat' first
  | (with_reducible exact ih0 _ _ _ _)
  | (with_reducible exact LeO.refl _)
  | (with_reducible exact LeO.none _)
  | (with_reducible refine LeO.ite ?_ ?_)
  | (with_reducible refine LeO.bind ?_ (fun _ => ?_))
  | exact ih0 _ _ _ _
  | exact LeO.none _
  | refine LeO.ite ?_ ?_
  | refine LeO.bind ?_ (fun _ => ?_)
set_option maxHeartbeats 8000000 in
set_option maxRecDepth 100000 in
theorem place_Parse.calls (k : Nat) (a0 : ByteArray) (r1 : List ByteArray) (r2 : Int) (w : World) (h : place_Parse.f k a0 = some (r1, r2)) (HE : Env w) :
   Calls Tryz.prog 234 #[.string a0] w fun e w' => ∃ v0_ : Value, e = .returned (.tuple #[v0_, .int .i64 r2]) ∧ Kd.R Kd.string 9 w' w.heap.size (fun _ => True) v0_ r1 ∧ Below w.heap.size w w' := by
 have HB := Aside0.mk (Below.refl w.heap.size w)
 have H : (if (a0.size : Int) > 102 then (some (([] : List ByteArray), 2)) else (if a0.toList = ([47] : List UInt8) then (some (([] : List ByteArray), 0)) else ((strings_HasPrefix.f a0 (⟨#[47]⟩ : ByteArray)).bind fun t101 => (if t101 = true then (if 1 ≤ (a0.size : Int) then ((strings_Split.f (a0.extract 1 a0.size) (⟨#[47]⟩ : ByteArray)).bind fun t102 => (if (t102.length : Int) > 6 then (some (([] : List ByteArray), 10)) else (place_Parse.l0 k t102 t102 (t102.length : Int) 0))) else (none)) else (some (([] : List ByteArray), 10)))))) = some (r1, r2) := h
 clear h
 by_cases c2 : (a0.size : Int) > 102
 · rw [if_pos c2] at H
   have c2b0 : decide (102 < (a0.size : Int)) = true := decide_eq_true c2
   have c2b1 : decide (102 < a0.size) = true := decide_eq_true (by omega)
   clear c2
   simp only [Option.some.injEq, Prod.mk.injEq] at H
   obtain ⟨rfl, rfl⟩ := H
   go_enter Tryz.func234, Tryz.ntmps234
   go_wp2
   go_ret2
   exact ⟨_, by first | rfl | (simp [errW_none, errW_some] <;> rfl) | (simp [*, errW_none, errW_some] <;> rfl), by first | exact Kd.R_nil _ _ _ _ _ | exact Kd.N_nil _ _ _ _ _ | exact Kd.V_nil _ _ _ _ _ | exact Kd.Q_nil _ _ _ _ _ | exact Kd.S_nil _ _ _ _ _, by repeat (first | (with_reducible first | exact HB.out | apply below_alloc | apply pw_below_drewN | apply below_drew1) | exact HB.out)⟩
 · rw [if_neg c2] at H
   have c2b0 : decide (102 < (a0.size : Int)) = false := decide_eq_false c2
   have c2b1 : decide (102 < a0.size) = false := decide_eq_false (by omega)
   clear c2
   by_cases c3 : a0.toList = ([47] : List UInt8)
   · rw [if_pos c3] at H
     have c3b0 : (a0.toList == ([47] : List UInt8)) = true := beq_iff_eq.mpr c3
     have c3b1 : (a0.toList != ([47] : List UInt8)) = false := bne_eq_false_iff_eq.mpr c3
     clear c3
     simp only [Option.some.injEq, Prod.mk.injEq] at H
     obtain ⟨rfl, rfl⟩ := H
     go_enter Tryz.func234, Tryz.ntmps234
     go_wp2
     go_ret2
     exact ⟨_, by first | rfl | (simp [errW_none, errW_some] <;> rfl) | (simp [*, errW_none, errW_some] <;> rfl), by first | exact Kd.R_nil _ _ _ _ _ | exact Kd.N_nil _ _ _ _ _ | exact Kd.V_nil _ _ _ _ _ | exact Kd.Q_nil _ _ _ _ _ | exact Kd.S_nil _ _ _ _ _, by repeat (first | (with_reducible first | exact HB.out | apply below_alloc | apply pw_below_drewN | apply below_drew1) | exact HB.out)⟩
   · rw [if_neg c3] at H
     have c3b0 : (a0.toList == ([47] : List UInt8)) = false := beq_eq_false_iff_ne.mpr c3
     have c3b1 : (a0.toList != ([47] : List UInt8)) = true := bne_iff_ne.mpr c3
     replace H := Option.bind_eq_some_iff.mp H
     obtain ⟨t101, A40, H⟩ := H
     replace H : (if t101 = true then (if 1 ≤ (a0.size : Int) then ((strings_Split.f (a0.extract 1 a0.size) (⟨#[47]⟩ : ByteArray)).bind fun t102 => (if (t102.length : Int) > 6 then (some (([] : List ByteArray), 10)) else (place_Parse.l0 k t102 t102 (t102.length : Int) 0))) else (none)) else (some (([] : List ByteArray), 10))) = some (r1, r2) := H
     have A4 := Aside0.mk A40
     clear A40
     by_cases c5 : t101 = true
     · subst c5
       have H1 : (if 1 ≤ (a0.size : Int) then ((strings_Split.f (a0.extract 1 a0.size) (⟨#[47]⟩ : ByteArray)).bind fun t102 => (if (t102.length : Int) > 6 then (some (([] : List ByteArray), 10)) else (place_Parse.l0 k t102 t102 (t102.length : Int) 0))) else (none)) = some (r1, r2) := by rw [if_pos rfl] at H; exact H
       clear H
       have H := H1
       clear H1
       by_cases c6 : 1 ≤ (a0.size : Int)
       · rw [if_pos c6] at H
         have c6b0 := eq_true c6
         have c6b1 : decide (1 ≤ (a0.size : Int)) = true := decide_eq_true c6
         clear c6
         replace H := Option.bind_eq_some_iff.mp H
         obtain ⟨t102, A70, H⟩ := H
         replace H : (if (t102.length : Int) > 6 then (some (([] : List ByteArray), 10)) else (place_Parse.l0 k t102 t102 (t102.length : Int) 0)) = some (r1, r2) := H
         have A7 := Aside0.mk A70
         clear A70
         by_cases c8 : (t102.length : Int) > 6
         · rw [if_pos c8] at H
           have c8b0 : decide (6 < (t102.length : Int)) = true := decide_eq_true c8
           have c8b1 : decide (6 < t102.length) = true := decide_eq_true (by omega)
           clear c8
           simp only [Option.some.injEq, Prod.mk.injEq] at H
           obtain ⟨rfl, rfl⟩ := H
           go_enter Tryz.func234, Tryz.ntmps234
           go_wp2_with (first | ((with_reducible refine gate_callee (f := 264) rfl ?_); refine goesL_ (some 13) rfl rfl Tryz.func264 (by kernel_rfl) rfl #[.string a0, .string (⟨#[47]⟩ : ByteArray)] rfl (by (try simp only [List.map_toArray, List.map_cons, List.map_nil]); first | done | rfl | (simp only [List.length_drop, List.length_take]; rfl)) ?_; (with_reducible refine (strings_HasPrefix.calls a0 (⟨#[47]⟩ : ByteArray) true _ A4.out).mono ?_); rintro e w' ⟨rfl, ⟨nd, rfl⟩⟩; refine ⟨_, rfl, ?_⟩) | ((with_reducible refine gate_callee (f := 265) rfl ?_); refine goesL_ (some 17) rfl rfl Tryz.func265 (by kernel_rfl) rfl #[.string (a0.extract 1 a0.size), .string (⟨#[47]⟩ : ByteArray)] rfl (by (try simp only [List.map_toArray, List.map_cons, List.map_nil]); first | done | rfl | (simp only [List.length_drop, List.length_take]; rfl)) ?_; (with_reducible refine (strings_Split.calls (a0.extract 1 a0.size) (⟨#[47]⟩ : ByteArray) t102 _ A7.out (HE.at_ (by repeat (first | (with_reducible first | exact HB.out | apply below_alloc | apply pw_below_drewN | apply below_drew1) | exact HB.out)))).mono ?_); rintro e w9 ⟨v103, rfl, ho0, hb⟩; refine ⟨_, rfl, ?_⟩; have n0_ := Aside0.mk (Kd.R_lower ho0 (below_size (by repeat (first | (with_reducible first | exact HB.out | apply below_alloc | apply pw_below_drewN | apply below_drew1) | exact HB.out)))); have n1_ := Aside0.mk (below_step (by repeat (first | (with_reducible first | exact HB.out | apply below_alloc | apply pw_below_drewN | apply below_drew1) | exact HB.out)) hb); clear HB; have HO104 := n0_; have HB := n1_; clear n0_ n1_; (try clear hb); (try clear hb2); (try clear hk); (try clear hi); (try clear ho0); obtain ⟨Ao10, co10, eo10⟩ := Kd.R_slice HO104.out; subst eo10))
           go_ret2
           exact ⟨_, by first | rfl | (simp [errW_none, errW_some] <;> rfl) | (simp [*, errW_none, errW_some] <;> rfl), by first | exact Kd.R_nil _ _ _ _ _ | exact Kd.N_nil _ _ _ _ _ | exact Kd.V_nil _ _ _ _ _ | exact Kd.Q_nil _ _ _ _ _ | exact Kd.S_nil _ _ _ _ _, by repeat (first | (with_reducible first | exact HB.out | apply below_alloc | apply pw_below_drewN | apply below_drew1) | exact HB.out)⟩
         · rw [if_neg c8] at H
           have c8b0 : decide (6 < (t102.length : Int)) = false := decide_eq_false c8
           have c8b1 : decide (6 < t102.length) = false := decide_eq_false (by omega)
           clear c8
           have H' := Aside0.mk H
           clear H
           go_enter Tryz.func234, Tryz.ntmps234
           go_wp2_with (first | ((with_reducible refine gate_callee (f := 264) rfl ?_); refine goesL_ (some 13) rfl rfl Tryz.func264 (by kernel_rfl) rfl #[.string a0, .string (⟨#[47]⟩ : ByteArray)] rfl (by (try simp only [List.map_toArray, List.map_cons, List.map_nil]); first | done | rfl | (simp only [List.length_drop, List.length_take]; rfl)) ?_; (with_reducible refine (strings_HasPrefix.calls a0 (⟨#[47]⟩ : ByteArray) true _ A4.out).mono ?_); rintro e w' ⟨rfl, ⟨nd, rfl⟩⟩; refine ⟨_, rfl, ?_⟩) | ((with_reducible refine gate_callee (f := 265) rfl ?_); refine goesL_ (some 17) rfl rfl Tryz.func265 (by kernel_rfl) rfl #[.string (a0.extract 1 a0.size), .string (⟨#[47]⟩ : ByteArray)] rfl (by (try simp only [List.map_toArray, List.map_cons, List.map_nil]); first | done | rfl | (simp only [List.length_drop, List.length_take]; rfl)) ?_; (with_reducible refine (strings_Split.calls (a0.extract 1 a0.size) (⟨#[47]⟩ : ByteArray) t102 _ A7.out (HE.at_ (by repeat (first | (with_reducible first | exact HB.out | apply below_alloc | apply pw_below_drewN | apply below_drew1) | exact HB.out)))).mono ?_); rintro e w11 ⟨v103, rfl, ho0, hb⟩; refine ⟨_, rfl, ?_⟩; have n0_ := Aside0.mk (Kd.R_lower ho0 (below_size (by repeat (first | (with_reducible first | exact HB.out | apply below_alloc | apply pw_below_drewN | apply below_drew1) | exact HB.out)))); have n1_ := Aside0.mk (below_step (by repeat (first | (with_reducible first | exact HB.out | apply below_alloc | apply pw_below_drewN | apply below_drew1) | exact HB.out)) hb); clear HB; have HO104 := n0_; have HB := n1_; clear n0_ n1_; (try clear hb); (try clear hb2); (try clear hk); (try clear hi); (try clear ho0); obtain ⟨Ao12, co12, eo12⟩ := Kd.R_slice HO104.out; subst eo12))
           go_loopg [23] k (fun kq v23 w' => ∃ (x23_1 : Int), v23 = .int .i64 x23_1 ∧ Aside0 (place_Parse.l0 kq t102 t102 (t102.length : Int) x23_1 = some (r1, r2)) ∧ Aside0 (kq ≤ k) ∧ Aside0 (Kd.R Kd.string 9 w' w.heap.size (fun _ => True) (.slice Ao12 t102.length co12) t102) ∧ Aside0 (Kd.R Kd.string 9 w' w.heap.size (fun _ => True) (.slice Ao12 t102.length co12) t102) ∧ Aside0 (Below w.heap.size w w'))
           case atStart => exact ⟨(0), (by first | rfl | (simp; done) | (simp [*]; done)), H', ⟨Nat.le_refl _⟩, ⟨by (with_reducible repeat (first | apply Kd.R_alloc | apply Kd.R_drewN | apply Kd.R_drew)); exact HO104.out⟩, ⟨by (with_reducible repeat (first | apply Kd.R_alloc | apply Kd.R_drewN | apply Kd.R_drew)); exact HO104.out⟩, ⟨by repeat (first | (with_reducible first | exact HB.out | apply below_alloc | apply pw_below_drewN | apply below_drew1) | exact HB.out)⟩⟩
           case round =>
            clear H'
            try clear c2
            try clear c2b0
            try clear c2b1
            try clear p2
            try clear c3
            try clear c3b0
            try clear c3b1
            try clear c5
            try clear c6
            try clear c6b0
            try clear c6b1
            try clear c8
            try clear c8b0
            try clear c8b1
            obtain ⟨x23_1, rfl, HA, HK1, HO_4, HO_21, HB⟩ := hrel
            cases gk with
            | zero => exact absurd HA.out (by simp [place_Parse.l0])
            | succ k1 =>
              have H := HA.out
              clear HA
              simp only [place_Parse.l0] at H
              by_cases c13 : x23_1 < (t102.length : Int)
              · rw [if_pos c13] at H
                have c13b0 : decide (x23_1 < (t102.length : Int)) = true := decide_eq_true c13
                clear c13
                by_cases c14 : 0 ≤ x23_1
                · rw [if_pos c14] at H
                  have c14b0 : decide (0 ≤ x23_1) = true := decide_eq_true c14
                  clear c14
                  by_cases c15 : x23_1 < (t102.length : Int)
                  · rw [if_pos c15] at H
                    have c15b0 : decide (x23_1 < (t102.length : Int)) = true := decide_eq_true c15
                    clear c15
                    replace H := Option.bind_eq_some_iff.mp H
                    obtain ⟨t106, A160, H⟩ := H
                    replace H : (if t106 = true then (place_Parse.l0 k1 t102 t102 (t102.length : Int) (wrap64 (x23_1 + 1))) else (some (([] : List ByteArray), 10))) = some (r1, r2) := H
                    have A16 := Aside0.mk A160
                    clear A160
                    by_cases c17 : t106 = true
                    · subst c17
                      have H1 : (place_Parse.l0 k1 t102 t102 (t102.length : Int) (wrap64 (x23_1 + 1))) = some (r1, r2) := by rw [if_pos rfl] at H; exact H
                      clear H
                      have H := H1
                      clear H1
                      have H' := Aside0.mk H
                      clear H
                      have p105 : 0 ≤ (x23_1 : Int) := of_decide_eq_true (by first | (with_reducible assumption) | assumption)
                      have q105 : x23_1 < (t102.length : Int) := of_decide_eq_true (by first | (with_reducible assumption) | assumption)
                      obtain ⟨ad105, e105, hx105_0⟩ := Kd.at_string (Kd.R_reads' HO_21.out).2.2 x23_1 p105 q105
                      cases e105
                      replace p105 := eq_true p105
                      replace q105 := eq_true q105
                      go_wp2_with (first | ((with_reducible refine gate_callee (f := 266) rfl ?_); refine goesL_ (some 28) rfl rfl Tryz.func266 (by kernel_rfl) rfl #[.string (rdOf ByteArray.empty t102 x23_1)] rfl (by (try simp only [List.map_toArray, List.map_cons, List.map_nil]); first | done | rfl | (simp only [List.length_drop, List.length_take]; rfl)) ?_; (with_reducible refine (place_isName.calls (rdOf ByteArray.empty t102 x23_1) true _ A16.out (HE.at_ (by repeat (first | (with_reducible first | exact HB.out | apply below_alloc | apply pw_below_drewN | apply below_drew1) | exact HB.out)))).mono ?_); rintro e w18 ⟨rfl, hb⟩; refine ⟨_, rfl, ?_⟩; have n0_ := Aside0.mk (Kd.R_below (by (with_reducible repeat (first | apply Kd.R_alloc | apply Kd.R_drewN | apply Kd.R_drew)); exact HO_4.out) hb); have n1_ := Aside0.mk (Kd.R_below (by (with_reducible repeat (first | apply Kd.R_alloc | apply Kd.R_drewN | apply Kd.R_drew)); exact HO_21.out) hb); have n2_ := Aside0.mk (below_step (by repeat (first | (with_reducible first | exact HB.out | apply below_alloc | apply pw_below_drewN | apply below_drew1) | exact HB.out)) hb); clear HO_4; clear HO_21; clear HB; have HO_4 := n0_; have HO_21 := n1_; have HB := n2_; clear n0_ n1_ n2_; (try clear hb); (try clear hb2); (try clear hk); (try clear hi)))
                      go_roundg k1
                      case measure => have := HK1.out; omega
                      case rel => exact ⟨(wrap64 (x23_1 + 1)), (by first | rfl | (simp; done) | (simp [*]; done)), H', ⟨by have := HK1.out; omega⟩, ⟨by (with_reducible repeat (first | apply Kd.R_alloc | apply Kd.R_drewN | apply Kd.R_drew)); exact HO_4.out⟩, ⟨by (with_reducible repeat (first | apply Kd.R_alloc | apply Kd.R_drewN | apply Kd.R_drew)); exact HO_21.out⟩, ⟨by repeat (first | (with_reducible first | exact HB.out | apply below_alloc | apply pw_below_drewN | apply below_drew1) | exact HB.out)⟩⟩
                    · replace c17 := Bool.eq_false_iff.mpr c17
                      subst c17
                      have H1 : (some (([] : List ByteArray), 10)) = some (r1, r2) := by rw [if_neg (show ¬ (false = true) by decide)] at H; exact H
                      clear H
                      have H := H1
                      clear H1
                      simp only [Option.some.injEq, Prod.mk.injEq] at H
                      obtain ⟨rfl, rfl⟩ := H
                      have p105 : 0 ≤ (x23_1 : Int) := of_decide_eq_true (by first | (with_reducible assumption) | assumption)
                      have q105 : x23_1 < (t102.length : Int) := of_decide_eq_true (by first | (with_reducible assumption) | assumption)
                      obtain ⟨ad105, e105, hx105_0⟩ := Kd.at_string (Kd.R_reads' HO_21.out).2.2 x23_1 p105 q105
                      cases e105
                      replace p105 := eq_true p105
                      replace q105 := eq_true q105
                      go_wp2_with (first | ((with_reducible refine gate_callee (f := 266) rfl ?_); refine goesL_ (some 28) rfl rfl Tryz.func266 (by kernel_rfl) rfl #[.string (rdOf ByteArray.empty t102 x23_1)] rfl (by (try simp only [List.map_toArray, List.map_cons, List.map_nil]); first | done | rfl | (simp only [List.length_drop, List.length_take]; rfl)) ?_; (with_reducible refine (place_isName.calls (rdOf ByteArray.empty t102 x23_1) false _ A16.out (HE.at_ (by repeat (first | (with_reducible first | exact HB.out | apply below_alloc | apply pw_below_drewN | apply below_drew1) | exact HB.out)))).mono ?_); rintro e w19 ⟨rfl, hb⟩; refine ⟨_, rfl, ?_⟩; have n0_ := Aside0.mk (Kd.R_below (by (with_reducible repeat (first | apply Kd.R_alloc | apply Kd.R_drewN | apply Kd.R_drew)); exact HO_4.out) hb); have n1_ := Aside0.mk (Kd.R_below (by (with_reducible repeat (first | apply Kd.R_alloc | apply Kd.R_drewN | apply Kd.R_drew)); exact HO_21.out) hb); have n2_ := Aside0.mk (below_step (by repeat (first | (with_reducible first | exact HB.out | apply below_alloc | apply pw_below_drewN | apply below_drew1) | exact HB.out)) hb); clear HO_4; clear HO_21; clear HB; have HO_4 := n0_; have HO_21 := n1_; have HB := n2_; clear n0_ n1_ n2_; (try clear hb); (try clear hb2); (try clear hk); (try clear hi)))
                      go_ret2
                      exact ⟨_, by first | rfl | (simp [errW_none, errW_some] <;> rfl) | (simp [*, errW_none, errW_some] <;> rfl), by first | exact Kd.R_nil _ _ _ _ _ | exact Kd.N_nil _ _ _ _ _ | exact Kd.V_nil _ _ _ _ _ | exact Kd.Q_nil _ _ _ _ _ | exact Kd.S_nil _ _ _ _ _, by repeat (first | (with_reducible first | exact HB.out | apply below_alloc | apply pw_below_drewN | apply below_drew1) | exact HB.out)⟩
                  · rw [if_neg c15] at H
                    exact absurd H (by simp)
                · rw [if_neg c14] at H
                  exact absurd H (by simp)
              · rw [if_neg c13] at H
                have c13b0 : decide (x23_1 < (t102.length : Int)) = false := decide_eq_false c13
                clear c13
                simp only [Option.some.injEq, Prod.mk.injEq] at H
                obtain ⟨rfl, rfl⟩ := H
                go_wp2
                go_ret2
                exact ⟨_, by first | rfl | (simp [errW_none, errW_some] <;> rfl) | (simp [*, errW_none, errW_some] <;> rfl), by (with_reducible repeat (first | apply Kd.R_alloc | apply Kd.R_drewN | apply Kd.R_drew)); exact HO_4.out, by repeat (first | (with_reducible first | exact HB.out | apply below_alloc | apply pw_below_drewN | apply below_drew1) | exact HB.out)⟩
       · rw [if_neg c6] at H
         exact absurd H (by simp)
     · replace c5 := Bool.eq_false_iff.mpr c5
       subst c5
       have H1 : (some (([] : List ByteArray), 10)) = some (r1, r2) := by rw [if_neg (show ¬ (false = true) by decide)] at H; exact H
       clear H
       have H := H1
       clear H1
       simp only [Option.some.injEq, Prod.mk.injEq] at H
       obtain ⟨rfl, rfl⟩ := H
       go_enter Tryz.func234, Tryz.ntmps234
       go_wp2_with (first | ((with_reducible refine gate_callee (f := 264) rfl ?_); refine goesL_ (some 13) rfl rfl Tryz.func264 (by kernel_rfl) rfl #[.string a0, .string (⟨#[47]⟩ : ByteArray)] rfl (by (try simp only [List.map_toArray, List.map_cons, List.map_nil]); first | done | rfl | (simp only [List.length_drop, List.length_take]; rfl)) ?_; (with_reducible refine (strings_HasPrefix.calls a0 (⟨#[47]⟩ : ByteArray) false _ A4.out).mono ?_); rintro e w' ⟨rfl, ⟨nd, rfl⟩⟩; refine ⟨_, rfl, ?_⟩))
       go_ret2
       exact ⟨_, by first | rfl | (simp [errW_none, errW_some] <;> rfl) | (simp [*, errW_none, errW_some] <;> rfl), by first | exact Kd.R_nil _ _ _ _ _ | exact Kd.N_nil _ _ _ _ _ | exact Kd.V_nil _ _ _ _ _ | exact Kd.Q_nil _ _ _ _ _ | exact Kd.S_nil _ _ _ _ _, by repeat (first | (with_reducible first | exact HB.out | apply below_alloc | apply pw_below_drewN | apply below_drew1) | exact HB.out)⟩
def note_placed.f (k : Nat) (a0 : ByteArray) : Option (Bool) := (place_Parse.f k a0).bind fun bt107 => (some (bt107.2 == 0))
theorem note_placed.mono : ∀ a0 k, LeO (note_placed.f k a0) (note_placed.f (k + 1) a0) := by
 intro a0 k
 unfold note_placed.f
 repeat' first
  | (with_reducible exact place_Parse.mono _ _)
  | (with_reducible exact LeO.refl _)
  | (with_reducible exact LeO.none _)
  | (with_reducible refine LeO.ite ?_ ?_)
  | (with_reducible refine LeO.bind ?_ (fun _ => ?_))
  | exact place_Parse.mono _ _
  | exact LeO.none _
  | refine LeO.ite ?_ ?_
  | refine LeO.bind ?_ (fun _ => ?_)
set_option maxHeartbeats 8000000 in
set_option maxRecDepth 100000 in
theorem note_placed.calls (k : Nat) (a0 : ByteArray) (r : Bool) (w : World) (h : note_placed.f k a0 = some r) (HE : Env w) :
  Calls Tryz.prog 175 #[.string a0] w fun e w' => e = .returned (.bool r) ∧ Below w.heap.size w w' := by
 have HB := Aside0.mk (Below.refl w.heap.size w)
 have H : ((place_Parse.f k a0).bind fun bt107 => (some (bt107.2 == 0))) = some r := h
 clear h
 replace H := Option.bind_eq_some_iff.mp H
 obtain ⟨⟨t107, t108⟩, A20, H⟩ := H
 replace H : (some (t108 == 0)) = some r := H
 have A2 := Aside0.mk A20
 clear A20
 obtain rfl := Option.some.inj H
 go_enter Tryz.func175, Tryz.ntmps175
 go_wp2_with (first | ((with_reducible refine gate_callee (f := 234) rfl ?_); refine goesL_ (some 7) rfl rfl Tryz.func234 (by kernel_rfl) rfl #[.string a0] rfl (by (try simp only [List.map_toArray, List.map_cons, List.map_nil]); first | done | rfl | (simp only [List.length_drop, List.length_take]; rfl)) ?_; (with_reducible refine (place_Parse.calls k a0 t107 t108 _ A2.out (HE.at_ (by repeat (first | (with_reducible first | exact HB.out | apply below_alloc | apply pw_below_drewN | apply below_drew1) | exact HB.out)))).mono ?_); rintro e w3 ⟨v109, rfl, ho0, hb⟩; refine ⟨_, rfl, ?_⟩; have n0_ := Aside0.mk (Kd.R_lower ho0 (below_size (by repeat (first | (with_reducible first | exact HB.out | apply below_alloc | apply pw_below_drewN | apply below_drew1) | exact HB.out)))); have n1_ := Aside0.mk (below_step (by repeat (first | (with_reducible first | exact HB.out | apply below_alloc | apply pw_below_drewN | apply below_drew1) | exact HB.out)) hb); clear HB; have HO110 := n0_; have HB := n1_; clear n0_ n1_; (try clear hb); (try clear hb2); (try clear hk); (try clear hi); (try clear ho0)))
 go_ret
 exact ⟨by first | rfl | (simp [errW_none, errW_some] <;> rfl) | (simp [*, errW_none, errW_some] <;> rfl), by repeat (first | (with_reducible first | exact HB.out | apply below_alloc | apply pw_below_drewN | apply below_drew1) | exact HB.out)⟩
def note_placed.Pure : Prop := ∀ (a0 : ByteArray), a0.size ≤ 140737488351232 → ∃ k, note_placed.f k a0 = some true
theorem note_placed.walk (P : note_placed.Pure) (a0 : ByteArray) (w : World) (w0 : a0.size ≤ 140737488351232) (HE : Env w) :
  Calls Tryz.prog 175 #[.string a0] w fun e w' => e = .returned (.bool true) ∧ Below w.heap.size w w' := by
 obtain ⟨k, h⟩ := P a0 w0
 refine (note_placed.calls k a0 true w h HE).mono ?_
 rintro e w' ⟨rfl, hd⟩
 exact ⟨rfl, hd⟩
def note_kid.f (k : Nat) (a0 : ByteArray) : Option (Bool) := if 1 + a0.size ≤ 9223372036854775807 then ((place_Parse.f k ((⟨#[47]⟩ : ByteArray) ++ a0)).bind fun bt111 => (if bt111.2 = 0 then (some ((bt111.1.length : Int) == 1)) else (some false))) else (none)
theorem note_kid.mono : ∀ a0 k, LeO (note_kid.f k a0) (note_kid.f (k + 1) a0) := by
 intro a0 k
 unfold note_kid.f
 repeat' first
  | (with_reducible exact place_Parse.mono _ _)
  | (with_reducible exact LeO.refl _)
  | (with_reducible exact LeO.none _)
  | (with_reducible refine LeO.ite ?_ ?_)
  | (with_reducible refine LeO.bind ?_ (fun _ => ?_))
  | exact place_Parse.mono _ _
  | exact LeO.none _
  | refine LeO.ite ?_ ?_
  | refine LeO.bind ?_ (fun _ => ?_)
set_option maxHeartbeats 8000000 in
set_option maxRecDepth 100000 in
theorem note_kid.calls (k : Nat) (a0 : ByteArray) (r : Bool) (w : World) (h : note_kid.f k a0 = some r) (HE : Env w) :
   Calls Tryz.prog 274 #[.string a0] w fun e w' => e = .returned (.bool r) ∧ Below w.heap.size w w' := by
 have HB := Aside0.mk (Below.refl w.heap.size w)
 have H : (if 1 + a0.size ≤ 9223372036854775807 then ((place_Parse.f k ((⟨#[47]⟩ : ByteArray) ++ a0)).bind fun bt111 => (if bt111.2 = 0 then (some ((bt111.1.length : Int) == 1)) else (some false))) else (none)) = some r := h
 clear h
 by_cases c2 : 1 + a0.size ≤ 9223372036854775807
 · rw [if_pos c2] at H
   have c2b0 := eq_true c2
   have c2b1 : decide (1 + a0.size ≤ 9223372036854775807) = true := decide_eq_true c2
   try have c2b2 : (9223372036854775807 < 1 + a0.size) = False := eq_false (Nat.not_lt.2 c2)
   replace H := Option.bind_eq_some_iff.mp H
   obtain ⟨⟨t111, t112⟩, A30, H⟩ := H
   replace H : (if t112 = 0 then (some ((t111.length : Int) == 1)) else (some false)) = some r := H
   have A3 := Aside0.mk A30
   clear A30
   by_cases c4 : t112 = 0
   · rw [if_pos c4] at H
     have c4b0 : (t112 == 0) = true := beq_iff_eq.mpr c4
     have c4b1 : (t112 != 0) = false := bne_eq_false_iff_eq.mpr c4
     clear c4
     obtain rfl := Option.some.inj H
     go_enter Tryz.func274, Tryz.ntmps274
     go_wp2_with (first | ((with_reducible refine gate_callee (f := 234) rfl ?_); refine goesL_ (some 8) rfl rfl Tryz.func234 (by kernel_rfl) rfl #[.string ((⟨#[47]⟩ : ByteArray) ++ a0)] rfl (by (try simp only [List.map_toArray, List.map_cons, List.map_nil]); first | done | rfl | (simp only [List.length_drop, List.length_take]; rfl)) ?_; (with_reducible refine (place_Parse.calls k ((⟨#[47]⟩ : ByteArray) ++ a0) t111 t112 _ A3.out (HE.at_ (by repeat (first | (with_reducible first | exact HB.out | apply below_alloc | apply pw_below_drewN | apply below_drew1) | exact HB.out)))).mono ?_); rintro e w5 ⟨v113, rfl, ho0, hb⟩; refine ⟨_, rfl, ?_⟩; have n0_ := Aside0.mk (Kd.R_lower ho0 (below_size (by repeat (first | (with_reducible first | exact HB.out | apply below_alloc | apply pw_below_drewN | apply below_drew1) | exact HB.out)))); have n1_ := Aside0.mk (below_step (by repeat (first | (with_reducible first | exact HB.out | apply below_alloc | apply pw_below_drewN | apply below_drew1) | exact HB.out)) hb); clear HB; have HO114 := n0_; have HB := n1_; clear n0_ n1_; (try clear hb); (try clear hb2); (try clear hk); (try clear hi); (try clear ho0); obtain ⟨Ao6, co6, eo6⟩ := Kd.R_slice HO114.out; subst eo6))
     go_ret
     exact ⟨by first | rfl | (simp [errW_none, errW_some] <;> rfl) | (simp [*, errW_none, errW_some] <;> rfl), by repeat (first | (with_reducible first | exact HB.out | apply below_alloc | apply pw_below_drewN | apply below_drew1) | exact HB.out)⟩
   · rw [if_neg c4] at H
     have c4b0 : (t112 == 0) = false := beq_eq_false_iff_ne.mpr c4
     have c4b1 : (t112 != 0) = true := bne_iff_ne.mpr c4
     obtain rfl := Option.some.inj H
     go_enter Tryz.func274, Tryz.ntmps274
     go_wp2_with (first | ((with_reducible refine gate_callee (f := 234) rfl ?_); refine goesL_ (some 8) rfl rfl Tryz.func234 (by kernel_rfl) rfl #[.string ((⟨#[47]⟩ : ByteArray) ++ a0)] rfl (by (try simp only [List.map_toArray, List.map_cons, List.map_nil]); first | done | rfl | (simp only [List.length_drop, List.length_take]; rfl)) ?_; (with_reducible refine (place_Parse.calls k ((⟨#[47]⟩ : ByteArray) ++ a0) t111 t112 _ A3.out (HE.at_ (by repeat (first | (with_reducible first | exact HB.out | apply below_alloc | apply pw_below_drewN | apply below_drew1) | exact HB.out)))).mono ?_); rintro e w7 ⟨v113, rfl, ho0, hb⟩; refine ⟨_, rfl, ?_⟩; have n0_ := Aside0.mk (Kd.R_lower ho0 (below_size (by repeat (first | (with_reducible first | exact HB.out | apply below_alloc | apply pw_below_drewN | apply below_drew1) | exact HB.out)))); have n1_ := Aside0.mk (below_step (by repeat (first | (with_reducible first | exact HB.out | apply below_alloc | apply pw_below_drewN | apply below_drew1) | exact HB.out)) hb); clear HB; have HO114 := n0_; have HB := n1_; clear n0_ n1_; (try clear hb); (try clear hb2); (try clear hk); (try clear hi); (try clear ho0)))
     go_ret
     exact ⟨by first | rfl | (simp [errW_none, errW_some] <;> rfl) | (simp [*, errW_none, errW_some] <;> rfl), by repeat (first | (with_reducible first | exact HB.out | apply below_alloc | apply pw_below_drewN | apply below_drew1) | exact HB.out)⟩
 · rw [if_neg c2] at H
   exact absurd H (by simp)
def note_kid.Pure : Prop := ∀ (a0 : ByteArray), a0.size ≤ 140737488351232 → ∃ k, note_kid.f k a0 = some true
theorem note_kid.walk (P : note_kid.Pure) (a0 : ByteArray) (w : World) (w0 : a0.size ≤ 140737488351232) (HE : Env w) :
  Calls Tryz.prog 274 #[.string a0] w fun e w' => e = .returned (.bool true) ∧ Below w.heap.size w w' := by
 obtain ⟨k, h⟩ := P a0 w0
 refine (note_kid.calls k a0 true w h HE).mono ?_
 rintro e w' ⟨rfl, hd⟩
 exact ⟨rfl, hd⟩
end Go.Proofs.YtmneemhplffemaaGreatDoorRR.PPa
namespace Go.Proofs.YtmneemhplffemaaGreatDoorRR.Pl
open Go.RowKit Go.Proofs.YtmneemhplffemaaGreatDoorRR.Ord Go.Proofs.YtmneemhplffemaaGreatDoorRR.Name
def pcs : List UInt8 → List (List UInt8)
 | [] => [[]]
 | c :: r => if c = 47 then [] :: pcs r else match pcs r with
   | [] => [[c]]
   | p :: ps => (c :: p) :: ps
def bs (l : List UInt8) : ByteArray := ⟨l.toArray⟩
theorem tx_bs (l : List UInt8) : tx (bs l) = l := by simp [tx, bs]
theorem bs_tx (s : ByteArray) : bs (tx s) = s := by cases s; simp [tx, bs]
theorem pcs_ne (t : List UInt8) : pcs t ≠ [] := by
 cases t with
 | nil => simp [pcs]
 | cons c r =>
   unfold pcs
   split
   · simp
   · split <;> simp
theorem pcs_one (p : List UInt8) (hp : 47 ∉ p) : pcs p = [p] := by
 induction p with
 | nil => rfl
 | cons c p ih =>
   have hc : c ≠ 47 := fun e => hp (by simp [e])
   rw [pcs, if_neg hc, ih (fun h => hp (List.mem_cons_of_mem _ h))]
def parseL (t : List UInt8) : List (List UInt8) × Int :=
 if t.length > 102 then ([], 2) else if t = [47] then ([], 0) else if t.head? = some 47 then
  (if (pcs t.tail).length > 6 then ([], 10) else if (pcs t.tail).all okN = true then (pcs t.tail, 0) else ([], 10)) else ([], 10)
def Good (l : List (List UInt8)) : Prop := l.length ≤ 6 ∧ l.all okN = true
theorem Good.ok {l : List (List UInt8)} (h : Good l) {p : List UInt8} (hp : p ∈ l) : okN p = true := List.all_eq_true.1 h.2 p hp
def mark (m : Int) : List UInt8 := 47 :: (if m = 1 then [47] else if m = 2 then [46, 47] else if m = 3 then [103, 111, 110, 101, 47, 46, 46, 47] else if m = 4 then [103, 47, 46, 47, 47, 104, 47, 46, 46, 47, 46, 47, 46, 46, 47] else [])
end Go.Proofs.YtmneemhplffemaaGreatDoorRR.Pl
namespace Go.Proofs.YtmneemhplffemaaGreatDoorRR.Pl
open Go.RowKit Go.Proofs.YtmneemhplffemaaGreatDoorRR.Ord Go.Proofs.YtmneemhplffemaaGreatDoorRR.Name Go.Proofs.YtmneemhplffemaaGreatDoorRR.Ext
theorem splitK_pcs : ∀ l : List UInt8, Lib.splitK [47] 0 (Lib.count l [47]) l = pcs l
 | [] => by rw [Lib.count_one]; rfl
 | b :: l => by
   have ih := splitK_pcs l
   by_cases hb : b = 47
   · subst hb
     have hix : Lib.index (47 :: l) [47] = 0 := by rw [Lib.index]; simp [List.isPrefixOf]
     rw [Lib.count_cons_eq, Nat.add_comm, Lib.splitK, hix, pcs, if_pos rfl]
     simp [ih]
   · rw [Lib.count_cons_ne b 47 l hb, pcs, if_neg hb]
     have hp : ([47] : List UInt8).isPrefixOf (b :: l) = false := by simp [List.isPrefixOf, Ne.symm hb]
     have hix : Lib.index (b :: l) [47] = if Lib.index l [47] == -1 then -1 else Lib.index l [47] + 1 := by rw [Lib.index, hp]; simp
     cases hc : Lib.count l [47] with
     | zero =>
       rw [hc] at ih
       rw [← ih]
       rfl
     | succ k =>
       rw [hc] at ih
       have hne : Lib.index l [47] ≠ -1 := by intro e; rw [Lib.count_miss e] at hc; omega
       have hge := Lib.index_ge l [47]
       have hm : ¬ ((Lib.index l [47] == -1) = true) := fun e => hne (beq_iff_eq.1 e)
       rw [Lib.splitK, if_neg hm] at ih
       rw [Lib.splitK, hix, if_neg hm, if_neg (by rw [beq_iff_eq]; omega), ← ih]
       have e1 : (Lib.index l [47] + 1).toNat = (Lib.index l [47]).toNat + 1 := by omega
       rw [e1]
       simp [List.take_succ_cons]
theorem split_slash (s : ByteArray) (h : s.size < 4294967281) : strings_Split.f s (⟨#[47]⟩ : ByteArray) = some ((pcs (tx s)).map bs) := by
 unfold strings_Split.f
 rw [if_pos h, if_pos (by decide)]
 congr 1
 have := Lib.splitB_data (⟨#[47]⟩ : ByteArray) 0 (Lib.countB s ⟨#[47]⟩) s
 have e : (Lib.splitB (⟨#[47]⟩ : ByteArray) 0 (Lib.countB s ⟨#[47]⟩) s).map (·.data.toList) = pcs (tx s) := by rw [this]; exact splitK_pcs _
 rw [← e, List.map_map]
 conv => lhs; rw [← List.map_id (Lib.splitB _ _ _ _)]
 exact List.map_congr_left fun x _ => (bs_tx x).symm
end Go.Proofs.YtmneemhplffemaaGreatDoorRR.Pl
namespace Go.Proofs.YtmneemhplffemaaGreatDoorRR.Pl
open Go.RowKit Go.Proofs.YtmneemhplffemaaGreatDoorRR.Ord Go.Proofs.YtmneemhplffemaaGreatDoorRR.Name Go.Proofs.YtmneemhplffemaaGreatDoorRR.Ext Go.Proofs.YtmneemhplffemaaGreatDoorRR.PPa Go.Proofs.YtmneemhplffemaaGreatDoorRRW.PrintWords
theorem toList_tx (s : ByteArray) : s.toList = tx s := ByteArray.toList_eq s
theorem rdOf_map (l : List (List UInt8)) (i : Nat) (h : i < l.length) : rdOf ByteArray.empty (l.map bs) (i : Int) = bs (l[i]'h) := by
 unfold rdOf
 rw [Int.toNat_natCast, List.getD_eq_getElem?_getD, List.getElem?_map, List.getElem?_eq_getElem h]
 rfl
theorem isName_bs (p : List UInt8) : place_isName.f (bs p) = some (okN p) := by unfold place_isName.f; rw [tx_bs]
theorem all_drop {l : List (List UInt8)} {i : Nat} (h : i < l.length) : (l.drop i).all okN = (okN (l[i]'h) && (l.drop (i + 1)).all okN) := by
 rw [List.drop_eq_getElem_cons h, List.all_cons]
theorem wrap_next {i n : Nat} (h : i < n) (hn : n ≤ 9223372036854775807) : wrap64 ((i : Int) + 1) = ((i + 1 : Nat) : Int) := by
 unfold wrap64
 omega
theorem parse_loop (l : List (List UInt8)) (hl : l.length ≤ 6) (d : Nat) : ∀ (k i : Nat), i ≤ l.length → l.length - i = d → d < k →
   place_Parse.l0 k (l.map bs) (l.map bs) (l.length : Int) (i : Int) = some (if (l.drop i).all okN = true then (l.map bs, 0) else ([], 10)) := by
 induction d with
 | zero =>
   intro k i hi hd hk
   obtain ⟨k, rfl⟩ : ∃ m, k = m + 1 := ⟨k - 1, by omega⟩
   simp only [place_Parse.l0]
   rw [if_neg (by omega), List.drop_eq_nil_of_le (by omega)]
   rfl
 | succ d ih =>
   intro k i hi hd hk
   obtain ⟨k, rfl⟩ : ∃ m, k = m + 1 := ⟨k - 1, by omega⟩
   have hlt : i < l.length := by omega
   simp only [place_Parse.l0]
   rw [if_pos (by omega), if_pos (by omega), if_pos (by rw [List.length_map]; omega), rdOf_map l i hlt, isName_bs]
   simp only [Option.bind_some]
   rw [all_drop hlt]
   by_cases c : okN (l[i]'hlt) = true
   · rw [if_pos c, wrap_next hlt (by omega), ih k (i + 1) (by omega) (by omega) (by omega), c, Bool.true_and]
   · rw [if_neg c, Bool.eq_false_iff.2 c]
     rfl
def parseB (s : ByteArray) : List ByteArray × Int := ((parseL (tx s)).1.map bs, (parseL (tx s)).2)
theorem prefix_slash (s : ByteArray) : Lib.hasPrefix s.data.toList [47] = decide ((tx s).head? = some 47) := by
 show Lib.hasPrefix (tx s) [47] = _
 cases tx s with
 | nil => rfl
 | cons c r =>
   by_cases h : c = 47
   · subst h; simp [Lib.hasPrefix, List.isPrefixOf]
   · simp [Lib.hasPrefix, List.isPrefixOf, h, Ne.symm h]
theorem parseL_long {t : List UInt8} (h : t.length > 102) : parseL t = ([], 2) := if_pos h
theorem parseL_root {t : List UInt8} (h2 : t = [47]) : parseL t = ([], 0) := by subst h2; rfl
theorem parseL_other {t : List UInt8} (h1 : ¬ t.length > 102) (h2 : ¬ t = [47]) (h3 : ¬ t.head? = some 47) : parseL t = ([], 10) := by
 unfold parseL
 rw [if_neg h1, if_neg h2, if_neg h3]
theorem parseL_names {t : List UInt8} (h1 : ¬ t.length > 102) (h2 : ¬ t = [47]) (h3 : t.head? = some 47) :
  parseL t = if (pcs t.tail).length > 6 then ([], 10) else if (pcs t.tail).all okN = true then (pcs t.tail, 0) else ([], 10) := by
 unfold parseL
 rw [if_neg h1, if_neg h2, if_pos h3]
theorem parse_tells (s : ByteArray) (k : Nat) (hk : 7 < k) : place_Parse.f k s = some (parseB s) := by
 unfold place_Parse.f parseB
 rw [toList_tx]
 have hs := tx_length s
 by_cases h1 : (tx s).length > 102
 · rw [parseL_long h1, if_pos (by omega)]; rfl
 · rw [if_neg (show ¬ ((s.size : Int) > 102) by omega)]
   by_cases h2 : tx s = [47]
   · rw [if_pos h2, parseL_root h2]; rfl
   · rw [if_neg h2]
     unfold strings_HasPrefix.f
     rw [show ((⟨#[47]⟩ : ByteArray).data.toList) = [47] from rfl, prefix_slash]
     simp only [Option.bind_some]
     by_cases h3 : (tx s).head? = some 47
     · have hpos : 1 ≤ s.size := by
         rw [← hs]
         cases hh : tx s with
         | nil => rw [hh] at h3; simp at h3
         | cons c r => simp
       have he : tx (s.extract 1 s.size) = (tx s).tail := by
         show (s.extract 1 s.size).data.toList = _
         rw [Lib.extract_to_end]
         show (tx s).drop 1 = _
         rw [List.drop_one]
       have hsz : (s.extract 1 s.size).size < 4294967281 := by rw [ByteArray.size_extract]; omega
       rw [decide_eq_true h3, if_pos rfl, if_pos (show 1 ≤ (s.size : Int) by omega), split_slash _ hsz, he, parseL_names h1 h2 h3]
       simp only [Option.bind_some, List.length_map]
       generalize pcs (tx s).tail = l
       by_cases h4 : l.length > 6
       · rw [if_pos (show (l.length : Int) > 6 by omega), if_pos h4]; rfl
       · rw [if_neg (show ¬ (l.length : Int) > 6 by omega), if_neg h4]
         have := parse_loop l (by omega) _ k 0 (Nat.zero_le _) rfl (by omega)
         rw [show ((0 : Nat) : Int) = 0 from rfl, List.drop_zero] at this
         rw [this]
         by_cases h5 : l.all okN = true
         · rw [if_pos h5, if_pos h5]
         · rw [if_neg h5, if_neg h5]; rfl
     · rw [decide_eq_false h3, parseL_other h1 h2 h3]
       rfl
end Go.Proofs.YtmneemhplffemaaGreatDoorRR.Pl
namespace Go.Proofs.YtmneemhplffemaaGreatDoorRR.Chk
open Go.RowKit Go.Proofs.YtmneemhplffemaaGreatDoorRR.Ord Go.Proofs.YtmneemhplffemaaGreatDoorRR.Name Go.Proofs.YtmneemhplffemaaGreatDoorRR.Pl Go.Proofs.YtmneemhplffemaaGreatDoorRR.Ext Go.Proofs.YtmneemhplffemaaGreatDoorRR.Mem Go.Proofs.YtmneemhplffemaaGreatDoorRRW.PrintWords
def rIs (s : ByteArray) : Bool := (parseL (tx s)).2 == 0
theorem bt (b : Bool) {p : Prop} (h1 : b = true → p) (h0 : b = false → p) : p := by cases b; exact h0 rfl; exact h1 rfl
theorem dq {p q : Prop} [Decidable p] [Decidable q] (h : p ↔ q) {b : Bool} (k : decide q = b) : decide p = b := (decide_eq_decide.2 h).trans k
theorem zq {a b : Int} {c d : Nat} (h : a = b ↔ c = d) {v : Bool} (k : (c == d) = v) : (a == b) = v := by rw [← k, Bool.eq_iff_iff]; simpa using h
theorem yq {a b : Int} {c d : Nat} (h : a = b ↔ c = d) {v : Bool} (k : (c == d) = v) : (a != b) = !v := congrArg not (zq h k)
theorem all_stop {α : Type} {p : α → Bool} {xs : List α} {k : Nat} {x : α} (hx : xs[k]? = some x) (h : p x = false) : xs.all p = false := by
 rw [List.all_eq_false]
 exact ⟨x, List.mem_of_getElem? hx, by rw [h]; simp⟩
theorem all_step {α : Type} {p : α → Bool} {xs : List α} {k : Nat} {x : α} (hx : xs[k]? = some x) (h : (xs.take k).all p = true) (hp : p x = true) : (xs.take (k + 1)).all p = true := by
 rw [List.take_add_one, hx, List.all_append, h]
 simp [hp]
theorem all_done {α : Type} {p : α → Bool} {xs : List α} {k : Nat} (h : (xs.take k).all p = true) (hk : xs.length ≤ k) : xs.all p = true := by
 rwa [List.take_of_length_le hk] at h
theorem blk_alloc2 (W : World) (o o' : Obj) : ((W.alloc o).alloc o').heap[W.heap.size + 1]? = some o' := by
 have h := blk_alloc (W := W.alloc o) o'
 rwa [show (W.alloc o).heap.size = W.heap.size + 1 by simp] at h
theorem idx_stop {α : Type} {p : List α → Nat → Bool} {xs : List α} {k : Nat} (hk : k < xs.length) (h : p xs k = false) : (List.range xs.length).all (p xs) = false := by
 rw [List.all_eq_false]
 exact ⟨k, List.mem_range.2 hk, by rw [h]; simp⟩
theorem idx_step {α : Type} {p : List α → Nat → Bool} {xs : List α} {k : Nat} (h : ∀ i, i < k → p xs i = true) (hp : p xs k = true) : ∀ i, i < k + 1 → p xs i = true := by
 intro i hi
 rcases Nat.lt_or_ge i k with hlt | hge
 · exact h i hlt
 · rwa [show i = k by omega]
theorem idx_done {α : Type} {p : List α → Nat → Bool} {xs : List α} {k : Nat} (h : ∀ i, i < k → p xs i = true) (hk : xs.length ≤ k) : (List.range xs.length).all (p xs) = true := by
 rw [List.all_eq_true]
 intro i hi
 exact h i (Nat.lt_of_lt_of_le (List.mem_range.1 hi) hk)
end Go.Proofs.YtmneemhplffemaaGreatDoorRR.Chk
namespace Go.Proofs.YtmneemhplffemaaGreatDoorRR.Eqs
open Go.RowKit Go.Proofs.YtmneemhplffemaaGreatDoorRRW.PrintWords
theorem eqView (d : Nat) (w : World) (x0 y0 : Int) (x1 y1 : Int) (x2 y2 : Int) :
  (Op.equalIn (d + 2) 23 (.agg #[.int .i64 x0, .int .i64 x1, .int .i64 x2]) (.agg #[.int .i64 y0, .int .i64 y1, .int .i64 y2])).run Tryz.prog w = .ok (x0 == y0 && (x1 == y1 && (x2 == y2))) w := by
 refine eqA_of Tryz.underlying23 (by kernel_rfl) ?_
 refine eqf_cons (by rfl) (by go_simp; rfl) (by go_simp; rfl) (by go_simp) ?_
 refine eqf_cons (by rfl) (by go_simp; rfl) (by go_simp; rfl) (by go_simp) ?_
 exact eqf_last (by rfl) (by go_simp; rfl) (by go_simp; rfl) (by go_simp)
theorem eqOp (d : Nat) (w : World) (x0 y0 : Int) (x1 y1 : ByteArray) (x2 y2 : ByteArray) (x3 y3 : Int) (x4 y4 : Int) :
  (Op.equalIn (d + 2) 78 (.agg #[.int .i64 x0, .string x1, .string x2, .int .i64 x3, .int .i64 x4]) (.agg #[.int .i64 y0, .string y1, .string y2, .int .i64 y3, .int .i64 y4])).run Tryz.prog w = .ok (x0 == y0 && (x1.toList == y1.toList && (x2.toList == y2.toList && (x3 == y3 && (x4 == y4))))) w := by
 refine eqA_of Tryz.underlying78 (by kernel_rfl) ?_
 refine eqf_cons (by rfl) (by go_simp; rfl) (by go_simp; rfl) (by go_simp) ?_
 refine eqf_cons (by rfl) (by go_simp; rfl) (by go_simp; rfl) (by go_simp) ?_
 refine eqf_cons (by rfl) (by go_simp; rfl) (by go_simp; rfl) (by go_simp) ?_
 refine eqf_cons (by rfl) (by go_simp; rfl) (by go_simp; rfl) (by go_simp) ?_
 exact eqf_last (by rfl) (by go_simp; rfl) (by go_simp; rfl) (by go_simp)
theorem eqWatch (d : Nat) (w : World) (x0 y0 : Int) (x1 y1 : ByteArray) (x2 y2 : Int) (x3 y3 : Int) :
  (Op.equalIn (d + 2) 96 (.agg #[.int .i64 x0, .string x1, .int .i64 x2, .int .i64 x3]) (.agg #[.int .i64 y0, .string y1, .int .i64 y2, .int .i64 y3])).run Tryz.prog w = .ok (x0 == y0 && (x1.toList == y1.toList && (x2 == y2 && (x3 == y3)))) w := by
 refine eqA_of Tryz.underlying96 (by kernel_rfl) ?_
 refine eqf_cons (by rfl) (by go_simp; rfl) (by go_simp; rfl) (by go_simp) ?_
 refine eqf_cons (by rfl) (by go_simp; rfl) (by go_simp; rfl) (by go_simp) ?_
 refine eqf_cons (by rfl) (by go_simp; rfl) (by go_simp; rfl) (by go_simp) ?_
 exact eqf_last (by rfl) (by go_simp; rfl) (by go_simp; rfl) (by go_simp)
end Go.Proofs.YtmneemhplffemaaGreatDoorRR.Eqs
namespace Go.Proofs.YtmneemhplffemaaGreatDoorRR.Ext
open Go.RowKit Go.Proofs.YtmneemhplffemaaGreatDoorRRW.PrintWords
def okNum (v : Int) : Bool := decide (0 ≤ v) && decide (v ≤ 2147483647)
theorem one_any (v : Int) (w : World) : Calls Tryz.prog 152 #[.int .i64 v] w fun e w' => e = .returned (.bool (!okNum v)) ∧ w = w' := by
 by_cases h1 : v < 0
 · go_enter Tryz.func152, Tryz.ntmps152
   go_wp2
   go_ret
   exact ⟨by simp [okNum, Int.not_le.2 h1], rfl⟩
 · by_cases h2 : 2147483647 < v
   · go_enter Tryz.func152, Tryz.ntmps152
     go_wp2
     go_ret
     exact ⟨by simp [okNum, Int.not_le.2 h2], rfl⟩
   · go_enter Tryz.func152, Tryz.ntmps152
     go_wp2
     go_ret
     exact ⟨by simp [okNum]; omega, rfl⟩
def idxOf {α : Type} (p : α → Bool) (xs : List α) : Int := if xs.any p = true then (xs.findIdx p : Int) else -1
theorem idx_none {α : Type} {p : α → Bool} {xs : List α} {k : Nat} (h : ∀ j x, j < k → xs[j]? = some x → p x = false) (hk : xs.length ≤ k) : idxOf p xs = -1 := by
 unfold idxOf
 rw [if_neg]
 intro ha
 obtain ⟨x, hx, hp⟩ := List.any_eq_true.1 ha
 obtain ⟨j, hj⟩ := List.getElem?_of_mem hx
 obtain ⟨hl, _⟩ := List.getElem?_eq_some_iff.1 hj
 rw [h j x (by omega) hj] at hp
 cases hp
theorem idx_some {α : Type} {p : α → Bool} {xs : List α} {k : Nat} {x : α} (h : ∀ j x, j < k → xs[j]? = some x → p x = false) (hx : xs[k]? = some x) (hp : p x = true) : idxOf p xs = k := by
 unfold idxOf
 obtain ⟨hl, he⟩ := List.getElem?_eq_some_iff.1 hx
 rw [if_pos (List.any_eq_true.2 ⟨x, List.mem_of_getElem? hx, hp⟩)]
 congr 1
 rw [List.findIdx_eq hl]
 refine ⟨by rw [he]; exact hp, fun j hj => h j _ hj (List.getElem?_eq_getElem (by omega))⟩
theorem idx_step {α : Type} {p : α → Bool} {xs : List α} {k : Nat} {x : α} (h : ∀ j x, j < k → xs[j]? = some x → p x = false) (hx : xs[k]? = some x) (hp : p x = false) : ∀ j x, j < k + 1 → xs[j]? = some x → p x = false := by
 intro j y hj hy
 rcases Nat.lt_or_ge j k with h1 | h1
 · exact h j y h1 hy
 · obtain rfl : j = k := by omega
   obtain rfl : x = y := Option.some.inj (hx.symm.trans hy)
   exact hp
theorem idx_any {α : Type} (p : α → Bool) (xs : List α) : decide (0 ≤ idxOf p xs) = xs.any p := by
 unfold idxOf
 by_cases h : xs.any p = true
 · rw [if_pos h, h]
   simp
 · rw [if_neg h]
   simp only [Bool.not_eq_true] at h
   rw [h]
   rfl
set_option maxRecDepth 100000 in
set_option maxHeartbeats 1000000 in
theorem indexFunc_int (p : Int → Bool) (K : FuncId) (hK : ∀ (args : Array Value) (w : World), (callFunc K args).run Tryz.prog w = .ok (.enter K args) w) (hp : ∀ (v : Int) (w : World), Calls Tryz.prog K #[.int .i64 v] w fun e w' => e = .returned (.bool (p v)) ∧ w = w') (A : Option Addr) (c : Nat) (xs : List Int) (w : World) (hr : (Kd.int .i64).C w A xs.length xs) (hc : xs.length ≤ c) :
  Calls Tryz.prog 221 #[.slice A xs.length c, .func (.func K) #[] #[]] w fun e w' => e = .returned (.int .i64 (idxOf p xs)) ∧ w = w' := by
 have HR := Aside0.mk hr
 have HP := Aside0.mk hp
 have hm : xs.length ≤ 9223372036854775807 := hr.2.1
 clear hr hp
 go_enter Tryz.func221, Tryz.ntmps221
 go_wp2_with fail
 go_loop [8] (fun v8 => ∃ k : Nat, v8 = .int .i64 k ∧ k ≤ xs.length ∧ Aside0 (∀ j x, j < k → xs[j]? = some x → p x = false)) (fun v8 => xs.length - (intOf v8).toNat)
 case atStart => exact ⟨0, rfl, Nat.zero_le _, ⟨fun j x hj => by omega⟩⟩
 case round =>
  obtain ⟨k, rfl, hk, HB⟩ := hrel
  by_cases hlt : k < xs.length
  · obtain ⟨ad, rfl, hx⟩ := Kd.at_int HR.out (k : Int) (by omega) (by omega)
    rw [Int.toNat_natCast] at hx
    obtain ⟨x, hxe⟩ : ∃ x, x = rd xs (k : Int) := ⟨_, rfl⟩
    rw [← hxe] at hx
    have HX := Aside0.mk (show xs[k]? = some x by rw [hxe]; unfold rd; rw [Int.toNat_natCast, List.getD_eq_getElem?_getD, List.getElem?_eq_getElem hlt]; rfl)
    clear hxe
    by_cases hpx : p x = true
    · have HPX := Aside0.mk hpx
      have HQ := Aside0.mk (show ∀ w : World, Calls Tryz.prog K #[.int .i64 x] w fun e w' => e = .returned (.bool true) ∧ w = w' from fun w => hpx ▸ HP.out x w)
      clear hpx
      go_wp2_with ((with_reducible refine (HQ.out _).mono ?_); rintro e w1 ⟨rfl, rfl⟩)
      go_ret
      exact ⟨by rw [idx_some HB.out HX.out HPX.out]; rfl, rfl⟩
    · have HPX := Aside0.mk (Bool.not_eq_true _ ▸ hpx)
      have HQ := Aside0.mk (show ∀ w : World, Calls Tryz.prog K #[.int .i64 x] w fun e w' => e = .returned (.bool false) ∧ w = w' from fun w => HPX.out ▸ HP.out x w)
      clear hpx
      go_wp2_with ((with_reducible refine (HQ.out _).mono ?_); rintro e w1 ⟨rfl, rfl⟩)
      go_round
      case rel => exact ⟨k + 1, by go_num, by omega, ⟨idx_step HB.out HX.out HPX.out⟩⟩
      case measure => simp [intOf]; omega
  · go_wp2_with fail
    go_ret
    exact ⟨by rw [idx_none HB.out (by omega)]; rfl, rfl⟩
theorem containsFunc_int (p : Int → Bool) (K : FuncId) (hK : ∀ (args : Array Value) (w : World), (callFunc K args).run Tryz.prog w = .ok (.enter K args) w) (hp : ∀ (v : Int) (w : World), Calls Tryz.prog K #[.int .i64 v] w fun e w' => e = .returned (.bool (p v)) ∧ w = w') (A : Option Addr) (c : Nat) (xs : List Int) (w : World) (hr : (Kd.int .i64).C w A xs.length xs) (hc : xs.length ≤ c) :
  Calls Tryz.prog 151 #[.slice A xs.length c, .func (.func K) #[] #[]] w fun e w' => e = .returned (.bool (xs.any p)) ∧ w = w' := by
 rw [← idx_any p xs]
 obtain ⟨r, hr'⟩ : ∃ r, r = idxOf p xs := ⟨_, rfl⟩
 have HI := Aside0.mk (hr' ▸ indexFunc_int p K hK hp A c xs w hr hc)
 rw [← hr']
 clear hr' hr hp
 go_enter Tryz.func151, Tryz.ntmps151
 go_wp2_with (go_at_call 221; (with_reducible refine HI.out.mono ?_); rintro e w1 ⟨rfl, rfl⟩)
 go_ret
 exact ⟨rfl, rfl⟩
def note_numbers.f (xs : List Int) : Option Bool := some (xs.all okNum)
theorem note_numbers.calls (A : Option Addr) (c : Nat) (xs : List Int) (r : Bool) (w : World) (hr : (Kd.int .i64).C w A xs.length xs) (hc : xs.length ≤ c) (h : note_numbers.f xs = some r) :
  Calls Tryz.prog 91 #[.slice A xs.length c] w fun e w' => e = .returned (.bool r) ∧ Below w.heap.size w w' := by
 obtain rfl : xs.all okNum = r := Option.some.inj h
 obtain ⟨b, hb⟩ : ∃ b, b = xs.any (fun v => !okNum v) := ⟨_, rfl⟩
 have HC := Aside0.mk (hb ▸ containsFunc_int (fun v => !okNum v) 152 (fun args w => by kernel_rfl) one_any A c xs w hr hc)
 have HE := Aside0.mk (show xs.all okNum = !b by rw [hb, List.not_any_eq_all_not]; simp)
 have hnot : ∀ (x : Bool) (w : World), (Op.unary .not (.bool x)).run Tryz.prog w = .ok (.bool (!x)) w := fun _ _ => rfl
 clear hb h hr
 rw [HE.out]
 go_enter Tryz.func91, Tryz.ntmps91
 go_wp2_with (go_at_call 151; (with_reducible refine HC.out.mono ?_); rintro e w1 ⟨rfl, rfl⟩)
 go_ret
 exact ⟨rfl, Below.refl _ _⟩
end Go.Proofs.YtmneemhplffemaaGreatDoorRR.Ext
namespace Go.Proofs.YtmneemhplffemaaGreatDoorRR.Chk
open Go.RowKit Go.Proofs.YtmneemhplffemaaGreatDoorRR.Ext Go.Proofs.YtmneemhplffemaaGreatDoorRR.Mem Go.Proofs.YtmneemhplffemaaGreatDoorRRW.PrintWords
theorem ints_new (w0 : World) (zs : List Int) (hz : zs.length ≤ 1000) : (Kd.int .i64).C (w0.alloc (Obj.cells (zs.map (Value.int .i64)).toArray 3 (0, 0))) (some ⟨w0.heap.size, 0, none⟩) zs.length zs := by
 have hR : (Kd.int .i64).R 3 (w0.alloc (Obj.cells (zs.map (Value.int .i64)).toArray 3 (0, 0))) w0.heap.size (fun _ => True) (.slice (some ⟨w0.heap.size, 0, none⟩) zs.length zs.length) zs := by
  refine ⟨fun _ _ => trivial, zs.map (Value.int .i64), ⟨by show (zs.map _).length = zs.length * 1; simp, .inr ⟨w0.heap.size, zs.length, _, rfl, Nat.le_refl _, blk_alloc _, Nat.le_refl _, ?_, ?_, ?_⟩⟩, ?_⟩
  · have : (1000 : Nat) ≤ maxLen := by decide
    omega
  · show (zs.map (Value.int .i64)).toArray.size = zs.length * 1
    simp
  · show ((zs.map (Value.int .i64)).toArray.toList).take (zs.length * 1) = zs.map (Value.int .i64)
    rw [List.take_of_length_le (by simp)]
  · refine ⟨by show (zs.map _).length = zs.length * 1; simp, fun j p hp => ?_⟩
    show ((zs.map (Value.int .i64)).drop (j * 1)).take 1 = [Value.int .i64 p]
    rw [Nat.mul_one, List.take_one, List.head?_drop, List.getElem?_map, hp]
    rfl
 exact (Kd.R_reads' hR).2.2
theorem c_num1 (w0 : World) (g : Nat) (hg : g = w0.heap.size) (a : Int) (r : Bool) (h : (okNum a) = r) : Calls Tryz.prog 91 #[.slice (some ⟨g, 0, none⟩) 1 1] (w0.alloc (Obj.cells #[.int .i64 a] 3 (0, 0))) fun e w' => e = .returned (.bool r) ∧ Below w0.heap.size w0 w' := by
 subst hg
 have hC := ints_new w0 [a] (by simp)
 exact (note_numbers.calls _ _ [a] r _ hC (Nat.le_refl _) (by unfold note_numbers.f; rw [← h]; simp [Bool.and_assoc])).mono (fun e w' hq => ⟨hq.1, below_step (below_alloc (Below.refl _ _) _) hq.2⟩)
theorem c_num2 (w0 : World) (g : Nat) (hg : g = w0.heap.size) (a b : Int) (r : Bool) (h : (okNum a && okNum b) = r) : Calls Tryz.prog 91 #[.slice (some ⟨g, 0, none⟩) 2 2] (w0.alloc (Obj.cells #[.int .i64 a, .int .i64 b] 3 (0, 0))) fun e w' => e = .returned (.bool r) ∧ Below w0.heap.size w0 w' := by
 subst hg
 have hC := ints_new w0 [a, b] (by simp)
 exact (note_numbers.calls _ _ [a, b] r _ hC (Nat.le_refl _) (by unfold note_numbers.f; rw [← h]; simp [Bool.and_assoc])).mono (fun e w' hq => ⟨hq.1, below_step (below_alloc (Below.refl _ _) _) hq.2⟩)
theorem c_num3 (w0 : World) (g : Nat) (hg : g = w0.heap.size) (a b c : Int) (r : Bool) (h : (okNum a && okNum b && okNum c) = r) : Calls Tryz.prog 91 #[.slice (some ⟨g, 0, none⟩) 3 3] (w0.alloc (Obj.cells #[.int .i64 a, .int .i64 b, .int .i64 c] 3 (0, 0))) fun e w' => e = .returned (.bool r) ∧ Below w0.heap.size w0 w' := by
 subst hg
 have hC := ints_new w0 [a, b, c] (by simp)
 exact (note_numbers.calls _ _ [a, b, c] r _ hC (Nat.le_refl _) (by unfold note_numbers.f; rw [← h]; simp [Bool.and_assoc])).mono (fun e w' hq => ⟨hq.1, below_step (below_alloc (Below.refl _ _) _) hq.2⟩)
theorem c_num4 (w0 : World) (g : Nat) (hg : g = w0.heap.size) (a b c d : Int) (r : Bool) (h : (okNum a && okNum b && okNum c && okNum d) = r) : Calls Tryz.prog 91 #[.slice (some ⟨g, 0, none⟩) 4 4] (w0.alloc (Obj.cells #[.int .i64 a, .int .i64 b, .int .i64 c, .int .i64 d] 3 (0, 0))) fun e w' => e = .returned (.bool r) ∧ Below w0.heap.size w0 w' := by
 subst hg
 have hC := ints_new w0 [a, b, c, d] (by simp)
 exact (note_numbers.calls _ _ [a, b, c, d] r _ hC (Nat.le_refl _) (by unfold note_numbers.f; rw [← h]; simp [Bool.and_assoc])).mono (fun e w' hq => ⟨hq.1, below_step (below_alloc (Below.refl _ _) _) hq.2⟩)
end Go.Proofs.YtmneemhplffemaaGreatDoorRR.Chk
namespace Go.Proofs.YtmneemhplffemaaGreatDoorRR.Ext
open Go.RowKit Go.Proofs.YtmneemhplffemaaGreatDoorRRW.PrintWords Go.Proofs.YtmneemhplffemaaGreatDoorRR.Ki
def PredOp (w0 : World) (K : FuncId) (b : Addr) (p : S78 → Bool) (xs : List S78) : Prop :=
 ∀ (x : S78) (cs : List Value) (W : World), x ∈ xs → Below w0.heap.size w0 W → k78.K W x cs → Calls Tryz.prog K #[.agg cs.toArray, .pointer (some b)] W fun e W' => e = .returned (.bool (p x)) ∧ Below W.heap.size W W'
set_option maxRecDepth 100000 in
set_option maxHeartbeats 1000000 in
theorem indexFunc_Op (p : S78 → Bool) (K : FuncId) (b : Addr) (hK : ∀ (args : Array Value) (w : World), (callFunc K args).run Tryz.prog w = .ok (.enter K args) w) (w0 : World) (A : Option Addr) (c : Nat) (xs : List S78) (hp : PredOp w0 K b p xs) (w : World) (hr : k78.C w0 A xs.length xs) (hw : Below w0.heap.size w0 w) :
  Calls Tryz.prog 263 #[.slice A xs.length c, .func (.func K) #[] #[.pointer (some b)]] w fun e w' => e = .returned (.int .i64 (idxOf p xs)) ∧ Below w.heap.size w w' := by
 have HR := Aside0.mk hr
 have HP := Aside0.mk hp
 have HW := Aside0.mk hw
 have hm : xs.length ≤ 9223372036854775807 := hr.2.1
 clear hr hp hw
 go_enter Tryz.func263, Tryz.ntmps263
 go_wp2_with fail
 go_loopw [8] (fun v8 W => ∃ k : Nat, v8 = .int .i64 k ∧ k ≤ xs.length ∧ Aside0 (∀ j x, j < k → xs[j]? = some x → p x = false) ∧ Below w.heap.size w W) (fun v8 _ => xs.length - (intOf v8).toNat)
 case atStart => exact ⟨0, rfl, Nat.zero_le _, ⟨fun j x hj => by omega⟩, Below.refl _ _⟩
 case round =>
  obtain ⟨k, rfl, hk, HB, hb0⟩ := hrel
  have HBW := Aside0.mk hb0
  have HWR := Aside0.mk (below_step HW.out hb0)
  clear hb0
  by_cases hlt : k < xs.length
  · obtain ⟨x, hxe⟩ : ∃ x, xs[k]? = some x := ⟨_, List.getElem?_eq_getElem hlt⟩
    have HX := Aside0.mk hxe
    have HC := Kd.C_below HR.out HWR.out
    have hat := at_T78 HC (k : Int) (by omega) (by omega)
    rw [show rd_T78 xs (k : Int) = x by unfold rd_T78; rw [Int.toNat_natCast, List.getD_eq_getElem?_getD, hxe]; rfl, Int.toNat_natCast] at hat
    clear hxe HC
    obtain ⟨ad, rfl, h0, h1, h2, h3, h4⟩ := hat
    have HK0 := Aside0.mk (k78_mk wr x)
    by_cases hpx : p x = true
    · have HPX := Aside0.mk hpx
      have hq := HP.out x _ wr (List.mem_of_getElem? HX.out) HWR.out HK0.out
      simp only [hpx] at hq
      have HQ := Aside0.mk hq
      clear hpx hq
      go_wp2_with ((with_reducible refine HQ.out.mono ?_); rintro e w1 ⟨rfl, hb1⟩; have HB1 := Aside0.mk hb1; clear hb1)
      go_ret
      exact ⟨by rw [idx_some HB.out HX.out HPX.out]; rfl, below_step HBW.out HB1.out⟩
    · have hpf : p x = false := by simpa using hpx
      have HPX := Aside0.mk hpf
      have hq := HP.out x _ wr (List.mem_of_getElem? HX.out) HWR.out HK0.out
      simp only [hpf] at hq
      have HQ := Aside0.mk hq
      clear hpx hq hpf
      go_wp2_with ((with_reducible refine HQ.out.mono ?_); rintro e w1 ⟨rfl, hb1⟩; have HB1 := Aside0.mk hb1; clear hb1)
      go_roundw
      case rel => exact ⟨k + 1, by go_num, by omega, ⟨idx_step HB.out HX.out HPX.out⟩, below_step HBW.out HB1.out⟩
      case measure => simp [intOf]; omega
  · go_wp2_with fail
    go_ret
    exact ⟨by rw [idx_none HB.out (by omega)]; rfl, HBW.out⟩
set_option maxRecDepth 100000 in
theorem containsFunc_Op (p : S78 → Bool) (K : FuncId) (b : Addr) (hK : ∀ (args : Array Value) (w : World), (callFunc K args).run Tryz.prog w = .ok (.enter K args) w) (w0 : World) (A : Option Addr) (c : Nat) (xs : List S78) (hp : PredOp w0 K b p xs) (w : World) (hr : k78.C w0 A xs.length xs) (hw : Below w0.heap.size w0 w) :
  Calls Tryz.prog 224 #[.slice A xs.length c, .func (.func K) #[] #[.pointer (some b)]] w fun e w' => e = .returned (.bool (xs.any p)) ∧ Below w.heap.size w w' := by
 rw [← idx_any p xs]
 obtain ⟨r, hr'⟩ : ∃ r, r = idxOf p xs := ⟨_, rfl⟩
 have HI := Aside0.mk (hr' ▸ indexFunc_Op p K b hK w0 A c xs hp w hr hw)
 rw [← hr']
 clear hr' hr hp hK hw
 go_enter Tryz.func224, Tryz.ntmps224
 go_wp2_with (go_at_call 263; (with_reducible refine HI.out.mono ?_); rintro e w1 ⟨rfl, hb1⟩; have HB1 := Aside0.mk hb1; clear hb1)
 go_ret
 exact ⟨rfl, HB1.out⟩
def MayOp (w0 : World) (M : FuncId) (m : S78 → Bool) (xs : List S78) : Prop :=
 ∀ (x : S78) (cs : List Value) (W : World), x ∈ xs → Below w0.heap.size w0 W → k78.K W x cs → Calls Tryz.prog M #[.agg cs.toArray] W fun e W' => e = .returned (.bool (m x)) ∧ Below W.heap.size W W'
set_option maxRecDepth 100000 in
theorem closure_Op (m : S78 → Bool) (M : FuncId) (hM : ∀ (args : Array Value) (w : World), (callFunc M args).run Tryz.prog w = .ok (.enter M args) w) (w0 : World) (xs : List S78) (hp : MayOp w0 M m xs) (b : Addr) (W0 : World) (hb0 : Below w0.heap.size w0 W0) (hcell : W0.cell? b = some (.func (.func M) #[] #[])) : PredOp W0 225 b (fun x => !m x) xs := by
 intro x cs W hx hb hk
 have hc := pw_cell_below hb hcell
 obtain ⟨cs', hcs⟩ : ∃ cs', cs' = cs := ⟨_, rfl⟩
 obtain rfl := k78_open hk
 have hnot : ∀ (x : Bool) (w : World), (Op.unary .not (.bool x)).run Tryz.prog w = .ok (.bool (!x)) w := fun _ _ => rfl
 have HP := Aside0.mk hp
 have HX := Aside0.mk hx
 have HB := Aside0.mk (below_step hb0 hb)
 have hc2 : ∀ o, (W.alloc o).cell? b = some (.func (.func M) #[] #[]) := fun o => pw_cell_below (below_alloc (Below.refl _ _) o) hc
 have HQ := Aside0.mk (HP.out x _ (W.alloc (Obj.cells #[.int .i64 x.f0, .string x.f1, .string x.f2, .int .i64 x.f3, .int .i64 x.f4] 78 (0, 0))) hx (below_alloc HB.out (Obj.cells #[.int .i64 x.f0, .string x.f1, .string x.f2, .int .i64 x.f3, .int .i64 x.f4] 78 (0, 0))) (k78_mk _ x))
 clear hp hx hcs hb
 go_enter Tryz.func225, Tryz.ntmps225
 go_wp2_with ((with_reducible refine HQ.out.mono ?_); rintro e w1 ⟨rfl, hb1⟩; have HB1 := Aside0.mk hb1; clear hb1)
 go_ret
 exact ⟨rfl, below_step (below_alloc (Below.refl _ _) _) HB1.out⟩
set_option maxRecDepth 100000 in
theorem all_Op (m : S78 → Bool) (M : FuncId) (hM : ∀ (args : Array Value) (w : World), (callFunc M args).run Tryz.prog w = .ok (.enter M args) w) (w0 W : World) (A : Option Addr) (c : Nat) (xs : List S78) (n : Int) (b : Bool) (h : (decide ((xs.length : Int) ≤ n) && xs.all m) = b) (hp : MayOp w0 M m xs) (hC : k78.C w0 A xs.length xs) (hb : Below w0.heap.size w0 W) :
   Calls Tryz.prog 163 #[.slice A xs.length c, .int .i64 n, .func (.func M) #[] #[]] W fun e W' => e = .returned (.bool b) ∧ Below W.heap.size W W' := by
 subst h
 have HB := Aside0.mk (below_alloc hb (Obj.cells #[.func (.func M) #[] #[]] 218 (0, 0)))
 have HQ := Aside0.mk (containsFunc_Op (fun x => !m x) 225 ⟨W.heap.size, 0, none⟩ (fun _ _ => rfl) (W.alloc (Obj.cells #[.func (.func M) #[] #[]] 218 (0, 0))) A c xs (closure_Op m M hM w0 xs hp ⟨W.heap.size, 0, none⟩ (W.alloc (Obj.cells #[.func (.func M) #[] #[]] 218 (0, 0))) HB.out (blk_cell (heap_alloc_new W (Obj.cells #[.func (.func M) #[] #[]] 218 (0, 0))) 0)) (W.alloc (Obj.cells #[.func (.func M) #[] #[]] 218 (0, 0))) (Kd.C_below hC HB.out) (Below.refl _ _))
 have ha : (xs.any fun x => !m x) = !xs.all m := by rw [← List.not_all_eq_any_not]
 rw [ha] at HQ
 have hm : xs.length ≤ 9223372036854775807 := hC.2.1
 clear hp hC hb hM ha
 go_enter Tryz.func163, Tryz.ntmps163
 cases h1 : decide ((xs.length : Int) ≤ n) with
 | false =>
   go_wp2_with fail
   go_ret
   exact ⟨rfl, below_alloc (Below.refl _ _) _⟩
 | true =>
   go_wp2_with ((with_reducible refine HQ.out.mono ?_); rintro e w1 ⟨rfl, hb1⟩; have HB1 := Aside0.mk hb1; clear hb1)
   go_ret
   exact ⟨by simp, below_step (below_alloc (Below.refl _ _) _) HB1.out⟩
end Go.Proofs.YtmneemhplffemaaGreatDoorRR.Ext
namespace Go.Proofs.YtmneemhplffemaaGreatDoorRR.Ext
open Go.RowKit Go.Proofs.YtmneemhplffemaaGreatDoorRRW.PrintWords Go.Proofs.YtmneemhplffemaaGreatDoorRR.Ki
def PredWatch (w0 : World) (K : FuncId) (b : Addr) (p : S96 → Bool) (xs : List S96) : Prop :=
 ∀ (x : S96) (cs : List Value) (W : World), x ∈ xs → Below w0.heap.size w0 W → k96.K W x cs → Calls Tryz.prog K #[.agg cs.toArray, .pointer (some b)] W fun e W' => e = .returned (.bool (p x)) ∧ Below W.heap.size W W'
set_option maxRecDepth 100000 in
set_option maxHeartbeats 1000000 in
theorem indexFunc_Watch (p : S96 → Bool) (K : FuncId) (b : Addr) (hK : ∀ (args : Array Value) (w : World), (callFunc K args).run Tryz.prog w = .ok (.enter K args) w) (w0 : World) (A : Option Addr) (c : Nat) (xs : List S96) (hp : PredWatch w0 K b p xs) (w : World) (hr : k96.C w0 A xs.length xs) (hw : Below w0.heap.size w0 w) :
  Calls Tryz.prog 233 #[.slice A xs.length c, .func (.func K) #[] #[.pointer (some b)]] w fun e w' => e = .returned (.int .i64 (idxOf p xs)) ∧ Below w.heap.size w w' := by
 have HR := Aside0.mk hr
 have HP := Aside0.mk hp
 have HW := Aside0.mk hw
 have hm : xs.length ≤ 9223372036854775807 := hr.2.1
 clear hr hp hw
 go_enter Tryz.func233, Tryz.ntmps233
 go_wp2_with fail
 go_loopw [8] (fun v8 W => ∃ k : Nat, v8 = .int .i64 k ∧ k ≤ xs.length ∧ Aside0 (∀ j x, j < k → xs[j]? = some x → p x = false) ∧ Below w.heap.size w W) (fun v8 _ => xs.length - (intOf v8).toNat)
 case atStart => exact ⟨0, rfl, Nat.zero_le _, ⟨fun j x hj => by omega⟩, Below.refl _ _⟩
 case round =>
  obtain ⟨k, rfl, hk, HB, hb0⟩ := hrel
  have HBW := Aside0.mk hb0
  have HWR := Aside0.mk (below_step HW.out hb0)
  clear hb0
  by_cases hlt : k < xs.length
  · obtain ⟨x, hxe⟩ : ∃ x, xs[k]? = some x := ⟨_, List.getElem?_eq_getElem hlt⟩
    have HX := Aside0.mk hxe
    have HC := Kd.C_below HR.out HWR.out
    have hat := at_T96 HC (k : Int) (by omega) (by omega)
    rw [show rd_T96 xs (k : Int) = x by unfold rd_T96; rw [Int.toNat_natCast, List.getD_eq_getElem?_getD, hxe]; rfl, Int.toNat_natCast] at hat
    clear hxe HC
    obtain ⟨ad, rfl, h0, h1, h2, h3⟩ := hat
    have HK0 := Aside0.mk (k96_mk wr x)
    by_cases hpx : p x = true
    · have HPX := Aside0.mk hpx
      have hq := HP.out x _ wr (List.mem_of_getElem? HX.out) HWR.out HK0.out
      simp only [hpx] at hq
      have HQ := Aside0.mk hq
      clear hpx hq
      go_wp2_with ((with_reducible refine HQ.out.mono ?_); rintro e w1 ⟨rfl, hb1⟩; have HB1 := Aside0.mk hb1; clear hb1)
      go_ret
      exact ⟨by rw [idx_some HB.out HX.out HPX.out]; rfl, below_step HBW.out HB1.out⟩
    · have hpf : p x = false := by simpa using hpx
      have HPX := Aside0.mk hpf
      have hq := HP.out x _ wr (List.mem_of_getElem? HX.out) HWR.out HK0.out
      simp only [hpf] at hq
      have HQ := Aside0.mk hq
      clear hpx hq hpf
      go_wp2_with ((with_reducible refine HQ.out.mono ?_); rintro e w1 ⟨rfl, hb1⟩; have HB1 := Aside0.mk hb1; clear hb1)
      go_roundw
      case rel => exact ⟨k + 1, by go_num, by omega, ⟨idx_step HB.out HX.out HPX.out⟩, below_step HBW.out HB1.out⟩
      case measure => simp [intOf]; omega
  · go_wp2_with fail
    go_ret
    exact ⟨by rw [idx_none HB.out (by omega)]; rfl, HBW.out⟩
set_option maxRecDepth 100000 in
theorem containsFunc_Watch (p : S96 → Bool) (K : FuncId) (b : Addr) (hK : ∀ (args : Array Value) (w : World), (callFunc K args).run Tryz.prog w = .ok (.enter K args) w) (w0 : World) (A : Option Addr) (c : Nat) (xs : List S96) (hp : PredWatch w0 K b p xs) (w : World) (hr : k96.C w0 A xs.length xs) (hw : Below w0.heap.size w0 w) :
  Calls Tryz.prog 173 #[.slice A xs.length c, .func (.func K) #[] #[.pointer (some b)]] w fun e w' => e = .returned (.bool (xs.any p)) ∧ Below w.heap.size w w' := by
 rw [← idx_any p xs]
 obtain ⟨r, hr'⟩ : ∃ r, r = idxOf p xs := ⟨_, rfl⟩
 have HI := Aside0.mk (hr' ▸ indexFunc_Watch p K b hK w0 A c xs hp w hr hw)
 rw [← hr']
 clear hr' hr hp hK hw
 go_enter Tryz.func173, Tryz.ntmps173
 go_wp2_with (go_at_call 233; (with_reducible refine HI.out.mono ?_); rintro e w1 ⟨rfl, hb1⟩; have HB1 := Aside0.mk hb1; clear hb1)
 go_ret
 exact ⟨rfl, HB1.out⟩
def MayWatch (w0 : World) (M : FuncId) (m : S96 → Bool) (xs : List S96) : Prop :=
 ∀ (x : S96) (cs : List Value) (W : World), x ∈ xs → Below w0.heap.size w0 W → k96.K W x cs → Calls Tryz.prog M #[.agg cs.toArray] W fun e W' => e = .returned (.bool (m x)) ∧ Below W.heap.size W W'
set_option maxRecDepth 100000 in
theorem closure_Watch (m : S96 → Bool) (M : FuncId) (hM : ∀ (args : Array Value) (w : World), (callFunc M args).run Tryz.prog w = .ok (.enter M args) w) (w0 : World) (xs : List S96) (hp : MayWatch w0 M m xs) (b : Addr) (W0 : World) (hb0 : Below w0.heap.size w0 W0) (hcell : W0.cell? b = some (.func (.func M) #[] #[])) : PredWatch W0 174 b (fun x => !m x) xs := by
 intro x cs W hx hb hk
 have hc := pw_cell_below hb hcell
 obtain ⟨cs', hcs⟩ : ∃ cs', cs' = cs := ⟨_, rfl⟩
 obtain rfl := k96_open hk
 have hnot : ∀ (x : Bool) (w : World), (Op.unary .not (.bool x)).run Tryz.prog w = .ok (.bool (!x)) w := fun _ _ => rfl
 have HP := Aside0.mk hp
 have HX := Aside0.mk hx
 have HB := Aside0.mk (below_step hb0 hb)
 have hc2 : ∀ o, (W.alloc o).cell? b = some (.func (.func M) #[] #[]) := fun o => pw_cell_below (below_alloc (Below.refl _ _) o) hc
 have HQ := Aside0.mk (HP.out x _ (W.alloc (Obj.cells #[.int .i64 x.f0, .string x.f1, .int .i64 x.f2, .int .i64 x.f3] 96 (0, 0))) hx (below_alloc HB.out (Obj.cells #[.int .i64 x.f0, .string x.f1, .int .i64 x.f2, .int .i64 x.f3] 96 (0, 0))) (k96_mk _ x))
 clear hp hx hcs hb
 go_enter Tryz.func174, Tryz.ntmps174
 go_wp2_with ((with_reducible refine HQ.out.mono ?_); rintro e w1 ⟨rfl, hb1⟩; have HB1 := Aside0.mk hb1; clear hb1)
 go_ret
 exact ⟨rfl, below_step (below_alloc (Below.refl _ _) _) HB1.out⟩
set_option maxRecDepth 100000 in
theorem all_Watch (m : S96 → Bool) (M : FuncId) (hM : ∀ (args : Array Value) (w : World), (callFunc M args).run Tryz.prog w = .ok (.enter M args) w) (w0 W : World) (A : Option Addr) (c : Nat) (xs : List S96) (n : Int) (b : Bool) (h : (decide ((xs.length : Int) ≤ n) && xs.all m) = b) (hp : MayWatch w0 M m xs) (hC : k96.C w0 A xs.length xs) (hb : Below w0.heap.size w0 W) :
   Calls Tryz.prog 141 #[.slice A xs.length c, .int .i64 n, .func (.func M) #[] #[]] W fun e W' => e = .returned (.bool b) ∧ Below W.heap.size W W' := by
 subst h
 have HB := Aside0.mk (below_alloc hb (Obj.cells #[.func (.func M) #[] #[]] 204 (0, 0)))
 have HQ := Aside0.mk (containsFunc_Watch (fun x => !m x) 174 ⟨W.heap.size, 0, none⟩ (fun _ _ => rfl) (W.alloc (Obj.cells #[.func (.func M) #[] #[]] 204 (0, 0))) A c xs (closure_Watch m M hM w0 xs hp ⟨W.heap.size, 0, none⟩ (W.alloc (Obj.cells #[.func (.func M) #[] #[]] 204 (0, 0))) HB.out (blk_cell (heap_alloc_new W (Obj.cells #[.func (.func M) #[] #[]] 204 (0, 0))) 0)) (W.alloc (Obj.cells #[.func (.func M) #[] #[]] 204 (0, 0))) (Kd.C_below hC HB.out) (Below.refl _ _))
 have ha : (xs.any fun x => !m x) = !xs.all m := by rw [← List.not_all_eq_any_not]
 rw [ha] at HQ
 have hm : xs.length ≤ 9223372036854775807 := hC.2.1
 clear hp hC hb hM ha
 go_enter Tryz.func141, Tryz.ntmps141
 cases h1 : decide ((xs.length : Int) ≤ n) with
 | false =>
   go_wp2_with fail
   go_ret
   exact ⟨rfl, below_alloc (Below.refl _ _) _⟩
 | true =>
   go_wp2_with ((with_reducible refine HQ.out.mono ?_); rintro e w1 ⟨rfl, hb1⟩; have HB1 := Aside0.mk hb1; clear hb1)
   go_ret
   exact ⟨by simp, below_step (below_alloc (Below.refl _ _) _) HB1.out⟩
end Go.Proofs.YtmneemhplffemaaGreatDoorRR.Ext
namespace Go.Proofs.YtmneemhplffemaaGreatDoorRR.Ext
open Go.RowKit Go.Proofs.YtmneemhplffemaaGreatDoorRRW.PrintWords Go.Proofs.YtmneemhplffemaaGreatDoorRR.Ki
def PredEntry (w0 : World) (K : FuncId) (b : Addr) (p : S55 → Bool) (xs : List S55) : Prop :=
 ∀ (x : S55) (cs : List Value) (W : World), x ∈ xs → Below w0.heap.size w0 W → k55.K W x cs → Calls Tryz.prog K #[.agg cs.toArray, .pointer (some b)] W fun e W' => e = .returned (.bool (p x)) ∧ Below W.heap.size W W'
set_option maxRecDepth 100000 in
set_option maxHeartbeats 1000000 in
theorem indexFunc_Entry (p : S55 → Bool) (K : FuncId) (b : Addr) (hK : ∀ (args : Array Value) (w : World), (callFunc K args).run Tryz.prog w = .ok (.enter K args) w) (w0 : World) (A : Option Addr) (c : Nat) (xs : List S55) (hp : PredEntry w0 K b p xs) (w : World) (hr : k55.C w0 A xs.length xs) (hw : Below w0.heap.size w0 w) :
  Calls Tryz.prog 275 #[.slice A xs.length c, .func (.func K) #[] #[.pointer (some b)]] w fun e w' => e = .returned (.int .i64 (idxOf p xs)) ∧ Below w.heap.size w w' := by
 have HR := Aside0.mk hr
 have HP := Aside0.mk hp
 have HW := Aside0.mk hw
 have hm : xs.length ≤ 9223372036854775807 := hr.2.1
 clear hr hp hw
 go_enter Tryz.func275, Tryz.ntmps275
 go_wp2_with fail
 go_loopw [8] (fun v8 W => ∃ k : Nat, v8 = .int .i64 k ∧ k ≤ xs.length ∧ Aside0 (∀ j x, j < k → xs[j]? = some x → p x = false) ∧ Below w.heap.size w W) (fun v8 _ => xs.length - (intOf v8).toNat)
 case atStart => exact ⟨0, rfl, Nat.zero_le _, ⟨fun j x hj => by omega⟩, Below.refl _ _⟩
 case round =>
  obtain ⟨k, rfl, hk, HB, hb0⟩ := hrel
  have HBW := Aside0.mk hb0
  have HWR := Aside0.mk (below_step HW.out hb0)
  clear hb0
  by_cases hlt : k < xs.length
  · obtain ⟨x, hxe⟩ : ∃ x, xs[k]? = some x := ⟨_, List.getElem?_eq_getElem hlt⟩
    have HX := Aside0.mk hxe
    have HC := Kd.C_below HR.out HWR.out
    have hat := at_T55 HC (k : Int) (by omega) (by omega)
    rw [show rd_T55 xs (k : Int) = x by unfold rd_T55; rw [Int.toNat_natCast, List.getD_eq_getElem?_getD, hxe]; rfl, Int.toNat_natCast] at hat
    clear hxe HC
    obtain ⟨ad, A5, c5, rfl, h0, h1, h2, h3, h4, h5, l5, g5⟩ := hat
    have HK0 := Aside0.mk (k55_mk wr x l5 g5)
    clear g5
    by_cases hpx : p x = true
    · have HPX := Aside0.mk hpx
      have hq := HP.out x _ wr (List.mem_of_getElem? HX.out) HWR.out HK0.out
      simp only [hpx] at hq
      have HQ := Aside0.mk hq
      clear hpx hq
      go_wp2_with ((with_reducible refine HQ.out.mono ?_); rintro e w1 ⟨rfl, hb1⟩; have HB1 := Aside0.mk hb1; clear hb1)
      go_ret
      exact ⟨by rw [idx_some HB.out HX.out HPX.out]; rfl, below_step HBW.out HB1.out⟩
    · have hpf : p x = false := by simpa using hpx
      have HPX := Aside0.mk hpf
      have hq := HP.out x _ wr (List.mem_of_getElem? HX.out) HWR.out HK0.out
      simp only [hpf] at hq
      have HQ := Aside0.mk hq
      clear hpx hq hpf
      go_wp2_with ((with_reducible refine HQ.out.mono ?_); rintro e w1 ⟨rfl, hb1⟩; have HB1 := Aside0.mk hb1; clear hb1)
      go_roundw
      case rel => exact ⟨k + 1, by go_num, by omega, ⟨idx_step HB.out HX.out HPX.out⟩, below_step HBW.out HB1.out⟩
      case measure => simp [intOf]; omega
  · go_wp2_with fail
    go_ret
    exact ⟨by rw [idx_none HB.out (by omega)]; rfl, HBW.out⟩
set_option maxRecDepth 100000 in
theorem containsFunc_Entry (p : S55 → Bool) (K : FuncId) (b : Addr) (hK : ∀ (args : Array Value) (w : World), (callFunc K args).run Tryz.prog w = .ok (.enter K args) w) (w0 : World) (A : Option Addr) (c : Nat) (xs : List S55) (hp : PredEntry w0 K b p xs) (w : World) (hr : k55.C w0 A xs.length xs) (hw : Below w0.heap.size w0 w) :
  Calls Tryz.prog 249 #[.slice A xs.length c, .func (.func K) #[] #[.pointer (some b)]] w fun e w' => e = .returned (.bool (xs.any p)) ∧ Below w.heap.size w w' := by
 rw [← idx_any p xs]
 obtain ⟨r, hr'⟩ : ∃ r, r = idxOf p xs := ⟨_, rfl⟩
 have HI := Aside0.mk (hr' ▸ indexFunc_Entry p K b hK w0 A c xs hp w hr hw)
 rw [← hr']
 clear hr' hr hp hK hw
 go_enter Tryz.func249, Tryz.ntmps249
 go_wp2_with (go_at_call 275; (with_reducible refine HI.out.mono ?_); rintro e w1 ⟨rfl, hb1⟩; have HB1 := Aside0.mk hb1; clear hb1)
 go_ret
 exact ⟨rfl, HB1.out⟩
def MayEntry (w0 : World) (M : FuncId) (m : S55 → Bool) (xs : List S55) : Prop :=
 ∀ (x : S55) (cs : List Value) (W : World), x ∈ xs → Below w0.heap.size w0 W → k55.K W x cs → Calls Tryz.prog M #[.agg cs.toArray] W fun e W' => e = .returned (.bool (m x)) ∧ Below W.heap.size W W'
set_option maxRecDepth 100000 in
theorem closure_Entry (m : S55 → Bool) (M : FuncId) (hM : ∀ (args : Array Value) (w : World), (callFunc M args).run Tryz.prog w = .ok (.enter M args) w) (w0 : World) (xs : List S55) (hp : MayEntry w0 M m xs) (b : Addr) (W0 : World) (hb0 : Below w0.heap.size w0 W0) (hcell : W0.cell? b = some (.func (.func M) #[] #[])) : PredEntry W0 250 b (fun x => !m x) xs := by
 intro x cs W hx hb hk
 have hc := pw_cell_below hb hcell
 obtain ⟨cs', hcs⟩ : ∃ cs', cs' = cs := ⟨_, rfl⟩
 obtain ⟨A5, c5, rfl, l5, g5⟩ := k55_open hk
 have hnot : ∀ (x : Bool) (w : World), (Op.unary .not (.bool x)).run Tryz.prog w = .ok (.bool (!x)) w := fun _ _ => rfl
 have HP := Aside0.mk hp
 have HX := Aside0.mk hx
 have HB := Aside0.mk (below_step hb0 hb)
 have hc2 : ∀ o, (W.alloc o).cell? b = some (.func (.func M) #[] #[]) := fun o => pw_cell_below (below_alloc (Below.refl _ _) o) hc
 have HQ := Aside0.mk (HP.out x _ (W.alloc (Obj.cells #[.int .i64 x.f0, .int .i64 x.f1, .int .i64 x.f2, .int .i64 x.f3, .int .i64 x.f4, .slice A5 x.f5.length c5] 55 (0, 0))) hx (below_alloc HB.out (Obj.cells #[.int .i64 x.f0, .int .i64 x.f1, .int .i64 x.f2, .int .i64 x.f3, .int .i64 x.f4, .slice A5 x.f5.length c5] 55 (0, 0))) (k55_mk _ x l5 (Kd.C_below g5 (below_alloc (Below.refl _ _) (Obj.cells #[.int .i64 x.f0, .int .i64 x.f1, .int .i64 x.f2, .int .i64 x.f3, .int .i64 x.f4, .slice A5 x.f5.length c5] 55 (0, 0))))))
 clear hp hx hcs hb g5
 go_enter Tryz.func250, Tryz.ntmps250
 go_wp2_with ((with_reducible refine HQ.out.mono ?_); rintro e w1 ⟨rfl, hb1⟩; have HB1 := Aside0.mk hb1; clear hb1)
 go_ret
 exact ⟨rfl, below_step (below_alloc (Below.refl _ _) _) HB1.out⟩
set_option maxRecDepth 100000 in
theorem all_Entry (m : S55 → Bool) (M : FuncId) (hM : ∀ (args : Array Value) (w : World), (callFunc M args).run Tryz.prog w = .ok (.enter M args) w) (w0 W : World) (A : Option Addr) (c : Nat) (xs : List S55) (n : Int) (b : Bool) (h : (decide ((xs.length : Int) ≤ n) && xs.all m) = b) (hp : MayEntry w0 M m xs) (hC : k55.C w0 A xs.length xs) (hb : Below w0.heap.size w0 W) :
   Calls Tryz.prog 201 #[.slice A xs.length c, .int .i64 n, .func (.func M) #[] #[]] W fun e W' => e = .returned (.bool b) ∧ Below W.heap.size W W' := by
 subst h
 have HB := Aside0.mk (below_alloc hb (Obj.cells #[.func (.func M) #[] #[]] 149 (0, 0)))
 have HQ := Aside0.mk (containsFunc_Entry (fun x => !m x) 250 ⟨W.heap.size, 0, none⟩ (fun _ _ => rfl) (W.alloc (Obj.cells #[.func (.func M) #[] #[]] 149 (0, 0))) A c xs (closure_Entry m M hM w0 xs hp ⟨W.heap.size, 0, none⟩ (W.alloc (Obj.cells #[.func (.func M) #[] #[]] 149 (0, 0))) HB.out (blk_cell (heap_alloc_new W (Obj.cells #[.func (.func M) #[] #[]] 149 (0, 0))) 0)) (W.alloc (Obj.cells #[.func (.func M) #[] #[]] 149 (0, 0))) (Kd.C_below hC HB.out) (Below.refl _ _))
 have ha : (xs.any fun x => !m x) = !xs.all m := by rw [← List.not_all_eq_any_not]
 rw [ha] at HQ
 have hm : xs.length ≤ 9223372036854775807 := hC.2.1
 clear hp hC hb hM ha
 go_enter Tryz.func201, Tryz.ntmps201
 cases h1 : decide ((xs.length : Int) ≤ n) with
 | false =>
   go_wp2_with fail
   go_ret
   exact ⟨rfl, below_alloc (Below.refl _ _) _⟩
 | true =>
   go_wp2_with ((with_reducible refine HQ.out.mono ?_); rintro e w1 ⟨rfl, hb1⟩; have HB1 := Aside0.mk hb1; clear hb1)
   go_ret
   exact ⟨by simp, below_step (below_alloc (Below.refl _ _) _) HB1.out⟩
end Go.Proofs.YtmneemhplffemaaGreatDoorRR.Ext
namespace Go.Proofs.YtmneemhplffemaaGreatDoorRR.Ext
open Go.RowKit Go.Proofs.YtmneemhplffemaaGreatDoorRRW.PrintWords Go.Proofs.YtmneemhplffemaaGreatDoorRR.Ki
def PredSeen (w0 : World) (K : FuncId) (b : Addr) (p : S88 → Bool) (xs : List S88) : Prop :=
 ∀ (x : S88) (cs : List Value) (W : World), x ∈ xs → Below w0.heap.size w0 W → k88.K W x cs → Calls Tryz.prog K #[.agg cs.toArray, .pointer (some b)] W fun e W' => e = .returned (.bool (p x)) ∧ Below W.heap.size W W'
set_option maxRecDepth 100000 in
set_option maxHeartbeats 1000000 in
theorem indexFunc_Seen (p : S88 → Bool) (K : FuncId) (b : Addr) (hK : ∀ (args : Array Value) (w : World), (callFunc K args).run Tryz.prog w = .ok (.enter K args) w) (w0 : World) (A : Option Addr) (c : Nat) (xs : List S88) (hp : PredSeen w0 K b p xs) (w : World) (hr : k88.C w0 A xs.length xs) (hw : Below w0.heap.size w0 w) :
  Calls Tryz.prog 286 #[.slice A xs.length c, .func (.func K) #[] #[.pointer (some b)]] w fun e w' => e = .returned (.int .i64 (idxOf p xs)) ∧ Below w.heap.size w w' := by
 have HR := Aside0.mk hr
 have HP := Aside0.mk hp
 have HW := Aside0.mk hw
 have hm : xs.length ≤ 9223372036854775807 := hr.2.1
 clear hr hp hw
 go_enter Tryz.func286, Tryz.ntmps286
 go_wp2_with fail
 go_loopw [8] (fun v8 W => ∃ k : Nat, v8 = .int .i64 k ∧ k ≤ xs.length ∧ Aside0 (∀ j x, j < k → xs[j]? = some x → p x = false) ∧ Below w.heap.size w W) (fun v8 _ => xs.length - (intOf v8).toNat)
 case atStart => exact ⟨0, rfl, Nat.zero_le _, ⟨fun j x hj => by omega⟩, Below.refl _ _⟩
 case round =>
  obtain ⟨k, rfl, hk, HB, hb0⟩ := hrel
  have HBW := Aside0.mk hb0
  have HWR := Aside0.mk (below_step HW.out hb0)
  clear hb0
  by_cases hlt : k < xs.length
  · obtain ⟨x, hxe⟩ : ∃ x, xs[k]? = some x := ⟨_, List.getElem?_eq_getElem hlt⟩
    have HX := Aside0.mk hxe
    have HC := Kd.C_below HR.out HWR.out
    have hat := at_T88 HC (k : Int) (by omega) (by omega)
    rw [show rd_T88 xs (k : Int) = x by unfold rd_T88; rw [Int.toNat_natCast, List.getD_eq_getElem?_getD, hxe]; rfl, Int.toNat_natCast] at hat
    clear hxe HC
    obtain ⟨ad, rfl, h0, h1, h2⟩ := hat
    have HK0 := Aside0.mk (k88_mk wr x)
    by_cases hpx : p x = true
    · have HPX := Aside0.mk hpx
      have hq := HP.out x _ wr (List.mem_of_getElem? HX.out) HWR.out HK0.out
      simp only [hpx] at hq
      have HQ := Aside0.mk hq
      clear hpx hq
      go_wp2_with ((with_reducible refine HQ.out.mono ?_); rintro e w1 ⟨rfl, hb1⟩; have HB1 := Aside0.mk hb1; clear hb1)
      go_ret
      exact ⟨by rw [idx_some HB.out HX.out HPX.out]; rfl, below_step HBW.out HB1.out⟩
    · have hpf : p x = false := by simpa using hpx
      have HPX := Aside0.mk hpf
      have hq := HP.out x _ wr (List.mem_of_getElem? HX.out) HWR.out HK0.out
      simp only [hpf] at hq
      have HQ := Aside0.mk hq
      clear hpx hq hpf
      go_wp2_with ((with_reducible refine HQ.out.mono ?_); rintro e w1 ⟨rfl, hb1⟩; have HB1 := Aside0.mk hb1; clear hb1)
      go_roundw
      case rel => exact ⟨k + 1, by go_num, by omega, ⟨idx_step HB.out HX.out HPX.out⟩, below_step HBW.out HB1.out⟩
      case measure => simp [intOf]; omega
  · go_wp2_with fail
    go_ret
    exact ⟨by rw [idx_none HB.out (by omega)]; rfl, HBW.out⟩
set_option maxRecDepth 100000 in
theorem containsFunc_Seen (p : S88 → Bool) (K : FuncId) (b : Addr) (hK : ∀ (args : Array Value) (w : World), (callFunc K args).run Tryz.prog w = .ok (.enter K args) w) (w0 : World) (A : Option Addr) (c : Nat) (xs : List S88) (hp : PredSeen w0 K b p xs) (w : World) (hr : k88.C w0 A xs.length xs) (hw : Below w0.heap.size w0 w) :
  Calls Tryz.prog 261 #[.slice A xs.length c, .func (.func K) #[] #[.pointer (some b)]] w fun e w' => e = .returned (.bool (xs.any p)) ∧ Below w.heap.size w w' := by
 rw [← idx_any p xs]
 obtain ⟨r, hr'⟩ : ∃ r, r = idxOf p xs := ⟨_, rfl⟩
 have HI := Aside0.mk (hr' ▸ indexFunc_Seen p K b hK w0 A c xs hp w hr hw)
 rw [← hr']
 clear hr' hr hp hK hw
 go_enter Tryz.func261, Tryz.ntmps261
 go_wp2_with (go_at_call 286; (with_reducible refine HI.out.mono ?_); rintro e w1 ⟨rfl, hb1⟩; have HB1 := Aside0.mk hb1; clear hb1)
 go_ret
 exact ⟨rfl, HB1.out⟩
def MaySeen (w0 : World) (M : FuncId) (m : S88 → Bool) (xs : List S88) : Prop :=
 ∀ (x : S88) (cs : List Value) (W : World), x ∈ xs → Below w0.heap.size w0 W → k88.K W x cs → Calls Tryz.prog M #[.agg cs.toArray] W fun e W' => e = .returned (.bool (m x)) ∧ Below W.heap.size W W'
set_option maxRecDepth 100000 in
theorem closure_Seen (m : S88 → Bool) (M : FuncId) (hM : ∀ (args : Array Value) (w : World), (callFunc M args).run Tryz.prog w = .ok (.enter M args) w) (w0 : World) (xs : List S88) (hp : MaySeen w0 M m xs) (b : Addr) (W0 : World) (hb0 : Below w0.heap.size w0 W0) (hcell : W0.cell? b = some (.func (.func M) #[] #[])) : PredSeen W0 262 b (fun x => !m x) xs := by
 intro x cs W hx hb hk
 have hc := pw_cell_below hb hcell
 obtain ⟨cs', hcs⟩ : ∃ cs', cs' = cs := ⟨_, rfl⟩
 obtain rfl := k88_open hk
 have hnot : ∀ (x : Bool) (w : World), (Op.unary .not (.bool x)).run Tryz.prog w = .ok (.bool (!x)) w := fun _ _ => rfl
 have HP := Aside0.mk hp
 have HX := Aside0.mk hx
 have HB := Aside0.mk (below_step hb0 hb)
 have hc2 : ∀ o, (W.alloc o).cell? b = some (.func (.func M) #[] #[]) := fun o => pw_cell_below (below_alloc (Below.refl _ _) o) hc
 have HQ := Aside0.mk (HP.out x _ (W.alloc (Obj.cells #[.string x.f0, .string x.f1, .int .i64 x.f2] 88 (0, 0))) hx (below_alloc HB.out (Obj.cells #[.string x.f0, .string x.f1, .int .i64 x.f2] 88 (0, 0))) (k88_mk _ x))
 clear hp hx hcs hb
 go_enter Tryz.func262, Tryz.ntmps262
 go_wp2_with ((with_reducible refine HQ.out.mono ?_); rintro e w1 ⟨rfl, hb1⟩; have HB1 := Aside0.mk hb1; clear hb1)
 go_ret
 exact ⟨rfl, below_step (below_alloc (Below.refl _ _) _) HB1.out⟩
set_option maxRecDepth 100000 in
theorem all_Seen (m : S88 → Bool) (M : FuncId) (hM : ∀ (args : Array Value) (w : World), (callFunc M args).run Tryz.prog w = .ok (.enter M args) w) (w0 W : World) (A : Option Addr) (c : Nat) (xs : List S88) (n : Int) (b : Bool) (h : (decide ((xs.length : Int) ≤ n) && xs.all m) = b) (hp : MaySeen w0 M m xs) (hC : k88.C w0 A xs.length xs) (hb : Below w0.heap.size w0 W) :
   Calls Tryz.prog 219 #[.slice A xs.length c, .int .i64 n, .func (.func M) #[] #[]] W fun e W' => e = .returned (.bool b) ∧ Below W.heap.size W W' := by
 subst h
 have HB := Aside0.mk (below_alloc hb (Obj.cells #[.func (.func M) #[] #[]] 238 (0, 0)))
 have HQ := Aside0.mk (containsFunc_Seen (fun x => !m x) 262 ⟨W.heap.size, 0, none⟩ (fun _ _ => rfl) (W.alloc (Obj.cells #[.func (.func M) #[] #[]] 238 (0, 0))) A c xs (closure_Seen m M hM w0 xs hp ⟨W.heap.size, 0, none⟩ (W.alloc (Obj.cells #[.func (.func M) #[] #[]] 238 (0, 0))) HB.out (blk_cell (heap_alloc_new W (Obj.cells #[.func (.func M) #[] #[]] 238 (0, 0))) 0)) (W.alloc (Obj.cells #[.func (.func M) #[] #[]] 238 (0, 0))) (Kd.C_below hC HB.out) (Below.refl _ _))
 have ha : (xs.any fun x => !m x) = !xs.all m := by rw [← List.not_all_eq_any_not]
 rw [ha] at HQ
 have hm : xs.length ≤ 9223372036854775807 := hC.2.1
 clear hp hC hb hM ha
 go_enter Tryz.func219, Tryz.ntmps219
 cases h1 : decide ((xs.length : Int) ≤ n) with
 | false =>
   go_wp2_with fail
   go_ret
   exact ⟨rfl, below_alloc (Below.refl _ _) _⟩
 | true =>
   go_wp2_with ((with_reducible refine HQ.out.mono ?_); rintro e w1 ⟨rfl, hb1⟩; have HB1 := Aside0.mk hb1; clear hb1)
   go_ret
   exact ⟨by simp, below_step (below_alloc (Below.refl _ _) _) HB1.out⟩
end Go.Proofs.YtmneemhplffemaaGreatDoorRR.Ext
namespace Go.Proofs.YtmneemhplffemaaGreatDoorRR.Ext
open Go.RowKit Go.Proofs.YtmneemhplffemaaGreatDoorRRW.PrintWords Go.Proofs.YtmneemhplffemaaGreatDoorRR.Ki
def PredResult (w0 : World) (K : FuncId) (b : Addr) (p : S81 → Bool) (xs : List S81) : Prop :=
 ∀ (x : S81) (cs : List Value) (W : World), x ∈ xs → Below w0.heap.size w0 W → k81.K W x cs → Calls Tryz.prog K #[.agg cs.toArray, .pointer (some b)] W fun e W' => e = .returned (.bool (p x)) ∧ Below W.heap.size W W'
set_option maxRecDepth 100000 in
set_option maxHeartbeats 1000000 in
theorem indexFunc_Result (p : S81 → Bool) (K : FuncId) (b : Addr) (hK : ∀ (args : Array Value) (w : World), (callFunc K args).run Tryz.prog w = .ok (.enter K args) w) (w0 : World) (A : Option Addr) (c : Nat) (xs : List S81) (hp : PredResult w0 K b p xs) (w : World) (hr : k81.C w0 A xs.length xs) (hw : Below w0.heap.size w0 w) :
  Calls Tryz.prog 289 #[.slice A xs.length c, .func (.func K) #[] #[.pointer (some b)]] w fun e w' => e = .returned (.int .i64 (idxOf p xs)) ∧ Below w.heap.size w w' := by
 have HR := Aside0.mk hr
 have HP := Aside0.mk hp
 have HW := Aside0.mk hw
 have hm : xs.length ≤ 9223372036854775807 := hr.2.1
 clear hr hp hw
 go_enter Tryz.func289, Tryz.ntmps289
 go_wp2_with fail
 go_loopw [8] (fun v8 W => ∃ k : Nat, v8 = .int .i64 k ∧ k ≤ xs.length ∧ Aside0 (∀ j x, j < k → xs[j]? = some x → p x = false) ∧ Below w.heap.size w W) (fun v8 _ => xs.length - (intOf v8).toNat)
 case atStart => exact ⟨0, rfl, Nat.zero_le _, ⟨fun j x hj => by omega⟩, Below.refl _ _⟩
 case round =>
  obtain ⟨k, rfl, hk, HB, hb0⟩ := hrel
  have HBW := Aside0.mk hb0
  have HWR := Aside0.mk (below_step HW.out hb0)
  clear hb0
  by_cases hlt : k < xs.length
  · obtain ⟨x, hxe⟩ : ∃ x, xs[k]? = some x := ⟨_, List.getElem?_eq_getElem hlt⟩
    have HX := Aside0.mk hxe
    have HC := Kd.C_below HR.out HWR.out
    have hat := at_T81 HC (k : Int) (by omega) (by omega)
    rw [show rd_T81 xs (k : Int) = x by unfold rd_T81; rw [Int.toNat_natCast, List.getD_eq_getElem?_getD, hxe]; rfl, Int.toNat_natCast] at hat
    clear hxe HC
    obtain ⟨ad, A6, c6, rfl, h0, h1, h2, h3, h4, h5, h6, l6, g6⟩ := hat
    have HK0 := Aside0.mk (k81_mk wr x l6 g6)
    clear g6
    by_cases hpx : p x = true
    · have HPX := Aside0.mk hpx
      have hq := HP.out x _ wr (List.mem_of_getElem? HX.out) HWR.out HK0.out
      simp only [hpx] at hq
      have HQ := Aside0.mk hq
      clear hpx hq
      go_wp2_with ((with_reducible refine HQ.out.mono ?_); rintro e w1 ⟨rfl, hb1⟩; have HB1 := Aside0.mk hb1; clear hb1)
      go_ret
      exact ⟨by rw [idx_some HB.out HX.out HPX.out]; rfl, below_step HBW.out HB1.out⟩
    · have hpf : p x = false := by simpa using hpx
      have HPX := Aside0.mk hpf
      have hq := HP.out x _ wr (List.mem_of_getElem? HX.out) HWR.out HK0.out
      simp only [hpf] at hq
      have HQ := Aside0.mk hq
      clear hpx hq hpf
      go_wp2_with ((with_reducible refine HQ.out.mono ?_); rintro e w1 ⟨rfl, hb1⟩; have HB1 := Aside0.mk hb1; clear hb1)
      go_roundw
      case rel => exact ⟨k + 1, by go_num, by omega, ⟨idx_step HB.out HX.out HPX.out⟩, below_step HBW.out HB1.out⟩
      case measure => simp [intOf]; omega
  · go_wp2_with fail
    go_ret
    exact ⟨by rw [idx_none HB.out (by omega)]; rfl, HBW.out⟩
set_option maxRecDepth 100000 in
theorem containsFunc_Result (p : S81 → Bool) (K : FuncId) (b : Addr) (hK : ∀ (args : Array Value) (w : World), (callFunc K args).run Tryz.prog w = .ok (.enter K args) w) (w0 : World) (A : Option Addr) (c : Nat) (xs : List S81) (hp : PredResult w0 K b p xs) (w : World) (hr : k81.C w0 A xs.length xs) (hw : Below w0.heap.size w0 w) :
  Calls Tryz.prog 271 #[.slice A xs.length c, .func (.func K) #[] #[.pointer (some b)]] w fun e w' => e = .returned (.bool (xs.any p)) ∧ Below w.heap.size w w' := by
 rw [← idx_any p xs]
 obtain ⟨r, hr'⟩ : ∃ r, r = idxOf p xs := ⟨_, rfl⟩
 have HI := Aside0.mk (hr' ▸ indexFunc_Result p K b hK w0 A c xs hp w hr hw)
 rw [← hr']
 clear hr' hr hp hK hw
 go_enter Tryz.func271, Tryz.ntmps271
 go_wp2_with (go_at_call 289; (with_reducible refine HI.out.mono ?_); rintro e w1 ⟨rfl, hb1⟩; have HB1 := Aside0.mk hb1; clear hb1)
 go_ret
 exact ⟨rfl, HB1.out⟩
def MayResult (w0 : World) (M : FuncId) (m : S81 → Bool) (xs : List S81) : Prop :=
 ∀ (x : S81) (cs : List Value) (W : World), x ∈ xs → Below w0.heap.size w0 W → k81.K W x cs → Calls Tryz.prog M #[.agg cs.toArray] W fun e W' => e = .returned (.bool (m x)) ∧ Below W.heap.size W W'
set_option maxRecDepth 100000 in
theorem closure_Result (m : S81 → Bool) (M : FuncId) (hM : ∀ (args : Array Value) (w : World), (callFunc M args).run Tryz.prog w = .ok (.enter M args) w) (w0 : World) (xs : List S81) (hp : MayResult w0 M m xs) (b : Addr) (W0 : World) (hb0 : Below w0.heap.size w0 W0) (hcell : W0.cell? b = some (.func (.func M) #[] #[])) : PredResult W0 272 b (fun x => !m x) xs := by
 intro x cs W hx hb hk
 have hc := pw_cell_below hb hcell
 obtain ⟨cs', hcs⟩ : ∃ cs', cs' = cs := ⟨_, rfl⟩
 obtain ⟨A6, c6, rfl, l6, g6⟩ := k81_open hk
 have hnot : ∀ (x : Bool) (w : World), (Op.unary .not (.bool x)).run Tryz.prog w = .ok (.bool (!x)) w := fun _ _ => rfl
 have HP := Aside0.mk hp
 have HX := Aside0.mk hx
 have HB := Aside0.mk (below_step hb0 hb)
 have hc2 : ∀ o, (W.alloc o).cell? b = some (.func (.func M) #[] #[]) := fun o => pw_cell_below (below_alloc (Below.refl _ _) o) hc
 have HQ := Aside0.mk (HP.out x _ (W.alloc (Obj.cells #[.string x.f0, .string x.f1, .int .i64 x.f2, .int .i64 x.f3, .int .i64 x.f4, .int .i64 x.f5, .slice A6 x.f6.length c6] 81 (0, 0))) hx (below_alloc HB.out (Obj.cells #[.string x.f0, .string x.f1, .int .i64 x.f2, .int .i64 x.f3, .int .i64 x.f4, .int .i64 x.f5, .slice A6 x.f6.length c6] 81 (0, 0))) (k81_mk _ x l6 (Kd.C_below g6 (below_alloc (Below.refl _ _) (Obj.cells #[.string x.f0, .string x.f1, .int .i64 x.f2, .int .i64 x.f3, .int .i64 x.f4, .int .i64 x.f5, .slice A6 x.f6.length c6] 81 (0, 0))))))
 clear hp hx hcs hb g6
 go_enter Tryz.func272, Tryz.ntmps272
 go_wp2_with ((with_reducible refine HQ.out.mono ?_); rintro e w1 ⟨rfl, hb1⟩; have HB1 := Aside0.mk hb1; clear hb1)
 go_ret
 exact ⟨rfl, below_step (below_alloc (Below.refl _ _) _) HB1.out⟩
set_option maxRecDepth 100000 in
theorem all_Result (m : S81 → Bool) (M : FuncId) (hM : ∀ (args : Array Value) (w : World), (callFunc M args).run Tryz.prog w = .ok (.enter M args) w) (w0 W : World) (A : Option Addr) (c : Nat) (xs : List S81) (n : Int) (b : Bool) (h : (decide ((xs.length : Int) ≤ n) && xs.all m) = b) (hp : MayResult w0 M m xs) (hC : k81.C w0 A xs.length xs) (hb : Below w0.heap.size w0 W) :
   Calls Tryz.prog 247 #[.slice A xs.length c, .int .i64 n, .func (.func M) #[] #[]] W fun e W' => e = .returned (.bool b) ∧ Below W.heap.size W W' := by
 subst h
 have HB := Aside0.mk (below_alloc hb (Obj.cells #[.func (.func M) #[] #[]] 162 (0, 0)))
 have HQ := Aside0.mk (containsFunc_Result (fun x => !m x) 272 ⟨W.heap.size, 0, none⟩ (fun _ _ => rfl) (W.alloc (Obj.cells #[.func (.func M) #[] #[]] 162 (0, 0))) A c xs (closure_Result m M hM w0 xs hp ⟨W.heap.size, 0, none⟩ (W.alloc (Obj.cells #[.func (.func M) #[] #[]] 162 (0, 0))) HB.out (blk_cell (heap_alloc_new W (Obj.cells #[.func (.func M) #[] #[]] 162 (0, 0))) 0)) (W.alloc (Obj.cells #[.func (.func M) #[] #[]] 162 (0, 0))) (Kd.C_below hC HB.out) (Below.refl _ _))
 have ha : (xs.any fun x => !m x) = !xs.all m := by rw [← List.not_all_eq_any_not]
 rw [ha] at HQ
 have hm : xs.length ≤ 9223372036854775807 := hC.2.1
 clear hp hC hb hM ha
 go_enter Tryz.func247, Tryz.ntmps247
 cases h1 : decide ((xs.length : Int) ≤ n) with
 | false =>
   go_wp2_with fail
   go_ret
   exact ⟨rfl, below_alloc (Below.refl _ _) _⟩
 | true =>
   go_wp2_with ((with_reducible refine HQ.out.mono ?_); rintro e w1 ⟨rfl, hb1⟩; have HB1 := Aside0.mk hb1; clear hb1)
   go_ret
   exact ⟨by simp, below_step (below_alloc (Below.refl _ _) _) HB1.out⟩
end Go.Proofs.YtmneemhplffemaaGreatDoorRR.Ext
namespace Go.Proofs.YtmneemhplffemaaGreatDoorRR.Ext
open Go.RowKit Go.Proofs.YtmneemhplffemaaGreatDoorRRW.PrintWords Go.Proofs.YtmneemhplffemaaGreatDoorRR.Ki
def PredItem (w0 : World) (K : FuncId) (b : Addr) (p : S91 → Bool) (xs : List S91) : Prop :=
 ∀ (x : S91) (cs : List Value) (W : World), x ∈ xs → Below w0.heap.size w0 W → k91.K W x cs → Calls Tryz.prog K #[.agg cs.toArray, .pointer (some b)] W fun e W' => e = .returned (.bool (p x)) ∧ Below W.heap.size W W'
set_option maxRecDepth 100000 in
set_option maxHeartbeats 1000000 in
theorem indexFunc_Item (p : S91 → Bool) (K : FuncId) (b : Addr) (hK : ∀ (args : Array Value) (w : World), (callFunc K args).run Tryz.prog w = .ok (.enter K args) w) (w0 : World) (A : Option Addr) (c : Nat) (xs : List S91) (hp : PredItem w0 K b p xs) (w : World) (hr : k91.C w0 A xs.length xs) (hw : Below w0.heap.size w0 w) :
  Calls Tryz.prog 292 #[.slice A xs.length c, .func (.func K) #[] #[.pointer (some b)]] w fun e w' => e = .returned (.int .i64 (idxOf p xs)) ∧ Below w.heap.size w w' := by
 have HR := Aside0.mk hr
 have HP := Aside0.mk hp
 have HW := Aside0.mk hw
 have hm : xs.length ≤ 9223372036854775807 := hr.2.1
 clear hr hp hw
 go_enter Tryz.func292, Tryz.ntmps292
 go_wp2_with fail
 go_loopw [8] (fun v8 W => ∃ k : Nat, v8 = .int .i64 k ∧ k ≤ xs.length ∧ Aside0 (∀ j x, j < k → xs[j]? = some x → p x = false) ∧ Below w.heap.size w W) (fun v8 _ => xs.length - (intOf v8).toNat)
 case atStart => exact ⟨0, rfl, Nat.zero_le _, ⟨fun j x hj => by omega⟩, Below.refl _ _⟩
 case round =>
  obtain ⟨k, rfl, hk, HB, hb0⟩ := hrel
  have HBW := Aside0.mk hb0
  have HWR := Aside0.mk (below_step HW.out hb0)
  clear hb0
  by_cases hlt : k < xs.length
  · obtain ⟨x, hxe⟩ : ∃ x, xs[k]? = some x := ⟨_, List.getElem?_eq_getElem hlt⟩
    have HX := Aside0.mk hxe
    have HC := Kd.C_below HR.out HWR.out
    have hat := at_T91 HC (k : Int) (by omega) (by omega)
    rw [show rd_T91 xs (k : Int) = x by unfold rd_T91; rw [Int.toNat_natCast, List.getD_eq_getElem?_getD, hxe]; rfl, Int.toNat_natCast] at hat
    clear hxe HC
    obtain ⟨ad, A3, c3, A4, c4, rfl, h0, h1, h2, h3, h4, l3, g3, l4, g4⟩ := hat
    have HK0 := Aside0.mk (k91_mk wr x l3 g3 l4 g4)
    clear g3 g4
    by_cases hpx : p x = true
    · have HPX := Aside0.mk hpx
      have hq := HP.out x _ wr (List.mem_of_getElem? HX.out) HWR.out HK0.out
      simp only [hpx] at hq
      have HQ := Aside0.mk hq
      clear hpx hq
      go_wp2_with ((with_reducible refine HQ.out.mono ?_); rintro e w1 ⟨rfl, hb1⟩; have HB1 := Aside0.mk hb1; clear hb1)
      go_ret
      exact ⟨by rw [idx_some HB.out HX.out HPX.out]; rfl, below_step HBW.out HB1.out⟩
    · have hpf : p x = false := by simpa using hpx
      have HPX := Aside0.mk hpf
      have hq := HP.out x _ wr (List.mem_of_getElem? HX.out) HWR.out HK0.out
      simp only [hpf] at hq
      have HQ := Aside0.mk hq
      clear hpx hq hpf
      go_wp2_with ((with_reducible refine HQ.out.mono ?_); rintro e w1 ⟨rfl, hb1⟩; have HB1 := Aside0.mk hb1; clear hb1)
      go_roundw
      case rel => exact ⟨k + 1, by go_num, by omega, ⟨idx_step HB.out HX.out HPX.out⟩, below_step HBW.out HB1.out⟩
      case measure => simp [intOf]; omega
  · go_wp2_with fail
    go_ret
    exact ⟨by rw [idx_none HB.out (by omega)]; rfl, HBW.out⟩
set_option maxRecDepth 100000 in
theorem containsFunc_Item (p : S91 → Bool) (K : FuncId) (b : Addr) (hK : ∀ (args : Array Value) (w : World), (callFunc K args).run Tryz.prog w = .ok (.enter K args) w) (w0 : World) (A : Option Addr) (c : Nat) (xs : List S91) (hp : PredItem w0 K b p xs) (w : World) (hr : k91.C w0 A xs.length xs) (hw : Below w0.heap.size w0 w) :
  Calls Tryz.prog 280 #[.slice A xs.length c, .func (.func K) #[] #[.pointer (some b)]] w fun e w' => e = .returned (.bool (xs.any p)) ∧ Below w.heap.size w w' := by
 rw [← idx_any p xs]
 obtain ⟨r, hr'⟩ : ∃ r, r = idxOf p xs := ⟨_, rfl⟩
 have HI := Aside0.mk (hr' ▸ indexFunc_Item p K b hK w0 A c xs hp w hr hw)
 rw [← hr']
 clear hr' hr hp hK hw
 go_enter Tryz.func280, Tryz.ntmps280
 go_wp2_with (go_at_call 292; (with_reducible refine HI.out.mono ?_); rintro e w1 ⟨rfl, hb1⟩; have HB1 := Aside0.mk hb1; clear hb1)
 go_ret
 exact ⟨rfl, HB1.out⟩
def MayItem (w0 : World) (M : FuncId) (m : S91 → Bool) (xs : List S91) : Prop :=
 ∀ (x : S91) (cs : List Value) (W : World), x ∈ xs → Below w0.heap.size w0 W → k91.K W x cs → Calls Tryz.prog M #[.agg cs.toArray] W fun e W' => e = .returned (.bool (m x)) ∧ Below W.heap.size W W'
set_option maxRecDepth 100000 in
theorem closure_Item (m : S91 → Bool) (M : FuncId) (hM : ∀ (args : Array Value) (w : World), (callFunc M args).run Tryz.prog w = .ok (.enter M args) w) (w0 : World) (xs : List S91) (hp : MayItem w0 M m xs) (b : Addr) (W0 : World) (hb0 : Below w0.heap.size w0 W0) (hcell : W0.cell? b = some (.func (.func M) #[] #[])) : PredItem W0 281 b (fun x => !m x) xs := by
 intro x cs W hx hb hk
 have hc := pw_cell_below hb hcell
 obtain ⟨cs', hcs⟩ : ∃ cs', cs' = cs := ⟨_, rfl⟩
 obtain ⟨A3, c3, A4, c4, rfl, l3, g3, l4, g4⟩ := k91_open hk
 have hnot : ∀ (x : Bool) (w : World), (Op.unary .not (.bool x)).run Tryz.prog w = .ok (.bool (!x)) w := fun _ _ => rfl
 have HP := Aside0.mk hp
 have HX := Aside0.mk hx
 have HB := Aside0.mk (below_step hb0 hb)
 have hc2 : ∀ o, (W.alloc o).cell? b = some (.func (.func M) #[] #[]) := fun o => pw_cell_below (below_alloc (Below.refl _ _) o) hc
 have HQ := Aside0.mk (HP.out x _ (W.alloc (Obj.cells #[.int .i64 x.f0, .int .i64 x.f1, .bool x.f2, .slice A3 x.f3.length c3, .slice A4 x.f4.length c4] 91 (0, 0))) hx (below_alloc HB.out (Obj.cells #[.int .i64 x.f0, .int .i64 x.f1, .bool x.f2, .slice A3 x.f3.length c3, .slice A4 x.f4.length c4] 91 (0, 0))) (k91_mk _ x l3 (Kd.C_below g3 (below_alloc (Below.refl _ _) (Obj.cells #[.int .i64 x.f0, .int .i64 x.f1, .bool x.f2, .slice A3 x.f3.length c3, .slice A4 x.f4.length c4] 91 (0, 0)))) l4 (Kd.C_below g4 (below_alloc (Below.refl _ _) (Obj.cells #[.int .i64 x.f0, .int .i64 x.f1, .bool x.f2, .slice A3 x.f3.length c3, .slice A4 x.f4.length c4] 91 (0, 0))))))
 clear hp hx hcs hb g3 g4
 go_enter Tryz.func281, Tryz.ntmps281
 go_wp2_with ((with_reducible refine HQ.out.mono ?_); rintro e w1 ⟨rfl, hb1⟩; have HB1 := Aside0.mk hb1; clear hb1)
 go_ret
 exact ⟨rfl, below_step (below_alloc (Below.refl _ _) _) HB1.out⟩
set_option maxRecDepth 100000 in
theorem all_Item (m : S91 → Bool) (M : FuncId) (hM : ∀ (args : Array Value) (w : World), (callFunc M args).run Tryz.prog w = .ok (.enter M args) w) (w0 W : World) (A : Option Addr) (c : Nat) (xs : List S91) (n : Int) (b : Bool) (h : (decide ((xs.length : Int) ≤ n) && xs.all m) = b) (hp : MayItem w0 M m xs) (hC : k91.C w0 A xs.length xs) (hb : Below w0.heap.size w0 W) :
   Calls Tryz.prog 255 #[.slice A xs.length c, .int .i64 n, .func (.func M) #[] #[]] W fun e W' => e = .returned (.bool b) ∧ Below W.heap.size W W' := by
 subst h
 have HB := Aside0.mk (below_alloc hb (Obj.cells #[.func (.func M) #[] #[]] 123 (0, 0)))
 have HQ := Aside0.mk (containsFunc_Item (fun x => !m x) 281 ⟨W.heap.size, 0, none⟩ (fun _ _ => rfl) (W.alloc (Obj.cells #[.func (.func M) #[] #[]] 123 (0, 0))) A c xs (closure_Item m M hM w0 xs hp ⟨W.heap.size, 0, none⟩ (W.alloc (Obj.cells #[.func (.func M) #[] #[]] 123 (0, 0))) HB.out (blk_cell (heap_alloc_new W (Obj.cells #[.func (.func M) #[] #[]] 123 (0, 0))) 0)) (W.alloc (Obj.cells #[.func (.func M) #[] #[]] 123 (0, 0))) (Kd.C_below hC HB.out) (Below.refl _ _))
 have ha : (xs.any fun x => !m x) = !xs.all m := by rw [← List.not_all_eq_any_not]
 rw [ha] at HQ
 have hm : xs.length ≤ 9223372036854775807 := hC.2.1
 clear hp hC hb hM ha
 go_enter Tryz.func255, Tryz.ntmps255
 cases h1 : decide ((xs.length : Int) ≤ n) with
 | false =>
   go_wp2_with fail
   go_ret
   exact ⟨rfl, below_alloc (Below.refl _ _) _⟩
 | true =>
   go_wp2_with ((with_reducible refine HQ.out.mono ?_); rintro e w1 ⟨rfl, hb1⟩; have HB1 := Aside0.mk hb1; clear hb1)
   go_ret
   exact ⟨by simp, below_step (below_alloc (Below.refl _ _) _) HB1.out⟩
end Go.Proofs.YtmneemhplffemaaGreatDoorRR.Ext
namespace Go.Proofs.YtmneemhplffemaaGreatDoorRR.Ext
open Go.RowKit Go.Proofs.YtmneemhplffemaaGreatDoorRRW.PrintWords Go.Proofs.YtmneemhplffemaaGreatDoorRR.Ki
def PredPart (w0 : World) (K : FuncId) (b : Addr) (p : S86 → Bool) (xs : List S86) : Prop :=
 ∀ (x : S86) (cs : List Value) (W : World), x ∈ xs → Below w0.heap.size w0 W → k86.K W x cs → Calls Tryz.prog K #[.agg cs.toArray, .pointer (some b)] W fun e W' => e = .returned (.bool (p x)) ∧ Below W.heap.size W W'
set_option maxRecDepth 100000 in
set_option maxHeartbeats 1000000 in
theorem indexFunc_Part (p : S86 → Bool) (K : FuncId) (b : Addr) (hK : ∀ (args : Array Value) (w : World), (callFunc K args).run Tryz.prog w = .ok (.enter K args) w) (w0 : World) (A : Option Addr) (c : Nat) (xs : List S86) (hp : PredPart w0 K b p xs) (w : World) (hr : k86.C w0 A xs.length xs) (hw : Below w0.heap.size w0 w) :
  Calls Tryz.prog 301 #[.slice A xs.length c, .func (.func K) #[] #[.pointer (some b)]] w fun e w' => e = .returned (.int .i64 (idxOf p xs)) ∧ Below w.heap.size w w' := by
 have HR := Aside0.mk hr
 have HP := Aside0.mk hp
 have HW := Aside0.mk hw
 have hm : xs.length ≤ 9223372036854775807 := hr.2.1
 clear hr hp hw
 go_enter Tryz.func301, Tryz.ntmps301
 go_wp2_with fail
 go_loopw [8] (fun v8 W => ∃ k : Nat, v8 = .int .i64 k ∧ k ≤ xs.length ∧ Aside0 (∀ j x, j < k → xs[j]? = some x → p x = false) ∧ Below w.heap.size w W) (fun v8 _ => xs.length - (intOf v8).toNat)
 case atStart => exact ⟨0, rfl, Nat.zero_le _, ⟨fun j x hj => by omega⟩, Below.refl _ _⟩
 case round =>
  obtain ⟨k, rfl, hk, HB, hb0⟩ := hrel
  have HBW := Aside0.mk hb0
  have HWR := Aside0.mk (below_step HW.out hb0)
  clear hb0
  by_cases hlt : k < xs.length
  · obtain ⟨x, hxe⟩ : ∃ x, xs[k]? = some x := ⟨_, List.getElem?_eq_getElem hlt⟩
    have HX := Aside0.mk hxe
    have HC := Kd.C_below HR.out HWR.out
    have hat := at_T86 HC (k : Int) (by omega) (by omega)
    rw [show rd_T86 xs (k : Int) = x by unfold rd_T86; rw [Int.toNat_natCast, List.getD_eq_getElem?_getD, hxe]; rfl, Int.toNat_natCast] at hat
    clear hxe HC
    obtain ⟨ad, A4, c4, rfl, h0, h1, h2, h3, h4, l4, g4⟩ := hat
    have HK0 := Aside0.mk (k86_mk wr x l4 g4)
    clear g4
    by_cases hpx : p x = true
    · have HPX := Aside0.mk hpx
      have hq := HP.out x _ wr (List.mem_of_getElem? HX.out) HWR.out HK0.out
      simp only [hpx] at hq
      have HQ := Aside0.mk hq
      clear hpx hq
      go_wp2_with ((with_reducible refine HQ.out.mono ?_); rintro e w1 ⟨rfl, hb1⟩; have HB1 := Aside0.mk hb1; clear hb1)
      go_ret
      exact ⟨by rw [idx_some HB.out HX.out HPX.out]; rfl, below_step HBW.out HB1.out⟩
    · have hpf : p x = false := by simpa using hpx
      have HPX := Aside0.mk hpf
      have hq := HP.out x _ wr (List.mem_of_getElem? HX.out) HWR.out HK0.out
      simp only [hpf] at hq
      have HQ := Aside0.mk hq
      clear hpx hq hpf
      go_wp2_with ((with_reducible refine HQ.out.mono ?_); rintro e w1 ⟨rfl, hb1⟩; have HB1 := Aside0.mk hb1; clear hb1)
      go_roundw
      case rel => exact ⟨k + 1, by go_num, by omega, ⟨idx_step HB.out HX.out HPX.out⟩, below_step HBW.out HB1.out⟩
      case measure => simp [intOf]; omega
  · go_wp2_with fail
    go_ret
    exact ⟨by rw [idx_none HB.out (by omega)]; rfl, HBW.out⟩
set_option maxRecDepth 100000 in
theorem containsFunc_Part (p : S86 → Bool) (K : FuncId) (b : Addr) (hK : ∀ (args : Array Value) (w : World), (callFunc K args).run Tryz.prog w = .ok (.enter K args) w) (w0 : World) (A : Option Addr) (c : Nat) (xs : List S86) (hp : PredPart w0 K b p xs) (w : World) (hr : k86.C w0 A xs.length xs) (hw : Below w0.heap.size w0 w) :
  Calls Tryz.prog 293 #[.slice A xs.length c, .func (.func K) #[] #[.pointer (some b)]] w fun e w' => e = .returned (.bool (xs.any p)) ∧ Below w.heap.size w w' := by
 rw [← idx_any p xs]
 obtain ⟨r, hr'⟩ : ∃ r, r = idxOf p xs := ⟨_, rfl⟩
 have HI := Aside0.mk (hr' ▸ indexFunc_Part p K b hK w0 A c xs hp w hr hw)
 rw [← hr']
 clear hr' hr hp hK hw
 go_enter Tryz.func293, Tryz.ntmps293
 go_wp2_with (go_at_call 301; (with_reducible refine HI.out.mono ?_); rintro e w1 ⟨rfl, hb1⟩; have HB1 := Aside0.mk hb1; clear hb1)
 go_ret
 exact ⟨rfl, HB1.out⟩
def MayPart (w0 : World) (M : FuncId) (m : S86 → Bool) (xs : List S86) : Prop :=
 ∀ (x : S86) (cs : List Value) (W : World), x ∈ xs → Below w0.heap.size w0 W → k86.K W x cs → Calls Tryz.prog M #[.agg cs.toArray] W fun e W' => e = .returned (.bool (m x)) ∧ Below W.heap.size W W'
set_option maxRecDepth 100000 in
theorem closure_Part (m : S86 → Bool) (M : FuncId) (hM : ∀ (args : Array Value) (w : World), (callFunc M args).run Tryz.prog w = .ok (.enter M args) w) (w0 : World) (xs : List S86) (hp : MayPart w0 M m xs) (b : Addr) (W0 : World) (hb0 : Below w0.heap.size w0 W0) (hcell : W0.cell? b = some (.func (.func M) #[] #[])) : PredPart W0 294 b (fun x => !m x) xs := by
 intro x cs W hx hb hk
 have hc := pw_cell_below hb hcell
 obtain ⟨cs', hcs⟩ : ∃ cs', cs' = cs := ⟨_, rfl⟩
 obtain ⟨A4, c4, rfl, l4, g4⟩ := k86_open hk
 have hnot : ∀ (x : Bool) (w : World), (Op.unary .not (.bool x)).run Tryz.prog w = .ok (.bool (!x)) w := fun _ _ => rfl
 have HP := Aside0.mk hp
 have HX := Aside0.mk hx
 have HB := Aside0.mk (below_step hb0 hb)
 have hc2 : ∀ o, (W.alloc o).cell? b = some (.func (.func M) #[] #[]) := fun o => pw_cell_below (below_alloc (Below.refl _ _) o) hc
 have HQ := Aside0.mk (HP.out x _ (W.alloc (Obj.cells #[.int .i64 x.f0, .int .i64 x.f1.f0, .string x.f1.f1, .int .i64 x.f1.f2, .slice A4 x.f1.f3.length c4] 86 (0, 0))) hx (below_alloc HB.out (Obj.cells #[.int .i64 x.f0, .int .i64 x.f1.f0, .string x.f1.f1, .int .i64 x.f1.f2, .slice A4 x.f1.f3.length c4] 86 (0, 0))) (k86_mk _ x l4 (Kd.C_below g4 (below_alloc (Below.refl _ _) (Obj.cells #[.int .i64 x.f0, .int .i64 x.f1.f0, .string x.f1.f1, .int .i64 x.f1.f2, .slice A4 x.f1.f3.length c4] 86 (0, 0))))))
 clear hp hx hcs hb g4
 go_enter Tryz.func294, Tryz.ntmps294
 go_wp2_with ((with_reducible refine HQ.out.mono ?_); rintro e w1 ⟨rfl, hb1⟩; have HB1 := Aside0.mk hb1; clear hb1)
 go_ret
 exact ⟨rfl, below_step (below_alloc (Below.refl _ _) _) HB1.out⟩
set_option maxRecDepth 100000 in
theorem all_Part (m : S86 → Bool) (M : FuncId) (hM : ∀ (args : Array Value) (w : World), (callFunc M args).run Tryz.prog w = .ok (.enter M args) w) (w0 W : World) (A : Option Addr) (c : Nat) (xs : List S86) (n : Int) (b : Bool) (h : (decide ((xs.length : Int) ≤ n) && xs.all m) = b) (hp : MayPart w0 M m xs) (hC : k86.C w0 A xs.length xs) (hb : Below w0.heap.size w0 W) :
   Calls Tryz.prog 282 #[.slice A xs.length c, .int .i64 n, .func (.func M) #[] #[]] W fun e W' => e = .returned (.bool b) ∧ Below W.heap.size W W' := by
 subst h
 have HB := Aside0.mk (below_alloc hb (Obj.cells #[.func (.func M) #[] #[]] 284 (0, 0)))
 have HQ := Aside0.mk (containsFunc_Part (fun x => !m x) 294 ⟨W.heap.size, 0, none⟩ (fun _ _ => rfl) (W.alloc (Obj.cells #[.func (.func M) #[] #[]] 284 (0, 0))) A c xs (closure_Part m M hM w0 xs hp ⟨W.heap.size, 0, none⟩ (W.alloc (Obj.cells #[.func (.func M) #[] #[]] 284 (0, 0))) HB.out (blk_cell (heap_alloc_new W (Obj.cells #[.func (.func M) #[] #[]] 284 (0, 0))) 0)) (W.alloc (Obj.cells #[.func (.func M) #[] #[]] 284 (0, 0))) (Kd.C_below hC HB.out) (Below.refl _ _))
 have ha : (xs.any fun x => !m x) = !xs.all m := by rw [← List.not_all_eq_any_not]
 rw [ha] at HQ
 have hm : xs.length ≤ 9223372036854775807 := hC.2.1
 clear hp hC hb hM ha
 go_enter Tryz.func282, Tryz.ntmps282
 cases h1 : decide ((xs.length : Int) ≤ n) with
 | false =>
   go_wp2_with fail
   go_ret
   exact ⟨rfl, below_alloc (Below.refl _ _) _⟩
 | true =>
   go_wp2_with ((with_reducible refine HQ.out.mono ?_); rintro e w1 ⟨rfl, hb1⟩; have HB1 := Aside0.mk hb1; clear hb1)
   go_ret
   exact ⟨by simp, below_step (below_alloc (Below.refl _ _) _) HB1.out⟩
end Go.Proofs.YtmneemhplffemaaGreatDoorRR.Ext
namespace Go.Proofs.YtmneemhplffemaaGreatDoorRR.Ext
open Go.RowKit Go.Proofs.YtmneemhplffemaaGreatDoorRRW.PrintWords Go.Proofs.YtmneemhplffemaaGreatDoorRR.Ki
def PredTagged (w0 : World) (K : FuncId) (b : Addr) (p : S148 → Bool) (xs : List S148) : Prop :=
 ∀ (x : S148) (cs : List Value) (W : World), x ∈ xs → Below w0.heap.size w0 W → k148.K W x cs → Calls Tryz.prog K #[.agg cs.toArray, .pointer (some b)] W fun e W' => e = .returned (.bool (p x)) ∧ Below W.heap.size W W'
set_option maxRecDepth 100000 in
set_option maxHeartbeats 1000000 in
theorem indexFunc_Tagged (p : S148 → Bool) (K : FuncId) (b : Addr) (hK : ∀ (args : Array Value) (w : World), (callFunc K args).run Tryz.prog w = .ok (.enter K args) w) (w0 : World) (A : Option Addr) (c : Nat) (xs : List S148) (hp : PredTagged w0 K b p xs) (w : World) (hr : k148.C w0 A xs.length xs) (hw : Below w0.heap.size w0 w) :
  Calls Tryz.prog 302 #[.slice A xs.length c, .func (.func K) #[] #[.pointer (some b)]] w fun e w' => e = .returned (.int .i64 (idxOf p xs)) ∧ Below w.heap.size w w' := by
 have HR := Aside0.mk hr
 have HP := Aside0.mk hp
 have HW := Aside0.mk hw
 have hm : xs.length ≤ 9223372036854775807 := hr.2.1
 clear hr hp hw
 go_enter Tryz.func302, Tryz.ntmps302
 go_wp2_with fail
 go_loopw [8] (fun v8 W => ∃ k : Nat, v8 = .int .i64 k ∧ k ≤ xs.length ∧ Aside0 (∀ j x, j < k → xs[j]? = some x → p x = false) ∧ Below w.heap.size w W) (fun v8 _ => xs.length - (intOf v8).toNat)
 case atStart => exact ⟨0, rfl, Nat.zero_le _, ⟨fun j x hj => by omega⟩, Below.refl _ _⟩
 case round =>
  obtain ⟨k, rfl, hk, HB, hb0⟩ := hrel
  have HBW := Aside0.mk hb0
  have HWR := Aside0.mk (below_step HW.out hb0)
  clear hb0
  by_cases hlt : k < xs.length
  · obtain ⟨x, hxe⟩ : ∃ x, xs[k]? = some x := ⟨_, List.getElem?_eq_getElem hlt⟩
    have HX := Aside0.mk hxe
    have HC := Kd.C_below HR.out HWR.out
    have hat := at_T148 HC (k : Int) (by omega) (by omega)
    rw [show rd_T148 xs (k : Int) = x by unfold rd_T148; rw [Int.toNat_natCast, List.getD_eq_getElem?_getD, hxe]; rfl, Int.toNat_natCast] at hat
    clear hxe HC
    obtain ⟨ad, A4, c4, rfl, h0, h1, h2, h3, h4, l4, g4⟩ := hat
    have HK0 := Aside0.mk (k148_mk wr x l4 g4)
    clear g4
    by_cases hpx : p x = true
    · have HPX := Aside0.mk hpx
      have hq := HP.out x _ wr (List.mem_of_getElem? HX.out) HWR.out HK0.out
      simp only [hpx] at hq
      have HQ := Aside0.mk hq
      clear hpx hq
      go_wp2_with ((with_reducible refine HQ.out.mono ?_); rintro e w1 ⟨rfl, hb1⟩; have HB1 := Aside0.mk hb1; clear hb1)
      go_ret
      exact ⟨by rw [idx_some HB.out HX.out HPX.out]; rfl, below_step HBW.out HB1.out⟩
    · have hpf : p x = false := by simpa using hpx
      have HPX := Aside0.mk hpf
      have hq := HP.out x _ wr (List.mem_of_getElem? HX.out) HWR.out HK0.out
      simp only [hpf] at hq
      have HQ := Aside0.mk hq
      clear hpx hq hpf
      go_wp2_with ((with_reducible refine HQ.out.mono ?_); rintro e w1 ⟨rfl, hb1⟩; have HB1 := Aside0.mk hb1; clear hb1)
      go_roundw
      case rel => exact ⟨k + 1, by go_num, by omega, ⟨idx_step HB.out HX.out HPX.out⟩, below_step HBW.out HB1.out⟩
      case measure => simp [intOf]; omega
  · go_wp2_with fail
    go_ret
    exact ⟨by rw [idx_none HB.out (by omega)]; rfl, HBW.out⟩
set_option maxRecDepth 100000 in
theorem containsFunc_Tagged (p : S148 → Bool) (K : FuncId) (b : Addr) (hK : ∀ (args : Array Value) (w : World), (callFunc K args).run Tryz.prog w = .ok (.enter K args) w) (w0 : World) (A : Option Addr) (c : Nat) (xs : List S148) (hp : PredTagged w0 K b p xs) (w : World) (hr : k148.C w0 A xs.length xs) (hw : Below w0.heap.size w0 w) :
  Calls Tryz.prog 295 #[.slice A xs.length c, .func (.func K) #[] #[.pointer (some b)]] w fun e w' => e = .returned (.bool (xs.any p)) ∧ Below w.heap.size w w' := by
 rw [← idx_any p xs]
 obtain ⟨r, hr'⟩ : ∃ r, r = idxOf p xs := ⟨_, rfl⟩
 have HI := Aside0.mk (hr' ▸ indexFunc_Tagged p K b hK w0 A c xs hp w hr hw)
 rw [← hr']
 clear hr' hr hp hK hw
 go_enter Tryz.func295, Tryz.ntmps295
 go_wp2_with (go_at_call 302; (with_reducible refine HI.out.mono ?_); rintro e w1 ⟨rfl, hb1⟩; have HB1 := Aside0.mk hb1; clear hb1)
 go_ret
 exact ⟨rfl, HB1.out⟩
def MayTagged (w0 : World) (M : FuncId) (m : S148 → Bool) (xs : List S148) : Prop :=
 ∀ (x : S148) (cs : List Value) (W : World), x ∈ xs → Below w0.heap.size w0 W → k148.K W x cs → Calls Tryz.prog M #[.agg cs.toArray] W fun e W' => e = .returned (.bool (m x)) ∧ Below W.heap.size W W'
set_option maxRecDepth 100000 in
theorem closure_Tagged (m : S148 → Bool) (M : FuncId) (hM : ∀ (args : Array Value) (w : World), (callFunc M args).run Tryz.prog w = .ok (.enter M args) w) (w0 : World) (xs : List S148) (hp : MayTagged w0 M m xs) (b : Addr) (W0 : World) (hb0 : Below w0.heap.size w0 W0) (hcell : W0.cell? b = some (.func (.func M) #[] #[])) : PredTagged W0 296 b (fun x => !m x) xs := by
 intro x cs W hx hb hk
 have hc := pw_cell_below hb hcell
 obtain ⟨cs', hcs⟩ : ∃ cs', cs' = cs := ⟨_, rfl⟩
 obtain ⟨A4, c4, rfl, l4, g4⟩ := k148_open hk
 have hnot : ∀ (x : Bool) (w : World), (Op.unary .not (.bool x)).run Tryz.prog w = .ok (.bool (!x)) w := fun _ _ => rfl
 have HP := Aside0.mk hp
 have HX := Aside0.mk hx
 have HB := Aside0.mk (below_step hb0 hb)
 have hc2 : ∀ o, (W.alloc o).cell? b = some (.func (.func M) #[] #[]) := fun o => pw_cell_below (below_alloc (Below.refl _ _) o) hc
 have HQ := Aside0.mk (HP.out x _ (W.alloc (Obj.cells #[.int .i64 x.f0.f0, .string x.f0.f1, .string x.f0.f2, .int .i64 x.f0.f3, .slice A4 x.f1.length c4] 148 (0, 0))) hx (below_alloc HB.out (Obj.cells #[.int .i64 x.f0.f0, .string x.f0.f1, .string x.f0.f2, .int .i64 x.f0.f3, .slice A4 x.f1.length c4] 148 (0, 0))) (k148_mk _ x l4 (Kd.C_below g4 (below_alloc (Below.refl _ _) (Obj.cells #[.int .i64 x.f0.f0, .string x.f0.f1, .string x.f0.f2, .int .i64 x.f0.f3, .slice A4 x.f1.length c4] 148 (0, 0))))))
 clear hp hx hcs hb g4
 go_enter Tryz.func296, Tryz.ntmps296
 go_wp2_with ((with_reducible refine HQ.out.mono ?_); rintro e w1 ⟨rfl, hb1⟩; have HB1 := Aside0.mk hb1; clear hb1)
 go_ret
 exact ⟨rfl, below_step (below_alloc (Below.refl _ _) _) HB1.out⟩
set_option maxRecDepth 100000 in
theorem all_Tagged (m : S148 → Bool) (M : FuncId) (hM : ∀ (args : Array Value) (w : World), (callFunc M args).run Tryz.prog w = .ok (.enter M args) w) (w0 W : World) (A : Option Addr) (c : Nat) (xs : List S148) (n : Int) (b : Bool) (h : (decide ((xs.length : Int) ≤ n) && xs.all m) = b) (hp : MayTagged w0 M m xs) (hC : k148.C w0 A xs.length xs) (hb : Below w0.heap.size w0 W) :
   Calls Tryz.prog 284 #[.slice A xs.length c, .int .i64 n, .func (.func M) #[] #[]] W fun e W' => e = .returned (.bool b) ∧ Below W.heap.size W W' := by
 subst h
 have HB := Aside0.mk (below_alloc hb (Obj.cells #[.func (.func M) #[] #[]] 209 (0, 0)))
 have HQ := Aside0.mk (containsFunc_Tagged (fun x => !m x) 296 ⟨W.heap.size, 0, none⟩ (fun _ _ => rfl) (W.alloc (Obj.cells #[.func (.func M) #[] #[]] 209 (0, 0))) A c xs (closure_Tagged m M hM w0 xs hp ⟨W.heap.size, 0, none⟩ (W.alloc (Obj.cells #[.func (.func M) #[] #[]] 209 (0, 0))) HB.out (blk_cell (heap_alloc_new W (Obj.cells #[.func (.func M) #[] #[]] 209 (0, 0))) 0)) (W.alloc (Obj.cells #[.func (.func M) #[] #[]] 209 (0, 0))) (Kd.C_below hC HB.out) (Below.refl _ _))
 have ha : (xs.any fun x => !m x) = !xs.all m := by rw [← List.not_all_eq_any_not]
 rw [ha] at HQ
 have hm : xs.length ≤ 9223372036854775807 := hC.2.1
 clear hp hC hb hM ha
 go_enter Tryz.func284, Tryz.ntmps284
 cases h1 : decide ((xs.length : Int) ≤ n) with
 | false =>
   go_wp2_with fail
   go_ret
   exact ⟨rfl, below_alloc (Below.refl _ _) _⟩
 | true =>
   go_wp2_with ((with_reducible refine HQ.out.mono ?_); rintro e w1 ⟨rfl, hb1⟩; have HB1 := Aside0.mk hb1; clear hb1)
   go_ret
   exact ⟨by simp, below_step (below_alloc (Below.refl _ _) _) HB1.out⟩
end Go.Proofs.YtmneemhplffemaaGreatDoorRR.Ext
namespace Go.Proofs.YtmneemhplffemaaGreatDoorRR.Ext
open Go.RowKit Go.Proofs.YtmneemhplffemaaGreatDoorRRW.PrintWords Go.Proofs.YtmneemhplffemaaGreatDoorRR.Ki
def PredText (w0 : World) (K : FuncId) (b : Addr) (p : ByteArray → Bool) (xs : List ByteArray) : Prop :=
 ∀ (x : ByteArray) (W : World), x ∈ xs → Below w0.heap.size w0 W → Calls Tryz.prog K #[.string x, .pointer (some b)] W fun e W' => e = .returned (.bool (p x)) ∧ Below W.heap.size W W'
set_option maxRecDepth 100000 in
set_option maxHeartbeats 1000000 in
theorem indexFunc_Text (p : ByteArray → Bool) (K : FuncId) (b : Addr) (hK : ∀ (args : Array Value) (w : World), (callFunc K args).run Tryz.prog w = .ok (.enter K args) w) (w0 : World) (A : Option Addr) (c : Nat) (xs : List ByteArray) (hp : PredText w0 K b p xs) (w : World) (hr : Kd.string.C w0 A xs.length xs) (hw : Below w0.heap.size w0 w) :
  Calls Tryz.prog 300 #[.slice A xs.length c, .func (.func K) #[] #[.pointer (some b)]] w fun e w' => e = .returned (.int .i64 (idxOf p xs)) ∧ Below w.heap.size w w' := by
 have HR := Aside0.mk hr
 have HP := Aside0.mk hp
 have HW := Aside0.mk hw
 have hm : xs.length ≤ 9223372036854775807 := hr.2.1
 clear hr hp hw
 go_enter Tryz.func300, Tryz.ntmps300
 go_wp2_with fail
 go_loopw [8] (fun v8 W => ∃ k : Nat, v8 = .int .i64 k ∧ k ≤ xs.length ∧ Aside0 (∀ j x, j < k → xs[j]? = some x → p x = false) ∧ Below w.heap.size w W) (fun v8 _ => xs.length - (intOf v8).toNat)
 case atStart => exact ⟨0, rfl, Nat.zero_le _, ⟨fun j x hj => by omega⟩, Below.refl _ _⟩
 case round =>
  obtain ⟨k, rfl, hk, HB, hb0⟩ := hrel
  have HBW := Aside0.mk hb0
  have HWR := Aside0.mk (below_step HW.out hb0)
  clear hb0
  by_cases hlt : k < xs.length
  · obtain ⟨x, hxe⟩ : ∃ x, xs[k]? = some x := ⟨_, List.getElem?_eq_getElem hlt⟩
    have HX := Aside0.mk hxe
    have HC := Kd.C_below HR.out HWR.out
    obtain ⟨ad, rfl, h0⟩ := Kd.at_string HC (k : Int) (by omega) (by omega)
    rw [show rdOf ByteArray.empty xs (k : Int) = x by unfold rdOf; rw [Int.toNat_natCast, List.getD_eq_getElem?_getD, hxe]; rfl, Int.toNat_natCast] at h0
    clear hxe HC
    by_cases hpx : p x = true
    · have HPX := Aside0.mk hpx
      have hq := HP.out x wr (List.mem_of_getElem? HX.out) HWR.out
      simp only [hpx] at hq
      have HQ := Aside0.mk hq
      clear hpx hq
      go_wp2_with ((with_reducible refine HQ.out.mono ?_); rintro e w1 ⟨rfl, hb1⟩; have HB1 := Aside0.mk hb1; clear hb1)
      go_ret
      exact ⟨by rw [idx_some HB.out HX.out HPX.out]; rfl, below_step HBW.out HB1.out⟩
    · have hpf : p x = false := by simpa using hpx
      have HPX := Aside0.mk hpf
      have hq := HP.out x wr (List.mem_of_getElem? HX.out) HWR.out
      simp only [hpf] at hq
      have HQ := Aside0.mk hq
      clear hpx hq hpf
      go_wp2_with ((with_reducible refine HQ.out.mono ?_); rintro e w1 ⟨rfl, hb1⟩; have HB1 := Aside0.mk hb1; clear hb1)
      go_roundw
      case rel => exact ⟨k + 1, by go_num, by omega, ⟨idx_step HB.out HX.out HPX.out⟩, below_step HBW.out HB1.out⟩
      case measure => simp [intOf]; omega
  · go_wp2_with fail
    go_ret
    exact ⟨by rw [idx_none HB.out (by omega)]; rfl, HBW.out⟩
set_option maxRecDepth 100000 in
theorem containsFunc_Text (p : ByteArray → Bool) (K : FuncId) (b : Addr) (hK : ∀ (args : Array Value) (w : World), (callFunc K args).run Tryz.prog w = .ok (.enter K args) w) (w0 : World) (A : Option Addr) (c : Nat) (xs : List ByteArray) (hp : PredText w0 K b p xs) (w : World) (hr : Kd.string.C w0 A xs.length xs) (hw : Below w0.heap.size w0 w) :
  Calls Tryz.prog 290 #[.slice A xs.length c, .func (.func K) #[] #[.pointer (some b)]] w fun e w' => e = .returned (.bool (xs.any p)) ∧ Below w.heap.size w w' := by
 rw [← idx_any p xs]
 obtain ⟨r, hr'⟩ : ∃ r, r = idxOf p xs := ⟨_, rfl⟩
 have HI := Aside0.mk (hr' ▸ indexFunc_Text p K b hK w0 A c xs hp w hr hw)
 rw [← hr']
 clear hr' hr hp hK hw
 go_enter Tryz.func290, Tryz.ntmps290
 go_wp2_with (go_at_call 300; (with_reducible refine HI.out.mono ?_); rintro e w1 ⟨rfl, hb1⟩; have HB1 := Aside0.mk hb1; clear hb1)
 go_ret
 exact ⟨rfl, HB1.out⟩
def MayText (w0 : World) (M : FuncId) (m : ByteArray → Bool) (xs : List ByteArray) : Prop :=
 ∀ (x : ByteArray) (W : World), x ∈ xs → Below w0.heap.size w0 W → Calls Tryz.prog M #[.string x] W fun e W' => e = .returned (.bool (m x)) ∧ Below W.heap.size W W'
set_option maxRecDepth 100000 in
theorem closure_Text (m : ByteArray → Bool) (M : FuncId) (hM : ∀ (args : Array Value) (w : World), (callFunc M args).run Tryz.prog w = .ok (.enter M args) w) (w0 : World) (xs : List ByteArray) (hp : MayText w0 M m xs) (b : Addr) (W0 : World) (hb0 : Below w0.heap.size w0 W0) (hcell : W0.cell? b = some (.func (.func M) #[] #[])) : PredText W0 291 b (fun x => !m x) xs := by
 intro x W hx hb
 have hc := pw_cell_below hb hcell
 have hnot : ∀ (x : Bool) (w : World), (Op.unary .not (.bool x)).run Tryz.prog w = .ok (.bool (!x)) w := fun _ _ => rfl
 have HP := Aside0.mk hp
 have HX := Aside0.mk hx
 have HB := Aside0.mk (below_step hb0 hb)
 have hc2 : ∀ o, (W.alloc o).cell? b = some (.func (.func M) #[] #[]) := fun o => pw_cell_below (below_alloc (Below.refl _ _) o) hc
 have HQ := Aside0.mk (HP.out x W hx HB.out)
 clear hp hx hb
 go_enter Tryz.func291, Tryz.ntmps291
 go_wp2_with ((with_reducible refine HQ.out.mono ?_); rintro e w1 ⟨rfl, hb1⟩; have HB1 := Aside0.mk hb1; clear hb1)
 go_ret
 exact ⟨rfl, HB1.out⟩
set_option maxRecDepth 100000 in
theorem all_Text (m : ByteArray → Bool) (M : FuncId) (hM : ∀ (args : Array Value) (w : World), (callFunc M args).run Tryz.prog w = .ok (.enter M args) w) (w0 W : World) (A : Option Addr) (c : Nat) (xs : List ByteArray) (n : Int) (b : Bool) (h : (decide ((xs.length : Int) ≤ n) && xs.all m) = b) (hp : MayText w0 M m xs) (hC : Kd.string.C w0 A xs.length xs) (hb : Below w0.heap.size w0 W) :
   Calls Tryz.prog 273 #[.slice A xs.length c, .int .i64 n, .func (.func M) #[] #[]] W fun e W' => e = .returned (.bool b) ∧ Below W.heap.size W W' := by
 subst h
 have HB := Aside0.mk (below_alloc hb (Obj.cells #[.func (.func M) #[] #[]] 163 (0, 0)))
 have HQ := Aside0.mk (containsFunc_Text (fun x => !m x) 291 ⟨W.heap.size, 0, none⟩ (fun _ _ => rfl) (W.alloc (Obj.cells #[.func (.func M) #[] #[]] 163 (0, 0))) A c xs (closure_Text m M hM w0 xs hp ⟨W.heap.size, 0, none⟩ (W.alloc (Obj.cells #[.func (.func M) #[] #[]] 163 (0, 0))) HB.out (blk_cell (heap_alloc_new W (Obj.cells #[.func (.func M) #[] #[]] 163 (0, 0))) 0)) (W.alloc (Obj.cells #[.func (.func M) #[] #[]] 163 (0, 0))) (Kd.C_below hC HB.out) (Below.refl _ _))
 have ha : (xs.any fun x => !m x) = !xs.all m := by rw [← List.not_all_eq_any_not]
 rw [ha] at HQ
 have hm : xs.length ≤ 9223372036854775807 := hC.2.1
 clear hp hC hb hM ha
 go_enter Tryz.func273, Tryz.ntmps273
 cases h1 : decide ((xs.length : Int) ≤ n) with
 | false =>
   go_wp2_with fail
   go_ret
   exact ⟨rfl, below_alloc (Below.refl _ _) _⟩
 | true =>
   go_wp2_with ((with_reducible refine HQ.out.mono ?_); rintro e w1 ⟨rfl, hb1⟩; have HB1 := Aside0.mk hb1; clear hb1)
   go_ret
   exact ⟨by simp, below_step (below_alloc (Below.refl _ _) _) HB1.out⟩
end Go.Proofs.YtmneemhplffemaaGreatDoorRR.Ext
namespace Go.Proofs.YtmneemhplffemaaGreatDoorRR.May
open Go.RowKit Go.Proofs.YtmneemhplffemaaGreatDoorRR.Ord Go.Proofs.YtmneemhplffemaaGreatDoorRR.Name Go.Proofs.YtmneemhplffemaaGreatDoorRR.Pl Go.Proofs.YtmneemhplffemaaGreatDoorRR.PPa Go.Proofs.YtmneemhplffemaaGreatDoorRR.Ext Go.Proofs.YtmneemhplffemaaGreatDoorRR.Wire Go.Proofs.YtmneemhplffemaaGreatDoorRR.Mem Go.Proofs.YtmneemhplffemaaGreatDoorRR.Ki Go.Proofs.YtmneemhplffemaaGreatDoorRR.Chk Go.Proofs.YtmneemhplffemaaGreatDoorRRW.PrintWords


def mKind (v : Int) : Bool := decide (1 ≤ v) && decide (v ≤ 3)
theorem m_kind (v : Int) (b : Bool) (W : World) (h : mKind v = b) : Calls Tryz.prog 176 #[.int .i64 v] W fun e W' => e = .returned (.bool b) ∧ W' = W := by
 subst h
 go_enter Tryz.func176, Tryz.ntmps176
 refine bt (decide (1 ≤ v)) (fun h1 => have h1_0 : (decide (v ≥ 1)) = true := h1; bt (decide (v ≤ 3)) (fun h2 => have h2_0 : (decide (3 ≥ v)) = true := h2; ?_) (fun h2 => have h2_0 : (decide (3 ≥ v)) = false := h2; ?_)) (fun h1 => have h1_0 : (decide (v ≥ 1)) = false := h1; ?_)
 all_goals
  go_wp2_with fail
  go_ret
  exact ⟨by simp only [mKind, *, Bool.not_true, Bool.not_false, Bool.true_and, Bool.false_and, Bool.and_true, Bool.and_false, Bool.true_or, Bool.false_or, Bool.or_true, Bool.or_false, Bool.false_eq_true, if_true, if_false] <;> rfl, rfl⟩
theorem m_placed (s : ByteArray) (b : Bool) (W : World) (HE : Env W) (h : rIs s = b) : Calls Tryz.prog 175 #[.string s] W fun e W' => e = .returned (.bool b) ∧ Below W.heap.size W W' :=
 note_placed.calls 20 s b W (by unfold note_placed.f; rw [parse_tells s 20 (by omega)]; subst h; rfl) HE
theorem pcs_ne (t : List UInt8) : pcs t ≠ [] := by
 cases t with
 | nil => simp [pcs]
 | cons c r =>
   rw [pcs]
   split
   · simp
   · split <;> simp
theorem pcs_one : ∀ t : List UInt8, (pcs t).length = 1 → pcs t = [t]
 | [], _ => rfl
 | c :: r, h => by
   rw [pcs] at h ⊢
   split at h
   · have := pcs_ne r
     cases hr : pcs r with
     | nil => exact absurd hr this
     | cons p ps => rw [hr] at h; simp at h
   · rename_i hc
     rw [if_neg hc]
     cases hr : pcs r with
     | nil => exact absurd hr (pcs_ne r)
     | cons p ps =>
       rw [hr] at h
       simp only [List.length_cons] at h
       have hps : ps = [] := List.eq_nil_of_length_eq_zero (by omega)
       subst hps
       have := pcs_one r (by rw [hr]; rfl)
       rw [hr] at this
       simp only [List.cons.injEq, and_true] at this
       rw [this]
theorem pcs_whole : ∀ t : List UInt8, t.all okB = true → pcs t = [t]
 | [], _ => rfl
 | c :: r, h => by
   simp only [List.all_cons, Bool.and_eq_true] at h
   have hc : c ≠ 47 := by
    rintro rfl
    exact absurd h.1 (by decide)
   rw [pcs, if_neg hc, pcs_whole r h.2]
theorem kid_parse (t : List UInt8) : ((parseL (47 :: t)).2 = 0 ∧ (parseL (47 :: t)).1.length = 1) ↔ okN t = true := by
 by_cases h1 : (47 :: t).length > 102
 · rw [parseL_long h1]
   constructor
   · rintro ⟨h, _⟩
     simp at h
   · intro h
     unfold okN at h
     simp only [Bool.and_eq_true, decide_eq_true_eq] at h
     simp only [List.length_cons] at h1
     omega
 · by_cases h2 : (47 :: t) = [47]
   · simp only [List.cons.injEq, true_and] at h2
     subst h2
     rw [parseL_root rfl]
     simp [okN]
   · rw [parseL_names h1 h2 rfl, List.tail_cons]
     constructor
     · intro h
       split at h
       · simp at h
       · split at h
         · rename_i ha
           have hp := pcs_one t h.2
           rw [hp] at ha
           simpa using ha
         · simp at h
     · intro h
       have ho : t.all okB = true := by
         unfold okN at h
         simp only [Bool.and_eq_true] at h
         exact h.2
       rw [pcs_whole t ho, if_neg (by simp), if_pos (by simpa using h)]
       exact ⟨rfl, rfl⟩
theorem m_kid (s : ByteArray) (b : Bool) (W : World) (HE : Env W) (hs : s.size ≤ 140737488355328) (h : okN (tx s) = b) : Calls Tryz.prog 274 #[.string s] W fun e W' => e = .returned (.bool b) ∧ Below W.heap.size W W' := by
 refine (note_kid.calls 20 s b W ?_ HE).mono fun e W' hq => ⟨hq.1, by first | exact hq.2 | exact hq.2.below⟩
 have ht : tx ((⟨#[47]⟩ : ByteArray) ++ s) = 47 :: tx s := by simp [tx]
 have hk := kid_parse (tx s)
 rw [← ht] at hk
 unfold note_kid.f
 rw [if_pos (by omega), parse_tells _ 20 (by omega)]
 simp only [Option.bind_some, parseB, List.length_map]
 subst h
 split
 · rename_i h0
   congr 1
   rw [Bool.eq_iff_iff, beq_iff_eq, ← hk]
   exact ⟨fun h => ⟨h0, by omega⟩, fun h => by omega⟩
 · rename_i h0
   congr 1
   cases hx : okN (tx s) with
   | false => rfl
   | true => exact absurd (hk.2 hx).1 h0
def mOp (x : S78) : Bool := (okNum x.f0 && okNum x.f4) && ((x.f3 == -1) || okNum x.f3) && decide ((x.f1.size : Int) ≤ 256) && decide ((x.f2.size : Int) ≤ 256)
set_option maxRecDepth 100000 in
set_option maxHeartbeats 1000000 in
theorem m_op (w0 W : World) (x : S78) (cs : List Value) (b : Bool) (h : mOp x = b) (hk : k78.K w0 x cs) (hb : Below w0.heap.size w0 W) :
  Calls Tryz.prog 164 #[.agg cs.toArray] W fun e W' => e = .returned (.bool b) ∧ Below W.heap.size W W' := by
 subst h
 obtain rfl := k78_open hk
 have HW := Aside0.mk (below_alloc (Below.refl W.heap.size W) (Obj.cells #[.int .i64 x.f0, .string x.f1, .string x.f2, .int .i64 x.f3, .int .i64 x.f4] 78 (0, 0)))
 have HA := Aside0.mk (below_alloc hb (Obj.cells #[.int .i64 x.f0, .string x.f1, .string x.f2, .int .i64 x.f3, .int .i64 x.f4] 78 (0, 0)))
 have HBR := Aside0.mk (blk_alloc (W := W) (Obj.cells #[.int .i64 x.f0, .string x.f1, .string x.f2, .int .i64 x.f3, .int .i64 x.f4] 78 (0, 0)))
 have hcR := blk_cell HBR.out
 have hfR := blk_frozen HBR.out
 clear hk hb
 go_enter Tryz.func164, Tryz.ntmps164
 refine bt ((okNum x.f0 && okNum x.f4)) (fun h1 => bt ((x.f3 == -1)) (fun h2 => have h2_0 : ((x.f3 != -1)) = false := congrArg not h2; bt (decide ((x.f1.size : Int) ≤ 256)) (fun h3 => have h3_0 : (decide (x.f1.size ≤ 256)) = true := dq (by omega) h3; have h3_1 : (decide ((256 : Int) ≥ x.f1.size)) = true := h3; bt (decide ((x.f2.size : Int) ≤ 256)) (fun h4 => have h4_0 : (decide (x.f2.size ≤ 256)) = true := dq (by omega) h4; have h4_1 : (decide ((256 : Int) ≥ x.f2.size)) = true := h4; ?_) (fun h4 => have h4_0 : (decide (x.f2.size ≤ 256)) = false := dq (by omega) h4; have h4_1 : (decide ((256 : Int) ≥ x.f2.size)) = false := h4; ?_)) (fun h3 => have h3_0 : (decide (x.f1.size ≤ 256)) = false := dq (by omega) h3; have h3_1 : (decide ((256 : Int) ≥ x.f1.size)) = false := h3; ?_)) (fun h2 => have h2_0 : ((x.f3 != -1)) = true := congrArg not h2; bt (okNum x.f3) (fun h5 => bt (decide ((x.f1.size : Int) ≤ 256)) (fun h6 => have h6_0 : (decide (x.f1.size ≤ 256)) = true := dq (by omega) h6; have h6_1 : (decide ((256 : Int) ≥ x.f1.size)) = true := h6; bt (decide ((x.f2.size : Int) ≤ 256)) (fun h7 => have h7_0 : (decide (x.f2.size ≤ 256)) = true := dq (by omega) h7; have h7_1 : (decide ((256 : Int) ≥ x.f2.size)) = true := h7; ?_) (fun h7 => have h7_0 : (decide (x.f2.size ≤ 256)) = false := dq (by omega) h7; have h7_1 : (decide ((256 : Int) ≥ x.f2.size)) = false := h7; ?_)) (fun h6 => have h6_0 : (decide (x.f1.size ≤ 256)) = false := dq (by omega) h6; have h6_1 : (decide ((256 : Int) ≥ x.f1.size)) = false := h6; ?_)) (fun h5 => ?_))) (fun h1 => ?_)
 all_goals
  go_wp2_with (first | (go_at_call 91; (with_reducible refine (c_num1 _ _ (by first | rfl | simp) _ _ (by assumption)).mono ?_); rintro e w1 ⟨rfl, hb1⟩; replace HW := Aside0.mk (below_step HW.out hb1); replace HA := Aside0.mk (below_step HA.out hb1); replace HBR := Aside0.mk (blk_below hb1 HBR.out); replace hcR := blk_cell HBR.out; replace hfR := blk_frozen HBR.out; clear hb1) | (go_at_call 91; (with_reducible refine (c_num2 _ _ (by first | rfl | simp) _ _ _ (by assumption)).mono ?_); rintro e w1 ⟨rfl, hb1⟩; replace HW := Aside0.mk (below_step HW.out hb1); replace HA := Aside0.mk (below_step HA.out hb1); replace HBR := Aside0.mk (blk_below hb1 HBR.out); replace hcR := blk_cell HBR.out; replace hfR := blk_frozen HBR.out; clear hb1))
  go_ret
  exact ⟨by simp only [mOp, *, Bool.not_true, Bool.not_false, Bool.true_and, Bool.false_and, Bool.and_true, Bool.and_false, Bool.true_or, Bool.false_or, Bool.or_true, Bool.or_false, Bool.false_eq_true, if_true, if_false] <;> rfl, HW.out⟩
def mOps (l : List S78) : Bool := decide ((l.length : Int) ≤ 4) && l.all mOp
set_option maxRecDepth 100000 in
set_option maxHeartbeats 1000000 in
theorem m_ops (w0 W : World) (A : Option Addr) (c : Nat) (xs : List S78) (b : Bool) (h : mOps xs = b) (hC : k78.C w0 A xs.length xs) (hb : Below w0.heap.size w0 W) :
  Calls Tryz.prog 119 #[.slice A xs.length c] W fun e W' => e = .returned (.bool b) ∧ Below W.heap.size W W' := by
 subst h
 have HW := Aside0.mk (Below.refl W.heap.size W)
 have HA := Aside0.mk hb
 have HC := Aside0.mk hC
 have hm : xs.length ≤ 9223372036854775807 := hC.2.1
 clear hb hC
 have HPOp := Aside0.mk (show MayOp w0 164 mOp xs from (fun x cs W _ _ hk => m_op W W x cs _ rfl hk (Below.refl _ _)))
 go_enter Tryz.func119, Tryz.ntmps119
 have h1 : (decide ((xs.length : Int) ≤ 4) && xs.all mOp) = mOps xs := rfl
 generalize mOps xs = r at h1 ⊢
 go_wp2_with (go_at_call 163; (with_reducible refine (all_Op mOp 164 (fun _ _ => by kernel_rfl) w0 _ _ _ _ _ _ (by assumption) HPOp.out HC.out HA.out).mono ?_); rintro e w1 ⟨rfl, hb1⟩; replace HW := Aside0.mk (below_step HW.out hb1); replace HA := Aside0.mk (below_step HA.out hb1); clear hb1)
 go_ret
 exact ⟨rfl, HW.out⟩
def mEntry (x : S55) : Bool := (okNum x.f0 && okNum x.f1 && okNum x.f3 && okNum x.f4) && !decide (x.f0 < 1) && !decide (x.f3 < 1) && !decide (x.f2 < 1) && !decide (4 < x.f2) && mOps x.f5 && (if (x.f2 == 1) = true then decide (1 ≤ x.f4) else (x.f4 == 0) && (x.f5.length == 0))
set_option maxRecDepth 100000 in
set_option maxHeartbeats 1000000 in
theorem m_entry (w0 W : World) (x : S55) (cs : List Value) (b : Bool) (h : mEntry x = b) (hk : k55.K w0 x cs) (hb : Below w0.heap.size w0 W) :
  Calls Tryz.prog 74 #[.agg cs.toArray] W fun e W' => e = .returned (.bool b) ∧ Below W.heap.size W W' := by
 subst h
 obtain ⟨A5, c5, rfl, l5, g5⟩ := k55_open hk
 have G5 := Aside0.mk g5
 have hm5 : x.f5.length ≤ 9223372036854775807 := g5.2.1
 have HW := Aside0.mk (below_alloc (Below.refl W.heap.size W) (Obj.cells #[.int .i64 x.f0, .int .i64 x.f1, .int .i64 x.f2, .int .i64 x.f3, .int .i64 x.f4, .slice A5 x.f5.length c5] 55 (0, 0)))
 have HA := Aside0.mk (below_alloc hb (Obj.cells #[.int .i64 x.f0, .int .i64 x.f1, .int .i64 x.f2, .int .i64 x.f3, .int .i64 x.f4, .slice A5 x.f5.length c5] 55 (0, 0)))
 have HBR := Aside0.mk (blk_alloc (W := W) (Obj.cells #[.int .i64 x.f0, .int .i64 x.f1, .int .i64 x.f2, .int .i64 x.f3, .int .i64 x.f4, .slice A5 x.f5.length c5] 55 (0, 0)))
 have hcR := blk_cell HBR.out
 have hfR := blk_frozen HBR.out
 clear hk hb g5
 go_enter Tryz.func74, Tryz.ntmps74
 refine bt ((okNum x.f0 && okNum x.f1 && okNum x.f3 && okNum x.f4)) (fun h1 => bt (decide (x.f0 < 1)) (fun h2 => have h2_0 : (decide (1 > x.f0)) = true := h2; ?_) (fun h2 => have h2_0 : (decide (1 > x.f0)) = false := h2; bt (decide (x.f3 < 1)) (fun h3 => have h3_0 : (decide (1 > x.f3)) = true := h3; ?_) (fun h3 => have h3_0 : (decide (1 > x.f3)) = false := h3; bt (decide (x.f2 < 1)) (fun h4 => have h4_0 : (decide (1 > x.f2)) = true := h4; ?_) (fun h4 => have h4_0 : (decide (1 > x.f2)) = false := h4; bt (decide (4 < x.f2)) (fun h5 => have h5_0 : (decide (x.f2 > 4)) = true := h5; ?_) (fun h5 => have h5_0 : (decide (x.f2 > 4)) = false := h5; bt (mOps x.f5) (fun h6 => bt ((x.f2 == 1)) (fun h7 => have h7_0 : ((x.f2 != 1)) = false := congrArg not h7; bt (decide (1 ≤ x.f4)) (fun h8 => have h8_0 : (decide (x.f4 ≥ 1)) = true := h8; ?_) (fun h8 => have h8_0 : (decide (x.f4 ≥ 1)) = false := h8; ?_)) (fun h7 => have h7_0 : ((x.f2 != 1)) = true := congrArg not h7; bt ((x.f4 == 0)) (fun h9 => have h9_0 : ((x.f4 != 0)) = false := congrArg not h9; bt ((x.f5.length == 0)) (fun h10 => have h10_0 : (((x.f5.length : Int) == 0)) = true := zq (by omega) h10; have h10_1 : (((x.f5.length : Int) != 0)) = false := yq (by omega) h10; ?_) (fun h10 => have h10_0 : (((x.f5.length : Int) == 0)) = false := zq (by omega) h10; have h10_1 : (((x.f5.length : Int) != 0)) = true := yq (by omega) h10; ?_)) (fun h9 => have h9_0 : ((x.f4 != 0)) = true := congrArg not h9; ?_))) (fun h6 => ?_)))))) (fun h1 => ?_)
 all_goals
  go_wp2_with (first | (go_at_call 91; (with_reducible refine (c_num4 _ _ (by first | rfl | simp) _ _ _ _ _ (by assumption)).mono ?_); rintro e w1 ⟨rfl, hb1⟩; replace HW := Aside0.mk (below_step HW.out hb1); replace HA := Aside0.mk (below_step HA.out hb1); replace HBR := Aside0.mk (blk_below hb1 HBR.out); replace hcR := blk_cell HBR.out; replace hfR := blk_frozen HBR.out; clear hb1) | (go_at_call 119; (with_reducible refine (m_ops w0 _ _ _ _ _ (by assumption) G5.out HA.out).mono ?_); rintro e w1 ⟨rfl, hb1⟩; replace HW := Aside0.mk (below_step HW.out hb1); replace HA := Aside0.mk (below_step HA.out hb1); replace HBR := Aside0.mk (blk_below hb1 HBR.out); replace hcR := blk_cell HBR.out; replace hfR := blk_frozen HBR.out; clear hb1))
  go_ret
  exact ⟨by simp only [mEntry, *, Bool.not_true, Bool.not_false, Bool.true_and, Bool.false_and, Bool.and_true, Bool.and_false, Bool.true_or, Bool.false_or, Bool.or_true, Bool.or_false, Bool.false_eq_true, if_true, if_false] <;> rfl, HW.out⟩
def mKid (y : ByteArray) : Bool := okN (tx y)
def mResult (x : S81) : Bool := (x.f0.toList.isEmpty || rIs x.f0) && decide ((x.f1.size : Int) ≤ 64) && (okNum x.f2 && okNum x.f3 && okNum x.f4 && okNum x.f5) && (decide ((x.f6.length : Int) ≤ 64) && x.f6.all mKid)
set_option maxRecDepth 100000 in
set_option maxHeartbeats 1000000 in
theorem m_result (w0 W : World) (x : S81) (cs : List Value) (b : Bool) (h : mResult x = b) (hk : k81.K w0 x cs) (hb : Below w0.heap.size w0 W) (HE : Env w0) (hz : ∀ y ∈ x.f6, y.size ≤ 140737488355328) :
  Calls Tryz.prog 248 #[.agg cs.toArray] W fun e W' => e = .returned (.bool b) ∧ Below W.heap.size W W' := by
 subst h
 obtain ⟨A6, c6, rfl, l6, g6⟩ := k81_open hk
 have G6 := Aside0.mk g6
 have hm6 : x.f6.length ≤ 9223372036854775807 := g6.2.1
 have HW := Aside0.mk (below_alloc (Below.refl W.heap.size W) (Obj.cells #[.string x.f0, .string x.f1, .int .i64 x.f2, .int .i64 x.f3, .int .i64 x.f4, .int .i64 x.f5, .slice A6 x.f6.length c6] 81 (0, 0)))
 have HA := Aside0.mk (below_alloc hb (Obj.cells #[.string x.f0, .string x.f1, .int .i64 x.f2, .int .i64 x.f3, .int .i64 x.f4, .int .i64 x.f5, .slice A6 x.f6.length c6] 81 (0, 0)))
 have HBR := Aside0.mk (blk_alloc (W := W) (Obj.cells #[.string x.f0, .string x.f1, .int .i64 x.f2, .int .i64 x.f3, .int .i64 x.f4, .int .i64 x.f5, .slice A6 x.f6.length c6] 81 (0, 0)))
 have hcR := blk_cell HBR.out
 have hfR := blk_frozen HBR.out
 have HE := Aside0.mk HE
 have HZ := Aside0.mk hz
 clear hz
 clear hk hb g6
 have HPKid := Aside0.mk (show MayText w0 274 mKid x.f6 from (fun x W hx hb => m_kid x _ W (HE.out.at_ hb) (HZ.out x hx) rfl))
 go_enter Tryz.func248, Tryz.ntmps248
 refine bt (x.f0.toList.isEmpty) (fun h1 => have m0 := trivial; ?_) (fun h1 => bt (rIs x.f0) (fun h5 => have m0 := trivial; ?_) (fun h5 => ?_))
 all_goals first
  | clear m0
    refine bt (decide ((x.f1.size : Int) ≤ 64)) (fun h2 => have h2_0 : (decide (x.f1.size ≤ 64)) = true := dq (by omega) h2; have h2_1 : (decide ((64 : Int) ≥ x.f1.size)) = true := h2; bt ((okNum x.f2 && okNum x.f3 && okNum x.f4 && okNum x.f5)) (fun h3 => bt ((decide ((x.f6.length : Int) ≤ 64) && x.f6.all mKid)) (fun h4 => ?_) (fun h4 => ?_)) (fun h3 => ?_)) (fun h2 => have h2_0 : (decide (x.f1.size ≤ 64)) = false := dq (by omega) h2; have h2_1 : (decide ((64 : Int) ≥ x.f1.size)) = false := h2; ?_)
    all_goals
     go_wp2_with (first | (go_at_call 91; (with_reducible refine (c_num4 _ _ (by first | rfl | simp) _ _ _ _ _ (by assumption)).mono ?_); rintro e w1 ⟨rfl, hb1⟩; replace HW := Aside0.mk (below_step HW.out hb1); replace HA := Aside0.mk (below_step HA.out hb1); replace HBR := Aside0.mk (blk_below hb1 HBR.out); replace hcR := blk_cell HBR.out; replace hfR := blk_frozen HBR.out; clear hb1) | (go_at_call 175; (with_reducible refine (m_placed _ _ _ (HE.out.at_ HA.out) (by assumption)).mono ?_); rintro e w1 ⟨rfl, hb1⟩; replace HW := Aside0.mk (below_step HW.out hb1); replace HA := Aside0.mk (below_step HA.out hb1); replace HBR := Aside0.mk (blk_below hb1 HBR.out); replace hcR := blk_cell HBR.out; replace hfR := blk_frozen HBR.out; clear hb1) | (go_at_call 273; (with_reducible refine (all_Text mKid 274 (fun _ _ => by kernel_rfl) w0 _ _ _ _ _ _ (by assumption) HPKid.out G6.out HA.out).mono ?_); rintro e w1 ⟨rfl, hb1⟩; replace HW := Aside0.mk (below_step HW.out hb1); replace HA := Aside0.mk (below_step HA.out hb1); replace HBR := Aside0.mk (blk_below hb1 HBR.out); replace hcR := blk_cell HBR.out; replace hfR := blk_frozen HBR.out; clear hb1))
     go_ret
     exact ⟨by simp only [mResult, *, Bool.not_true, Bool.not_false, Bool.true_and, Bool.false_and, Bool.and_true, Bool.and_false, Bool.true_or, Bool.false_or, Bool.or_true, Bool.or_false, Bool.false_eq_true, if_true, if_false] <;> rfl, HW.out⟩
  | skip
    go_wp2_with (first | (go_at_call 91; (with_reducible refine (c_num4 _ _ (by first | rfl | simp) _ _ _ _ _ (by assumption)).mono ?_); rintro e w1 ⟨rfl, hb1⟩; replace HW := Aside0.mk (below_step HW.out hb1); replace HA := Aside0.mk (below_step HA.out hb1); replace HBR := Aside0.mk (blk_below hb1 HBR.out); replace hcR := blk_cell HBR.out; replace hfR := blk_frozen HBR.out; clear hb1) | (go_at_call 175; (with_reducible refine (m_placed _ _ _ (HE.out.at_ HA.out) (by assumption)).mono ?_); rintro e w1 ⟨rfl, hb1⟩; replace HW := Aside0.mk (below_step HW.out hb1); replace HA := Aside0.mk (below_step HA.out hb1); replace HBR := Aside0.mk (blk_below hb1 HBR.out); replace hcR := blk_cell HBR.out; replace hfR := blk_frozen HBR.out; clear hb1) | (go_at_call 273; (with_reducible refine (all_Text mKid 274 (fun _ _ => by kernel_rfl) w0 _ _ _ _ _ _ (by assumption) HPKid.out G6.out HA.out).mono ?_); rintro e w1 ⟨rfl, hb1⟩; replace HW := Aside0.mk (below_step HW.out hb1); replace HA := Aside0.mk (below_step HA.out hb1); replace HBR := Aside0.mk (blk_below hb1 HBR.out); replace hcR := blk_cell HBR.out; replace hfR := blk_frozen HBR.out; clear hb1))
    go_ret
    exact ⟨by simp only [mResult, *, Bool.not_true, Bool.not_false, Bool.true_and, Bool.false_and, Bool.and_true, Bool.and_false, Bool.true_or, Bool.false_or, Bool.or_true, Bool.or_false, Bool.false_eq_true, if_true, if_false] <;> rfl, HW.out⟩
def mReply (x : S29) : Bool := (okNum x.f0 && okNum x.f1 && okNum x.f2) && (decide ((x.f3.length : Int) ≤ 4) && x.f3.all mResult)
set_option maxRecDepth 100000 in
set_option maxHeartbeats 1000000 in
theorem m_reply (w0 W : World) (x : S29) (cs : List Value) (b : Bool) (h : mReply x = b) (hk : k29.K w0 x cs) (hb : Below w0.heap.size w0 W) (HE : Env w0) (hz : ∀ r ∈ x.f3, ∀ y ∈ r.f6, y.size ≤ 140737488355328) :
  Calls Tryz.prog 186 #[.agg cs.toArray] W fun e W' => e = .returned (.bool b) ∧ Below W.heap.size W W' := by
 subst h
 obtain ⟨A3, c3, rfl, l3, g3⟩ := k29_open hk
 have G3 := Aside0.mk g3
 have hm3 : x.f3.length ≤ 9223372036854775807 := g3.2.1
 have HW := Aside0.mk (below_alloc (Below.refl W.heap.size W) (Obj.cells #[.int .i64 x.f0, .int .i64 x.f1, .int .i64 x.f2, .slice A3 x.f3.length c3] 29 (0, 0)))
 have HA := Aside0.mk (below_alloc hb (Obj.cells #[.int .i64 x.f0, .int .i64 x.f1, .int .i64 x.f2, .slice A3 x.f3.length c3] 29 (0, 0)))
 have HBR := Aside0.mk (blk_alloc (W := W) (Obj.cells #[.int .i64 x.f0, .int .i64 x.f1, .int .i64 x.f2, .slice A3 x.f3.length c3] 29 (0, 0)))
 have hcR := blk_cell HBR.out
 have hfR := blk_frozen HBR.out
 have HE := Aside0.mk HE
 have HZ := Aside0.mk hz
 clear hz
 clear hk hb g3
 have HPResult := Aside0.mk (show MayResult w0 248 mResult x.f3 from (fun x cs W hx hb hk => m_result W W x cs _ rfl hk (Below.refl _ _) (HE.out.at_ hb) (HZ.out x hx)))
 go_enter Tryz.func186, Tryz.ntmps186
 refine bt ((okNum x.f0 && okNum x.f1 && okNum x.f2)) (fun h1 => bt ((decide ((x.f3.length : Int) ≤ 4) && x.f3.all mResult)) (fun h2 => ?_) (fun h2 => ?_)) (fun h1 => ?_)
 all_goals
  go_wp2_with (first | (go_at_call 91; (with_reducible refine (c_num3 _ _ (by first | rfl | simp) _ _ _ _ (by assumption)).mono ?_); rintro e w1 ⟨rfl, hb1⟩; replace HW := Aside0.mk (below_step HW.out hb1); replace HA := Aside0.mk (below_step HA.out hb1); replace HBR := Aside0.mk (blk_below hb1 HBR.out); replace hcR := blk_cell HBR.out; replace hfR := blk_frozen HBR.out; clear hb1) | (go_at_call 247; (with_reducible refine (all_Result mResult 248 (fun _ _ => by kernel_rfl) w0 _ _ _ _ _ _ (by assumption) HPResult.out G3.out HA.out).mono ?_); rintro e w1 ⟨rfl, hb1⟩; replace HW := Aside0.mk (below_step HW.out hb1); replace HA := Aside0.mk (below_step HA.out hb1); replace HBR := Aside0.mk (blk_below hb1 HBR.out); replace hcR := blk_cell HBR.out; replace hfR := blk_frozen HBR.out; clear hb1))
  go_ret
  exact ⟨by simp only [mReply, *, Bool.not_true, Bool.not_false, Bool.true_and, Bool.false_and, Bool.and_true, Bool.and_false, Bool.true_or, Bool.false_or, Bool.or_true, Bool.or_false, Bool.false_eq_true, if_true, if_false] <;> rfl, HW.out⟩
def mWatch (x : S96) : Bool := (okNum x.f0 && okNum x.f3) && decide (1 ≤ x.f0) && rIs x.f1 && mKind x.f2
set_option maxRecDepth 100000 in
set_option maxHeartbeats 1000000 in
theorem m_watch (w0 W : World) (x : S96) (cs : List Value) (b : Bool) (h : mWatch x = b) (hk : k96.K w0 x cs) (hb : Below w0.heap.size w0 W) (HE : Env w0) :
  Calls Tryz.prog 142 #[.agg cs.toArray] W fun e W' => e = .returned (.bool b) ∧ Below W.heap.size W W' := by
 subst h
 obtain rfl := k96_open hk
 have HW := Aside0.mk (below_alloc (Below.refl W.heap.size W) (Obj.cells #[.int .i64 x.f0, .string x.f1, .int .i64 x.f2, .int .i64 x.f3] 96 (0, 0)))
 have HA := Aside0.mk (below_alloc hb (Obj.cells #[.int .i64 x.f0, .string x.f1, .int .i64 x.f2, .int .i64 x.f3] 96 (0, 0)))
 have HBR := Aside0.mk (blk_alloc (W := W) (Obj.cells #[.int .i64 x.f0, .string x.f1, .int .i64 x.f2, .int .i64 x.f3] 96 (0, 0)))
 have hcR := blk_cell HBR.out
 have hfR := blk_frozen HBR.out
 have HE := Aside0.mk HE
 clear hk hb
 go_enter Tryz.func142, Tryz.ntmps142
 refine bt ((okNum x.f0 && okNum x.f3)) (fun h1 => bt (decide (1 ≤ x.f0)) (fun h2 => have h2_0 : (decide (x.f0 ≥ 1)) = true := h2; bt (rIs x.f1) (fun h3 => bt (mKind x.f2) (fun h4 => ?_) (fun h4 => ?_)) (fun h3 => ?_)) (fun h2 => have h2_0 : (decide (x.f0 ≥ 1)) = false := h2; ?_)) (fun h1 => ?_)
 all_goals
  go_wp2_with (first | (go_at_call 91; (with_reducible refine (c_num2 _ _ (by first | rfl | simp) _ _ _ (by assumption)).mono ?_); rintro e w1 ⟨rfl, hb1⟩; replace HW := Aside0.mk (below_step HW.out hb1); replace HA := Aside0.mk (below_step HA.out hb1); replace HBR := Aside0.mk (blk_below hb1 HBR.out); replace hcR := blk_cell HBR.out; replace hfR := blk_frozen HBR.out; clear hb1) | (go_at_call 175; (with_reducible refine (m_placed _ _ _ (HE.out.at_ HA.out) (by assumption)).mono ?_); rintro e w1 ⟨rfl, hb1⟩; replace HW := Aside0.mk (below_step HW.out hb1); replace HA := Aside0.mk (below_step HA.out hb1); replace HBR := Aside0.mk (blk_below hb1 HBR.out); replace hcR := blk_cell HBR.out; replace hfR := blk_frozen HBR.out; clear hb1) | (go_at_call 176; (with_reducible refine (m_kind _ _ _ (by assumption)).mono ?_); rintro e w1 ⟨rfl, rfl⟩; skip))
  go_ret
  exact ⟨by simp only [mWatch, *, Bool.not_true, Bool.not_false, Bool.true_and, Bool.false_and, Bool.and_true, Bool.and_false, Bool.true_or, Bool.false_or, Bool.or_true, Bool.or_false, Bool.false_eq_true, if_true, if_false] <;> rfl, HW.out⟩
def mBare (x : S96) : Bool := okNum x.f0 && decide (1 ≤ x.f0) && ((x.f1.toList.isEmpty && (x.f2 == 0)) && (x.f3 == 0))
attribute [local go_sem high] Eqs.eqWatch in
set_option maxRecDepth 100000 in
set_option maxHeartbeats 1000000 in
theorem m_bare (w0 W : World) (x : S96) (cs : List Value) (b : Bool) (h : mBare x = b) (hk : k96.K w0 x cs) (hb : Below w0.heap.size w0 W) :
  Calls Tryz.prog 145 #[.agg cs.toArray] W fun e W' => e = .returned (.bool b) ∧ Below W.heap.size W W' := by
 subst h
 obtain rfl := k96_open hk
 have HW := Aside0.mk (below_alloc (Below.refl W.heap.size W) (Obj.cells #[.int .i64 x.f0, .string x.f1, .int .i64 x.f2, .int .i64 x.f3] 96 (0, 0)))
 have HA := Aside0.mk (below_alloc hb (Obj.cells #[.int .i64 x.f0, .string x.f1, .int .i64 x.f2, .int .i64 x.f3] 96 (0, 0)))
 have HBR := Aside0.mk (blk_alloc (W := W) (Obj.cells #[.int .i64 x.f0, .string x.f1, .int .i64 x.f2, .int .i64 x.f3] 96 (0, 0)))
 have hcR := blk_cell HBR.out
 have hfR := blk_frozen HBR.out
 clear hk hb
 go_enter Tryz.func145, Tryz.ntmps145
 refine bt (okNum x.f0) (fun h1 => bt (decide (1 ≤ x.f0)) (fun h2 => have h2_0 : (decide (x.f0 ≥ 1)) = true := h2; bt (x.f1.toList.isEmpty) (fun h3 => bt ((x.f2 == 0)) (fun h4 => have h4_0 : ((x.f2 != 0)) = false := congrArg not h4; bt ((x.f3 == 0)) (fun h5 => have h5_0 : ((x.f3 != 0)) = false := congrArg not h5; ?_) (fun h5 => have h5_0 : ((x.f3 != 0)) = true := congrArg not h5; ?_)) (fun h4 => have h4_0 : ((x.f2 != 0)) = true := congrArg not h4; ?_)) (fun h3 => ?_)) (fun h2 => have h2_0 : (decide (x.f0 ≥ 1)) = false := h2; ?_)) (fun h1 => ?_)
 all_goals
  go_wp2_with (go_at_call 91; (with_reducible refine (c_num1 _ _ (by first | rfl | simp) _ _ (by assumption)).mono ?_); rintro e w1 ⟨rfl, hb1⟩; replace HW := Aside0.mk (below_step HW.out hb1); replace HA := Aside0.mk (below_step HA.out hb1); replace HBR := Aside0.mk (blk_below hb1 HBR.out); replace hcR := blk_cell HBR.out; replace hfR := blk_frozen HBR.out; clear hb1)
  go_ret
  exact ⟨by simp only [mBare, *, Bool.not_true, Bool.not_false, Bool.true_and, Bool.false_and, Bool.and_true, Bool.and_false, Bool.true_or, Bool.false_or, Bool.or_true, Bool.or_false, Bool.false_eq_true, if_true, if_false] <;> rfl, HW.out⟩
def mSeen (x : S88) : Bool := rIs x.f0 && decide ((x.f1.size : Int) ≤ 64) && okNum x.f2
set_option maxRecDepth 100000 in
set_option maxHeartbeats 1000000 in
theorem m_seen (w0 W : World) (x : S88) (cs : List Value) (b : Bool) (h : mSeen x = b) (hk : k88.K w0 x cs) (hb : Below w0.heap.size w0 W) (HE : Env w0) :
  Calls Tryz.prog 220 #[.agg cs.toArray] W fun e W' => e = .returned (.bool b) ∧ Below W.heap.size W W' := by
 subst h
 obtain rfl := k88_open hk
 have HW := Aside0.mk (below_alloc (Below.refl W.heap.size W) (Obj.cells #[.string x.f0, .string x.f1, .int .i64 x.f2] 88 (0, 0)))
 have HA := Aside0.mk (below_alloc hb (Obj.cells #[.string x.f0, .string x.f1, .int .i64 x.f2] 88 (0, 0)))
 have HBR := Aside0.mk (blk_alloc (W := W) (Obj.cells #[.string x.f0, .string x.f1, .int .i64 x.f2] 88 (0, 0)))
 have hcR := blk_cell HBR.out
 have hfR := blk_frozen HBR.out
 have HE := Aside0.mk HE
 clear hk hb
 go_enter Tryz.func220, Tryz.ntmps220
 refine bt (rIs x.f0) (fun h1 => bt (decide ((x.f1.size : Int) ≤ 64)) (fun h2 => have h2_0 : (decide (x.f1.size ≤ 64)) = true := dq (by omega) h2; have h2_1 : (decide ((64 : Int) ≥ x.f1.size)) = true := h2; bt (okNum x.f2) (fun h3 => ?_) (fun h3 => ?_)) (fun h2 => have h2_0 : (decide (x.f1.size ≤ 64)) = false := dq (by omega) h2; have h2_1 : (decide ((64 : Int) ≥ x.f1.size)) = false := h2; ?_)) (fun h1 => ?_)
 all_goals
  go_wp2_with (first | (go_at_call 91; (with_reducible refine (c_num1 _ _ (by first | rfl | simp) _ _ (by assumption)).mono ?_); rintro e w1 ⟨rfl, hb1⟩; replace HW := Aside0.mk (below_step HW.out hb1); replace HA := Aside0.mk (below_step HA.out hb1); replace HBR := Aside0.mk (blk_below hb1 HBR.out); replace hcR := blk_cell HBR.out; replace hfR := blk_frozen HBR.out; clear hb1) | (go_at_call 175; (with_reducible refine (m_placed _ _ _ (HE.out.at_ HA.out) (by assumption)).mono ?_); rintro e w1 ⟨rfl, hb1⟩; replace HW := Aside0.mk (below_step HW.out hb1); replace HA := Aside0.mk (below_step HA.out hb1); replace HBR := Aside0.mk (blk_below hb1 HBR.out); replace hcR := blk_cell HBR.out; replace hfR := blk_frozen HBR.out; clear hb1))
  go_ret
  exact ⟨by simp only [mSeen, *, Bool.not_true, Bool.not_false, Bool.true_and, Bool.false_and, Bool.and_true, Bool.and_false, Bool.true_or, Bool.false_or, Bool.or_true, Bool.or_false, Bool.false_eq_true, if_true, if_false] <;> rfl, HW.out⟩
end Go.Proofs.YtmneemhplffemaaGreatDoorRR.May
