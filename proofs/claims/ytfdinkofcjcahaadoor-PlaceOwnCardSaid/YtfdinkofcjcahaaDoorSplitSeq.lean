/- strings.SplitSeq at a slash: the iterator's contract: it hands on the pieces one by one, keeping what is left in its own variable. -/
import Derived.Test.YtfdinkofcjcahaaDoorRangeBox
import Derived.Test.YtfdinkofcjcahaaDoorSplit
import Derived.RangeFuncNested
import Derived.RangeFuncBound
import Derived.RangeFuncCalls
import Derived.RangeFuncLeaves
import Derived.Shelf.Abstract
import Derived.Shelf.RegionOpen
import Derived.WalkKit
import Derived.OwnWalkIn
import Derived.TacticsInMore
import Derived.LoopNIn
import Derived.LoopIn
import Derived.WalkLawsBesides
namespace Go.Proofs.YtfdinkofcjcahaaDoor.Ext
open Go Go.RowKit Go.Shelf Go.Proofs.YtfdinkofcjcahaaDoor.Ord Go.Proofs.YtfdinkofcjcahaaDoor.Pl

attribute [local go_sem] Oper.semAt_some

theorem index_none : ∀ t : List UInt8, Lib.indexByte t 47 = -1 → pcs t = [t]
  | [], _ => rfl
  | c :: r, h => by
    unfold Lib.indexByte at h
    by_cases hc : c = 47
    · subst hc; simp at h
    · rw [if_neg (by simpa using hc)] at h
      have hr : Lib.indexByte r 47 = -1 := by
        have := Lib.indexByte_ge r 47
        split at h
        · rename_i e; exact beq_iff_eq.1 e
        · omega
      rw [pcs, if_neg hc, index_none r hr]
theorem index_some : ∀ (t : List UInt8) (i : Nat), Lib.indexByte t 47 = i → i < t.length ∧ pcs t = t.take i :: pcs (t.drop (i + 1))
  | [], i, h => by simp [Lib.indexByte] at h
  | c :: r, i, h => by
    unfold Lib.indexByte at h
    by_cases hc : c = 47
    · subst hc
      simp only [beq_self_eq_true, if_true] at h
      obtain rfl : i = 0 := by omega
      exact ⟨by simp, by rw [pcs, if_pos rfl]; rfl⟩
    · rw [if_neg (by simpa using hc)] at h
      have hge := Lib.indexByte_ge r 47
      split at h
      · omega
      · rename_i e
        have hne : Lib.indexByte r 47 ≠ -1 := fun x => e (beq_iff_eq.2 x)
        obtain ⟨j, rfl⟩ : ∃ j, i = j + 1 := ⟨i - 1, by omega⟩
        obtain ⟨h1, h2⟩ := index_some r j (by omega)
        refine ⟨by simp only [List.length_cons]; omega, ?_⟩
        rw [pcs, if_neg hc, h2]
        rfl
/-- What a round of the caller's keeps: the iterator's three variables. -/
def KpAt (Bs Bp Bv : Nat) (W W' : World) : Prop := W'.heap[Bs]? = W.heap[Bs]? ∧ W'.heap[Bp]? = W.heap[Bp]? ∧ W'.heap[Bv]? = W.heap[Bv]?
theorem KpAt.trans {Bs Bp Bv : Nat} {A B C : World} (h : KpAt Bs Bp Bv A B) (k : KpAt Bs Bp Bv B C) : KpAt Bs Bp Bv A C := ⟨k.1.trans h.1, k.2.1.trans h.2.1, k.2.2.trans h.2.2⟩
/-- The three variables: what is left; the slash; nothing is saved. -/
structure Vars (Bs Bp Bv : Nat) (W : World) (s : ByteArray) : Prop where
  s : Boxed W Bs 9 (.string s)
  p : Boxed W Bp 9 (.string ⟨#[47]⟩)
  v : Boxed W Bv 3 (.int .i64 0)
theorem Vars.kept {Bs Bp Bv : Nat} {W W' : World} {s : ByteArray} (h : Vars Bs Bp Bv W s) (k : KpAt Bs Bp Bv W W') : Vars Bs Bp Bv W' s :=
  ⟨k.1.trans h.s, k.2.1.trans h.p, k.2.2.trans h.v⟩
/-- What was on its way: a list that another begins with. -/
theorem begun {α : Type} (pre : List α) (x : α) (r : List α) : pre ++ [x] <+: pre ++ x :: r := ⟨r, by simp⟩
set_option maxRecDepth 100000 in
set_option maxHeartbeats 2000000 in
theorem split1_in (n : Nat) (hn : 1 ≤ n) (l Bs Bp Bv : Nat) (hd1 : Bs ≠ Bp) (hd2 : Bs ≠ Bv) (s0 : ByteArray) (hs0 : s0.size ≤ 70000) (J Jx : List ByteArray → World → Prop)
    (hb : ∀ pre X v, J pre X → J pre (X.setCell ⟨Bs, 0, none⟩ v))
    (hY : ∀ pre x W, J pre W → pre.length < (pcs (tx s0)).length → YieldAt Fence.wide (n - 1) Tryd.prog l #[.string x] W fun e W' =>
      (e = .returned (.bool true) ∧ J (pre ++ [x]) W' ∧ KpAt Bs Bp Bv W W') ∨ (e = .returned (.bool false) ∧ Jx (pre ++ [x]) W'))
    (W : World) (hv : Vars Bs Bp Bv W s0) (h0 : J [] W) :
    CallsIn Fence.wide n Tryd.prog 72 #[.func (.yield l) #[] #[], .pointer (some ⟨Bp, 0, none⟩), .pointer (some ⟨Bs, 0, none⟩), .pointer (some ⟨Bv, 0, none⟩)] W fun e W' => (∃ v, e = .returned v) ∧
      ((∃ ys, ys = (pcs (tx s0)).map bs ∧ J ys W') ∨ (∃ pre, pre <+: (pcs (tx s0)).map bs ∧ Jx pre W')) := by
  have hc0 := hv.p.cell
  refine callsIn_of_wp Tryd.func72 rfl trivial ?_ rfl
  simp only [Tryd.ntmps72, List.size_toArray, List.length_cons, List.length_nil, Nat.reduceAdd, Nat.reduceSub, Array.replicate_succ, Array.replicate_zero, List.push_toArray, List.append_toArray, List.nil_append, List.cons_append]
  gi_wp2
  gi_loopw [7] (fun _ wr => ∃ (pre : List ByteArray) (s : ByteArray), (pcs (tx s0)).map bs = pre ++ (pcs (tx s)).map bs ∧ s.size ≤ 70000 ∧ Vars Bs Bp Bv wr s ∧ J pre wr)
    (fun _ wr => match wr.cell? ⟨Bs, 0, none⟩ with | some (.string s) => s.size | _ => 0)
  case atStart => exact ⟨[], s0, rfl, hs0, hv, h0⟩
  case round =>
    obtain ⟨pre, s, hx, hs, hV, hJ⟩ := hrel
    have hc1 := hV.p.cell
    have hc2 := hV.s.cell
    have hc3 := hV.v.cell
    have hf2 := hV.s.frozen
    have hge := Lib.indexByte_ge s.data.toList 47
    by_cases hi : Lib.indexByte s.data.toList 47 = -1
    · have hp : pcs (tx s) = [tx s] := index_none _ hi
      have HX := Lib.hid (show (pcs (tx s0)).map bs = pre ++ [s] by rw [hx, hp]; simp [bs_tx])
      clear hx hp
      have hlen : pre.length < (pcs (tx s0)).length := by
        have := congrArg List.length HX.out
        simp at this
        omega
      obtain ⟨fn, tmps, assign, body, hy, hR⟩ := hY pre s wr hJ hlen
      have HI := Lib.hid hi
      clear hi hlen
      gi_wp2_with (refine ⟨trivial, ?_⟩; gi_at_call 71; refine (callsIn_wide.2 (Tryd.strings_Index_one s 47 _)).mono ?_; rintro e w' ⟨rfl, rfl⟩; rw [HI.out])
      refine hR.mono ?_
      rintro e W3 (⟨rfl, hJ3, hk3⟩ | ⟨rfl, hJx3⟩)
      · gi_wp2
        go_end0
        exact ⟨⟨_, rfl⟩, .inl ⟨_, HX.out.symm, hJ3⟩⟩
      · gi_wp2
        go_end0
        exact ⟨⟨_, rfl⟩, .inr ⟨_, ⟨[], by rw [HX.out]; simp⟩, hJx3⟩⟩
    · obtain ⟨i, hi'⟩ : ∃ i : Nat, Lib.indexByte s.data.toList 47 = i := ⟨(Lib.indexByte s.data.toList 47).toNat, by omega⟩
      clear hi hge
      obtain ⟨hlt, hp⟩ := index_some (tx s) i hi'
      rw [tx_length] at hlt
      have e1 : s.extract 0 i = bs ((tx s).take i) := by
        rw [← bs_tx (s.extract 0 i)]
        congr 1
        exact Lib.extract_from_zero s i
      have e2 : (pcs (tx (s.extract (i + 1) s.size))) = pcs ((tx s).drop (i + 1)) := by
        congr 1
        exact Lib.extract_to_end s (i + 1)
      have HX := Lib.hid (show (pcs (tx s0)).map bs = pre ++ (s.extract 0 i) :: (pcs (tx (s.extract (i + 1) s.size))).map bs by rw [hx, hp, e1, e2]; rfl)
      clear hx hp e1 e2
      have hlen : pre.length < (pcs (tx s0)).length := by
        have := congrArg List.length HX.out
        simp at this
        omega
      have hsz : (s.extract (i + 1) s.size).size ≤ 70000 := by rw [ByteArray.size_extract]; omega
      obtain ⟨fn, tmps, assign, body, hy, hR⟩ := hY pre (s.extract 0 i) wr hJ hlen
      have HI := Lib.hid hi'
      clear hi' hlen
      gi_wp2_with (refine ⟨trivial, ?_⟩; gi_at_call 71; refine (callsIn_wide.2 (Tryd.strings_Index_one s 47 _)).mono ?_; rintro e w' ⟨rfl, rfl⟩; rw [HI.out])
      have hm : ((i : Int) + 1).toNat = i + 1 := by omega
      refine hR.mono ?_
      rintro e W3 (⟨rfl, hJ3, hk3⟩ | ⟨rfl, hJx3⟩)
      · have hV3 := hV.kept hk3
        have hd1' := hV3.p.cell
        have hd2' := hV3.s.cell
        have hd3' := hV3.v.cell
        have hg2' := hV3.s.frozen
        gi_wp2
        go_roundw
        case rel =>
          exact ⟨pre ++ [s.extract 0 i], s.extract (i + 1) s.size, by rw [HX.out]; simp, hsz, ⟨hV3.s.set _, hV3.p.other (Ne.symm hd1) _, hV3.v.other (Ne.symm hd2) _⟩, hb _ _ _ hJ3⟩
        case measure =>
          have hz : (W3.setCell ⟨Bs, 0, none⟩ (.string (s.extract (i + 1) s.size))).cell? ⟨Bs, 0, none⟩ = some (.string (s.extract (i + 1) s.size)) := (hV3.s.set _).cell
          rw [hz, hc2]
          simp only
          rw [ByteArray.size_extract]
          omega
      · gi_wp2
        refine bodyPost_ret (results_none rfl _ _ _) rfl ?_
        exact ⟨⟨_, rfl⟩, .inr ⟨_, by rw [HX.out]; exact begun _ _ _, hJx3⟩⟩
theorem splitSeq_calls (s : ByteArray) (w : World) : Calls Tryd.prog 53 #[.string s, .string ⟨#[47]⟩] w fun e w' =>
    e = .returned (.func (.func 72) #[] #[.pointer (some ⟨w.heap.size + 1, 0, none⟩), .pointer (some ⟨w.heap.size, 0, none⟩), .pointer (some ⟨w.heap.size + 2, 0, none⟩)]) ∧
    w' = ((w.alloc (.cells #[.string s] 9)).alloc (.cells #[.string ⟨#[47]⟩] 9)).alloc (.cells #[.int .i64 0] 3) := by
  go_enter Tryd.func53, Tryd.ntmps53
  go_wp2
  go_ret
  exact ⟨rfl, rfl⟩
end Go.Proofs.YtfdinkofcjcahaaDoor.Ext
