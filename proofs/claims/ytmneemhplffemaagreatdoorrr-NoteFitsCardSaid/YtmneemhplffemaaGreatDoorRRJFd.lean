/- Texts of the proof, joined. -/
import Derived.ArgAppend
import Derived.Below
import Derived.BigQuiet
import Derived.Deep.AppendLies
import Derived.Deep.CutBlock
import Derived.Deep.DeepCutAuto
import Derived.Deep.DeepHandedRow
import Derived.Deep.Draws
import Derived.Deep.LoopGhost
import Derived.Deep.OwnRows
import Derived.Deep.QuietTactic
import Derived.Deep.RegionHeld3
import Derived.Deep.WholeRow
import Derived.HandedShaped
import Derived.KernelRfl
import Derived.Laws.BitsAllLaws
import Derived.Laws.BitsLemmas
import Derived.Laws.BytesArg
import Derived.Laws.EntriesVeiled
import Derived.Laws.IdiomCopy
import Derived.Laws.MakeOwn
import Derived.Laws.OwnMore
import Derived.Laws.Rows
import Derived.Laws.Slices
import Derived.Laws.StructEq
import Derived.Laws.Tables
import Derived.Lib.AppendStr
import Derived.Lib.ConvBytes
import Derived.Lib.Hide
import Derived.Lib.Join
import Derived.Lib.LaidTab
import Derived.Lib.SplitLaws
import Derived.LoopTactic
import Derived.Maps.AppendAt
import Derived.OpenShut
import Derived.OrdersHeld
import Derived.Outline
import Derived.OwnWalk
import Derived.ProofKit
import Derived.RowKit
import Derived.RowKit3
import Derived.Shelf.LaysM
import Derived.Shelf.Strings.Count
import Derived.Shelf.Strings.Explode
import Derived.Shelf.Strings.Prefix
import Derived.Shelf.Strings.RuneCount
import Derived.Shelf.Strings.Search1
import Derived.Shelf.Strings.Search2
import Derived.Shelf.Strings.Search3
import Derived.Shelf.Strings.Shaped
import Derived.Shelf.Strings.Split
import Derived.Shelf.Strings.SplitShaped
import Derived.Shelf.Unicode.Decode
import Derived.Shelf.Unicode.DecodeSlow
import Derived.Shelf.Utf8.RuneCount
import Derived.Shelf.Vars
import Derived.StillTailTactics
import Derived.Tactics
import Derived.Test.YtmneemhplffemaaGreatDoorRRCards
import Derived.Test.YtmneemhplffemaaGreatDoorRRProg
import Derived.Test.YtmneemhplffemaaGreatDoorRRTie
import Derived.WalkKit
import Derived.WalkLawsBesides
import Derived.WideLaws
import Derived.Test.YtmneemhplffemaaGreatDoorRRJFc
set_option linter.unusedVariables false
set_option linter.unusedSimpArgs false
namespace Go.Proofs.YtmneemhplffemaaGreatDoorRR.Ext
open Go.RowKit Go.Proofs.YtmneemhplffemaaGreatDoorRRW.PrintWords Go.Proofs.YtmneemhplffemaaGreatDoorRR.Ki
def PredItem (w0 : World) (K : FuncId) (b : Addr) (p : S91 → Bool) (xs : List S91) : Prop :=
 ∀ (x : S91) (cs : List Value) (W : World), x ∈ xs → Below w0.heap.size w0 W → k91.K W x cs → Calls Tryz.prog K #[.agg cs.toArray, .pointer (some b)] W fun e W' => e = .returned (.bool (p x)) ∧ Below W.heap.size W W'
set_option maxRecDepth 100000 in
set_option maxHeartbeats 1000000 in
theorem indexFunc_Item (p : S91 → Bool) (K : FuncId) (b : Addr) (hK : ∀ (args : Array Value) (w : World), (callFunc K args).run Tryz.prog w = .ok (.enter K args) w) (w0 : World) (A : Option Addr) (c : Nat) (xs : List S91) (hp : PredItem w0 K b p xs) (w : World) (hr : k91.C w0 A xs.length xs) (hw : Below w0.heap.size w0 w) :
  Calls Tryz.prog 292 #[.slice A xs.length c, .func (.func K) #[] #[.pointer (some b)]] w fun e w' => e = .returned (.int .i64 (idxOf p xs)) ∧ Below w.heap.size w w' := by
 have HR := Aside0.mk hr
 have HP := Aside0.mk hp
 have HW := Aside0.mk hw
 have hm : xs.length ≤ 9223372036854775807 := hr.2.1
 clear hr hp hw
 go_enter Tryz.func292, Tryz.ntmps292
 go_wp2_with fail
 go_loopw [8] (fun v8 W => ∃ k : Nat, v8 = .int .i64 k ∧ k ≤ xs.length ∧ Aside0 (∀ j x, j < k → xs[j]? = some x → p x = false) ∧ Below w.heap.size w W) (fun v8 _ => xs.length - (intOf v8).toNat)
 case atStart => exact ⟨0, rfl, Nat.zero_le _, ⟨fun j x hj => by omega⟩, Below.refl _ _⟩
 case round =>
  obtain ⟨k, rfl, hk, HB, hb0⟩ := hrel
  have HBW := Aside0.mk hb0
  have HWR := Aside0.mk (below_step HW.out hb0)
  clear hb0
  by_cases hlt : k < xs.length
  · obtain ⟨x, hxe⟩ : ∃ x, xs[k]? = some x := ⟨_, List.getElem?_eq_getElem hlt⟩
    have HX := Aside0.mk hxe
    have HC := Kd.C_below HR.out HWR.out
    have hat := at_T91 HC (k : Int) (by omega) (by omega)
    rw [show rd_T91 xs (k : Int) = x by unfold rd_T91; rw [Int.toNat_natCast, List.getD_eq_getElem?_getD, hxe]; rfl, Int.toNat_natCast] at hat
    clear hxe HC
    obtain ⟨ad, A3, c3, A4, c4, rfl, h0, h1, h2, h3, h4, l3, g3, l4, g4⟩ := hat
    have HK0 := Aside0.mk (k91_mk wr x l3 g3 l4 g4)
    clear g3 g4
    by_cases hpx : p x = true
    · have HPX := Aside0.mk hpx
      have hq := HP.out x _ wr (List.mem_of_getElem? HX.out) HWR.out HK0.out
      simp only [hpx] at hq
      have HQ := Aside0.mk hq
      clear hpx hq
      go_wp2_with ((with_reducible refine HQ.out.mono ?_); rintro e w1 ⟨rfl, hb1⟩; have HB1 := Aside0.mk hb1; clear hb1)
      go_ret
      exact ⟨by rw [idx_some HB.out HX.out HPX.out]; rfl, below_step HBW.out HB1.out⟩
    · have hpf : p x = false := by simpa using hpx
      have HPX := Aside0.mk hpf
      have hq := HP.out x _ wr (List.mem_of_getElem? HX.out) HWR.out HK0.out
      simp only [hpf] at hq
      have HQ := Aside0.mk hq
      clear hpx hq hpf
      go_wp2_with ((with_reducible refine HQ.out.mono ?_); rintro e w1 ⟨rfl, hb1⟩; have HB1 := Aside0.mk hb1; clear hb1)
      go_roundw
      case rel => exact ⟨k + 1, by go_num, by omega, ⟨idx_step HB.out HX.out HPX.out⟩, below_step HBW.out HB1.out⟩
      case measure => simp [intOf]; omega
  · go_wp2_with fail
    go_ret
    exact ⟨by rw [idx_none HB.out (by omega)]; rfl, HBW.out⟩
set_option maxRecDepth 100000 in
theorem containsFunc_Item (p : S91 → Bool) (K : FuncId) (b : Addr) (hK : ∀ (args : Array Value) (w : World), (callFunc K args).run Tryz.prog w = .ok (.enter K args) w) (w0 : World) (A : Option Addr) (c : Nat) (xs : List S91) (hp : PredItem w0 K b p xs) (w : World) (hr : k91.C w0 A xs.length xs) (hw : Below w0.heap.size w0 w) :
  Calls Tryz.prog 280 #[.slice A xs.length c, .func (.func K) #[] #[.pointer (some b)]] w fun e w' => e = .returned (.bool (xs.any p)) ∧ Below w.heap.size w w' := by
 rw [← idx_any p xs]
 obtain ⟨r, hr'⟩ : ∃ r, r = idxOf p xs := ⟨_, rfl⟩
 have HI := Aside0.mk (hr' ▸ indexFunc_Item p K b hK w0 A c xs hp w hr hw)
 rw [← hr']
 clear hr' hr hp hK hw
 go_enter Tryz.func280, Tryz.ntmps280
 go_wp2_with (go_at_call 292; (with_reducible refine HI.out.mono ?_); rintro e w1 ⟨rfl, hb1⟩; have HB1 := Aside0.mk hb1; clear hb1)
 go_ret
 exact ⟨rfl, HB1.out⟩
def MayItem (w0 : World) (M : FuncId) (m : S91 → Bool) (xs : List S91) : Prop :=
 ∀ (x : S91) (cs : List Value) (W : World), x ∈ xs → Below w0.heap.size w0 W → k91.K W x cs → Calls Tryz.prog M #[.agg cs.toArray] W fun e W' => e = .returned (.bool (m x)) ∧ Below W.heap.size W W'
set_option maxRecDepth 100000 in
theorem closure_Item (m : S91 → Bool) (M : FuncId) (hM : ∀ (args : Array Value) (w : World), (callFunc M args).run Tryz.prog w = .ok (.enter M args) w) (w0 : World) (xs : List S91) (hp : MayItem w0 M m xs) (b : Addr) (W0 : World) (hb0 : Below w0.heap.size w0 W0) (hcell : W0.cell? b = some (.func (.func M) #[] #[])) : PredItem W0 281 b (fun x => !m x) xs := by
 intro x cs W hx hb hk
 have hc := pw_cell_below hb hcell
 obtain ⟨cs', hcs⟩ : ∃ cs', cs' = cs := ⟨_, rfl⟩
 obtain ⟨A3, c3, A4, c4, rfl, l3, g3, l4, g4⟩ := k91_open hk
 have hnot : ∀ (x : Bool) (w : World), (Op.unary .not (.bool x)).run Tryz.prog w = .ok (.bool (!x)) w := fun _ _ => rfl
 have HP := Aside0.mk hp
 have HX := Aside0.mk hx
 have HB := Aside0.mk (below_step hb0 hb)
 have hc2 : ∀ o, (W.alloc o).cell? b = some (.func (.func M) #[] #[]) := fun o => pw_cell_below (below_alloc (Below.refl _ _) o) hc
 have HQ := Aside0.mk (HP.out x _ (W.alloc (Obj.cells #[.int .i64 x.f0, .int .i64 x.f1, .bool x.f2, .slice A3 x.f3.length c3, .slice A4 x.f4.length c4] 91 (0, 0))) hx (below_alloc HB.out (Obj.cells #[.int .i64 x.f0, .int .i64 x.f1, .bool x.f2, .slice A3 x.f3.length c3, .slice A4 x.f4.length c4] 91 (0, 0))) (k91_mk _ x l3 (Kd.C_below g3 (below_alloc (Below.refl _ _) (Obj.cells #[.int .i64 x.f0, .int .i64 x.f1, .bool x.f2, .slice A3 x.f3.length c3, .slice A4 x.f4.length c4] 91 (0, 0)))) l4 (Kd.C_below g4 (below_alloc (Below.refl _ _) (Obj.cells #[.int .i64 x.f0, .int .i64 x.f1, .bool x.f2, .slice A3 x.f3.length c3, .slice A4 x.f4.length c4] 91 (0, 0))))))
 clear hp hx hcs hb g3 g4
 go_enter Tryz.func281, Tryz.ntmps281
 go_wp2_with ((with_reducible refine HQ.out.mono ?_); rintro e w1 ⟨rfl, hb1⟩; have HB1 := Aside0.mk hb1; clear hb1)
 go_ret
 exact ⟨rfl, below_step (below_alloc (Below.refl _ _) _) HB1.out⟩
set_option maxRecDepth 100000 in
theorem all_Item (m : S91 → Bool) (M : FuncId) (hM : ∀ (args : Array Value) (w : World), (callFunc M args).run Tryz.prog w = .ok (.enter M args) w) (w0 W : World) (A : Option Addr) (c : Nat) (xs : List S91) (n : Int) (b : Bool) (h : (decide ((xs.length : Int) ≤ n) && xs.all m) = b) (hp : MayItem w0 M m xs) (hC : k91.C w0 A xs.length xs) (hb : Below w0.heap.size w0 W) :
   Calls Tryz.prog 255 #[.slice A xs.length c, .int .i64 n, .func (.func M) #[] #[]] W fun e W' => e = .returned (.bool b) ∧ Below W.heap.size W W' := by
 subst h
 have HB := Aside0.mk (below_alloc hb (Obj.cells #[.func (.func M) #[] #[]] 123 (0, 0)))
 have HQ := Aside0.mk (containsFunc_Item (fun x => !m x) 281 ⟨W.heap.size, 0, none⟩ (fun _ _ => rfl) (W.alloc (Obj.cells #[.func (.func M) #[] #[]] 123 (0, 0))) A c xs (closure_Item m M hM w0 xs hp ⟨W.heap.size, 0, none⟩ (W.alloc (Obj.cells #[.func (.func M) #[] #[]] 123 (0, 0))) HB.out (blk_cell (heap_alloc_new W (Obj.cells #[.func (.func M) #[] #[]] 123 (0, 0))) 0)) (W.alloc (Obj.cells #[.func (.func M) #[] #[]] 123 (0, 0))) (Kd.C_below hC HB.out) (Below.refl _ _))
 have ha : (xs.any fun x => !m x) = !xs.all m := by rw [← List.not_all_eq_any_not]
 rw [ha] at HQ
 have hm : xs.length ≤ 9223372036854775807 := hC.2.1
 clear hp hC hb hM ha
 go_enter Tryz.func255, Tryz.ntmps255
 cases h1 : decide ((xs.length : Int) ≤ n) with
 | false =>
   go_wp2_with fail
   go_ret
   exact ⟨rfl, below_alloc (Below.refl _ _) _⟩
 | true =>
   go_wp2_with ((with_reducible refine HQ.out.mono ?_); rintro e w1 ⟨rfl, hb1⟩; have HB1 := Aside0.mk hb1; clear hb1)
   go_ret
   exact ⟨by simp, below_step (below_alloc (Below.refl _ _) _) HB1.out⟩
end Go.Proofs.YtmneemhplffemaaGreatDoorRR.Ext
namespace Go.Proofs.YtmneemhplffemaaGreatDoorRR.Ext
open Go.RowKit Go.Proofs.YtmneemhplffemaaGreatDoorRRW.PrintWords Go.Proofs.YtmneemhplffemaaGreatDoorRR.Ki
def PredPart (w0 : World) (K : FuncId) (b : Addr) (p : S86 → Bool) (xs : List S86) : Prop :=
 ∀ (x : S86) (cs : List Value) (W : World), x ∈ xs → Below w0.heap.size w0 W → k86.K W x cs → Calls Tryz.prog K #[.agg cs.toArray, .pointer (some b)] W fun e W' => e = .returned (.bool (p x)) ∧ Below W.heap.size W W'
set_option maxRecDepth 100000 in
set_option maxHeartbeats 1000000 in
theorem indexFunc_Part (p : S86 → Bool) (K : FuncId) (b : Addr) (hK : ∀ (args : Array Value) (w : World), (callFunc K args).run Tryz.prog w = .ok (.enter K args) w) (w0 : World) (A : Option Addr) (c : Nat) (xs : List S86) (hp : PredPart w0 K b p xs) (w : World) (hr : k86.C w0 A xs.length xs) (hw : Below w0.heap.size w0 w) :
  Calls Tryz.prog 301 #[.slice A xs.length c, .func (.func K) #[] #[.pointer (some b)]] w fun e w' => e = .returned (.int .i64 (idxOf p xs)) ∧ Below w.heap.size w w' := by
 have HR := Aside0.mk hr
 have HP := Aside0.mk hp
 have HW := Aside0.mk hw
 have hm : xs.length ≤ 9223372036854775807 := hr.2.1
 clear hr hp hw
 go_enter Tryz.func301, Tryz.ntmps301
 go_wp2_with fail
 go_loopw [8] (fun v8 W => ∃ k : Nat, v8 = .int .i64 k ∧ k ≤ xs.length ∧ Aside0 (∀ j x, j < k → xs[j]? = some x → p x = false) ∧ Below w.heap.size w W) (fun v8 _ => xs.length - (intOf v8).toNat)
 case atStart => exact ⟨0, rfl, Nat.zero_le _, ⟨fun j x hj => by omega⟩, Below.refl _ _⟩
 case round =>
  obtain ⟨k, rfl, hk, HB, hb0⟩ := hrel
  have HBW := Aside0.mk hb0
  have HWR := Aside0.mk (below_step HW.out hb0)
  clear hb0
  by_cases hlt : k < xs.length
  · obtain ⟨x, hxe⟩ : ∃ x, xs[k]? = some x := ⟨_, List.getElem?_eq_getElem hlt⟩
    have HX := Aside0.mk hxe
    have HC := Kd.C_below HR.out HWR.out
    have hat := at_T86 HC (k : Int) (by omega) (by omega)
    rw [show rd_T86 xs (k : Int) = x by unfold rd_T86; rw [Int.toNat_natCast, List.getD_eq_getElem?_getD, hxe]; rfl, Int.toNat_natCast] at hat
    clear hxe HC
    obtain ⟨ad, A4, c4, rfl, h0, h1, h2, h3, h4, l4, g4⟩ := hat
    have HK0 := Aside0.mk (k86_mk wr x l4 g4)
    clear g4
    by_cases hpx : p x = true
    · have HPX := Aside0.mk hpx
      have hq := HP.out x _ wr (List.mem_of_getElem? HX.out) HWR.out HK0.out
      simp only [hpx] at hq
      have HQ := Aside0.mk hq
      clear hpx hq
      go_wp2_with ((with_reducible refine HQ.out.mono ?_); rintro e w1 ⟨rfl, hb1⟩; have HB1 := Aside0.mk hb1; clear hb1)
      go_ret
      exact ⟨by rw [idx_some HB.out HX.out HPX.out]; rfl, below_step HBW.out HB1.out⟩
    · have hpf : p x = false := by simpa using hpx
      have HPX := Aside0.mk hpf
      have hq := HP.out x _ wr (List.mem_of_getElem? HX.out) HWR.out HK0.out
      simp only [hpf] at hq
      have HQ := Aside0.mk hq
      clear hpx hq hpf
      go_wp2_with ((with_reducible refine HQ.out.mono ?_); rintro e w1 ⟨rfl, hb1⟩; have HB1 := Aside0.mk hb1; clear hb1)
      go_roundw
      case rel => exact ⟨k + 1, by go_num, by omega, ⟨idx_step HB.out HX.out HPX.out⟩, below_step HBW.out HB1.out⟩
      case measure => simp [intOf]; omega
  · go_wp2_with fail
    go_ret
    exact ⟨by rw [idx_none HB.out (by omega)]; rfl, HBW.out⟩
set_option maxRecDepth 100000 in
theorem containsFunc_Part (p : S86 → Bool) (K : FuncId) (b : Addr) (hK : ∀ (args : Array Value) (w : World), (callFunc K args).run Tryz.prog w = .ok (.enter K args) w) (w0 : World) (A : Option Addr) (c : Nat) (xs : List S86) (hp : PredPart w0 K b p xs) (w : World) (hr : k86.C w0 A xs.length xs) (hw : Below w0.heap.size w0 w) :
  Calls Tryz.prog 293 #[.slice A xs.length c, .func (.func K) #[] #[.pointer (some b)]] w fun e w' => e = .returned (.bool (xs.any p)) ∧ Below w.heap.size w w' := by
 rw [← idx_any p xs]
 obtain ⟨r, hr'⟩ : ∃ r, r = idxOf p xs := ⟨_, rfl⟩
 have HI := Aside0.mk (hr' ▸ indexFunc_Part p K b hK w0 A c xs hp w hr hw)
 rw [← hr']
 clear hr' hr hp hK hw
 go_enter Tryz.func293, Tryz.ntmps293
 go_wp2_with (go_at_call 301; (with_reducible refine HI.out.mono ?_); rintro e w1 ⟨rfl, hb1⟩; have HB1 := Aside0.mk hb1; clear hb1)
 go_ret
 exact ⟨rfl, HB1.out⟩
def MayPart (w0 : World) (M : FuncId) (m : S86 → Bool) (xs : List S86) : Prop :=
 ∀ (x : S86) (cs : List Value) (W : World), x ∈ xs → Below w0.heap.size w0 W → k86.K W x cs → Calls Tryz.prog M #[.agg cs.toArray] W fun e W' => e = .returned (.bool (m x)) ∧ Below W.heap.size W W'
set_option maxRecDepth 100000 in
theorem closure_Part (m : S86 → Bool) (M : FuncId) (hM : ∀ (args : Array Value) (w : World), (callFunc M args).run Tryz.prog w = .ok (.enter M args) w) (w0 : World) (xs : List S86) (hp : MayPart w0 M m xs) (b : Addr) (W0 : World) (hb0 : Below w0.heap.size w0 W0) (hcell : W0.cell? b = some (.func (.func M) #[] #[])) : PredPart W0 294 b (fun x => !m x) xs := by
 intro x cs W hx hb hk
 have hc := pw_cell_below hb hcell
 obtain ⟨cs', hcs⟩ : ∃ cs', cs' = cs := ⟨_, rfl⟩
 obtain ⟨A4, c4, rfl, l4, g4⟩ := k86_open hk
 have hnot : ∀ (x : Bool) (w : World), (Op.unary .not (.bool x)).run Tryz.prog w = .ok (.bool (!x)) w := fun _ _ => rfl
 have HP := Aside0.mk hp
 have HX := Aside0.mk hx
 have HB := Aside0.mk (below_step hb0 hb)
 have hc2 : ∀ o, (W.alloc o).cell? b = some (.func (.func M) #[] #[]) := fun o => pw_cell_below (below_alloc (Below.refl _ _) o) hc
 have HQ := Aside0.mk (HP.out x _ (W.alloc (Obj.cells #[.int .i64 x.f0, .int .i64 x.f1.f0, .string x.f1.f1, .int .i64 x.f1.f2, .slice A4 x.f1.f3.length c4] 86 (0, 0))) hx (below_alloc HB.out (Obj.cells #[.int .i64 x.f0, .int .i64 x.f1.f0, .string x.f1.f1, .int .i64 x.f1.f2, .slice A4 x.f1.f3.length c4] 86 (0, 0))) (k86_mk _ x l4 (Kd.C_below g4 (below_alloc (Below.refl _ _) (Obj.cells #[.int .i64 x.f0, .int .i64 x.f1.f0, .string x.f1.f1, .int .i64 x.f1.f2, .slice A4 x.f1.f3.length c4] 86 (0, 0))))))
 clear hp hx hcs hb g4
 go_enter Tryz.func294, Tryz.ntmps294
 go_wp2_with ((with_reducible refine HQ.out.mono ?_); rintro e w1 ⟨rfl, hb1⟩; have HB1 := Aside0.mk hb1; clear hb1)
 go_ret
 exact ⟨rfl, below_step (below_alloc (Below.refl _ _) _) HB1.out⟩
set_option maxRecDepth 100000 in
theorem all_Part (m : S86 → Bool) (M : FuncId) (hM : ∀ (args : Array Value) (w : World), (callFunc M args).run Tryz.prog w = .ok (.enter M args) w) (w0 W : World) (A : Option Addr) (c : Nat) (xs : List S86) (n : Int) (b : Bool) (h : (decide ((xs.length : Int) ≤ n) && xs.all m) = b) (hp : MayPart w0 M m xs) (hC : k86.C w0 A xs.length xs) (hb : Below w0.heap.size w0 W) :
   Calls Tryz.prog 282 #[.slice A xs.length c, .int .i64 n, .func (.func M) #[] #[]] W fun e W' => e = .returned (.bool b) ∧ Below W.heap.size W W' := by
 subst h
 have HB := Aside0.mk (below_alloc hb (Obj.cells #[.func (.func M) #[] #[]] 284 (0, 0)))
 have HQ := Aside0.mk (containsFunc_Part (fun x => !m x) 294 ⟨W.heap.size, 0, none⟩ (fun _ _ => rfl) (W.alloc (Obj.cells #[.func (.func M) #[] #[]] 284 (0, 0))) A c xs (closure_Part m M hM w0 xs hp ⟨W.heap.size, 0, none⟩ (W.alloc (Obj.cells #[.func (.func M) #[] #[]] 284 (0, 0))) HB.out (blk_cell (heap_alloc_new W (Obj.cells #[.func (.func M) #[] #[]] 284 (0, 0))) 0)) (W.alloc (Obj.cells #[.func (.func M) #[] #[]] 284 (0, 0))) (Kd.C_below hC HB.out) (Below.refl _ _))
 have ha : (xs.any fun x => !m x) = !xs.all m := by rw [← List.not_all_eq_any_not]
 rw [ha] at HQ
 have hm : xs.length ≤ 9223372036854775807 := hC.2.1
 clear hp hC hb hM ha
 go_enter Tryz.func282, Tryz.ntmps282
 cases h1 : decide ((xs.length : Int) ≤ n) with
 | false =>
   go_wp2_with fail
   go_ret
   exact ⟨rfl, below_alloc (Below.refl _ _) _⟩
 | true =>
   go_wp2_with ((with_reducible refine HQ.out.mono ?_); rintro e w1 ⟨rfl, hb1⟩; have HB1 := Aside0.mk hb1; clear hb1)
   go_ret
   exact ⟨by simp, below_step (below_alloc (Below.refl _ _) _) HB1.out⟩
end Go.Proofs.YtmneemhplffemaaGreatDoorRR.Ext
namespace Go.Proofs.YtmneemhplffemaaGreatDoorRR.Ext
open Go.RowKit Go.Proofs.YtmneemhplffemaaGreatDoorRRW.PrintWords Go.Proofs.YtmneemhplffemaaGreatDoorRR.Ki
def PredTagged (w0 : World) (K : FuncId) (b : Addr) (p : S148 → Bool) (xs : List S148) : Prop :=
 ∀ (x : S148) (cs : List Value) (W : World), x ∈ xs → Below w0.heap.size w0 W → k148.K W x cs → Calls Tryz.prog K #[.agg cs.toArray, .pointer (some b)] W fun e W' => e = .returned (.bool (p x)) ∧ Below W.heap.size W W'
set_option maxRecDepth 100000 in
set_option maxHeartbeats 1000000 in
theorem indexFunc_Tagged (p : S148 → Bool) (K : FuncId) (b : Addr) (hK : ∀ (args : Array Value) (w : World), (callFunc K args).run Tryz.prog w = .ok (.enter K args) w) (w0 : World) (A : Option Addr) (c : Nat) (xs : List S148) (hp : PredTagged w0 K b p xs) (w : World) (hr : k148.C w0 A xs.length xs) (hw : Below w0.heap.size w0 w) :
  Calls Tryz.prog 302 #[.slice A xs.length c, .func (.func K) #[] #[.pointer (some b)]] w fun e w' => e = .returned (.int .i64 (idxOf p xs)) ∧ Below w.heap.size w w' := by
 have HR := Aside0.mk hr
 have HP := Aside0.mk hp
 have HW := Aside0.mk hw
 have hm : xs.length ≤ 9223372036854775807 := hr.2.1
 clear hr hp hw
 go_enter Tryz.func302, Tryz.ntmps302
 go_wp2_with fail
 go_loopw [8] (fun v8 W => ∃ k : Nat, v8 = .int .i64 k ∧ k ≤ xs.length ∧ Aside0 (∀ j x, j < k → xs[j]? = some x → p x = false) ∧ Below w.heap.size w W) (fun v8 _ => xs.length - (intOf v8).toNat)
 case atStart => exact ⟨0, rfl, Nat.zero_le _, ⟨fun j x hj => by omega⟩, Below.refl _ _⟩
 case round =>
  obtain ⟨k, rfl, hk, HB, hb0⟩ := hrel
  have HBW := Aside0.mk hb0
  have HWR := Aside0.mk (below_step HW.out hb0)
  clear hb0
  by_cases hlt : k < xs.length
  · obtain ⟨x, hxe⟩ : ∃ x, xs[k]? = some x := ⟨_, List.getElem?_eq_getElem hlt⟩
    have HX := Aside0.mk hxe
    have HC := Kd.C_below HR.out HWR.out
    have hat := at_T148 HC (k : Int) (by omega) (by omega)
    rw [show rd_T148 xs (k : Int) = x by unfold rd_T148; rw [Int.toNat_natCast, List.getD_eq_getElem?_getD, hxe]; rfl, Int.toNat_natCast] at hat
    clear hxe HC
    obtain ⟨ad, A4, c4, rfl, h0, h1, h2, h3, h4, l4, g4⟩ := hat
    have HK0 := Aside0.mk (k148_mk wr x l4 g4)
    clear g4
    by_cases hpx : p x = true
    · have HPX := Aside0.mk hpx
      have hq := HP.out x _ wr (List.mem_of_getElem? HX.out) HWR.out HK0.out
      simp only [hpx] at hq
      have HQ := Aside0.mk hq
      clear hpx hq
      go_wp2_with ((with_reducible refine HQ.out.mono ?_); rintro e w1 ⟨rfl, hb1⟩; have HB1 := Aside0.mk hb1; clear hb1)
      go_ret
      exact ⟨by rw [idx_some HB.out HX.out HPX.out]; rfl, below_step HBW.out HB1.out⟩
    · have hpf : p x = false := by simpa using hpx
      have HPX := Aside0.mk hpf
      have hq := HP.out x _ wr (List.mem_of_getElem? HX.out) HWR.out HK0.out
      simp only [hpf] at hq
      have HQ := Aside0.mk hq
      clear hpx hq hpf
      go_wp2_with ((with_reducible refine HQ.out.mono ?_); rintro e w1 ⟨rfl, hb1⟩; have HB1 := Aside0.mk hb1; clear hb1)
      go_roundw
      case rel => exact ⟨k + 1, by go_num, by omega, ⟨idx_step HB.out HX.out HPX.out⟩, below_step HBW.out HB1.out⟩
      case measure => simp [intOf]; omega
  · go_wp2_with fail
    go_ret
    exact ⟨by rw [idx_none HB.out (by omega)]; rfl, HBW.out⟩
set_option maxRecDepth 100000 in
theorem containsFunc_Tagged (p : S148 → Bool) (K : FuncId) (b : Addr) (hK : ∀ (args : Array Value) (w : World), (callFunc K args).run Tryz.prog w = .ok (.enter K args) w) (w0 : World) (A : Option Addr) (c : Nat) (xs : List S148) (hp : PredTagged w0 K b p xs) (w : World) (hr : k148.C w0 A xs.length xs) (hw : Below w0.heap.size w0 w) :
  Calls Tryz.prog 295 #[.slice A xs.length c, .func (.func K) #[] #[.pointer (some b)]] w fun e w' => e = .returned (.bool (xs.any p)) ∧ Below w.heap.size w w' := by
 rw [← idx_any p xs]
 obtain ⟨r, hr'⟩ : ∃ r, r = idxOf p xs := ⟨_, rfl⟩
 have HI := Aside0.mk (hr' ▸ indexFunc_Tagged p K b hK w0 A c xs hp w hr hw)
 rw [← hr']
 clear hr' hr hp hK hw
 go_enter Tryz.func295, Tryz.ntmps295
 go_wp2_with (go_at_call 302; (with_reducible refine HI.out.mono ?_); rintro e w1 ⟨rfl, hb1⟩; have HB1 := Aside0.mk hb1; clear hb1)
 go_ret
 exact ⟨rfl, HB1.out⟩
def MayTagged (w0 : World) (M : FuncId) (m : S148 → Bool) (xs : List S148) : Prop :=
 ∀ (x : S148) (cs : List Value) (W : World), x ∈ xs → Below w0.heap.size w0 W → k148.K W x cs → Calls Tryz.prog M #[.agg cs.toArray] W fun e W' => e = .returned (.bool (m x)) ∧ Below W.heap.size W W'
set_option maxRecDepth 100000 in
theorem closure_Tagged (m : S148 → Bool) (M : FuncId) (hM : ∀ (args : Array Value) (w : World), (callFunc M args).run Tryz.prog w = .ok (.enter M args) w) (w0 : World) (xs : List S148) (hp : MayTagged w0 M m xs) (b : Addr) (W0 : World) (hb0 : Below w0.heap.size w0 W0) (hcell : W0.cell? b = some (.func (.func M) #[] #[])) : PredTagged W0 296 b (fun x => !m x) xs := by
 intro x cs W hx hb hk
 have hc := pw_cell_below hb hcell
 obtain ⟨cs', hcs⟩ : ∃ cs', cs' = cs := ⟨_, rfl⟩
 obtain ⟨A4, c4, rfl, l4, g4⟩ := k148_open hk
 have hnot : ∀ (x : Bool) (w : World), (Op.unary .not (.bool x)).run Tryz.prog w = .ok (.bool (!x)) w := fun _ _ => rfl
 have HP := Aside0.mk hp
 have HX := Aside0.mk hx
 have HB := Aside0.mk (below_step hb0 hb)
 have hc2 : ∀ o, (W.alloc o).cell? b = some (.func (.func M) #[] #[]) := fun o => pw_cell_below (below_alloc (Below.refl _ _) o) hc
 have HQ := Aside0.mk (HP.out x _ (W.alloc (Obj.cells #[.int .i64 x.f0.f0, .string x.f0.f1, .string x.f0.f2, .int .i64 x.f0.f3, .slice A4 x.f1.length c4] 148 (0, 0))) hx (below_alloc HB.out (Obj.cells #[.int .i64 x.f0.f0, .string x.f0.f1, .string x.f0.f2, .int .i64 x.f0.f3, .slice A4 x.f1.length c4] 148 (0, 0))) (k148_mk _ x l4 (Kd.C_below g4 (below_alloc (Below.refl _ _) (Obj.cells #[.int .i64 x.f0.f0, .string x.f0.f1, .string x.f0.f2, .int .i64 x.f0.f3, .slice A4 x.f1.length c4] 148 (0, 0))))))
 clear hp hx hcs hb g4
 go_enter Tryz.func296, Tryz.ntmps296
 go_wp2_with ((with_reducible refine HQ.out.mono ?_); rintro e w1 ⟨rfl, hb1⟩; have HB1 := Aside0.mk hb1; clear hb1)
 go_ret
 exact ⟨rfl, below_step (below_alloc (Below.refl _ _) _) HB1.out⟩
set_option maxRecDepth 100000 in
theorem all_Tagged (m : S148 → Bool) (M : FuncId) (hM : ∀ (args : Array Value) (w : World), (callFunc M args).run Tryz.prog w = .ok (.enter M args) w) (w0 W : World) (A : Option Addr) (c : Nat) (xs : List S148) (n : Int) (b : Bool) (h : (decide ((xs.length : Int) ≤ n) && xs.all m) = b) (hp : MayTagged w0 M m xs) (hC : k148.C w0 A xs.length xs) (hb : Below w0.heap.size w0 W) :
   Calls Tryz.prog 284 #[.slice A xs.length c, .int .i64 n, .func (.func M) #[] #[]] W fun e W' => e = .returned (.bool b) ∧ Below W.heap.size W W' := by
 subst h
 have HB := Aside0.mk (below_alloc hb (Obj.cells #[.func (.func M) #[] #[]] 209 (0, 0)))
 have HQ := Aside0.mk (containsFunc_Tagged (fun x => !m x) 296 ⟨W.heap.size, 0, none⟩ (fun _ _ => rfl) (W.alloc (Obj.cells #[.func (.func M) #[] #[]] 209 (0, 0))) A c xs (closure_Tagged m M hM w0 xs hp ⟨W.heap.size, 0, none⟩ (W.alloc (Obj.cells #[.func (.func M) #[] #[]] 209 (0, 0))) HB.out (blk_cell (heap_alloc_new W (Obj.cells #[.func (.func M) #[] #[]] 209 (0, 0))) 0)) (W.alloc (Obj.cells #[.func (.func M) #[] #[]] 209 (0, 0))) (Kd.C_below hC HB.out) (Below.refl _ _))
 have ha : (xs.any fun x => !m x) = !xs.all m := by rw [← List.not_all_eq_any_not]
 rw [ha] at HQ
 have hm : xs.length ≤ 9223372036854775807 := hC.2.1
 clear hp hC hb hM ha
 go_enter Tryz.func284, Tryz.ntmps284
 cases h1 : decide ((xs.length : Int) ≤ n) with
 | false =>
   go_wp2_with fail
   go_ret
   exact ⟨rfl, below_alloc (Below.refl _ _) _⟩
 | true =>
   go_wp2_with ((with_reducible refine HQ.out.mono ?_); rintro e w1 ⟨rfl, hb1⟩; have HB1 := Aside0.mk hb1; clear hb1)
   go_ret
   exact ⟨by simp, below_step (below_alloc (Below.refl _ _) _) HB1.out⟩
end Go.Proofs.YtmneemhplffemaaGreatDoorRR.Ext
namespace Go.Proofs.YtmneemhplffemaaGreatDoorRR.Ext
open Go.RowKit Go.Proofs.YtmneemhplffemaaGreatDoorRRW.PrintWords Go.Proofs.YtmneemhplffemaaGreatDoorRR.Ki
def PredText (w0 : World) (K : FuncId) (b : Addr) (p : ByteArray → Bool) (xs : List ByteArray) : Prop :=
 ∀ (x : ByteArray) (W : World), x ∈ xs → Below w0.heap.size w0 W → Calls Tryz.prog K #[.string x, .pointer (some b)] W fun e W' => e = .returned (.bool (p x)) ∧ Below W.heap.size W W'
set_option maxRecDepth 100000 in
set_option maxHeartbeats 1000000 in
theorem indexFunc_Text (p : ByteArray → Bool) (K : FuncId) (b : Addr) (hK : ∀ (args : Array Value) (w : World), (callFunc K args).run Tryz.prog w = .ok (.enter K args) w) (w0 : World) (A : Option Addr) (c : Nat) (xs : List ByteArray) (hp : PredText w0 K b p xs) (w : World) (hr : Kd.string.C w0 A xs.length xs) (hw : Below w0.heap.size w0 w) :
  Calls Tryz.prog 300 #[.slice A xs.length c, .func (.func K) #[] #[.pointer (some b)]] w fun e w' => e = .returned (.int .i64 (idxOf p xs)) ∧ Below w.heap.size w w' := by
 have HR := Aside0.mk hr
 have HP := Aside0.mk hp
 have HW := Aside0.mk hw
 have hm : xs.length ≤ 9223372036854775807 := hr.2.1
 clear hr hp hw
 go_enter Tryz.func300, Tryz.ntmps300
 go_wp2_with fail
 go_loopw [8] (fun v8 W => ∃ k : Nat, v8 = .int .i64 k ∧ k ≤ xs.length ∧ Aside0 (∀ j x, j < k → xs[j]? = some x → p x = false) ∧ Below w.heap.size w W) (fun v8 _ => xs.length - (intOf v8).toNat)
 case atStart => exact ⟨0, rfl, Nat.zero_le _, ⟨fun j x hj => by omega⟩, Below.refl _ _⟩
 case round =>
  obtain ⟨k, rfl, hk, HB, hb0⟩ := hrel
  have HBW := Aside0.mk hb0
  have HWR := Aside0.mk (below_step HW.out hb0)
  clear hb0
  by_cases hlt : k < xs.length
  · obtain ⟨x, hxe⟩ : ∃ x, xs[k]? = some x := ⟨_, List.getElem?_eq_getElem hlt⟩
    have HX := Aside0.mk hxe
    have HC := Kd.C_below HR.out HWR.out
    obtain ⟨ad, rfl, h0⟩ := Kd.at_string HC (k : Int) (by omega) (by omega)
    rw [show rdOf ByteArray.empty xs (k : Int) = x by unfold rdOf; rw [Int.toNat_natCast, List.getD_eq_getElem?_getD, hxe]; rfl, Int.toNat_natCast] at h0
    clear hxe HC
    by_cases hpx : p x = true
    · have HPX := Aside0.mk hpx
      have hq := HP.out x wr (List.mem_of_getElem? HX.out) HWR.out
      simp only [hpx] at hq
      have HQ := Aside0.mk hq
      clear hpx hq
      go_wp2_with ((with_reducible refine HQ.out.mono ?_); rintro e w1 ⟨rfl, hb1⟩; have HB1 := Aside0.mk hb1; clear hb1)
      go_ret
      exact ⟨by rw [idx_some HB.out HX.out HPX.out]; rfl, below_step HBW.out HB1.out⟩
    · have hpf : p x = false := by simpa using hpx
      have HPX := Aside0.mk hpf
      have hq := HP.out x wr (List.mem_of_getElem? HX.out) HWR.out
      simp only [hpf] at hq
      have HQ := Aside0.mk hq
      clear hpx hq hpf
      go_wp2_with ((with_reducible refine HQ.out.mono ?_); rintro e w1 ⟨rfl, hb1⟩; have HB1 := Aside0.mk hb1; clear hb1)
      go_roundw
      case rel => exact ⟨k + 1, by go_num, by omega, ⟨idx_step HB.out HX.out HPX.out⟩, below_step HBW.out HB1.out⟩
      case measure => simp [intOf]; omega
  · go_wp2_with fail
    go_ret
    exact ⟨by rw [idx_none HB.out (by omega)]; rfl, HBW.out⟩
set_option maxRecDepth 100000 in
theorem containsFunc_Text (p : ByteArray → Bool) (K : FuncId) (b : Addr) (hK : ∀ (args : Array Value) (w : World), (callFunc K args).run Tryz.prog w = .ok (.enter K args) w) (w0 : World) (A : Option Addr) (c : Nat) (xs : List ByteArray) (hp : PredText w0 K b p xs) (w : World) (hr : Kd.string.C w0 A xs.length xs) (hw : Below w0.heap.size w0 w) :
  Calls Tryz.prog 290 #[.slice A xs.length c, .func (.func K) #[] #[.pointer (some b)]] w fun e w' => e = .returned (.bool (xs.any p)) ∧ Below w.heap.size w w' := by
 rw [← idx_any p xs]
 obtain ⟨r, hr'⟩ : ∃ r, r = idxOf p xs := ⟨_, rfl⟩
 have HI := Aside0.mk (hr' ▸ indexFunc_Text p K b hK w0 A c xs hp w hr hw)
 rw [← hr']
 clear hr' hr hp hK hw
 go_enter Tryz.func290, Tryz.ntmps290
 go_wp2_with (go_at_call 300; (with_reducible refine HI.out.mono ?_); rintro e w1 ⟨rfl, hb1⟩; have HB1 := Aside0.mk hb1; clear hb1)
 go_ret
 exact ⟨rfl, HB1.out⟩
def MayText (w0 : World) (M : FuncId) (m : ByteArray → Bool) (xs : List ByteArray) : Prop :=
 ∀ (x : ByteArray) (W : World), x ∈ xs → Below w0.heap.size w0 W → Calls Tryz.prog M #[.string x] W fun e W' => e = .returned (.bool (m x)) ∧ Below W.heap.size W W'
set_option maxRecDepth 100000 in
theorem closure_Text (m : ByteArray → Bool) (M : FuncId) (hM : ∀ (args : Array Value) (w : World), (callFunc M args).run Tryz.prog w = .ok (.enter M args) w) (w0 : World) (xs : List ByteArray) (hp : MayText w0 M m xs) (b : Addr) (W0 : World) (hb0 : Below w0.heap.size w0 W0) (hcell : W0.cell? b = some (.func (.func M) #[] #[])) : PredText W0 291 b (fun x => !m x) xs := by
 intro x W hx hb
 have hc := pw_cell_below hb hcell
 have hnot : ∀ (x : Bool) (w : World), (Op.unary .not (.bool x)).run Tryz.prog w = .ok (.bool (!x)) w := fun _ _ => rfl
 have HP := Aside0.mk hp
 have HX := Aside0.mk hx
 have HB := Aside0.mk (below_step hb0 hb)
 have hc2 : ∀ o, (W.alloc o).cell? b = some (.func (.func M) #[] #[]) := fun o => pw_cell_below (below_alloc (Below.refl _ _) o) hc
 have HQ := Aside0.mk (HP.out x W hx HB.out)
 clear hp hx hb
 go_enter Tryz.func291, Tryz.ntmps291
 go_wp2_with ((with_reducible refine HQ.out.mono ?_); rintro e w1 ⟨rfl, hb1⟩; have HB1 := Aside0.mk hb1; clear hb1)
 go_ret
 exact ⟨rfl, HB1.out⟩
set_option maxRecDepth 100000 in
theorem all_Text (m : ByteArray → Bool) (M : FuncId) (hM : ∀ (args : Array Value) (w : World), (callFunc M args).run Tryz.prog w = .ok (.enter M args) w) (w0 W : World) (A : Option Addr) (c : Nat) (xs : List ByteArray) (n : Int) (b : Bool) (h : (decide ((xs.length : Int) ≤ n) && xs.all m) = b) (hp : MayText w0 M m xs) (hC : Kd.string.C w0 A xs.length xs) (hb : Below w0.heap.size w0 W) :
   Calls Tryz.prog 273 #[.slice A xs.length c, .int .i64 n, .func (.func M) #[] #[]] W fun e W' => e = .returned (.bool b) ∧ Below W.heap.size W W' := by
 subst h
 have HB := Aside0.mk (below_alloc hb (Obj.cells #[.func (.func M) #[] #[]] 163 (0, 0)))
 have HQ := Aside0.mk (containsFunc_Text (fun x => !m x) 291 ⟨W.heap.size, 0, none⟩ (fun _ _ => rfl) (W.alloc (Obj.cells #[.func (.func M) #[] #[]] 163 (0, 0))) A c xs (closure_Text m M hM w0 xs hp ⟨W.heap.size, 0, none⟩ (W.alloc (Obj.cells #[.func (.func M) #[] #[]] 163 (0, 0))) HB.out (blk_cell (heap_alloc_new W (Obj.cells #[.func (.func M) #[] #[]] 163 (0, 0))) 0)) (W.alloc (Obj.cells #[.func (.func M) #[] #[]] 163 (0, 0))) (Kd.C_below hC HB.out) (Below.refl _ _))
 have ha : (xs.any fun x => !m x) = !xs.all m := by rw [← List.not_all_eq_any_not]
 rw [ha] at HQ
 have hm : xs.length ≤ 9223372036854775807 := hC.2.1
 clear hp hC hb hM ha
 go_enter Tryz.func273, Tryz.ntmps273
 cases h1 : decide ((xs.length : Int) ≤ n) with
 | false =>
   go_wp2_with fail
   go_ret
   exact ⟨rfl, below_alloc (Below.refl _ _) _⟩
 | true =>
   go_wp2_with ((with_reducible refine HQ.out.mono ?_); rintro e w1 ⟨rfl, hb1⟩; have HB1 := Aside0.mk hb1; clear hb1)
   go_ret
   exact ⟨by simp, below_step (below_alloc (Below.refl _ _) _) HB1.out⟩
end Go.Proofs.YtmneemhplffemaaGreatDoorRR.Ext
namespace Go.Proofs.YtmneemhplffemaaGreatDoorRR.May
open Go.RowKit Go.Proofs.YtmneemhplffemaaGreatDoorRR.Ord Go.Proofs.YtmneemhplffemaaGreatDoorRR.Name Go.Proofs.YtmneemhplffemaaGreatDoorRR.Pl Go.Proofs.YtmneemhplffemaaGreatDoorRR.PPa Go.Proofs.YtmneemhplffemaaGreatDoorRR.Ext Go.Proofs.YtmneemhplffemaaGreatDoorRR.Wire Go.Proofs.YtmneemhplffemaaGreatDoorRR.Mem Go.Proofs.YtmneemhplffemaaGreatDoorRR.Ki Go.Proofs.YtmneemhplffemaaGreatDoorRR.Chk Go.Proofs.YtmneemhplffemaaGreatDoorRRW.PrintWords


def mKind (v : Int) : Bool := decide (1 ≤ v) && decide (v ≤ 3)
theorem m_kind (v : Int) (b : Bool) (W : World) (h : mKind v = b) : Calls Tryz.prog 176 #[.int .i64 v] W fun e W' => e = .returned (.bool b) ∧ W' = W := by
 subst h
 go_enter Tryz.func176, Tryz.ntmps176
 refine bt (decide (1 ≤ v)) (fun h1 => have h1_0 : (decide (v ≥ 1)) = true := h1; bt (decide (v ≤ 3)) (fun h2 => have h2_0 : (decide (3 ≥ v)) = true := h2; ?_) (fun h2 => have h2_0 : (decide (3 ≥ v)) = false := h2; ?_)) (fun h1 => have h1_0 : (decide (v ≥ 1)) = false := h1; ?_)
 all_goals
  go_wp2_with fail
  go_ret
  exact ⟨by simp only [mKind, *, Bool.not_true, Bool.not_false, Bool.true_and, Bool.false_and, Bool.and_true, Bool.and_false, Bool.true_or, Bool.false_or, Bool.or_true, Bool.or_false, Bool.false_eq_true, if_true, if_false] <;> rfl, rfl⟩
theorem m_placed (s : ByteArray) (b : Bool) (W : World) (HE : Env W) (h : rIs s = b) : Calls Tryz.prog 175 #[.string s] W fun e W' => e = .returned (.bool b) ∧ Below W.heap.size W W' :=
 note_placed.calls 20 s b W (by unfold note_placed.f; rw [parse_tells s 20 (by omega)]; subst h; rfl) HE
theorem pcs_ne (t : List UInt8) : pcs t ≠ [] := by
 cases t with
 | nil => simp [pcs]
 | cons c r =>
   rw [pcs]
   split
   · simp
   · split <;> simp
theorem pcs_one : ∀ t : List UInt8, (pcs t).length = 1 → pcs t = [t]
 | [], _ => rfl
 | c :: r, h => by
   rw [pcs] at h ⊢
   split at h
   · have := pcs_ne r
     cases hr : pcs r with
     | nil => exact absurd hr this
     | cons p ps => rw [hr] at h; simp at h
   · rename_i hc
     rw [if_neg hc]
     cases hr : pcs r with
     | nil => exact absurd hr (pcs_ne r)
     | cons p ps =>
       rw [hr] at h
       simp only [List.length_cons] at h
       have hps : ps = [] := List.eq_nil_of_length_eq_zero (by omega)
       subst hps
       have := pcs_one r (by rw [hr]; rfl)
       rw [hr] at this
       simp only [List.cons.injEq, and_true] at this
       rw [this]
theorem pcs_whole : ∀ t : List UInt8, t.all okB = true → pcs t = [t]
 | [], _ => rfl
 | c :: r, h => by
   simp only [List.all_cons, Bool.and_eq_true] at h
   have hc : c ≠ 47 := by
    rintro rfl
    exact absurd h.1 (by decide)
   rw [pcs, if_neg hc, pcs_whole r h.2]
theorem kid_parse (t : List UInt8) : ((parseL (47 :: t)).2 = 0 ∧ (parseL (47 :: t)).1.length = 1) ↔ okN t = true := by
 by_cases h1 : (47 :: t).length > 102
 · rw [parseL_long h1]
   constructor
   · rintro ⟨h, _⟩
     simp at h
   · intro h
     unfold okN at h
     simp only [Bool.and_eq_true, decide_eq_true_eq] at h
     simp only [List.length_cons] at h1
     omega
 · by_cases h2 : (47 :: t) = [47]
   · simp only [List.cons.injEq, true_and] at h2
     subst h2
     rw [parseL_root rfl]
     simp [okN]
   · rw [parseL_names h1 h2 rfl, List.tail_cons]
     constructor
     · intro h
       split at h
       · simp at h
       · split at h
         · rename_i ha
           have hp := pcs_one t h.2
           rw [hp] at ha
           simpa using ha
         · simp at h
     · intro h
       have ho : t.all okB = true := by
         unfold okN at h
         simp only [Bool.and_eq_true] at h
         exact h.2
       rw [pcs_whole t ho, if_neg (by simp), if_pos (by simpa using h)]
       exact ⟨rfl, rfl⟩
theorem m_kid (s : ByteArray) (b : Bool) (W : World) (HE : Env W) (hs : s.size ≤ 140737488355328) (h : okN (tx s) = b) : Calls Tryz.prog 274 #[.string s] W fun e W' => e = .returned (.bool b) ∧ Below W.heap.size W W' := by
 refine (note_kid.calls 20 s b W ?_ HE).mono fun e W' hq => ⟨hq.1, by first | exact hq.2 | exact hq.2.below⟩
 have ht : tx ((⟨#[47]⟩ : ByteArray) ++ s) = 47 :: tx s := by simp [tx]
 have hk := kid_parse (tx s)
 rw [← ht] at hk
 unfold note_kid.f
 rw [if_pos (by omega), parse_tells _ 20 (by omega)]
 simp only [Option.bind_some, parseB, List.length_map]
 subst h
 split
 · rename_i h0
   congr 1
   rw [Bool.eq_iff_iff, beq_iff_eq, ← hk]
   exact ⟨fun h => ⟨h0, by omega⟩, fun h => by omega⟩
 · rename_i h0
   congr 1
   cases hx : okN (tx s) with
   | false => rfl
   | true => exact absurd (hk.2 hx).1 h0
def mOp (x : S78) : Bool := (okNum x.f0 && okNum x.f4) && ((x.f3 == -1) || okNum x.f3) && decide ((x.f1.size : Int) ≤ 256) && decide ((x.f2.size : Int) ≤ 256)
set_option maxRecDepth 100000 in
set_option maxHeartbeats 1000000 in
theorem m_op (w0 W : World) (x : S78) (cs : List Value) (b : Bool) (h : mOp x = b) (hk : k78.K w0 x cs) (hb : Below w0.heap.size w0 W) :
  Calls Tryz.prog 164 #[.agg cs.toArray] W fun e W' => e = .returned (.bool b) ∧ Below W.heap.size W W' := by
 subst h
 obtain rfl := k78_open hk
 have HW := Aside0.mk (below_alloc (Below.refl W.heap.size W) (Obj.cells #[.int .i64 x.f0, .string x.f1, .string x.f2, .int .i64 x.f3, .int .i64 x.f4] 78 (0, 0)))
 have HA := Aside0.mk (below_alloc hb (Obj.cells #[.int .i64 x.f0, .string x.f1, .string x.f2, .int .i64 x.f3, .int .i64 x.f4] 78 (0, 0)))
 have HBR := Aside0.mk (blk_alloc (W := W) (Obj.cells #[.int .i64 x.f0, .string x.f1, .string x.f2, .int .i64 x.f3, .int .i64 x.f4] 78 (0, 0)))
 have hcR := blk_cell HBR.out
 have hfR := blk_frozen HBR.out
 clear hk hb
 go_enter Tryz.func164, Tryz.ntmps164
 refine bt ((okNum x.f0 && okNum x.f4)) (fun h1 => bt ((x.f3 == -1)) (fun h2 => have h2_0 : ((x.f3 != -1)) = false := congrArg not h2; bt (decide ((x.f1.size : Int) ≤ 256)) (fun h3 => have h3_0 : (decide (x.f1.size ≤ 256)) = true := dq (by omega) h3; have h3_1 : (decide ((256 : Int) ≥ x.f1.size)) = true := h3; bt (decide ((x.f2.size : Int) ≤ 256)) (fun h4 => have h4_0 : (decide (x.f2.size ≤ 256)) = true := dq (by omega) h4; have h4_1 : (decide ((256 : Int) ≥ x.f2.size)) = true := h4; ?_) (fun h4 => have h4_0 : (decide (x.f2.size ≤ 256)) = false := dq (by omega) h4; have h4_1 : (decide ((256 : Int) ≥ x.f2.size)) = false := h4; ?_)) (fun h3 => have h3_0 : (decide (x.f1.size ≤ 256)) = false := dq (by omega) h3; have h3_1 : (decide ((256 : Int) ≥ x.f1.size)) = false := h3; ?_)) (fun h2 => have h2_0 : ((x.f3 != -1)) = true := congrArg not h2; bt (okNum x.f3) (fun h5 => bt (decide ((x.f1.size : Int) ≤ 256)) (fun h6 => have h6_0 : (decide (x.f1.size ≤ 256)) = true := dq (by omega) h6; have h6_1 : (decide ((256 : Int) ≥ x.f1.size)) = true := h6; bt (decide ((x.f2.size : Int) ≤ 256)) (fun h7 => have h7_0 : (decide (x.f2.size ≤ 256)) = true := dq (by omega) h7; have h7_1 : (decide ((256 : Int) ≥ x.f2.size)) = true := h7; ?_) (fun h7 => have h7_0 : (decide (x.f2.size ≤ 256)) = false := dq (by omega) h7; have h7_1 : (decide ((256 : Int) ≥ x.f2.size)) = false := h7; ?_)) (fun h6 => have h6_0 : (decide (x.f1.size ≤ 256)) = false := dq (by omega) h6; have h6_1 : (decide ((256 : Int) ≥ x.f1.size)) = false := h6; ?_)) (fun h5 => ?_))) (fun h1 => ?_)
 all_goals
  go_wp2_with (first | (go_at_call 91; (with_reducible refine (c_num1 _ _ (by first | rfl | simp) _ _ (by assumption)).mono ?_); rintro e w1 ⟨rfl, hb1⟩; replace HW := Aside0.mk (below_step HW.out hb1); replace HA := Aside0.mk (below_step HA.out hb1); replace HBR := Aside0.mk (blk_below hb1 HBR.out); replace hcR := blk_cell HBR.out; replace hfR := blk_frozen HBR.out; clear hb1) | (go_at_call 91; (with_reducible refine (c_num2 _ _ (by first | rfl | simp) _ _ _ (by assumption)).mono ?_); rintro e w1 ⟨rfl, hb1⟩; replace HW := Aside0.mk (below_step HW.out hb1); replace HA := Aside0.mk (below_step HA.out hb1); replace HBR := Aside0.mk (blk_below hb1 HBR.out); replace hcR := blk_cell HBR.out; replace hfR := blk_frozen HBR.out; clear hb1))
  go_ret
  exact ⟨by simp only [mOp, *, Bool.not_true, Bool.not_false, Bool.true_and, Bool.false_and, Bool.and_true, Bool.and_false, Bool.true_or, Bool.false_or, Bool.or_true, Bool.or_false, Bool.false_eq_true, if_true, if_false] <;> rfl, HW.out⟩
def mOps (l : List S78) : Bool := decide ((l.length : Int) ≤ 4) && l.all mOp
set_option maxRecDepth 100000 in
set_option maxHeartbeats 1000000 in
theorem m_ops (w0 W : World) (A : Option Addr) (c : Nat) (xs : List S78) (b : Bool) (h : mOps xs = b) (hC : k78.C w0 A xs.length xs) (hb : Below w0.heap.size w0 W) :
  Calls Tryz.prog 119 #[.slice A xs.length c] W fun e W' => e = .returned (.bool b) ∧ Below W.heap.size W W' := by
 subst h
 have HW := Aside0.mk (Below.refl W.heap.size W)
 have HA := Aside0.mk hb
 have HC := Aside0.mk hC
 have hm : xs.length ≤ 9223372036854775807 := hC.2.1
 clear hb hC
 have HPOp := Aside0.mk (show MayOp w0 164 mOp xs from (fun x cs W _ _ hk => m_op W W x cs _ rfl hk (Below.refl _ _)))
 go_enter Tryz.func119, Tryz.ntmps119
 have h1 : (decide ((xs.length : Int) ≤ 4) && xs.all mOp) = mOps xs := rfl
 generalize mOps xs = r at h1 ⊢
 go_wp2_with (go_at_call 163; (with_reducible refine (all_Op mOp 164 (fun _ _ => by kernel_rfl) w0 _ _ _ _ _ _ (by assumption) HPOp.out HC.out HA.out).mono ?_); rintro e w1 ⟨rfl, hb1⟩; replace HW := Aside0.mk (below_step HW.out hb1); replace HA := Aside0.mk (below_step HA.out hb1); clear hb1)
 go_ret
 exact ⟨rfl, HW.out⟩
def mEntry (x : S55) : Bool := (okNum x.f0 && okNum x.f1 && okNum x.f3 && okNum x.f4) && !decide (x.f0 < 1) && !decide (x.f3 < 1) && !decide (x.f2 < 1) && !decide (4 < x.f2) && mOps x.f5 && (if (x.f2 == 1) = true then decide (1 ≤ x.f4) else (x.f4 == 0) && (x.f5.length == 0))
set_option maxRecDepth 100000 in
set_option maxHeartbeats 1000000 in
theorem m_entry (w0 W : World) (x : S55) (cs : List Value) (b : Bool) (h : mEntry x = b) (hk : k55.K w0 x cs) (hb : Below w0.heap.size w0 W) :
  Calls Tryz.prog 74 #[.agg cs.toArray] W fun e W' => e = .returned (.bool b) ∧ Below W.heap.size W W' := by
 subst h
 obtain ⟨A5, c5, rfl, l5, g5⟩ := k55_open hk
 have G5 := Aside0.mk g5
 have hm5 : x.f5.length ≤ 9223372036854775807 := g5.2.1
 have HW := Aside0.mk (below_alloc (Below.refl W.heap.size W) (Obj.cells #[.int .i64 x.f0, .int .i64 x.f1, .int .i64 x.f2, .int .i64 x.f3, .int .i64 x.f4, .slice A5 x.f5.length c5] 55 (0, 0)))
 have HA := Aside0.mk (below_alloc hb (Obj.cells #[.int .i64 x.f0, .int .i64 x.f1, .int .i64 x.f2, .int .i64 x.f3, .int .i64 x.f4, .slice A5 x.f5.length c5] 55 (0, 0)))
 have HBR := Aside0.mk (blk_alloc (W := W) (Obj.cells #[.int .i64 x.f0, .int .i64 x.f1, .int .i64 x.f2, .int .i64 x.f3, .int .i64 x.f4, .slice A5 x.f5.length c5] 55 (0, 0)))
 have hcR := blk_cell HBR.out
 have hfR := blk_frozen HBR.out
 clear hk hb g5
 go_enter Tryz.func74, Tryz.ntmps74
 refine bt ((okNum x.f0 && okNum x.f1 && okNum x.f3 && okNum x.f4)) (fun h1 => bt (decide (x.f0 < 1)) (fun h2 => have h2_0 : (decide (1 > x.f0)) = true := h2; ?_) (fun h2 => have h2_0 : (decide (1 > x.f0)) = false := h2; bt (decide (x.f3 < 1)) (fun h3 => have h3_0 : (decide (1 > x.f3)) = true := h3; ?_) (fun h3 => have h3_0 : (decide (1 > x.f3)) = false := h3; bt (decide (x.f2 < 1)) (fun h4 => have h4_0 : (decide (1 > x.f2)) = true := h4; ?_) (fun h4 => have h4_0 : (decide (1 > x.f2)) = false := h4; bt (decide (4 < x.f2)) (fun h5 => have h5_0 : (decide (x.f2 > 4)) = true := h5; ?_) (fun h5 => have h5_0 : (decide (x.f2 > 4)) = false := h5; bt (mOps x.f5) (fun h6 => bt ((x.f2 == 1)) (fun h7 => have h7_0 : ((x.f2 != 1)) = false := congrArg not h7; bt (decide (1 ≤ x.f4)) (fun h8 => have h8_0 : (decide (x.f4 ≥ 1)) = true := h8; ?_) (fun h8 => have h8_0 : (decide (x.f4 ≥ 1)) = false := h8; ?_)) (fun h7 => have h7_0 : ((x.f2 != 1)) = true := congrArg not h7; bt ((x.f4 == 0)) (fun h9 => have h9_0 : ((x.f4 != 0)) = false := congrArg not h9; bt ((x.f5.length == 0)) (fun h10 => have h10_0 : (((x.f5.length : Int) == 0)) = true := zq (by omega) h10; have h10_1 : (((x.f5.length : Int) != 0)) = false := yq (by omega) h10; ?_) (fun h10 => have h10_0 : (((x.f5.length : Int) == 0)) = false := zq (by omega) h10; have h10_1 : (((x.f5.length : Int) != 0)) = true := yq (by omega) h10; ?_)) (fun h9 => have h9_0 : ((x.f4 != 0)) = true := congrArg not h9; ?_))) (fun h6 => ?_)))))) (fun h1 => ?_)
 all_goals
  go_wp2_with (first | (go_at_call 91; (with_reducible refine (c_num4 _ _ (by first | rfl | simp) _ _ _ _ _ (by assumption)).mono ?_); rintro e w1 ⟨rfl, hb1⟩; replace HW := Aside0.mk (below_step HW.out hb1); replace HA := Aside0.mk (below_step HA.out hb1); replace HBR := Aside0.mk (blk_below hb1 HBR.out); replace hcR := blk_cell HBR.out; replace hfR := blk_frozen HBR.out; clear hb1) | (go_at_call 119; (with_reducible refine (m_ops w0 _ _ _ _ _ (by assumption) G5.out HA.out).mono ?_); rintro e w1 ⟨rfl, hb1⟩; replace HW := Aside0.mk (below_step HW.out hb1); replace HA := Aside0.mk (below_step HA.out hb1); replace HBR := Aside0.mk (blk_below hb1 HBR.out); replace hcR := blk_cell HBR.out; replace hfR := blk_frozen HBR.out; clear hb1))
  go_ret
  exact ⟨by simp only [mEntry, *, Bool.not_true, Bool.not_false, Bool.true_and, Bool.false_and, Bool.and_true, Bool.and_false, Bool.true_or, Bool.false_or, Bool.or_true, Bool.or_false, Bool.false_eq_true, if_true, if_false] <;> rfl, HW.out⟩
def mKid (y : ByteArray) : Bool := okN (tx y)
def mResult (x : S81) : Bool := (x.f0.toList.isEmpty || rIs x.f0) && decide ((x.f1.size : Int) ≤ 64) && (okNum x.f2 && okNum x.f3 && okNum x.f4 && okNum x.f5) && (decide ((x.f6.length : Int) ≤ 64) && x.f6.all mKid)
set_option maxRecDepth 100000 in
set_option maxHeartbeats 1000000 in
theorem m_result (w0 W : World) (x : S81) (cs : List Value) (b : Bool) (h : mResult x = b) (hk : k81.K w0 x cs) (hb : Below w0.heap.size w0 W) (HE : Env w0) (hz : ∀ y ∈ x.f6, y.size ≤ 140737488355328) :
  Calls Tryz.prog 248 #[.agg cs.toArray] W fun e W' => e = .returned (.bool b) ∧ Below W.heap.size W W' := by
 subst h
 obtain ⟨A6, c6, rfl, l6, g6⟩ := k81_open hk
 have G6 := Aside0.mk g6
 have hm6 : x.f6.length ≤ 9223372036854775807 := g6.2.1
 have HW := Aside0.mk (below_alloc (Below.refl W.heap.size W) (Obj.cells #[.string x.f0, .string x.f1, .int .i64 x.f2, .int .i64 x.f3, .int .i64 x.f4, .int .i64 x.f5, .slice A6 x.f6.length c6] 81 (0, 0)))
 have HA := Aside0.mk (below_alloc hb (Obj.cells #[.string x.f0, .string x.f1, .int .i64 x.f2, .int .i64 x.f3, .int .i64 x.f4, .int .i64 x.f5, .slice A6 x.f6.length c6] 81 (0, 0)))
 have HBR := Aside0.mk (blk_alloc (W := W) (Obj.cells #[.string x.f0, .string x.f1, .int .i64 x.f2, .int .i64 x.f3, .int .i64 x.f4, .int .i64 x.f5, .slice A6 x.f6.length c6] 81 (0, 0)))
 have hcR := blk_cell HBR.out
 have hfR := blk_frozen HBR.out
 have HE := Aside0.mk HE
 have HZ := Aside0.mk hz
 clear hz
 clear hk hb g6
 have HPKid := Aside0.mk (show MayText w0 274 mKid x.f6 from (fun x W hx hb => m_kid x _ W (HE.out.at_ hb) (HZ.out x hx) rfl))
 go_enter Tryz.func248, Tryz.ntmps248
 refine bt (x.f0.toList.isEmpty) (fun h1 => have m0 := trivial; ?_) (fun h1 => bt (rIs x.f0) (fun h5 => have m0 := trivial; ?_) (fun h5 => ?_))
 all_goals first
  | clear m0
    refine bt (decide ((x.f1.size : Int) ≤ 64)) (fun h2 => have h2_0 : (decide (x.f1.size ≤ 64)) = true := dq (by omega) h2; have h2_1 : (decide ((64 : Int) ≥ x.f1.size)) = true := h2; bt ((okNum x.f2 && okNum x.f3 && okNum x.f4 && okNum x.f5)) (fun h3 => bt ((decide ((x.f6.length : Int) ≤ 64) && x.f6.all mKid)) (fun h4 => ?_) (fun h4 => ?_)) (fun h3 => ?_)) (fun h2 => have h2_0 : (decide (x.f1.size ≤ 64)) = false := dq (by omega) h2; have h2_1 : (decide ((64 : Int) ≥ x.f1.size)) = false := h2; ?_)
    all_goals
     go_wp2_with (first | (go_at_call 91; (with_reducible refine (c_num4 _ _ (by first | rfl | simp) _ _ _ _ _ (by assumption)).mono ?_); rintro e w1 ⟨rfl, hb1⟩; replace HW := Aside0.mk (below_step HW.out hb1); replace HA := Aside0.mk (below_step HA.out hb1); replace HBR := Aside0.mk (blk_below hb1 HBR.out); replace hcR := blk_cell HBR.out; replace hfR := blk_frozen HBR.out; clear hb1) | (go_at_call 175; (with_reducible refine (m_placed _ _ _ (HE.out.at_ HA.out) (by assumption)).mono ?_); rintro e w1 ⟨rfl, hb1⟩; replace HW := Aside0.mk (below_step HW.out hb1); replace HA := Aside0.mk (below_step HA.out hb1); replace HBR := Aside0.mk (blk_below hb1 HBR.out); replace hcR := blk_cell HBR.out; replace hfR := blk_frozen HBR.out; clear hb1) | (go_at_call 273; (with_reducible refine (all_Text mKid 274 (fun _ _ => by kernel_rfl) w0 _ _ _ _ _ _ (by assumption) HPKid.out G6.out HA.out).mono ?_); rintro e w1 ⟨rfl, hb1⟩; replace HW := Aside0.mk (below_step HW.out hb1); replace HA := Aside0.mk (below_step HA.out hb1); replace HBR := Aside0.mk (blk_below hb1 HBR.out); replace hcR := blk_cell HBR.out; replace hfR := blk_frozen HBR.out; clear hb1))
     go_ret
     exact ⟨by simp only [mResult, *, Bool.not_true, Bool.not_false, Bool.true_and, Bool.false_and, Bool.and_true, Bool.and_false, Bool.true_or, Bool.false_or, Bool.or_true, Bool.or_false, Bool.false_eq_true, if_true, if_false] <;> rfl, HW.out⟩
  | skip
    go_wp2_with (first | (go_at_call 91; (with_reducible refine (c_num4 _ _ (by first | rfl | simp) _ _ _ _ _ (by assumption)).mono ?_); rintro e w1 ⟨rfl, hb1⟩; replace HW := Aside0.mk (below_step HW.out hb1); replace HA := Aside0.mk (below_step HA.out hb1); replace HBR := Aside0.mk (blk_below hb1 HBR.out); replace hcR := blk_cell HBR.out; replace hfR := blk_frozen HBR.out; clear hb1) | (go_at_call 175; (with_reducible refine (m_placed _ _ _ (HE.out.at_ HA.out) (by assumption)).mono ?_); rintro e w1 ⟨rfl, hb1⟩; replace HW := Aside0.mk (below_step HW.out hb1); replace HA := Aside0.mk (below_step HA.out hb1); replace HBR := Aside0.mk (blk_below hb1 HBR.out); replace hcR := blk_cell HBR.out; replace hfR := blk_frozen HBR.out; clear hb1) | (go_at_call 273; (with_reducible refine (all_Text mKid 274 (fun _ _ => by kernel_rfl) w0 _ _ _ _ _ _ (by assumption) HPKid.out G6.out HA.out).mono ?_); rintro e w1 ⟨rfl, hb1⟩; replace HW := Aside0.mk (below_step HW.out hb1); replace HA := Aside0.mk (below_step HA.out hb1); replace HBR := Aside0.mk (blk_below hb1 HBR.out); replace hcR := blk_cell HBR.out; replace hfR := blk_frozen HBR.out; clear hb1))
    go_ret
    exact ⟨by simp only [mResult, *, Bool.not_true, Bool.not_false, Bool.true_and, Bool.false_and, Bool.and_true, Bool.and_false, Bool.true_or, Bool.false_or, Bool.or_true, Bool.or_false, Bool.false_eq_true, if_true, if_false] <;> rfl, HW.out⟩
def mReply (x : S29) : Bool := (okNum x.f0 && okNum x.f1 && okNum x.f2) && (decide ((x.f3.length : Int) ≤ 4) && x.f3.all mResult)
set_option maxRecDepth 100000 in
set_option maxHeartbeats 1000000 in
theorem m_reply (w0 W : World) (x : S29) (cs : List Value) (b : Bool) (h : mReply x = b) (hk : k29.K w0 x cs) (hb : Below w0.heap.size w0 W) (HE : Env w0) (hz : ∀ r ∈ x.f3, ∀ y ∈ r.f6, y.size ≤ 140737488355328) :
  Calls Tryz.prog 186 #[.agg cs.toArray] W fun e W' => e = .returned (.bool b) ∧ Below W.heap.size W W' := by
 subst h
 obtain ⟨A3, c3, rfl, l3, g3⟩ := k29_open hk
 have G3 := Aside0.mk g3
 have hm3 : x.f3.length ≤ 9223372036854775807 := g3.2.1
 have HW := Aside0.mk (below_alloc (Below.refl W.heap.size W) (Obj.cells #[.int .i64 x.f0, .int .i64 x.f1, .int .i64 x.f2, .slice A3 x.f3.length c3] 29 (0, 0)))
 have HA := Aside0.mk (below_alloc hb (Obj.cells #[.int .i64 x.f0, .int .i64 x.f1, .int .i64 x.f2, .slice A3 x.f3.length c3] 29 (0, 0)))
 have HBR := Aside0.mk (blk_alloc (W := W) (Obj.cells #[.int .i64 x.f0, .int .i64 x.f1, .int .i64 x.f2, .slice A3 x.f3.length c3] 29 (0, 0)))
 have hcR := blk_cell HBR.out
 have hfR := blk_frozen HBR.out
 have HE := Aside0.mk HE
 have HZ := Aside0.mk hz
 clear hz
 clear hk hb g3
 have HPResult := Aside0.mk (show MayResult w0 248 mResult x.f3 from (fun x cs W hx hb hk => m_result W W x cs _ rfl hk (Below.refl _ _) (HE.out.at_ hb) (HZ.out x hx)))
 go_enter Tryz.func186, Tryz.ntmps186
 refine bt ((okNum x.f0 && okNum x.f1 && okNum x.f2)) (fun h1 => bt ((decide ((x.f3.length : Int) ≤ 4) && x.f3.all mResult)) (fun h2 => ?_) (fun h2 => ?_)) (fun h1 => ?_)
 all_goals
  go_wp2_with (first | (go_at_call 91; (with_reducible refine (c_num3 _ _ (by first | rfl | simp) _ _ _ _ (by assumption)).mono ?_); rintro e w1 ⟨rfl, hb1⟩; replace HW := Aside0.mk (below_step HW.out hb1); replace HA := Aside0.mk (below_step HA.out hb1); replace HBR := Aside0.mk (blk_below hb1 HBR.out); replace hcR := blk_cell HBR.out; replace hfR := blk_frozen HBR.out; clear hb1) | (go_at_call 247; (with_reducible refine (all_Result mResult 248 (fun _ _ => by kernel_rfl) w0 _ _ _ _ _ _ (by assumption) HPResult.out G3.out HA.out).mono ?_); rintro e w1 ⟨rfl, hb1⟩; replace HW := Aside0.mk (below_step HW.out hb1); replace HA := Aside0.mk (below_step HA.out hb1); replace HBR := Aside0.mk (blk_below hb1 HBR.out); replace hcR := blk_cell HBR.out; replace hfR := blk_frozen HBR.out; clear hb1))
  go_ret
  exact ⟨by simp only [mReply, *, Bool.not_true, Bool.not_false, Bool.true_and, Bool.false_and, Bool.and_true, Bool.and_false, Bool.true_or, Bool.false_or, Bool.or_true, Bool.or_false, Bool.false_eq_true, if_true, if_false] <;> rfl, HW.out⟩
def mWatch (x : S96) : Bool := (okNum x.f0 && okNum x.f3) && decide (1 ≤ x.f0) && rIs x.f1 && mKind x.f2
set_option maxRecDepth 100000 in
set_option maxHeartbeats 1000000 in
theorem m_watch (w0 W : World) (x : S96) (cs : List Value) (b : Bool) (h : mWatch x = b) (hk : k96.K w0 x cs) (hb : Below w0.heap.size w0 W) (HE : Env w0) :
  Calls Tryz.prog 142 #[.agg cs.toArray] W fun e W' => e = .returned (.bool b) ∧ Below W.heap.size W W' := by
 subst h
 obtain rfl := k96_open hk
 have HW := Aside0.mk (below_alloc (Below.refl W.heap.size W) (Obj.cells #[.int .i64 x.f0, .string x.f1, .int .i64 x.f2, .int .i64 x.f3] 96 (0, 0)))
 have HA := Aside0.mk (below_alloc hb (Obj.cells #[.int .i64 x.f0, .string x.f1, .int .i64 x.f2, .int .i64 x.f3] 96 (0, 0)))
 have HBR := Aside0.mk (blk_alloc (W := W) (Obj.cells #[.int .i64 x.f0, .string x.f1, .int .i64 x.f2, .int .i64 x.f3] 96 (0, 0)))
 have hcR := blk_cell HBR.out
 have hfR := blk_frozen HBR.out
 have HE := Aside0.mk HE
 clear hk hb
 go_enter Tryz.func142, Tryz.ntmps142
 refine bt ((okNum x.f0 && okNum x.f3)) (fun h1 => bt (decide (1 ≤ x.f0)) (fun h2 => have h2_0 : (decide (x.f0 ≥ 1)) = true := h2; bt (rIs x.f1) (fun h3 => bt (mKind x.f2) (fun h4 => ?_) (fun h4 => ?_)) (fun h3 => ?_)) (fun h2 => have h2_0 : (decide (x.f0 ≥ 1)) = false := h2; ?_)) (fun h1 => ?_)
 all_goals
  go_wp2_with (first | (go_at_call 91; (with_reducible refine (c_num2 _ _ (by first | rfl | simp) _ _ _ (by assumption)).mono ?_); rintro e w1 ⟨rfl, hb1⟩; replace HW := Aside0.mk (below_step HW.out hb1); replace HA := Aside0.mk (below_step HA.out hb1); replace HBR := Aside0.mk (blk_below hb1 HBR.out); replace hcR := blk_cell HBR.out; replace hfR := blk_frozen HBR.out; clear hb1) | (go_at_call 175; (with_reducible refine (m_placed _ _ _ (HE.out.at_ HA.out) (by assumption)).mono ?_); rintro e w1 ⟨rfl, hb1⟩; replace HW := Aside0.mk (below_step HW.out hb1); replace HA := Aside0.mk (below_step HA.out hb1); replace HBR := Aside0.mk (blk_below hb1 HBR.out); replace hcR := blk_cell HBR.out; replace hfR := blk_frozen HBR.out; clear hb1) | (go_at_call 176; (with_reducible refine (m_kind _ _ _ (by assumption)).mono ?_); rintro e w1 ⟨rfl, rfl⟩; skip))
  go_ret
  exact ⟨by simp only [mWatch, *, Bool.not_true, Bool.not_false, Bool.true_and, Bool.false_and, Bool.and_true, Bool.and_false, Bool.true_or, Bool.false_or, Bool.or_true, Bool.or_false, Bool.false_eq_true, if_true, if_false] <;> rfl, HW.out⟩
def mBare (x : S96) : Bool := okNum x.f0 && decide (1 ≤ x.f0) && ((x.f1.toList.isEmpty && (x.f2 == 0)) && (x.f3 == 0))
attribute [local go_sem high] Eqs.eqWatch in
set_option maxRecDepth 100000 in
set_option maxHeartbeats 1000000 in
theorem m_bare (w0 W : World) (x : S96) (cs : List Value) (b : Bool) (h : mBare x = b) (hk : k96.K w0 x cs) (hb : Below w0.heap.size w0 W) :
  Calls Tryz.prog 145 #[.agg cs.toArray] W fun e W' => e = .returned (.bool b) ∧ Below W.heap.size W W' := by
 subst h
 obtain rfl := k96_open hk
 have HW := Aside0.mk (below_alloc (Below.refl W.heap.size W) (Obj.cells #[.int .i64 x.f0, .string x.f1, .int .i64 x.f2, .int .i64 x.f3] 96 (0, 0)))
 have HA := Aside0.mk (below_alloc hb (Obj.cells #[.int .i64 x.f0, .string x.f1, .int .i64 x.f2, .int .i64 x.f3] 96 (0, 0)))
 have HBR := Aside0.mk (blk_alloc (W := W) (Obj.cells #[.int .i64 x.f0, .string x.f1, .int .i64 x.f2, .int .i64 x.f3] 96 (0, 0)))
 have hcR := blk_cell HBR.out
 have hfR := blk_frozen HBR.out
 clear hk hb
 go_enter Tryz.func145, Tryz.ntmps145
 refine bt (okNum x.f0) (fun h1 => bt (decide (1 ≤ x.f0)) (fun h2 => have h2_0 : (decide (x.f0 ≥ 1)) = true := h2; bt (x.f1.toList.isEmpty) (fun h3 => bt ((x.f2 == 0)) (fun h4 => have h4_0 : ((x.f2 != 0)) = false := congrArg not h4; bt ((x.f3 == 0)) (fun h5 => have h5_0 : ((x.f3 != 0)) = false := congrArg not h5; ?_) (fun h5 => have h5_0 : ((x.f3 != 0)) = true := congrArg not h5; ?_)) (fun h4 => have h4_0 : ((x.f2 != 0)) = true := congrArg not h4; ?_)) (fun h3 => ?_)) (fun h2 => have h2_0 : (decide (x.f0 ≥ 1)) = false := h2; ?_)) (fun h1 => ?_)
 all_goals
  go_wp2_with (go_at_call 91; (with_reducible refine (c_num1 _ _ (by first | rfl | simp) _ _ (by assumption)).mono ?_); rintro e w1 ⟨rfl, hb1⟩; replace HW := Aside0.mk (below_step HW.out hb1); replace HA := Aside0.mk (below_step HA.out hb1); replace HBR := Aside0.mk (blk_below hb1 HBR.out); replace hcR := blk_cell HBR.out; replace hfR := blk_frozen HBR.out; clear hb1)
  go_ret
  exact ⟨by simp only [mBare, *, Bool.not_true, Bool.not_false, Bool.true_and, Bool.false_and, Bool.and_true, Bool.and_false, Bool.true_or, Bool.false_or, Bool.or_true, Bool.or_false, Bool.false_eq_true, if_true, if_false] <;> rfl, HW.out⟩
def mSeen (x : S88) : Bool := rIs x.f0 && decide ((x.f1.size : Int) ≤ 64) && okNum x.f2
set_option maxRecDepth 100000 in
set_option maxHeartbeats 1000000 in
theorem m_seen (w0 W : World) (x : S88) (cs : List Value) (b : Bool) (h : mSeen x = b) (hk : k88.K w0 x cs) (hb : Below w0.heap.size w0 W) (HE : Env w0) :
  Calls Tryz.prog 220 #[.agg cs.toArray] W fun e W' => e = .returned (.bool b) ∧ Below W.heap.size W W' := by
 subst h
 obtain rfl := k88_open hk
 have HW := Aside0.mk (below_alloc (Below.refl W.heap.size W) (Obj.cells #[.string x.f0, .string x.f1, .int .i64 x.f2] 88 (0, 0)))
 have HA := Aside0.mk (below_alloc hb (Obj.cells #[.string x.f0, .string x.f1, .int .i64 x.f2] 88 (0, 0)))
 have HBR := Aside0.mk (blk_alloc (W := W) (Obj.cells #[.string x.f0, .string x.f1, .int .i64 x.f2] 88 (0, 0)))
 have hcR := blk_cell HBR.out
 have hfR := blk_frozen HBR.out
 have HE := Aside0.mk HE
 clear hk hb
 go_enter Tryz.func220, Tryz.ntmps220
 refine bt (rIs x.f0) (fun h1 => bt (decide ((x.f1.size : Int) ≤ 64)) (fun h2 => have h2_0 : (decide (x.f1.size ≤ 64)) = true := dq (by omega) h2; have h2_1 : (decide ((64 : Int) ≥ x.f1.size)) = true := h2; bt (okNum x.f2) (fun h3 => ?_) (fun h3 => ?_)) (fun h2 => have h2_0 : (decide (x.f1.size ≤ 64)) = false := dq (by omega) h2; have h2_1 : (decide ((64 : Int) ≥ x.f1.size)) = false := h2; ?_)) (fun h1 => ?_)
 all_goals
  go_wp2_with (first | (go_at_call 91; (with_reducible refine (c_num1 _ _ (by first | rfl | simp) _ _ (by assumption)).mono ?_); rintro e w1 ⟨rfl, hb1⟩; replace HW := Aside0.mk (below_step HW.out hb1); replace HA := Aside0.mk (below_step HA.out hb1); replace HBR := Aside0.mk (blk_below hb1 HBR.out); replace hcR := blk_cell HBR.out; replace hfR := blk_frozen HBR.out; clear hb1) | (go_at_call 175; (with_reducible refine (m_placed _ _ _ (HE.out.at_ HA.out) (by assumption)).mono ?_); rintro e w1 ⟨rfl, hb1⟩; replace HW := Aside0.mk (below_step HW.out hb1); replace HA := Aside0.mk (below_step HA.out hb1); replace HBR := Aside0.mk (blk_below hb1 HBR.out); replace hcR := blk_cell HBR.out; replace hfR := blk_frozen HBR.out; clear hb1))
  go_ret
  exact ⟨by simp only [mSeen, *, Bool.not_true, Bool.not_false, Bool.true_and, Bool.false_and, Bool.and_true, Bool.and_false, Bool.true_or, Bool.false_or, Bool.or_true, Bool.or_false, Bool.false_eq_true, if_true, if_false] <;> rfl, HW.out⟩
end Go.Proofs.YtmneemhplffemaaGreatDoorRR.May
namespace Go.Proofs.YtmneemhplffemaaGreatDoorRR.May
open Go.RowKit Go.Proofs.YtmneemhplffemaaGreatDoorRR.Ord Go.Proofs.YtmneemhplffemaaGreatDoorRR.Name Go.Proofs.YtmneemhplffemaaGreatDoorRR.Pl Go.Proofs.YtmneemhplffemaaGreatDoorRR.PPa Go.Proofs.YtmneemhplffemaaGreatDoorRR.Ext Go.Proofs.YtmneemhplffemaaGreatDoorRR.Wire Go.Proofs.YtmneemhplffemaaGreatDoorRR.Mem Go.Proofs.YtmneemhplffemaaGreatDoorRR.Ki Go.Proofs.YtmneemhplffemaaGreatDoorRR.Chk Go.Proofs.YtmneemhplffemaaGreatDoorRRW.PrintWords


def mShot (x : S84) : Bool := okNum x.f0 && rIs x.f1 && mKind x.f2 && (decide ((x.f3.length : Int) ≤ 64) && x.f3.all mSeen)
set_option maxRecDepth 100000 in
set_option maxHeartbeats 1000000 in
theorem m_shot (w0 W : World) (x : S84) (cs : List Value) (b : Bool) (h : mShot x = b) (hk : k84.K w0 x cs) (hb : Below w0.heap.size w0 W) (HE : Env w0) :
  Calls Tryz.prog 150 #[.agg cs.toArray] W fun e W' => e = .returned (.bool b) ∧ Below W.heap.size W W' := by
 subst h
 obtain ⟨A3, c3, rfl, l3, g3⟩ := k84_open hk
 have G3 := Aside0.mk g3
 have hm3 : x.f3.length ≤ 9223372036854775807 := g3.2.1
 have HW := Aside0.mk (below_alloc (Below.refl W.heap.size W) (Obj.cells #[.int .i64 x.f0, .string x.f1, .int .i64 x.f2, .slice A3 x.f3.length c3] 84 (0, 0)))
 have HA := Aside0.mk (below_alloc hb (Obj.cells #[.int .i64 x.f0, .string x.f1, .int .i64 x.f2, .slice A3 x.f3.length c3] 84 (0, 0)))
 have HBR := Aside0.mk (blk_alloc (W := W) (Obj.cells #[.int .i64 x.f0, .string x.f1, .int .i64 x.f2, .slice A3 x.f3.length c3] 84 (0, 0)))
 have hcR := blk_cell HBR.out
 have hfR := blk_frozen HBR.out
 have HE := Aside0.mk HE
 clear hk hb g3
 have HPSeen := Aside0.mk (show MaySeen w0 220 mSeen x.f3 from (fun x cs W _ hb hk => m_seen W W x cs _ rfl hk (Below.refl _ _) (HE.out.at_ hb)))
 go_enter Tryz.func150, Tryz.ntmps150
 refine bt (okNum x.f0) (fun h1 => bt (rIs x.f1) (fun h2 => bt (mKind x.f2) (fun h3 => bt ((decide ((x.f3.length : Int) ≤ 64) && x.f3.all mSeen)) (fun h4 => ?_) (fun h4 => ?_)) (fun h3 => ?_)) (fun h2 => ?_)) (fun h1 => ?_)
 all_goals
  go_wp2_with (first | (go_at_call 91; (with_reducible refine (c_num1 _ _ (by first | rfl | simp) _ _ (by assumption)).mono ?_); rintro e w1 ⟨rfl, hb1⟩; replace HW := Aside0.mk (below_step HW.out hb1); replace HA := Aside0.mk (below_step HA.out hb1); replace HBR := Aside0.mk (blk_below hb1 HBR.out); replace hcR := blk_cell HBR.out; replace hfR := blk_frozen HBR.out; clear hb1) | (go_at_call 175; (with_reducible refine (m_placed _ _ _ (HE.out.at_ HA.out) (by assumption)).mono ?_); rintro e w1 ⟨rfl, hb1⟩; replace HW := Aside0.mk (below_step HW.out hb1); replace HA := Aside0.mk (below_step HA.out hb1); replace HBR := Aside0.mk (blk_below hb1 HBR.out); replace hcR := blk_cell HBR.out; replace hfR := blk_frozen HBR.out; clear hb1) | (go_at_call 176; (with_reducible refine (m_kind _ _ _ (by assumption)).mono ?_); rintro e w1 ⟨rfl, rfl⟩; skip) | (go_at_call 219; (with_reducible refine (all_Seen mSeen 220 (fun _ _ => by kernel_rfl) w0 _ _ _ _ _ _ (by assumption) HPSeen.out G3.out HA.out).mono ?_); rintro e w1 ⟨rfl, hb1⟩; replace HW := Aside0.mk (below_step HW.out hb1); replace HA := Aside0.mk (below_step HA.out hb1); replace HBR := Aside0.mk (blk_below hb1 HBR.out); replace hcR := blk_cell HBR.out; replace hfR := blk_frozen HBR.out; clear hb1))
  go_ret
  exact ⟨by simp only [mShot, *, Bool.not_true, Bool.not_false, Bool.true_and, Bool.false_and, Bool.and_true, Bool.and_false, Bool.true_or, Bool.false_or, Bool.or_true, Bool.or_false, Bool.false_eq_true, if_true, if_false] <;> rfl, HW.out⟩
def mPart (x : S86) : Bool := okNum x.f0 && decide (1 ≤ x.f0) && mShot x.f1
set_option maxRecDepth 100000 in
set_option maxHeartbeats 1000000 in
theorem m_part (w0 W : World) (x : S86) (cs : List Value) (b : Bool) (h : mPart x = b) (hk : k86.K w0 x cs) (hb : Below w0.heap.size w0 W) (HE : Env w0) :
  Calls Tryz.prog 283 #[.agg cs.toArray] W fun e W' => e = .returned (.bool b) ∧ Below W.heap.size W W' := by
 subst h
 obtain ⟨A4, c4, rfl, l4, g4⟩ := k86_open hk
 have G4 := Aside0.mk g4
 have hm4 : x.f1.f3.length ≤ 9223372036854775807 := g4.2.1
 have HW := Aside0.mk (below_alloc (Below.refl W.heap.size W) (Obj.cells #[.int .i64 x.f0, .int .i64 x.f1.f0, .string x.f1.f1, .int .i64 x.f1.f2, .slice A4 x.f1.f3.length c4] 86 (0, 0)))
 have HA := Aside0.mk (below_alloc hb (Obj.cells #[.int .i64 x.f0, .int .i64 x.f1.f0, .string x.f1.f1, .int .i64 x.f1.f2, .slice A4 x.f1.f3.length c4] 86 (0, 0)))
 have HBR := Aside0.mk (blk_alloc (W := W) (Obj.cells #[.int .i64 x.f0, .int .i64 x.f1.f0, .string x.f1.f1, .int .i64 x.f1.f2, .slice A4 x.f1.f3.length c4] 86 (0, 0)))
 have hcR := blk_cell HBR.out
 have hfR := blk_frozen HBR.out
 have HE := Aside0.mk HE
 clear hk hb g4
 go_enter Tryz.func283, Tryz.ntmps283
 refine bt (okNum x.f0) (fun h1 => bt (decide (1 ≤ x.f0)) (fun h2 => have h2_0 : (decide (x.f0 ≥ 1)) = true := h2; bt (mShot x.f1) (fun h3 => ?_) (fun h3 => ?_)) (fun h2 => have h2_0 : (decide (x.f0 ≥ 1)) = false := h2; ?_)) (fun h1 => ?_)
 all_goals
  go_wp2_with (first | (go_at_call 91; (with_reducible refine (c_num1 _ _ (by first | rfl | simp) _ _ (by assumption)).mono ?_); rintro e w1 ⟨rfl, hb1⟩; replace HW := Aside0.mk (below_step HW.out hb1); replace HA := Aside0.mk (below_step HA.out hb1); replace HBR := Aside0.mk (blk_below hb1 HBR.out); replace hcR := blk_cell HBR.out; replace hfR := blk_frozen HBR.out; clear hb1) | (go_at_call 150; (with_reducible refine (m_shot w0 _ x.f1 _ _ (by assumption) (k84_mk w0 x.f1 l4 G4.out) HA.out HE.out).mono ?_); rintro e w1 ⟨rfl, hb1⟩; replace HW := Aside0.mk (below_step HW.out hb1); replace HA := Aside0.mk (below_step HA.out hb1); replace HBR := Aside0.mk (blk_below hb1 HBR.out); replace hcR := blk_cell HBR.out; replace hfR := blk_frozen HBR.out; clear hb1))
  go_ret
  exact ⟨by simp only [mPart, *, Bool.not_true, Bool.not_false, Bool.true_and, Bool.false_and, Bool.and_true, Bool.and_false, Bool.true_or, Bool.false_or, Bool.or_true, Bool.or_false, Bool.false_eq_true, if_true, if_false] <;> rfl, HW.out⟩
def mEmpty (x : S84) : Bool := (x.f0 == 0) && x.f1.toList.isEmpty && (x.f2 == 0) && (x.f3.length == 0)
set_option maxRecDepth 100000 in
set_option maxHeartbeats 1000000 in
theorem m_empty (w0 W : World) (x : S84) (cs : List Value) (b : Bool) (h : mEmpty x = b) (hk : k84.K w0 x cs) (hb : Below w0.heap.size w0 W) :
  Calls Tryz.prog 149 #[.agg cs.toArray] W fun e W' => e = .returned (.bool b) ∧ Below W.heap.size W W' := by
 subst h
 obtain ⟨A3, c3, rfl, l3, g3⟩ := k84_open hk
 have G3 := Aside0.mk g3
 have hm3 : x.f3.length ≤ 9223372036854775807 := g3.2.1
 have HW := Aside0.mk (below_alloc (Below.refl W.heap.size W) (Obj.cells #[.int .i64 x.f0, .string x.f1, .int .i64 x.f2, .slice A3 x.f3.length c3] 84 (0, 0)))
 have HA := Aside0.mk (below_alloc hb (Obj.cells #[.int .i64 x.f0, .string x.f1, .int .i64 x.f2, .slice A3 x.f3.length c3] 84 (0, 0)))
 have HBR := Aside0.mk (blk_alloc (W := W) (Obj.cells #[.int .i64 x.f0, .string x.f1, .int .i64 x.f2, .slice A3 x.f3.length c3] 84 (0, 0)))
 have hcR := blk_cell HBR.out
 have hfR := blk_frozen HBR.out
 clear hk hb g3
 go_enter Tryz.func149, Tryz.ntmps149
 refine bt ((x.f0 == 0)) (fun h1 => have h1_0 : ((x.f0 != 0)) = false := congrArg not h1; bt (x.f1.toList.isEmpty) (fun h2 => bt ((x.f2 == 0)) (fun h3 => have h3_0 : ((x.f2 != 0)) = false := congrArg not h3; bt ((x.f3.length == 0)) (fun h4 => have h4_0 : (((x.f3.length : Int) == 0)) = true := zq (by omega) h4; have h4_1 : (((x.f3.length : Int) != 0)) = false := yq (by omega) h4; ?_) (fun h4 => have h4_0 : (((x.f3.length : Int) == 0)) = false := zq (by omega) h4; have h4_1 : (((x.f3.length : Int) != 0)) = true := yq (by omega) h4; ?_)) (fun h3 => have h3_0 : ((x.f2 != 0)) = true := congrArg not h3; ?_)) (fun h2 => ?_)) (fun h1 => have h1_0 : ((x.f0 != 0)) = true := congrArg not h1; ?_)
 all_goals
  go_wp2_with fail
  go_ret
  exact ⟨by simp only [mEmpty, *, Bool.not_true, Bool.not_false, Bool.true_and, Bool.false_and, Bool.and_true, Bool.and_false, Bool.true_or, Bool.false_or, Bool.or_true, Bool.or_false, Bool.false_eq_true, if_true, if_false] <;> rfl, HW.out⟩
def mRise : Int → List Int → Bool
 | _, [] => true
 | z, y :: l => !decide (y ≤ z) && !decide (2147483647 < y) && mRise y l
def mRising (l : List Int) : Bool := mRise 0 l
theorem rise_drop {xs : List Int} {k : Nat} {y z : Int} (h : xs[k]? = some y) : mRise z (xs.drop k) = (!decide (y ≤ z) && !decide (2147483647 < y) && mRise y (xs.drop (k + 1))) := by
 obtain ⟨hl, he⟩ := List.getElem?_eq_some_iff.1 h
 rw [List.drop_eq_getElem_cons hl, he]
 rfl
set_option maxRecDepth 100000 in
theorem m_rising (w0 W : World) (A : Option Addr) (c : Nat) (xs : List Int) (b : Bool) (h : mRising xs = b) (hC : (Kd.int .i64).C w0 A xs.length xs) (hb : Below w0.heap.size w0 W) :
  Calls Tryz.prog 177 #[.slice A xs.length c] W fun e W' => e = .returned (.bool b) ∧ W' = W := by
 subst h
 have HA := Aside0.mk hb
 have HC := Aside0.mk hC
 have hm : xs.length ≤ 9223372036854775807 := hC.2.1
 clear hb hC
 go_enter Tryz.func177, Tryz.ntmps177
 go_wp2_with fail
 go_loopw [3, 8] (fun vl vi wr => ∃ (k : Nat) (z : Int), vi = .int .i64 k ∧ vl = .int .i64 z ∧ k ≤ xs.length ∧ Aside0 (mRise z (xs.drop k) = mRising xs) ∧ W = wr) (fun _ vi _ => xs.length - (intOf vi).toNat)
 case atStart => exact ⟨0, 0, rfl, rfl, Nat.zero_le _, ⟨rfl⟩, rfl⟩
 case round =>
  obtain ⟨k, z, rfl, rfl, hk, HQ, rfl⟩ := hrel
  by_cases hlt : k < xs.length
  · obtain ⟨y, hye⟩ : ∃ y, xs[k]? = some y := ⟨_, List.getElem?_eq_getElem hlt⟩
    have HX := Aside0.mk hye
    have HR := Aside0.mk (HQ.out.symm.trans (rise_drop hye))
    obtain ⟨ad, rfl, c_0⟩ := Kd.at_int HC.out (k : Int) (by omega) (by omega)
    rw [show rd xs (k : Int) = y by unfold rd; rw [Int.toNat_natCast, List.getD_eq_getElem?_getD, hye]; rfl, Int.toNat_natCast] at c_0
    replace c_0 := pw_cell_below HA.out c_0
    clear hye
    cases h1 : decide (y ≤ z) with
    | true =>
      have h1_0 : decide (z ≥ y) = true := h1
      go_wp2_with fail
      go_ret
      exact ⟨by rw [HR.out]; simp [h1], rfl⟩
    | false =>
      have h1_0 : decide (z ≥ y) = false := h1
      cases h2 : decide (2147483647 < y) with
      | true =>
        have h2_0 : decide (y > 2147483647) = true := h2
        go_wp2_with fail
        go_ret
        exact ⟨by rw [HR.out]; simp [h2], rfl⟩
      | false =>
        have h2_0 : decide (y > 2147483647) = false := h2
        go_wp2_with fail
        go_roundw
        case rel => exact ⟨k + 1, y, by go_num, rfl, by omega, ⟨by rw [HR.out, h1, h2]; simp⟩, (by first | rfl | trivial)⟩
        case measure => simp [intOf]; omega
  · have HL := Aside0.mk (show mRising xs = true by rw [← HQ.out, List.drop_eq_nil_of_le (by omega)]; rfl)
    go_wp2_with fail
    go_ret
    exact ⟨by rw [HL.out]; rfl, rfl⟩
def mTagged (x : S148) : Bool := mKind x.f0.f0 && rIs x.f0.f1 && decide ((x.f0.f2.size : Int) ≤ 64) && okNum x.f0.f3 && decide ((1 : Int) ≤ x.f1.length) && decide ((x.f1.length : Int) ≤ 4) && mRising x.f1
set_option maxRecDepth 100000 in
set_option maxHeartbeats 1000000 in
theorem m_tagged (w0 W : World) (x : S148) (cs : List Value) (b : Bool) (h : mTagged x = b) (hk : k148.K w0 x cs) (hb : Below w0.heap.size w0 W) (HE : Env w0) :
  Calls Tryz.prog 285 #[.agg cs.toArray] W fun e W' => e = .returned (.bool b) ∧ Below W.heap.size W W' := by
 subst h
 obtain ⟨A4, c4, rfl, l4, g4⟩ := k148_open hk
 have G4 := Aside0.mk g4
 have hm4 : x.f1.length ≤ 9223372036854775807 := g4.2.1
 have HW := Aside0.mk (below_alloc (Below.refl W.heap.size W) (Obj.cells #[.int .i64 x.f0.f0, .string x.f0.f1, .string x.f0.f2, .int .i64 x.f0.f3, .slice A4 x.f1.length c4] 148 (0, 0)))
 have HA := Aside0.mk (below_alloc hb (Obj.cells #[.int .i64 x.f0.f0, .string x.f0.f1, .string x.f0.f2, .int .i64 x.f0.f3, .slice A4 x.f1.length c4] 148 (0, 0)))
 have HBR := Aside0.mk (blk_alloc (W := W) (Obj.cells #[.int .i64 x.f0.f0, .string x.f0.f1, .string x.f0.f2, .int .i64 x.f0.f3, .slice A4 x.f1.length c4] 148 (0, 0)))
 have hcR := blk_cell HBR.out
 have hfR := blk_frozen HBR.out
 have HE := Aside0.mk HE
 clear hk hb g4
 have hsR := blk_lt HBR.out
 have HBY := Aside0.mk (blk_alloc2 W (Obj.cells #[.int .i64 x.f0.f0, .string x.f0.f1, .string x.f0.f2, .int .i64 x.f0.f3, .slice A4 x.f1.length c4] 148 (0, 0)) (Obj.cells #[.int .i64 x.f0.f0, .string x.f0.f1, .string x.f0.f2, .int .i64 x.f0.f3] 145 (0, 0)))
 have hcY := blk_cell HBY.out
 have hfY := blk_frozen HBY.out
 replace HW := Aside0.mk (below_alloc HW.out (Obj.cells #[.int .i64 x.f0.f0, .string x.f0.f1, .string x.f0.f2, .int .i64 x.f0.f3] 145 (0, 0)))
 replace HA := Aside0.mk (below_alloc HA.out (Obj.cells #[.int .i64 x.f0.f0, .string x.f0.f1, .string x.f0.f2, .int .i64 x.f0.f3] 145 (0, 0)))
 replace HBR := Aside0.mk (blk_below (below_alloc (Below.refl _ _) (Obj.cells #[.int .i64 x.f0.f0, .string x.f0.f1, .string x.f0.f2, .int .i64 x.f0.f3] 145 (0, 0))) HBR.out)
 go_enter Tryz.func285, Tryz.ntmps285
 refine bt (mKind x.f0.f0) (fun h1 => bt (rIs x.f0.f1) (fun h2 => bt (decide ((x.f0.f2.size : Int) ≤ 64)) (fun h3 => have h3_0 : (decide (x.f0.f2.size ≤ 64)) = true := dq (by omega) h3; have h3_1 : (decide ((64 : Int) ≥ x.f0.f2.size)) = true := h3; bt (okNum x.f0.f3) (fun h4 => bt (decide ((1 : Int) ≤ x.f1.length)) (fun h5 => have h5_0 : (decide ((x.f1.length : Int) ≥ 1)) = true := h5; have h5_1 : (decide (1 ≤ x.f1.length)) = true := dq (by omega) h5; bt (decide ((x.f1.length : Int) ≤ 4)) (fun h6 => have h6_0 : (decide ((4 : Int) ≥ x.f1.length)) = true := h6; bt (mRising x.f1) (fun h7 => ?_) (fun h7 => ?_)) (fun h6 => have h6_0 : (decide ((4 : Int) ≥ x.f1.length)) = false := h6; ?_)) (fun h5 => have h5_0 : (decide ((x.f1.length : Int) ≥ 1)) = false := h5; have h5_1 : (decide (1 ≤ x.f1.length)) = false := dq (by omega) h5; ?_)) (fun h4 => ?_)) (fun h3 => have h3_0 : (decide (x.f0.f2.size ≤ 64)) = false := dq (by omega) h3; have h3_1 : (decide ((64 : Int) ≥ x.f0.f2.size)) = false := h3; ?_)) (fun h2 => ?_)) (fun h1 => ?_)
 all_goals
  go_wp2_with (first | (go_at_call 91; (with_reducible refine (c_num1 _ _ (by first | rfl | simp) _ _ (by assumption)).mono ?_); rintro e w1 ⟨rfl, hb1⟩; replace HW := Aside0.mk (below_step HW.out hb1); replace HA := Aside0.mk (below_step HA.out hb1); replace HBR := Aside0.mk (blk_below hb1 HBR.out); replace hcR := blk_cell HBR.out; replace hfR := blk_frozen HBR.out; replace HBY := Aside0.mk (blk_below hb1 HBY.out); replace hcY := blk_cell HBY.out; replace hfY := blk_frozen HBY.out; clear hb1) | (go_at_call 175; (with_reducible refine (m_placed _ _ _ (HE.out.at_ HA.out) (by assumption)).mono ?_); rintro e w1 ⟨rfl, hb1⟩; replace HW := Aside0.mk (below_step HW.out hb1); replace HA := Aside0.mk (below_step HA.out hb1); replace HBR := Aside0.mk (blk_below hb1 HBR.out); replace hcR := blk_cell HBR.out; replace hfR := blk_frozen HBR.out; replace HBY := Aside0.mk (blk_below hb1 HBY.out); replace hcY := blk_cell HBY.out; replace hfY := blk_frozen HBY.out; clear hb1) | (go_at_call 176; (with_reducible refine (m_kind _ _ _ (by assumption)).mono ?_); rintro e w1 ⟨rfl, rfl⟩; skip) | (go_at_call 177; (with_reducible refine (m_rising w0 _ _ _ _ _ (by assumption) G4.out HA.out).mono ?_); rintro e w1 ⟨rfl, rfl⟩; skip))
  go_ret
  exact ⟨by simp only [mTagged, *, Bool.not_true, Bool.not_false, Bool.true_and, Bool.false_and, Bool.and_true, Bool.and_false, Bool.true_or, Bool.false_or, Bool.or_true, Bool.or_false, Bool.false_eq_true, if_true, if_false] <;> rfl, HW.out⟩
def mItem (x : S91) : Bool := (okNum x.f0 && okNum x.f1) && (if x.f2 = true then (x.f3.length == 0) && decide ((1 : Int) ≤ x.f4.length) && (decide ((x.f4.length : Int) ≤ 4) && x.f4.all mPart) else (x.f4.length == 0) && decide ((1 : Int) ≤ x.f3.length) && (decide ((x.f3.length : Int) ≤ 64) && x.f3.all mTagged))
set_option maxRecDepth 100000 in
set_option maxHeartbeats 1000000 in
theorem m_item (w0 W : World) (x : S91) (cs : List Value) (b : Bool) (h : mItem x = b) (hk : k91.K w0 x cs) (hb : Below w0.heap.size w0 W) (HE : Env w0) :
  Calls Tryz.prog 256 #[.agg cs.toArray] W fun e W' => e = .returned (.bool b) ∧ Below W.heap.size W W' := by
 subst h
 obtain ⟨A3, c3, A4, c4, rfl, l3, g3, l4, g4⟩ := k91_open hk
 have G3 := Aside0.mk g3
 have hm3 : x.f3.length ≤ 9223372036854775807 := g3.2.1
 have G4 := Aside0.mk g4
 have hm4 : x.f4.length ≤ 9223372036854775807 := g4.2.1
 have HW := Aside0.mk (below_alloc (Below.refl W.heap.size W) (Obj.cells #[.int .i64 x.f0, .int .i64 x.f1, .bool x.f2, .slice A3 x.f3.length c3, .slice A4 x.f4.length c4] 91 (0, 0)))
 have HA := Aside0.mk (below_alloc hb (Obj.cells #[.int .i64 x.f0, .int .i64 x.f1, .bool x.f2, .slice A3 x.f3.length c3, .slice A4 x.f4.length c4] 91 (0, 0)))
 have HBR := Aside0.mk (blk_alloc (W := W) (Obj.cells #[.int .i64 x.f0, .int .i64 x.f1, .bool x.f2, .slice A3 x.f3.length c3, .slice A4 x.f4.length c4] 91 (0, 0)))
 have hcR := blk_cell HBR.out
 have hfR := blk_frozen HBR.out
 have HE := Aside0.mk HE
 clear hk hb g3 g4
 have HPPart := Aside0.mk (show MayPart w0 283 mPart x.f4 from (fun x cs W _ hb hk => m_part W W x cs _ rfl hk (Below.refl _ _) (HE.out.at_ hb)))
 have HPTagged := Aside0.mk (show MayTagged w0 285 mTagged x.f3 from (fun x cs W _ hb hk => m_tagged W W x cs _ rfl hk (Below.refl _ _) (HE.out.at_ hb)))
 go_enter Tryz.func256, Tryz.ntmps256
 refine bt ((okNum x.f0 && okNum x.f1)) (fun h1 => bt (x.f2) (fun h2 => ?g5) (fun h2 => ?g9)) (fun h1 => ?_)
 case g5 =>
  rw [h2] at HW HA HBR hcR hfR
  refine bt ((x.f3.length == 0)) (fun h3 => have h3_0 : (((x.f3.length : Int) == 0)) = true := zq (by omega) h3; have h3_1 : (((x.f3.length : Int) != 0)) = false := yq (by omega) h3; bt (decide ((1 : Int) ≤ x.f4.length)) (fun h4 => have h4_0 : (decide ((x.f4.length : Int) ≥ 1)) = true := h4; have h4_1 : (decide (1 ≤ x.f4.length)) = true := dq (by omega) h4; bt ((decide ((x.f4.length : Int) ≤ 4) && x.f4.all mPart)) (fun h5 => ?_) (fun h5 => ?_)) (fun h4 => have h4_0 : (decide ((x.f4.length : Int) ≥ 1)) = false := h4; have h4_1 : (decide (1 ≤ x.f4.length)) = false := dq (by omega) h4; ?_)) (fun h3 => have h3_0 : (((x.f3.length : Int) == 0)) = false := zq (by omega) h3; have h3_1 : (((x.f3.length : Int) != 0)) = true := yq (by omega) h3; ?_)
  all_goals
   go_wp2_with (first | (go_at_call 91; (with_reducible refine (c_num2 _ _ (by first | rfl | simp) _ _ _ (by assumption)).mono ?_); rintro e w1 ⟨rfl, hb1⟩; replace HW := Aside0.mk (below_step HW.out hb1); replace HA := Aside0.mk (below_step HA.out hb1); replace HBR := Aside0.mk (blk_below hb1 HBR.out); replace hcR := blk_cell HBR.out; replace hfR := blk_frozen HBR.out; clear hb1) | (go_at_call 282; (with_reducible refine (all_Part mPart 283 (fun _ _ => by kernel_rfl) w0 _ _ _ _ _ _ (by assumption) HPPart.out G4.out HA.out).mono ?_); rintro e w1 ⟨rfl, hb1⟩; replace HW := Aside0.mk (below_step HW.out hb1); replace HA := Aside0.mk (below_step HA.out hb1); replace HBR := Aside0.mk (blk_below hb1 HBR.out); replace hcR := blk_cell HBR.out; replace hfR := blk_frozen HBR.out; clear hb1) | (go_at_call 284; (with_reducible refine (all_Tagged mTagged 285 (fun _ _ => by kernel_rfl) w0 _ _ _ _ _ _ (by assumption) HPTagged.out G3.out HA.out).mono ?_); rintro e w1 ⟨rfl, hb1⟩; replace HW := Aside0.mk (below_step HW.out hb1); replace HA := Aside0.mk (below_step HA.out hb1); replace HBR := Aside0.mk (blk_below hb1 HBR.out); replace hcR := blk_cell HBR.out; replace hfR := blk_frozen HBR.out; clear hb1))
   go_ret
   exact ⟨by simp only [mItem, *, Bool.not_true, Bool.not_false, Bool.true_and, Bool.false_and, Bool.and_true, Bool.and_false, Bool.true_or, Bool.false_or, Bool.or_true, Bool.or_false, Bool.false_eq_true, if_true, if_false] <;> rfl, HW.out⟩
 case g9 =>
  rw [h2] at HW HA HBR hcR hfR
  refine bt ((x.f4.length == 0)) (fun h7 => have h7_0 : (((x.f4.length : Int) == 0)) = true := zq (by omega) h7; have h7_1 : (((x.f4.length : Int) != 0)) = false := yq (by omega) h7; bt (decide ((1 : Int) ≤ x.f3.length)) (fun h8 => have h8_0 : (decide ((x.f3.length : Int) ≥ 1)) = true := h8; have h8_1 : (decide (1 ≤ x.f3.length)) = true := dq (by omega) h8; bt ((decide ((x.f3.length : Int) ≤ 64) && x.f3.all mTagged)) (fun h9 => ?_) (fun h9 => ?_)) (fun h8 => have h8_0 : (decide ((x.f3.length : Int) ≥ 1)) = false := h8; have h8_1 : (decide (1 ≤ x.f3.length)) = false := dq (by omega) h8; ?_)) (fun h7 => have h7_0 : (((x.f4.length : Int) == 0)) = false := zq (by omega) h7; have h7_1 : (((x.f4.length : Int) != 0)) = true := yq (by omega) h7; ?_)
  all_goals
   go_wp2_with (first | (go_at_call 91; (with_reducible refine (c_num2 _ _ (by first | rfl | simp) _ _ _ (by assumption)).mono ?_); rintro e w1 ⟨rfl, hb1⟩; replace HW := Aside0.mk (below_step HW.out hb1); replace HA := Aside0.mk (below_step HA.out hb1); replace HBR := Aside0.mk (blk_below hb1 HBR.out); replace hcR := blk_cell HBR.out; replace hfR := blk_frozen HBR.out; clear hb1) | (go_at_call 282; (with_reducible refine (all_Part mPart 283 (fun _ _ => by kernel_rfl) w0 _ _ _ _ _ _ (by assumption) HPPart.out G4.out HA.out).mono ?_); rintro e w1 ⟨rfl, hb1⟩; replace HW := Aside0.mk (below_step HW.out hb1); replace HA := Aside0.mk (below_step HA.out hb1); replace HBR := Aside0.mk (blk_below hb1 HBR.out); replace hcR := blk_cell HBR.out; replace hfR := blk_frozen HBR.out; clear hb1) | (go_at_call 284; (with_reducible refine (all_Tagged mTagged 285 (fun _ _ => by kernel_rfl) w0 _ _ _ _ _ _ (by assumption) HPTagged.out G3.out HA.out).mono ?_); rintro e w1 ⟨rfl, hb1⟩; replace HW := Aside0.mk (below_step HW.out hb1); replace HA := Aside0.mk (below_step HA.out hb1); replace HBR := Aside0.mk (blk_below hb1 HBR.out); replace hcR := blk_cell HBR.out; replace hfR := blk_frozen HBR.out; clear hb1))
   go_ret
   exact ⟨by simp only [mItem, *, Bool.not_true, Bool.not_false, Bool.true_and, Bool.false_and, Bool.and_true, Bool.and_false, Bool.true_or, Bool.false_or, Bool.or_true, Bool.or_false, Bool.false_eq_true, if_true, if_false] <;> rfl, HW.out⟩
 all_goals
  go_wp2_with (first | (go_at_call 91; (with_reducible refine (c_num2 _ _ (by first | rfl | simp) _ _ _ (by assumption)).mono ?_); rintro e w1 ⟨rfl, hb1⟩; replace HW := Aside0.mk (below_step HW.out hb1); replace HA := Aside0.mk (below_step HA.out hb1); replace HBR := Aside0.mk (blk_below hb1 HBR.out); replace hcR := blk_cell HBR.out; replace hfR := blk_frozen HBR.out; clear hb1) | (go_at_call 282; (with_reducible refine (all_Part mPart 283 (fun _ _ => by kernel_rfl) w0 _ _ _ _ _ _ (by assumption) HPPart.out G4.out HA.out).mono ?_); rintro e w1 ⟨rfl, hb1⟩; replace HW := Aside0.mk (below_step HW.out hb1); replace HA := Aside0.mk (below_step HA.out hb1); replace HBR := Aside0.mk (blk_below hb1 HBR.out); replace hcR := blk_cell HBR.out; replace hfR := blk_frozen HBR.out; clear hb1) | (go_at_call 284; (with_reducible refine (all_Tagged mTagged 285 (fun _ _ => by kernel_rfl) w0 _ _ _ _ _ _ (by assumption) HPTagged.out G3.out HA.out).mono ?_); rintro e w1 ⟨rfl, hb1⟩; replace HW := Aside0.mk (below_step HW.out hb1); replace HA := Aside0.mk (below_step HA.out hb1); replace HBR := Aside0.mk (blk_below hb1 HBR.out); replace hcR := blk_cell HBR.out; replace hfR := blk_frozen HBR.out; clear hb1))
  go_ret
  exact ⟨by simp only [mItem, *, Bool.not_true, Bool.not_false, Bool.true_and, Bool.false_and, Bool.and_true, Bool.and_false, Bool.true_or, Bool.false_or, Bool.or_true, Bool.or_false, Bool.false_eq_true, if_true, if_false] <;> rfl, HW.out⟩
theorem infoI64 : (Tryz.prog.info? 3).map (fun i => (i.zero, i.size, i.bytes)) = some (some (.int .i64 0), 1, 8) := by kernel_rfl
def mIds (l : List S96) : Bool := mRising (l.map fun y => y.f0)
set_option maxRecDepth 100000 in
theorem m_ids (w0 W : World) (A : Option Addr) (c : Nat) (xs : List S96) (b : Bool) (h : mIds xs = b) (hl : xs.length ≤ 17592186043904) (hC : k96.C w0 A xs.length xs) (hb : Below w0.heap.size w0 W) :
  Calls Tryz.prog 147 #[.slice A xs.length c] W fun e W' => e = .returned (.bool b) ∧ Below W.heap.size W W' := by
 have HH := Aside0.mk h
 have HC := Aside0.mk hC
 have HB := Aside0.mk hb
 have hm : xs.length ≤ 9223372036854775807 := hC.2.1
 clear hb hC h
 go_enter Tryz.func147, Tryz.ntmps147
 go_wp2_with fail
 go_loopw [3, 8] (fun v3 vi wr => ∃ k : Nat, vi = .int .i64 k ∧ k ≤ xs.length ∧ Aside0 ((Kd.int .i64).R 3 wr W.heap.size (fun _ => True) v3 ((xs.take k).map fun y => y.f0)) ∧ Aside0 (Below W.heap.size W wr)) (fun _ vi _ => xs.length - (intOf vi).toNat)
 case atStart => exact ⟨0, rfl, Nat.zero_le _, ⟨Kd.R_nil _ _ _ _ _⟩, ⟨Below.refl _ _⟩⟩
 case round =>
  obtain ⟨k, rfl, hk, HO, HW⟩ := hrel
  obtain ⟨wo, rfl⟩ : ∃ wo : World, wo = wr := ⟨_, rfl⟩
  by_cases hlt : k < xs.length
  · obtain ⟨y, hye⟩ : ∃ y, xs[k]? = some y := ⟨_, List.getElem?_eq_getElem hlt⟩
    have HX := Aside0.mk hye
    have HA := Aside0.mk (below_step HB.out HW.out)
    have hat := at_T96 HC.out (k : Int) (by omega) (by omega)
    rw [show rd_T96 xs (k : Int) = y by unfold rd_T96; rw [Int.toNat_natCast, List.getD_eq_getElem?_getD, hye]; rfl, Int.toNat_natCast] at hat
    obtain ⟨adc, rfl, c_0, c_1, c_2, c_3⟩ := hat
    replace c_0 := pw_cell_below HA.out c_0
    replace c_1 := pw_cell_below HA.out c_1
    replace c_2 := pw_cell_below HA.out c_2
    replace c_3 := pw_cell_below HA.out c_3
    have HO1 := Aside0.mk (Kd.R_below HO.out (below_alloc (Below.refl _ _) (Obj.cells #[.int .i64 y.f0, .string y.f1, .int .i64 y.f2, .int .i64 y.f3] 96 (0, 0))))
    have HW1 := Aside0.mk (below_alloc HW.out (Obj.cells #[.int .i64 y.f0, .string y.f1, .int .i64 y.f2, .int .i64 y.f3] 96 (0, 0)))
    have hlk : ((xs.take k).map fun y => y.f0).length = k := by rw [List.length_map, List.length_take]; omega
    clear hye
    go_wp2_with ((with_reducible refine gate_builtin (b := .append) (xs := #[.tmp 12, .tmp 15]) rfl ?_); at_builtin; refine Kd.R_append (Kd.int .i64) (w0 := W) W.heap.size rfl (.tmp 12) (.tmp 15) 146 3 (.int .i64 0) 8 rfl Tryz.underlying146 infoI64 rfl (by decide) (by omega) u3 _ y.f0 [.int .i64 y.f0] (fun _ => True) (fun _ => False) rfl (by have hq_ : (wo.alloc (Obj.cells #[.int .i64 y.f0, .string y.f1, .int .i64 y.f2, .int .i64 y.f3] 96 (0, 0))).heap.size = wo.heap.size + 1 := (by simp); rw [hq_]; rfl) rfl (fun _ hk => hk.elim) (fun _ _ => trivial) HO1.out HW1.out (below_size HW1.out) (by rw [hlk]; omega) ?_; intro v1 W1 ho hb _ _; have HO2 := Aside0.mk ho; have HW2 := Aside0.mk hb; clear ho hb)
    go_roundw
    case rel => exact ⟨k + 1, by go_num, by omega, ⟨by have h := HO2.out; rw [List.take_add_one, HX.out]; simpa using h⟩, HW2⟩
    case measure => simp [intOf]; omega
  · obtain ⟨A1, c1, rfl, hle, hC1⟩ := Kd.R_reads HO.out
    rw [List.take_of_length_le (by omega)] at hC1
    have hlm : (xs.take k).length = xs.length := by rw [List.take_of_length_le (by omega)]
    obtain ⟨n1, hn1⟩ : ∃ n1, n1 = (List.map (fun y : S96 => y.f0) (xs.take k)).length := ⟨_, rfl⟩
    rw [← hn1]
    rw [List.take_of_length_le (by omega)] at hn1
    rw [← hn1] at hC1
    have HCR := Aside0.mk (m_rising wo wo A1 c1 (xs.map fun y : S96 => y.f0) b (show mIds xs = b from HH.out) (hn1 ▸ hC1) (Below.refl _ _))
    rw [← hn1] at HCR
    clear hn1 hC1 hle
    go_wp2_with (go_at_call 177; (with_reducible refine HCR.out.mono ?_); rintro e w1 ⟨rfl, rfl⟩)
    go_ret
    exact ⟨rfl, HW.out⟩
def mPairAt (l0 : List S91) (l : List S91) (i : Nat) : Bool := (l[i]?).elim false fun y => !y.f2 && !((l0[i]?).elim false fun z => decide (y.f0 ≤ z.f0))
def mItems (l : List S91) : Bool := !decide ((l.length : Int) < 1) && (decide ((l.length : Int) ≤ 8) && l.all mItem) && (List.range (l.drop 1).length).all (mPairAt l (l.drop 1))
theorem infoIt : (Tryz.prog.info? 91).map (fun i => i.size) = some 5 := by kernel_rfl
set_option maxRecDepth 100000 in
set_option maxHeartbeats 1000000 in
theorem m_items (w0 W : World) (A : Option Addr) (c : Nat) (xs : List S91) (hc : xs.length ≤ c) (b : Bool) (h : mItems xs = b) (hC : k91.C w0 A xs.length xs) (hb : Below w0.heap.size w0 W) (HE : Env w0) :
  Calls Tryz.prog 210 #[.slice A xs.length c] W fun e W' => e = .returned (.bool b) ∧ Below W.heap.size W W' := by
 subst h
 have HW := Aside0.mk (Below.refl W.heap.size W)
 have HA := Aside0.mk hb
 have HC := Aside0.mk hC
 have hm : xs.length ≤ 9223372036854775807 := hC.2.1
 have HE := Aside0.mk HE
 have HCC := Aside0.mk hc
 clear hb hC hc
 have HPItem := Aside0.mk (show MayItem w0 256 mItem xs from (fun x cs W _ hb hk => m_item W W x cs _ rfl hk (Below.refl _ _) (HE.out.at_ hb)))
 go_enter Tryz.func210, Tryz.ntmps210
 refine bt (decide ((xs.length : Int) < 1)) (fun h1 => have h1_0 : (decide ((1 : Int) > xs.length)) = true := h1; have h1_1 : (decide (xs.length < 1)) = true := dq (by omega) h1; ?_) (fun h1 => have h1_0 : (decide ((1 : Int) > xs.length)) = false := h1; have h1_1 : (decide (xs.length < 1)) = false := dq (by omega) h1; bt ((decide ((xs.length : Int) ≤ 8) && xs.all mItem)) (fun h2 => ?g6) (fun h2 => ?_))
 case g6 =>
  have hl1 : 1 ≤ xs.length := by have hq_ := h1; simp only [decide_eq_false_iff_not] at hq_; omega
  obtain ⟨L, hL⟩ : ∃ L, L = xs.drop 1 := ⟨_, rfl⟩
  have HLX := Aside0.mk hL
  have hLn : L.length = xs.length - 1 := by rw [hL, List.length_drop]
  obtain ⟨T, hT⟩ : ∃ T, T = (if c = 1 then A else A.map (·.add (1 * 5))) := ⟨_, rfl⟩
  have HCT := Aside0.mk (show k91.C w0 T L.length L by rw [hT, hL]; exact Kd.C_drop HC.out hl1 HCC.out)
  have hsl : ∀ W : World, (Instr.slice 32 (.slice A xs.length c) (some (.int .i64 1)) none none).run Tryz.prog W = .ok (.slice T L.length (c - 1)) W := by
   obtain ⟨i0, hi, hz⟩ := Option.map_eq_some_iff.1 infoIt
   intro W
   rw [hT, hLn]
   exact cut_from 32 91 .i64 Tryz.underlying32 hi 5 hz A xs.length c 1 (by omega) (by omega) W
  clear hT hL
  go_wp2_with (go_at_call 255; (with_reducible refine (all_Item mItem 256 (fun _ _ => by kernel_rfl) w0 _ _ _ _ _ _ (by assumption) HPItem.out HC.out HA.out).mono ?_); rintro e w1 ⟨rfl, hb1⟩; replace HW := Aside0.mk (below_step HW.out hb1); replace HA := Aside0.mk (below_step HA.out hb1); clear hb1)
  go_loopw [16] (fun vi wr => ∃ k : Nat, vi = .int .i64 k ∧ k ≤ L.length ∧ Aside0 (∀ i, i < k → (mPairAt xs) L i = true) ∧ Aside0 (Below W.heap.size W wr) ∧ Aside0 (Below w0.heap.size w0 wr)) (fun vi _ => L.length - (intOf vi).toNat)
  case atStart => exact ⟨0, rfl, Nat.zero_le _, ⟨fun i hi => absurd hi (Nat.not_lt_zero i)⟩, HW, HA⟩
  case round =>
   clear HW HA
   obtain ⟨k, rfl, hk, HQ, HW, HA⟩ := hrel
   obtain ⟨wo, rfl⟩ : ∃ wo : World, wo = wr := ⟨_, rfl⟩
   by_cases hlt : k < L.length
   · obtain ⟨y, hye⟩ : ∃ y, L[k]? = some y := ⟨_, List.getElem?_eq_getElem hlt⟩
     have HX := Aside0.mk hye
     have hat := at_T91 HCT.out (k : Int) (by omega) (by omega)
     rw [show rd_T91 L (k : Int) = y by unfold rd_T91; rw [Int.toNat_natCast, List.getD_eq_getElem?_getD, hye]; rfl, Int.toNat_natCast] at hat
     obtain ⟨adc, Ay3, cy3, Ay4, cy4, rfl, c_0, c_1, c_2, c_3, c_4, ly3, gy3, ly4, gy4⟩ := hat
     have Gy3 := Aside0.mk gy3
     clear gy3
     have Gy4 := Aside0.mk gy4
     clear gy4
     replace c_0 := pw_cell_below HA.out c_0
     replace c_1 := pw_cell_below HA.out c_1
     replace c_2 := pw_cell_below HA.out c_2
     replace c_3 := pw_cell_below HA.out c_3
     replace c_4 := pw_cell_below HA.out c_4
     clear hye
     have EY := HX
     have HBY := Aside0.mk (blk_alloc (W := wo) (Obj.cells #[.int .i64 y.f0, .int .i64 y.f1, .bool y.f2, .slice Ay3 y.f3.length cy3, .slice Ay4 y.f4.length cy4] 91 (0, 0)))
     have hcY := blk_cell HBY.out
     have hfY := blk_frozen HBY.out
     replace HW := Aside0.mk (below_alloc HW.out (Obj.cells #[.int .i64 y.f0, .int .i64 y.f1, .bool y.f2, .slice Ay3 y.f3.length cy3, .slice Ay4 y.f4.length cy4] 91 (0, 0)))
     replace HA := Aside0.mk (below_alloc HA.out (Obj.cells #[.int .i64 y.f0, .int .i64 y.f1, .bool y.f2, .slice Ay3 y.f3.length cy3, .slice Ay4 y.f4.length cy4] 91 (0, 0)))
     obtain ⟨z, hze⟩ : ∃ z, xs[k]? = some z := ⟨_, List.getElem?_eq_getElem (by omega)⟩
     have EZ := Aside0.mk hze
     have hat := at_T91 HC.out (k : Int) (by omega) (by omega)
     rw [show rd_T91 xs (k : Int) = z by unfold rd_T91; rw [Int.toNat_natCast, List.getD_eq_getElem?_getD, hze]; rfl, Int.toNat_natCast] at hat
     obtain ⟨add, Az3, cz3, Az4, cz4, rfl, d_0, d_1, d_2, d_3, d_4, lz3, gz3, lz4, gz4⟩ := hat
     skip
     have Gz3 := Aside0.mk gz3
     clear gz3
     have Gz4 := Aside0.mk gz4
     clear gz4
     replace d_0 := pw_cell_below HA.out d_0
     replace d_1 := pw_cell_below HA.out d_1
     replace d_2 := pw_cell_below HA.out d_2
     replace d_3 := pw_cell_below HA.out d_3
     replace d_4 := pw_cell_below HA.out d_4
     have hkx : k < xs.length := by omega
     clear hze
     refine bt (y.f2) (fun h3 => ?g3) (fun h3 => ?g5)
     case g3 =>
      rw [h3] at HW HA HBY hcY hfY c_2 d_0 d_1 d_2 d_3 d_4
      have HR := Aside0.mk (show (mPairAt xs) L k = false by simp only [mPairAt, Option.elim, h3, EY.out, EZ.out, Bool.not_true, Bool.not_false, Bool.true_and, Bool.false_and, Bool.and_true, Bool.and_false, Bool.true_or, Bool.false_or, Bool.or_true, Bool.or_false, Bool.false_eq_true, if_true, if_false])
      go_wp2_with fail
      go_quiet (fail)
      go_wp2_with fail
      go_ret
      exact ⟨by simp only [mItems, ← HLX.out, idx_stop hlt HR.out, h1, h2, h3, Bool.not_true, Bool.not_false, Bool.true_and, Bool.false_and, Bool.and_true, Bool.and_false, Bool.true_or, Bool.false_or, Bool.or_true, Bool.or_false, Bool.false_eq_true, if_true, if_false]; rfl, (pw_below_drewN HW.out _)⟩
     case g5 =>
      rw [h3] at HW HA HBY hcY hfY c_2 d_0 d_1 d_2 d_3 d_4
      refine bt (decide (y.f0 ≤ z.f0)) (fun h5 => have h5_0 : (decide (z.f0 ≥ y.f0)) = true := h5; have m0 := trivial; ?_) (fun h5 => have h5_0 : (decide (z.f0 ≥ y.f0)) = false := h5; ?_)
      all_goals first
       | clear m0
         have HR := Aside0.mk (show (mPairAt xs) L k = false by simp only [mPairAt, Option.elim, *, EY.out, EZ.out, Bool.not_true, Bool.not_false, Bool.true_and, Bool.false_and, Bool.and_true, Bool.and_false, Bool.true_or, Bool.false_or, Bool.or_true, Bool.or_false, Bool.false_eq_true, if_true, if_false])
         go_wp2_with (go_at_call 255; (with_reducible refine (all_Item mItem 256 (fun _ _ => by kernel_rfl) w0 _ _ _ _ _ _ (by assumption) HPItem.out HC.out HA.out).mono ?_); rintro e w1 ⟨rfl, hb1⟩; replace HW := Aside0.mk (below_step HW.out hb1); replace HA := Aside0.mk (below_step HA.out hb1); replace HBY := Aside0.mk (blk_below hb1 HBY.out); replace hcY := blk_cell HBY.out; replace hfY := blk_frozen HBY.out; replace d_0 := pw_cell_below hb1 d_0; replace d_1 := pw_cell_below hb1 d_1; replace d_2 := pw_cell_below hb1 d_2; replace d_3 := pw_cell_below hb1 d_3; replace d_4 := pw_cell_below hb1 d_4; clear hb1)
         go_quiet (fail)
         go_wp2_with fail
         go_ret
         exact ⟨by simp only [mItems, ← HLX.out, idx_stop hlt HR.out, h1, h2, Bool.not_true, Bool.not_false, Bool.true_and, Bool.false_and, Bool.and_true, Bool.and_false, Bool.true_or, Bool.false_or, Bool.or_true, Bool.or_false, Bool.false_eq_true, if_true, if_false] <;> rfl, (pw_below_drewN HW.out _)⟩
       | skip
         have HR := Aside0.mk (show (mPairAt xs) L k = true by simp only [mPairAt, Option.elim, *, EY.out, EZ.out, Bool.not_true, Bool.not_false, Bool.true_and, Bool.false_and, Bool.and_true, Bool.and_false, Bool.true_or, Bool.false_or, Bool.or_true, Bool.or_false, Bool.false_eq_true, if_true, if_false])
         go_wp2_with (go_at_call 255; (with_reducible refine (all_Item mItem 256 (fun _ _ => by kernel_rfl) w0 _ _ _ _ _ _ (by assumption) HPItem.out HC.out HA.out).mono ?_); rintro e w1 ⟨rfl, hb1⟩; replace HW := Aside0.mk (below_step HW.out hb1); replace HA := Aside0.mk (below_step HA.out hb1); replace HBY := Aside0.mk (blk_below hb1 HBY.out); replace hcY := blk_cell HBY.out; replace hfY := blk_frozen HBY.out; replace d_0 := pw_cell_below hb1 d_0; replace d_1 := pw_cell_below hb1 d_1; replace d_2 := pw_cell_below hb1 d_2; replace d_3 := pw_cell_below hb1 d_3; replace d_4 := pw_cell_below hb1 d_4; clear hb1)
         go_quiet (fail)
         go_wp2_with fail
         go_roundw
         case rel => exact ⟨k + 1, by go_num, by omega, ⟨idx_step HQ.out HR.out⟩, ⟨(pw_below_drewN HW.out _)⟩, ⟨(pw_below_drewN HA.out _)⟩⟩
         case measure => simp [intOf]; omega
   · have HL := idx_done HQ.out (by omega)
     go_wp2_with fail
     go_ret
     exact ⟨by simp only [mItems, ← HLX.out, HL, h1, h2, Bool.not_true, Bool.not_false, Bool.true_and, Bool.false_and, Bool.and_true, Bool.and_false, Bool.true_or, Bool.false_or, Bool.or_true, Bool.or_false, Bool.false_eq_true, if_true, if_false]; rfl, HW.out⟩
 all_goals
  go_wp2_with (go_at_call 255; (with_reducible refine (all_Item mItem 256 (fun _ _ => by kernel_rfl) w0 _ _ _ _ _ _ (by assumption) HPItem.out HC.out HA.out).mono ?_); rintro e w1 ⟨rfl, hb1⟩; replace HW := Aside0.mk (below_step HW.out hb1); replace HA := Aside0.mk (below_step HA.out hb1); clear hb1)
  go_ret
  exact ⟨by simp only [mItems, *, Bool.not_true, Bool.not_false, Bool.true_and, Bool.false_and, Bool.and_true, Bool.and_false, Bool.true_or, Bool.false_or, Bool.or_true, Bool.or_false, Bool.false_eq_true, if_true, if_false] <;> rfl, HW.out⟩
end Go.Proofs.YtmneemhplffemaaGreatDoorRR.May
namespace Go.Proofs.YtmneemhplffemaaGreatDoorRR.Law
open Go.RowKit Go.Proofs.YtmneemhplffemaaGreatDoorRR.Ord Go.Proofs.YtmneemhplffemaaGreatDoorRR.Name Go.Proofs.YtmneemhplffemaaGreatDoorRR.Ext Go.Proofs.YtmneemhplffemaaGreatDoorRR.Wire Go.Proofs.YtmneemhplffemaaGreatDoorRR.Mem Go.Proofs.YtmneemhplffemaaGreatDoorRR.Put Go.Proofs.YtmneemhplffemaaGreatDoorRR.Get Go.Proofs.YtmneemhplffemaaGreatDoorRR.Ki Go.Proofs.YtmneemhplffemaaGreatDoorRR.Chk Go.Proofs.YtmneemhplffemaaGreatDoorRR.May Go.Proofs.YtmneemhplffemaaGreatDoorRRW.PrintWords
inductive Ltr where
 | ln
 | ls
 | lc
 | lr
 | lt
 | lf
 | lm
 | uW
 | lw
 | ld
 | uD
 | le
 | lv
 | ly
 | la
 | lo
 | uE
 | uI
 | uP
def Ltr.code : Ltr → Nat
 | .ln => 110
 | .ls => 115
 | .lc => 99
 | .lr => 114
 | .lt => 116
 | .lf => 102
 | .lm => 109
 | .uW => 87
 | .lw => 119
 | .ld => 100
 | .uD => 68
 | .le => 101
 | .lv => 118
 | .ly => 121
 | .la => 97
 | .lo => 111
 | .uE => 69
 | .uI => 73
 | .uP => 80
def ltrList : List (List Ltr) := [[], [.ls], [.ls, .lr, .lo], [.ls], [.ls, .lc], [.ls, .lc, .lt, .uW], [.ls, .lc, .lw], [.ls, .lc, .ld], [.ls, .lc, .lt], [.ln, .ls, .le], [.ln, .ls, .lr, .ly], [.ln, .ls], [.ln, .ls, .lc, .lt, .le], [.ln, .ls, .lc, .lt, .le, .uP], [.ln, .ls, .lc, .uD, .uI], [.lv], [.ln, .lt, .lf], [.ln, .lt, .lf, .uE, .lm], [.ln, .lt], [.ln, .lt, .lf, .la], [.ln], [], [.lv], [.ln], [.ln, .ls, .lc, .ld]]
def word (k : Nat) : List Ltr := ltrList.getD k []
abbrev Note := S34
def okF : Ltr → Note → Bool
 | .ln, x => okNum x.f1.f0 && decide (1 ≤ x.f1.f0)
 | .ls, x => okNum x.f2 && decide (1 ≤ x.f2)
 | .lc, x => okNum x.f3 && decide (1 ≤ x.f3)
 | .lr, x => okNum x.f4 && decide (1 ≤ x.f4)
 | .lt, x => okNum x.f5 && decide (0 ≤ x.f5)
 | .lf, x => okNum x.f6 && decide (0 ≤ x.f6)
 | .lm, x => okNum x.f7 && decide (0 ≤ x.f7)
 | .uW, x => decide ((x.f12.length : Int) ≤ 4) && x.f12.all mWatch
 | .lw, x => (x.f12.length == 1) && (x.f12[0]?).elim false mWatch
 | .ld, x => (x.f12.length == 1) && (x.f12[0]?).elim false mBare
 | .uD, x => (decide ((x.f12.length : Int) ≤ 4) && x.f12.all mBare) && mIds x.f12
 | .le, x => okNum x.f8
 | .lv, x => okNum x.f1.f0 && okNum x.f1.f1 && okNum x.f1.f2
 | .ly, x => mReply x.f11
 | .la, x => decide ((x.f15.size : Int) ≤ 200000)
 | .lo, x => mOps x.f9
 | .uE, x => decide ((x.f10.length : Int) ≤ 16) && x.f10.all mEntry
 | .uI, x => mItems x.f14
 | .uP, x => (x.f13.length == 1) && (x.f13[0]?).elim false fun p => okNum p.f0 && decide (1 ≤ p.f0)
def encF : Ltr → Note → List Int
 | .ln, x => encNum x.f1.f0
 | .ls, x => encNum x.f2
 | .lc, x => encNum x.f3
 | .lr, x => encNum x.f4
 | .lt, x => encNum x.f5
 | .lf, x => encNum x.f6
 | .lm, x => encNum x.f7
 | .uW, x => encList encWatch x.f12
 | .lw, x => encList encWatch x.f12
 | .ld, x => encList encWatch x.f12
 | .uD, x => encList encWatch x.f12
 | .le, x => encNum x.f8
 | .lv, x => encNum x.f1.f0 ++ (encNum x.f1.f1 ++ encNum x.f1.f2)
 | .ly, x => encReply x.f11
 | .la, x => encTxt x.f15
 | .lo, x => encList encOp x.f9
 | .uE, x => encList encEntry x.f10
 | .uI, x => encList encItem x.f14
 | .uP, x => encList encPart x.f13
def dF : Ltr → List Int → Nat → Note → Option (Note × Nat)
 | .ln, xs, a, x => (dNum xs a).bind fun p => some ({ x with f1 := { x.f1 with f0 := p.1 } }, p.2)
 | .ls, xs, a, x => (dNum xs a).bind fun p => some ({ x with f2 := p.1 }, p.2)
 | .lc, xs, a, x => (dNum xs a).bind fun p => some ({ x with f3 := p.1 }, p.2)
 | .lr, xs, a, x => (dNum xs a).bind fun p => some ({ x with f4 := p.1 }, p.2)
 | .lt, xs, a, x => (dNum xs a).bind fun p => some ({ x with f5 := p.1 }, p.2)
 | .lf, xs, a, x => (dNum xs a).bind fun p => some ({ x with f6 := p.1 }, p.2)
 | .lm, xs, a, x => (dNum xs a).bind fun p => some ({ x with f7 := p.1 }, p.2)
 | .uW, xs, a, x => (dLst dWatch xs a).bind fun p => some ({ x with f12 := p.1 }, p.2)
 | .lw, xs, a, x => (dLst dWatch xs a).bind fun p => some ({ x with f12 := p.1 }, p.2)
 | .ld, xs, a, x => (dLst dWatch xs a).bind fun p => some ({ x with f12 := p.1 }, p.2)
 | .uD, xs, a, x => (dLst dWatch xs a).bind fun p => some ({ x with f12 := p.1 }, p.2)
 | .le, xs, a, x => (dNum xs a).bind fun p => some ({ x with f8 := p.1 }, p.2)
 | .lv, xs, a, x => (dNum xs a).bind fun p => (dNum xs p.2).bind fun q => (dNum xs q.2).bind fun r => some ({ x with f1 := ⟨p.1, q.1, r.1⟩ }, r.2)
 | .ly, xs, a, x => (dReply xs a).bind fun p => some ({ x with f11 := p.1 }, p.2)
 | .la, xs, a, x => (dTxt xs a).bind fun p => some ({ x with f15 := p.1 }, p.2)
 | .lo, xs, a, x => (dLst dOp xs a).bind fun p => some ({ x with f9 := p.1 }, p.2)
 | .uE, xs, a, x => (dLst dEntry xs a).bind fun p => some ({ x with f10 := p.1 }, p.2)
 | .uI, xs, a, x => (dLst dItem xs a).bind fun p => some ({ x with f14 := p.1 }, p.2)
 | .uP, xs, a, x => (dLst dPart xs a).bind fun p => some ({ x with f13 := p.1 }, p.2)
def clrF : Ltr → Note → Note
 | .ln, x => { x with f1 := { x.f1 with f0 := 0 } }
 | .ls, x => { x with f2 := 0 }
 | .lc, x => { x with f3 := 0 }
 | .lr, x => { x with f4 := 0 }
 | .lt, x => { x with f5 := 0 }
 | .lf, x => { x with f6 := 0 }
 | .lm, x => { x with f7 := 0 }
 | .uW, x => { x with f12 := [] }
 | .lw, x => { x with f12 := [] }
 | .ld, x => { x with f12 := [] }
 | .uD, x => { x with f12 := [] }
 | .le, x => { x with f8 := 0 }
 | .lv, x => { x with f1 := ⟨0, 0, 0⟩ }
 | .ly, x => { x with f11 := ⟨0, 0, 0, []⟩ }
 | .la, x => { x with f15 := ⟨#[]⟩ }
 | .lo, x => { x with f9 := [] }
 | .uE, x => { x with f10 := [] }
 | .uI, x => { x with f14 := [] }
 | .uP, x => { x with f13 := [] }
def dFs : List Ltr → List Int → Nat → Note → Option (Note × Nat)
 | [], _, a, x => some (x, a)
 | l :: w, xs, a, x => (dF l xs a x).bind fun p => dFs w xs p.2 p.1
def clrFs (w : List Ltr) (x : Note) : Note := w.foldl (fun y l => clrF l y) x
def zeroNote (k : Int) : Note := ⟨k, ⟨0, 0, 0⟩, 0, 0, 0, 0, 0, 0, 0, [], [], ⟨0, 0, 0, []⟩, [], [], [], ⟨#[]⟩⟩
def mBlank (x : Note) : Bool := (x.f1.f0 == 0) && (x.f1.f1 == 0) && (x.f1.f2 == 0) && (x.f2 == 0) && (x.f3 == 0) && (x.f4 == 0) && (x.f5 == 0) && (x.f6 == 0) && (x.f7 == 0) && (x.f8 == 0) && x.f15.toList.isEmpty && (x.f11.f0 == 0) && (x.f11.f1 == 0) && (x.f11.f2 == 0) && (x.f9.length + x.f10.length + x.f11.f3.length + x.f12.length + x.f13.length + x.f14.length == 0)
def mGranted (x : Note) : Bool := (x.f13[0]?).elim false fun p => if (x.f8 == 0) = true then mShot p.f1 else mEmpty p.f1
def mCheck (x : Note) : Bool := decide (1 ≤ x.f0) && decide (x.f0 < 25) && (word x.f0.toNat).all (fun l => okF l x) && mBlank (clrFs (word x.f0.toNat) x) && (!(x.f0 == 13) || mGranted x)
def encNote (x : Note) : List Int := encNum x.f0 ++ (word x.f0.toNat).flatMap (fun l => encF l x)
def dNote (xs : List Int) : Option Note := (dNum xs 0).bind fun p => if p.1 < 1 ∨ 25 ≤ p.1 then none else (dFs (word p.1.toNat) xs p.2 (zeroNote p.1)).bind fun r => if r.2 = xs.length then some r.1 else none
end Go.Proofs.YtmneemhplffemaaGreatDoorRR.Law
namespace Go.Proofs.YtmneemhplffemaaGreatDoorRR.Tab
open Go.RowKit Go.Proofs.YtmneemhplffemaaGreatDoorRR.Ext Go.Proofs.YtmneemhplffemaaGreatDoorRR.Mem Go.Proofs.YtmneemhplffemaaGreatDoorRR.Law Go.Proofs.YtmneemhplffemaaGreatDoorRR.Row Go.Proofs.YtmneemhplffemaaGreatDoorRR.Ki Go.Proofs.YtmneemhplffemaaGreatDoorRRW.PrintWords

theorem infoField : (Tryz.prog.info? 109).map (·.size) = some 6 := by kernel_rfl
def fCells : Ltr → List Value
 | .ln => [.int .i64 1, .func (.func 132) #[] #[], .nilFunc, .nilFunc, .nilFunc, .nilFunc]
 | .ls => [.int .i64 1, .func (.func 133) #[] #[], .nilFunc, .nilFunc, .nilFunc, .nilFunc]
 | .lc => [.int .i64 1, .func (.func 134) #[] #[], .nilFunc, .nilFunc, .nilFunc, .nilFunc]
 | .lr => [.int .i64 1, .func (.func 135) #[] #[], .nilFunc, .nilFunc, .nilFunc, .nilFunc]
 | .lt => [.int .i64 0, .func (.func 136) #[] #[], .nilFunc, .nilFunc, .nilFunc, .nilFunc]
 | .lf => [.int .i64 0, .func (.func 137) #[] #[], .nilFunc, .nilFunc, .nilFunc, .nilFunc]
 | .lm => [.int .i64 0, .func (.func 138) #[] #[], .nilFunc, .nilFunc, .nilFunc, .nilFunc]
 | .uW => [.int .i64 0, .nilFunc, .func (.func 170) #[] #[], .func (.func 171) #[] #[], .func (.func 172) #[] #[], .func (.func 140) #[] #[]]
 | .lw => [.int .i64 0, .nilFunc, .func (.func 170) #[] #[], .func (.func 171) #[] #[], .func (.func 172) #[] #[], .func (.func 143) #[] #[]]
 | .ld => [.int .i64 0, .nilFunc, .func (.func 170) #[] #[], .func (.func 171) #[] #[], .func (.func 172) #[] #[], .func (.func 144) #[] #[]]
 | .uD => [.int .i64 0, .nilFunc, .func (.func 170) #[] #[], .func (.func 171) #[] #[], .func (.func 172) #[] #[], .func (.func 146) #[] #[]]
 | .le => [.int .i64 0, .nilFunc, .func (.func 235) #[] #[], .func (.func 236) #[] #[], .func (.func 237) #[] #[], .func (.func 238) #[] #[]]
 | .lv => [.int .i64 0, .nilFunc, .func (.func 239) #[] #[], .func (.func 240) #[] #[], .func (.func 241) #[] #[], .func (.func 242) #[] #[]]
 | .ly => [.int .i64 0, .nilFunc, .func (.func 180) #[] #[], .func (.func 182) #[] #[], .func (.func 184) #[] #[], .func (.func 185) #[] #[]]
 | .la => [.int .i64 0, .nilFunc, .func (.func 187) #[] #[], .func (.func 188) #[] #[], .func (.func 189) #[] #[], .func (.func 190) #[] #[]]
 | .lo => [.int .i64 0, .nilFunc, .func (.func 191) #[] #[], .func (.func 192) #[] #[], .func (.func 193) #[] #[], .func (.func 194) #[] #[]]
 | .uE => [.int .i64 0, .nilFunc, .func (.func 195) #[] #[], .func (.func 197) #[] #[], .func (.func 199) #[] #[], .func (.func 200) #[] #[]]
 | .uI => [.int .i64 0, .nilFunc, .func (.func 202) #[] #[], .func (.func 205) #[] #[], .func (.func 208) #[] #[], .func (.func 209) #[] #[]]
 | .uP => [.int .i64 0, .nilFunc, .func (.func 211) #[] #[], .func (.func 214) #[] #[], .func (.func 217) #[] #[], .func (.func 218) #[] #[]]
set_option maxRecDepth 100000 in
theorem t_number (k : Int) (K : FuncId) (W : World) : Calls Tryz.prog 131 #[.int .i64 k, .func (.func K) #[] #[]] W fun e W' => e = .returned (.agg #[.int .i64 k, .func (.func K) #[] #[], .nilFunc, .nilFunc, .nilFunc, .nilFunc]) ∧ Below W.heap.size W W' := by
 go_enter Tryz.func131, Tryz.ntmps131
 go_wp2_with fail
 refine bodyPost_ret (results_c Tryz.results131 _ _ W.heap.size 109 #[.int .i64 k, .func (.func K) #[] #[], .nilFunc, .nilFunc, .nilFunc, .nilFunc] (0, 0) _ (by rfl) (blk_alloc _) Tryz.underlying109 rfl infoField) rfl ?_
 exact ⟨rfl, below_alloc (Below.refl _ _) _⟩
set_option maxRecDepth 100000 in
theorem t_watches (K : FuncId) (W : World) : Calls Tryz.prog 139 #[.func (.func K) #[] #[]] W fun e W' => e = .returned (.agg #[.int .i64 0, .nilFunc, .func (.func 170) #[] #[], .func (.func 171) #[] #[], .func (.func 172) #[] #[], .func (.func K) #[] #[]]) ∧ Below W.heap.size W W' := by
 go_enter Tryz.func139, Tryz.ntmps139
 go_wp2_with fail
 refine bodyPost_ret (results_c Tryz.results139 _ _ W.heap.size 109 #[.int .i64 0, .nilFunc, .func (.func 170) #[] #[], .func (.func 171) #[] #[], .func (.func 172) #[] #[], .func (.func K) #[] #[]] (0, 0) _ (by rfl) (blk_alloc _) Tryz.underlying109 rfl infoField) rfl ?_
 exact ⟨rfl, below_alloc (Below.refl _ _) _⟩
set_option maxRecDepth 100000 in
theorem t_code (W : World) : Calls Tryz.prog 178 #[] W fun e W' => e = .returned (.agg #[.int .i64 0, .nilFunc, .func (.func 235) #[] #[], .func (.func 236) #[] #[], .func (.func 237) #[] #[], .func (.func 238) #[] #[]]) ∧ Below W.heap.size W W' := by
 go_enter Tryz.func178, Tryz.ntmps178
 go_wp2_with fail
 refine bodyPost_ret (results_c Tryz.results178 _ _ W.heap.size 109 #[.int .i64 0, .nilFunc, .func (.func 235) #[] #[], .func (.func 236) #[] #[], .func (.func 237) #[] #[], .func (.func 238) #[] #[]] (0, 0) _ (by rfl) (blk_alloc _) Tryz.underlying109 rfl infoField) rfl ?_
 exact ⟨rfl, below_alloc (Below.refl _ _) _⟩
set_option maxRecDepth 100000 in
theorem t_view (W : World) : Calls Tryz.prog 179 #[] W fun e W' => e = .returned (.agg #[.int .i64 0, .nilFunc, .func (.func 239) #[] #[], .func (.func 240) #[] #[], .func (.func 241) #[] #[], .func (.func 242) #[] #[]]) ∧ Below W.heap.size W W' := by
 go_enter Tryz.func179, Tryz.ntmps179
 go_wp2_with fail
 refine bodyPost_ret (results_c Tryz.results179 _ _ W.heap.size 109 #[.int .i64 0, .nilFunc, .func (.func 239) #[] #[], .func (.func 240) #[] #[], .func (.func 241) #[] #[], .func (.func 242) #[] #[]] (0, 0) _ (by rfl) (blk_alloc _) Tryz.underlying109 rfl infoField) rfl ?_
 exact ⟨rfl, below_alloc (Below.refl _ _) _⟩
set_option maxRecDepth 100000 in
set_option maxHeartbeats 1000000 in
theorem t_larger_le (W : World) : Calls Tryz.prog 148 #[.int .u8 101] W fun e W' => e = .returned (.agg #[.int .i64 0, .nilFunc, .func (.func 235) #[] #[], .func (.func 236) #[] #[], .func (.func 237) #[] #[], .func (.func 238) #[] #[]]) ∧ Below W.heap.size W W' := by
 have HB := Aside0.mk (below_alloc (Below.refl W.heap.size W) (Obj.cells #[.int .i64 0, .nilFunc, .nilFunc, .nilFunc, .nilFunc, .nilFunc] 109 (0, 0)))
 have HBR := Aside0.mk (blk_alloc (W := W) (Obj.cells #[.int .i64 0, .nilFunc, .nilFunc, .nilFunc, .nilFunc, .nilFunc] 109 (0, 0)))
 go_enter Tryz.func148, Tryz.ntmps148
 go_wp2_with (go_at_call 178; (with_reducible refine (t_code _).mono ?_); rintro e w1 ⟨rfl, hb1⟩; replace HB := Aside0.mk (below_step HB.out hb1); replace HBR := Aside0.mk (blk_below hb1 HBR.out); have hcR := blk_cell HBR.out; have hfR := blk_frozen HBR.out; clear hb1)
 have HF := blk_set (blk_set (blk_set (blk_set (blk_set (blk_set HBR.out 0 (.int .i64 0)) 1 (.nilFunc)) 2 (.func (.func 235) #[] #[])) 3 (.func (.func 236) #[] #[])) 4 (.func (.func 237) #[] #[])) 5 (.func (.func 238) #[] #[])
 refine bodyPost_ret (results_c Tryz.results148 _ _ W.heap.size 109 #[.int .i64 0, .nilFunc, .func (.func 235) #[] #[], .func (.func 236) #[] #[], .func (.func 237) #[] #[], .func (.func 238) #[] #[]] (0, 0) _ (by rfl) (by simpa using HF) Tryz.underlying109 rfl infoField) rfl ?_
 have hmv := ((((((Moved.of_below HB.out (fun _ => False)).set_ (p := ⟨W.heap.size, 0, none⟩) (.inr (Nat.le_refl _)) (.int .i64 0)).set_ (p := ⟨W.heap.size, 1, none⟩) (.inr (Nat.le_refl _)) (.nilFunc)).set_ (p := ⟨W.heap.size, 2, none⟩) (.inr (Nat.le_refl _)) (.func (.func 235) #[] #[])).set_ (p := ⟨W.heap.size, 3, none⟩) (.inr (Nat.le_refl _)) (.func (.func 236) #[] #[])).set_ (p := ⟨W.heap.size, 4, none⟩) (.inr (Nat.le_refl _)) (.func (.func 237) #[] #[])).set_ (p := ⟨W.heap.size, 5, none⟩) (.inr (Nat.le_refl _)) (.func (.func 238) #[] #[])
 exact ⟨rfl, hmv.below (fun _ _ h => h)⟩
set_option maxRecDepth 100000 in
set_option maxHeartbeats 1000000 in
theorem t_larger_lv (W : World) : Calls Tryz.prog 148 #[.int .u8 118] W fun e W' => e = .returned (.agg #[.int .i64 0, .nilFunc, .func (.func 239) #[] #[], .func (.func 240) #[] #[], .func (.func 241) #[] #[], .func (.func 242) #[] #[]]) ∧ Below W.heap.size W W' := by
 have HB := Aside0.mk (below_alloc (Below.refl W.heap.size W) (Obj.cells #[.int .i64 0, .nilFunc, .nilFunc, .nilFunc, .nilFunc, .nilFunc] 109 (0, 0)))
 have HBR := Aside0.mk (blk_alloc (W := W) (Obj.cells #[.int .i64 0, .nilFunc, .nilFunc, .nilFunc, .nilFunc, .nilFunc] 109 (0, 0)))
 go_enter Tryz.func148, Tryz.ntmps148
 go_wp2_with (go_at_call 179; (with_reducible refine (t_view _).mono ?_); rintro e w1 ⟨rfl, hb1⟩; replace HB := Aside0.mk (below_step HB.out hb1); replace HBR := Aside0.mk (blk_below hb1 HBR.out); have hcR := blk_cell HBR.out; have hfR := blk_frozen HBR.out; clear hb1)
 have HF := blk_set (blk_set (blk_set (blk_set (blk_set (blk_set HBR.out 0 (.int .i64 0)) 1 (.nilFunc)) 2 (.func (.func 239) #[] #[])) 3 (.func (.func 240) #[] #[])) 4 (.func (.func 241) #[] #[])) 5 (.func (.func 242) #[] #[])
 refine bodyPost_ret (results_c Tryz.results148 _ _ W.heap.size 109 #[.int .i64 0, .nilFunc, .func (.func 239) #[] #[], .func (.func 240) #[] #[], .func (.func 241) #[] #[], .func (.func 242) #[] #[]] (0, 0) _ (by rfl) (by simpa using HF) Tryz.underlying109 rfl infoField) rfl ?_
 have hmv := ((((((Moved.of_below HB.out (fun _ => False)).set_ (p := ⟨W.heap.size, 0, none⟩) (.inr (Nat.le_refl _)) (.int .i64 0)).set_ (p := ⟨W.heap.size, 1, none⟩) (.inr (Nat.le_refl _)) (.nilFunc)).set_ (p := ⟨W.heap.size, 2, none⟩) (.inr (Nat.le_refl _)) (.func (.func 239) #[] #[])).set_ (p := ⟨W.heap.size, 3, none⟩) (.inr (Nat.le_refl _)) (.func (.func 240) #[] #[])).set_ (p := ⟨W.heap.size, 4, none⟩) (.inr (Nat.le_refl _)) (.func (.func 241) #[] #[])).set_ (p := ⟨W.heap.size, 5, none⟩) (.inr (Nat.le_refl _)) (.func (.func 242) #[] #[])
 exact ⟨rfl, hmv.below (fun _ _ h => h)⟩
set_option maxRecDepth 100000 in
set_option maxHeartbeats 1000000 in
theorem t_larger_ly (W : World) : Calls Tryz.prog 148 #[.int .u8 121] W fun e W' => e = .returned (.agg #[.int .i64 0, .nilFunc, .func (.func 180) #[] #[], .func (.func 182) #[] #[], .func (.func 184) #[] #[], .func (.func 185) #[] #[]]) ∧ Below W.heap.size W W' := by
 have HB := Aside0.mk (below_alloc (Below.refl W.heap.size W) (Obj.cells #[.int .i64 0, .nilFunc, .nilFunc, .nilFunc, .nilFunc, .nilFunc] 109 (0, 0)))
 have HBR := Aside0.mk (blk_alloc (W := W) (Obj.cells #[.int .i64 0, .nilFunc, .nilFunc, .nilFunc, .nilFunc, .nilFunc] 109 (0, 0)))
 go_enter Tryz.func148, Tryz.ntmps148
 go_wp2_with fail
 refine bodyPost_ret (results_c Tryz.results148 _ _ W.heap.size 109 #[.int .i64 0, .nilFunc, .func (.func 180) #[] #[], .func (.func 182) #[] #[], .func (.func 184) #[] #[], .func (.func 185) #[] #[]] (0, 0) _ (by rfl) (blk_alloc _) Tryz.underlying109 rfl infoField) rfl ?_
 exact ⟨rfl, below_alloc (Below.refl _ _) _⟩
set_option maxRecDepth 100000 in
set_option maxHeartbeats 1000000 in
theorem t_larger_la (W : World) : Calls Tryz.prog 148 #[.int .u8 97] W fun e W' => e = .returned (.agg #[.int .i64 0, .nilFunc, .func (.func 187) #[] #[], .func (.func 188) #[] #[], .func (.func 189) #[] #[], .func (.func 190) #[] #[]]) ∧ Below W.heap.size W W' := by
 have HB := Aside0.mk (below_alloc (Below.refl W.heap.size W) (Obj.cells #[.int .i64 0, .nilFunc, .nilFunc, .nilFunc, .nilFunc, .nilFunc] 109 (0, 0)))
 have HBR := Aside0.mk (blk_alloc (W := W) (Obj.cells #[.int .i64 0, .nilFunc, .nilFunc, .nilFunc, .nilFunc, .nilFunc] 109 (0, 0)))
 go_enter Tryz.func148, Tryz.ntmps148
 go_wp2_with fail
 refine bodyPost_ret (results_c Tryz.results148 _ _ W.heap.size 109 #[.int .i64 0, .nilFunc, .func (.func 187) #[] #[], .func (.func 188) #[] #[], .func (.func 189) #[] #[], .func (.func 190) #[] #[]] (0, 0) _ (by rfl) (blk_alloc _) Tryz.underlying109 rfl infoField) rfl ?_
 exact ⟨rfl, below_alloc (Below.refl _ _) _⟩
set_option maxRecDepth 100000 in
set_option maxHeartbeats 1000000 in
theorem t_larger_lo (W : World) : Calls Tryz.prog 148 #[.int .u8 111] W fun e W' => e = .returned (.agg #[.int .i64 0, .nilFunc, .func (.func 191) #[] #[], .func (.func 192) #[] #[], .func (.func 193) #[] #[], .func (.func 194) #[] #[]]) ∧ Below W.heap.size W W' := by
 have HB := Aside0.mk (below_alloc (Below.refl W.heap.size W) (Obj.cells #[.int .i64 0, .nilFunc, .nilFunc, .nilFunc, .nilFunc, .nilFunc] 109 (0, 0)))
 have HBR := Aside0.mk (blk_alloc (W := W) (Obj.cells #[.int .i64 0, .nilFunc, .nilFunc, .nilFunc, .nilFunc, .nilFunc] 109 (0, 0)))
 go_enter Tryz.func148, Tryz.ntmps148
 go_wp2_with fail
 refine bodyPost_ret (results_c Tryz.results148 _ _ W.heap.size 109 #[.int .i64 0, .nilFunc, .func (.func 191) #[] #[], .func (.func 192) #[] #[], .func (.func 193) #[] #[], .func (.func 194) #[] #[]] (0, 0) _ (by rfl) (blk_alloc _) Tryz.underlying109 rfl infoField) rfl ?_
 exact ⟨rfl, below_alloc (Below.refl _ _) _⟩
set_option maxRecDepth 100000 in
set_option maxHeartbeats 1000000 in
theorem t_larger_uE (W : World) : Calls Tryz.prog 148 #[.int .u8 69] W fun e W' => e = .returned (.agg #[.int .i64 0, .nilFunc, .func (.func 195) #[] #[], .func (.func 197) #[] #[], .func (.func 199) #[] #[], .func (.func 200) #[] #[]]) ∧ Below W.heap.size W W' := by
 have HB := Aside0.mk (below_alloc (Below.refl W.heap.size W) (Obj.cells #[.int .i64 0, .nilFunc, .nilFunc, .nilFunc, .nilFunc, .nilFunc] 109 (0, 0)))
 have HBR := Aside0.mk (blk_alloc (W := W) (Obj.cells #[.int .i64 0, .nilFunc, .nilFunc, .nilFunc, .nilFunc, .nilFunc] 109 (0, 0)))
 go_enter Tryz.func148, Tryz.ntmps148
 go_wp2_with fail
 refine bodyPost_ret (results_c Tryz.results148 _ _ W.heap.size 109 #[.int .i64 0, .nilFunc, .func (.func 195) #[] #[], .func (.func 197) #[] #[], .func (.func 199) #[] #[], .func (.func 200) #[] #[]] (0, 0) _ (by rfl) (blk_alloc _) Tryz.underlying109 rfl infoField) rfl ?_
 exact ⟨rfl, below_alloc (Below.refl _ _) _⟩
set_option maxRecDepth 100000 in
set_option maxHeartbeats 1000000 in
theorem t_larger_uI (W : World) : Calls Tryz.prog 148 #[.int .u8 73] W fun e W' => e = .returned (.agg #[.int .i64 0, .nilFunc, .func (.func 202) #[] #[], .func (.func 205) #[] #[], .func (.func 208) #[] #[], .func (.func 209) #[] #[]]) ∧ Below W.heap.size W W' := by
 have HB := Aside0.mk (below_alloc (Below.refl W.heap.size W) (Obj.cells #[.int .i64 0, .nilFunc, .nilFunc, .nilFunc, .nilFunc, .nilFunc] 109 (0, 0)))
 have HBR := Aside0.mk (blk_alloc (W := W) (Obj.cells #[.int .i64 0, .nilFunc, .nilFunc, .nilFunc, .nilFunc, .nilFunc] 109 (0, 0)))
 go_enter Tryz.func148, Tryz.ntmps148
 go_wp2_with fail
 refine bodyPost_ret (results_c Tryz.results148 _ _ W.heap.size 109 #[.int .i64 0, .nilFunc, .func (.func 202) #[] #[], .func (.func 205) #[] #[], .func (.func 208) #[] #[], .func (.func 209) #[] #[]] (0, 0) _ (by rfl) (blk_alloc _) Tryz.underlying109 rfl infoField) rfl ?_
 exact ⟨rfl, below_alloc (Below.refl _ _) _⟩
set_option maxRecDepth 100000 in
set_option maxHeartbeats 1000000 in
theorem t_larger_uP (W : World) : Calls Tryz.prog 148 #[.int .u8 80] W fun e W' => e = .returned (.agg #[.int .i64 0, .nilFunc, .func (.func 211) #[] #[], .func (.func 214) #[] #[], .func (.func 217) #[] #[], .func (.func 218) #[] #[]]) ∧ Below W.heap.size W W' := by
 have HB := Aside0.mk (below_alloc (Below.refl W.heap.size W) (Obj.cells #[.int .i64 0, .nilFunc, .nilFunc, .nilFunc, .nilFunc, .nilFunc] 109 (0, 0)))
 have HBR := Aside0.mk (blk_alloc (W := W) (Obj.cells #[.int .i64 0, .nilFunc, .nilFunc, .nilFunc, .nilFunc, .nilFunc] 109 (0, 0)))
 go_enter Tryz.func148, Tryz.ntmps148
 go_wp2_with fail
 refine bodyPost_ret (results_c Tryz.results148 _ _ W.heap.size 109 #[.int .i64 0, .nilFunc, .func (.func 211) #[] #[], .func (.func 214) #[] #[], .func (.func 217) #[] #[], .func (.func 218) #[] #[]] (0, 0) _ (by rfl) (blk_alloc _) Tryz.underlying109 rfl infoField) rfl ?_
 exact ⟨rfl, below_alloc (Below.refl _ _) _⟩
set_option maxRecDepth 100000 in
set_option maxHeartbeats 1000000 in
theorem t_field_ln (W : World) : Calls Tryz.prog 89 #[.int .u8 110] W fun e W' => e = .returned (.agg #[.int .i64 1, .func (.func 132) #[] #[], .nilFunc, .nilFunc, .nilFunc, .nilFunc]) ∧ Below W.heap.size W W' := by
 have HB := Aside0.mk (below_alloc (Below.refl W.heap.size W) (Obj.cells #[.int .i64 0, .nilFunc, .nilFunc, .nilFunc, .nilFunc, .nilFunc] 109 (0, 0)))
 have HBR := Aside0.mk (blk_alloc (W := W) (Obj.cells #[.int .i64 0, .nilFunc, .nilFunc, .nilFunc, .nilFunc, .nilFunc] 109 (0, 0)))
 go_enter Tryz.func89, Tryz.ntmps89
 go_wp2_with (go_at_call 131; (with_reducible refine (t_number _ _ _).mono ?_); rintro e w1 ⟨rfl, hb1⟩; replace HB := Aside0.mk (below_step HB.out hb1); replace HBR := Aside0.mk (blk_below hb1 HBR.out); have hcR := blk_cell HBR.out; have hfR := blk_frozen HBR.out; clear hb1)
 have HF := blk_set (blk_set (blk_set (blk_set (blk_set (blk_set HBR.out 0 (.int .i64 1)) 1 (.func (.func 132) #[] #[])) 2 (.nilFunc)) 3 (.nilFunc)) 4 (.nilFunc)) 5 (.nilFunc)
 refine bodyPost_ret (results_c Tryz.results89 _ _ W.heap.size 109 #[.int .i64 1, .func (.func 132) #[] #[], .nilFunc, .nilFunc, .nilFunc, .nilFunc] (0, 0) _ (by rfl) (by simpa using HF) Tryz.underlying109 rfl infoField) rfl ?_
 have hmv := ((((((Moved.of_below HB.out (fun _ => False)).set_ (p := ⟨W.heap.size, 0, none⟩) (.inr (Nat.le_refl _)) (.int .i64 1)).set_ (p := ⟨W.heap.size, 1, none⟩) (.inr (Nat.le_refl _)) (.func (.func 132) #[] #[])).set_ (p := ⟨W.heap.size, 2, none⟩) (.inr (Nat.le_refl _)) (.nilFunc)).set_ (p := ⟨W.heap.size, 3, none⟩) (.inr (Nat.le_refl _)) (.nilFunc)).set_ (p := ⟨W.heap.size, 4, none⟩) (.inr (Nat.le_refl _)) (.nilFunc)).set_ (p := ⟨W.heap.size, 5, none⟩) (.inr (Nat.le_refl _)) (.nilFunc)
 exact ⟨rfl, hmv.below (fun _ _ h => h)⟩
set_option maxRecDepth 100000 in
set_option maxHeartbeats 1000000 in
theorem t_field_ls (W : World) : Calls Tryz.prog 89 #[.int .u8 115] W fun e W' => e = .returned (.agg #[.int .i64 1, .func (.func 133) #[] #[], .nilFunc, .nilFunc, .nilFunc, .nilFunc]) ∧ Below W.heap.size W W' := by
 have HB := Aside0.mk (below_alloc (Below.refl W.heap.size W) (Obj.cells #[.int .i64 0, .nilFunc, .nilFunc, .nilFunc, .nilFunc, .nilFunc] 109 (0, 0)))
 have HBR := Aside0.mk (blk_alloc (W := W) (Obj.cells #[.int .i64 0, .nilFunc, .nilFunc, .nilFunc, .nilFunc, .nilFunc] 109 (0, 0)))
 go_enter Tryz.func89, Tryz.ntmps89
 go_wp2_with (go_at_call 131; (with_reducible refine (t_number _ _ _).mono ?_); rintro e w1 ⟨rfl, hb1⟩; replace HB := Aside0.mk (below_step HB.out hb1); replace HBR := Aside0.mk (blk_below hb1 HBR.out); have hcR := blk_cell HBR.out; have hfR := blk_frozen HBR.out; clear hb1)
 have HF := blk_set (blk_set (blk_set (blk_set (blk_set (blk_set HBR.out 0 (.int .i64 1)) 1 (.func (.func 133) #[] #[])) 2 (.nilFunc)) 3 (.nilFunc)) 4 (.nilFunc)) 5 (.nilFunc)
 refine bodyPost_ret (results_c Tryz.results89 _ _ W.heap.size 109 #[.int .i64 1, .func (.func 133) #[] #[], .nilFunc, .nilFunc, .nilFunc, .nilFunc] (0, 0) _ (by rfl) (by simpa using HF) Tryz.underlying109 rfl infoField) rfl ?_
 have hmv := ((((((Moved.of_below HB.out (fun _ => False)).set_ (p := ⟨W.heap.size, 0, none⟩) (.inr (Nat.le_refl _)) (.int .i64 1)).set_ (p := ⟨W.heap.size, 1, none⟩) (.inr (Nat.le_refl _)) (.func (.func 133) #[] #[])).set_ (p := ⟨W.heap.size, 2, none⟩) (.inr (Nat.le_refl _)) (.nilFunc)).set_ (p := ⟨W.heap.size, 3, none⟩) (.inr (Nat.le_refl _)) (.nilFunc)).set_ (p := ⟨W.heap.size, 4, none⟩) (.inr (Nat.le_refl _)) (.nilFunc)).set_ (p := ⟨W.heap.size, 5, none⟩) (.inr (Nat.le_refl _)) (.nilFunc)
 exact ⟨rfl, hmv.below (fun _ _ h => h)⟩
set_option maxRecDepth 100000 in
set_option maxHeartbeats 1000000 in
theorem t_field_lc (W : World) : Calls Tryz.prog 89 #[.int .u8 99] W fun e W' => e = .returned (.agg #[.int .i64 1, .func (.func 134) #[] #[], .nilFunc, .nilFunc, .nilFunc, .nilFunc]) ∧ Below W.heap.size W W' := by
 have HB := Aside0.mk (below_alloc (Below.refl W.heap.size W) (Obj.cells #[.int .i64 0, .nilFunc, .nilFunc, .nilFunc, .nilFunc, .nilFunc] 109 (0, 0)))
 have HBR := Aside0.mk (blk_alloc (W := W) (Obj.cells #[.int .i64 0, .nilFunc, .nilFunc, .nilFunc, .nilFunc, .nilFunc] 109 (0, 0)))
 go_enter Tryz.func89, Tryz.ntmps89
 go_wp2_with (go_at_call 131; (with_reducible refine (t_number _ _ _).mono ?_); rintro e w1 ⟨rfl, hb1⟩; replace HB := Aside0.mk (below_step HB.out hb1); replace HBR := Aside0.mk (blk_below hb1 HBR.out); have hcR := blk_cell HBR.out; have hfR := blk_frozen HBR.out; clear hb1)
 have HF := blk_set (blk_set (blk_set (blk_set (blk_set (blk_set HBR.out 0 (.int .i64 1)) 1 (.func (.func 134) #[] #[])) 2 (.nilFunc)) 3 (.nilFunc)) 4 (.nilFunc)) 5 (.nilFunc)
 refine bodyPost_ret (results_c Tryz.results89 _ _ W.heap.size 109 #[.int .i64 1, .func (.func 134) #[] #[], .nilFunc, .nilFunc, .nilFunc, .nilFunc] (0, 0) _ (by rfl) (by simpa using HF) Tryz.underlying109 rfl infoField) rfl ?_
 have hmv := ((((((Moved.of_below HB.out (fun _ => False)).set_ (p := ⟨W.heap.size, 0, none⟩) (.inr (Nat.le_refl _)) (.int .i64 1)).set_ (p := ⟨W.heap.size, 1, none⟩) (.inr (Nat.le_refl _)) (.func (.func 134) #[] #[])).set_ (p := ⟨W.heap.size, 2, none⟩) (.inr (Nat.le_refl _)) (.nilFunc)).set_ (p := ⟨W.heap.size, 3, none⟩) (.inr (Nat.le_refl _)) (.nilFunc)).set_ (p := ⟨W.heap.size, 4, none⟩) (.inr (Nat.le_refl _)) (.nilFunc)).set_ (p := ⟨W.heap.size, 5, none⟩) (.inr (Nat.le_refl _)) (.nilFunc)
 exact ⟨rfl, hmv.below (fun _ _ h => h)⟩
set_option maxRecDepth 100000 in
set_option maxHeartbeats 1000000 in
theorem t_field_lr (W : World) : Calls Tryz.prog 89 #[.int .u8 114] W fun e W' => e = .returned (.agg #[.int .i64 1, .func (.func 135) #[] #[], .nilFunc, .nilFunc, .nilFunc, .nilFunc]) ∧ Below W.heap.size W W' := by
 have HB := Aside0.mk (below_alloc (Below.refl W.heap.size W) (Obj.cells #[.int .i64 0, .nilFunc, .nilFunc, .nilFunc, .nilFunc, .nilFunc] 109 (0, 0)))
 have HBR := Aside0.mk (blk_alloc (W := W) (Obj.cells #[.int .i64 0, .nilFunc, .nilFunc, .nilFunc, .nilFunc, .nilFunc] 109 (0, 0)))
 go_enter Tryz.func89, Tryz.ntmps89
 go_wp2_with (go_at_call 131; (with_reducible refine (t_number _ _ _).mono ?_); rintro e w1 ⟨rfl, hb1⟩; replace HB := Aside0.mk (below_step HB.out hb1); replace HBR := Aside0.mk (blk_below hb1 HBR.out); have hcR := blk_cell HBR.out; have hfR := blk_frozen HBR.out; clear hb1)
 have HF := blk_set (blk_set (blk_set (blk_set (blk_set (blk_set HBR.out 0 (.int .i64 1)) 1 (.func (.func 135) #[] #[])) 2 (.nilFunc)) 3 (.nilFunc)) 4 (.nilFunc)) 5 (.nilFunc)
 refine bodyPost_ret (results_c Tryz.results89 _ _ W.heap.size 109 #[.int .i64 1, .func (.func 135) #[] #[], .nilFunc, .nilFunc, .nilFunc, .nilFunc] (0, 0) _ (by rfl) (by simpa using HF) Tryz.underlying109 rfl infoField) rfl ?_
 have hmv := ((((((Moved.of_below HB.out (fun _ => False)).set_ (p := ⟨W.heap.size, 0, none⟩) (.inr (Nat.le_refl _)) (.int .i64 1)).set_ (p := ⟨W.heap.size, 1, none⟩) (.inr (Nat.le_refl _)) (.func (.func 135) #[] #[])).set_ (p := ⟨W.heap.size, 2, none⟩) (.inr (Nat.le_refl _)) (.nilFunc)).set_ (p := ⟨W.heap.size, 3, none⟩) (.inr (Nat.le_refl _)) (.nilFunc)).set_ (p := ⟨W.heap.size, 4, none⟩) (.inr (Nat.le_refl _)) (.nilFunc)).set_ (p := ⟨W.heap.size, 5, none⟩) (.inr (Nat.le_refl _)) (.nilFunc)
 exact ⟨rfl, hmv.below (fun _ _ h => h)⟩
set_option maxRecDepth 100000 in
set_option maxHeartbeats 1000000 in
theorem t_field_lt (W : World) : Calls Tryz.prog 89 #[.int .u8 116] W fun e W' => e = .returned (.agg #[.int .i64 0, .func (.func 136) #[] #[], .nilFunc, .nilFunc, .nilFunc, .nilFunc]) ∧ Below W.heap.size W W' := by
 have HB := Aside0.mk (below_alloc (Below.refl W.heap.size W) (Obj.cells #[.int .i64 0, .nilFunc, .nilFunc, .nilFunc, .nilFunc, .nilFunc] 109 (0, 0)))
 have HBR := Aside0.mk (blk_alloc (W := W) (Obj.cells #[.int .i64 0, .nilFunc, .nilFunc, .nilFunc, .nilFunc, .nilFunc] 109 (0, 0)))
 go_enter Tryz.func89, Tryz.ntmps89
 go_wp2_with (go_at_call 131; (with_reducible refine (t_number _ _ _).mono ?_); rintro e w1 ⟨rfl, hb1⟩; replace HB := Aside0.mk (below_step HB.out hb1); replace HBR := Aside0.mk (blk_below hb1 HBR.out); have hcR := blk_cell HBR.out; have hfR := blk_frozen HBR.out; clear hb1)
 have HF := blk_set (blk_set (blk_set (blk_set (blk_set (blk_set HBR.out 0 (.int .i64 0)) 1 (.func (.func 136) #[] #[])) 2 (.nilFunc)) 3 (.nilFunc)) 4 (.nilFunc)) 5 (.nilFunc)
 refine bodyPost_ret (results_c Tryz.results89 _ _ W.heap.size 109 #[.int .i64 0, .func (.func 136) #[] #[], .nilFunc, .nilFunc, .nilFunc, .nilFunc] (0, 0) _ (by rfl) (by simpa using HF) Tryz.underlying109 rfl infoField) rfl ?_
 have hmv := ((((((Moved.of_below HB.out (fun _ => False)).set_ (p := ⟨W.heap.size, 0, none⟩) (.inr (Nat.le_refl _)) (.int .i64 0)).set_ (p := ⟨W.heap.size, 1, none⟩) (.inr (Nat.le_refl _)) (.func (.func 136) #[] #[])).set_ (p := ⟨W.heap.size, 2, none⟩) (.inr (Nat.le_refl _)) (.nilFunc)).set_ (p := ⟨W.heap.size, 3, none⟩) (.inr (Nat.le_refl _)) (.nilFunc)).set_ (p := ⟨W.heap.size, 4, none⟩) (.inr (Nat.le_refl _)) (.nilFunc)).set_ (p := ⟨W.heap.size, 5, none⟩) (.inr (Nat.le_refl _)) (.nilFunc)
 exact ⟨rfl, hmv.below (fun _ _ h => h)⟩
set_option maxRecDepth 100000 in
set_option maxHeartbeats 1000000 in
theorem t_field_lf (W : World) : Calls Tryz.prog 89 #[.int .u8 102] W fun e W' => e = .returned (.agg #[.int .i64 0, .func (.func 137) #[] #[], .nilFunc, .nilFunc, .nilFunc, .nilFunc]) ∧ Below W.heap.size W W' := by
 have HB := Aside0.mk (below_alloc (Below.refl W.heap.size W) (Obj.cells #[.int .i64 0, .nilFunc, .nilFunc, .nilFunc, .nilFunc, .nilFunc] 109 (0, 0)))
 have HBR := Aside0.mk (blk_alloc (W := W) (Obj.cells #[.int .i64 0, .nilFunc, .nilFunc, .nilFunc, .nilFunc, .nilFunc] 109 (0, 0)))
 go_enter Tryz.func89, Tryz.ntmps89
 go_wp2_with (go_at_call 131; (with_reducible refine (t_number _ _ _).mono ?_); rintro e w1 ⟨rfl, hb1⟩; replace HB := Aside0.mk (below_step HB.out hb1); replace HBR := Aside0.mk (blk_below hb1 HBR.out); have hcR := blk_cell HBR.out; have hfR := blk_frozen HBR.out; clear hb1)
 have HF := blk_set (blk_set (blk_set (blk_set (blk_set (blk_set HBR.out 0 (.int .i64 0)) 1 (.func (.func 137) #[] #[])) 2 (.nilFunc)) 3 (.nilFunc)) 4 (.nilFunc)) 5 (.nilFunc)
 refine bodyPost_ret (results_c Tryz.results89 _ _ W.heap.size 109 #[.int .i64 0, .func (.func 137) #[] #[], .nilFunc, .nilFunc, .nilFunc, .nilFunc] (0, 0) _ (by rfl) (by simpa using HF) Tryz.underlying109 rfl infoField) rfl ?_
 have hmv := ((((((Moved.of_below HB.out (fun _ => False)).set_ (p := ⟨W.heap.size, 0, none⟩) (.inr (Nat.le_refl _)) (.int .i64 0)).set_ (p := ⟨W.heap.size, 1, none⟩) (.inr (Nat.le_refl _)) (.func (.func 137) #[] #[])).set_ (p := ⟨W.heap.size, 2, none⟩) (.inr (Nat.le_refl _)) (.nilFunc)).set_ (p := ⟨W.heap.size, 3, none⟩) (.inr (Nat.le_refl _)) (.nilFunc)).set_ (p := ⟨W.heap.size, 4, none⟩) (.inr (Nat.le_refl _)) (.nilFunc)).set_ (p := ⟨W.heap.size, 5, none⟩) (.inr (Nat.le_refl _)) (.nilFunc)
 exact ⟨rfl, hmv.below (fun _ _ h => h)⟩
set_option maxRecDepth 100000 in
set_option maxHeartbeats 1000000 in
theorem t_field_lm (W : World) : Calls Tryz.prog 89 #[.int .u8 109] W fun e W' => e = .returned (.agg #[.int .i64 0, .func (.func 138) #[] #[], .nilFunc, .nilFunc, .nilFunc, .nilFunc]) ∧ Below W.heap.size W W' := by
 have HB := Aside0.mk (below_alloc (Below.refl W.heap.size W) (Obj.cells #[.int .i64 0, .nilFunc, .nilFunc, .nilFunc, .nilFunc, .nilFunc] 109 (0, 0)))
 have HBR := Aside0.mk (blk_alloc (W := W) (Obj.cells #[.int .i64 0, .nilFunc, .nilFunc, .nilFunc, .nilFunc, .nilFunc] 109 (0, 0)))
 go_enter Tryz.func89, Tryz.ntmps89
 go_wp2_with (go_at_call 131; (with_reducible refine (t_number _ _ _).mono ?_); rintro e w1 ⟨rfl, hb1⟩; replace HB := Aside0.mk (below_step HB.out hb1); replace HBR := Aside0.mk (blk_below hb1 HBR.out); have hcR := blk_cell HBR.out; have hfR := blk_frozen HBR.out; clear hb1)
 have HF := blk_set (blk_set (blk_set (blk_set (blk_set (blk_set HBR.out 0 (.int .i64 0)) 1 (.func (.func 138) #[] #[])) 2 (.nilFunc)) 3 (.nilFunc)) 4 (.nilFunc)) 5 (.nilFunc)
 refine bodyPost_ret (results_c Tryz.results89 _ _ W.heap.size 109 #[.int .i64 0, .func (.func 138) #[] #[], .nilFunc, .nilFunc, .nilFunc, .nilFunc] (0, 0) _ (by rfl) (by simpa using HF) Tryz.underlying109 rfl infoField) rfl ?_
 have hmv := ((((((Moved.of_below HB.out (fun _ => False)).set_ (p := ⟨W.heap.size, 0, none⟩) (.inr (Nat.le_refl _)) (.int .i64 0)).set_ (p := ⟨W.heap.size, 1, none⟩) (.inr (Nat.le_refl _)) (.func (.func 138) #[] #[])).set_ (p := ⟨W.heap.size, 2, none⟩) (.inr (Nat.le_refl _)) (.nilFunc)).set_ (p := ⟨W.heap.size, 3, none⟩) (.inr (Nat.le_refl _)) (.nilFunc)).set_ (p := ⟨W.heap.size, 4, none⟩) (.inr (Nat.le_refl _)) (.nilFunc)).set_ (p := ⟨W.heap.size, 5, none⟩) (.inr (Nat.le_refl _)) (.nilFunc)
 exact ⟨rfl, hmv.below (fun _ _ h => h)⟩
set_option maxRecDepth 100000 in
set_option maxHeartbeats 1000000 in
theorem t_field_uW (W : World) : Calls Tryz.prog 89 #[.int .u8 87] W fun e W' => e = .returned (.agg #[.int .i64 0, .nilFunc, .func (.func 170) #[] #[], .func (.func 171) #[] #[], .func (.func 172) #[] #[], .func (.func 140) #[] #[]]) ∧ Below W.heap.size W W' := by
 have HB := Aside0.mk (below_alloc (Below.refl W.heap.size W) (Obj.cells #[.int .i64 0, .nilFunc, .nilFunc, .nilFunc, .nilFunc, .nilFunc] 109 (0, 0)))
 have HBR := Aside0.mk (blk_alloc (W := W) (Obj.cells #[.int .i64 0, .nilFunc, .nilFunc, .nilFunc, .nilFunc, .nilFunc] 109 (0, 0)))
 go_enter Tryz.func89, Tryz.ntmps89
 go_wp2_with (go_at_call 139; (with_reducible refine (t_watches _ _).mono ?_); rintro e w1 ⟨rfl, hb1⟩; replace HB := Aside0.mk (below_step HB.out hb1); replace HBR := Aside0.mk (blk_below hb1 HBR.out); have hcR := blk_cell HBR.out; have hfR := blk_frozen HBR.out; clear hb1)
 have HF := blk_set (blk_set (blk_set (blk_set (blk_set (blk_set HBR.out 0 (.int .i64 0)) 1 (.nilFunc)) 2 (.func (.func 170) #[] #[])) 3 (.func (.func 171) #[] #[])) 4 (.func (.func 172) #[] #[])) 5 (.func (.func 140) #[] #[])
 refine bodyPost_ret (results_c Tryz.results89 _ _ W.heap.size 109 #[.int .i64 0, .nilFunc, .func (.func 170) #[] #[], .func (.func 171) #[] #[], .func (.func 172) #[] #[], .func (.func 140) #[] #[]] (0, 0) _ (by rfl) (by simpa using HF) Tryz.underlying109 rfl infoField) rfl ?_
 have hmv := ((((((Moved.of_below HB.out (fun _ => False)).set_ (p := ⟨W.heap.size, 0, none⟩) (.inr (Nat.le_refl _)) (.int .i64 0)).set_ (p := ⟨W.heap.size, 1, none⟩) (.inr (Nat.le_refl _)) (.nilFunc)).set_ (p := ⟨W.heap.size, 2, none⟩) (.inr (Nat.le_refl _)) (.func (.func 170) #[] #[])).set_ (p := ⟨W.heap.size, 3, none⟩) (.inr (Nat.le_refl _)) (.func (.func 171) #[] #[])).set_ (p := ⟨W.heap.size, 4, none⟩) (.inr (Nat.le_refl _)) (.func (.func 172) #[] #[])).set_ (p := ⟨W.heap.size, 5, none⟩) (.inr (Nat.le_refl _)) (.func (.func 140) #[] #[])
 exact ⟨rfl, hmv.below (fun _ _ h => h)⟩
set_option maxRecDepth 100000 in
set_option maxHeartbeats 1000000 in
theorem t_field_lw (W : World) : Calls Tryz.prog 89 #[.int .u8 119] W fun e W' => e = .returned (.agg #[.int .i64 0, .nilFunc, .func (.func 170) #[] #[], .func (.func 171) #[] #[], .func (.func 172) #[] #[], .func (.func 143) #[] #[]]) ∧ Below W.heap.size W W' := by
 have HB := Aside0.mk (below_alloc (Below.refl W.heap.size W) (Obj.cells #[.int .i64 0, .nilFunc, .nilFunc, .nilFunc, .nilFunc, .nilFunc] 109 (0, 0)))
 have HBR := Aside0.mk (blk_alloc (W := W) (Obj.cells #[.int .i64 0, .nilFunc, .nilFunc, .nilFunc, .nilFunc, .nilFunc] 109 (0, 0)))
 go_enter Tryz.func89, Tryz.ntmps89
 go_wp2_with (go_at_call 139; (with_reducible refine (t_watches _ _).mono ?_); rintro e w1 ⟨rfl, hb1⟩; replace HB := Aside0.mk (below_step HB.out hb1); replace HBR := Aside0.mk (blk_below hb1 HBR.out); have hcR := blk_cell HBR.out; have hfR := blk_frozen HBR.out; clear hb1)
 have HF := blk_set (blk_set (blk_set (blk_set (blk_set (blk_set HBR.out 0 (.int .i64 0)) 1 (.nilFunc)) 2 (.func (.func 170) #[] #[])) 3 (.func (.func 171) #[] #[])) 4 (.func (.func 172) #[] #[])) 5 (.func (.func 143) #[] #[])
 refine bodyPost_ret (results_c Tryz.results89 _ _ W.heap.size 109 #[.int .i64 0, .nilFunc, .func (.func 170) #[] #[], .func (.func 171) #[] #[], .func (.func 172) #[] #[], .func (.func 143) #[] #[]] (0, 0) _ (by rfl) (by simpa using HF) Tryz.underlying109 rfl infoField) rfl ?_
 have hmv := ((((((Moved.of_below HB.out (fun _ => False)).set_ (p := ⟨W.heap.size, 0, none⟩) (.inr (Nat.le_refl _)) (.int .i64 0)).set_ (p := ⟨W.heap.size, 1, none⟩) (.inr (Nat.le_refl _)) (.nilFunc)).set_ (p := ⟨W.heap.size, 2, none⟩) (.inr (Nat.le_refl _)) (.func (.func 170) #[] #[])).set_ (p := ⟨W.heap.size, 3, none⟩) (.inr (Nat.le_refl _)) (.func (.func 171) #[] #[])).set_ (p := ⟨W.heap.size, 4, none⟩) (.inr (Nat.le_refl _)) (.func (.func 172) #[] #[])).set_ (p := ⟨W.heap.size, 5, none⟩) (.inr (Nat.le_refl _)) (.func (.func 143) #[] #[])
 exact ⟨rfl, hmv.below (fun _ _ h => h)⟩
set_option maxRecDepth 100000 in
set_option maxHeartbeats 1000000 in
theorem t_field_ld (W : World) : Calls Tryz.prog 89 #[.int .u8 100] W fun e W' => e = .returned (.agg #[.int .i64 0, .nilFunc, .func (.func 170) #[] #[], .func (.func 171) #[] #[], .func (.func 172) #[] #[], .func (.func 144) #[] #[]]) ∧ Below W.heap.size W W' := by
 have HB := Aside0.mk (below_alloc (Below.refl W.heap.size W) (Obj.cells #[.int .i64 0, .nilFunc, .nilFunc, .nilFunc, .nilFunc, .nilFunc] 109 (0, 0)))
 have HBR := Aside0.mk (blk_alloc (W := W) (Obj.cells #[.int .i64 0, .nilFunc, .nilFunc, .nilFunc, .nilFunc, .nilFunc] 109 (0, 0)))
 go_enter Tryz.func89, Tryz.ntmps89
 go_wp2_with (go_at_call 139; (with_reducible refine (t_watches _ _).mono ?_); rintro e w1 ⟨rfl, hb1⟩; replace HB := Aside0.mk (below_step HB.out hb1); replace HBR := Aside0.mk (blk_below hb1 HBR.out); have hcR := blk_cell HBR.out; have hfR := blk_frozen HBR.out; clear hb1)
 have HF := blk_set (blk_set (blk_set (blk_set (blk_set (blk_set HBR.out 0 (.int .i64 0)) 1 (.nilFunc)) 2 (.func (.func 170) #[] #[])) 3 (.func (.func 171) #[] #[])) 4 (.func (.func 172) #[] #[])) 5 (.func (.func 144) #[] #[])
 refine bodyPost_ret (results_c Tryz.results89 _ _ W.heap.size 109 #[.int .i64 0, .nilFunc, .func (.func 170) #[] #[], .func (.func 171) #[] #[], .func (.func 172) #[] #[], .func (.func 144) #[] #[]] (0, 0) _ (by rfl) (by simpa using HF) Tryz.underlying109 rfl infoField) rfl ?_
 have hmv := ((((((Moved.of_below HB.out (fun _ => False)).set_ (p := ⟨W.heap.size, 0, none⟩) (.inr (Nat.le_refl _)) (.int .i64 0)).set_ (p := ⟨W.heap.size, 1, none⟩) (.inr (Nat.le_refl _)) (.nilFunc)).set_ (p := ⟨W.heap.size, 2, none⟩) (.inr (Nat.le_refl _)) (.func (.func 170) #[] #[])).set_ (p := ⟨W.heap.size, 3, none⟩) (.inr (Nat.le_refl _)) (.func (.func 171) #[] #[])).set_ (p := ⟨W.heap.size, 4, none⟩) (.inr (Nat.le_refl _)) (.func (.func 172) #[] #[])).set_ (p := ⟨W.heap.size, 5, none⟩) (.inr (Nat.le_refl _)) (.func (.func 144) #[] #[])
 exact ⟨rfl, hmv.below (fun _ _ h => h)⟩
set_option maxRecDepth 100000 in
set_option maxHeartbeats 1000000 in
theorem t_field_uD (W : World) : Calls Tryz.prog 89 #[.int .u8 68] W fun e W' => e = .returned (.agg #[.int .i64 0, .nilFunc, .func (.func 170) #[] #[], .func (.func 171) #[] #[], .func (.func 172) #[] #[], .func (.func 146) #[] #[]]) ∧ Below W.heap.size W W' := by
 have HB := Aside0.mk (below_alloc (Below.refl W.heap.size W) (Obj.cells #[.int .i64 0, .nilFunc, .nilFunc, .nilFunc, .nilFunc, .nilFunc] 109 (0, 0)))
 have HBR := Aside0.mk (blk_alloc (W := W) (Obj.cells #[.int .i64 0, .nilFunc, .nilFunc, .nilFunc, .nilFunc, .nilFunc] 109 (0, 0)))
 go_enter Tryz.func89, Tryz.ntmps89
 go_wp2_with (go_at_call 139; (with_reducible refine (t_watches _ _).mono ?_); rintro e w1 ⟨rfl, hb1⟩; replace HB := Aside0.mk (below_step HB.out hb1); replace HBR := Aside0.mk (blk_below hb1 HBR.out); have hcR := blk_cell HBR.out; have hfR := blk_frozen HBR.out; clear hb1)
 have HF := blk_set (blk_set (blk_set (blk_set (blk_set (blk_set HBR.out 0 (.int .i64 0)) 1 (.nilFunc)) 2 (.func (.func 170) #[] #[])) 3 (.func (.func 171) #[] #[])) 4 (.func (.func 172) #[] #[])) 5 (.func (.func 146) #[] #[])
 refine bodyPost_ret (results_c Tryz.results89 _ _ W.heap.size 109 #[.int .i64 0, .nilFunc, .func (.func 170) #[] #[], .func (.func 171) #[] #[], .func (.func 172) #[] #[], .func (.func 146) #[] #[]] (0, 0) _ (by rfl) (by simpa using HF) Tryz.underlying109 rfl infoField) rfl ?_
 have hmv := ((((((Moved.of_below HB.out (fun _ => False)).set_ (p := ⟨W.heap.size, 0, none⟩) (.inr (Nat.le_refl _)) (.int .i64 0)).set_ (p := ⟨W.heap.size, 1, none⟩) (.inr (Nat.le_refl _)) (.nilFunc)).set_ (p := ⟨W.heap.size, 2, none⟩) (.inr (Nat.le_refl _)) (.func (.func 170) #[] #[])).set_ (p := ⟨W.heap.size, 3, none⟩) (.inr (Nat.le_refl _)) (.func (.func 171) #[] #[])).set_ (p := ⟨W.heap.size, 4, none⟩) (.inr (Nat.le_refl _)) (.func (.func 172) #[] #[])).set_ (p := ⟨W.heap.size, 5, none⟩) (.inr (Nat.le_refl _)) (.func (.func 146) #[] #[])
 exact ⟨rfl, hmv.below (fun _ _ h => h)⟩
set_option maxRecDepth 100000 in
set_option maxHeartbeats 1000000 in
theorem t_field_le (W : World) : Calls Tryz.prog 89 #[.int .u8 101] W fun e W' => e = .returned (.agg #[.int .i64 0, .nilFunc, .func (.func 235) #[] #[], .func (.func 236) #[] #[], .func (.func 237) #[] #[], .func (.func 238) #[] #[]]) ∧ Below W.heap.size W W' := by
 have HB := Aside0.mk (below_alloc (Below.refl W.heap.size W) (Obj.cells #[.int .i64 0, .nilFunc, .nilFunc, .nilFunc, .nilFunc, .nilFunc] 109 (0, 0)))
 have HBR := Aside0.mk (blk_alloc (W := W) (Obj.cells #[.int .i64 0, .nilFunc, .nilFunc, .nilFunc, .nilFunc, .nilFunc] 109 (0, 0)))
 go_enter Tryz.func89, Tryz.ntmps89
 go_wp2_with (go_at_call 148; (with_reducible refine (t_larger_le _).mono ?_); rintro e w1 ⟨rfl, hb1⟩; replace HB := Aside0.mk (below_step HB.out hb1); replace HBR := Aside0.mk (blk_below hb1 HBR.out); have hcR := blk_cell HBR.out; have hfR := blk_frozen HBR.out; clear hb1)
 have HF := blk_set (blk_set (blk_set (blk_set (blk_set (blk_set HBR.out 0 (.int .i64 0)) 1 (.nilFunc)) 2 (.func (.func 235) #[] #[])) 3 (.func (.func 236) #[] #[])) 4 (.func (.func 237) #[] #[])) 5 (.func (.func 238) #[] #[])
 refine bodyPost_ret (results_c Tryz.results89 _ _ W.heap.size 109 #[.int .i64 0, .nilFunc, .func (.func 235) #[] #[], .func (.func 236) #[] #[], .func (.func 237) #[] #[], .func (.func 238) #[] #[]] (0, 0) _ (by rfl) (by simpa using HF) Tryz.underlying109 rfl infoField) rfl ?_
 have hmv := ((((((Moved.of_below HB.out (fun _ => False)).set_ (p := ⟨W.heap.size, 0, none⟩) (.inr (Nat.le_refl _)) (.int .i64 0)).set_ (p := ⟨W.heap.size, 1, none⟩) (.inr (Nat.le_refl _)) (.nilFunc)).set_ (p := ⟨W.heap.size, 2, none⟩) (.inr (Nat.le_refl _)) (.func (.func 235) #[] #[])).set_ (p := ⟨W.heap.size, 3, none⟩) (.inr (Nat.le_refl _)) (.func (.func 236) #[] #[])).set_ (p := ⟨W.heap.size, 4, none⟩) (.inr (Nat.le_refl _)) (.func (.func 237) #[] #[])).set_ (p := ⟨W.heap.size, 5, none⟩) (.inr (Nat.le_refl _)) (.func (.func 238) #[] #[])
 exact ⟨rfl, hmv.below (fun _ _ h => h)⟩
set_option maxRecDepth 100000 in
set_option maxHeartbeats 1000000 in
theorem t_field_lv (W : World) : Calls Tryz.prog 89 #[.int .u8 118] W fun e W' => e = .returned (.agg #[.int .i64 0, .nilFunc, .func (.func 239) #[] #[], .func (.func 240) #[] #[], .func (.func 241) #[] #[], .func (.func 242) #[] #[]]) ∧ Below W.heap.size W W' := by
 have HB := Aside0.mk (below_alloc (Below.refl W.heap.size W) (Obj.cells #[.int .i64 0, .nilFunc, .nilFunc, .nilFunc, .nilFunc, .nilFunc] 109 (0, 0)))
 have HBR := Aside0.mk (blk_alloc (W := W) (Obj.cells #[.int .i64 0, .nilFunc, .nilFunc, .nilFunc, .nilFunc, .nilFunc] 109 (0, 0)))
 go_enter Tryz.func89, Tryz.ntmps89
 go_wp2_with (go_at_call 148; (with_reducible refine (t_larger_lv _).mono ?_); rintro e w1 ⟨rfl, hb1⟩; replace HB := Aside0.mk (below_step HB.out hb1); replace HBR := Aside0.mk (blk_below hb1 HBR.out); have hcR := blk_cell HBR.out; have hfR := blk_frozen HBR.out; clear hb1)
 have HF := blk_set (blk_set (blk_set (blk_set (blk_set (blk_set HBR.out 0 (.int .i64 0)) 1 (.nilFunc)) 2 (.func (.func 239) #[] #[])) 3 (.func (.func 240) #[] #[])) 4 (.func (.func 241) #[] #[])) 5 (.func (.func 242) #[] #[])
 refine bodyPost_ret (results_c Tryz.results89 _ _ W.heap.size 109 #[.int .i64 0, .nilFunc, .func (.func 239) #[] #[], .func (.func 240) #[] #[], .func (.func 241) #[] #[], .func (.func 242) #[] #[]] (0, 0) _ (by rfl) (by simpa using HF) Tryz.underlying109 rfl infoField) rfl ?_
 have hmv := ((((((Moved.of_below HB.out (fun _ => False)).set_ (p := ⟨W.heap.size, 0, none⟩) (.inr (Nat.le_refl _)) (.int .i64 0)).set_ (p := ⟨W.heap.size, 1, none⟩) (.inr (Nat.le_refl _)) (.nilFunc)).set_ (p := ⟨W.heap.size, 2, none⟩) (.inr (Nat.le_refl _)) (.func (.func 239) #[] #[])).set_ (p := ⟨W.heap.size, 3, none⟩) (.inr (Nat.le_refl _)) (.func (.func 240) #[] #[])).set_ (p := ⟨W.heap.size, 4, none⟩) (.inr (Nat.le_refl _)) (.func (.func 241) #[] #[])).set_ (p := ⟨W.heap.size, 5, none⟩) (.inr (Nat.le_refl _)) (.func (.func 242) #[] #[])
 exact ⟨rfl, hmv.below (fun _ _ h => h)⟩
set_option maxRecDepth 100000 in
set_option maxHeartbeats 1000000 in
theorem t_field_ly (W : World) : Calls Tryz.prog 89 #[.int .u8 121] W fun e W' => e = .returned (.agg #[.int .i64 0, .nilFunc, .func (.func 180) #[] #[], .func (.func 182) #[] #[], .func (.func 184) #[] #[], .func (.func 185) #[] #[]]) ∧ Below W.heap.size W W' := by
 have HB := Aside0.mk (below_alloc (Below.refl W.heap.size W) (Obj.cells #[.int .i64 0, .nilFunc, .nilFunc, .nilFunc, .nilFunc, .nilFunc] 109 (0, 0)))
 have HBR := Aside0.mk (blk_alloc (W := W) (Obj.cells #[.int .i64 0, .nilFunc, .nilFunc, .nilFunc, .nilFunc, .nilFunc] 109 (0, 0)))
 go_enter Tryz.func89, Tryz.ntmps89
 go_wp2_with (go_at_call 148; (with_reducible refine (t_larger_ly _).mono ?_); rintro e w1 ⟨rfl, hb1⟩; replace HB := Aside0.mk (below_step HB.out hb1); replace HBR := Aside0.mk (blk_below hb1 HBR.out); have hcR := blk_cell HBR.out; have hfR := blk_frozen HBR.out; clear hb1)
 have HF := blk_set (blk_set (blk_set (blk_set (blk_set (blk_set HBR.out 0 (.int .i64 0)) 1 (.nilFunc)) 2 (.func (.func 180) #[] #[])) 3 (.func (.func 182) #[] #[])) 4 (.func (.func 184) #[] #[])) 5 (.func (.func 185) #[] #[])
 refine bodyPost_ret (results_c Tryz.results89 _ _ W.heap.size 109 #[.int .i64 0, .nilFunc, .func (.func 180) #[] #[], .func (.func 182) #[] #[], .func (.func 184) #[] #[], .func (.func 185) #[] #[]] (0, 0) _ (by rfl) (by simpa using HF) Tryz.underlying109 rfl infoField) rfl ?_
 have hmv := ((((((Moved.of_below HB.out (fun _ => False)).set_ (p := ⟨W.heap.size, 0, none⟩) (.inr (Nat.le_refl _)) (.int .i64 0)).set_ (p := ⟨W.heap.size, 1, none⟩) (.inr (Nat.le_refl _)) (.nilFunc)).set_ (p := ⟨W.heap.size, 2, none⟩) (.inr (Nat.le_refl _)) (.func (.func 180) #[] #[])).set_ (p := ⟨W.heap.size, 3, none⟩) (.inr (Nat.le_refl _)) (.func (.func 182) #[] #[])).set_ (p := ⟨W.heap.size, 4, none⟩) (.inr (Nat.le_refl _)) (.func (.func 184) #[] #[])).set_ (p := ⟨W.heap.size, 5, none⟩) (.inr (Nat.le_refl _)) (.func (.func 185) #[] #[])
 exact ⟨rfl, hmv.below (fun _ _ h => h)⟩
set_option maxRecDepth 100000 in
set_option maxHeartbeats 1000000 in
theorem t_field_la (W : World) : Calls Tryz.prog 89 #[.int .u8 97] W fun e W' => e = .returned (.agg #[.int .i64 0, .nilFunc, .func (.func 187) #[] #[], .func (.func 188) #[] #[], .func (.func 189) #[] #[], .func (.func 190) #[] #[]]) ∧ Below W.heap.size W W' := by
 have HB := Aside0.mk (below_alloc (Below.refl W.heap.size W) (Obj.cells #[.int .i64 0, .nilFunc, .nilFunc, .nilFunc, .nilFunc, .nilFunc] 109 (0, 0)))
 have HBR := Aside0.mk (blk_alloc (W := W) (Obj.cells #[.int .i64 0, .nilFunc, .nilFunc, .nilFunc, .nilFunc, .nilFunc] 109 (0, 0)))
 go_enter Tryz.func89, Tryz.ntmps89
 go_wp2_with (go_at_call 148; (with_reducible refine (t_larger_la _).mono ?_); rintro e w1 ⟨rfl, hb1⟩; replace HB := Aside0.mk (below_step HB.out hb1); replace HBR := Aside0.mk (blk_below hb1 HBR.out); have hcR := blk_cell HBR.out; have hfR := blk_frozen HBR.out; clear hb1)
 have HF := blk_set (blk_set (blk_set (blk_set (blk_set (blk_set HBR.out 0 (.int .i64 0)) 1 (.nilFunc)) 2 (.func (.func 187) #[] #[])) 3 (.func (.func 188) #[] #[])) 4 (.func (.func 189) #[] #[])) 5 (.func (.func 190) #[] #[])
 refine bodyPost_ret (results_c Tryz.results89 _ _ W.heap.size 109 #[.int .i64 0, .nilFunc, .func (.func 187) #[] #[], .func (.func 188) #[] #[], .func (.func 189) #[] #[], .func (.func 190) #[] #[]] (0, 0) _ (by rfl) (by simpa using HF) Tryz.underlying109 rfl infoField) rfl ?_
 have hmv := ((((((Moved.of_below HB.out (fun _ => False)).set_ (p := ⟨W.heap.size, 0, none⟩) (.inr (Nat.le_refl _)) (.int .i64 0)).set_ (p := ⟨W.heap.size, 1, none⟩) (.inr (Nat.le_refl _)) (.nilFunc)).set_ (p := ⟨W.heap.size, 2, none⟩) (.inr (Nat.le_refl _)) (.func (.func 187) #[] #[])).set_ (p := ⟨W.heap.size, 3, none⟩) (.inr (Nat.le_refl _)) (.func (.func 188) #[] #[])).set_ (p := ⟨W.heap.size, 4, none⟩) (.inr (Nat.le_refl _)) (.func (.func 189) #[] #[])).set_ (p := ⟨W.heap.size, 5, none⟩) (.inr (Nat.le_refl _)) (.func (.func 190) #[] #[])
 exact ⟨rfl, hmv.below (fun _ _ h => h)⟩
set_option maxRecDepth 100000 in
set_option maxHeartbeats 1000000 in
theorem t_field_lo (W : World) : Calls Tryz.prog 89 #[.int .u8 111] W fun e W' => e = .returned (.agg #[.int .i64 0, .nilFunc, .func (.func 191) #[] #[], .func (.func 192) #[] #[], .func (.func 193) #[] #[], .func (.func 194) #[] #[]]) ∧ Below W.heap.size W W' := by
 have HB := Aside0.mk (below_alloc (Below.refl W.heap.size W) (Obj.cells #[.int .i64 0, .nilFunc, .nilFunc, .nilFunc, .nilFunc, .nilFunc] 109 (0, 0)))
 have HBR := Aside0.mk (blk_alloc (W := W) (Obj.cells #[.int .i64 0, .nilFunc, .nilFunc, .nilFunc, .nilFunc, .nilFunc] 109 (0, 0)))
 go_enter Tryz.func89, Tryz.ntmps89
 go_wp2_with (go_at_call 148; (with_reducible refine (t_larger_lo _).mono ?_); rintro e w1 ⟨rfl, hb1⟩; replace HB := Aside0.mk (below_step HB.out hb1); replace HBR := Aside0.mk (blk_below hb1 HBR.out); have hcR := blk_cell HBR.out; have hfR := blk_frozen HBR.out; clear hb1)
 have HF := blk_set (blk_set (blk_set (blk_set (blk_set (blk_set HBR.out 0 (.int .i64 0)) 1 (.nilFunc)) 2 (.func (.func 191) #[] #[])) 3 (.func (.func 192) #[] #[])) 4 (.func (.func 193) #[] #[])) 5 (.func (.func 194) #[] #[])
 refine bodyPost_ret (results_c Tryz.results89 _ _ W.heap.size 109 #[.int .i64 0, .nilFunc, .func (.func 191) #[] #[], .func (.func 192) #[] #[], .func (.func 193) #[] #[], .func (.func 194) #[] #[]] (0, 0) _ (by rfl) (by simpa using HF) Tryz.underlying109 rfl infoField) rfl ?_
 have hmv := ((((((Moved.of_below HB.out (fun _ => False)).set_ (p := ⟨W.heap.size, 0, none⟩) (.inr (Nat.le_refl _)) (.int .i64 0)).set_ (p := ⟨W.heap.size, 1, none⟩) (.inr (Nat.le_refl _)) (.nilFunc)).set_ (p := ⟨W.heap.size, 2, none⟩) (.inr (Nat.le_refl _)) (.func (.func 191) #[] #[])).set_ (p := ⟨W.heap.size, 3, none⟩) (.inr (Nat.le_refl _)) (.func (.func 192) #[] #[])).set_ (p := ⟨W.heap.size, 4, none⟩) (.inr (Nat.le_refl _)) (.func (.func 193) #[] #[])).set_ (p := ⟨W.heap.size, 5, none⟩) (.inr (Nat.le_refl _)) (.func (.func 194) #[] #[])
 exact ⟨rfl, hmv.below (fun _ _ h => h)⟩
set_option maxRecDepth 100000 in
set_option maxHeartbeats 1000000 in
theorem t_field_uE (W : World) : Calls Tryz.prog 89 #[.int .u8 69] W fun e W' => e = .returned (.agg #[.int .i64 0, .nilFunc, .func (.func 195) #[] #[], .func (.func 197) #[] #[], .func (.func 199) #[] #[], .func (.func 200) #[] #[]]) ∧ Below W.heap.size W W' := by
 have HB := Aside0.mk (below_alloc (Below.refl W.heap.size W) (Obj.cells #[.int .i64 0, .nilFunc, .nilFunc, .nilFunc, .nilFunc, .nilFunc] 109 (0, 0)))
 have HBR := Aside0.mk (blk_alloc (W := W) (Obj.cells #[.int .i64 0, .nilFunc, .nilFunc, .nilFunc, .nilFunc, .nilFunc] 109 (0, 0)))
 go_enter Tryz.func89, Tryz.ntmps89
 go_wp2_with (go_at_call 148; (with_reducible refine (t_larger_uE _).mono ?_); rintro e w1 ⟨rfl, hb1⟩; replace HB := Aside0.mk (below_step HB.out hb1); replace HBR := Aside0.mk (blk_below hb1 HBR.out); have hcR := blk_cell HBR.out; have hfR := blk_frozen HBR.out; clear hb1)
 have HF := blk_set (blk_set (blk_set (blk_set (blk_set (blk_set HBR.out 0 (.int .i64 0)) 1 (.nilFunc)) 2 (.func (.func 195) #[] #[])) 3 (.func (.func 197) #[] #[])) 4 (.func (.func 199) #[] #[])) 5 (.func (.func 200) #[] #[])
 refine bodyPost_ret (results_c Tryz.results89 _ _ W.heap.size 109 #[.int .i64 0, .nilFunc, .func (.func 195) #[] #[], .func (.func 197) #[] #[], .func (.func 199) #[] #[], .func (.func 200) #[] #[]] (0, 0) _ (by rfl) (by simpa using HF) Tryz.underlying109 rfl infoField) rfl ?_
 have hmv := ((((((Moved.of_below HB.out (fun _ => False)).set_ (p := ⟨W.heap.size, 0, none⟩) (.inr (Nat.le_refl _)) (.int .i64 0)).set_ (p := ⟨W.heap.size, 1, none⟩) (.inr (Nat.le_refl _)) (.nilFunc)).set_ (p := ⟨W.heap.size, 2, none⟩) (.inr (Nat.le_refl _)) (.func (.func 195) #[] #[])).set_ (p := ⟨W.heap.size, 3, none⟩) (.inr (Nat.le_refl _)) (.func (.func 197) #[] #[])).set_ (p := ⟨W.heap.size, 4, none⟩) (.inr (Nat.le_refl _)) (.func (.func 199) #[] #[])).set_ (p := ⟨W.heap.size, 5, none⟩) (.inr (Nat.le_refl _)) (.func (.func 200) #[] #[])
 exact ⟨rfl, hmv.below (fun _ _ h => h)⟩
set_option maxRecDepth 100000 in
set_option maxHeartbeats 1000000 in
theorem t_field_uI (W : World) : Calls Tryz.prog 89 #[.int .u8 73] W fun e W' => e = .returned (.agg #[.int .i64 0, .nilFunc, .func (.func 202) #[] #[], .func (.func 205) #[] #[], .func (.func 208) #[] #[], .func (.func 209) #[] #[]]) ∧ Below W.heap.size W W' := by
 have HB := Aside0.mk (below_alloc (Below.refl W.heap.size W) (Obj.cells #[.int .i64 0, .nilFunc, .nilFunc, .nilFunc, .nilFunc, .nilFunc] 109 (0, 0)))
 have HBR := Aside0.mk (blk_alloc (W := W) (Obj.cells #[.int .i64 0, .nilFunc, .nilFunc, .nilFunc, .nilFunc, .nilFunc] 109 (0, 0)))
 go_enter Tryz.func89, Tryz.ntmps89
 go_wp2_with (go_at_call 148; (with_reducible refine (t_larger_uI _).mono ?_); rintro e w1 ⟨rfl, hb1⟩; replace HB := Aside0.mk (below_step HB.out hb1); replace HBR := Aside0.mk (blk_below hb1 HBR.out); have hcR := blk_cell HBR.out; have hfR := blk_frozen HBR.out; clear hb1)
 have HF := blk_set (blk_set (blk_set (blk_set (blk_set (blk_set HBR.out 0 (.int .i64 0)) 1 (.nilFunc)) 2 (.func (.func 202) #[] #[])) 3 (.func (.func 205) #[] #[])) 4 (.func (.func 208) #[] #[])) 5 (.func (.func 209) #[] #[])
 refine bodyPost_ret (results_c Tryz.results89 _ _ W.heap.size 109 #[.int .i64 0, .nilFunc, .func (.func 202) #[] #[], .func (.func 205) #[] #[], .func (.func 208) #[] #[], .func (.func 209) #[] #[]] (0, 0) _ (by rfl) (by simpa using HF) Tryz.underlying109 rfl infoField) rfl ?_
 have hmv := ((((((Moved.of_below HB.out (fun _ => False)).set_ (p := ⟨W.heap.size, 0, none⟩) (.inr (Nat.le_refl _)) (.int .i64 0)).set_ (p := ⟨W.heap.size, 1, none⟩) (.inr (Nat.le_refl _)) (.nilFunc)).set_ (p := ⟨W.heap.size, 2, none⟩) (.inr (Nat.le_refl _)) (.func (.func 202) #[] #[])).set_ (p := ⟨W.heap.size, 3, none⟩) (.inr (Nat.le_refl _)) (.func (.func 205) #[] #[])).set_ (p := ⟨W.heap.size, 4, none⟩) (.inr (Nat.le_refl _)) (.func (.func 208) #[] #[])).set_ (p := ⟨W.heap.size, 5, none⟩) (.inr (Nat.le_refl _)) (.func (.func 209) #[] #[])
 exact ⟨rfl, hmv.below (fun _ _ h => h)⟩
set_option maxRecDepth 100000 in
set_option maxHeartbeats 1000000 in
theorem t_field_uP (W : World) : Calls Tryz.prog 89 #[.int .u8 80] W fun e W' => e = .returned (.agg #[.int .i64 0, .nilFunc, .func (.func 211) #[] #[], .func (.func 214) #[] #[], .func (.func 217) #[] #[], .func (.func 218) #[] #[]]) ∧ Below W.heap.size W W' := by
 have HB := Aside0.mk (below_alloc (Below.refl W.heap.size W) (Obj.cells #[.int .i64 0, .nilFunc, .nilFunc, .nilFunc, .nilFunc, .nilFunc] 109 (0, 0)))
 have HBR := Aside0.mk (blk_alloc (W := W) (Obj.cells #[.int .i64 0, .nilFunc, .nilFunc, .nilFunc, .nilFunc, .nilFunc] 109 (0, 0)))
 go_enter Tryz.func89, Tryz.ntmps89
 go_wp2_with (go_at_call 148; (with_reducible refine (t_larger_uP _).mono ?_); rintro e w1 ⟨rfl, hb1⟩; replace HB := Aside0.mk (below_step HB.out hb1); replace HBR := Aside0.mk (blk_below hb1 HBR.out); have hcR := blk_cell HBR.out; have hfR := blk_frozen HBR.out; clear hb1)
 have HF := blk_set (blk_set (blk_set (blk_set (blk_set (blk_set HBR.out 0 (.int .i64 0)) 1 (.nilFunc)) 2 (.func (.func 211) #[] #[])) 3 (.func (.func 214) #[] #[])) 4 (.func (.func 217) #[] #[])) 5 (.func (.func 218) #[] #[])
 refine bodyPost_ret (results_c Tryz.results89 _ _ W.heap.size 109 #[.int .i64 0, .nilFunc, .func (.func 211) #[] #[], .func (.func 214) #[] #[], .func (.func 217) #[] #[], .func (.func 218) #[] #[]] (0, 0) _ (by rfl) (by simpa using HF) Tryz.underlying109 rfl infoField) rfl ?_
 have hmv := ((((((Moved.of_below HB.out (fun _ => False)).set_ (p := ⟨W.heap.size, 0, none⟩) (.inr (Nat.le_refl _)) (.int .i64 0)).set_ (p := ⟨W.heap.size, 1, none⟩) (.inr (Nat.le_refl _)) (.nilFunc)).set_ (p := ⟨W.heap.size, 2, none⟩) (.inr (Nat.le_refl _)) (.func (.func 211) #[] #[])).set_ (p := ⟨W.heap.size, 3, none⟩) (.inr (Nat.le_refl _)) (.func (.func 214) #[] #[])).set_ (p := ⟨W.heap.size, 4, none⟩) (.inr (Nat.le_refl _)) (.func (.func 217) #[] #[])).set_ (p := ⟨W.heap.size, 5, none⟩) (.inr (Nat.le_refl _)) (.func (.func 218) #[] #[])
 exact ⟨rfl, hmv.below (fun _ _ h => h)⟩
theorem t_field (l : Ltr) (W : World) : Calls Tryz.prog 89 #[.int .u8 l.code] W fun e W' => e = .returned (.agg (fCells l).toArray) ∧ Below W.heap.size W W' := by
 cases l
 · exact t_field_ln W
 · exact t_field_ls W
 · exact t_field_lc W
 · exact t_field_lr W
 · exact t_field_lt W
 · exact t_field_lf W
 · exact t_field_lm W
 · exact t_field_uW W
 · exact t_field_lw W
 · exact t_field_ld W
 · exact t_field_uD W
 · exact t_field_le W
 · exact t_field_lv W
 · exact t_field_ly W
 · exact t_field_la W
 · exact t_field_lo W
 · exact t_field_uE W
 · exact t_field_uI W
 · exact t_field_uP W
end Go.Proofs.YtmneemhplffemaaGreatDoorRR.Tab
namespace Go.Proofs.YtmneemhplffemaaGreatDoorRR.Tab
open Go.RowKit Go.Proofs.YtmneemhplffemaaGreatDoorRR.Ext Go.Proofs.YtmneemhplffemaaGreatDoorRR.Mem Go.Proofs.YtmneemhplffemaaGreatDoorRR.Law Go.Proofs.YtmneemhplffemaaGreatDoorRR.Row Go.Proofs.YtmneemhplffemaaGreatDoorRR.Ki Go.Proofs.YtmneemhplffemaaGreatDoorRR.Chk Go.Proofs.YtmneemhplffemaaGreatDoorRR.Put Go.Proofs.YtmneemhplffemaaGreatDoorRR.Get Go.Proofs.YtmneemhplffemaaGreatDoorRRW.PrintWords


abbrev F6 (k : Int) (KF : FuncId) : Array Value := #[.int .i64 k, .func (.func KF) #[] #[], .nilFunc, .nilFunc, .nilFunc, .nilFunc]
def Enters (KF : FuncId) : Prop := ∀ (args : Array Value) (w : World), (callFunc KF args).run Tryz.prog w = .ok (.enter KF args) w
def NumAt (KF : FuncId) (i : Nat) : Prop := ∀ (g : Nat) (W : World), Calls Tryz.prog KF #[.pointer (some ⟨g, 0, none⟩)] W fun e W' => e = .returned (.pointer (some ⟨g, i, none⟩)) ∧ W' = W
theorem c_num1d (w0 : World) (g : Nat) (hg : g = w0.heap.size) (a : Int) (r : Bool) (h : (okNum a) = r) : Calls Tryz.prog 91 #[.slice (some ⟨g, 0, none⟩) 1 1] (w0.alloc (Obj.cells #[.int .i64 a] 3 (0, 0))).drew fun e w' => e = .returned (.bool r) ∧ Below w0.heap.size w0 w' := by
 subst hg
 have hb : Below (w0.alloc (Obj.cells #[.int .i64 a] 3 (0, 0))).heap.size (w0.alloc (Obj.cells #[.int .i64 a] 3 (0, 0))) (w0.alloc (Obj.cells #[.int .i64 a] 3 (0, 0))).drew := pw_below_drewN (Below.refl _ _) 1
 have hC := Kd.C_below (ints_new w0 [a] (by simp)) hb
 exact (note_numbers.calls _ _ [a] r _ hC (Nat.le_refl _) (by unfold note_numbers.f; rw [← h]; simp)).mono (fun e w' hq => ⟨hq.1, below_step (below_step (below_alloc (Below.refl _ _) _) hb) hq.2⟩)
set_option maxRecDepth 100000 in
set_option maxHeartbeats 8000000 in
theorem right_num (KF : FuncId) (i : Nat) (hK : Enters KF) (hN : NumAt KF i) (least v : Int) (W : World) (g : Nat) (hc : W.cell? ⟨g, i, none⟩ = some (.int .i64 v)) (b : Bool) (h : (okNum v && decide (least ≤ v)) = b) :
   Calls Tryz.prog 42 #[.agg (F6 least KF), .pointer (some ⟨g, 0, none⟩)] W fun e W' => e = .returned (.bool b) ∧ Below W.heap.size W W' := by
 subst h
 have hne : ∀ w : World, (binOp BinOp.neq 104 (.func (.func KF) #[] #[]) .nilFunc).run Tryz.prog w = .ok (.bool true) w := fun _ => rfl
 have HW := Aside0.mk (below_alloc (Below.refl W.heap.size W) (Obj.cells (F6 least KF) 109 (0, 0)))
 have hc0 := pw_cell_below HW.out hc
 have HBR := Aside0.mk (blk_alloc (W := W) (Obj.cells (F6 least KF) 109 (0, 0)))
 have hcR := blk_cell HBR.out
 have hcK : (W.alloc (Obj.cells (F6 least KF) 109 (0, 0))).cell? ⟨W.heap.size, 1, none⟩ = some (.func (.func KF) #[] #[]) := hcR 1
 have hcL : (W.alloc (Obj.cells (F6 least KF) 109 (0, 0))).cell? ⟨W.heap.size, 0, none⟩ = some (.int .i64 least) := hcR 0
 have HN := Aside0.mk (show ∀ (g : Nat) (W : World), Calls Tryz.prog KF #[.pointer (some ⟨g, 0, none⟩)] W fun e W' => e = .returned (.pointer (some ⟨g, i, none⟩)) ∧ W' = W from hN)
 have hK2 : ∀ (args : Array Value) (w : World), (callFunc KF args).run Tryz.prog w = .ok (.enter KF args) w := hK
 have HA1 := Aside0.mk (show (W.alloc (Obj.cells (F6 least KF) 109 (0, 0))).drew.cell? ⟨g, i, none⟩ = some (.int .i64 v) ∧ (W.alloc (Obj.cells (F6 least KF) 109 (0, 0))).drew.cell? ⟨W.heap.size, 1, none⟩ = some (.func (.func KF) #[] #[]) ∧ (W.alloc (Obj.cells (F6 least KF) 109 (0, 0))).drew.cell? ⟨W.heap.size, 0, none⟩ = some (.int .i64 least) ∧ Below W.heap.size W (W.alloc (Obj.cells (F6 least KF) 109 (0, 0))).drew from ⟨hc0, hcK, hcL, HW.out.drew⟩)
 have HA2 := Aside0.mk (show ((W.alloc (Obj.cells (F6 least KF) 109 (0, 0))).alloc (Obj.cells #[.int .i64 v] 3 (0, 0))).drew.cell? ⟨g, i, none⟩ = some (.int .i64 v) ∧ ((W.alloc (Obj.cells (F6 least KF) 109 (0, 0))).alloc (Obj.cells #[.int .i64 v] 3 (0, 0))).drew.cell? ⟨W.heap.size, 1, none⟩ = some (.func (.func KF) #[] #[]) ∧ ((W.alloc (Obj.cells (F6 least KF) 109 (0, 0))).alloc (Obj.cells #[.int .i64 v] 3 (0, 0))).drew.cell? ⟨W.heap.size, 0, none⟩ = some (.int .i64 least) ∧ Below W.heap.size W ((W.alloc (Obj.cells (F6 least KF) 109 (0, 0))).alloc (Obj.cells #[.int .i64 v] 3 (0, 0))).drew from ⟨pw_cell_below (below_alloc (Below.refl _ _) _) hc0, pw_cell_below (below_alloc (Below.refl _ _) _) hcK, pw_cell_below (below_alloc (Below.refl _ _) _) hcL, (below_alloc HW.out _).drew⟩)
 have hge : decide (v ≥ least) = decide (least ≤ v) := rfl
 clear hc hN hcR hK
 go_enter Tryz.func42, Tryz.ntmps42
 cases h1 : okNum v with
 | true =>
   go_wp2_with fail
   refine wp_region_held_drew (S := fun W' => W'.cell? ⟨g, i, none⟩ = some (.int .i64 v) ∧ W'.cell? ⟨W.heap.size, 1, none⟩ = some (.func (.func KF) #[] #[]) ∧ W'.cell? ⟨W.heap.size, 0, none⟩ = some (.int .i64 least) ∧ Below W.heap.size W W') (by kernel_rfl) ?_ (fun hHeld => ?_)
   · (with_reducible first | exact ⟨hc0, hcK, hcL, HW.out⟩ | exact HA1.out | exact HA2.out)
   refine wpAnyH_take (i := 0) (oi := { dst := some 8, op := Go.Op.fieldAddr 109 (Go.Operand.tmp 2) 1, type := 0, pos := "table.go:45", after := #[], guard := none }) (v := ?_) rfl (by kernel_rfl) (by kernel_rfl) (by kernel_rfl) (fun _ _ _ h => h) (Or.inl ⟨by rfl, ?_⟩) (by assumption) ?_
   rotate_left
   · (intro w hSw; (try dsimp only at hSw); go_simp; try with_reducible rfl)
   try simp only [Act.put, List.setIfInBounds_toArray, List.set_cons_zero, List.set_cons_succ]
   refine wpAnyH_take (i := 1) (oi := { dst := some 9, op := Go.Op.load 104 (Go.Operand.tmp 8), type := 104, pos := "table.go:45", after := #[{ on := 0, ground := Go.Ground.data }], guard := none }) (v := ?_) rfl (by kernel_rfl) (by kernel_rfl) (by kernel_rfl) (fun _ _ _ h => h) (Or.inl ⟨by rfl, ?_⟩) (by assumption) ?_
   rotate_left
   · (intro w hSw; (try dsimp only at hSw); go_simp; try with_reducible rfl)
   try simp only [Act.put, List.setIfInBounds_toArray, List.set_cons_zero, List.set_cons_succ]
   refine wpAnyH_take (i := 2) (oi := { dst := some 10, op := Go.Op.move (Go.Operand.tmp 1), type := 110, pos := "table.go:45", after := #[], guard := none }) (v := ?_) rfl (by kernel_rfl) (by kernel_rfl) (by kernel_rfl) (fun _ _ _ h => h) (Or.inl ⟨by rfl, ?_⟩) (by assumption) ?_
   rotate_left
   · (intro w hSw; (try dsimp only at hSw); go_simp; try with_reducible rfl)
   try simp only [Act.put, List.setIfInBounds_toArray, List.set_cons_zero, List.set_cons_succ]
   refine wpAnyH_ready (rs := [3]) (by kernel_rfl) (by simp) ?_
   refine AllReadyH.cons (o := { dst := some 11, op := Go.Op.call { callee := Go.Callee.value (Go.Operand.tmp 9), args := #[Go.Operand.tmp 10], argTypes := #[110] }, type := 161, pos := "table.go:45", after := #[{ on := 1, ground := Go.Ground.data }, { on := 2, ground := Go.Ground.data }], guard := none }) rfl (fun K hK => ?_) ?_
   rotate_left
   · exact AllReadyH.nil
   go_simp
   (first | (go_at_call 91; (with_reducible refine (c_num1d _ _ (by first | rfl | simp) _ _ h1).mono ?_); rintro e w1 ⟨rfl, hb1⟩; replace HW := Aside0.mk (below_step HW.out hb1); replace hc0 := pw_cell_below hb1 hc0; replace hcK := pw_cell_below hb1 hcK; replace hcL := pw_cell_below hb1 hcL) | ((with_reducible refine (HN.out _ _).mono ?_); rintro e w1 ⟨rfl, rfl⟩))
   refine hK.out _ _ ?_ (fun hHeld => ?_)
   · (with_reducible first | exact ⟨hc0, hcK, hcL, HW.out⟩ | exact HA1.out | exact HA2.out)
   clear hK K
   try simp only [Act.put, List.setIfInBounds_toArray, List.set_cons_zero, List.set_cons_succ]
   refine wpAnyH_take (i := 4) (oi := { dst := some 12, op := Go.Op.nilCheck (Go.Operand.tmp 11), type := 0, pos := "table.go:45", after := #[{ on := 3, ground := Go.Ground.data }], guard := none }) (v := ?_) rfl (by kernel_rfl) (by kernel_rfl) (by kernel_rfl) (fun _ _ _ h => h) (Or.inl ⟨by rfl, ?_⟩) (by assumption) ?_
   rotate_left
   · (intro w hSw; (try dsimp only at hSw); go_simp; try with_reducible rfl)
   try simp only [Act.put, List.setIfInBounds_toArray, List.set_cons_zero, List.set_cons_succ]
   refine wpAnyH_take (i := 5) (oi := { dst := some 13, op := Go.Op.load 3 (Go.Operand.tmp 12), type := 3, pos := "table.go:45", after := #[{ on := 4, ground := Go.Ground.data }], guard := none }) (v := ?_) rfl (by kernel_rfl) (by kernel_rfl) (by kernel_rfl) (fun _ _ _ h => h) (Or.inl ⟨by rfl, ?_⟩) (by assumption) ?_
   rotate_left
   · (intro w hSw; (try dsimp only at hSw); go_simp; try with_reducible rfl)
   try simp only [Act.put, List.setIfInBounds_toArray, List.set_cons_zero, List.set_cons_succ]
   refine wpAnyH_ready (rs := [6]) (by kernel_rfl) (by simp) ?_
   refine AllReadyH.cons (o := { dst := some 14, op := Go.Op.buildSlice 146 1 #[(0, Go.Operand.tmp 13)], type := 146, pos := "table.go:45", after := #[{ on := 5, ground := Go.Ground.data }], guard := none }) rfl (fun K hK => ?_) ?_
   rotate_left
   · exact AllReadyH.nil
   go_simp
   skip
   refine hK.out _ _ ?_ (fun hHeld => ?_)
   · (with_reducible first | exact ⟨hc0, hcK, hcL, HW.out⟩ | exact HA1.out | exact HA2.out)
   clear hK K
   try simp only [Act.put, List.setIfInBounds_toArray, List.set_cons_zero, List.set_cons_succ]
   refine wpAnyH_ready (rs := [7]) (by kernel_rfl) (by simp) ?_
   refine AllReadyH.cons (o := { dst := some 15, op := Go.Op.call { callee := Go.Callee.value (Go.Operand.func 91), args := #[Go.Operand.tmp 14], argTypes := #[146] }, type := 4, pos := "table.go:45", after := #[{ on := 6, ground := Go.Ground.data }, { on := 3, ground := Go.Ground.chain }], guard := none }) rfl (fun K hK => ?_) ?_
   rotate_left
   · exact AllReadyH.nil
   go_simp
   (first | (go_at_call 91; (with_reducible refine (c_num1d _ _ (by first | rfl | simp) _ _ h1).mono ?_); rintro e w1 ⟨rfl, hb1⟩; replace HW := Aside0.mk (below_step HW.out hb1); replace hc0 := pw_cell_below hb1 hc0; replace hcK := pw_cell_below hb1 hcK; replace hcL := pw_cell_below hb1 hcL) | ((with_reducible refine (HN.out _ _).mono ?_); rintro e w1 ⟨rfl, rfl⟩))
   refine hK.out _ _ ?_ (fun hHeld => ?_)
   · (with_reducible first | exact ⟨hc0, hcK, hcL, HW.out⟩ | exact HA1.out | exact HA2.out)
   clear hK K
   try simp only [Act.put, List.setIfInBounds_toArray, List.set_cons_zero, List.set_cons_succ]
   refine wpAnyH_take (i := 8) (oi := { dst := some 16, op := Go.Op.move (Go.Operand.tmp 15), type := 4, pos := "table.go:45", after := #[{ on := 7, ground := Go.Ground.data }, { on := 7, ground := Go.Ground.chain }], guard := none }) (v := ?_) rfl (by kernel_rfl) (by kernel_rfl) (by kernel_rfl) (fun _ _ _ h => h) (Or.inl ⟨by rfl, ?_⟩) (by assumption) ?_
   rotate_left
   · (intro w hSw; (try dsimp only at hSw); go_simp; try with_reducible rfl)
   try simp only [Act.put, List.setIfInBounds_toArray, List.set_cons_zero, List.set_cons_succ]
   refine wpAnyH_take (i := 9) (oi := { dst := some 17, op := Go.Op.fieldAddr 109 (Go.Operand.tmp 2) 1, type := 0, pos := "table.go:45", after := #[{ on := 8, ground := Go.Ground.guard }], guard := some (8, true) }) (v := ?_) rfl (by kernel_rfl) (by kernel_rfl) (by kernel_rfl) (fun _ _ _ h => h) (Or.inl ⟨by rfl, ?_⟩) (by assumption) ?_
   rotate_left
   · (intro w hSw; (try dsimp only at hSw); go_simp; try with_reducible rfl)
   try simp only [Act.put, List.setIfInBounds_toArray, List.set_cons_zero, List.set_cons_succ]
   refine wpAnyH_take (i := 10) (oi := { dst := some 18, op := Go.Op.load 104 (Go.Operand.tmp 17), type := 104, pos := "table.go:45", after := #[{ on := 9, ground := Go.Ground.data }, { on := 8, ground := Go.Ground.guard }], guard := some (8, true) }) (v := ?_) rfl (by kernel_rfl) (by kernel_rfl) (by kernel_rfl) (fun _ _ _ h => h) (Or.inl ⟨by rfl, ?_⟩) (by assumption) ?_
   rotate_left
   · (intro w hSw; (try dsimp only at hSw); go_simp; try with_reducible rfl)
   try simp only [Act.put, List.setIfInBounds_toArray, List.set_cons_zero, List.set_cons_succ]
   refine wpAnyH_take (i := 11) (oi := { dst := some 19, op := Go.Op.move (Go.Operand.tmp 1), type := 110, pos := "table.go:45", after := #[{ on := 8, ground := Go.Ground.guard }], guard := some (8, true) }) (v := ?_) rfl (by kernel_rfl) (by kernel_rfl) (by kernel_rfl) (fun _ _ _ h => h) (Or.inl ⟨by rfl, ?_⟩) (by assumption) ?_
   rotate_left
   · (intro w hSw; (try dsimp only at hSw); go_simp; try with_reducible rfl)
   try simp only [Act.put, List.setIfInBounds_toArray, List.set_cons_zero, List.set_cons_succ]
   refine wpAnyH_take (i := 15) (oi := { dst := some 23, op := Go.Op.fieldAddr 109 (Go.Operand.tmp 2) 0, type := 0, pos := "table.go:45", after := #[{ on := 8, ground := Go.Ground.guard }], guard := some (8, true) }) (v := ?_) rfl (by kernel_rfl) (by kernel_rfl) (by kernel_rfl) (fun _ _ _ h => h) (Or.inl ⟨by rfl, ?_⟩) (by assumption) ?_
   rotate_left
   · (intro w hSw; (try dsimp only at hSw); go_simp; try with_reducible rfl)
   try simp only [Act.put, List.setIfInBounds_toArray, List.set_cons_zero, List.set_cons_succ]
   refine wpAnyH_take (i := 16) (oi := { dst := some 24, op := Go.Op.load 3 (Go.Operand.tmp 23), type := 3, pos := "table.go:45", after := #[{ on := 15, ground := Go.Ground.data }, { on := 8, ground := Go.Ground.guard }], guard := some (8, true) }) (v := ?_) rfl (by kernel_rfl) (by kernel_rfl) (by kernel_rfl) (fun _ _ _ h => h) (Or.inl ⟨by rfl, ?_⟩) (by assumption) ?_
   rotate_left
   · (intro w hSw; (try dsimp only at hSw); go_simp; try with_reducible rfl)
   try simp only [Act.put, List.setIfInBounds_toArray, List.set_cons_zero, List.set_cons_succ]
   refine wpAnyH_ready (rs := [12]) (by kernel_rfl) (by simp) ?_
   refine AllReadyH.cons (o := { dst := some 20, op := Go.Op.call { callee := Go.Callee.value (Go.Operand.tmp 18), args := #[Go.Operand.tmp 19], argTypes := #[110] }, type := 161, pos := "table.go:45", after := #[{ on := 10, ground := Go.Ground.data }, { on := 11, ground := Go.Ground.data }, { on := 8, ground := Go.Ground.chain }, { on := 8, ground := Go.Ground.guard }], guard := some (8, true) }) rfl (fun K hK => ?_) ?_
   rotate_left
   · exact AllReadyH.nil
   go_simp
   (first | (go_at_call 91; (with_reducible refine (c_num1d _ _ (by first | rfl | simp) _ _ h1).mono ?_); rintro e w1 ⟨rfl, hb1⟩; replace HW := Aside0.mk (below_step HW.out hb1); replace hc0 := pw_cell_below hb1 hc0; replace hcK := pw_cell_below hb1 hcK; replace hcL := pw_cell_below hb1 hcL) | ((with_reducible refine (HN.out _ _).mono ?_); rintro e w1 ⟨rfl, rfl⟩))
   refine hK.out _ _ ?_ (fun hHeld => ?_)
   · (with_reducible first | exact ⟨hc0, hcK, hcL, HW.out⟩ | exact HA1.out | exact HA2.out)
   clear hK K
   try simp only [Act.put, List.setIfInBounds_toArray, List.set_cons_zero, List.set_cons_succ]
   refine wpAnyH_take (i := 13) (oi := { dst := some 21, op := Go.Op.nilCheck (Go.Operand.tmp 20), type := 0, pos := "table.go:45", after := #[{ on := 12, ground := Go.Ground.data }, { on := 8, ground := Go.Ground.guard }], guard := some (8, true) }) (v := ?_) rfl (by kernel_rfl) (by kernel_rfl) (by kernel_rfl) (fun _ _ _ h => h) (Or.inl ⟨by rfl, ?_⟩) (by assumption) ?_
   rotate_left
   · (intro w hSw; (try dsimp only at hSw); go_simp; try with_reducible rfl)
   try simp only [Act.put, List.setIfInBounds_toArray, List.set_cons_zero, List.set_cons_succ]
   refine wpAnyH_take (i := 14) (oi := { dst := some 22, op := Go.Op.load 3 (Go.Operand.tmp 21), type := 3, pos := "table.go:45", after := #[{ on := 13, ground := Go.Ground.data }, { on := 8, ground := Go.Ground.guard }], guard := some (8, true) }) (v := ?_) rfl (by kernel_rfl) (by kernel_rfl) (by kernel_rfl) (fun _ _ _ h => h) (Or.inl ⟨by rfl, ?_⟩) (by assumption) ?_
   rotate_left
   · (intro w hSw; (try dsimp only at hSw); go_simp; try with_reducible rfl)
   try simp only [Act.put, List.setIfInBounds_toArray, List.set_cons_zero, List.set_cons_succ]
   refine wpAnyH_take (i := 17) (oi := { dst := some 25, op := Go.Op.binOp Go.BinOp.geq 3 (Go.Operand.tmp 22) (Go.Operand.tmp 24) 3, type := 4, pos := "table.go:45", after := #[{ on := 14, ground := Go.Ground.data }, { on := 16, ground := Go.Ground.data }, { on := 8, ground := Go.Ground.guard }], guard := some (8, true) }) (v := ?_) rfl (by kernel_rfl) (by kernel_rfl) (by kernel_rfl) (fun _ _ _ h => h) (Or.inl ⟨by rfl, ?_⟩) (by assumption) ?_
   rotate_left
   · (intro w hSw; (try dsimp only at hSw); go_simp; try with_reducible rfl)
   try simp only [Act.put, List.setIfInBounds_toArray, List.set_cons_zero, List.set_cons_succ]
   refine wpAnyH_take (i := 18) (oi := { dst := some 26, op := Go.Op.pick (Go.Operand.tmp 16) (Go.Operand.tmp 25) (Go.Operand.const (Go.Value.bool false)), type := 4, pos := "table.go:45", after := #[{ on := 8, ground := Go.Ground.data }, { on := 17, ground := Go.Ground.data }], guard := none }) (v := ?_) rfl (by kernel_rfl) (by kernel_rfl) (by kernel_rfl) (fun _ _ _ h => h) (Or.inl ⟨by rfl, ?_⟩) (by assumption) ?_
   rotate_left
   · (intro w hSw; (try dsimp only at hSw); go_simp; try with_reducible rfl)
   try simp only [Act.put, List.setIfInBounds_toArray, List.set_cons_zero, List.set_cons_succ]
   refine wpAnyH_take (i := 19) (oi := { dst := some 4, op := Go.Op.assign (Go.Operand.tmp 26), type := 4, pos := "table.go:45", after := #[{ on := 18, ground := Go.Ground.data }, { on := 12, ground := Go.Ground.chain }, { on := 0, ground := Go.Ground.phase }, { on := 1, ground := Go.Ground.phase }, { on := 2, ground := Go.Ground.phase }, { on := 3, ground := Go.Ground.phase }, { on := 4, ground := Go.Ground.phase }, { on := 5, ground := Go.Ground.phase }, { on := 6, ground := Go.Ground.phase }, { on := 7, ground := Go.Ground.phase }, { on := 8, ground := Go.Ground.phase }, { on := 9, ground := Go.Ground.phase }, { on := 10, ground := Go.Ground.phase }, { on := 11, ground := Go.Ground.phase }, { on := 12, ground := Go.Ground.phase }, { on := 13, ground := Go.Ground.phase }, { on := 14, ground := Go.Ground.phase }, { on := 15, ground := Go.Ground.phase }, { on := 16, ground := Go.Ground.phase }, { on := 17, ground := Go.Ground.phase }, { on := 18, ground := Go.Ground.phase }], guard := none }) (v := ?_) rfl (by kernel_rfl) (by kernel_rfl) (by kernel_rfl) (fun _ _ _ h => h) (Or.inl ⟨by rfl, ?_⟩) (by assumption) ?_
   rotate_left
   · (intro w hSw; (try dsimp only at hSw); go_simp; try with_reducible rfl)
   try simp only [Act.put, List.setIfInBounds_toArray, List.set_cons_zero, List.set_cons_succ]
   refine wpAnyH_done (by kernel_rfl) ?_ _
   go_wp2_with fail
   go_ret
   exact ⟨by first | rfl | simp, HW.out⟩
 | false =>
   go_wp2_with fail
   refine wp_region_held_drew (S := fun W' => W'.cell? ⟨g, i, none⟩ = some (.int .i64 v) ∧ W'.cell? ⟨W.heap.size, 1, none⟩ = some (.func (.func KF) #[] #[]) ∧ W'.cell? ⟨W.heap.size, 0, none⟩ = some (.int .i64 least) ∧ Below W.heap.size W W') (by kernel_rfl) ?_ (fun hHeld => ?_)
   · (with_reducible first | exact ⟨hc0, hcK, hcL, HW.out⟩ | exact HA1.out | exact HA2.out)
   refine wpAnyH_take (i := 0) (oi := { dst := some 8, op := Go.Op.fieldAddr 109 (Go.Operand.tmp 2) 1, type := 0, pos := "table.go:45", after := #[], guard := none }) (v := ?_) rfl (by kernel_rfl) (by kernel_rfl) (by kernel_rfl) (fun _ _ _ h => h) (Or.inl ⟨by rfl, ?_⟩) (by assumption) ?_
   rotate_left
   · (intro w hSw; (try dsimp only at hSw); go_simp; try with_reducible rfl)
   try simp only [Act.put, List.setIfInBounds_toArray, List.set_cons_zero, List.set_cons_succ]
   refine wpAnyH_take (i := 1) (oi := { dst := some 9, op := Go.Op.load 104 (Go.Operand.tmp 8), type := 104, pos := "table.go:45", after := #[{ on := 0, ground := Go.Ground.data }], guard := none }) (v := ?_) rfl (by kernel_rfl) (by kernel_rfl) (by kernel_rfl) (fun _ _ _ h => h) (Or.inl ⟨by rfl, ?_⟩) (by assumption) ?_
   rotate_left
   · (intro w hSw; (try dsimp only at hSw); go_simp; try with_reducible rfl)
   try simp only [Act.put, List.setIfInBounds_toArray, List.set_cons_zero, List.set_cons_succ]
   refine wpAnyH_take (i := 2) (oi := { dst := some 10, op := Go.Op.move (Go.Operand.tmp 1), type := 110, pos := "table.go:45", after := #[], guard := none }) (v := ?_) rfl (by kernel_rfl) (by kernel_rfl) (by kernel_rfl) (fun _ _ _ h => h) (Or.inl ⟨by rfl, ?_⟩) (by assumption) ?_
   rotate_left
   · (intro w hSw; (try dsimp only at hSw); go_simp; try with_reducible rfl)
   try simp only [Act.put, List.setIfInBounds_toArray, List.set_cons_zero, List.set_cons_succ]
   refine wpAnyH_ready (rs := [3]) (by kernel_rfl) (by simp) ?_
   refine AllReadyH.cons (o := { dst := some 11, op := Go.Op.call { callee := Go.Callee.value (Go.Operand.tmp 9), args := #[Go.Operand.tmp 10], argTypes := #[110] }, type := 161, pos := "table.go:45", after := #[{ on := 1, ground := Go.Ground.data }, { on := 2, ground := Go.Ground.data }], guard := none }) rfl (fun K hK => ?_) ?_
   rotate_left
   · exact AllReadyH.nil
   go_simp
   (first | (go_at_call 91; (with_reducible refine (c_num1d _ _ (by first | rfl | simp) _ _ h1).mono ?_); rintro e w1 ⟨rfl, hb1⟩; replace HW := Aside0.mk (below_step HW.out hb1); replace hc0 := pw_cell_below hb1 hc0; replace hcK := pw_cell_below hb1 hcK; replace hcL := pw_cell_below hb1 hcL) | ((with_reducible refine (HN.out _ _).mono ?_); rintro e w1 ⟨rfl, rfl⟩))
   refine hK.out _ _ ?_ (fun hHeld => ?_)
   · (with_reducible first | exact ⟨hc0, hcK, hcL, HW.out⟩ | exact HA1.out | exact HA2.out)
   clear hK K
   try simp only [Act.put, List.setIfInBounds_toArray, List.set_cons_zero, List.set_cons_succ]
   refine wpAnyH_take (i := 4) (oi := { dst := some 12, op := Go.Op.nilCheck (Go.Operand.tmp 11), type := 0, pos := "table.go:45", after := #[{ on := 3, ground := Go.Ground.data }], guard := none }) (v := ?_) rfl (by kernel_rfl) (by kernel_rfl) (by kernel_rfl) (fun _ _ _ h => h) (Or.inl ⟨by rfl, ?_⟩) (by assumption) ?_
   rotate_left
   · (intro w hSw; (try dsimp only at hSw); go_simp; try with_reducible rfl)
   try simp only [Act.put, List.setIfInBounds_toArray, List.set_cons_zero, List.set_cons_succ]
   refine wpAnyH_take (i := 5) (oi := { dst := some 13, op := Go.Op.load 3 (Go.Operand.tmp 12), type := 3, pos := "table.go:45", after := #[{ on := 4, ground := Go.Ground.data }], guard := none }) (v := ?_) rfl (by kernel_rfl) (by kernel_rfl) (by kernel_rfl) (fun _ _ _ h => h) (Or.inl ⟨by rfl, ?_⟩) (by assumption) ?_
   rotate_left
   · (intro w hSw; (try dsimp only at hSw); go_simp; try with_reducible rfl)
   try simp only [Act.put, List.setIfInBounds_toArray, List.set_cons_zero, List.set_cons_succ]
   refine wpAnyH_ready (rs := [6]) (by kernel_rfl) (by simp) ?_
   refine AllReadyH.cons (o := { dst := some 14, op := Go.Op.buildSlice 146 1 #[(0, Go.Operand.tmp 13)], type := 146, pos := "table.go:45", after := #[{ on := 5, ground := Go.Ground.data }], guard := none }) rfl (fun K hK => ?_) ?_
   rotate_left
   · exact AllReadyH.nil
   go_simp
   skip
   refine hK.out _ _ ?_ (fun hHeld => ?_)
   · (with_reducible first | exact ⟨hc0, hcK, hcL, HW.out⟩ | exact HA1.out | exact HA2.out)
   clear hK K
   try simp only [Act.put, List.setIfInBounds_toArray, List.set_cons_zero, List.set_cons_succ]
   refine wpAnyH_ready (rs := [7]) (by kernel_rfl) (by simp) ?_
   refine AllReadyH.cons (o := { dst := some 15, op := Go.Op.call { callee := Go.Callee.value (Go.Operand.func 91), args := #[Go.Operand.tmp 14], argTypes := #[146] }, type := 4, pos := "table.go:45", after := #[{ on := 6, ground := Go.Ground.data }, { on := 3, ground := Go.Ground.chain }], guard := none }) rfl (fun K hK => ?_) ?_
   rotate_left
   · exact AllReadyH.nil
   go_simp
   (first | (go_at_call 91; (with_reducible refine (c_num1d _ _ (by first | rfl | simp) _ _ h1).mono ?_); rintro e w1 ⟨rfl, hb1⟩; replace HW := Aside0.mk (below_step HW.out hb1); replace hc0 := pw_cell_below hb1 hc0; replace hcK := pw_cell_below hb1 hcK; replace hcL := pw_cell_below hb1 hcL) | ((with_reducible refine (HN.out _ _).mono ?_); rintro e w1 ⟨rfl, rfl⟩))
   refine hK.out _ _ ?_ (fun hHeld => ?_)
   · (with_reducible first | exact ⟨hc0, hcK, hcL, HW.out⟩ | exact HA1.out | exact HA2.out)
   clear hK K
   try simp only [Act.put, List.setIfInBounds_toArray, List.set_cons_zero, List.set_cons_succ]
   refine wpAnyH_take (i := 8) (oi := { dst := some 16, op := Go.Op.move (Go.Operand.tmp 15), type := 4, pos := "table.go:45", after := #[{ on := 7, ground := Go.Ground.data }, { on := 7, ground := Go.Ground.chain }], guard := none }) (v := ?_) rfl (by kernel_rfl) (by kernel_rfl) (by kernel_rfl) (fun _ _ _ h => h) (Or.inl ⟨by rfl, ?_⟩) (by assumption) ?_
   rotate_left
   · (intro w hSw; (try dsimp only at hSw); go_simp; try with_reducible rfl)
   try simp only [Act.put, List.setIfInBounds_toArray, List.set_cons_zero, List.set_cons_succ]
   refine wpAnyH_take (i := 9) (oi := { dst := some 17, op := Go.Op.fieldAddr 109 (Go.Operand.tmp 2) 1, type := 0, pos := "table.go:45", after := #[{ on := 8, ground := Go.Ground.guard }], guard := some (8, true) }) (v := undef) rfl (by kernel_rfl) (by kernel_rfl) (by kernel_rfl) (fun _ _ _ h => h) (Or.inr ⟨by rfl, rfl⟩) (by assumption) ?_
   try simp only [Act.put, List.setIfInBounds_toArray, List.set_cons_zero, List.set_cons_succ]
   refine wpAnyH_take (i := 10) (oi := { dst := some 18, op := Go.Op.load 104 (Go.Operand.tmp 17), type := 104, pos := "table.go:45", after := #[{ on := 9, ground := Go.Ground.data }, { on := 8, ground := Go.Ground.guard }], guard := some (8, true) }) (v := undef) rfl (by kernel_rfl) (by kernel_rfl) (by kernel_rfl) (fun _ _ _ h => h) (Or.inr ⟨by rfl, rfl⟩) (by assumption) ?_
   try simp only [Act.put, List.setIfInBounds_toArray, List.set_cons_zero, List.set_cons_succ]
   refine wpAnyH_take (i := 11) (oi := { dst := some 19, op := Go.Op.move (Go.Operand.tmp 1), type := 110, pos := "table.go:45", after := #[{ on := 8, ground := Go.Ground.guard }], guard := some (8, true) }) (v := undef) rfl (by kernel_rfl) (by kernel_rfl) (by kernel_rfl) (fun _ _ _ h => h) (Or.inr ⟨by rfl, rfl⟩) (by assumption) ?_
   try simp only [Act.put, List.setIfInBounds_toArray, List.set_cons_zero, List.set_cons_succ]
   refine wpAnyH_take (i := 12) (oi := { dst := some 20, op := Go.Op.call { callee := Go.Callee.value (Go.Operand.tmp 18), args := #[Go.Operand.tmp 19], argTypes := #[110] }, type := 161, pos := "table.go:45", after := #[{ on := 10, ground := Go.Ground.data }, { on := 11, ground := Go.Ground.data }, { on := 8, ground := Go.Ground.chain }, { on := 8, ground := Go.Ground.guard }], guard := some (8, true) }) (v := undef) rfl (by kernel_rfl) (by kernel_rfl) (by kernel_rfl) (fun _ _ _ h => h) (Or.inr ⟨by rfl, rfl⟩) (by assumption) ?_
   try simp only [Act.put, List.setIfInBounds_toArray, List.set_cons_zero, List.set_cons_succ]
   refine wpAnyH_take (i := 13) (oi := { dst := some 21, op := Go.Op.nilCheck (Go.Operand.tmp 20), type := 0, pos := "table.go:45", after := #[{ on := 12, ground := Go.Ground.data }, { on := 8, ground := Go.Ground.guard }], guard := some (8, true) }) (v := undef) rfl (by kernel_rfl) (by kernel_rfl) (by kernel_rfl) (fun _ _ _ h => h) (Or.inr ⟨by rfl, rfl⟩) (by assumption) ?_
   try simp only [Act.put, List.setIfInBounds_toArray, List.set_cons_zero, List.set_cons_succ]
   refine wpAnyH_take (i := 14) (oi := { dst := some 22, op := Go.Op.load 3 (Go.Operand.tmp 21), type := 3, pos := "table.go:45", after := #[{ on := 13, ground := Go.Ground.data }, { on := 8, ground := Go.Ground.guard }], guard := some (8, true) }) (v := undef) rfl (by kernel_rfl) (by kernel_rfl) (by kernel_rfl) (fun _ _ _ h => h) (Or.inr ⟨by rfl, rfl⟩) (by assumption) ?_
   try simp only [Act.put, List.setIfInBounds_toArray, List.set_cons_zero, List.set_cons_succ]
   refine wpAnyH_take (i := 15) (oi := { dst := some 23, op := Go.Op.fieldAddr 109 (Go.Operand.tmp 2) 0, type := 0, pos := "table.go:45", after := #[{ on := 8, ground := Go.Ground.guard }], guard := some (8, true) }) (v := undef) rfl (by kernel_rfl) (by kernel_rfl) (by kernel_rfl) (fun _ _ _ h => h) (Or.inr ⟨by rfl, rfl⟩) (by assumption) ?_
   try simp only [Act.put, List.setIfInBounds_toArray, List.set_cons_zero, List.set_cons_succ]
   refine wpAnyH_take (i := 16) (oi := { dst := some 24, op := Go.Op.load 3 (Go.Operand.tmp 23), type := 3, pos := "table.go:45", after := #[{ on := 15, ground := Go.Ground.data }, { on := 8, ground := Go.Ground.guard }], guard := some (8, true) }) (v := undef) rfl (by kernel_rfl) (by kernel_rfl) (by kernel_rfl) (fun _ _ _ h => h) (Or.inr ⟨by rfl, rfl⟩) (by assumption) ?_
   try simp only [Act.put, List.setIfInBounds_toArray, List.set_cons_zero, List.set_cons_succ]
   refine wpAnyH_take (i := 17) (oi := { dst := some 25, op := Go.Op.binOp Go.BinOp.geq 3 (Go.Operand.tmp 22) (Go.Operand.tmp 24) 3, type := 4, pos := "table.go:45", after := #[{ on := 14, ground := Go.Ground.data }, { on := 16, ground := Go.Ground.data }, { on := 8, ground := Go.Ground.guard }], guard := some (8, true) }) (v := undef) rfl (by kernel_rfl) (by kernel_rfl) (by kernel_rfl) (fun _ _ _ h => h) (Or.inr ⟨by rfl, rfl⟩) (by assumption) ?_
   try simp only [Act.put, List.setIfInBounds_toArray, List.set_cons_zero, List.set_cons_succ]
   refine wpAnyH_take (i := 18) (oi := { dst := some 26, op := Go.Op.pick (Go.Operand.tmp 16) (Go.Operand.tmp 25) (Go.Operand.const (Go.Value.bool false)), type := 4, pos := "table.go:45", after := #[{ on := 8, ground := Go.Ground.data }, { on := 17, ground := Go.Ground.data }], guard := none }) (v := ?_) rfl (by kernel_rfl) (by kernel_rfl) (by kernel_rfl) (fun _ _ _ h => h) (Or.inl ⟨by rfl, ?_⟩) (by assumption) ?_
   rotate_left
   · (intro w hSw; (try dsimp only at hSw); go_simp; try with_reducible rfl)
   try simp only [Act.put, List.setIfInBounds_toArray, List.set_cons_zero, List.set_cons_succ]
   refine wpAnyH_take (i := 19) (oi := { dst := some 4, op := Go.Op.assign (Go.Operand.tmp 26), type := 4, pos := "table.go:45", after := #[{ on := 18, ground := Go.Ground.data }, { on := 12, ground := Go.Ground.chain }, { on := 0, ground := Go.Ground.phase }, { on := 1, ground := Go.Ground.phase }, { on := 2, ground := Go.Ground.phase }, { on := 3, ground := Go.Ground.phase }, { on := 4, ground := Go.Ground.phase }, { on := 5, ground := Go.Ground.phase }, { on := 6, ground := Go.Ground.phase }, { on := 7, ground := Go.Ground.phase }, { on := 8, ground := Go.Ground.phase }, { on := 9, ground := Go.Ground.phase }, { on := 10, ground := Go.Ground.phase }, { on := 11, ground := Go.Ground.phase }, { on := 12, ground := Go.Ground.phase }, { on := 13, ground := Go.Ground.phase }, { on := 14, ground := Go.Ground.phase }, { on := 15, ground := Go.Ground.phase }, { on := 16, ground := Go.Ground.phase }, { on := 17, ground := Go.Ground.phase }, { on := 18, ground := Go.Ground.phase }], guard := none }) (v := ?_) rfl (by kernel_rfl) (by kernel_rfl) (by kernel_rfl) (fun _ _ _ h => h) (Or.inl ⟨by rfl, ?_⟩) (by assumption) ?_
   rotate_left
   · (intro w hSw; (try dsimp only at hSw); go_simp; try with_reducible rfl)
   try simp only [Act.put, List.setIfInBounds_toArray, List.set_cons_zero, List.set_cons_succ]
   refine wpAnyH_done (by kernel_rfl) ?_ _
   go_wp2_with fail
   go_ret
   exact ⟨by first | rfl | simp, HW.out⟩
set_option maxRecDepth 100000 in
theorem right_may (KF : FuncId) (hK : Enters KF) (f2 f3 f4 : Value) (W : World) (g : Nat) (b : Bool) (hM : ∀ W1, Below W.heap.size W W1 → Calls Tryz.prog KF #[.pointer (some ⟨g, 0, none⟩)] W1 fun e W' => e = .returned (.bool b) ∧ Below W1.heap.size W1 W') :
  Calls Tryz.prog 42 #[.agg #[.int .i64 0, .nilFunc, f2, f3, f4, .func (.func KF) #[] #[]], .pointer (some ⟨g, 0, none⟩)] W fun e W' => e = .returned (.bool b) ∧ Below W.heap.size W W' := by
 have hne : ∀ w : World, (binOp BinOp.neq 104 .nilFunc .nilFunc).run Tryz.prog w = .ok (.bool false) w := fun _ => rfl
 have HM := Aside0.mk (hM (W.alloc (Obj.cells #[.int .i64 0, .nilFunc, f2, f3, f4, .func (.func KF) #[] #[]] 109 (0, 0))) (below_alloc (Below.refl _ _) _))
 have hK2 : ∀ (args : Array Value) (w : World), (callFunc KF args).run Tryz.prog w = .ok (.enter KF args) w := hK
 clear hM hK
 go_enter Tryz.func42, Tryz.ntmps42
 go_wp2_with ((with_reducible refine HM.out.mono ?_); rintro e w1 ⟨rfl, hb1⟩; have HB1 := Aside0.mk hb1; clear hb1)
 go_ret
 exact ⟨rfl, below_step (below_alloc (Below.refl _ _) _) HB1.out⟩
set_option maxRecDepth 100000 in
theorem clear_num (KF : FuncId) (i : Nat) (hK : Enters KF) (hN : NumAt KF i) (least v : Int) (W : World) (g : Nat) (cs : Array Value) (hbx : W.heap[g]? = some (.cells cs 34 (0, 0))) (hv : cs[i]? = some (.int .i64 v)) :
  Calls Tryz.prog 43 #[.agg (F6 least KF), .pointer (some ⟨g, 0, none⟩)] W fun e W' => e = .returned (.tuple #[]) ∧ Moved W W' (fun k => k = g) ∧ W'.heap[g]? = some (.cells (cs.setIfInBounds i (.int .i64 0)) 34 (0, 0)) := by
 have hne : ∀ w : World, (binOp BinOp.neq 104 (.func (.func KF) #[] #[]) .nilFunc).run Tryz.prog w = .ok (.bool true) w := fun _ => rfl
 have HX := Aside0.mk (blk_below (below_alloc (Below.refl _ _) (Obj.cells (F6 least KF) 109 (0, 0))) hbx)
 have hc0 : (W.alloc (Obj.cells (F6 least KF) 109 (0, 0))).cell? ⟨g, i, none⟩ = some (.int .i64 v) := (blk_cell HX.out i).trans hv
 have hf0 := blk_frozen HX.out i
 have HN := Aside0.mk (show ∀ (g : Nat) (W : World), Calls Tryz.prog KF #[.pointer (some ⟨g, 0, none⟩)] W fun e W' => e = .returned (.pointer (some ⟨g, i, none⟩)) ∧ W' = W from hN)
 have hK2 : ∀ (args : Array Value) (w : World), (callFunc KF args).run Tryz.prog w = .ok (.enter KF args) w := hK
 clear hN hK hbx hv
 go_enter Tryz.func43, Tryz.ntmps43
 go_wp2_with ((with_reducible refine (HN.out _ _).mono ?_); rintro e w1 ⟨rfl, rfl⟩)
 first | go_end0 | refine bodyPost_ret (results_none rfl _ _ _) rfl ?_
 exact ⟨rfl, (Moved.of_below (below_alloc (Below.refl _ _) _) (fun k => k = g)).set_ (p := ⟨g, i, none⟩) (.inl rfl) _, blk_set HX.out i _⟩
set_option maxRecDepth 100000 in
theorem clear_wipe (KF : FuncId) (hK : Enters KF) (f2 f3 f5 : Value) (W : World) (g : Nat) (Q : World → Prop) (hM : Calls Tryz.prog KF #[.pointer (some ⟨g, 0, none⟩)] (W.alloc (Obj.cells #[.int .i64 0, .nilFunc, f2, f3, .func (.func KF) #[] #[], f5] 109 (0, 0))) fun e W' => e = .returned (.tuple #[]) ∧ Q W') :
  Calls Tryz.prog 43 #[.agg #[.int .i64 0, .nilFunc, f2, f3, .func (.func KF) #[] #[], f5], .pointer (some ⟨g, 0, none⟩)] W fun e W' => e = .returned (.tuple #[]) ∧ Q W' := by
 have hne : ∀ w : World, (binOp BinOp.neq 104 .nilFunc .nilFunc).run Tryz.prog w = .ok (.bool false) w := fun _ => rfl
 have HM := Aside0.mk hM
 have hK2 : ∀ (args : Array Value) (w : World), (callFunc KF args).run Tryz.prog w = .ok (.enter KF args) w := hK
 clear hM hK
 go_enter Tryz.func43, Tryz.ntmps43
 go_wp2_with ((with_reducible refine HM.out.mono ?_); rintro e w1 ⟨rfl, hq⟩; have HQ := Aside0.mk hq; clear hq)
 first | go_end0 | refine bodyPost_ret (results_none rfl _ _ _) rfl ?_
 exact ⟨rfl, HQ.out⟩
set_option maxRecDepth 100000 in
theorem write_put (KF : FuncId) (hK : Enters KF) (f3 f4 f5 : Value) (W : World) (gw g : Nat) (Q : World → Prop) (hM : Calls Tryz.prog KF #[.pointer (some ⟨gw, 0, none⟩), .pointer (some ⟨g, 0, none⟩)] (W.alloc (Obj.cells #[.int .i64 0, .nilFunc, .func (.func KF) #[] #[], f3, f4, f5] 109 (0, 0))) fun e W' => e = .returned (.tuple #[]) ∧ Q W') :
  Calls Tryz.prog 62 #[.agg #[.int .i64 0, .nilFunc, .func (.func KF) #[] #[], f3, f4, f5], .pointer (some ⟨gw, 0, none⟩), .pointer (some ⟨g, 0, none⟩)] W fun e W' => e = .returned (.tuple #[]) ∧ Q W' := by
 have hne : ∀ w : World, (binOp BinOp.neq 104 .nilFunc .nilFunc).run Tryz.prog w = .ok (.bool false) w := fun _ => rfl
 have HM := Aside0.mk hM
 have hK2 : ∀ (args : Array Value) (w : World), (callFunc KF args).run Tryz.prog w = .ok (.enter KF args) w := hK
 clear hM hK
 go_enter Tryz.func62, Tryz.ntmps62
 go_wp2_with ((with_reducible refine HM.out.mono ?_); rintro e w1 ⟨rfl, hq⟩; have HQ := Aside0.mk hq; clear hq)
 first | go_end0 | refine bodyPost_ret (results_none rfl _ _ _) rfl ?_
 exact ⟨rfl, HQ.out⟩
set_option maxRecDepth 100000 in
theorem write_num (KF : FuncId) (i : Nat) (hK : Enters KF) (hN : NumAt KF i) (least v : Int) (W : World) (gw g : Nat) (Q : World → Prop) (hc : W.cell? ⟨g, i, none⟩ = some (.int .i64 v)) (hM : Calls Tryz.prog 61 #[.pointer (some ⟨gw, 0, none⟩), .int .i64 v] (W.alloc (Obj.cells (F6 least KF) 109 (0, 0))) fun e W' => e = .returned (.tuple #[]) ∧ Q W') :
  Calls Tryz.prog 62 #[.agg (F6 least KF), .pointer (some ⟨gw, 0, none⟩), .pointer (some ⟨g, 0, none⟩)] W fun e W' => e = .returned (.tuple #[]) ∧ Q W' := by
 have hne : ∀ w : World, (binOp BinOp.neq 104 (.func (.func KF) #[] #[]) .nilFunc).run Tryz.prog w = .ok (.bool true) w := fun _ => rfl
 have hc0 : (W.alloc (Obj.cells (F6 least KF) 109 (0, 0))).cell? ⟨g, i, none⟩ = some (.int .i64 v) := pw_cell_below (below_alloc (Below.refl _ _) _) hc
 have HM := Aside0.mk hM
 have HN := Aside0.mk (show ∀ (g : Nat) (W : World), Calls Tryz.prog KF #[.pointer (some ⟨g, 0, none⟩)] W fun e W' => e = .returned (.pointer (some ⟨g, i, none⟩)) ∧ W' = W from hN)
 have hK2 : ∀ (args : Array Value) (w : World), (callFunc KF args).run Tryz.prog w = .ok (.enter KF args) w := hK
 clear hM hK hN hc
 go_enter Tryz.func62, Tryz.ntmps62
 go_wp2_with (first | (go_at_call 61; (with_reducible refine HM.out.mono ?_); rintro e w1 ⟨rfl, hq⟩; have HQ := Aside0.mk hq; clear hq) | ((with_reducible refine (HN.out _ _).mono ?_); rintro e w1 ⟨rfl, rfl⟩))
 first | go_end0 | refine bodyPost_ret (results_none rfl _ _ _) rfl ?_
 exact ⟨rfl, HQ.out⟩
set_option maxRecDepth 100000 in
theorem read_get (KF : FuncId) (hK : Enters KF) (f2 f4 f5 : Value) (W : World) (gr g : Nat) (Q : Ending → World → Prop) (hQ : ∀ e W', Q e W' → e = .returned (.tuple #[]) ∨ e = .panicked flaw) (hM : Calls Tryz.prog KF #[.pointer (some ⟨gr, 0, none⟩), .pointer (some ⟨g, 0, none⟩)] (W.alloc (Obj.cells #[.int .i64 0, .nilFunc, f2, .func (.func KF) #[] #[], f4, f5] 109 (0, 0))) Q) :
   Calls Tryz.prog 68 #[.agg #[.int .i64 0, .nilFunc, f2, .func (.func KF) #[] #[], f4, f5], .pointer (some ⟨gr, 0, none⟩), .pointer (some ⟨g, 0, none⟩)] W Q := by
 have hne : ∀ w : World, (binOp BinOp.neq 104 .nilFunc .nilFunc).run Tryz.prog w = .ok (.bool false) w := fun _ => rfl
 have HM := Aside0.mk hM
 have HQ := Aside0.mk hQ
 have hK2 : ∀ (args : Array Value) (w : World), (callFunc KF args).run Tryz.prog w = .ok (.enter KF args) w := hK
 clear hM hK hQ
 go_enter Tryz.func68, Tryz.ntmps68
 go_wp2_with fail
 refine HM.out.mono ?_
 intro e w1 hq
 have HR := Aside0.mk hq
 rcases HQ.out _ _ hq with rfl | rfl
 · clear hq
   go_wp2_with fail
   first | go_end0 | refine bodyPost_ret (results_none rfl _ _ _) rfl ?_
   exact HR.out
 · exact ⟨rfl, HR.out⟩
set_option maxRecDepth 100000 in
set_option maxHeartbeats 2000000 in
theorem read_num (KF : FuncId) (i : Nat) (hK : Enters KF) (hN : NumAt KF i) (least v0 : Int) (w0 W : World) (gr g : Nat) (A : Option Addr) (c a : Nat) (xs : List Int) (hD : Get.Data w0 A c xs) (ha : a ≤ xs.length) (hb : Below w0.heap.size w0 W) (hg : w0.heap.size ≤ gr) (hE : Eye W gr A xs.length c a) (hne : g ≠ gr) (cs : Array Value) (hbx : W.heap[g]? = some (.cells cs 34 (0, 0))) (hi : i < cs.size) (hv : cs[i]? = some (.int .i64 v0)) :
   Calls Tryz.prog 68 #[.agg (F6 least KF), .pointer (some ⟨gr, 0, none⟩), .pointer (some ⟨g, 0, none⟩)] W fun e W' => Moved W W' (fun k => k = gr ∨ k = g) ∧ (dNum xs a = none → e = .panicked flaw) ∧ ∀ v a', dNum xs a = some (v, a') → e = .returned (.tuple #[]) ∧ Eye W' gr A xs.length c a' ∧ W'.heap[g]? = some (.cells (cs.setIfInBounds i (.int .i64 v)) 34 (0, 0)) := by
 have hne1 : ∀ w : World, (binOp BinOp.neq 104 (.func (.func KF) #[] #[]) .nilFunc).run Tryz.prog w = .ok (.bool true) w := fun _ => rfl
 have hbA := below_alloc (Below.refl W.heap.size W) (Obj.cells (F6 least KF) 109 (0, 0))
 have HX := Aside0.mk (blk_below hbA hbx)
 have hEA : Eye (W.alloc (Obj.cells (F6 least KF) 109 (0, 0))) gr A xs.length c a := blk_below hbA hE
 have HM := Aside0.mk (rnum w0 (W.alloc (Obj.cells (F6 least KF) 109 (0, 0))) gr A c a xs hD ha (below_step hb hbA) hg hEA)
 have HN := Aside0.mk (show ∀ (g : Nat) (W : World), Calls Tryz.prog KF #[.pointer (some ⟨g, 0, none⟩)] W fun e W' => e = .returned (.pointer (some ⟨g, i, none⟩)) ∧ W' = W from hN)
 have hK2 : ∀ (args : Array Value) (w : World), (callFunc KF args).run Tryz.prog w = .ok (.enter KF args) w := hK
 have HV := Aside0.mk hv
 have HBA := Aside0.mk hbA
 clear hK hN hbx hE hD hb hEA hv hbA
 go_enter Tryz.func68, Tryz.ntmps68
 go_wp2_with ((with_reducible refine (HN.out _ _).mono ?_); rintro e w1 ⟨rfl, rfl⟩)
 refine HM.out.mono ?_
 rintro e w1 ⟨hm, hn, hs⟩
 cases hr : dNum xs a with
 | none =>
   obtain rfl := hn hr
   exact ⟨rfl, ((Moved.of_below HBA.out (fun k => k = gr ∨ k = g)).trans hm (fun k _ hk => .inl hk)), (fun _ => rfl), fun v a' h => by rw [hr] at h; cases h⟩
 | some p =>
   obtain ⟨v, a'⟩ := p
   obtain ⟨v1, rfl, rfl, he⟩ := hs _ _ hr
   have HX1 := Aside0.mk (hm.blk HX.out hne)
   have hc1 := (blk_cell HX1.out i).trans HV.out
   have hf1 := blk_frozen HX1.out i
   have HMV := Aside0.mk ((Moved.of_below HBA.out (fun k => k = gr ∨ k = g)).trans hm (fun k _ hk => .inl hk))
   have HE := Aside0.mk he
   have HRX := Aside0.mk hr
   clear hm hn hs hr he
   go_wp2_with fail
   first | go_end0 | refine bodyPost_ret (results_none rfl _ _ _) rfl ?_
   refine ⟨HMV.out.set_ (.inl (.inr rfl)) _, (fun h => by rw [HRX.out] at h; cases h), fun y z h => ?_⟩
   rw [HRX.out] at h
   simp only [Option.some.injEq, Prod.mk.injEq] at h
   obtain ⟨rfl, rfl⟩ := h
   exact ⟨rfl, blk_far HE.out (p := ⟨g, i, none⟩) (fun h => hne h.symm) _, blk_set HX1.out i _⟩
end Go.Proofs.YtmneemhplffemaaGreatDoorRR.Tab
namespace Go.Proofs.YtmneemhplffemaaGreatDoorRR.Tab
open Go.RowKit Go.Proofs.YtmneemhplffemaaGreatDoorRR.Ord Go.Proofs.YtmneemhplffemaaGreatDoorRR.Name Go.Proofs.YtmneemhplffemaaGreatDoorRR.Ext Go.Proofs.YtmneemhplffemaaGreatDoorRR.Mem Go.Proofs.YtmneemhplffemaaGreatDoorRR.Law Go.Proofs.YtmneemhplffemaaGreatDoorRR.Row Go.Proofs.YtmneemhplffemaaGreatDoorRR.Ki Go.Proofs.YtmneemhplffemaaGreatDoorRR.Chk Go.Proofs.YtmneemhplffemaaGreatDoorRR.May Go.Proofs.YtmneemhplffemaaGreatDoorRRW.PrintWords


structure Sane (x : Note) : Prop where
 kids : ∀ r ∈ x.f11.f3, ∀ y ∈ r.f6, y.size ≤ 140737488355328
 s9 : x.f9.length ≤ 1000000000000000
 s10 : x.f10.length ≤ 1000000000000000
 s11 : x.f11.f3.length ≤ 1000000000000000
 s12 : x.f12.length ≤ 17592186043904
 s13 : x.f13.length ≤ 1000000000000000
 s14 : x.f14.length ≤ 1000000000000000
theorem sane_clr {x : Note} (l : Ltr) (h : Sane x) : Sane (clrF l x) := by
 obtain ⟨h1, h2, h3, h4, h5, h6, h7⟩ := h
 cases l
 all_goals (refine ⟨?_, ?_, ?_, ?_, ?_, ?_, ?_⟩ <;> first | assumption | (simp only [clrF]; first | assumption | simp))
theorem n_ln : NumAt 132 1 := by
 intro g W
 go_enter Tryz.func132, Tryz.ntmps132
 go_wp2
 go_ret
 exact ⟨rfl, rfl⟩
theorem n_ls : NumAt 133 4 := by
 intro g W
 go_enter Tryz.func133, Tryz.ntmps133
 go_wp2
 go_ret
 exact ⟨rfl, rfl⟩
theorem n_lc : NumAt 134 5 := by
 intro g W
 go_enter Tryz.func134, Tryz.ntmps134
 go_wp2
 go_ret
 exact ⟨rfl, rfl⟩
theorem n_lr : NumAt 135 6 := by
 intro g W
 go_enter Tryz.func135, Tryz.ntmps135
 go_wp2
 go_ret
 exact ⟨rfl, rfl⟩
theorem n_lt : NumAt 136 7 := by
 intro g W
 go_enter Tryz.func136, Tryz.ntmps136
 go_wp2
 go_ret
 exact ⟨rfl, rfl⟩
theorem n_lf : NumAt 137 8 := by
 intro g W
 go_enter Tryz.func137, Tryz.ntmps137
 go_wp2
 go_ret
 exact ⟨rfl, rfl⟩
theorem n_lm : NumAt 138 9 := by
 intro g W
 go_enter Tryz.func138, Tryz.ntmps138
 go_wp2
 go_ret
 exact ⟨rfl, rfl⟩
set_option maxRecDepth 100000 in
set_option maxHeartbeats 1000000 in
theorem mc_uW (w0 W : World) (g : Nat) (x : Note) (cs : List Value) (hk : k34.K w0 x cs) (hb : Below w0.heap.size w0 W) (hbx : W.heap[g]? = some (.cells cs.toArray 34 (0, 0))) (HE : Env w0) (hz : Sane x) (b : Bool) (h : okF .uW x = b) :
   Calls Tryz.prog 140 #[.pointer (some ⟨g, 0, none⟩)] W fun e W' => e = .returned (.bool b) ∧ Below W.heap.size W W' := by
 subst h
 obtain ⟨A11, c11, A12, c12, A16, c16, A17, c17, A18, c18, A19, c19, rfl, l11, g11, l12, g12, l16, g16, l17, g17, l18, g18, l19, g19⟩ := k34_open hk
 have hc := blk_cell hbx
 have n_17 : W.cell? ⟨g, 17, none⟩ = some (.slice A17 x.f12.length c17) := hc 17
 have G17 := Aside0.mk g17
 have hm17 : x.f12.length ≤ 9223372036854775807 := g17.2.1
 have HL17 := Aside0.mk l17
 have HW := Aside0.mk (Below.refl W.heap.size W)
 have HA := Aside0.mk hb
 have HE := Aside0.mk HE
 have HZ := Aside0.mk hz
 clear hk hb hbx hc hz g11 l11 g12 l12 g16 l16 g17 l17 g18 l18 g19 l19
 have HPWatch := Aside0.mk (show MayWatch w0 142 mWatch x.f12 from (fun x cs W _ hb hk => m_watch W W x cs _ rfl hk (Below.refl _ _) (HE.out.at_ hb)))
 go_enter Tryz.func140, Tryz.ntmps140
 cases h1 : (decide ((x.f12.length : Int) ≤ 4) && x.f12.all mWatch) with
 | true =>
   go_wp2_with (go_at_call 141; (with_reducible refine (all_Watch mWatch 142 (fun _ _ => by kernel_rfl) w0 _ _ _ _ _ _ (by assumption) HPWatch.out G17.out HA.out).mono ?_); rintro e w1 ⟨rfl, hb1⟩; replace HW := Aside0.mk (below_step HW.out hb1); replace HA := Aside0.mk (below_step HA.out hb1); replace n_17 := pw_cell_below hb1 n_17; clear hb1)
   go_ret
   exact ⟨by simp only [okF, h1, Bool.not_true, Bool.not_false, Bool.true_and, Bool.false_and, Bool.and_true, Bool.and_false, Bool.true_or, Bool.false_or, Bool.or_true, Bool.or_false, Bool.false_eq_true, if_true, if_false]; rfl, HW.out⟩
 | false =>
   go_wp2_with (go_at_call 141; (with_reducible refine (all_Watch mWatch 142 (fun _ _ => by kernel_rfl) w0 _ _ _ _ _ _ (by assumption) HPWatch.out G17.out HA.out).mono ?_); rintro e w1 ⟨rfl, hb1⟩; replace HW := Aside0.mk (below_step HW.out hb1); replace HA := Aside0.mk (below_step HA.out hb1); replace n_17 := pw_cell_below hb1 n_17; clear hb1)
   go_ret
   exact ⟨by simp only [okF, h1, Bool.not_true, Bool.not_false, Bool.true_and, Bool.false_and, Bool.and_true, Bool.and_false, Bool.true_or, Bool.false_or, Bool.or_true, Bool.or_false, Bool.false_eq_true, if_true, if_false]; rfl, HW.out⟩
set_option maxRecDepth 100000 in
set_option maxHeartbeats 1000000 in
theorem mc_lw (w0 W : World) (g : Nat) (x : Note) (cs : List Value) (hk : k34.K w0 x cs) (hb : Below w0.heap.size w0 W) (hbx : W.heap[g]? = some (.cells cs.toArray 34 (0, 0))) (HE : Env w0) (hz : Sane x) (b : Bool) (h : okF .lw x = b) :
   Calls Tryz.prog 143 #[.pointer (some ⟨g, 0, none⟩)] W fun e W' => e = .returned (.bool b) ∧ Below W.heap.size W W' := by
 subst h
 obtain ⟨A11, c11, A12, c12, A16, c16, A17, c17, A18, c18, A19, c19, rfl, l11, g11, l12, g12, l16, g16, l17, g17, l18, g18, l19, g19⟩ := k34_open hk
 have hc := blk_cell hbx
 have n_17 : W.cell? ⟨g, 17, none⟩ = some (.slice A17 x.f12.length c17) := hc 17
 have G17 := Aside0.mk g17
 have hm17 : x.f12.length ≤ 9223372036854775807 := g17.2.1
 have HL17 := Aside0.mk l17
 have HW := Aside0.mk (Below.refl W.heap.size W)
 have HA := Aside0.mk hb
 have HE := Aside0.mk HE
 have HZ := Aside0.mk hz
 clear hk hb hbx hc hz g11 l11 g12 l12 g16 l16 g17 l17 g18 l18 g19 l19
 go_enter Tryz.func143, Tryz.ntmps143
 cases h1 : (x.f12.length == 1) with
 | true =>
   have h1_0 : (((x.f12.length : Int) == 1)) = true := (by have hq_ := h1; simp only [beq_eq_false_iff_ne, beq_iff_eq, ne_eq] at hq_ ⊢; omega)
   have h1_1 : (((x.f12.length : Int) != 1)) = false := (by have hq_ := h1; simp only [beq_eq_false_iff_ne, beq_iff_eq, bne_iff_ne, bne_eq_false_iff_eq, ne_eq] at hq_ ⊢; omega)
   have hl1 : x.f12.length = 1 := by simpa using h1
   obtain ⟨y, hye⟩ : ∃ y, x.f12[0]? = some y := ⟨_, List.getElem?_eq_getElem (by omega)⟩
   have EY := Aside0.mk hye
   have hat := at_T96 G17.out ((0 : Nat) : Int) (by omega) (by omega)
   rw [show rd_T96 x.f12 ((0 : Nat) : Int) = y by unfold rd_T96; rw [Int.toNat_natCast, List.getD_eq_getElem?_getD, hye]; rfl, Int.toNat_natCast] at hat
   obtain ⟨adc, rfl, c_0, c_1, c_2, c_3⟩ := hat
   replace c_0 := pw_cell_below HA.out c_0
   replace c_1 := pw_cell_below HA.out c_1
   replace c_2 := pw_cell_below HA.out c_2
   replace c_3 := pw_cell_below HA.out c_3
   have hpo : 0 < x.f12.length := by omega
   have hpi : (0 : Int) < x.f12.length := by omega
   clear hye hl1
   simp only [Nat.zero_mul, Addr.add, Nat.add_zero, if_true] at c_0 c_1 c_2 c_3
   cases h2 : mWatch y with
   | true =>
     go_wp2_with (go_at_call 142; (with_reducible refine (m_watch w0 _ y _ _ (by assumption) (k96_mk w0 y) HA.out HE.out).mono ?_); rintro e w1 ⟨rfl, hb1⟩; replace HW := Aside0.mk (below_step HW.out hb1); replace HA := Aside0.mk (below_step HA.out hb1); replace n_17 := pw_cell_below hb1 n_17; replace c_0 := pw_cell_below hb1 c_0; replace c_1 := pw_cell_below hb1 c_1; replace c_2 := pw_cell_below hb1 c_2; replace c_3 := pw_cell_below hb1 c_3; clear hb1)
     go_ret
     exact ⟨by simp only [okF, EY.out, Option.elim, h1, h2, Bool.not_true, Bool.not_false, Bool.true_and, Bool.false_and, Bool.and_true, Bool.and_false, Bool.true_or, Bool.false_or, Bool.or_true, Bool.or_false, Bool.false_eq_true, if_true, if_false]; rfl, HW.out⟩
   | false =>
     go_wp2_with (go_at_call 142; (with_reducible refine (m_watch w0 _ y _ _ (by assumption) (k96_mk w0 y) HA.out HE.out).mono ?_); rintro e w1 ⟨rfl, hb1⟩; replace HW := Aside0.mk (below_step HW.out hb1); replace HA := Aside0.mk (below_step HA.out hb1); replace n_17 := pw_cell_below hb1 n_17; replace c_0 := pw_cell_below hb1 c_0; replace c_1 := pw_cell_below hb1 c_1; replace c_2 := pw_cell_below hb1 c_2; replace c_3 := pw_cell_below hb1 c_3; clear hb1)
     go_ret
     exact ⟨by simp only [okF, EY.out, Option.elim, h1, h2, Bool.not_true, Bool.not_false, Bool.true_and, Bool.false_and, Bool.and_true, Bool.and_false, Bool.true_or, Bool.false_or, Bool.or_true, Bool.or_false, Bool.false_eq_true, if_true, if_false]; rfl, HW.out⟩
 | false =>
   have h1_0 : (((x.f12.length : Int) == 1)) = false := (by have hq_ := h1; simp only [beq_eq_false_iff_ne, beq_iff_eq, ne_eq] at hq_ ⊢; omega)
   have h1_1 : (((x.f12.length : Int) != 1)) = true := (by have hq_ := h1; simp only [beq_eq_false_iff_ne, beq_iff_eq, bne_iff_ne, bne_eq_false_iff_eq, ne_eq] at hq_ ⊢; omega)
   go_wp2_with fail
   go_ret
   exact ⟨by simp only [okF, h1, Bool.not_true, Bool.not_false, Bool.true_and, Bool.false_and, Bool.and_true, Bool.and_false, Bool.true_or, Bool.false_or, Bool.or_true, Bool.or_false, Bool.false_eq_true, if_true, if_false]; rfl, HW.out⟩
set_option maxRecDepth 100000 in
set_option maxHeartbeats 1000000 in
theorem mc_ld (w0 W : World) (g : Nat) (x : Note) (cs : List Value) (hk : k34.K w0 x cs) (hb : Below w0.heap.size w0 W) (hbx : W.heap[g]? = some (.cells cs.toArray 34 (0, 0))) (HE : Env w0) (hz : Sane x) (b : Bool) (h : okF .ld x = b) :
   Calls Tryz.prog 144 #[.pointer (some ⟨g, 0, none⟩)] W fun e W' => e = .returned (.bool b) ∧ Below W.heap.size W W' := by
 subst h
 obtain ⟨A11, c11, A12, c12, A16, c16, A17, c17, A18, c18, A19, c19, rfl, l11, g11, l12, g12, l16, g16, l17, g17, l18, g18, l19, g19⟩ := k34_open hk
 have hc := blk_cell hbx
 have n_17 : W.cell? ⟨g, 17, none⟩ = some (.slice A17 x.f12.length c17) := hc 17
 have G17 := Aside0.mk g17
 have hm17 : x.f12.length ≤ 9223372036854775807 := g17.2.1
 have HL17 := Aside0.mk l17
 have HW := Aside0.mk (Below.refl W.heap.size W)
 have HA := Aside0.mk hb
 have HE := Aside0.mk HE
 have HZ := Aside0.mk hz
 clear hk hb hbx hc hz g11 l11 g12 l12 g16 l16 g17 l17 g18 l18 g19 l19
 go_enter Tryz.func144, Tryz.ntmps144
 cases h1 : (x.f12.length == 1) with
 | true =>
   have h1_0 : (((x.f12.length : Int) == 1)) = true := (by have hq_ := h1; simp only [beq_eq_false_iff_ne, beq_iff_eq, ne_eq] at hq_ ⊢; omega)
   have h1_1 : (((x.f12.length : Int) != 1)) = false := (by have hq_ := h1; simp only [beq_eq_false_iff_ne, beq_iff_eq, bne_iff_ne, bne_eq_false_iff_eq, ne_eq] at hq_ ⊢; omega)
   have hl1 : x.f12.length = 1 := by simpa using h1
   obtain ⟨y, hye⟩ : ∃ y, x.f12[0]? = some y := ⟨_, List.getElem?_eq_getElem (by omega)⟩
   have EY := Aside0.mk hye
   have hat := at_T96 G17.out ((0 : Nat) : Int) (by omega) (by omega)
   rw [show rd_T96 x.f12 ((0 : Nat) : Int) = y by unfold rd_T96; rw [Int.toNat_natCast, List.getD_eq_getElem?_getD, hye]; rfl, Int.toNat_natCast] at hat
   obtain ⟨adc, rfl, c_0, c_1, c_2, c_3⟩ := hat
   replace c_0 := pw_cell_below HA.out c_0
   replace c_1 := pw_cell_below HA.out c_1
   replace c_2 := pw_cell_below HA.out c_2
   replace c_3 := pw_cell_below HA.out c_3
   have hpo : 0 < x.f12.length := by omega
   have hpi : (0 : Int) < x.f12.length := by omega
   clear hye hl1
   simp only [Nat.zero_mul, Addr.add, Nat.add_zero, if_true] at c_0 c_1 c_2 c_3
   cases h2 : mBare y with
   | true =>
     go_wp2_with (go_at_call 145; (with_reducible refine (m_bare w0 _ y _ _ (by assumption) (k96_mk w0 y) HA.out).mono ?_); rintro e w1 ⟨rfl, hb1⟩; replace HW := Aside0.mk (below_step HW.out hb1); replace HA := Aside0.mk (below_step HA.out hb1); replace n_17 := pw_cell_below hb1 n_17; replace c_0 := pw_cell_below hb1 c_0; replace c_1 := pw_cell_below hb1 c_1; replace c_2 := pw_cell_below hb1 c_2; replace c_3 := pw_cell_below hb1 c_3; clear hb1)
     go_ret
     exact ⟨by simp only [okF, EY.out, Option.elim, h1, h2, Bool.not_true, Bool.not_false, Bool.true_and, Bool.false_and, Bool.and_true, Bool.and_false, Bool.true_or, Bool.false_or, Bool.or_true, Bool.or_false, Bool.false_eq_true, if_true, if_false]; rfl, HW.out⟩
   | false =>
     go_wp2_with (go_at_call 145; (with_reducible refine (m_bare w0 _ y _ _ (by assumption) (k96_mk w0 y) HA.out).mono ?_); rintro e w1 ⟨rfl, hb1⟩; replace HW := Aside0.mk (below_step HW.out hb1); replace HA := Aside0.mk (below_step HA.out hb1); replace n_17 := pw_cell_below hb1 n_17; replace c_0 := pw_cell_below hb1 c_0; replace c_1 := pw_cell_below hb1 c_1; replace c_2 := pw_cell_below hb1 c_2; replace c_3 := pw_cell_below hb1 c_3; clear hb1)
     go_ret
     exact ⟨by simp only [okF, EY.out, Option.elim, h1, h2, Bool.not_true, Bool.not_false, Bool.true_and, Bool.false_and, Bool.and_true, Bool.and_false, Bool.true_or, Bool.false_or, Bool.or_true, Bool.or_false, Bool.false_eq_true, if_true, if_false]; rfl, HW.out⟩
 | false =>
   have h1_0 : (((x.f12.length : Int) == 1)) = false := (by have hq_ := h1; simp only [beq_eq_false_iff_ne, beq_iff_eq, ne_eq] at hq_ ⊢; omega)
   have h1_1 : (((x.f12.length : Int) != 1)) = true := (by have hq_ := h1; simp only [beq_eq_false_iff_ne, beq_iff_eq, bne_iff_ne, bne_eq_false_iff_eq, ne_eq] at hq_ ⊢; omega)
   go_wp2_with fail
   go_ret
   exact ⟨by simp only [okF, h1, Bool.not_true, Bool.not_false, Bool.true_and, Bool.false_and, Bool.and_true, Bool.and_false, Bool.true_or, Bool.false_or, Bool.or_true, Bool.or_false, Bool.false_eq_true, if_true, if_false]; rfl, HW.out⟩
set_option maxRecDepth 100000 in
set_option maxHeartbeats 1000000 in
theorem mc_uD (w0 W : World) (g : Nat) (x : Note) (cs : List Value) (hk : k34.K w0 x cs) (hb : Below w0.heap.size w0 W) (hbx : W.heap[g]? = some (.cells cs.toArray 34 (0, 0))) (HE : Env w0) (hz : Sane x) (b : Bool) (h : okF .uD x = b) :
   Calls Tryz.prog 146 #[.pointer (some ⟨g, 0, none⟩)] W fun e W' => e = .returned (.bool b) ∧ Below W.heap.size W W' := by
 subst h
 obtain ⟨A11, c11, A12, c12, A16, c16, A17, c17, A18, c18, A19, c19, rfl, l11, g11, l12, g12, l16, g16, l17, g17, l18, g18, l19, g19⟩ := k34_open hk
 have hc := blk_cell hbx
 have n_17 : W.cell? ⟨g, 17, none⟩ = some (.slice A17 x.f12.length c17) := hc 17
 have G17 := Aside0.mk g17
 have hm17 : x.f12.length ≤ 9223372036854775807 := g17.2.1
 have HL17 := Aside0.mk l17
 have HW := Aside0.mk (Below.refl W.heap.size W)
 have HA := Aside0.mk hb
 have HE := Aside0.mk HE
 have HZ := Aside0.mk hz
 clear hk hb hbx hc hz g11 l11 g12 l12 g16 l16 g17 l17 g18 l18 g19 l19
 have HPBare := Aside0.mk (show MayWatch w0 145 mBare x.f12 from (fun x cs W _ hb hk => m_bare W W x cs _ rfl hk (Below.refl _ _)))
 go_enter Tryz.func146, Tryz.ntmps146
 cases h1 : (decide ((x.f12.length : Int) ≤ 4) && x.f12.all mBare) with
 | true =>
   cases h2 : mIds x.f12 with
   | true =>
     go_wp2_with (first | (go_at_call 141; (with_reducible refine (all_Watch mBare 145 (fun _ _ => by kernel_rfl) w0 _ _ _ _ _ _ (by assumption) HPBare.out G17.out HA.out).mono ?_); rintro e w1 ⟨rfl, hb1⟩; replace HW := Aside0.mk (below_step HW.out hb1); replace HA := Aside0.mk (below_step HA.out hb1); replace n_17 := pw_cell_below hb1 n_17; clear hb1) | (go_at_call 147; (with_reducible refine (m_ids w0 _ _ _ _ _ (by assumption) HZ.out.s12 G17.out HA.out).mono ?_); rintro e w1 ⟨rfl, hb1⟩; replace HW := Aside0.mk (below_step HW.out hb1); replace HA := Aside0.mk (below_step HA.out hb1); replace n_17 := pw_cell_below hb1 n_17; clear hb1))
     go_ret
     exact ⟨by simp only [okF, h1, h2, Bool.not_true, Bool.not_false, Bool.true_and, Bool.false_and, Bool.and_true, Bool.and_false, Bool.true_or, Bool.false_or, Bool.or_true, Bool.or_false, Bool.false_eq_true, if_true, if_false]; rfl, HW.out⟩
   | false =>
     go_wp2_with (first | (go_at_call 141; (with_reducible refine (all_Watch mBare 145 (fun _ _ => by kernel_rfl) w0 _ _ _ _ _ _ (by assumption) HPBare.out G17.out HA.out).mono ?_); rintro e w1 ⟨rfl, hb1⟩; replace HW := Aside0.mk (below_step HW.out hb1); replace HA := Aside0.mk (below_step HA.out hb1); replace n_17 := pw_cell_below hb1 n_17; clear hb1) | (go_at_call 147; (with_reducible refine (m_ids w0 _ _ _ _ _ (by assumption) HZ.out.s12 G17.out HA.out).mono ?_); rintro e w1 ⟨rfl, hb1⟩; replace HW := Aside0.mk (below_step HW.out hb1); replace HA := Aside0.mk (below_step HA.out hb1); replace n_17 := pw_cell_below hb1 n_17; clear hb1))
     go_ret
     exact ⟨by simp only [okF, h1, h2, Bool.not_true, Bool.not_false, Bool.true_and, Bool.false_and, Bool.and_true, Bool.and_false, Bool.true_or, Bool.false_or, Bool.or_true, Bool.or_false, Bool.false_eq_true, if_true, if_false]; rfl, HW.out⟩
 | false =>
   go_wp2_with (go_at_call 141; (with_reducible refine (all_Watch mBare 145 (fun _ _ => by kernel_rfl) w0 _ _ _ _ _ _ (by assumption) HPBare.out G17.out HA.out).mono ?_); rintro e w1 ⟨rfl, hb1⟩; replace HW := Aside0.mk (below_step HW.out hb1); replace HA := Aside0.mk (below_step HA.out hb1); replace n_17 := pw_cell_below hb1 n_17; clear hb1)
   go_ret
   exact ⟨by simp only [okF, h1, Bool.not_true, Bool.not_false, Bool.true_and, Bool.false_and, Bool.and_true, Bool.and_false, Bool.true_or, Bool.false_or, Bool.or_true, Bool.or_false, Bool.false_eq_true, if_true, if_false]; rfl, HW.out⟩
set_option maxRecDepth 100000 in
set_option maxHeartbeats 1000000 in
theorem mc_le (w0 W : World) (g : Nat) (x : Note) (cs : List Value) (hk : k34.K w0 x cs) (hb : Below w0.heap.size w0 W) (hbx : W.heap[g]? = some (.cells cs.toArray 34 (0, 0))) (HE : Env w0) (hz : Sane x) (b : Bool) (h : okF .le x = b) :
   Calls Tryz.prog 238 #[.pointer (some ⟨g, 0, none⟩)] W fun e W' => e = .returned (.bool b) ∧ Below W.heap.size W W' := by
 subst h
 obtain ⟨A11, c11, A12, c12, A16, c16, A17, c17, A18, c18, A19, c19, rfl, l11, g11, l12, g12, l16, g16, l17, g17, l18, g18, l19, g19⟩ := k34_open hk
 have hc := blk_cell hbx
 have n_10 : W.cell? ⟨g, 10, none⟩ = some (.int .i64 x.f8) := hc 10
 have HW := Aside0.mk (Below.refl W.heap.size W)
 have HA := Aside0.mk hb
 have HE := Aside0.mk HE
 have HZ := Aside0.mk hz
 clear hk hb hbx hc hz g11 l11 g12 l12 g16 l16 g17 l17 g18 l18 g19 l19
 go_enter Tryz.func238, Tryz.ntmps238
 cases h1 : okNum x.f8 with
 | true =>
   go_wp2_with (go_at_call 91; (with_reducible refine (c_num1 _ _ (by first | rfl | simp) _ _ (by assumption)).mono ?_); rintro e w1 ⟨rfl, hb1⟩; replace HW := Aside0.mk (below_step HW.out hb1); replace HA := Aside0.mk (below_step HA.out hb1); replace n_10 := pw_cell_below hb1 n_10; clear hb1)
   go_ret
   exact ⟨by simp only [okF, h1, Bool.not_true, Bool.not_false, Bool.true_and, Bool.false_and, Bool.and_true, Bool.and_false, Bool.true_or, Bool.false_or, Bool.or_true, Bool.or_false, Bool.false_eq_true, if_true, if_false]; rfl, HW.out⟩
 | false =>
   go_wp2_with (go_at_call 91; (with_reducible refine (c_num1 _ _ (by first | rfl | simp) _ _ (by assumption)).mono ?_); rintro e w1 ⟨rfl, hb1⟩; replace HW := Aside0.mk (below_step HW.out hb1); replace HA := Aside0.mk (below_step HA.out hb1); replace n_10 := pw_cell_below hb1 n_10; clear hb1)
   go_ret
   exact ⟨by simp only [okF, h1, Bool.not_true, Bool.not_false, Bool.true_and, Bool.false_and, Bool.and_true, Bool.and_false, Bool.true_or, Bool.false_or, Bool.or_true, Bool.or_false, Bool.false_eq_true, if_true, if_false]; rfl, HW.out⟩
set_option maxRecDepth 100000 in
set_option maxHeartbeats 1000000 in
theorem mc_lv (w0 W : World) (g : Nat) (x : Note) (cs : List Value) (hk : k34.K w0 x cs) (hb : Below w0.heap.size w0 W) (hbx : W.heap[g]? = some (.cells cs.toArray 34 (0, 0))) (HE : Env w0) (hz : Sane x) (b : Bool) (h : okF .lv x = b) :
   Calls Tryz.prog 242 #[.pointer (some ⟨g, 0, none⟩)] W fun e W' => e = .returned (.bool b) ∧ Below W.heap.size W W' := by
 subst h
 obtain ⟨A11, c11, A12, c12, A16, c16, A17, c17, A18, c18, A19, c19, rfl, l11, g11, l12, g12, l16, g16, l17, g17, l18, g18, l19, g19⟩ := k34_open hk
 have hc := blk_cell hbx
 have n_1 : W.cell? ⟨g, 1, none⟩ = some (.int .i64 x.f1.f0) := hc 1
 have n_2 : W.cell? ⟨g, 2, none⟩ = some (.int .i64 x.f1.f1) := hc 2
 have n_3 : W.cell? ⟨g, 3, none⟩ = some (.int .i64 x.f1.f2) := hc 3
 have HW := Aside0.mk (Below.refl W.heap.size W)
 have HA := Aside0.mk hb
 have HE := Aside0.mk HE
 have HZ := Aside0.mk hz
 clear hk hb hbx hc hz g11 l11 g12 l12 g16 l16 g17 l17 g18 l18 g19 l19
 go_enter Tryz.func242, Tryz.ntmps242
 cases h1 : (okNum x.f1.f0 && okNum x.f1.f1 && okNum x.f1.f2) with
 | true =>
   go_wp2_with fail
   go_still_tail 15, (by kernel_rfl)
   change wpList _ _ _ _ _ W.drew
   have hd : Below W.heap.size W W.drew := below_drew (Below.refl _ _)
   generalize W.drew = w2 at hd ⊢
   have HD := Aside0.mk hd
   clear hd n_1 n_2 n_3
   go_wp2_with (go_at_call 91; (with_reducible refine (c_num3 _ _ (by first | rfl | simp) _ _ _ _ (by assumption)).mono ?_); rintro e w1 ⟨rfl, hb1⟩; have HB1 := Aside0.mk hb1; clear hb1)
   go_ret
   exact ⟨by simp only [okF, h1, Bool.not_true, Bool.not_false, Bool.true_and, Bool.false_and, Bool.and_true, Bool.and_false, Bool.true_or, Bool.false_or, Bool.or_true, Bool.or_false, Bool.false_eq_true, if_true, if_false]; rfl, below_step HD.out HB1.out⟩
 | false =>
   go_wp2_with fail
   go_still_tail 15, (by kernel_rfl)
   change wpList _ _ _ _ _ W.drew
   have hd : Below W.heap.size W W.drew := below_drew (Below.refl _ _)
   generalize W.drew = w2 at hd ⊢
   have HD := Aside0.mk hd
   clear hd n_1 n_2 n_3
   go_wp2_with (go_at_call 91; (with_reducible refine (c_num3 _ _ (by first | rfl | simp) _ _ _ _ (by assumption)).mono ?_); rintro e w1 ⟨rfl, hb1⟩; have HB1 := Aside0.mk hb1; clear hb1)
   go_ret
   exact ⟨by simp only [okF, h1, Bool.not_true, Bool.not_false, Bool.true_and, Bool.false_and, Bool.and_true, Bool.and_false, Bool.true_or, Bool.false_or, Bool.or_true, Bool.or_false, Bool.false_eq_true, if_true, if_false]; rfl, below_step HD.out HB1.out⟩
set_option maxRecDepth 100000 in
set_option maxHeartbeats 1000000 in
theorem mc_ly (w0 W : World) (g : Nat) (x : Note) (cs : List Value) (hk : k34.K w0 x cs) (hb : Below w0.heap.size w0 W) (hbx : W.heap[g]? = some (.cells cs.toArray 34 (0, 0))) (HE : Env w0) (hz : Sane x) (b : Bool) (h : okF .ly x = b) :
   Calls Tryz.prog 185 #[.pointer (some ⟨g, 0, none⟩)] W fun e W' => e = .returned (.bool b) ∧ Below W.heap.size W W' := by
 subst h
 obtain ⟨A11, c11, A12, c12, A16, c16, A17, c17, A18, c18, A19, c19, rfl, l11, g11, l12, g12, l16, g16, l17, g17, l18, g18, l19, g19⟩ := k34_open hk
 have hc := blk_cell hbx
 have n_13 : W.cell? ⟨g, 13, none⟩ = some (.int .i64 x.f11.f0) := hc 13
 have n_14 : W.cell? ⟨g, 14, none⟩ = some (.int .i64 x.f11.f1) := hc 14
 have n_15 : W.cell? ⟨g, 15, none⟩ = some (.int .i64 x.f11.f2) := hc 15
 have n_16 : W.cell? ⟨g, 16, none⟩ = some (.slice A16 x.f11.f3.length c16) := hc 16
 have G16 := Aside0.mk g16
 have hm16 : x.f11.f3.length ≤ 9223372036854775807 := g16.2.1
 have HL16 := Aside0.mk l16
 have HW := Aside0.mk (Below.refl W.heap.size W)
 have HA := Aside0.mk hb
 have HE := Aside0.mk HE
 have HZ := Aside0.mk hz
 clear hk hb hbx hc hz g11 l11 g12 l12 g16 l16 g17 l17 g18 l18 g19 l19
 go_enter Tryz.func185, Tryz.ntmps185
 cases h1 : mReply x.f11 with
 | true =>
   go_wp2_with (go_at_call 186; (with_reducible refine (m_reply w0 _ x.f11 _ _ (by assumption) (k29_mk w0 x.f11 HL16.out G16.out) HA.out HE.out HZ.out.kids).mono ?_); rintro e w1 ⟨rfl, hb1⟩; replace HW := Aside0.mk (below_step HW.out hb1); replace HA := Aside0.mk (below_step HA.out hb1); replace n_13 := pw_cell_below hb1 n_13; replace n_14 := pw_cell_below hb1 n_14; replace n_15 := pw_cell_below hb1 n_15; replace n_16 := pw_cell_below hb1 n_16; clear hb1)
   go_ret
   exact ⟨by simp only [okF, h1, Bool.not_true, Bool.not_false, Bool.true_and, Bool.false_and, Bool.and_true, Bool.and_false, Bool.true_or, Bool.false_or, Bool.or_true, Bool.or_false, Bool.false_eq_true, if_true, if_false]; rfl, HW.out⟩
 | false =>
   go_wp2_with (go_at_call 186; (with_reducible refine (m_reply w0 _ x.f11 _ _ (by assumption) (k29_mk w0 x.f11 HL16.out G16.out) HA.out HE.out HZ.out.kids).mono ?_); rintro e w1 ⟨rfl, hb1⟩; replace HW := Aside0.mk (below_step HW.out hb1); replace HA := Aside0.mk (below_step HA.out hb1); replace n_13 := pw_cell_below hb1 n_13; replace n_14 := pw_cell_below hb1 n_14; replace n_15 := pw_cell_below hb1 n_15; replace n_16 := pw_cell_below hb1 n_16; clear hb1)
   go_ret
   exact ⟨by simp only [okF, h1, Bool.not_true, Bool.not_false, Bool.true_and, Bool.false_and, Bool.and_true, Bool.and_false, Bool.true_or, Bool.false_or, Bool.or_true, Bool.or_false, Bool.false_eq_true, if_true, if_false]; rfl, HW.out⟩
set_option maxRecDepth 100000 in
set_option maxHeartbeats 1000000 in
theorem mc_la (w0 W : World) (g : Nat) (x : Note) (cs : List Value) (hk : k34.K w0 x cs) (hb : Below w0.heap.size w0 W) (hbx : W.heap[g]? = some (.cells cs.toArray 34 (0, 0))) (HE : Env w0) (hz : Sane x) (b : Bool) (h : okF .la x = b) :
   Calls Tryz.prog 190 #[.pointer (some ⟨g, 0, none⟩)] W fun e W' => e = .returned (.bool b) ∧ Below W.heap.size W W' := by
 subst h
 obtain ⟨A11, c11, A12, c12, A16, c16, A17, c17, A18, c18, A19, c19, rfl, l11, g11, l12, g12, l16, g16, l17, g17, l18, g18, l19, g19⟩ := k34_open hk
 have hc := blk_cell hbx
 have n_20 : W.cell? ⟨g, 20, none⟩ = some (.string x.f15) := hc 20
 have HW := Aside0.mk (Below.refl W.heap.size W)
 have HA := Aside0.mk hb
 have HE := Aside0.mk HE
 have HZ := Aside0.mk hz
 clear hk hb hbx hc hz g11 l11 g12 l12 g16 l16 g17 l17 g18 l18 g19 l19
 go_enter Tryz.func190, Tryz.ntmps190
 cases h1 : decide ((x.f15.size : Int) ≤ 200000) with
 | true =>
   have h1_0 : (decide (x.f15.size ≤ 200000)) = true := (by first | simpa using h1 | (simp only [decide_eq_false_iff_not, decide_eq_true_eq] at h1 ⊢; omega))
   have h1_1 : (decide ((200000 : Int) ≥ x.f15.size)) = true := h1
   go_wp2_with fail
   go_ret
   exact ⟨by simp only [okF, h1, Bool.not_true, Bool.not_false, Bool.true_and, Bool.false_and, Bool.and_true, Bool.and_false, Bool.true_or, Bool.false_or, Bool.or_true, Bool.or_false, Bool.false_eq_true, if_true, if_false]; rfl, HW.out⟩
 | false =>
   have h1_0 : (decide (x.f15.size ≤ 200000)) = false := (by first | simpa using h1 | (simp only [decide_eq_false_iff_not, decide_eq_true_eq] at h1 ⊢; omega))
   have h1_1 : (decide ((200000 : Int) ≥ x.f15.size)) = false := h1
   go_wp2_with fail
   go_ret
   exact ⟨by simp only [okF, h1, Bool.not_true, Bool.not_false, Bool.true_and, Bool.false_and, Bool.and_true, Bool.and_false, Bool.true_or, Bool.false_or, Bool.or_true, Bool.or_false, Bool.false_eq_true, if_true, if_false]; rfl, HW.out⟩
set_option maxRecDepth 100000 in
set_option maxHeartbeats 1000000 in
theorem mc_lo (w0 W : World) (g : Nat) (x : Note) (cs : List Value) (hk : k34.K w0 x cs) (hb : Below w0.heap.size w0 W) (hbx : W.heap[g]? = some (.cells cs.toArray 34 (0, 0))) (HE : Env w0) (hz : Sane x) (b : Bool) (h : okF .lo x = b) :
   Calls Tryz.prog 194 #[.pointer (some ⟨g, 0, none⟩)] W fun e W' => e = .returned (.bool b) ∧ Below W.heap.size W W' := by
 subst h
 obtain ⟨A11, c11, A12, c12, A16, c16, A17, c17, A18, c18, A19, c19, rfl, l11, g11, l12, g12, l16, g16, l17, g17, l18, g18, l19, g19⟩ := k34_open hk
 have hc := blk_cell hbx
 have n_11 : W.cell? ⟨g, 11, none⟩ = some (.slice A11 x.f9.length c11) := hc 11
 have G11 := Aside0.mk g11
 have hm11 : x.f9.length ≤ 9223372036854775807 := g11.2.1
 have HL11 := Aside0.mk l11
 have HW := Aside0.mk (Below.refl W.heap.size W)
 have HA := Aside0.mk hb
 have HE := Aside0.mk HE
 have HZ := Aside0.mk hz
 clear hk hb hbx hc hz g11 l11 g12 l12 g16 l16 g17 l17 g18 l18 g19 l19
 go_enter Tryz.func194, Tryz.ntmps194
 cases h1 : mOps x.f9 with
 | true =>
   go_wp2_with (go_at_call 119; (with_reducible refine (m_ops w0 _ _ _ _ _ (by assumption) G11.out HA.out).mono ?_); rintro e w1 ⟨rfl, hb1⟩; replace HW := Aside0.mk (below_step HW.out hb1); replace HA := Aside0.mk (below_step HA.out hb1); replace n_11 := pw_cell_below hb1 n_11; clear hb1)
   go_ret
   exact ⟨by simp only [okF, h1, Bool.not_true, Bool.not_false, Bool.true_and, Bool.false_and, Bool.and_true, Bool.and_false, Bool.true_or, Bool.false_or, Bool.or_true, Bool.or_false, Bool.false_eq_true, if_true, if_false]; rfl, HW.out⟩
 | false =>
   go_wp2_with (go_at_call 119; (with_reducible refine (m_ops w0 _ _ _ _ _ (by assumption) G11.out HA.out).mono ?_); rintro e w1 ⟨rfl, hb1⟩; replace HW := Aside0.mk (below_step HW.out hb1); replace HA := Aside0.mk (below_step HA.out hb1); replace n_11 := pw_cell_below hb1 n_11; clear hb1)
   go_ret
   exact ⟨by simp only [okF, h1, Bool.not_true, Bool.not_false, Bool.true_and, Bool.false_and, Bool.and_true, Bool.and_false, Bool.true_or, Bool.false_or, Bool.or_true, Bool.or_false, Bool.false_eq_true, if_true, if_false]; rfl, HW.out⟩
set_option maxRecDepth 100000 in
set_option maxHeartbeats 1000000 in
theorem mc_uE (w0 W : World) (g : Nat) (x : Note) (cs : List Value) (hk : k34.K w0 x cs) (hb : Below w0.heap.size w0 W) (hbx : W.heap[g]? = some (.cells cs.toArray 34 (0, 0))) (HE : Env w0) (hz : Sane x) (b : Bool) (h : okF .uE x = b) :
   Calls Tryz.prog 200 #[.pointer (some ⟨g, 0, none⟩)] W fun e W' => e = .returned (.bool b) ∧ Below W.heap.size W W' := by
 subst h
 obtain ⟨A11, c11, A12, c12, A16, c16, A17, c17, A18, c18, A19, c19, rfl, l11, g11, l12, g12, l16, g16, l17, g17, l18, g18, l19, g19⟩ := k34_open hk
 have hc := blk_cell hbx
 have n_12 : W.cell? ⟨g, 12, none⟩ = some (.slice A12 x.f10.length c12) := hc 12
 have G12 := Aside0.mk g12
 have hm12 : x.f10.length ≤ 9223372036854775807 := g12.2.1
 have HL12 := Aside0.mk l12
 have HW := Aside0.mk (Below.refl W.heap.size W)
 have HA := Aside0.mk hb
 have HE := Aside0.mk HE
 have HZ := Aside0.mk hz
 clear hk hb hbx hc hz g11 l11 g12 l12 g16 l16 g17 l17 g18 l18 g19 l19
 have HPEntry := Aside0.mk (show MayEntry w0 74 mEntry x.f10 from (fun x cs W _ hb hk => m_entry W W x cs _ rfl hk (Below.refl _ _)))
 go_enter Tryz.func200, Tryz.ntmps200
 cases h1 : (decide ((x.f10.length : Int) ≤ 16) && x.f10.all mEntry) with
 | true =>
   go_wp2_with (go_at_call 201; (with_reducible refine (all_Entry mEntry 74 (fun _ _ => by kernel_rfl) w0 _ _ _ _ _ _ (by assumption) HPEntry.out G12.out HA.out).mono ?_); rintro e w1 ⟨rfl, hb1⟩; replace HW := Aside0.mk (below_step HW.out hb1); replace HA := Aside0.mk (below_step HA.out hb1); replace n_12 := pw_cell_below hb1 n_12; clear hb1)
   go_ret
   exact ⟨by simp only [okF, h1, Bool.not_true, Bool.not_false, Bool.true_and, Bool.false_and, Bool.and_true, Bool.and_false, Bool.true_or, Bool.false_or, Bool.or_true, Bool.or_false, Bool.false_eq_true, if_true, if_false]; rfl, HW.out⟩
 | false =>
   go_wp2_with (go_at_call 201; (with_reducible refine (all_Entry mEntry 74 (fun _ _ => by kernel_rfl) w0 _ _ _ _ _ _ (by assumption) HPEntry.out G12.out HA.out).mono ?_); rintro e w1 ⟨rfl, hb1⟩; replace HW := Aside0.mk (below_step HW.out hb1); replace HA := Aside0.mk (below_step HA.out hb1); replace n_12 := pw_cell_below hb1 n_12; clear hb1)
   go_ret
   exact ⟨by simp only [okF, h1, Bool.not_true, Bool.not_false, Bool.true_and, Bool.false_and, Bool.and_true, Bool.and_false, Bool.true_or, Bool.false_or, Bool.or_true, Bool.or_false, Bool.false_eq_true, if_true, if_false]; rfl, HW.out⟩
set_option maxRecDepth 100000 in
set_option maxHeartbeats 1000000 in
theorem mc_uI (w0 W : World) (g : Nat) (x : Note) (cs : List Value) (hk : k34.K w0 x cs) (hb : Below w0.heap.size w0 W) (hbx : W.heap[g]? = some (.cells cs.toArray 34 (0, 0))) (HE : Env w0) (hz : Sane x) (b : Bool) (h : okF .uI x = b) :
   Calls Tryz.prog 209 #[.pointer (some ⟨g, 0, none⟩)] W fun e W' => e = .returned (.bool b) ∧ Below W.heap.size W W' := by
 subst h
 obtain ⟨A11, c11, A12, c12, A16, c16, A17, c17, A18, c18, A19, c19, rfl, l11, g11, l12, g12, l16, g16, l17, g17, l18, g18, l19, g19⟩ := k34_open hk
 have hc := blk_cell hbx
 have n_19 : W.cell? ⟨g, 19, none⟩ = some (.slice A19 x.f14.length c19) := hc 19
 have G19 := Aside0.mk g19
 have hm19 : x.f14.length ≤ 9223372036854775807 := g19.2.1
 have HL19 := Aside0.mk l19
 have HW := Aside0.mk (Below.refl W.heap.size W)
 have HA := Aside0.mk hb
 have HE := Aside0.mk HE
 have HZ := Aside0.mk hz
 clear hk hb hbx hc hz g11 l11 g12 l12 g16 l16 g17 l17 g18 l18 g19 l19
 go_enter Tryz.func209, Tryz.ntmps209
 cases h1 : mItems x.f14 with
 | true =>
   go_wp2_with (go_at_call 210; (with_reducible refine (m_items w0 _ _ _ _ HL19.out _ (by assumption) G19.out HA.out HE.out).mono ?_); rintro e w1 ⟨rfl, hb1⟩; replace HW := Aside0.mk (below_step HW.out hb1); replace HA := Aside0.mk (below_step HA.out hb1); replace n_19 := pw_cell_below hb1 n_19; clear hb1)
   go_ret
   exact ⟨by simp only [okF, h1, Bool.not_true, Bool.not_false, Bool.true_and, Bool.false_and, Bool.and_true, Bool.and_false, Bool.true_or, Bool.false_or, Bool.or_true, Bool.or_false, Bool.false_eq_true, if_true, if_false]; rfl, HW.out⟩
 | false =>
   go_wp2_with (go_at_call 210; (with_reducible refine (m_items w0 _ _ _ _ HL19.out _ (by assumption) G19.out HA.out HE.out).mono ?_); rintro e w1 ⟨rfl, hb1⟩; replace HW := Aside0.mk (below_step HW.out hb1); replace HA := Aside0.mk (below_step HA.out hb1); replace n_19 := pw_cell_below hb1 n_19; clear hb1)
   go_ret
   exact ⟨by simp only [okF, h1, Bool.not_true, Bool.not_false, Bool.true_and, Bool.false_and, Bool.and_true, Bool.and_false, Bool.true_or, Bool.false_or, Bool.or_true, Bool.or_false, Bool.false_eq_true, if_true, if_false]; rfl, HW.out⟩
set_option maxRecDepth 100000 in
set_option maxHeartbeats 1000000 in
theorem mc_uP (w0 W : World) (g : Nat) (x : Note) (cs : List Value) (hk : k34.K w0 x cs) (hb : Below w0.heap.size w0 W) (hbx : W.heap[g]? = some (.cells cs.toArray 34 (0, 0))) (HE : Env w0) (hz : Sane x) (b : Bool) (h : okF .uP x = b) :
   Calls Tryz.prog 218 #[.pointer (some ⟨g, 0, none⟩)] W fun e W' => e = .returned (.bool b) ∧ Below W.heap.size W W' := by
 subst h
 obtain ⟨A11, c11, A12, c12, A16, c16, A17, c17, A18, c18, A19, c19, rfl, l11, g11, l12, g12, l16, g16, l17, g17, l18, g18, l19, g19⟩ := k34_open hk
 have hc := blk_cell hbx
 have n_18 : W.cell? ⟨g, 18, none⟩ = some (.slice A18 x.f13.length c18) := hc 18
 have G18 := Aside0.mk g18
 have hm18 : x.f13.length ≤ 9223372036854775807 := g18.2.1
 have HL18 := Aside0.mk l18
 have HW := Aside0.mk (Below.refl W.heap.size W)
 have HA := Aside0.mk hb
 have HE := Aside0.mk HE
 have HZ := Aside0.mk hz
 clear hk hb hbx hc hz g11 l11 g12 l12 g16 l16 g17 l17 g18 l18 g19 l19
 go_enter Tryz.func218, Tryz.ntmps218
 cases h1 : (x.f13.length == 1) with
 | true =>
   have h1_0 : (((x.f13.length : Int) == 1)) = true := (by have hq_ := h1; simp only [beq_eq_false_iff_ne, beq_iff_eq, ne_eq] at hq_ ⊢; omega)
   have h1_1 : (((x.f13.length : Int) != 1)) = false := (by have hq_ := h1; simp only [beq_eq_false_iff_ne, beq_iff_eq, bne_iff_ne, bne_eq_false_iff_eq, ne_eq] at hq_ ⊢; omega)
   have hl1 : x.f13.length = 1 := by simpa using h1
   obtain ⟨y, hye⟩ : ∃ y, x.f13[0]? = some y := ⟨_, List.getElem?_eq_getElem (by omega)⟩
   have EY := Aside0.mk hye
   have hat := at_T86 G18.out ((0 : Nat) : Int) (by omega) (by omega)
   rw [show rd_T86 x.f13 ((0 : Nat) : Int) = y by unfold rd_T86; rw [Int.toNat_natCast, List.getD_eq_getElem?_getD, hye]; rfl, Int.toNat_natCast] at hat
   obtain ⟨adc, Ay4, cy4, rfl, c_0, c_1, c_2, c_3, c_4, ly4, gy4⟩ := hat
   have Gy4 := Aside0.mk gy4
   clear gy4
   replace c_0 := pw_cell_below HA.out c_0
   replace c_1 := pw_cell_below HA.out c_1
   replace c_2 := pw_cell_below HA.out c_2
   replace c_3 := pw_cell_below HA.out c_3
   replace c_4 := pw_cell_below HA.out c_4
   have hpo : 0 < x.f13.length := by omega
   have hpi : (0 : Int) < x.f13.length := by omega
   clear hye hl1
   simp only [Nat.zero_mul, Addr.add, Nat.add_zero, if_true] at c_0 c_1 c_2 c_3 c_4
   cases h2 : okNum y.f0 with
   | true =>
     cases h3 : decide (1 ≤ y.f0) with
     | true =>
       have h3_0 : (decide (y.f0 ≥ 1)) = true := h3
       go_wp2_with (go_at_call 91; (with_reducible refine (c_num1 _ _ (by first | rfl | simp) _ _ (by assumption)).mono ?_); rintro e w1 ⟨rfl, hb1⟩; replace HW := Aside0.mk (below_step HW.out hb1); replace HA := Aside0.mk (below_step HA.out hb1); replace n_18 := pw_cell_below hb1 n_18; replace c_0 := pw_cell_below hb1 c_0; replace c_1 := pw_cell_below hb1 c_1; replace c_2 := pw_cell_below hb1 c_2; replace c_3 := pw_cell_below hb1 c_3; replace c_4 := pw_cell_below hb1 c_4; clear hb1)
       go_ret
       exact ⟨by simp only [okF, EY.out, Option.elim, h1, h2, h3, Bool.not_true, Bool.not_false, Bool.true_and, Bool.false_and, Bool.and_true, Bool.and_false, Bool.true_or, Bool.false_or, Bool.or_true, Bool.or_false, Bool.false_eq_true, if_true, if_false]; rfl, HW.out⟩
     | false =>
       have h3_0 : (decide (y.f0 ≥ 1)) = false := h3
       go_wp2_with (go_at_call 91; (with_reducible refine (c_num1 _ _ (by first | rfl | simp) _ _ (by assumption)).mono ?_); rintro e w1 ⟨rfl, hb1⟩; replace HW := Aside0.mk (below_step HW.out hb1); replace HA := Aside0.mk (below_step HA.out hb1); replace n_18 := pw_cell_below hb1 n_18; replace c_0 := pw_cell_below hb1 c_0; replace c_1 := pw_cell_below hb1 c_1; replace c_2 := pw_cell_below hb1 c_2; replace c_3 := pw_cell_below hb1 c_3; replace c_4 := pw_cell_below hb1 c_4; clear hb1)
       go_ret
       exact ⟨by simp only [okF, EY.out, Option.elim, h1, h2, h3, Bool.not_true, Bool.not_false, Bool.true_and, Bool.false_and, Bool.and_true, Bool.and_false, Bool.true_or, Bool.false_or, Bool.or_true, Bool.or_false, Bool.false_eq_true, if_true, if_false]; rfl, HW.out⟩
   | false =>
     go_wp2_with (go_at_call 91; (with_reducible refine (c_num1 _ _ (by first | rfl | simp) _ _ (by assumption)).mono ?_); rintro e w1 ⟨rfl, hb1⟩; replace HW := Aside0.mk (below_step HW.out hb1); replace HA := Aside0.mk (below_step HA.out hb1); replace n_18 := pw_cell_below hb1 n_18; replace c_0 := pw_cell_below hb1 c_0; replace c_1 := pw_cell_below hb1 c_1; replace c_2 := pw_cell_below hb1 c_2; replace c_3 := pw_cell_below hb1 c_3; replace c_4 := pw_cell_below hb1 c_4; clear hb1)
     go_ret
     exact ⟨by simp only [okF, EY.out, Option.elim, h1, h2, Bool.not_true, Bool.not_false, Bool.true_and, Bool.false_and, Bool.and_true, Bool.and_false, Bool.true_or, Bool.false_or, Bool.or_true, Bool.or_false, Bool.false_eq_true, if_true, if_false]; rfl, HW.out⟩
 | false =>
   have h1_0 : (((x.f13.length : Int) == 1)) = false := (by have hq_ := h1; simp only [beq_eq_false_iff_ne, beq_iff_eq, ne_eq] at hq_ ⊢; omega)
   have h1_1 : (((x.f13.length : Int) != 1)) = true := (by have hq_ := h1; simp only [beq_eq_false_iff_ne, beq_iff_eq, bne_iff_ne, bne_eq_false_iff_eq, ne_eq] at hq_ ⊢; omega)
   go_wp2_with (go_at_call 91; (with_reducible refine (c_num1 _ _ (by first | rfl | simp) _ _ (by assumption)).mono ?_); rintro e w1 ⟨rfl, hb1⟩; replace HW := Aside0.mk (below_step HW.out hb1); replace HA := Aside0.mk (below_step HA.out hb1); replace n_18 := pw_cell_below hb1 n_18; clear hb1)
   go_ret
   exact ⟨by simp only [okF, h1, Bool.not_true, Bool.not_false, Bool.true_and, Bool.false_and, Bool.and_true, Bool.and_false, Bool.true_or, Bool.false_or, Bool.or_true, Bool.or_false, Bool.false_eq_true, if_true, if_false]; rfl, HW.out⟩
set_option maxRecDepth 100000 in
set_option maxHeartbeats 1000000 in
theorem m_granted (w0 W : World) (g : Nat) (x : Note) (cs : List Value) (hk : k34.K w0 x cs) (hb : Below w0.heap.size w0 W) (hbx : W.heap[g]? = some (.cells cs.toArray 34 (0, 0))) (HE : Env w0) (hz : Sane x) (h1 : x.f13.length = 1) (b : Bool) (h : mGranted x = b) :
   Calls Tryz.prog 90 #[.pointer (some ⟨g, 0, none⟩)] W fun e W' => e = .returned (.bool b) ∧ Below W.heap.size W W' := by
 subst h
 obtain ⟨A11, c11, A12, c12, A16, c16, A17, c17, A18, c18, A19, c19, rfl, l11, g11, l12, g12, l16, g16, l17, g17, l18, g18, l19, g19⟩ := k34_open hk
 have hc := blk_cell hbx
 have n_10 : W.cell? ⟨g, 10, none⟩ = some (.int .i64 x.f8) := hc 10
 have n_18 : W.cell? ⟨g, 18, none⟩ = some (.slice A18 x.f13.length c18) := hc 18
 have G18 := Aside0.mk g18
 have hm18 : x.f13.length ≤ 9223372036854775807 := g18.2.1
 have HL18 := Aside0.mk l18
 have HW := Aside0.mk (Below.refl W.heap.size W)
 have HA := Aside0.mk hb
 have HE := Aside0.mk HE
 have HZ := Aside0.mk hz
 clear hk hb hbx hc hz g11 l11 g12 l12 g16 l16 g17 l17 g18 l18 g19 l19
 go_enter Tryz.func90, Tryz.ntmps90
 have hl0 : (x.f13.length == 1) = true := by simpa using h1
 clear h1
 have hl1 : x.f13.length = 1 := by simpa using hl0
 obtain ⟨y, hye⟩ : ∃ y, x.f13[0]? = some y := ⟨_, List.getElem?_eq_getElem (by omega)⟩
 have EY := Aside0.mk hye
 have hat := at_T86 G18.out ((0 : Nat) : Int) (by omega) (by omega)
 rw [show rd_T86 x.f13 ((0 : Nat) : Int) = y by unfold rd_T86; rw [Int.toNat_natCast, List.getD_eq_getElem?_getD, hye]; rfl, Int.toNat_natCast] at hat
 obtain ⟨adc, Ay4, cy4, rfl, c_0, c_1, c_2, c_3, c_4, ly4, gy4⟩ := hat
 have Gy4 := Aside0.mk gy4
 clear gy4
 replace c_0 := pw_cell_below HA.out c_0
 replace c_1 := pw_cell_below HA.out c_1
 replace c_2 := pw_cell_below HA.out c_2
 replace c_3 := pw_cell_below HA.out c_3
 replace c_4 := pw_cell_below HA.out c_4
 have hpo : 0 < x.f13.length := by omega
 have hpi : (0 : Int) < x.f13.length := by omega
 clear hye hl1
 simp only [Nat.zero_mul, Addr.add, Nat.add_zero, if_true] at c_0 c_1 c_2 c_3 c_4
 cases h1 : (x.f8 == 0) with
 | true =>
   have h1_0 : ((x.f8 != 0)) = false := (by rw [bne, h1]; rfl)
   cases h2 : mShot y.f1 with
   | true =>
     go_wp2_with (go_at_call 150; (with_reducible refine (m_shot w0 _ y.f1 _ _ (by assumption) (k84_mk w0 y.f1 ly4 Gy4.out) HA.out HE.out).mono ?_); rintro e w1 ⟨rfl, hb1⟩; replace HW := Aside0.mk (below_step HW.out hb1); replace HA := Aside0.mk (below_step HA.out hb1); replace n_10 := pw_cell_below hb1 n_10; replace n_18 := pw_cell_below hb1 n_18; replace c_0 := pw_cell_below hb1 c_0; replace c_1 := pw_cell_below hb1 c_1; replace c_2 := pw_cell_below hb1 c_2; replace c_3 := pw_cell_below hb1 c_3; replace c_4 := pw_cell_below hb1 c_4; clear hb1)
     go_ret
     exact ⟨by simp only [mGranted, EY.out, Option.elim, h1, h2, Bool.not_true, Bool.not_false, Bool.true_and, Bool.false_and, Bool.and_true, Bool.and_false, Bool.true_or, Bool.false_or, Bool.or_true, Bool.or_false, Bool.false_eq_true, if_true, if_false]; rfl, HW.out⟩
   | false =>
     go_wp2_with (go_at_call 150; (with_reducible refine (m_shot w0 _ y.f1 _ _ (by assumption) (k84_mk w0 y.f1 ly4 Gy4.out) HA.out HE.out).mono ?_); rintro e w1 ⟨rfl, hb1⟩; replace HW := Aside0.mk (below_step HW.out hb1); replace HA := Aside0.mk (below_step HA.out hb1); replace n_10 := pw_cell_below hb1 n_10; replace n_18 := pw_cell_below hb1 n_18; replace c_0 := pw_cell_below hb1 c_0; replace c_1 := pw_cell_below hb1 c_1; replace c_2 := pw_cell_below hb1 c_2; replace c_3 := pw_cell_below hb1 c_3; replace c_4 := pw_cell_below hb1 c_4; clear hb1)
     go_ret
     exact ⟨by simp only [mGranted, EY.out, Option.elim, h1, h2, Bool.not_true, Bool.not_false, Bool.true_and, Bool.false_and, Bool.and_true, Bool.and_false, Bool.true_or, Bool.false_or, Bool.or_true, Bool.or_false, Bool.false_eq_true, if_true, if_false]; rfl, HW.out⟩
 | false =>
   have h1_0 : ((x.f8 != 0)) = true := (by rw [bne, h1]; rfl)
   cases h3 : mEmpty y.f1 with
   | true =>
     go_wp2_with (go_at_call 149; (with_reducible refine (m_empty w0 _ y.f1 _ _ (by assumption) (k84_mk w0 y.f1 ly4 Gy4.out) HA.out).mono ?_); rintro e w1 ⟨rfl, hb1⟩; replace HW := Aside0.mk (below_step HW.out hb1); replace HA := Aside0.mk (below_step HA.out hb1); replace n_10 := pw_cell_below hb1 n_10; replace n_18 := pw_cell_below hb1 n_18; replace c_0 := pw_cell_below hb1 c_0; replace c_1 := pw_cell_below hb1 c_1; replace c_2 := pw_cell_below hb1 c_2; replace c_3 := pw_cell_below hb1 c_3; replace c_4 := pw_cell_below hb1 c_4; clear hb1)
     go_ret
     exact ⟨by simp only [mGranted, EY.out, Option.elim, h1, h3, Bool.not_true, Bool.not_false, Bool.true_and, Bool.false_and, Bool.and_true, Bool.and_false, Bool.true_or, Bool.false_or, Bool.or_true, Bool.or_false, Bool.false_eq_true, if_true, if_false]; rfl, HW.out⟩
   | false =>
     go_wp2_with (go_at_call 149; (with_reducible refine (m_empty w0 _ y.f1 _ _ (by assumption) (k84_mk w0 y.f1 ly4 Gy4.out) HA.out).mono ?_); rintro e w1 ⟨rfl, hb1⟩; replace HW := Aside0.mk (below_step HW.out hb1); replace HA := Aside0.mk (below_step HA.out hb1); replace n_10 := pw_cell_below hb1 n_10; replace n_18 := pw_cell_below hb1 n_18; replace c_0 := pw_cell_below hb1 c_0; replace c_1 := pw_cell_below hb1 c_1; replace c_2 := pw_cell_below hb1 c_2; replace c_3 := pw_cell_below hb1 c_3; replace c_4 := pw_cell_below hb1 c_4; clear hb1)
     go_ret
     exact ⟨by simp only [mGranted, EY.out, Option.elim, h1, h3, Bool.not_true, Bool.not_false, Bool.true_and, Bool.false_and, Bool.and_true, Bool.and_false, Bool.true_or, Bool.false_or, Bool.or_true, Bool.or_false, Bool.false_eq_true, if_true, if_false]; rfl, HW.out⟩
end Go.Proofs.YtmneemhplffemaaGreatDoorRR.Tab
namespace Go.Proofs.YtmneemhplffemaaGreatDoorRR.Tab
open Go.RowKit Go.Proofs.YtmneemhplffemaaGreatDoorRR.Ord Go.Proofs.YtmneemhplffemaaGreatDoorRR.Name Go.Proofs.YtmneemhplffemaaGreatDoorRR.Ext Go.Proofs.YtmneemhplffemaaGreatDoorRR.Mem Go.Proofs.YtmneemhplffemaaGreatDoorRR.Law Go.Proofs.YtmneemhplffemaaGreatDoorRR.Row Go.Proofs.YtmneemhplffemaaGreatDoorRR.Ki Go.Proofs.YtmneemhplffemaaGreatDoorRR.Chk Go.Proofs.YtmneemhplffemaaGreatDoorRR.May Go.Proofs.YtmneemhplffemaaGreatDoorRRW.PrintWords


theorem add_wrap (a b : Nat) (h : a + b ≤ 9223372036854775807) : wrap64 ((a : Int) + b) = ((a + b : Nat) : Int) := by unfold wrap64; omega
attribute [local go_sem high] Eqs.eqView in
set_option maxRecDepth 100000 in
set_option maxHeartbeats 8000000 in
theorem m_blank (w0 W : World) (x : Note) (cs : List Value) (b : Bool) (h : mBlank x = b) (hk : k34.K w0 x cs) (hz : Sane x) :
   Calls Tryz.prog 44 #[.agg cs.toArray] W fun e W' => e = .returned (.bool b) ∧ Below W.heap.size W W' := by
 subst h
 obtain ⟨A11, c11, A12, c12, A16, c16, A17, c17, A18, c18, A19, c19, hcs, l11, g11, l12, g12, l16, g16, l17, g17, l18, g18, l19, g19⟩ := k34_open hk
 have HCS := Aside0.mk hcs
 clear hk hcs g11 l11 g12 l12 g16 l16 g17 l17 g18 l18 g19 l19
 have z9 := hz.s9
 have z10 := hz.s10
 have z11 := hz.s11
 have z12 := hz.s12
 have z13 := hz.s13
 have z14 := hz.s14
 obtain ⟨s1, e1⟩ : ∃ s, s = x.f9.length + x.f10.length := ⟨_, rfl⟩
 have b1 : x.f9.length + x.f10.length ≤ 9223372036854775807 := by omega
 obtain ⟨s2, e2⟩ : ∃ s, s = s1 + x.f11.f3.length := ⟨_, rfl⟩
 have b2 : s1 + x.f11.f3.length ≤ 9223372036854775807 := by omega
 obtain ⟨s3, e3⟩ : ∃ s, s = s2 + x.f12.length := ⟨_, rfl⟩
 have b3 : s2 + x.f12.length ≤ 9223372036854775807 := by omega
 obtain ⟨s4, e4⟩ : ∃ s, s = s3 + x.f13.length := ⟨_, rfl⟩
 have b4 : s3 + x.f13.length ≤ 9223372036854775807 := by omega
 obtain ⟨s5, e5⟩ : ∃ s, s = s4 + x.f14.length := ⟨_, rfl⟩
 have b5 : s4 + x.f14.length ≤ 9223372036854775807 := by omega
 have hn : s5 = x.f9.length + x.f10.length + x.f11.f3.length + x.f12.length + x.f13.length + x.f14.length := by omega
 have HN := Aside0.mk hn
 have hw1 : wrap64 (((x.f9.length : Nat) : Int) + x.f10.length) = ((s1 : Nat) : Int) := by rw [e1]; exact add_wrap _ _ b1
 have hw2 : wrap64 (((s1 : Nat) : Int) + x.f11.f3.length) = ((s2 : Nat) : Int) := by rw [e2]; exact add_wrap _ _ b2
 have hw3 : wrap64 (((s2 : Nat) : Int) + x.f12.length) = ((s3 : Nat) : Int) := by rw [e3]; exact add_wrap _ _ b3
 have hw4 : wrap64 (((s3 : Nat) : Int) + x.f13.length) = ((s4 : Nat) : Int) := by rw [e4]; exact add_wrap _ _ b4
 have hw5 : wrap64 (((s4 : Nat) : Int) + x.f14.length) = ((s5 : Nat) : Int) := by rw [e5]; exact add_wrap _ _ b5
 clear hn e1 e2 e3 e4 e5 b1 b2 b3 b4 b5 z9 z10 z11 z12 z13 z14 hz
 go_enter Tryz.func44, Tryz.ntmps44
 go_upto_region 1 with ((with_reducible refine gate_box (t := 34) rfl ?_); refine box_row rfl rfl rfl ?_; intro gb hgb w1 hbx hb1; have HBX := Aside0.mk hbx; have HB1 := Aside0.mk hb1; have HGB := Aside0.mk hgb; clear hbx hb1 hgb)
 have n_1 : w1.cell? ⟨gb, 1, none⟩ = some (.int .i64 x.f1.f0) := (blk_cell HBX.out 1).trans (by rw [HCS.out]; rfl)
 have n_2 : w1.cell? ⟨gb, 2, none⟩ = some (.int .i64 x.f1.f1) := (blk_cell HBX.out 2).trans (by rw [HCS.out]; rfl)
 have n_3 : w1.cell? ⟨gb, 3, none⟩ = some (.int .i64 x.f1.f2) := (blk_cell HBX.out 3).trans (by rw [HCS.out]; rfl)
 have n_4 : w1.cell? ⟨gb, 4, none⟩ = some (.int .i64 x.f2) := (blk_cell HBX.out 4).trans (by rw [HCS.out]; rfl)
 have n_5 : w1.cell? ⟨gb, 5, none⟩ = some (.int .i64 x.f3) := (blk_cell HBX.out 5).trans (by rw [HCS.out]; rfl)
 have n_6 : w1.cell? ⟨gb, 6, none⟩ = some (.int .i64 x.f4) := (blk_cell HBX.out 6).trans (by rw [HCS.out]; rfl)
 have n_7 : w1.cell? ⟨gb, 7, none⟩ = some (.int .i64 x.f5) := (blk_cell HBX.out 7).trans (by rw [HCS.out]; rfl)
 have n_8 : w1.cell? ⟨gb, 8, none⟩ = some (.int .i64 x.f6) := (blk_cell HBX.out 8).trans (by rw [HCS.out]; rfl)
 have n_9 : w1.cell? ⟨gb, 9, none⟩ = some (.int .i64 x.f7) := (blk_cell HBX.out 9).trans (by rw [HCS.out]; rfl)
 have n_10 : w1.cell? ⟨gb, 10, none⟩ = some (.int .i64 x.f8) := (blk_cell HBX.out 10).trans (by rw [HCS.out]; rfl)
 have n_11 : w1.cell? ⟨gb, 11, none⟩ = some (.slice A11 x.f9.length c11) := (blk_cell HBX.out 11).trans (by rw [HCS.out]; rfl)
 have n_12 : w1.cell? ⟨gb, 12, none⟩ = some (.slice A12 x.f10.length c12) := (blk_cell HBX.out 12).trans (by rw [HCS.out]; rfl)
 have n_13 : w1.cell? ⟨gb, 13, none⟩ = some (.int .i64 x.f11.f0) := (blk_cell HBX.out 13).trans (by rw [HCS.out]; rfl)
 have n_14 : w1.cell? ⟨gb, 14, none⟩ = some (.int .i64 x.f11.f1) := (blk_cell HBX.out 14).trans (by rw [HCS.out]; rfl)
 have n_15 : w1.cell? ⟨gb, 15, none⟩ = some (.int .i64 x.f11.f2) := (blk_cell HBX.out 15).trans (by rw [HCS.out]; rfl)
 have n_16 : w1.cell? ⟨gb, 16, none⟩ = some (.slice A16 x.f11.f3.length c16) := (blk_cell HBX.out 16).trans (by rw [HCS.out]; rfl)
 have n_17 : w1.cell? ⟨gb, 17, none⟩ = some (.slice A17 x.f12.length c17) := (blk_cell HBX.out 17).trans (by rw [HCS.out]; rfl)
 have n_18 : w1.cell? ⟨gb, 18, none⟩ = some (.slice A18 x.f13.length c18) := (blk_cell HBX.out 18).trans (by rw [HCS.out]; rfl)
 have n_19 : w1.cell? ⟨gb, 19, none⟩ = some (.slice A19 x.f14.length c19) := (blk_cell HBX.out 19).trans (by rw [HCS.out]; rfl)
 have n_20 : w1.cell? ⟨gb, 20, none⟩ = some (.string x.f15) := (blk_cell HBX.out 20).trans (by rw [HCS.out]; rfl)
 cases h1 : (x.f1.f0 == 0) with
 | true =>
   have h1_0 : ((x.f1.f0 != 0)) = false := (by rw [bne, h1]; rfl)
   cases h2 : (x.f1.f1 == 0) with
   | true =>
     have h2_0 : ((x.f1.f1 != 0)) = false := (by rw [bne, h2]; rfl)
     cases h3 : (x.f1.f2 == 0) with
     | true =>
       have h3_0 : ((x.f1.f2 != 0)) = false := (by rw [bne, h3]; rfl)
       cases h4 : (x.f2 == 0) with
       | true =>
         have h4_0 : ((x.f2 != 0)) = false := (by rw [bne, h4]; rfl)
         cases h5 : (x.f3 == 0) with
         | true =>
           have h5_0 : ((x.f3 != 0)) = false := (by rw [bne, h5]; rfl)
           cases h6 : (x.f4 == 0) with
           | true =>
             have h6_0 : ((x.f4 != 0)) = false := (by rw [bne, h6]; rfl)
             cases h7 : (x.f5 == 0) with
             | true =>
               have h7_0 : ((x.f5 != 0)) = false := (by rw [bne, h7]; rfl)
               cases h8 : (x.f6 == 0) with
               | true =>
                 have h8_0 : ((x.f6 != 0)) = false := (by rw [bne, h8]; rfl)
                 cases h9 : (x.f7 == 0) with
                 | true =>
                   have h9_0 : ((x.f7 != 0)) = false := (by rw [bne, h9]; rfl)
                   cases h10 : (x.f8 == 0) with
                   | true =>
                     have h10_0 : ((x.f8 != 0)) = false := (by rw [bne, h10]; rfl)
                     cases h11 : x.f15.toList.isEmpty with
                     | true =>
                       cases h12 : (x.f11.f0 == 0) with
                       | true =>
                         have h12_0 : ((x.f11.f0 != 0)) = false := (by rw [bne, h12]; rfl)
                         cases h13 : (x.f11.f1 == 0) with
                         | true =>
                           have h13_0 : ((x.f11.f1 != 0)) = false := (by rw [bne, h13]; rfl)
                           cases h14 : (x.f11.f2 == 0) with
                           | true =>
                             have h14_0 : ((x.f11.f2 != 0)) = false := (by rw [bne, h14]; rfl)
                             cases h15 : (s5 == 0) with
                             | true =>
                               have h15_0 : (((s5 : Int) == 0)) = true := (by have hq_ := h15; simp only [beq_eq_false_iff_ne, beq_iff_eq, ne_eq] at hq_ ⊢; omega)
                               have h15_1 : (((s5 : Int) != 0)) = false := (by have hq_ := h15; simp only [beq_eq_false_iff_ne, beq_iff_eq, bne_iff_ne, bne_eq_false_iff_eq, ne_eq] at hq_ ⊢; omega)
                               go_wp2_with fail
                               go_ret
                               exact ⟨by simp only [mBlank, ← HN.out, h1, h2, h3, h4, h5, h6, h7, h8, h9, h10, h11, h12, h13, h14, h15, Bool.not_true, Bool.not_false, Bool.true_and, Bool.false_and, Bool.and_true, Bool.and_false, Bool.true_or, Bool.false_or, Bool.or_true, Bool.or_false, Bool.false_eq_true, if_true, if_false]; rfl, HB1.out⟩
                             | false =>
                               have h15_0 : (((s5 : Int) == 0)) = false := (by have hq_ := h15; simp only [beq_eq_false_iff_ne, beq_iff_eq, ne_eq] at hq_ ⊢; omega)
                               have h15_1 : (((s5 : Int) != 0)) = true := (by have hq_ := h15; simp only [beq_eq_false_iff_ne, beq_iff_eq, bne_iff_ne, bne_eq_false_iff_eq, ne_eq] at hq_ ⊢; omega)
                               go_wp2_with fail
                               go_ret
                               exact ⟨by simp only [mBlank, ← HN.out, h1, h2, h3, h4, h5, h6, h7, h8, h9, h10, h11, h12, h13, h14, h15, Bool.not_true, Bool.not_false, Bool.true_and, Bool.false_and, Bool.and_true, Bool.and_false, Bool.true_or, Bool.false_or, Bool.or_true, Bool.or_false, Bool.false_eq_true, if_true, if_false]; rfl, HB1.out⟩
                           | false =>
                             have h14_0 : ((x.f11.f2 != 0)) = true := (by rw [bne, h14]; rfl)
                             go_wp2_with fail
                             go_ret
                             exact ⟨by simp only [mBlank, ← HN.out, h1, h2, h3, h4, h5, h6, h7, h8, h9, h10, h11, h12, h13, h14, Bool.not_true, Bool.not_false, Bool.true_and, Bool.false_and, Bool.and_true, Bool.and_false, Bool.true_or, Bool.false_or, Bool.or_true, Bool.or_false, Bool.false_eq_true, if_true, if_false]; rfl, HB1.out⟩
                         | false =>
                           have h13_0 : ((x.f11.f1 != 0)) = true := (by rw [bne, h13]; rfl)
                           go_wp2_with fail
                           go_ret
                           exact ⟨by simp only [mBlank, ← HN.out, h1, h2, h3, h4, h5, h6, h7, h8, h9, h10, h11, h12, h13, Bool.not_true, Bool.not_false, Bool.true_and, Bool.false_and, Bool.and_true, Bool.and_false, Bool.true_or, Bool.false_or, Bool.or_true, Bool.or_false, Bool.false_eq_true, if_true, if_false]; rfl, HB1.out⟩
                       | false =>
                         have h12_0 : ((x.f11.f0 != 0)) = true := (by rw [bne, h12]; rfl)
                         go_wp2_with fail
                         go_ret
                         exact ⟨by simp only [mBlank, ← HN.out, h1, h2, h3, h4, h5, h6, h7, h8, h9, h10, h11, h12, Bool.not_true, Bool.not_false, Bool.true_and, Bool.false_and, Bool.and_true, Bool.and_false, Bool.true_or, Bool.false_or, Bool.or_true, Bool.or_false, Bool.false_eq_true, if_true, if_false]; rfl, HB1.out⟩
                     | false =>
                       go_wp2_with fail
                       go_ret
                       exact ⟨by simp only [mBlank, ← HN.out, h1, h2, h3, h4, h5, h6, h7, h8, h9, h10, h11, Bool.not_true, Bool.not_false, Bool.true_and, Bool.false_and, Bool.and_true, Bool.and_false, Bool.true_or, Bool.false_or, Bool.or_true, Bool.or_false, Bool.false_eq_true, if_true, if_false]; rfl, HB1.out⟩
                   | false =>
                     have h10_0 : ((x.f8 != 0)) = true := (by rw [bne, h10]; rfl)
                     go_wp2_with fail
                     go_ret
                     exact ⟨by simp only [mBlank, ← HN.out, h1, h2, h3, h4, h5, h6, h7, h8, h9, h10, Bool.not_true, Bool.not_false, Bool.true_and, Bool.false_and, Bool.and_true, Bool.and_false, Bool.true_or, Bool.false_or, Bool.or_true, Bool.or_false, Bool.false_eq_true, if_true, if_false]; rfl, HB1.out⟩
                 | false =>
                   have h9_0 : ((x.f7 != 0)) = true := (by rw [bne, h9]; rfl)
                   go_wp2_with fail
                   go_ret
                   exact ⟨by simp only [mBlank, ← HN.out, h1, h2, h3, h4, h5, h6, h7, h8, h9, Bool.not_true, Bool.not_false, Bool.true_and, Bool.false_and, Bool.and_true, Bool.and_false, Bool.true_or, Bool.false_or, Bool.or_true, Bool.or_false, Bool.false_eq_true, if_true, if_false]; rfl, HB1.out⟩
               | false =>
                 have h8_0 : ((x.f6 != 0)) = true := (by rw [bne, h8]; rfl)
                 go_wp2_with fail
                 go_ret
                 exact ⟨by simp only [mBlank, ← HN.out, h1, h2, h3, h4, h5, h6, h7, h8, Bool.not_true, Bool.not_false, Bool.true_and, Bool.false_and, Bool.and_true, Bool.and_false, Bool.true_or, Bool.false_or, Bool.or_true, Bool.or_false, Bool.false_eq_true, if_true, if_false]; rfl, HB1.out⟩
             | false =>
               have h7_0 : ((x.f5 != 0)) = true := (by rw [bne, h7]; rfl)
               go_wp2_with fail
               go_ret
               exact ⟨by simp only [mBlank, ← HN.out, h1, h2, h3, h4, h5, h6, h7, Bool.not_true, Bool.not_false, Bool.true_and, Bool.false_and, Bool.and_true, Bool.and_false, Bool.true_or, Bool.false_or, Bool.or_true, Bool.or_false, Bool.false_eq_true, if_true, if_false]; rfl, HB1.out⟩
           | false =>
             have h6_0 : ((x.f4 != 0)) = true := (by rw [bne, h6]; rfl)
             go_wp2_with fail
             go_ret
             exact ⟨by simp only [mBlank, ← HN.out, h1, h2, h3, h4, h5, h6, Bool.not_true, Bool.not_false, Bool.true_and, Bool.false_and, Bool.and_true, Bool.and_false, Bool.true_or, Bool.false_or, Bool.or_true, Bool.or_false, Bool.false_eq_true, if_true, if_false]; rfl, HB1.out⟩
         | false =>
           have h5_0 : ((x.f3 != 0)) = true := (by rw [bne, h5]; rfl)
           go_wp2_with fail
           go_ret
           exact ⟨by simp only [mBlank, ← HN.out, h1, h2, h3, h4, h5, Bool.not_true, Bool.not_false, Bool.true_and, Bool.false_and, Bool.and_true, Bool.and_false, Bool.true_or, Bool.false_or, Bool.or_true, Bool.or_false, Bool.false_eq_true, if_true, if_false]; rfl, HB1.out⟩
       | false =>
         have h4_0 : ((x.f2 != 0)) = true := (by rw [bne, h4]; rfl)
         go_wp2_with fail
         go_ret
         exact ⟨by simp only [mBlank, ← HN.out, h1, h2, h3, h4, Bool.not_true, Bool.not_false, Bool.true_and, Bool.false_and, Bool.and_true, Bool.and_false, Bool.true_or, Bool.false_or, Bool.or_true, Bool.or_false, Bool.false_eq_true, if_true, if_false]; rfl, HB1.out⟩
     | false =>
       have h3_0 : ((x.f1.f2 != 0)) = true := (by rw [bne, h3]; rfl)
       go_wp2_with fail
       go_ret
       exact ⟨by simp only [mBlank, ← HN.out, h1, h2, h3, Bool.not_true, Bool.not_false, Bool.true_and, Bool.false_and, Bool.and_true, Bool.and_false, Bool.true_or, Bool.false_or, Bool.or_true, Bool.or_false, Bool.false_eq_true, if_true, if_false]; rfl, HB1.out⟩
   | false =>
     have h2_0 : ((x.f1.f1 != 0)) = true := (by rw [bne, h2]; rfl)
     go_wp2_with fail
     go_ret
     exact ⟨by simp only [mBlank, ← HN.out, h1, h2, Bool.not_true, Bool.not_false, Bool.true_and, Bool.false_and, Bool.and_true, Bool.and_false, Bool.true_or, Bool.false_or, Bool.or_true, Bool.or_false, Bool.false_eq_true, if_true, if_false]; rfl, HB1.out⟩
 | false =>
   have h1_0 : ((x.f1.f0 != 0)) = true := (by rw [bne, h1]; rfl)
   go_wp2_with fail
   go_ret
   exact ⟨by simp only [mBlank, ← HN.out, h1, Bool.not_true, Bool.not_false, Bool.true_and, Bool.false_and, Bool.and_true, Bool.and_false, Bool.true_or, Bool.false_or, Bool.or_true, Bool.or_false, Bool.false_eq_true, if_true, if_false]; rfl, HB1.out⟩
end Go.Proofs.YtmneemhplffemaaGreatDoorRR.Tab
