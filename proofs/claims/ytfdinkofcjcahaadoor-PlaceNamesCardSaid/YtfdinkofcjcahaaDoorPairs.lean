/- The walk of heraldlaw1.pairs: a list of pairs, each of one number twice. -/
import Derived.Test.YtfdinkofcjcahaaDoorOrder
import Derived.Test.YtfdinkofcjcahaaDoorWMore
namespace Go.Proofs.YtfdinkofcjcahaaDoor.Law
open Go.RowKit Go.Proofs.YtfdinkofcjcahaaDoorW.PrintWords

/-- A list of n pairs at A, each of one number twice. -/
structure Twice (W : World) (A : Addr) (zs : List Int) : Prop where mk ::
  first : ∀ i, i < zs.length → W.cell? (A.add (i * 2)) = some (.int .i64 (zs.getD i 0))
  second : ∀ i, i < zs.length → W.cell? ⟨(A.add (i * 2)).block, (A.add (i * 2)).off + 1, none⟩ = some (.int .i64 (zs.getD i 0))

theorem Twice.drawn {W W' : World} {A : Addr} {zs : List Int} (h : Twice W A zs) (hd : Drawn0 W W') : Twice W' A zs := by
  obtain ⟨n, rfl⟩ := hd
  exact ⟨fun i hi => h.first i hi, fun i hi => h.second i hi⟩
set_option maxRecDepth 100000 in
theorem pairs_any (A : Addr) (zs : List Int) (c : Nat) (hz : zs.length ≤ 1000) (w : World) (h : Twice w A zs) :
    Calls Tryd.prog 49 #[.slice (some A) zs.length c] w fun e w' => e = .returned (.bool true) ∧ Drawn0 w w' := by
  have HT := Aside0.mk h
  clear h
  go_enter Tryd.func49, Tryd.ntmps49
  go_wp2
  go_loopw [3] (fun v3 W => ∃ i : Nat, v3 = .int .i64 i ∧ i ≤ zs.length ∧ Drawn0 w W) (fun v3 _ => zs.length - (intOf v3).toNat)
  case atStart => exact ⟨0, rfl, Nat.zero_le _, Drawn0.refl w⟩
  case round =>
    obtain ⟨i, rfl, hi, HD⟩ := hrel
    by_cases hlt : i < zs.length
    · have hx := HT.out.drawn HD |>.first i hlt
      have hy := HT.out.drawn HD |>.second i hlt
      obtain ⟨z, hz'⟩ : ∃ z, z = zs.getD i 0 := ⟨_, rfl⟩
      rw [← hz'] at hx hy
      clear hz'
      go_wp2
      go_quiet (fail)
      go_wp2
      go_roundw
      case rel => exact ⟨i + 1, by go_num, by omega, HD.step _⟩
      case measure => simp [intOf]; omega
    · go_wp2
      go_ret
      exact ⟨rfl, HD⟩
/-- Each number twice, as cells. -/
def dup : List Int → List Value
  | [] => []
  | z :: r => .int .i64 z :: .int .i64 z :: dup r
theorem dup_at : ∀ (zs : List Int) (i : Nat), i < zs.length → (dup zs)[i * 2]? = some (.int .i64 (zs.getD i 0)) ∧ (dup zs)[i * 2 + 1]? = some (.int .i64 (zs.getD i 0))
  | [], i, h => absurd h (by simp)
  | z :: r, 0, _ => ⟨rfl, rfl⟩
  | z :: r, i + 1, h => by
    have ih := dup_at r i (by simpa using h)
    rw [show (i + 1) * 2 = i * 2 + 1 + 1 by omega]
    exact ih
theorem twice_new (w : World) (zs : List Int) (cs : Array Value) (t : TypeId) (h : cs.toList = dup zs) : Twice (w.alloc (.cells cs t)) ⟨w.heap.size, 0, none⟩ zs := by
  have e : ∀ k, (⟨w.heap.size, 0, none⟩ : Addr).add k = ⟨w.heap.size, k, none⟩ := fun k => by simp [Addr.add]; omega
  refine ⟨fun i hi => ?_, fun i hi => ?_⟩
  · rw [e, World.cell?_alloc_new, ← (dup_at zs i hi).1, ← h, Array.getElem?_toList]
  · rw [e]
    show (w.alloc (.cells cs t)).cell? ⟨w.heap.size, i * 2 + 1, none⟩ = _
    rw [World.cell?_alloc_new, ← (dup_at zs i hi).2, ← h, Array.getElem?_toList]
end Go.Proofs.YtfdinkofcjcahaaDoor.Law
