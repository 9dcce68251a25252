/- The walk of heraldlaw1.kinds: a closed sentence; its list of 95 pairs is built in one step (the walk's own simp set stops at so many). -/
import Derived.Test.YtfdinkofcjcahaaDoorPairs
namespace Go.Proofs.YtfdinkofcjcahaaDoor.Law
open Go.RowKit Go.Proofs.YtfdinkofcjcahaaDoorW.PrintWords

theorem build_pairs (w : World) (parts : Array (Nat × Value)) (cells : Array Value) (hf : Instr.fill (fun i => some (i * 2, 2)) ((Array.range (95 * 2)).map ((#[Value.int .i64 0, .int .i64 0] : Array Value)[· % 2]!)) parts.toList = some cells) :
    (Instr.buildSlice 63 95 parts).run Tryd.prog w = .ok (.slice (some ⟨w.heap.size, 0, none⟩) 95 95) (w.alloc (.cells cells 62)) := by
  have hu : Tryd.prog.underlying 63 = some (.slice 62) := Tryd.underlying63
  have hs : (sizeOf 62).run Tryd.prog w = .ok 2 w := by go_simp
  have hz : (zeroValue 62).run Tryd.prog w = .ok (.agg #[.int .i64 0, .int .i64 0]) w := by go_simp
  have hU : (underlying 63).run Tryd.prog w = .ok (.slice 62) w := by go_simp
  have hn : (newRow 62 cells).run Tryd.prog w = .ok ⟨w.heap.size, 0, none⟩ (w.alloc (.cells cells 62)) := by go_simp
  unfold Instr.buildSlice
  rw [Sem.run_bind, hU, Result.andThen_ok]
  simp only []
  rw [Sem.run_bind, hs, Result.andThen_ok, if_neg (by decide), if_neg (by decide), Sem.run_bind, hz, Result.andThen_ok, Sem.run_bind, Sem.run_pure, Result.andThen_ok]
  have hf' : Instr.fill (fun i => some (i * 2, 2)) ((Array.range (95 * 2)).map fun x => (Value.agg #[Value.int .i64 0, Value.int .i64 0]).cells[x % (Value.agg #[Value.int .i64 0, Value.int .i64 0]).cells.size]!) parts.toList = some cells := hf
  rw [hf']
  simp only []
  rw [Sem.run_bind, hn, Result.andThen_ok, Sem.run_pure]
theorem wp_build {o : Oper} {a : Act} {w : World} {K : Act → World → Prop} {Q : Exit → Act → World → Prop} {ps : Array (Nat × Operand)} (ho : o.op = .buildSlice 63 95 ps) (cells : Array Value)
    (hf : Instr.fill (fun i => some (i * 2, 2)) ((Array.range (95 * 2)).map ((#[Value.int .i64 0, Value.int .i64 0] : Array Value)[· % 2]!)) (ps.map fun (i, x) => (i, a.eval x)).toList = some cells)
    (h : K (a.put o.dst (.slice (some ⟨w.heap.size, 0, none⟩) 95 95)) (w.alloc (.cells cells 62))) : Oper.wp Tryd.prog o a w K Q := by
  obtain ⟨parts, hp⟩ : ∃ parts, (ps.map fun (i, x) => (i, a.eval x)) = parts := ⟨_, rfl⟩
  rw [hp] at hf
  have hr := build_pairs w parts cells hf
  clear hf
  unfold Oper.wp execOp
  rw [ho]
  dsimp only
  generalize hg : Array.map _ ps = parts'
  have e : parts' = parts := by
    rw [← hg, ← hp]
  subst e
  rw [Sem.run_bind, hr, Result.andThen_ok, Sem.run_pure]
  exact h
def kindNums : List Int := [1, 2, 3, 4, 5, 6, 7, 1, 2, 1, 2, 3, 1, 2, 3, 4, 1, 2, 3, 1, 2, 3, 4, 5, 6, 7, 8, 9, 10, 11, 12, 13, 14, 15, 16, 17, 18, 19, 20, 21, 22, 23, 24, 1, 2, 3, 4, 5, 6, 1, 2, 3, 4, 5, 6, 7, 8, 9, 10, 11, 12, 13, 14, 15, 16, 17, 1, 2, 3, 4, 5, 6, 1, 2, 3, 0, 1, 2, 3, 4, 0, 1, 2, 3, 4, 1, 2, 3, 4, 5, 6, 7, 8, 9, 10]
end Go.Proofs.YtfdinkofcjcahaaDoor.Law
