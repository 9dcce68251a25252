/- heraldlaw3.NoteTurned: the tied card holds: at every input that can be read, in every world that holds the listed tables, the call returns true and each argument reads as it read. No condition beyond the row's own. -/
import Derived.ArgAppend
import Derived.Below
import Derived.BigQuiet
import Derived.ChangeOld
import Derived.ChangeSlices
import Derived.Deep.AppendLies
import Derived.Deep.CutBlock
import Derived.Deep.DeepCutAuto
import Derived.Deep.DeepHandedRow
import Derived.Deep.Draws
import Derived.Deep.LoopGhost
import Derived.Deep.OwnRows
import Derived.Deep.QuietTactic
import Derived.Deep.RegionHeld3
import Derived.Deep.RegionLaw
import Derived.Deep.RegionLawGrows
import Derived.Deep.Slices
import Derived.Deep.WholeRow
import Derived.Defers
import Derived.HandedShaped
import Derived.KernelRfl
import Derived.Laws.BitsAllLaws
import Derived.Laws.BitsLemmas
import Derived.Laws.BytesArg
import Derived.Laws.EntriesVeiled
import Derived.Laws.IdiomCopy
import Derived.Laws.IdiomStrings
import Derived.Laws.MakeOwn
import Derived.Laws.OwnMore
import Derived.Laws.Rows
import Derived.Laws.Slices
import Derived.Laws.StructEq
import Derived.Laws.Tables
import Derived.Lib.AppendStr
import Derived.Lib.ConvBytes
import Derived.Lib.Hide
import Derived.Lib.Join
import Derived.Lib.LaidTab
import Derived.Lib.SplitLaws
import Derived.LoopTactic
import Derived.Maps.AppendAt
import Derived.OpenShut
import Derived.OrdersHeld
import Derived.Outline
import Derived.OwnWalk
import Derived.ProofKit
import Derived.Recover
import Derived.RowKit
import Derived.RowKit3
import Derived.Shelf.LaysM
import Derived.Shelf.Strings.Count
import Derived.Shelf.Strings.Explode
import Derived.Shelf.Strings.Prefix
import Derived.Shelf.Strings.RuneCount
import Derived.Shelf.Strings.Search1
import Derived.Shelf.Strings.Search2
import Derived.Shelf.Strings.Search3
import Derived.Shelf.Strings.Shaped
import Derived.Shelf.Strings.Split
import Derived.Shelf.Strings.SplitShaped
import Derived.Shelf.Unicode.Decode
import Derived.Shelf.Unicode.DecodeAny
import Derived.Shelf.Unicode.DecodeSlow
import Derived.Shelf.Utf8.RuneCount
import Derived.Shelf.Vars
import Derived.ShutString
import Derived.SizedLaws
import Derived.StillTailTactics
import Derived.Tactics
import Derived.Test.YtmneemhplffemaaGreatDoorRRCards
import Derived.Test.YtmneemhplffemaaGreatDoorRRProg
import Derived.Test.YtmneemhplffemaaGreatDoorRRTie
import Derived.WalkKit
import Derived.WalkLawsBesides
import Derived.WideLaws
import Derived.Test.YtmneemhplffemaaGreatDoorRRJBf
set_option linter.unusedVariables false
set_option linter.unusedSimpArgs false
set_option linter.unusedVariables false
set_option linter.unusedSimpArgs false
namespace Go.Proofs.YtmneemhplffemaaGreatDoorRRW.PrintWords
open Go.RowKit
section
variable {α : Type} {enc : α → Value} {d : α}
theorem encs_append (xs ys : List α) : encs enc (xs ++ ys) = encs enc xs ++ encs enc ys := by simp [encs]
end
namespace Kd
section
variable {P : Program} {ops : Array Oper} {rest : List Oper} {o : Oper} {a : Act} {Q : Exit → Act → World → Prop}
variable {α : Type}
/-- A literal '[]T{..}': inner its cells. 'hd' picks the operation; 'hrun' by '(by go_simp; rfl)'. -/
theorem R_lit (d : Kd α) {w0 W : World} (base e : Nat) (hgd : o.guard = none) {N : Tmp} (_hd : o.dst = some N) {xs : List α} {inner : List Value} {ok okp : Nat → Prop}
    (hrun : (execOp a.eval o).run P W = .ok (.value (.slice (some ⟨W.heap.size, 0, none⟩) xs.length xs.length)) (W.alloc (.cells inner.toArray e)))
    (hrep : Reps (d.M W base okp) d.sz xs inner) (hok : ∀ k, okp k → ok k) (hfresh : ok W.heap.size) (HB : Below base w0 W) (hbase : base ≤ W.heap.size) (hm : xs.length ≤ 9223372036854775807)
    (h : ∀ v1 w1, d.R e w1 base ok v1 xs → Below base w0 w1 → W.grownBy w1 none → (∃ b, v1.ownBlock = some b ∧ W.heap.size ≤ b) → wpList P ops Q rest (a.put o.dst v1) w1) : wpList P ops Q (o :: rest) a W := by
  refine event_run hgd hrun (h _ _ ⟨fun k hk => ?_, inner, ?_, ?_⟩ (HB.alloc hbase _) (World.grownBy_alloc W _ none) ⟨W.heap.size, by simp [Value.ownBlock], Nat.le_refl _⟩)
  · have : W.heap.size = k := by simpa [Value.ownBlock] using hk
    subst this
    exact hfresh
  · have h2 := World.ownsRow_lit (base := base) (e := e) (size := d.sz) W inner.toArray xs.length hbase (by simpa [maxLen] using hm) (by simpa using hrep.1)
    simpa using h2
  · refine hrep.imp_ (fun p c hp => d.M_mono (fun k hk => ⟨hok k hk.1, fun he => ?_⟩) (M_below (d.M_bound hp) (below_alloc (Below.refl _ _) _)))
    have h3 : k = W.heap.size := by simpa [Value.ownBlock] using he
    have := hk.2.2.1
    omega
theorem reps_made {α : Type} {R : α → List Value → Prop} {z : Value} {size : Nat} {z0 : α} (hz : z.cells.size = size) (hs : 0 < size) (h0 : R z0 z.cells.toList) (m : Nat) : Reps R size (List.replicate m z0) (madeCells z.cells (m * size)).toList := by
  refine ⟨by simp [size_madeCells], fun j p hj => ?_⟩
  obtain ⟨hjl, hp⟩ := List.getElem?_eq_some_iff.1 hj
  have hjm : j < m := by simpa using hjl
  have hp' : z0 = p := by simpa using hp
  subst hp'
  have hle : j * size + size ≤ m * size := by rw [← Nat.succ_mul]; exact Nat.mul_le_mul_right _ hjm
  have : ((madeCells z.cells (m * size)).toList.drop (j * size)).take size = z.cells.toList := by
    apply List.ext_getElem
    · simp [size_madeCells, hz]
      omega
    · intro i h1 h2
      have hi : i < size := by rw [Array.length_toList, hz] at h2; exact h2
      have hmod : (j * size + i) % size = i := by
        rw [Nat.mul_comm, Nat.mul_add_mod]
        exact Nat.mod_eq_of_lt hi
      simp [madeCells, hz, hmod]
      rw [getElem!_pos z.cells i (by omega)]
  rw [this]
  exact h0
/-- make([]T, n): every element is z0, whose cells are the type's zero's. -/
theorem R_make (d : Kd α) {w0 W : World} (base e : Nat) (hgd : o.guard = none) {N : Tmp} (hd : o.dst = some N) (t : TypeId) (x y : Operand) (ho : o.op = .makeSlice t x y) (n : Int) (hx : a.eval x = .int .i64 n) (hy : a.eval y = .int .i64 n)
    (ht : P.underlying t = some (.slice e)) (z : Value) (bytes : Nat) (hinfo : (P.info? e).map (fun i => (i.zero, i.size, i.bytes)) = some (some z, d.sz, bytes)) (hz : z.cells.size = d.sz) (hs0 : 0 < d.sz) (hb0 : 0 < bytes)
    (z0 : α) {ok okp : Nat → Prop} (hzero : d.M W base okp z0 z.cells.toList) (hok : ∀ k, okp k → ok k) (hfresh : ok W.heap.size) (h0 : 0 ≤ n) (hl : n.toNat * bytes ≤ 281474976710656) (HB : Below base w0 W) (hbase : base ≤ W.heap.size)
    (h : ∀ v1 w1, d.R e w1 base ok v1 (List.replicate n.toNat z0) → Below base w0 w1 → W.grownBy w1 none → (∃ b, v1.ownBlock = some b ∧ W.heap.size ≤ b) → wpList P ops Q rest (a.put o.dst v1) w1) : wpList P ops Q (o :: rest) a W := by
  obtain ⟨m, rfl⟩ := Int.eq_ofNat_of_zero_le h0
  simp only [Int.toNat_natCast] at hl h
  obtain ⟨i0, hi, hzz⟩ := Option.map_eq_some_iff.1 hinfo
  simp only [Prod.mk.injEq] at hzz
  obtain ⟨hz0, hz1, hz2⟩ := hzz
  have hm : m ≤ 281474976710656 := Nat.le_trans (Nat.le_mul_of_pos_right _ hb0) hl
  have hr := run_make (P := P) W t e i0 z ht hi hz0 .i64 .i64 (m : Int) (m : Int) (by omega) (by omega)
    (by
      have h3 : ((i0.bytes * m : Nat) : Int) ≤ 281474976710656 := by rw [hz2, Nat.mul_comm]; omega
      rwa [Int.natCast_mul] at h3) (by omega)
  simp only [Int.toNat_natCast] at hr
  rw [hz1] at hr
  refine R_lit d base e hgd hd (xs := List.replicate m z0) (inner := (madeCells z.cells (m * d.sz)).toList) (okp := okp) (ok := ok) ?_ (reps_made hz hs0 hzero m) hok hfresh HB hbase (by simp; omega) h
  simp [execOp, ho, hx, hy, hr]
end
end Kd
section
variable {w w1 : World} {base n size : Nat} {e : TypeId} {v : Value} {xs : List Value}
/-- What a run of cells written leaves. -/
theorem setCells_far {g : Nat} : ∀ (vs : List Value) (o : Nat) {w : World} (k : Nat), k ≠ g → (w.setCells g o vs).heap[k]? = w.heap[k]?
  | [], _, _, _, _ => rfl
  | v :: r, o, w, k, hk => by
    rw [World.setCells, setCells_far r (o + 1) k hk]
    exact Below.heap_setCell w ⟨g, o, none⟩ v k hk
theorem setCells_same (g : Nat) : ∀ (vs : List Value) (o : Nat) (w : World), (w.setCells g o vs).os = w.os ∧ (w.setCells g o vs).tape = w.tape ∧ (w.setCells g o vs).output = w.output ∧ (w.setCells g o vs).heap.size = w.heap.size
  | [], _, _ => ⟨rfl, rfl, rfl, rfl⟩
  | v :: r, o, w => by
    obtain ⟨h1, h2, h3, h4⟩ := setCells_same g r (o + 1) (w.setCell ⟨g, o, none⟩ v)
    rw [World.setCells]
    exact ⟨h1, h2, h3, by rw [h4]; simp [World.setCell]⟩
theorem setCells_row {g : Nat} {e : TypeId} : ∀ (vs : List Value) (o : Nat) (w : World) (cur : Array Value), w.heap[g]? = some (.cells cur e (0, 0)) → o + vs.length ≤ cur.size →
    ∃ cur', (w.setCells g o vs).heap[g]? = some (.cells cur' e (0, 0)) ∧ cur'.size = cur.size ∧ cur'.toList = cur.toList.take o ++ vs ++ cur.toList.drop (o + vs.length)
  | [], o, w, cur, h, _ => ⟨cur, h, rfl, by simp⟩
  | v :: r, o, w, cur, h, hl => by
    have h2 := blk_set h o v
    simp only [List.length_cons] at hl
    obtain ⟨cur', h3, h4, h5⟩ := setCells_row r (o + 1) (w.setCell ⟨g, o, none⟩ v) _ h2 (by simp; omega)
    refine ⟨cur', h3, by rw [h4]; simp, ?_⟩
    rw [h5, Array.toList_setIfInBounds]
    have ho : o < cur.toList.length := by rw [Array.length_toList]; omega
    rw [List.take_set, List.drop_set_of_lt (by omega)]
    simp only [List.length_cons]
    rw [show o + 1 + r.length = o + (r.length + 1) by omega]
    congr 1
    rw [List.take_succ_eq_append_getElem ho, List.set_append_right _ _ (by rw [List.length_take]; omega)]
    have ho' : o < cur.size := by omega
    simp [Nat.min_eq_left (Nat.le_of_lt ho')]
end
namespace Kd
section
variable {P : Program} {ops : Array Oper} {rest : List Oper} {o : Oper} {a : Act} {Q : Exit → Act → World → Prop} {α : Type}
/-- copy(v, ys), v a row of scalars of one's own: its first cells are ys' then. -/
theorem R_copy {enc : α → Value} {h1 : ∀ x, (enc x).oneCell' = true} (d : α) {w0 W : World} (base : Nat) (hgd : o.guard = none) (s x : Operand) (t t' e : TypeId)
    (ho : o.op = .call { callee := .builtin .copy, args := #[s, x], argTypes := #[t, t'] }) (ht : P.underlying t = some (.slice e)) (hinfo : (P.info? e).map (·.size) = some 1)
    (v : Value) (xs ys : List α) (A : Option Addr) (m c : Nat) (ok : Nat → Prop) (hs : a.eval s = v) (hx : a.eval x = .slice A m c)
    (HO : (scalar enc h1).R e W base ok v xs) (HR : (scalar enc h1).C W A m ys) (HB : Below base w0 W) (hbase : base ≤ W.heap.size)
    (h : ∀ w1, (scalar enc h1).R e w1 base ok v (ys.take (min m xs.length) ++ xs.drop (min m xs.length)) → Below base w0 w1 → W.grownBy w1 v.ownBlock → wpList P ops Q rest (a.put o.dst (.int .i64 ((min m xs.length : Nat) : Int))) w1) :
    wpList P ops Q (o :: rest) a W := by
  have hR := reads_of_C (enc := enc) (d := d) (h1 := h1) HR
  have hm : ys.length = m := hR.1
  have hown := own_of_R HO
  have fin : ∀ w1, (Builtin.copy_ #[t, t'] o.type #[v, .slice A m c]).run P W = .ok (goInt ((min m xs.length : Nat) : Int)) w1 → (scalar enc h1).R e w1 base ok v (ys.take (min m xs.length) ++ xs.drop (min m xs.length)) → W.grownBy w1 v.ownBlock → wpList P ops Q (o :: rest) a W := by
    intro w1 hr hrow hg
    refine wpList_plain hgd fun K hK => ?_
    unfold Oper.wp execOp
    simp only [ho, resolve, invoke, builtin, Sem.run_bind, Sem.run_pure, Result.andThen_ok, List.map_toArray, List.map_cons, List.map_nil, hs, hx, hr]
    exact hK _ _ (h w1 hrow (HB.grown hg hbase (own_base hown)) hg)
  rcases Nat.eq_zero_or_pos (min m xs.length) with h0 | hp
  · obtain ⟨A', c', hv⟩ := own_slice hown
    refine fin W ?_ (by rw [h0, List.take_zero, List.drop_zero, List.nil_append]; exact HO) (World.grownBy.refl W _)
    rw [h0, hv]
    exact run_copy_none W t t' o.type e A' A xs.length c' m c ht hinfo h0
  · obtain ⟨ad, hA, hc⟩ := hR.2.2 (by omega)
    rcases hown.2 with ⟨_, hx0⟩ | ⟨g, cap, cur, hv, hb, hh, hnc, hcm, hcs, htake⟩
    · omega
    have hcs1 : cur.size = cap := by omega
    have hsrc : ∀ j u, (encs enc (ys.take (min m xs.length)))[j]? = some u → W.cell? (ad.add j) = some u := by
      intro j u hu
      have hj : j < (ys.take (min m xs.length)).length := by
        rcases Nat.lt_or_ge j (ys.take (min m xs.length)).length with h | h
        · exact h
        · rw [List.getElem?_eq_none (by rw [encs_length]; exact h)] at hu
          cases hu
      have hjm : j < min m xs.length := by rw [List.length_take] at hj; omega
      rw [encs_get (d := d) _ j hj] at hu
      rw [hc j (by omega), ← hu]
      simp [List.getD_eq_getElem?_getD, hjm]
    have hkl : (encs enc (ys.take (min m xs.length))).length = min m xs.length := by rw [encs_length, List.length_take]; omega
    have hr := run_copy_cells (P := P) W t t' o.type e g 0 xs.length cap ad m c (encs enc (ys.take (min m xs.length))) ht hinfo (by rw [hkl]) hsrc
      (fun j hj => by rw [cell_of_row W g _ cur e (0, 0) hh]; simp; omega) (fun j _ => blk_frozen hh _) (by intro u hu; simp only [encs, List.mem_map] at hu; obtain ⟨q, _, rfl⟩ := hu; exact h1 q)
    obtain ⟨cur', h3, h4, h5⟩ := setCells_row (encs enc (ys.take (min m xs.length))) 0 W cur hh (by rw [hkl]; omega)
    obtain ⟨s1, s2, s3, s4⟩ := setCells_same g (encs enc (ys.take (min m xs.length))) 0 W
    refine fin _ (by rw [hv, hA, hr, hkl]) (R_of_own ?_ HO.1) ⟨s1, s2, s3, by rw [s4]; exact Nat.le_refl _, fun k _ hk => setCells_far _ _ k (fun he => hk (by rw [hv, he]; simp [Value.ownBlock]))⟩
    have hln : (ys.take (min m xs.length) ++ xs.drop (min m xs.length)).length = xs.length := by
      rw [List.length_append, List.length_take, List.length_drop]
      omega
    rw [hln]
    refine ⟨by rw [encs_length, hln, Nat.mul_one], .inr ⟨g, cap, cur', hv, hb, h3, hnc, hcm, by rw [h4, hcs], ?_⟩⟩
    rw [h5, List.take_zero, List.nil_append, hkl, Nat.zero_add, encs_append, Nat.mul_one]
    rw [List.take_append, hkl, List.take_of_length_le (by rw [hkl]; omega)]
    congr 1
    have htk : cur.toList.take xs.length = encs enc xs := by rw [← htake, Nat.mul_one]
    have hd : encs enc (xs.drop (min m xs.length)) = (encs enc xs).drop (min m xs.length) := by simp [encs, List.map_drop]
    rw [hd, ← htk, List.drop_take]
end
end Kd
end Go.Proofs.YtmneemhplffemaaGreatDoorRRW.PrintWords
namespace Go.Proofs.YtmneemhplffemaaGreatDoorRR.Crc
def crcTab : List Nat := [0x00000000, 0x1db71064, 0x3b6e20c8, 0x26d930ac, 0x76dc4190, 0x6b6b51f4, 0x4db26158, 0x5005713c, 0xedb88320, 0xf00f9344, 0xd6d6a3e8, 0xcb61b38c, 0x9b64c2b0, 0x86d3d2d4, 0xa00ae278, 0xbdbdf21c]
def tabAt (n : Nat) : Nat := crcTab.getD n 0
/-- Half a byte. -/
def half (r : Nat) : Nat := (r / 16) ^^^ tabAt (r % 16)
/-- A byte. -/
def byteStep (r b : Nat) : Nat := half (half (r ^^^ b))
def sumFrom (r : Nat) (l : List Nat) : Nat := l.foldl byteStep r
/-- The sum of bytes. -/
def sumN (l : List Nat) : Nat := sumFrom 0xffffffff l ^^^ 0xffffffff
theorem tabAt_lt (n : Nat) : tabAt n < 2 ^ 32 := by
  have h : ∀ m : Fin 16, tabAt m.val < 2 ^ 32 := by decide
  rcases Nat.lt_or_ge n 16 with h1 | h1
  · exact h ⟨n, h1⟩
  · unfold tabAt
    rw [List.getD_eq_getElem?_getD, List.getElem?_eq_none (by simpa [crcTab] using h1)]
    decide
theorem half_lt {r : Nat} (h : r < 2 ^ 32) : half r < 2 ^ 32 := Nat.xor_lt_two_pow (by omega) (tabAt_lt _)
theorem byteStep_lt {r b : Nat} (h : r < 2 ^ 32) (hb : b < 2 ^ 32) : byteStep r b < 2 ^ 32 := half_lt (half_lt (Nat.xor_lt_two_pow h hb))
theorem sumFrom_lt (l : List Nat) : ∀ {r : Nat}, r < 2 ^ 32 → (∀ b ∈ l, b < 256) → sumFrom r l < 2 ^ 32 := by
  induction l with
  | nil => intro r h _; exact h
  | cons b l ih => intro r h hb; exact ih (byteStep_lt h (by have := hb b List.mem_cons_self; omega)) (fun c hc => hb c (List.mem_cons_of_mem _ hc))
theorem sumN_lt {l : List Nat} (hb : ∀ b ∈ l, b < 256) : sumN l < 2 ^ 32 := Nat.xor_lt_two_pow (sumFrom_lt l (by decide) hb) (by decide)
theorem xor_right {a b c : Nat} (h : a ^^^ c = b ^^^ c) : a = b := by
  have h1 := congrArg (· ^^^ c) h
  simpa [Nat.xor_assoc] using h1
theorem xor_left {a b c : Nat} (h : c ^^^ a = c ^^^ b) : a = b := xor_right (c := c) (by rwa [Nat.xor_comm a, Nat.xor_comm b])
/-- The highest four bits tell which entry it was. -/
theorem half_inj {r s : Nat} (hr : r < 2 ^ 32) (hs : s < 2 ^ 32) (h : half r = half s) : r = s := by
  have key : ∀ m n : Fin 16, tabAt m.val >>> 28 = tabAt n.val >>> 28 → m = n := by decide
  have h1 : (half r) >>> 28 = (half s) >>> 28 := by rw [h]
  unfold half at h1 h
  rw [Nat.shiftRight_xor_distrib, Nat.shiftRight_xor_distrib] at h1
  have z : ∀ q : Nat, q < 2 ^ 32 → (q / 16) >>> 28 = 0 := by
    intro q hq
    rw [Nat.shiftRight_eq_div_pow]
    omega
  rw [z r hr, z s hs, Nat.zero_xor, Nat.zero_xor] at h1
  have h2 := key ⟨r % 16, by omega⟩ ⟨s % 16, by omega⟩ h1
  have h3 : r % 16 = s % 16 := congrArg Fin.val h2
  rw [h3] at h
  have h4 := xor_right h
  omega
theorem byteStep_inj {r s b : Nat} (hr : r < 2 ^ 32) (hs : s < 2 ^ 32) (hb : b < 256) (h : byteStep r b = byteStep s b) : r = s := by
  have h1 : r ^^^ b < 2 ^ 32 := Nat.xor_lt_two_pow hr (by omega)
  have h2 : s ^^^ b < 2 ^ 32 := Nat.xor_lt_two_pow hs (by omega)
  exact xor_right (half_inj h1 h2 (half_inj (half_lt h1) (half_lt h2) h))
theorem byteStep_inj2 {r b c : Nat} (hr : r < 2 ^ 32) (hb : b < 256) (hc : c < 256) (h : byteStep r b = byteStep r c) : b = c := by
  have h1 : r ^^^ b < 2 ^ 32 := Nat.xor_lt_two_pow hr (by omega)
  have h2 : r ^^^ c < 2 ^ 32 := Nat.xor_lt_two_pow hr (by omega)
  exact xor_left (half_inj h1 h2 (half_inj (half_lt h1) (half_lt h2) h))
theorem sumFrom_inj (l : List Nat) : ∀ {r s : Nat}, r < 2 ^ 32 → s < 2 ^ 32 → (∀ b ∈ l, b < 256) → sumFrom r l = sumFrom s l → r = s := by
  induction l with
  | nil => intro r s _ _ _ h; exact h
  | cons b l ih =>
    intro r s hr hs hb h
    have h0 := hb b List.mem_cons_self
    exact byteStep_inj hr hs h0 (ih (byteStep_lt hr (by omega)) (byteStep_lt hs (by omega)) (fun c hc => hb c (List.mem_cons_of_mem _ hc)) h)
/-- Two rows of bytes of one length that differ in one place have other sums. -/
theorem sumN_turned {u v : List Nat} {b c : Nat} (hu : ∀ x ∈ u, x < 256) (hv : ∀ x ∈ v, x < 256) (hb : b < 256) (hc : c < 256) (h : sumN (u ++ b :: v) = sumN (u ++ c :: v)) : b = c := by
  have h1 := xor_right h
  unfold sumFrom at h1
  rw [List.foldl_append, List.foldl_append, List.foldl_cons, List.foldl_cons] at h1
  have hr : u.foldl byteStep 0xffffffff < 2 ^ 32 := sumFrom_lt u (by decide) hu
  exact byteStep_inj2 hr hb hc (sumFrom_inj v (byteStep_lt hr (by omega)) (byteStep_lt hr (by omega)) hv h1)
end Go.Proofs.YtmneemhplffemaaGreatDoorRR.Crc
namespace Go.Proofs.YtmneemhplffemaaGreatDoorRR.Sum
open Go.RowKit Go.Proofs.YtmneemhplffemaaGreatDoorRR.Ext Go.Proofs.YtmneemhplffemaaGreatDoorRR.Wire Go.Proofs.YtmneemhplffemaaGreatDoorRR.Mem Go.Proofs.YtmneemhplffemaaGreatDoorRR.Row Go.Proofs.YtmneemhplffemaaGreatDoorRR.Crc Go.Proofs.YtmneemhplffemaaGreatDoorRRW.PrintWords
set_option linter.unusedVariables false
set_option linter.unusedSimpArgs false
/-- The bytes of a row, plainly. -/
def nats (xs : List Int) : List Nat := xs.map Int.toNat
def stepCells : List Value := crcTab.map fun n : Nat => .int .u32 (n : Int)
theorem stepCells_at {n : Nat} (h : n < 16) : stepCells.toArray[n]? = some (.int .u32 ((tabAt n : Nat) : Int)) := by
  have hl : n < crcTab.length := h
  simp only [stepCells, tabAt, List.getElem?_toArray, List.getElem?_map, List.getD_eq_getElem?_getD, List.getElem?_eq_getElem hl, Option.map_some, Option.getD_some]
theorem infoSteps : (Tryz.prog.info? 219).map (·.size) = some 16 := by kernel_rfl
theorem stepCells_one : ∀ u ∈ stepCells.toArray.toList, u.oneCell' = true := by
  intro u hu
  simp only [stepCells, List.mem_map] at hu
  obtain ⟨n, _, rfl⟩ := hu
  rfl
theorem half_step {s : Nat} (h : s < 4294967296) : bits .and .u32 (s : Int) 15 = ((s % 16 : Nat) : Int) ∧ s % 16 < 16 ∧ bits .xor .u32 ((s : Int) / 16) ((tabAt (s % 16) : Nat) : Int) = ((half s : Nat) : Int) := by
  refine ⟨?_, Nat.mod_lt _ (by decide), ?_⟩
  · rw [show (15 : Int) = ((15 : Nat) : Int) from rfl, u32_and_nat s 15 h (by decide), Nat.and_two_pow_sub_one_eq_mod s 4]
  · rw [show (s : Int) / 16 = ((s / 16 : Nat) : Int) by omega, u32_xor_nat _ _ (by omega) (tabAt_lt _)]
    rfl
theorem not_u32 {r : Nat} (h : r < 4294967296) : bits .xor .u32 IntKind.u32.max (r : Int) = ((r ^^^ 4294967295 : Nat) : Int) := by
  have e : IntKind.u32.max = ((4294967295 : Nat) : Int) := by kernel_rfl
  rw [e, u32_xor_nat 4294967295 r (by omega) h, Nat.xor_comm]
theorem nats_snoc {xs : List Int} {k : Nat} {x : Int} (h : xs[k]? = some x) : nats (xs.take (k + 1)) = nats (xs.take k) ++ [x.toNat] := by
  unfold nats
  rw [List.take_add_one, h]
  simp
set_option maxRecDepth 100000 in
set_option maxHeartbeats 2000000 in
theorem c_sum (W : World) (A : Option Addr) (c : Nat) (xs : List Int) (hC : (Kd.int .u8).C W A xs.length xs) (hB : Bytes xs) :
    Calls Tryz.prog 125 #[.slice A xs.length c] W fun e W' => e = .returned (.int .u32 ((sumN (nats xs) : Nat) : Int)) ∧ Below W.heap.size W W' := by
  have HC := Aside0.mk hC
  have HY := Aside0.mk hB
  have hm : xs.length ≤ 9223372036854775807 := hC.2.1
  clear hC hB
  go_enter Tryz.func125, Tryz.ntmps125
  go_upto_region 3 with ((with_reducible refine gate_store2 (t := 219) rfl ?_); refine store_row (cs := stepCells.toArray) rfl rfl rfl (Mem.blk_alloc _) rfl rfl infoSteps rfl stepCells_one ?_; intro w1 hm1 hx1; have HX1 := Aside0.mk hx1; have HB1 := Aside0.mk (Moved.above (w0 := W) hm1 (below_alloc (Below.refl _ _) _) (fun k hk => by omega)); clear hm1 hx1)
  go_wp2_with fail
  go_loopw [4, 10] (fun v4 v10 wr => ∃ k r : Nat, v10 = .int .i64 k ∧ v4 = .int .u32 r ∧ k ≤ xs.length ∧ r < 4294967296 ∧ Aside0 (sumFrom 0xffffffff (nats (xs.take k)) = r) ∧ Aside0 (Below W.heap.size W wr) ∧ Aside0 (wr.heap[W.heap.size]? = some (.cells stepCells.toArray 219 (0, 0)))) (fun _ vi _ => xs.length - (intOf vi).toNat)
  case atStart => exact ⟨0, 4294967295, rfl, rfl, Nat.zero_le _, by decide, ⟨rfl⟩, HB1, HX1⟩
  case round =>
    clear HB1 HX1
    obtain ⟨k, r, rfl, rfl, hk, hr, HS, HB, HX⟩ := hrel
    by_cases hlt : k < xs.length
    · obtain ⟨x, hx⟩ : ∃ x, xs[k]? = some x := ⟨_, List.getElem?_eq_getElem hlt⟩
      have hxb := HY.out x (List.mem_of_getElem? hx)
      obtain ⟨n, rfl⟩ := Int.eq_ofNat_of_zero_le hxb.1
      have hn : n < 256 := by omega
      obtain ⟨ad, rfl, a0⟩ := Kd.at_int (Kd.C_below HC.out HB.out) (k : Int) (by omega) (by omega)
      rw [show rd xs (k : Int) = (n : Int) by unfold rd; rw [Int.toNat_natCast, List.getD_eq_getElem?_getD, hx]; rfl, Int.toNat_natCast] at a0
      have HXK := Aside0.mk hx
      clear hx hxb
      have hk1 : k + 1 ≤ xs.length := hlt
      have f1 : (n : Int) % 4294967296 = (n : Int) := by omega
      have f2 : bits .xor .u32 (r : Int) (n : Int) = ((r ^^^ n : Nat) : Int) := u32_xor_nat r n hr (by omega)
      go_upto_region 7 with fail
      obtain ⟨s, hs⟩ : ∃ s, r ^^^ n = s := ⟨_, rfl⟩
      have hsl : s < 4294967296 := by rw [← hs]; exact Nat.xor_lt_two_pow (n := 32) hr (by omega)
      have HS1 := Aside0.mk hs
      rw [hs]
      obtain ⟨f3, hm16, f4⟩ := half_step hsl
      obtain ⟨i, hi⟩ : ∃ i, s % 16 = i := ⟨_, rfl⟩
      rw [hi] at f3 hm16 f4
      obtain ⟨h, hh⟩ : ∃ h, half s = h := ⟨_, rfl⟩
      have hhl : h < 4294967296 := by rw [← hh]; exact half_lt hsl
      rw [hh] at f4
      have HS2 := Aside0.mk hh
      have t1 : wr.cell? ⟨W.heap.size, i, none⟩ = some (.int .u32 ((tabAt i : Nat) : Int)) := (blk_cell HX.out i).trans (stepCells_at hm16)
      obtain ⟨g3, gm16, g4⟩ := half_step hhl
      obtain ⟨j, hj⟩ : ∃ j, h % 16 = j := ⟨_, rfl⟩
      rw [hj] at g3 gm16 g4
      obtain ⟨q, hq⟩ : ∃ q, half h = q := ⟨_, rfl⟩
      rw [hq] at g4
      have HS3 := Aside0.mk hq
      have t2 : wr.cell? ⟨W.heap.size, j, none⟩ = some (.int .u32 ((tabAt j : Nat) : Int)) := (blk_cell HX.out j).trans (stepCells_at gm16)
      clear hs hh hq hi hj f1 f2 hn
      go_wp2_with fail
      go_roundw
      case rel => clear f3 f4 g3 g4 t1 t2; exact ⟨k + 1, q, by go_num, rfl, hk1, by rw [← HS3.out, ← HS2.out]; exact half_lt (half_lt hsl), ⟨by rw [nats_snoc HXK.out]; unfold sumFrom at HS ⊢; rw [List.foldl_append, HS.out, List.foldl_cons, List.foldl_nil, Int.toNat_natCast]; unfold byteStep; rw [HS1.out, HS2.out, HS3.out]⟩, HB, HX⟩
      case measure => clear f3 f4 g3 g4 t1 t2 hm16 gm16 hsl hhl hr; simp [intOf]; omega
    · rw [List.take_of_length_le (by omega)] at HS
      have HR := Aside0.mk (not_u32 hr)
      go_wp2_with fail
      go_ret
      refine ⟨?_, HB.out⟩
      rw [HR.out, ← HS.out]
      rfl
end Go.Proofs.YtmneemhplffemaaGreatDoorRR.Sum
namespace Go.Proofs.YtmneemhplffemaaGreatDoorRR.Sum
open Go.RowKit Go.Proofs.YtmneemhplffemaaGreatDoorRR.Ext Go.Proofs.YtmneemhplffemaaGreatDoorRR.Wire Go.Proofs.YtmneemhplffemaaGreatDoorRR.Mem Go.Proofs.YtmneemhplffemaaGreatDoorRR.Row Go.Proofs.YtmneemhplffemaaGreatDoorRR.Crc Go.Proofs.YtmneemhplffemaaGreatDoorRRW.PrintWords
set_option linter.unusedVariables false
set_option linter.unusedSimpArgs false
/-- Is a number an address? -/
def addr (v : Int) : Bool := (decide (0 ≤ v) && decide (v ≤ 5)) || (decide (100 < v) && decide (v ≤ 106))
set_option maxRecDepth 100000 in
theorem c_address (W : World) (v : Int) : Calls Tryz.prog 81 #[.int .i64 v] W fun e W' => e = .returned (.bool (addr v)) ∧ W' = W := by
  obtain ⟨b, hb⟩ : ∃ b, addr v = b := ⟨_, rfl⟩
  rw [hb]
  have HB := Aside0.mk hb
  clear hb
  go_enter Tryz.func81, Tryz.ntmps81
  cases h1 : decide (0 ≤ v) with
  | true =>
    have h1_0 : decide (v ≥ 0) = true := h1
    cases h2 : decide (v ≤ 5) with
    | true =>
      go_wp2_with fail
      go_ret
      exact ⟨by rw [← HB.out, addr, h1, h2]; rfl, rfl⟩
    | false =>
      cases h3 : decide (100 < v) with
      | true =>
        have h3_0 : decide (v > 100) = true := h3
        cases h4 : decide (v ≤ 106) with
        | true =>
          go_wp2_with fail
          go_ret
          exact ⟨by rw [← HB.out, addr, h1, h2, h3, h4]; rfl, rfl⟩
        | false =>
          go_wp2_with fail
          go_ret
          exact ⟨by rw [← HB.out, addr, h1, h2, h3, h4]; rfl, rfl⟩
      | false =>
        have h3_0 : decide (v > 100) = false := h3
        go_wp2_with fail
        go_ret
        exact ⟨by rw [← HB.out, addr, h1, h2, h3]; rfl, rfl⟩
  | false =>
    have h1_0 : decide (v ≥ 0) = false := h1
    have h3 : decide (100 < v) = false := by have := of_decide_eq_false h1; simp; omega
    have h3_0 : decide (v > 100) = false := h3
    go_wp2_with fail
    go_ret
    exact ⟨by rw [← HB.out, addr, h1, h3]; rfl, rfl⟩
/-- Four bytes, the highest first. -/
def be4 (n : Nat) : List Int := [(n : Int) / 16777216, (n : Int) / 65536 % 256, (n : Int) / 256 % 256, (n : Int) % 256]
theorem below_base {base : Nat} {w0 W W1 : World} (h : Below base w0 W) (hbase : base ≤ W.heap.size) (k : Below W.heap.size W W1) : Below base w0 W1 :=
  ⟨k.os.trans h.os, k.tape.trans h.tape, k.output.trans h.output, Nat.le_trans h.size k.size, fun j hj => (k.block j (Nat.lt_of_lt_of_le hj hbase)).trans (h.block j hj)⟩
theorem lit_bytes (W : World) (xs : List Int) (hm : xs.length ≤ 9223372036854775807) : (Kd.int .u8).C (W.alloc (.cells (xs.map (Value.int .u8)).toArray 5)) (some ⟨W.heap.size, 0, none⟩) xs.length xs := by
  refine Kd.C_of_reads (d := 0) ⟨rfl, hm, fun _ => ⟨_, rfl, fun j hj => ?_⟩⟩
  have h := blk_cell (blk_alloc (W := W) (.cells (xs.map (Value.int .u8)).toArray 5)) j
  have e : (⟨W.heap.size, 0, none⟩ : Addr).add j = ⟨W.heap.size, j, none⟩ := by
    unfold Addr.add
    by_cases h0 : j = 0
    · simp [h0]
    · simp [h0]
  rw [e, h, List.getElem?_toArray, List.getElem?_map, List.getElem?_eq_getElem hj, List.getD_eq_getElem?_getD, List.getElem?_eq_getElem hj]
  rfl
set_option maxRecDepth 100000 in
set_option maxHeartbeats 2000000 in
theorem c_four (w0 W : World) (base : Nat) (v : Value) (xs : List Int) (n : Nat) (hn : n < 4294967296) (hO : BRow W base v xs) (hb : Below base w0 W) (hbase : base ≤ W.heap.size) (hl : xs.length ≤ 1000000000) :
    Calls Tryz.prog 124 #[v, .int .u32 (n : Int)] W fun e W' => ∃ v', e = .returned v' ∧ BRow W' base v' (xs ++ be4 n) ∧ Below base w0 W' := by
  have HO := Aside0.mk hO
  have HB := Aside0.mk hb
  have HL := Aside0.mk hl
  have HR := Aside0.mk (lit_bytes W (be4 n) (by show 4 ≤ _; omega))
  have hal := below_alloc (Below.refl W.heap.size W) (Obj.cells ((be4 n).map (Value.int .u8)).toArray 5 (0, 0))
  have HO1 := Aside0.mk (Kd.R_below hO hal)
  have HB1 := Aside0.mk (show Below base w0 (W.alloc (Obj.cells ((be4 n).map (Value.int .u8)).toArray 5 (0, 0))) from below_base hb hbase hal)
  have HBS := Aside0.mk (Nat.le_trans hbase hal.size)
  clear hO hb hl hal
  go_enter Tryz.func124, Tryz.ntmps124
  go_wp2_with ((with_reducible refine gate_builtin (b := .append) (xs := #[.tmp 5, .tmp 17]) rfl ?_); at_builtin; refine Kd.R_append_row (Value.int .u8) 0 (w0 := w0) base rfl (.tmp 5) (.tmp 17) 41 5 (.int .u8 0) 1 rfl Tryz.underlying41 info5 rfl (by decide) v xs (be4 n) (some ⟨W.heap.size, 0, none⟩) 4 4 (fun _ => True) rfl rfl (fun _ _ => trivial) HO1.out HR.out HB1.out HBS.out (by have := HL.out; omega) ?_; intro v1 w1 ho hb _ _; have HO2 := Aside0.mk ho; have HB2 := Aside0.mk hb; clear ho hb)
  go_ret
  exact ⟨_, rfl, HO2.out, HB2.out⟩
end Go.Proofs.YtmneemhplffemaaGreatDoorRR.Sum
namespace Go.Proofs.YtmneemhplffemaaGreatDoorRR.Sum
open Go.RowKit Go.Proofs.YtmneemhplffemaaGreatDoorRR.Ext Go.Proofs.YtmneemhplffemaaGreatDoorRR.Wire Go.Proofs.YtmneemhplffemaaGreatDoorRR.Mem Go.Proofs.YtmneemhplffemaaGreatDoorRR.Row Go.Proofs.YtmneemhplffemaaGreatDoorRR.Crc Go.Proofs.YtmneemhplffemaaGreatDoorRRW.PrintWords
set_option linter.unusedVariables false
set_option linter.unusedSimpArgs false
/-- Four bytes as a number, the highest first. -/
def word4 (xs : List Int) : Nat := (xs.getD 0 0).toNat * 16777216 + (xs.getD 1 0).toNat * 65536 + (xs.getD 2 0).toNat * 256 + (xs.getD 3 0).toNat
theorem drewn_b {B : Nat} {a w : World} (h : Below B a w) (q : Nat) : Below B a (w.drewN q) := ⟨h.os, h.tape, h.output, h.size, h.block⟩
theorem byte_at {W : World} {ad : Addr} {xs : List Int} (hC : (Kd.int .u8).C W (some ad) xs.length xs) (hB : Bytes xs) {i : Nat} (h : i < xs.length) : ∃ b : Nat, b < 256 ∧ xs.getD i 0 = (b : Int) ∧ W.cell? (ad.add i) = some (.int .u8 (b : Int)) := by
  obtain ⟨ad', he, hc⟩ := Kd.at_int hC (i : Int) (by omega) (by omega)
  obtain rfl := Option.some.inj he
  have hm : xs.getD i 0 ∈ xs := by rw [List.getD_eq_getElem?_getD, List.getElem?_eq_getElem h]; exact List.getElem_mem h
  have hb := hB _ hm
  obtain ⟨b, hbb⟩ := Int.eq_ofNat_of_zero_le hb.1
  refine ⟨b, by omega, hbb, ?_⟩
  rw [Int.toNat_natCast] at hc
  rw [hc, show rd xs (i : Int) = xs.getD i 0 by unfold rd; rw [Int.toNat_natCast], hbb]
theorem or_add {a b : Nat} (i : Nat) (h : b < 2 ^ i) : 2 ^ i * a ||| b = 2 ^ i * a + b := (Nat.two_pow_add_eq_or_of_lt h a).symm
theorem or_word {b0 b1 b2 b3 : Nat} (l0 : b0 < 256) (l1 : b1 < 256) (l2 : b2 < 256) (l3 : b3 < 256) :
    bits .or .u32 (bits .or .u32 (bits .or .u32 ((b0 : Int) * 16777216) ((b1 : Int) * 65536)) ((b2 : Int) * 256)) (b3 : Int) = ((b0 * 16777216 + b1 * 65536 + b2 * 256 + b3 : Nat) : Int) := by
  have e1 : bits .or .u32 ((b0 : Int) * 16777216) ((b1 : Int) * 65536) = ((b0 * 16777216 + b1 * 65536 : Nat) : Int) := by
    rw [show (b0 : Int) * 16777216 = ((b0 * 16777216 : Nat) : Int) by omega, show (b1 : Int) * 65536 = ((b1 * 65536 : Nat) : Int) by omega, u32_or_nat _ _ (by omega) (by omega)]
    have := or_add (a := b0) (b := b1 * 65536) 24 (by omega)
    rw [show b0 * 16777216 = 2 ^ 24 * b0 by omega, this]
  have e2 : bits .or .u32 ((b0 * 16777216 + b1 * 65536 : Nat) : Int) ((b2 : Int) * 256) = ((b0 * 16777216 + b1 * 65536 + b2 * 256 : Nat) : Int) := by
    rw [show (b2 : Int) * 256 = ((b2 * 256 : Nat) : Int) by omega, u32_or_nat _ _ (by omega) (by omega)]
    have := or_add (a := b0 * 256 + b1) (b := b2 * 256) 16 (by omega)
    rw [show b0 * 16777216 + b1 * 65536 = 2 ^ 16 * (b0 * 256 + b1) by omega, this]
  rw [e1, e2, u32_or_nat _ _ (by omega) (by omega)]
  have := or_add (a := b0 * 65536 + b1 * 256 + b2) (b := b3) 8 (by omega)
  rw [show b0 * 16777216 + b1 * 65536 + b2 * 256 = 2 ^ 8 * (b0 * 65536 + b1 * 256 + b2) by omega, this]
set_option maxRecDepth 100000 in
set_option maxHeartbeats 2000000 in
theorem c_word (W : World) (A : Option Addr) (c : Nat) (xs : List Int) (hC : (Kd.int .u8).C W A xs.length xs) (hB : Bytes xs) (h4 : 4 ≤ xs.length) :
    Calls Tryz.prog 169 #[.slice A xs.length c] W fun e W' => e = .returned (.int .u32 ((word4 xs : Nat) : Int)) ∧ Below W.heap.size W W' := by
  obtain ⟨ad, rfl⟩ : ∃ ad, A = some ad := by obtain ⟨ad, h, _⟩ := Kd.at_int hC 0 (by omega) (by omega); exact ⟨ad, h⟩
  obtain ⟨b0, l0, e0, c0⟩ := byte_at hC hB (i := 0) (by omega)
  obtain ⟨b1, l1, e1, c1⟩ := byte_at hC hB (i := 1) (by omega)
  obtain ⟨b2, l2, e2, c2⟩ := byte_at hC hB (i := 2) (by omega)
  obtain ⟨b3, l3, e3, c3⟩ := byte_at hC hB (i := 3) (by omega)
  have hw : word4 xs = b0 * 16777216 + b1 * 65536 + b2 * 256 + b3 := by unfold word4; rw [e0, e1, e2, e3]; simp only [Int.toNat_natCast]
  rw [hw]
  have hm : xs.length ≤ 9223372036854775807 := hC.2.1
  have k0 : (0 : Int) < xs.length := by omega
  have k1 : (1 : Int) < xs.length := by omega
  have k2 : (2 : Int) < xs.length := by omega
  have k3 : (3 : Int) < xs.length := by omega
  have c0' : W.cell? ad = some (.int .u8 (b0 : Int)) := by simpa [Addr.add] using c0
  have c1' : W.cell? ⟨ad.block, ad.off + 1, none⟩ = some (.int .u8 (b1 : Int)) := by simpa [Addr.add] using c1
  have c2' : W.cell? ⟨ad.block, ad.off + 2, none⟩ = some (.int .u8 (b2 : Int)) := by simpa [Addr.add] using c2
  have c3' : W.cell? ⟨ad.block, ad.off + 3, none⟩ = some (.int .u8 (b3 : Int)) := by simpa [Addr.add] using c3
  have n0 : 0 < xs.length := by omega
  have n1 : 1 < xs.length := by omega
  have n2 : 2 < xs.length := by omega
  have n3 : 3 < xs.length := by omega
  clear hC hB e0 e1 e2 e3 hw
  go_enter Tryz.func169, Tryz.ntmps169
  go_upto_region 1 with fail
  go_quiet (fail)
  go_wp2_with fail
  go_ret
  refine ⟨?_, drewn_b (Below.refl _ _) nq⟩
  show Ending.returned (.int .u32 (bits .or .u32 (bits .or .u32 (bits .or .u32 ((b0 : Int) * 16777216) ((b1 : Int) * 65536)) ((b2 : Int) * 256)) (b3 : Int))) = _
  rw [or_word l0 l1 l2 l3]
end Go.Proofs.YtmneemhplffemaaGreatDoorRR.Sum
namespace Go.Proofs.YtmneemhplffemaaGreatDoorRR.Sum
open Go.RowKit Go.Proofs.YtmneemhplffemaaGreatDoorRR.Ext Go.Proofs.YtmneemhplffemaaGreatDoorRR.Wire Go.Proofs.YtmneemhplffemaaGreatDoorRR.Mem Go.Proofs.YtmneemhplffemaaGreatDoorRR.Row Go.Proofs.YtmneemhplffemaaGreatDoorRR.Crc Go.Proofs.YtmneemhplffemaaGreatDoorRRW.PrintWords
set_option linter.unusedVariables false
set_option linter.unusedSimpArgs false
/-- A frame's first ten bytes, of a body of so many; the frame of a body. -/
def headOf (n : Nat) : List Int := ([197, 58] ++ be4 n) ++ be4 (sumN (nats ([197, 58] ++ be4 n)))
def frameOf (bs : List Int) : List Int := (headOf bs.length ++ bs) ++ be4 (sumN (nats (headOf bs.length ++ bs)))
theorem be4_bytes {n : Nat} (h : n < 4294967296) : Bytes (be4 n) := by
  intro b hb
  simp only [be4, List.mem_cons, List.not_mem_nil, or_false] at hb
  rcases hb with rfl | rfl | rfl | rfl <;> omega
theorem nats_lt {xs : List Int} (h : Bytes xs) : ∀ b ∈ nats xs, b < 256 := by
  intro b hb
  simp only [nats, List.mem_map] at hb
  obtain ⟨c, hc, rfl⟩ := hb
  have := h c hc
  omega
theorem sum_lt {xs : List Int} (h : Bytes xs) : sumN (nats xs) < 4294967296 := sumN_lt (nats_lt h)
theorem bytes_app {xs ys : List Int} (h : Bytes xs) (k : Bytes ys) : Bytes (xs ++ ys) := by
  intro b hb
  rcases List.mem_append.1 hb with hb | hb
  · exact h b hb
  · exact k b hb
theorem marks_bytes : Bytes [197, 58] := by
  intro b hb
  simp at hb
  omega
theorem gate_make {P : Program} {all : Array Oper} {rest : List Oper} {o : Oper} {a : Act} {Q : Exit → Act → World → Prop} {W : World} {t : TypeId} {x y : Operand} (_ho : o.op = .makeSlice t x y) (h : wpList P all Q (o :: rest) a W) : wpList P all Q (o :: rest) a W := h
theorem make_zero {all : Array Oper} {rest : List Oper} {o : Oper} {a : Act} {Q : Exit → Act → World → Prop} {W : World} (base : Nat) (hgd : o.guard = none) (x y : Operand) (ho : o.op = .makeSlice 41 x y) (c : Nat) (hx : a.eval x = .int .i64 0) (hy : a.eval y = .int .i64 (c : Int)) (hc : c ≤ 1000000000) (hbase : base ≤ W.heap.size)
    (h : ∀ v w1, BRow w1 base v [] → Below W.heap.size W w1 → wpList Tryz.prog all Q rest (a.put o.dst v) w1) : wpList Tryz.prog all Q (o :: rest) a W := by
  obtain ⟨i0, hi, hzz⟩ := Option.map_eq_some_iff.1 info5
  simp only [Prod.mk.injEq] at hzz
  obtain ⟨hz0, hz1, hz2⟩ := hzz
  obtain ⟨w', hr, hown, hg⟩ := run_make_own (w := W) (P := Tryz.prog) base 41 5 i0 (.int .u8 0) 1 Tryz.underlying41 hi hz0 hz1 .i64 .i64 c (by rw [hz2]; omega) (by simp only [maxLen]; omega) hbase
  refine Kd.event_run hgd (by simp [execOp, ho, hx, hy, hr]) (h _ w' (Kd.R_of_own (xs := []) hown (fun _ _ => trivial)) ?_)
  exact (Moved.of_grown hg).below (fun k _ hk => by cases hk)
set_option maxRecDepth 100000 in
set_option maxHeartbeats 4000000 in
theorem c_frame (W : World) (g : Nat) (B : Option Addr) (d : Nat) (bs : List Int) (hP : W.cell? ⟨g, 0, none⟩ = some (.slice B bs.length d)) (hC : (Kd.int .u8).C W B bs.length bs) (hB : Bytes bs) (hl : bs.length ≤ 262144) :
    Calls Tryz.prog 82 #[.slice (some ⟨g, 0, none⟩) 1 1] W fun e W' => ∃ v, e = .returned (.tuple #[v, .int .i64 0]) ∧ BRow W' W.heap.size v (frameOf bs) ∧ Below W.heap.size W W' := by
  have HC := Aside0.mk hC
  have HY := Aside0.mk hB
  have HL := Aside0.mk hl
  have HP := Aside0.mk hP
  have h1 : decide ((bs.length : Int) > 262144) = false := by simp; omega
  have h1' : decide ((262144 : Int) < bs.length) = false := by simp; omega
  have w1 : wrap64 (bs.length : Int) = bs.length := by unfold wrap64; omega
  obtain ⟨fr, hfr⟩ : ∃ fr, frameOf bs = fr := ⟨_, rfl⟩
  rw [hfr]
  have HFR := Aside0.mk hfr
  have HHB := Aside0.mk (bytes_app (bytes_app marks_bytes (be4_bytes (n := bs.length) (by omega))) (be4_bytes (sum_lt (bytes_app marks_bytes (be4_bytes (n := bs.length) (by omega))))) : Bytes (headOf bs.length))
  clear hfr
  have u1 : (bs.length : Int) % 4294967296 = (bs.length : Int) := by omega
  clear hC hB hl
  go_enter Tryz.func82, Tryz.ntmps82
  go_upto_region 3 with fail
  go_loopw [4, 12] (fun v4 v12 wr => (v12 = .int .i64 0 ∧ v4 = .int .i64 0 ∧ wr = W) ∨ (v12 = .int .i64 1 ∧ v4 = .int .i64 bs.length ∧ wr = W)) (fun _ v _ => 1 - (intOf v).toNat)
  case atStart => exact .inl ⟨rfl, rfl, rfl⟩
  case round =>
    rcases hrel with ⟨rfl, rfl, rfl⟩ | ⟨rfl, rfl, rfl⟩
    · go_wp2_with fail
      exact ⟨.inr ⟨rfl, rfl, trivial⟩, by decide⟩
    · obtain ⟨W0, rfl⟩ : ∃ W0, W0 = wr := ⟨_, rfl⟩
      go_upto_region 11 with (first | ((with_reducible refine gate_make (t := 41) rfl ?_); refine make_zero W0.heap.size rfl (.const (.int .i64 0)) (.tmp 24) rfl (bs.length + 14) rfl rfl (by have := HL.out; omega) (Nat.le_refl _) ?_; intro v1 w1 ho hb; have HO1 := Aside0.mk ho; have HB1 := Aside0.mk hb; clear ho hb) | ((with_reducible refine gate_builtin (b := .append) (xs := #[.tmp 26, .tmp 27]) rfl ?_); at_builtin; have hal := below_alloc (Below.refl w1.heap.size w1) (Obj.cells (([197, 58] : List Int).map (Value.int .u8)).toArray 5 (0, 0)); refine Kd.R_append_row (Value.int .u8) 0 (w0 := W0) W0.heap.size rfl (.tmp 26) (.tmp 27) 41 5 (.int .u8 0) 1 rfl Tryz.underlying41 info5 rfl (by decide) v1 [] [197, 58] (some ⟨w1.heap.size, 0, none⟩) 2 2 (fun _ => True) rfl rfl (fun _ _ => trivial) (Kd.R_below HO1.out hal) (lit_bytes w1 [197, 58] (by decide)) (below_step HB1.out hal) (Nat.le_trans HB1.out.size hal.size) (by decide) ?_; intro v2 w2 ho hb _ _; have HO2 := Aside0.mk (show BRow w2 W0.heap.size v2 [197, 58] from ho); have HB2 := Aside0.mk hb; clear ho hb hal))
      go_upto_region 12 with (go_at_call 124; have hcf := c_four W0 w2 W0.heap.size v2 [197, 58] bs.length (by have := HL.out; omega) HO2.out HB2.out HB2.out.size (by decide); (with_reducible refine hcf.mono ?_); clear hcf; rintro e w3 ⟨v3, rfl, ho, hb⟩; have HO3 := Aside0.mk ho; have HB3 := Aside0.mk hb; clear ho hb)
      obtain ⟨hd, hhd⟩ : ∃ hd, [197, 58] ++ be4 bs.length = hd := ⟨_, rfl⟩
      rw [hhd] at HO3
      have HHD := Aside0.mk hhd
      have HDB := Aside0.mk (show Bytes hd by rw [← hhd]; exact bytes_app marks_bytes (be4_bytes (n := bs.length) (by have := HL.out; omega)))
      have HDL := Aside0.mk (show hd.length = 6 by rw [← hhd]; rfl)
      clear hhd
      obtain ⟨A3, c3, he3⟩ := Kd.R_slice HO3.out
      subst he3
      go_upto_region 13 with (first | (go_at_call 125; have hcf := c_sum w3 A3 c3 hd (Kd.R_reads' HO3.out).2.2 HDB.out; (with_reducible refine hcf.mono ?_); clear hcf; rintro e w4 ⟨rfl, hb⟩; have HO4 := Aside0.mk (Kd.R_below HO3.out hb); have HB4 := Aside0.mk (below_base HB3.out HB3.out.size hb); clear hb) | (go_at_call 124; have hcf := c_four W0 w4 W0.heap.size (.slice A3 hd.length c3) hd (sumN (nats hd)) (sum_lt HDB.out) HO4.out HB4.out HB4.out.size (by have := HDL.out; omega); (with_reducible refine hcf.mono ?_); clear hcf; rintro e w5 ⟨v5, rfl, ho, hb⟩; have HO5 := Aside0.mk ho; have HB5 := Aside0.mk hb; clear ho hb))
      obtain ⟨h2, hh2⟩ : ∃ h2, hd ++ be4 (sumN (nats hd)) = h2 := ⟨_, rfl⟩
      rw [hh2] at HO5
      have HHO := Aside0.mk (show headOf bs.length = h2 by rw [← hh2, ← HHD.out]; rfl)
      have HDL2 := Aside0.mk (show h2.length = 10 by rw [← hh2, List.length_append, HDL.out]; rfl)
      have H2B := Aside0.mk (show Bytes h2 by rw [← HHO.out]; exact HHB.out)
      clear hh2
      go_upto_region 14 with fail
      go_loopw [7, 39] (fun v7 v39 w => (v39 = .int .i64 0 ∧ Aside0 (BRow w W0.heap.size v7 h2) ∧ Aside0 (Below W0.heap.size W0 w)) ∨ (v39 = .int .i64 1 ∧ Aside0 (BRow w W0.heap.size v7 (h2 ++ bs)) ∧ Aside0 (Below W0.heap.size W0 w))) (fun _ v _ => 1 - (intOf v).toNat)
      case atStart => exact .inl ⟨rfl, HO5, HB5⟩
      case round =>
        rcases hrel with ⟨rfl, HR, HB⟩ | ⟨rfl, HR, HB⟩
        · have hp6 := (Below.cell HB.out (World.block_lt_of_cell? W0 _ hP)).trans hP
          obtain ⟨A6, c6, he6⟩ := Kd.R_slice HR.out
          subst he6
          go_wp2_with ((with_reducible refine gate_builtin (b := .append) (xs := #[.tmp 43, .tmp 44]) rfl ?_); at_builtin; refine Kd.R_append_row (Value.int .u8) 0 (w0 := W0) W0.heap.size rfl (.tmp 43) (.tmp 44) 41 5 (.int .u8 0) 1 rfl Tryz.underlying41 info5 rfl (by decide) (.slice A6 h2.length c6) h2 bs B _ d (fun _ => True) rfl rfl (fun _ _ => trivial) HR.out (Kd.C_below HC.out HB.out) HB.out HB.out.size (by have := HDL2.out; have := HL.out; omega) ?_; intro v7 w7 ho hb _ _; have HO7 := Aside0.mk ho; have HB7 := Aside0.mk hb; clear ho hb)
          exact ⟨.inr ⟨rfl, HO7, HB7⟩, by decide⟩
        · obtain ⟨fb, hfb⟩ : ∃ fb, h2 ++ bs = fb := ⟨_, rfl⟩
          rw [hfb] at HR
          have HFB := Aside0.mk (show Bytes fb by rw [← hfb]; exact bytes_app H2B.out HY.out)
          have HFL := Aside0.mk (show fb.length = 10 + bs.length by rw [← hfb, List.length_append, HDL2.out])
          have HFE := Aside0.mk (show fr = fb ++ be4 (sumN (nats fb)) by rw [← HFR.out, frameOf, HHO.out, hfb])
          clear hfb
          obtain ⟨A6, c6, he6⟩ := Kd.R_slice HR.out
          subst he6
          go_wp2_with (first | (go_at_call 125; have hcf := c_sum wr A6 c6 fb (Kd.R_reads' HR.out).2.2 HFB.out; (with_reducible refine hcf.mono ?_); clear hcf; rintro e w8 ⟨rfl, hb⟩; have HO8 := Aside0.mk (Kd.R_below HR.out hb); have HB8 := Aside0.mk (below_base HB.out HB.out.size hb); clear hb) | (go_at_call 124; have hcf := c_four W0 w8 W0.heap.size (.slice A6 fb.length c6) fb (sumN (nats fb)) (sum_lt HFB.out) HO8.out HB8.out HB8.out.size (by have := HFL.out; have := HL.out; omega); (with_reducible refine hcf.mono ?_); clear hcf; rintro e w9 ⟨v9, rfl, ho, hb⟩; have HO9 := Aside0.mk ho; have HB9 := Aside0.mk hb; clear ho hb))
          go_ret2
          exact ⟨_, rfl, by rw [HFE.out]; exact HO9.out, HB9.out⟩
end Go.Proofs.YtmneemhplffemaaGreatDoorRR.Sum
namespace Go.Proofs.YtmneemhplffemaaGreatDoorRR.Sum
open Go.RowKit Go.Proofs.YtmneemhplffemaaGreatDoorRR.Ext Go.Proofs.YtmneemhplffemaaGreatDoorRR.Wire Go.Proofs.YtmneemhplffemaaGreatDoorRR.Mem Go.Proofs.YtmneemhplffemaaGreatDoorRR.Row Go.Proofs.YtmneemhplffemaaGreatDoorRR.Crc Go.Proofs.YtmneemhplffemaaGreatDoorRRW.PrintWords
set_option linter.unusedVariables false
set_option linter.unusedSimpArgs false
set_option maxRecDepth 100000 in
theorem drop_of {W : World} {A : Option Addr} {c : Nat} {xs : List Int} (hC : (Kd.int .u8).C W A xs.length xs) (m : Nat) (i : Int) (hi : i = (m : Int)) (hm : m ≤ xs.length) (hc : xs.length ≤ c) :
    ∃ T, (Kd.int .u8).C W T (xs.drop m).length (xs.drop m) ∧ ∀ w : World, (Instr.slice 41 (.slice A xs.length c) (some (.int .i64 i)) none none).run Tryz.prog w = .ok (.slice T (xs.drop m).length (c - m)) w := by
  refine ⟨_, Kd.C_drop hC hm hc, fun w => ?_⟩
  obtain ⟨i0, hi0, hz⟩ := Option.map_eq_some_iff.1 info5
  simp only [Prod.mk.injEq] at hz
  rw [hi, run_slice_l w _ A xs.length c Tryz.underlying41 .i64 (m : Int) (by omega) (by omega), List.length_drop]
  simp [sizeOf, Result.andThen, sliced, hi0, hz, Kd.sz, go_sem, show Tryz.prog.elem 41 = 5 from rfl]
  rfl
set_option maxRecDepth 100000 in
theorem take_of {A : Option Addr} {c : Nat} {xs : List Int} (m : Nat) (i : Int) (hi : i = (m : Int)) (hm : m ≤ xs.length) (hc : xs.length ≤ c) (w : World) :
    (Instr.slice 41 (.slice A xs.length c) none (some (.int .i64 i)) none).run Tryz.prog w = .ok (.slice A (xs.take m).length c) w := by
  obtain ⟨i0, hi0, hz⟩ := Option.map_eq_some_iff.1 info5
  simp only [Prod.mk.injEq] at hz
  have e : A.map (·.add 0) = A := by cases A with | none => rfl | some a => simp [Addr.add]
  rw [hi, run_slice_h w _ A xs.length c Tryz.underlying41 .i64 (m : Int) (by omega) (by omega), List.length_take, Nat.min_eq_left hm]
  simp [sizeOf, Result.andThen, sliced, hi0, hz, Kd.sz, go_sem, e, show Tryz.prog.elem 41 = 5 from rfl]
/-- Are the last four bytes the sum of those ahead of them? -/
def endsB (xs : List Int) : Bool := ((word4 (xs.drop (xs.length - 4)) : Int) == (sumN (nats (xs.take (xs.length - 4))) : Int))
theorem bytes_drop {xs : List Int} (h : Bytes xs) (k : Nat) : Bytes (xs.drop k) := fun b hb => h b (List.mem_of_mem_drop hb)
theorem bytes_take {xs : List Int} (h : Bytes xs) (k : Nat) : Bytes (xs.take k) := fun b hb => h b (List.mem_of_mem_take hb)
set_option maxRecDepth 100000 in
set_option maxHeartbeats 4000000 in
theorem c_tail (W : World) (A : Option Addr) (c : Nat) (xs : List Int) (hC : (Kd.int .u8).C W A xs.length xs) (hB : Bytes xs) (h4 : 4 ≤ xs.length) (hc : xs.length ≤ c) :
    Calls Tryz.prog 129 #[.slice A xs.length c] W fun e W' => e = .returned (.bool (endsB xs)) ∧ Below W.heap.size W W' := by
  obtain ⟨k, hk⟩ : ∃ k, k = xs.length - 4 := ⟨_, rfl⟩
  obtain ⟨eb, heb⟩ : ∃ eb, endsB xs = eb := ⟨_, rfl⟩
  rw [heb]
  have hkx : k ≤ xs.length := by omega
  obtain ⟨T, hT, hsl⟩ := drop_of hC k k rfl hkx hc
  have hst := take_of (A := A) k k rfl hkx hc
  obtain ⟨L, hL⟩ : ∃ L, xs.drop k = L := ⟨_, rfl⟩
  obtain ⟨M, hM⟩ : ∃ M, xs.take k = M := ⟨_, rfl⟩
  have HTK := Aside0.mk (Kd.C_take hC hkx)
  have ek : wrap64 ((xs.length : Int) - 4) = (k : Int) := by have := hC.2.1; unfold wrap64; omega
  have HEB := Aside0.mk (show ((word4 (xs.drop k) : Int) == (sumN (nats (xs.take k)) : Int)) = eb by rw [← heb, endsB, ← hk])
  have HTB := Aside0.mk (bytes_drop hB k)
  have HXB := Aside0.mk (bytes_take hB k)
  have HK4 := Aside0.mk (show 4 ≤ (xs.drop k).length by rw [List.length_drop]; omega)
  have HKX := Aside0.mk hkx
  rw [hL] at hT hsl HEB HTB HK4
  rw [hM] at hst HTK HEB HXB
  have HT := Aside0.mk hT
  clear hT hC hB hk h4 heb hkx hL hM HKX
  go_enter Tryz.func129, Tryz.ntmps129
  go_upto_region 2 with fail
  refine wp_region_held_drew (S := fun W' => True) (by kernel_rfl) ?_ (fun hHeld => ?_)
  · exact trivial
  refine wpAnyH_take (i := 0) (oi := { dst := Option.some 7, op := Go.Op.move (Go.Operand.tmp 0), type := 41, pos := "wire.go:130", after := #[], guard := Option.none }) (v := ?_) rfl (by kernel_rfl) (by kernel_rfl) (by kernel_rfl) (fun _ _ _ h => h) (Or.inl ⟨by rfl, ?_⟩) (by assumption) ?_
  rotate_left
  · (intro w hSw; (try dsimp only at hSw); go_simp; try with_reducible rfl)
  try simp only [Act.put, List.setIfInBounds_toArray, List.set_cons_zero, List.set_cons_succ]
  refine wpAnyH_take (i := 1) (oi := { dst := Option.some 8, op := Go.Op.move (Go.Operand.tmp 3), type := 3, pos := "wire.go:130", after := #[], guard := Option.none }) (v := ?_) rfl (by kernel_rfl) (by kernel_rfl) (by kernel_rfl) (fun _ _ _ h => h) (Or.inl ⟨by rfl, ?_⟩) (by assumption) ?_
  rotate_left
  · (intro w hSw; (try dsimp only at hSw); go_simp; try with_reducible rfl)
  try simp only [Act.put, List.setIfInBounds_toArray, List.set_cons_zero, List.set_cons_succ]
  refine wpAnyH_take (i := 2) (oi := { dst := Option.some 9, op := Go.Op.slice 41 (Go.Operand.tmp 7) (Option.some (Go.Operand.tmp 8)) Option.none Option.none, type := 41, pos := "wire.go:130", after := #[{ on := 0, ground := Go.Ground.data }, { on := 1, ground := Go.Ground.data }], guard := Option.none }) (v := ?_) rfl (by kernel_rfl) (by kernel_rfl) (by kernel_rfl) (fun _ _ _ h => h) (Or.inl ⟨by rfl, ?_⟩) (by assumption) ?_
  rotate_left
  · (intro w hSw; (try dsimp only at hSw); go_simp; try with_reducible rfl)
  try simp only [Act.put, List.setIfInBounds_toArray, List.set_cons_zero, List.set_cons_succ]
  refine wpAnyH_take (i := 4) (oi := { dst := Option.some 11, op := Go.Op.move (Go.Operand.tmp 0), type := 41, pos := "wire.go:130", after := #[], guard := Option.none }) (v := ?_) rfl (by kernel_rfl) (by kernel_rfl) (by kernel_rfl) (fun _ _ _ h => h) (Or.inl ⟨by rfl, ?_⟩) (by assumption) ?_
  rotate_left
  · (intro w hSw; (try dsimp only at hSw); go_simp; try with_reducible rfl)
  try simp only [Act.put, List.setIfInBounds_toArray, List.set_cons_zero, List.set_cons_succ]
  refine wpAnyH_take (i := 5) (oi := { dst := Option.some 12, op := Go.Op.move (Go.Operand.tmp 3), type := 3, pos := "wire.go:130", after := #[], guard := Option.none }) (v := ?_) rfl (by kernel_rfl) (by kernel_rfl) (by kernel_rfl) (fun _ _ _ h => h) (Or.inl ⟨by rfl, ?_⟩) (by assumption) ?_
  rotate_left
  · (intro w hSw; (try dsimp only at hSw); go_simp; try with_reducible rfl)
  try simp only [Act.put, List.setIfInBounds_toArray, List.set_cons_zero, List.set_cons_succ]
  refine wpAnyH_take (i := 6) (oi := { dst := Option.some 13, op := Go.Op.slice 41 (Go.Operand.tmp 11) Option.none (Option.some (Go.Operand.tmp 12)) Option.none, type := 41, pos := "wire.go:130", after := #[{ on := 4, ground := Go.Ground.data }, { on := 5, ground := Go.Ground.data }], guard := Option.none }) (v := ?_) rfl (by kernel_rfl) (by kernel_rfl) (by kernel_rfl) (fun _ _ _ h => h) (Or.inl ⟨by rfl, ?_⟩) (by assumption) ?_
  rotate_left
  · (intro w hSw; (try dsimp only at hSw); go_simp; try with_reducible rfl)
  try simp only [Act.put, List.setIfInBounds_toArray, List.set_cons_zero, List.set_cons_succ]
  refine wpAnyH_ready (rs := [3]) (by kernel_rfl) (by simp) ?_
  refine AllReadyH.cons (o := { dst := Option.some 10, op := Go.Op.call { callee := Go.Callee.value (Go.Operand.func 169), args := #[Go.Operand.tmp 9], argTypes := #[41] }, type := 194, pos := "wire.go:130", after := #[{ on := 2, ground := Go.Ground.data }], guard := Option.none }) rfl (fun K hK => ?_) ?_
  rotate_left
  · exact AllReadyH.nil
  go_simp
  (go_at_call 169; have hcf := c_word W.drew T (c - k) L (Kd.C_below HT.out (below_drew (Below.refl _ _))) HTB.out HK4.out; (with_reducible refine hcf.mono ?_); clear hcf; rintro e w1 ⟨rfl, hb⟩; have HB1 := Aside0.mk (below_step (below_drew (Below.refl _ W)) hb); clear hb)
  refine hK.out _ _ ?_ (fun hHeld => ?_)
  · exact trivial
  clear hK K
  try simp only [Act.put, List.setIfInBounds_toArray, List.set_cons_zero, List.set_cons_succ]
  refine wpAnyH_ready (rs := [7]) (by kernel_rfl) (by simp) ?_
  refine AllReadyH.cons (o := { dst := Option.some 14, op := Go.Op.call { callee := Go.Callee.value (Go.Operand.func 125), args := #[Go.Operand.tmp 13], argTypes := #[41] }, type := 194, pos := "wire.go:130", after := #[{ on := 6, ground := Go.Ground.data }, { on := 3, ground := Go.Ground.chain }], guard := Option.none }) rfl (fun K hK => ?_) ?_
  rotate_left
  · exact AllReadyH.nil
  go_simp
  (go_at_call 125; have hcf := c_sum w1 A c M (Kd.C_below HTK.out HB1.out) HXB.out; (with_reducible refine hcf.mono ?_); clear hcf; rintro e w2 ⟨rfl, hb⟩; have HB2 := Aside0.mk (below_step HB1.out hb); clear hb)
  refine hK.out _ _ ?_ (fun hHeld => ?_)
  · exact trivial
  clear hK K
  try simp only [Act.put, List.setIfInBounds_toArray, List.set_cons_zero, List.set_cons_succ]
  refine wpAnyH_take (i := 8) (oi := { dst := Option.some 15, op := Go.Op.binOp Go.BinOp.eql 194 (Go.Operand.tmp 10) (Go.Operand.tmp 14) 194, type := 4, pos := "wire.go:130", after := #[{ on := 3, ground := Go.Ground.data }, { on := 7, ground := Go.Ground.data }], guard := Option.none }) (v := ?_) rfl (by kernel_rfl) (by kernel_rfl) (by kernel_rfl) (fun _ _ _ h => h) (Or.inl ⟨by rfl, ?_⟩) (by assumption) ?_
  rotate_left
  · (intro w hSw; (try dsimp only at hSw); go_simp; try with_reducible rfl)
  try simp only [Act.put, List.setIfInBounds_toArray, List.set_cons_zero, List.set_cons_succ]
  refine wpAnyH_take (i := 9) (oi := { dst := Option.some 2, op := Go.Op.assign (Go.Operand.tmp 15), type := 4, pos := "wire.go:130", after := #[{ on := 8, ground := Go.Ground.data }, { on := 7, ground := Go.Ground.chain }, { on := 0, ground := Go.Ground.phase }, { on := 1, ground := Go.Ground.phase }, { on := 2, ground := Go.Ground.phase }, { on := 3, ground := Go.Ground.phase }, { on := 4, ground := Go.Ground.phase }, { on := 5, ground := Go.Ground.phase }, { on := 6, ground := Go.Ground.phase }, { on := 7, ground := Go.Ground.phase }, { on := 8, ground := Go.Ground.phase }], guard := Option.none }) (v := ?_) rfl (by kernel_rfl) (by kernel_rfl) (by kernel_rfl) (fun _ _ _ h => h) (Or.inl ⟨by rfl, ?_⟩) (by assumption) ?_
  rotate_left
  · (intro w hSw; (try dsimp only at hSw); go_simp; try with_reducible rfl)
  try simp only [Act.put, List.setIfInBounds_toArray, List.set_cons_zero, List.set_cons_succ]
  refine wpAnyH_done (by kernel_rfl) ?_ _
  go_wp2_with fail
  go_ret
  exact ⟨by rw [← HEB.out]; rfl, HB2.out⟩
theorem getD_byte {xs : List Int} (h : Bytes xs) (i : Nat) : (xs.getD i 0).toNat < 256 := by
  rw [List.getD_eq_getElem?_getD]
  cases e : xs[i]? with
  | none => simp
  | some b => have := h b (List.mem_of_getElem? e); simp; omega
theorem word4_lt {xs : List Int} (h : Bytes xs) : word4 xs < 4294967296 := by
  have h0 := getD_byte h 0
  have h1 := getD_byte h 1
  have h2 := getD_byte h 2
  have h3 := getD_byte h 3
  unfold word4
  omega
/-- Do these bytes begin a frame? -/
def headB (xs : List Int) : Bool := (xs.getD 0 0 == 197) && (xs.getD 1 0 == 58) && decide ((word4 (xs.drop 2) : Int) ≤ 262144) && ((word4 (xs.drop 6) : Int) == (sumN (nats (xs.take 6)) : Int))
set_option maxRecDepth 100000 in
set_option maxHeartbeats 8000000 in
theorem c_head (W : World) (A : Option Addr) (c : Nat) (xs : List Int) (hC : (Kd.int .u8).C W A xs.length xs) (hB : Bytes xs) (h4 : 10 ≤ xs.length) (hc : xs.length ≤ c) :
    Calls Tryz.prog 128 #[.slice A xs.length c] W fun e W' => e = .returned (.tuple #[.int .i64 ((word4 (xs.drop 2) : Nat) : Int), .bool (headB xs)]) ∧ Below W.heap.size W W' := by
  obtain ⟨ad, rfl⟩ : ∃ ad, A = some ad := by obtain ⟨ad, h, _⟩ := Kd.at_int hC 0 (by omega) (by omega); exact ⟨ad, h⟩
  obtain ⟨b0, l0, e0, c0⟩ := byte_at hC hB (i := 0) (by omega)
  obtain ⟨b1, l1, e1, c1⟩ := byte_at hC hB (i := 1) (by omega)
  have HC0 := Aside0.mk (show W.cell? ad = some (.int .u8 (b0 : Int)) by simpa [Addr.add] using c0)
  have HC1 := Aside0.mk (show W.cell? ⟨ad.block, ad.off + 1, none⟩ = some (.int .u8 (b1 : Int)) by simpa [Addr.add] using c1)
  have HN0 := Aside0.mk (World.block_lt_of_cell? W _ HC0.out)
  obtain ⟨T, hT, hsl⟩ := drop_of hC 2 2 rfl (by omega) hc
  obtain ⟨T6, hT6, hsl6⟩ := drop_of hC 6 6 rfl (by omega) hc
  have hst := take_of (A := some ad) 6 6 rfl (by omega) hc
  have HTK := Aside0.mk (Kd.C_take (m := 6) hC (by omega))
  have HTB := Aside0.mk (bytes_drop hB 2)
  have HT6B := Aside0.mk (bytes_drop hB 6)
  have HXB := Aside0.mk (bytes_take hB 6)
  have HK2 := Aside0.mk (show 4 ≤ (xs.drop 2).length by rw [List.length_drop]; omega)
  have HK6 := Aside0.mk (show 4 ≤ (xs.drop 6).length by rw [List.length_drop]; omega)
  obtain ⟨eb, heb⟩ : ∃ eb, headB xs = eb := ⟨_, rfl⟩
  have HEB := Aside0.mk heb
  have HEB2 := Aside0.mk (show headB xs = ((xs.getD 0 0 == 197) && (xs.getD 1 0 == 58) && decide ((word4 (xs.drop 2) : Int) ≤ 262144) && ((word4 (xs.drop 6) : Int) == (sumN (nats (xs.take 6)) : Int))) from rfl)
  rw [heb]
  rw [heb, e0, e1] at HEB2
  obtain ⟨L, hL⟩ : ∃ L, xs.drop 2 = L := ⟨_, rfl⟩
  obtain ⟨L6, hL6⟩ : ∃ L6, xs.drop 6 = L6 := ⟨_, rfl⟩
  obtain ⟨M, hM⟩ : ∃ M, xs.take 6 = M := ⟨_, rfl⟩
  rw [hL]
  rw [hL] at hT hsl HTB HK2 HEB2
  rw [hL6] at hT6 hsl6 HT6B HK6 HEB2
  rw [hM] at hst HTK HXB HEB2
  have HT := Aside0.mk hT
  have HT6 := Aside0.mk hT6
  obtain ⟨n, hn⟩ : ∃ n, word4 L = n := ⟨_, rfl⟩
  have HN := Aside0.mk hn
  have wn : wrap64 (n : Int) = n := by have := word4_lt HTB.out; unfold wrap64; omega
  rw [hn] at HEB2
  rw [hn]
  have k0 : (0 : Int) < xs.length := by omega
  have k1 : (1 : Int) < xs.length := by omega
  have n0 : 0 < xs.length := by omega
  have n1 : 1 < xs.length := by omega
  clear hT hT6 hC hB h4 hc hL hL6 hM heb e0 e1 c0 c1 hn HEB
  go_enter Tryz.func128, Tryz.ntmps128
  go_upto_region 2 with (go_at_call 169; have hcf := c_word W T (c - 2) L HT.out HTB.out HK2.out; rw [HN.out] at hcf; (with_reducible refine hcf.mono ?_); clear hcf; rintro e w1 ⟨rfl, hb⟩; have HB1 := Aside0.mk hb; clear hb)
  have HD0 := Aside0.mk (show w1.drew.cell? ad = _ from (Below.cell HB1.out HN0.out).trans HC0.out)
  have HD1 := Aside0.mk (show w1.drew.cell? ⟨ad.block, ad.off + 1, none⟩ = _ from (Below.cell HB1.out (p := ⟨ad.block, ad.off + 1, none⟩) HN0.out).trans HC1.out)
  have HBD := Aside0.mk (below_drew HB1.out)
  refine wp_region_held_drew (S := fun W' => W'.cell? ad = some (.int .u8 (b0 : Int)) ∧ W'.cell? ⟨ad.block, ad.off + 1, none⟩ = some (.int .u8 (b1 : Int))) (by kernel_rfl) ?_ (fun hHeld => ?_)
  · exact ⟨HD0.out, HD1.out⟩
  refine wpAnyH_take (i := 0) (oi := { dst := Option.some 9, op := Go.Op.move (Go.Operand.tmp 0), type := 41, pos := "wire.go:123", after := #[], guard := Option.none }) (v := ?_) rfl (by kernel_rfl) (by kernel_rfl) (by kernel_rfl) (fun _ _ _ h => h) (Or.inl ⟨by rfl, ?_⟩) (by assumption) ?_
  rotate_left
  · (intro w _; go_simp; try with_reducible rfl)
  try simp only [Act.put, List.setIfInBounds_toArray, List.set_cons_zero, List.set_cons_succ]
  refine wpAnyH_take (i := 1) (oi := { dst := Option.some 10, op := Go.Op.indexAddr 41 (Go.Operand.tmp 9) (Go.Operand.const (Go.Value.int Go.IntKind.i64 0)), type := 0, pos := "wire.go:123", after := #[{ on := 0, ground := Go.Ground.data }], guard := Option.none }) (v := ?_) rfl (by kernel_rfl) (by kernel_rfl) (by kernel_rfl) (fun _ _ _ h => h) (Or.inl ⟨by rfl, ?_⟩) (by assumption) ?_
  rotate_left
  · (intro w _; go_simp; try with_reducible rfl)
  try simp only [Act.put, List.setIfInBounds_toArray, List.set_cons_zero, List.set_cons_succ]
  refine wpAnyH_take (i := 2) (oi := { dst := Option.some 11, op := Go.Op.load 5 (Go.Operand.tmp 10), type := 5, pos := "wire.go:123", after := #[{ on := 1, ground := Go.Ground.data }], guard := Option.none }) (v := ?_) rfl (by kernel_rfl) (by kernel_rfl) (by kernel_rfl) (fun _ _ _ h => h) (Or.inl ⟨by rfl, ?_⟩) (by assumption) ?_
  rotate_left
  · (intro w hSw; (try dsimp only at hSw); obtain ⟨hS0, hS1⟩ := hSw; go_simp; try with_reducible rfl)
  try simp only [Act.put, List.setIfInBounds_toArray, List.set_cons_zero, List.set_cons_succ]
  refine wpAnyH_take (i := 3) (oi := { dst := Option.some 12, op := Go.Op.binOp Go.BinOp.eql 5 (Go.Operand.tmp 11) (Go.Operand.const (Go.Value.int Go.IntKind.u8 197)) 5, type := 4, pos := "wire.go:123", after := #[{ on := 2, ground := Go.Ground.data }], guard := Option.none }) (v := ?_) rfl (by kernel_rfl) (by kernel_rfl) (by kernel_rfl) (fun _ _ _ h => h) (Or.inl ⟨by rfl, ?_⟩) (by assumption) ?_
  rotate_left
  · (intro w _; go_simp; try with_reducible rfl)
  try simp only [Act.put, List.setIfInBounds_toArray, List.set_cons_zero, List.set_cons_succ]
  refine wpAnyH_take (i := 4) (oi := { dst := Option.some 13, op := Go.Op.move (Go.Operand.tmp 12), type := 4, pos := "wire.go:123", after := #[{ on := 3, ground := Go.Ground.data }], guard := Option.none }) (v := ?_) rfl (by kernel_rfl) (by kernel_rfl) (by kernel_rfl) (fun _ _ _ h => h) (Or.inl ⟨by rfl, ?_⟩) (by assumption) ?_
  rotate_left
  · (intro w _; go_simp; try with_reducible rfl)
  try simp only [Act.put, List.setIfInBounds_toArray, List.set_cons_zero, List.set_cons_succ]
  cases h1 : ((b0 : Int) == 197) with
  | false =>
    refine wpAnyH_take (i := 5) (oi := { dst := Option.some 14, op := Go.Op.move (Go.Operand.tmp 0), type := 41, pos := "wire.go:123", after := #[{ on := 4, ground := Go.Ground.guard }], guard := Option.some (4, Bool.true) }) (v := undef) rfl (by kernel_rfl) (by kernel_rfl) (by kernel_rfl) (fun _ _ _ h => h) (Or.inr ⟨by rfl, rfl⟩) (by assumption) ?_
    try simp only [Act.put, List.setIfInBounds_toArray, List.set_cons_zero, List.set_cons_succ]
    refine wpAnyH_take (i := 6) (oi := { dst := Option.some 15, op := Go.Op.indexAddr 41 (Go.Operand.tmp 14) (Go.Operand.const (Go.Value.int Go.IntKind.i64 1)), type := 0, pos := "wire.go:123", after := #[{ on := 5, ground := Go.Ground.data }, { on := 4, ground := Go.Ground.guard }], guard := Option.some (4, Bool.true) }) (v := undef) rfl (by kernel_rfl) (by kernel_rfl) (by kernel_rfl) (fun _ _ _ h => h) (Or.inr ⟨by rfl, rfl⟩) (by assumption) ?_
    try simp only [Act.put, List.setIfInBounds_toArray, List.set_cons_zero, List.set_cons_succ]
    refine wpAnyH_take (i := 7) (oi := { dst := Option.some 16, op := Go.Op.load 5 (Go.Operand.tmp 15), type := 5, pos := "wire.go:123", after := #[{ on := 6, ground := Go.Ground.data }, { on := 4, ground := Go.Ground.guard }], guard := Option.some (4, Bool.true) }) (v := undef) rfl (by kernel_rfl) (by kernel_rfl) (by kernel_rfl) (fun _ _ _ h => h) (Or.inr ⟨by rfl, rfl⟩) (by assumption) ?_
    try simp only [Act.put, List.setIfInBounds_toArray, List.set_cons_zero, List.set_cons_succ]
    refine wpAnyH_take (i := 8) (oi := { dst := Option.some 17, op := Go.Op.binOp Go.BinOp.eql 5 (Go.Operand.tmp 16) (Go.Operand.const (Go.Value.int Go.IntKind.u8 58)) 5, type := 4, pos := "wire.go:123", after := #[{ on := 7, ground := Go.Ground.data }, { on := 4, ground := Go.Ground.guard }], guard := Option.some (4, Bool.true) }) (v := undef) rfl (by kernel_rfl) (by kernel_rfl) (by kernel_rfl) (fun _ _ _ h => h) (Or.inr ⟨by rfl, rfl⟩) (by assumption) ?_
    try simp only [Act.put, List.setIfInBounds_toArray, List.set_cons_zero, List.set_cons_succ]
    refine wpAnyH_take (i := 9) (oi := { dst := Option.some 18, op := Go.Op.pick (Go.Operand.tmp 13) (Go.Operand.tmp 17) (Go.Operand.const (Go.Value.bool Bool.false)), type := 4, pos := "wire.go:123", after := #[{ on := 4, ground := Go.Ground.data }, { on := 8, ground := Go.Ground.data }], guard := Option.none }) (v := ?_) rfl (by kernel_rfl) (by kernel_rfl) (by kernel_rfl) (fun _ _ _ h => h) (Or.inl ⟨by rfl, ?_⟩) (by assumption) ?_
    rotate_left
    · (intro w _; go_simp; try with_reducible rfl)
    try simp only [Act.put, List.setIfInBounds_toArray, List.set_cons_zero, List.set_cons_succ]
    refine wpAnyH_take (i := 10) (oi := { dst := Option.some 19, op := Go.Op.move (Go.Operand.tmp 18), type := 4, pos := "wire.go:123", after := #[{ on := 9, ground := Go.Ground.data }, { on := 4, ground := Go.Ground.chain }], guard := Option.none }) (v := ?_) rfl (by kernel_rfl) (by kernel_rfl) (by kernel_rfl) (fun _ _ _ h => h) (Or.inl ⟨by rfl, ?_⟩) (by assumption) ?_
    rotate_left
    · (intro w _; go_simp; try with_reducible rfl)
    try simp only [Act.put, List.setIfInBounds_toArray, List.set_cons_zero, List.set_cons_succ]
    refine wpAnyH_take (i := 11) (oi := { dst := Option.some 20, op := Go.Op.move (Go.Operand.tmp 4), type := 194, pos := "wire.go:123", after := #[{ on := 10, ground := Go.Ground.guard }], guard := Option.some (10, Bool.true) }) (v := undef) rfl (by kernel_rfl) (by kernel_rfl) (by kernel_rfl) (fun _ _ _ h => h) (Or.inr ⟨by rfl, rfl⟩) (by assumption) ?_
    try simp only [Act.put, List.setIfInBounds_toArray, List.set_cons_zero, List.set_cons_succ]
    refine wpAnyH_take (i := 12) (oi := { dst := Option.some 21, op := Go.Op.binOp Go.BinOp.leq 194 (Go.Operand.tmp 20) (Go.Operand.const (Go.Value.int Go.IntKind.u32 262144)) 194, type := 4, pos := "wire.go:123", after := #[{ on := 11, ground := Go.Ground.data }, { on := 10, ground := Go.Ground.guard }], guard := Option.some (10, Bool.true) }) (v := undef) rfl (by kernel_rfl) (by kernel_rfl) (by kernel_rfl) (fun _ _ _ h => h) (Or.inr ⟨by rfl, rfl⟩) (by assumption) ?_
    try simp only [Act.put, List.setIfInBounds_toArray, List.set_cons_zero, List.set_cons_succ]
    refine wpAnyH_take (i := 13) (oi := { dst := Option.some 22, op := Go.Op.pick (Go.Operand.tmp 19) (Go.Operand.tmp 21) (Go.Operand.const (Go.Value.bool Bool.false)), type := 4, pos := "wire.go:123", after := #[{ on := 10, ground := Go.Ground.data }, { on := 12, ground := Go.Ground.data }], guard := Option.none }) (v := ?_) rfl (by kernel_rfl) (by kernel_rfl) (by kernel_rfl) (fun _ _ _ h => h) (Or.inl ⟨by rfl, ?_⟩) (by assumption) ?_
    rotate_left
    · (intro w _; go_simp; try with_reducible rfl)
    try simp only [Act.put, List.setIfInBounds_toArray, List.set_cons_zero, List.set_cons_succ]
    refine wpAnyH_take (i := 14) (oi := { dst := Option.some 23, op := Go.Op.move (Go.Operand.tmp 22), type := 4, pos := "wire.go:123", after := #[{ on := 13, ground := Go.Ground.data }, { on := 10, ground := Go.Ground.chain }], guard := Option.none }) (v := ?_) rfl (by kernel_rfl) (by kernel_rfl) (by kernel_rfl) (fun _ _ _ h => h) (Or.inl ⟨by rfl, ?_⟩) (by assumption) ?_
    rotate_left
    · (intro w _; go_simp; try with_reducible rfl)
    try simp only [Act.put, List.setIfInBounds_toArray, List.set_cons_zero, List.set_cons_succ]
    refine wpAnyH_take (i := 15) (oi := { dst := Option.some 24, op := Go.Op.move (Go.Operand.tmp 0), type := 41, pos := "wire.go:123", after := #[{ on := 14, ground := Go.Ground.guard }], guard := Option.some (14, Bool.true) }) (v := undef) rfl (by kernel_rfl) (by kernel_rfl) (by kernel_rfl) (fun _ _ _ h => h) (Or.inr ⟨by rfl, rfl⟩) (by assumption) ?_
    try simp only [Act.put, List.setIfInBounds_toArray, List.set_cons_zero, List.set_cons_succ]
    refine wpAnyH_take (i := 16) (oi := { dst := Option.some 25, op := Go.Op.slice 41 (Go.Operand.tmp 24) (Option.some (Go.Operand.const (Go.Value.int Go.IntKind.i64 6))) Option.none Option.none, type := 41, pos := "wire.go:123", after := #[{ on := 15, ground := Go.Ground.data }, { on := 14, ground := Go.Ground.guard }], guard := Option.some (14, Bool.true) }) (v := undef) rfl (by kernel_rfl) (by kernel_rfl) (by kernel_rfl) (fun _ _ _ h => h) (Or.inr ⟨by rfl, rfl⟩) (by assumption) ?_
    try simp only [Act.put, List.setIfInBounds_toArray, List.set_cons_zero, List.set_cons_succ]
    refine wpAnyH_take (i := 17) (oi := { dst := Option.some 26, op := Go.Op.call { callee := Go.Callee.value (Go.Operand.func 169), args := #[Go.Operand.tmp 25], argTypes := #[41] }, type := 194, pos := "wire.go:123", after := #[{ on := 16, ground := Go.Ground.data }, { on := 14, ground := Go.Ground.chain }, { on := 14, ground := Go.Ground.guard }], guard := Option.some (14, Bool.true) }) (v := undef) rfl (by kernel_rfl) (by kernel_rfl) (by kernel_rfl) (fun _ _ _ h => h) (Or.inr ⟨by rfl, rfl⟩) (by assumption) ?_
    try simp only [Act.put, List.setIfInBounds_toArray, List.set_cons_zero, List.set_cons_succ]
    refine wpAnyH_take (i := 18) (oi := { dst := Option.some 27, op := Go.Op.move (Go.Operand.tmp 0), type := 41, pos := "wire.go:123", after := #[{ on := 14, ground := Go.Ground.guard }], guard := Option.some (14, Bool.true) }) (v := undef) rfl (by kernel_rfl) (by kernel_rfl) (by kernel_rfl) (fun _ _ _ h => h) (Or.inr ⟨by rfl, rfl⟩) (by assumption) ?_
    try simp only [Act.put, List.setIfInBounds_toArray, List.set_cons_zero, List.set_cons_succ]
    refine wpAnyH_take (i := 19) (oi := { dst := Option.some 28, op := Go.Op.slice 41 (Go.Operand.tmp 27) Option.none (Option.some (Go.Operand.const (Go.Value.int Go.IntKind.i64 6))) Option.none, type := 41, pos := "wire.go:123", after := #[{ on := 18, ground := Go.Ground.data }, { on := 14, ground := Go.Ground.guard }], guard := Option.some (14, Bool.true) }) (v := undef) rfl (by kernel_rfl) (by kernel_rfl) (by kernel_rfl) (fun _ _ _ h => h) (Or.inr ⟨by rfl, rfl⟩) (by assumption) ?_
    try simp only [Act.put, List.setIfInBounds_toArray, List.set_cons_zero, List.set_cons_succ]
    refine wpAnyH_take (i := 20) (oi := { dst := Option.some 29, op := Go.Op.call { callee := Go.Callee.value (Go.Operand.func 125), args := #[Go.Operand.tmp 28], argTypes := #[41] }, type := 194, pos := "wire.go:123", after := #[{ on := 19, ground := Go.Ground.data }, { on := 17, ground := Go.Ground.chain }, { on := 14, ground := Go.Ground.guard }], guard := Option.some (14, Bool.true) }) (v := undef) rfl (by kernel_rfl) (by kernel_rfl) (by kernel_rfl) (fun _ _ _ h => h) (Or.inr ⟨by rfl, rfl⟩) (by assumption) ?_
    try simp only [Act.put, List.setIfInBounds_toArray, List.set_cons_zero, List.set_cons_succ]
    refine wpAnyH_take (i := 21) (oi := { dst := Option.some 30, op := Go.Op.binOp Go.BinOp.eql 194 (Go.Operand.tmp 26) (Go.Operand.tmp 29) 194, type := 4, pos := "wire.go:123", after := #[{ on := 17, ground := Go.Ground.data }, { on := 20, ground := Go.Ground.data }, { on := 14, ground := Go.Ground.guard }], guard := Option.some (14, Bool.true) }) (v := undef) rfl (by kernel_rfl) (by kernel_rfl) (by kernel_rfl) (fun _ _ _ h => h) (Or.inr ⟨by rfl, rfl⟩) (by assumption) ?_
    try simp only [Act.put, List.setIfInBounds_toArray, List.set_cons_zero, List.set_cons_succ]
    refine wpAnyH_take (i := 22) (oi := { dst := Option.some 31, op := Go.Op.pick (Go.Operand.tmp 23) (Go.Operand.tmp 30) (Go.Operand.const (Go.Value.bool Bool.false)), type := 4, pos := "wire.go:123", after := #[{ on := 14, ground := Go.Ground.data }, { on := 21, ground := Go.Ground.data }], guard := Option.none }) (v := ?_) rfl (by kernel_rfl) (by kernel_rfl) (by kernel_rfl) (fun _ _ _ h => h) (Or.inl ⟨by rfl, ?_⟩) (by assumption) ?_
    rotate_left
    · (intro w _; go_simp; try with_reducible rfl)
    try simp only [Act.put, List.setIfInBounds_toArray, List.set_cons_zero, List.set_cons_succ]
    refine wpAnyH_take (i := 23) (oi := { dst := Option.some 5, op := Go.Op.assign (Go.Operand.tmp 31), type := 4, pos := "wire.go:123", after := #[{ on := 22, ground := Go.Ground.data }, { on := 20, ground := Go.Ground.chain }, { on := 0, ground := Go.Ground.phase }, { on := 1, ground := Go.Ground.phase }, { on := 2, ground := Go.Ground.phase }, { on := 3, ground := Go.Ground.phase }, { on := 4, ground := Go.Ground.phase }, { on := 5, ground := Go.Ground.phase }, { on := 6, ground := Go.Ground.phase }, { on := 7, ground := Go.Ground.phase }, { on := 8, ground := Go.Ground.phase }, { on := 9, ground := Go.Ground.phase }, { on := 10, ground := Go.Ground.phase }, { on := 11, ground := Go.Ground.phase }, { on := 12, ground := Go.Ground.phase }, { on := 13, ground := Go.Ground.phase }, { on := 14, ground := Go.Ground.phase }, { on := 15, ground := Go.Ground.phase }, { on := 16, ground := Go.Ground.phase }, { on := 17, ground := Go.Ground.phase }, { on := 18, ground := Go.Ground.phase }, { on := 19, ground := Go.Ground.phase }, { on := 20, ground := Go.Ground.phase }, { on := 21, ground := Go.Ground.phase }, { on := 22, ground := Go.Ground.phase }], guard := Option.none }) (v := ?_) rfl (by kernel_rfl) (by kernel_rfl) (by kernel_rfl) (fun _ _ _ h => h) (Or.inl ⟨by rfl, ?_⟩) (by assumption) ?_
    rotate_left
    · (intro w _; go_simp; try with_reducible rfl)
    try simp only [Act.put, List.setIfInBounds_toArray, List.set_cons_zero, List.set_cons_succ]
    refine wpAnyH_done (by kernel_rfl) ?_ _
    go_wp2_with fail
    go_ret2
    exact ⟨by rw [HEB2.out, h1]; simp [wn], HBD.out⟩
  | true =>
    refine wpAnyH_take (i := 5) (oi := { dst := Option.some 14, op := Go.Op.move (Go.Operand.tmp 0), type := 41, pos := "wire.go:123", after := #[{ on := 4, ground := Go.Ground.guard }], guard := Option.some (4, Bool.true) }) (v := ?_) rfl (by kernel_rfl) (by kernel_rfl) (by kernel_rfl) (fun _ _ _ h => h) (Or.inl ⟨by rfl, ?_⟩) (by assumption) ?_
    rotate_left
    · (intro w _; go_simp; try with_reducible rfl)
    try simp only [Act.put, List.setIfInBounds_toArray, List.set_cons_zero, List.set_cons_succ]
    refine wpAnyH_take (i := 6) (oi := { dst := Option.some 15, op := Go.Op.indexAddr 41 (Go.Operand.tmp 14) (Go.Operand.const (Go.Value.int Go.IntKind.i64 1)), type := 0, pos := "wire.go:123", after := #[{ on := 5, ground := Go.Ground.data }, { on := 4, ground := Go.Ground.guard }], guard := Option.some (4, Bool.true) }) (v := ?_) rfl (by kernel_rfl) (by kernel_rfl) (by kernel_rfl) (fun _ _ _ h => h) (Or.inl ⟨by rfl, ?_⟩) (by assumption) ?_
    rotate_left
    · (intro w _; go_simp; try with_reducible rfl)
    try simp only [Act.put, List.setIfInBounds_toArray, List.set_cons_zero, List.set_cons_succ]
    refine wpAnyH_take (i := 7) (oi := { dst := Option.some 16, op := Go.Op.load 5 (Go.Operand.tmp 15), type := 5, pos := "wire.go:123", after := #[{ on := 6, ground := Go.Ground.data }, { on := 4, ground := Go.Ground.guard }], guard := Option.some (4, Bool.true) }) (v := ?_) rfl (by kernel_rfl) (by kernel_rfl) (by kernel_rfl) (fun _ _ _ h => h) (Or.inl ⟨by rfl, ?_⟩) (by assumption) ?_
    rotate_left
    · (intro w hSw; (try dsimp only at hSw); obtain ⟨hS0, hS1⟩ := hSw; go_simp; try with_reducible rfl)
    try simp only [Act.put, List.setIfInBounds_toArray, List.set_cons_zero, List.set_cons_succ]
    refine wpAnyH_take (i := 8) (oi := { dst := Option.some 17, op := Go.Op.binOp Go.BinOp.eql 5 (Go.Operand.tmp 16) (Go.Operand.const (Go.Value.int Go.IntKind.u8 58)) 5, type := 4, pos := "wire.go:123", after := #[{ on := 7, ground := Go.Ground.data }, { on := 4, ground := Go.Ground.guard }], guard := Option.some (4, Bool.true) }) (v := ?_) rfl (by kernel_rfl) (by kernel_rfl) (by kernel_rfl) (fun _ _ _ h => h) (Or.inl ⟨by rfl, ?_⟩) (by assumption) ?_
    rotate_left
    · (intro w _; go_simp; try with_reducible rfl)
    try simp only [Act.put, List.setIfInBounds_toArray, List.set_cons_zero, List.set_cons_succ]
    refine wpAnyH_take (i := 9) (oi := { dst := Option.some 18, op := Go.Op.pick (Go.Operand.tmp 13) (Go.Operand.tmp 17) (Go.Operand.const (Go.Value.bool Bool.false)), type := 4, pos := "wire.go:123", after := #[{ on := 4, ground := Go.Ground.data }, { on := 8, ground := Go.Ground.data }], guard := Option.none }) (v := ?_) rfl (by kernel_rfl) (by kernel_rfl) (by kernel_rfl) (fun _ _ _ h => h) (Or.inl ⟨by rfl, ?_⟩) (by assumption) ?_
    rotate_left
    · (intro w _; go_simp; try with_reducible rfl)
    try simp only [Act.put, List.setIfInBounds_toArray, List.set_cons_zero, List.set_cons_succ]
    refine wpAnyH_take (i := 10) (oi := { dst := Option.some 19, op := Go.Op.move (Go.Operand.tmp 18), type := 4, pos := "wire.go:123", after := #[{ on := 9, ground := Go.Ground.data }, { on := 4, ground := Go.Ground.chain }], guard := Option.none }) (v := ?_) rfl (by kernel_rfl) (by kernel_rfl) (by kernel_rfl) (fun _ _ _ h => h) (Or.inl ⟨by rfl, ?_⟩) (by assumption) ?_
    rotate_left
    · (intro w _; go_simp; try with_reducible rfl)
    try simp only [Act.put, List.setIfInBounds_toArray, List.set_cons_zero, List.set_cons_succ]
    cases h2 : ((b1 : Int) == 58) with
    | false =>
      refine wpAnyH_take (i := 11) (oi := { dst := Option.some 20, op := Go.Op.move (Go.Operand.tmp 4), type := 194, pos := "wire.go:123", after := #[{ on := 10, ground := Go.Ground.guard }], guard := Option.some (10, Bool.true) }) (v := undef) rfl (by kernel_rfl) (by kernel_rfl) (by kernel_rfl) (fun _ _ _ h => h) (Or.inr ⟨by rfl, rfl⟩) (by assumption) ?_
      try simp only [Act.put, List.setIfInBounds_toArray, List.set_cons_zero, List.set_cons_succ]
      refine wpAnyH_take (i := 12) (oi := { dst := Option.some 21, op := Go.Op.binOp Go.BinOp.leq 194 (Go.Operand.tmp 20) (Go.Operand.const (Go.Value.int Go.IntKind.u32 262144)) 194, type := 4, pos := "wire.go:123", after := #[{ on := 11, ground := Go.Ground.data }, { on := 10, ground := Go.Ground.guard }], guard := Option.some (10, Bool.true) }) (v := undef) rfl (by kernel_rfl) (by kernel_rfl) (by kernel_rfl) (fun _ _ _ h => h) (Or.inr ⟨by rfl, rfl⟩) (by assumption) ?_
      try simp only [Act.put, List.setIfInBounds_toArray, List.set_cons_zero, List.set_cons_succ]
      refine wpAnyH_take (i := 13) (oi := { dst := Option.some 22, op := Go.Op.pick (Go.Operand.tmp 19) (Go.Operand.tmp 21) (Go.Operand.const (Go.Value.bool Bool.false)), type := 4, pos := "wire.go:123", after := #[{ on := 10, ground := Go.Ground.data }, { on := 12, ground := Go.Ground.data }], guard := Option.none }) (v := ?_) rfl (by kernel_rfl) (by kernel_rfl) (by kernel_rfl) (fun _ _ _ h => h) (Or.inl ⟨by rfl, ?_⟩) (by assumption) ?_
      rotate_left
      · (intro w _; go_simp; try with_reducible rfl)
      try simp only [Act.put, List.setIfInBounds_toArray, List.set_cons_zero, List.set_cons_succ]
      refine wpAnyH_take (i := 14) (oi := { dst := Option.some 23, op := Go.Op.move (Go.Operand.tmp 22), type := 4, pos := "wire.go:123", after := #[{ on := 13, ground := Go.Ground.data }, { on := 10, ground := Go.Ground.chain }], guard := Option.none }) (v := ?_) rfl (by kernel_rfl) (by kernel_rfl) (by kernel_rfl) (fun _ _ _ h => h) (Or.inl ⟨by rfl, ?_⟩) (by assumption) ?_
      rotate_left
      · (intro w _; go_simp; try with_reducible rfl)
      try simp only [Act.put, List.setIfInBounds_toArray, List.set_cons_zero, List.set_cons_succ]
      refine wpAnyH_take (i := 15) (oi := { dst := Option.some 24, op := Go.Op.move (Go.Operand.tmp 0), type := 41, pos := "wire.go:123", after := #[{ on := 14, ground := Go.Ground.guard }], guard := Option.some (14, Bool.true) }) (v := undef) rfl (by kernel_rfl) (by kernel_rfl) (by kernel_rfl) (fun _ _ _ h => h) (Or.inr ⟨by rfl, rfl⟩) (by assumption) ?_
      try simp only [Act.put, List.setIfInBounds_toArray, List.set_cons_zero, List.set_cons_succ]
      refine wpAnyH_take (i := 16) (oi := { dst := Option.some 25, op := Go.Op.slice 41 (Go.Operand.tmp 24) (Option.some (Go.Operand.const (Go.Value.int Go.IntKind.i64 6))) Option.none Option.none, type := 41, pos := "wire.go:123", after := #[{ on := 15, ground := Go.Ground.data }, { on := 14, ground := Go.Ground.guard }], guard := Option.some (14, Bool.true) }) (v := undef) rfl (by kernel_rfl) (by kernel_rfl) (by kernel_rfl) (fun _ _ _ h => h) (Or.inr ⟨by rfl, rfl⟩) (by assumption) ?_
      try simp only [Act.put, List.setIfInBounds_toArray, List.set_cons_zero, List.set_cons_succ]
      refine wpAnyH_take (i := 17) (oi := { dst := Option.some 26, op := Go.Op.call { callee := Go.Callee.value (Go.Operand.func 169), args := #[Go.Operand.tmp 25], argTypes := #[41] }, type := 194, pos := "wire.go:123", after := #[{ on := 16, ground := Go.Ground.data }, { on := 14, ground := Go.Ground.chain }, { on := 14, ground := Go.Ground.guard }], guard := Option.some (14, Bool.true) }) (v := undef) rfl (by kernel_rfl) (by kernel_rfl) (by kernel_rfl) (fun _ _ _ h => h) (Or.inr ⟨by rfl, rfl⟩) (by assumption) ?_
      try simp only [Act.put, List.setIfInBounds_toArray, List.set_cons_zero, List.set_cons_succ]
      refine wpAnyH_take (i := 18) (oi := { dst := Option.some 27, op := Go.Op.move (Go.Operand.tmp 0), type := 41, pos := "wire.go:123", after := #[{ on := 14, ground := Go.Ground.guard }], guard := Option.some (14, Bool.true) }) (v := undef) rfl (by kernel_rfl) (by kernel_rfl) (by kernel_rfl) (fun _ _ _ h => h) (Or.inr ⟨by rfl, rfl⟩) (by assumption) ?_
      try simp only [Act.put, List.setIfInBounds_toArray, List.set_cons_zero, List.set_cons_succ]
      refine wpAnyH_take (i := 19) (oi := { dst := Option.some 28, op := Go.Op.slice 41 (Go.Operand.tmp 27) Option.none (Option.some (Go.Operand.const (Go.Value.int Go.IntKind.i64 6))) Option.none, type := 41, pos := "wire.go:123", after := #[{ on := 18, ground := Go.Ground.data }, { on := 14, ground := Go.Ground.guard }], guard := Option.some (14, Bool.true) }) (v := undef) rfl (by kernel_rfl) (by kernel_rfl) (by kernel_rfl) (fun _ _ _ h => h) (Or.inr ⟨by rfl, rfl⟩) (by assumption) ?_
      try simp only [Act.put, List.setIfInBounds_toArray, List.set_cons_zero, List.set_cons_succ]
      refine wpAnyH_take (i := 20) (oi := { dst := Option.some 29, op := Go.Op.call { callee := Go.Callee.value (Go.Operand.func 125), args := #[Go.Operand.tmp 28], argTypes := #[41] }, type := 194, pos := "wire.go:123", after := #[{ on := 19, ground := Go.Ground.data }, { on := 17, ground := Go.Ground.chain }, { on := 14, ground := Go.Ground.guard }], guard := Option.some (14, Bool.true) }) (v := undef) rfl (by kernel_rfl) (by kernel_rfl) (by kernel_rfl) (fun _ _ _ h => h) (Or.inr ⟨by rfl, rfl⟩) (by assumption) ?_
      try simp only [Act.put, List.setIfInBounds_toArray, List.set_cons_zero, List.set_cons_succ]
      refine wpAnyH_take (i := 21) (oi := { dst := Option.some 30, op := Go.Op.binOp Go.BinOp.eql 194 (Go.Operand.tmp 26) (Go.Operand.tmp 29) 194, type := 4, pos := "wire.go:123", after := #[{ on := 17, ground := Go.Ground.data }, { on := 20, ground := Go.Ground.data }, { on := 14, ground := Go.Ground.guard }], guard := Option.some (14, Bool.true) }) (v := undef) rfl (by kernel_rfl) (by kernel_rfl) (by kernel_rfl) (fun _ _ _ h => h) (Or.inr ⟨by rfl, rfl⟩) (by assumption) ?_
      try simp only [Act.put, List.setIfInBounds_toArray, List.set_cons_zero, List.set_cons_succ]
      refine wpAnyH_take (i := 22) (oi := { dst := Option.some 31, op := Go.Op.pick (Go.Operand.tmp 23) (Go.Operand.tmp 30) (Go.Operand.const (Go.Value.bool Bool.false)), type := 4, pos := "wire.go:123", after := #[{ on := 14, ground := Go.Ground.data }, { on := 21, ground := Go.Ground.data }], guard := Option.none }) (v := ?_) rfl (by kernel_rfl) (by kernel_rfl) (by kernel_rfl) (fun _ _ _ h => h) (Or.inl ⟨by rfl, ?_⟩) (by assumption) ?_
      rotate_left
      · (intro w _; go_simp; try with_reducible rfl)
      try simp only [Act.put, List.setIfInBounds_toArray, List.set_cons_zero, List.set_cons_succ]
      refine wpAnyH_take (i := 23) (oi := { dst := Option.some 5, op := Go.Op.assign (Go.Operand.tmp 31), type := 4, pos := "wire.go:123", after := #[{ on := 22, ground := Go.Ground.data }, { on := 20, ground := Go.Ground.chain }, { on := 0, ground := Go.Ground.phase }, { on := 1, ground := Go.Ground.phase }, { on := 2, ground := Go.Ground.phase }, { on := 3, ground := Go.Ground.phase }, { on := 4, ground := Go.Ground.phase }, { on := 5, ground := Go.Ground.phase }, { on := 6, ground := Go.Ground.phase }, { on := 7, ground := Go.Ground.phase }, { on := 8, ground := Go.Ground.phase }, { on := 9, ground := Go.Ground.phase }, { on := 10, ground := Go.Ground.phase }, { on := 11, ground := Go.Ground.phase }, { on := 12, ground := Go.Ground.phase }, { on := 13, ground := Go.Ground.phase }, { on := 14, ground := Go.Ground.phase }, { on := 15, ground := Go.Ground.phase }, { on := 16, ground := Go.Ground.phase }, { on := 17, ground := Go.Ground.phase }, { on := 18, ground := Go.Ground.phase }, { on := 19, ground := Go.Ground.phase }, { on := 20, ground := Go.Ground.phase }, { on := 21, ground := Go.Ground.phase }, { on := 22, ground := Go.Ground.phase }], guard := Option.none }) (v := ?_) rfl (by kernel_rfl) (by kernel_rfl) (by kernel_rfl) (fun _ _ _ h => h) (Or.inl ⟨by rfl, ?_⟩) (by assumption) ?_
      rotate_left
      · (intro w _; go_simp; try with_reducible rfl)
      try simp only [Act.put, List.setIfInBounds_toArray, List.set_cons_zero, List.set_cons_succ]
      refine wpAnyH_done (by kernel_rfl) ?_ _
      go_wp2_with fail
      go_ret2
      exact ⟨by rw [HEB2.out, h1, h2]; simp [wn], HBD.out⟩
    | true =>
      refine wpAnyH_take (i := 11) (oi := { dst := Option.some 20, op := Go.Op.move (Go.Operand.tmp 4), type := 194, pos := "wire.go:123", after := #[{ on := 10, ground := Go.Ground.guard }], guard := Option.some (10, Bool.true) }) (v := ?_) rfl (by kernel_rfl) (by kernel_rfl) (by kernel_rfl) (fun _ _ _ h => h) (Or.inl ⟨by rfl, ?_⟩) (by assumption) ?_
      rotate_left
      · (intro w _; go_simp; try with_reducible rfl)
      try simp only [Act.put, List.setIfInBounds_toArray, List.set_cons_zero, List.set_cons_succ]
      refine wpAnyH_take (i := 12) (oi := { dst := Option.some 21, op := Go.Op.binOp Go.BinOp.leq 194 (Go.Operand.tmp 20) (Go.Operand.const (Go.Value.int Go.IntKind.u32 262144)) 194, type := 4, pos := "wire.go:123", after := #[{ on := 11, ground := Go.Ground.data }, { on := 10, ground := Go.Ground.guard }], guard := Option.some (10, Bool.true) }) (v := ?_) rfl (by kernel_rfl) (by kernel_rfl) (by kernel_rfl) (fun _ _ _ h => h) (Or.inl ⟨by rfl, ?_⟩) (by assumption) ?_
      rotate_left
      · (intro w _; go_simp; try with_reducible rfl)
      try simp only [Act.put, List.setIfInBounds_toArray, List.set_cons_zero, List.set_cons_succ]
      refine wpAnyH_take (i := 13) (oi := { dst := Option.some 22, op := Go.Op.pick (Go.Operand.tmp 19) (Go.Operand.tmp 21) (Go.Operand.const (Go.Value.bool Bool.false)), type := 4, pos := "wire.go:123", after := #[{ on := 10, ground := Go.Ground.data }, { on := 12, ground := Go.Ground.data }], guard := Option.none }) (v := ?_) rfl (by kernel_rfl) (by kernel_rfl) (by kernel_rfl) (fun _ _ _ h => h) (Or.inl ⟨by rfl, ?_⟩) (by assumption) ?_
      rotate_left
      · (intro w _; go_simp; try with_reducible rfl)
      try simp only [Act.put, List.setIfInBounds_toArray, List.set_cons_zero, List.set_cons_succ]
      refine wpAnyH_take (i := 14) (oi := { dst := Option.some 23, op := Go.Op.move (Go.Operand.tmp 22), type := 4, pos := "wire.go:123", after := #[{ on := 13, ground := Go.Ground.data }, { on := 10, ground := Go.Ground.chain }], guard := Option.none }) (v := ?_) rfl (by kernel_rfl) (by kernel_rfl) (by kernel_rfl) (fun _ _ _ h => h) (Or.inl ⟨by rfl, ?_⟩) (by assumption) ?_
      rotate_left
      · (intro w _; go_simp; try with_reducible rfl)
      try simp only [Act.put, List.setIfInBounds_toArray, List.set_cons_zero, List.set_cons_succ]
      cases h3 : decide ((n : Int) ≤ 262144) with
      | false =>
        refine wpAnyH_take (i := 15) (oi := { dst := Option.some 24, op := Go.Op.move (Go.Operand.tmp 0), type := 41, pos := "wire.go:123", after := #[{ on := 14, ground := Go.Ground.guard }], guard := Option.some (14, Bool.true) }) (v := undef) rfl (by kernel_rfl) (by kernel_rfl) (by kernel_rfl) (fun _ _ _ h => h) (Or.inr ⟨by rfl, rfl⟩) (by assumption) ?_
        try simp only [Act.put, List.setIfInBounds_toArray, List.set_cons_zero, List.set_cons_succ]
        refine wpAnyH_take (i := 16) (oi := { dst := Option.some 25, op := Go.Op.slice 41 (Go.Operand.tmp 24) (Option.some (Go.Operand.const (Go.Value.int Go.IntKind.i64 6))) Option.none Option.none, type := 41, pos := "wire.go:123", after := #[{ on := 15, ground := Go.Ground.data }, { on := 14, ground := Go.Ground.guard }], guard := Option.some (14, Bool.true) }) (v := undef) rfl (by kernel_rfl) (by kernel_rfl) (by kernel_rfl) (fun _ _ _ h => h) (Or.inr ⟨by rfl, rfl⟩) (by assumption) ?_
        try simp only [Act.put, List.setIfInBounds_toArray, List.set_cons_zero, List.set_cons_succ]
        refine wpAnyH_take (i := 17) (oi := { dst := Option.some 26, op := Go.Op.call { callee := Go.Callee.value (Go.Operand.func 169), args := #[Go.Operand.tmp 25], argTypes := #[41] }, type := 194, pos := "wire.go:123", after := #[{ on := 16, ground := Go.Ground.data }, { on := 14, ground := Go.Ground.chain }, { on := 14, ground := Go.Ground.guard }], guard := Option.some (14, Bool.true) }) (v := undef) rfl (by kernel_rfl) (by kernel_rfl) (by kernel_rfl) (fun _ _ _ h => h) (Or.inr ⟨by rfl, rfl⟩) (by assumption) ?_
        try simp only [Act.put, List.setIfInBounds_toArray, List.set_cons_zero, List.set_cons_succ]
        refine wpAnyH_take (i := 18) (oi := { dst := Option.some 27, op := Go.Op.move (Go.Operand.tmp 0), type := 41, pos := "wire.go:123", after := #[{ on := 14, ground := Go.Ground.guard }], guard := Option.some (14, Bool.true) }) (v := undef) rfl (by kernel_rfl) (by kernel_rfl) (by kernel_rfl) (fun _ _ _ h => h) (Or.inr ⟨by rfl, rfl⟩) (by assumption) ?_
        try simp only [Act.put, List.setIfInBounds_toArray, List.set_cons_zero, List.set_cons_succ]
        refine wpAnyH_take (i := 19) (oi := { dst := Option.some 28, op := Go.Op.slice 41 (Go.Operand.tmp 27) Option.none (Option.some (Go.Operand.const (Go.Value.int Go.IntKind.i64 6))) Option.none, type := 41, pos := "wire.go:123", after := #[{ on := 18, ground := Go.Ground.data }, { on := 14, ground := Go.Ground.guard }], guard := Option.some (14, Bool.true) }) (v := undef) rfl (by kernel_rfl) (by kernel_rfl) (by kernel_rfl) (fun _ _ _ h => h) (Or.inr ⟨by rfl, rfl⟩) (by assumption) ?_
        try simp only [Act.put, List.setIfInBounds_toArray, List.set_cons_zero, List.set_cons_succ]
        refine wpAnyH_take (i := 20) (oi := { dst := Option.some 29, op := Go.Op.call { callee := Go.Callee.value (Go.Operand.func 125), args := #[Go.Operand.tmp 28], argTypes := #[41] }, type := 194, pos := "wire.go:123", after := #[{ on := 19, ground := Go.Ground.data }, { on := 17, ground := Go.Ground.chain }, { on := 14, ground := Go.Ground.guard }], guard := Option.some (14, Bool.true) }) (v := undef) rfl (by kernel_rfl) (by kernel_rfl) (by kernel_rfl) (fun _ _ _ h => h) (Or.inr ⟨by rfl, rfl⟩) (by assumption) ?_
        try simp only [Act.put, List.setIfInBounds_toArray, List.set_cons_zero, List.set_cons_succ]
        refine wpAnyH_take (i := 21) (oi := { dst := Option.some 30, op := Go.Op.binOp Go.BinOp.eql 194 (Go.Operand.tmp 26) (Go.Operand.tmp 29) 194, type := 4, pos := "wire.go:123", after := #[{ on := 17, ground := Go.Ground.data }, { on := 20, ground := Go.Ground.data }, { on := 14, ground := Go.Ground.guard }], guard := Option.some (14, Bool.true) }) (v := undef) rfl (by kernel_rfl) (by kernel_rfl) (by kernel_rfl) (fun _ _ _ h => h) (Or.inr ⟨by rfl, rfl⟩) (by assumption) ?_
        try simp only [Act.put, List.setIfInBounds_toArray, List.set_cons_zero, List.set_cons_succ]
        refine wpAnyH_take (i := 22) (oi := { dst := Option.some 31, op := Go.Op.pick (Go.Operand.tmp 23) (Go.Operand.tmp 30) (Go.Operand.const (Go.Value.bool Bool.false)), type := 4, pos := "wire.go:123", after := #[{ on := 14, ground := Go.Ground.data }, { on := 21, ground := Go.Ground.data }], guard := Option.none }) (v := ?_) rfl (by kernel_rfl) (by kernel_rfl) (by kernel_rfl) (fun _ _ _ h => h) (Or.inl ⟨by rfl, ?_⟩) (by assumption) ?_
        rotate_left
        · (intro w _; go_simp; try with_reducible rfl)
        try simp only [Act.put, List.setIfInBounds_toArray, List.set_cons_zero, List.set_cons_succ]
        refine wpAnyH_take (i := 23) (oi := { dst := Option.some 5, op := Go.Op.assign (Go.Operand.tmp 31), type := 4, pos := "wire.go:123", after := #[{ on := 22, ground := Go.Ground.data }, { on := 20, ground := Go.Ground.chain }, { on := 0, ground := Go.Ground.phase }, { on := 1, ground := Go.Ground.phase }, { on := 2, ground := Go.Ground.phase }, { on := 3, ground := Go.Ground.phase }, { on := 4, ground := Go.Ground.phase }, { on := 5, ground := Go.Ground.phase }, { on := 6, ground := Go.Ground.phase }, { on := 7, ground := Go.Ground.phase }, { on := 8, ground := Go.Ground.phase }, { on := 9, ground := Go.Ground.phase }, { on := 10, ground := Go.Ground.phase }, { on := 11, ground := Go.Ground.phase }, { on := 12, ground := Go.Ground.phase }, { on := 13, ground := Go.Ground.phase }, { on := 14, ground := Go.Ground.phase }, { on := 15, ground := Go.Ground.phase }, { on := 16, ground := Go.Ground.phase }, { on := 17, ground := Go.Ground.phase }, { on := 18, ground := Go.Ground.phase }, { on := 19, ground := Go.Ground.phase }, { on := 20, ground := Go.Ground.phase }, { on := 21, ground := Go.Ground.phase }, { on := 22, ground := Go.Ground.phase }], guard := Option.none }) (v := ?_) rfl (by kernel_rfl) (by kernel_rfl) (by kernel_rfl) (fun _ _ _ h => h) (Or.inl ⟨by rfl, ?_⟩) (by assumption) ?_
        rotate_left
        · (intro w _; go_simp; try with_reducible rfl)
        try simp only [Act.put, List.setIfInBounds_toArray, List.set_cons_zero, List.set_cons_succ]
        refine wpAnyH_done (by kernel_rfl) ?_ _
        go_wp2_with fail
        go_ret2
        exact ⟨by rw [HEB2.out, h1, h2, h3]; simp [wn], HBD.out⟩
      | true =>
        refine wpAnyH_take (i := 15) (oi := { dst := Option.some 24, op := Go.Op.move (Go.Operand.tmp 0), type := 41, pos := "wire.go:123", after := #[{ on := 14, ground := Go.Ground.guard }], guard := Option.some (14, Bool.true) }) (v := ?_) rfl (by kernel_rfl) (by kernel_rfl) (by kernel_rfl) (fun _ _ _ h => h) (Or.inl ⟨by rfl, ?_⟩) (by assumption) ?_
        rotate_left
        · (intro w _; go_simp; try with_reducible rfl)
        try simp only [Act.put, List.setIfInBounds_toArray, List.set_cons_zero, List.set_cons_succ]
        refine wpAnyH_take (i := 16) (oi := { dst := Option.some 25, op := Go.Op.slice 41 (Go.Operand.tmp 24) (Option.some (Go.Operand.const (Go.Value.int Go.IntKind.i64 6))) Option.none Option.none, type := 41, pos := "wire.go:123", after := #[{ on := 15, ground := Go.Ground.data }, { on := 14, ground := Go.Ground.guard }], guard := Option.some (14, Bool.true) }) (v := ?_) rfl (by kernel_rfl) (by kernel_rfl) (by kernel_rfl) (fun _ _ _ h => h) (Or.inl ⟨by rfl, ?_⟩) (by assumption) ?_
        rotate_left
        · (intro w _; go_simp; try with_reducible rfl)
        try simp only [Act.put, List.setIfInBounds_toArray, List.set_cons_zero, List.set_cons_succ]
        refine wpAnyH_take (i := 18) (oi := { dst := Option.some 27, op := Go.Op.move (Go.Operand.tmp 0), type := 41, pos := "wire.go:123", after := #[{ on := 14, ground := Go.Ground.guard }], guard := Option.some (14, Bool.true) }) (v := ?_) rfl (by kernel_rfl) (by kernel_rfl) (by kernel_rfl) (fun _ _ _ h => h) (Or.inl ⟨by rfl, ?_⟩) (by assumption) ?_
        rotate_left
        · (intro w _; go_simp; try with_reducible rfl)
        try simp only [Act.put, List.setIfInBounds_toArray, List.set_cons_zero, List.set_cons_succ]
        refine wpAnyH_take (i := 19) (oi := { dst := Option.some 28, op := Go.Op.slice 41 (Go.Operand.tmp 27) Option.none (Option.some (Go.Operand.const (Go.Value.int Go.IntKind.i64 6))) Option.none, type := 41, pos := "wire.go:123", after := #[{ on := 18, ground := Go.Ground.data }, { on := 14, ground := Go.Ground.guard }], guard := Option.some (14, Bool.true) }) (v := ?_) rfl (by kernel_rfl) (by kernel_rfl) (by kernel_rfl) (fun _ _ _ h => h) (Or.inl ⟨by rfl, ?_⟩) (by assumption) ?_
        rotate_left
        · (intro w _; go_simp; try with_reducible rfl)
        try simp only [Act.put, List.setIfInBounds_toArray, List.set_cons_zero, List.set_cons_succ]
        refine wpAnyH_ready (rs := [17]) (by kernel_rfl) (by simp) ?_
        refine AllReadyH.cons (o := { dst := Option.some 26, op := Go.Op.call { callee := Go.Callee.value (Go.Operand.func 169), args := #[Go.Operand.tmp 25], argTypes := #[41] }, type := 194, pos := "wire.go:123", after := #[{ on := 16, ground := Go.Ground.data }, { on := 14, ground := Go.Ground.chain }, { on := 14, ground := Go.Ground.guard }], guard := Option.some (14, Bool.true) }) rfl (fun K hK => ?_) ?_
        rotate_left
        · exact AllReadyH.nil
        go_simp
        (go_at_call 169; have hcf := c_word w1.drew T6 (c - 6) L6 (Kd.C_below HT6.out HBD.out) HT6B.out HK6.out; (with_reducible refine hcf.mono ?_); clear hcf; rintro e w2 ⟨rfl, hb⟩; have HB2 := Aside0.mk (below_step HBD.out hb); have HE0 := Aside0.mk ((Below.cell HB2.out HN0.out).trans HC0.out); have HE1 := Aside0.mk ((Below.cell HB2.out (p := ⟨ad.block, ad.off + 1, none⟩) HN0.out).trans HC1.out); clear hb)
        refine hK.out _ _ ?_ (fun hHeld => ?_)
        · exact ⟨HE0.out, HE1.out⟩
        clear hK K
        try simp only [Act.put, List.setIfInBounds_toArray, List.set_cons_zero, List.set_cons_succ]
        refine wpAnyH_ready (rs := [20]) (by kernel_rfl) (by simp) ?_
        refine AllReadyH.cons (o := { dst := Option.some 29, op := Go.Op.call { callee := Go.Callee.value (Go.Operand.func 125), args := #[Go.Operand.tmp 28], argTypes := #[41] }, type := 194, pos := "wire.go:123", after := #[{ on := 19, ground := Go.Ground.data }, { on := 17, ground := Go.Ground.chain }, { on := 14, ground := Go.Ground.guard }], guard := Option.some (14, Bool.true) }) rfl (fun K hK => ?_) ?_
        rotate_left
        · exact AllReadyH.nil
        go_simp
        (go_at_call 125; have hcf := c_sum w2 (some ad) c M (Kd.C_below HTK.out HB2.out) HXB.out; (with_reducible refine hcf.mono ?_); clear hcf; rintro e w3 ⟨rfl, hb⟩; have HB3 := Aside0.mk (below_step HB2.out hb); have HG0 := Aside0.mk ((Below.cell HB3.out HN0.out).trans HC0.out); have HG1 := Aside0.mk ((Below.cell HB3.out (p := ⟨ad.block, ad.off + 1, none⟩) HN0.out).trans HC1.out); clear hb)
        refine hK.out _ _ ?_ (fun hHeld => ?_)
        · exact ⟨HG0.out, HG1.out⟩
        clear hK K
        try simp only [Act.put, List.setIfInBounds_toArray, List.set_cons_zero, List.set_cons_succ]
        refine wpAnyH_take (i := 21) (oi := { dst := Option.some 30, op := Go.Op.binOp Go.BinOp.eql 194 (Go.Operand.tmp 26) (Go.Operand.tmp 29) 194, type := 4, pos := "wire.go:123", after := #[{ on := 17, ground := Go.Ground.data }, { on := 20, ground := Go.Ground.data }, { on := 14, ground := Go.Ground.guard }], guard := Option.some (14, Bool.true) }) (v := ?_) rfl (by kernel_rfl) (by kernel_rfl) (by kernel_rfl) (fun _ _ _ h => h) (Or.inl ⟨by rfl, ?_⟩) (by assumption) ?_
        rotate_left
        · (intro w _; go_simp; try with_reducible rfl)
        try simp only [Act.put, List.setIfInBounds_toArray, List.set_cons_zero, List.set_cons_succ]
        refine wpAnyH_take (i := 22) (oi := { dst := Option.some 31, op := Go.Op.pick (Go.Operand.tmp 23) (Go.Operand.tmp 30) (Go.Operand.const (Go.Value.bool Bool.false)), type := 4, pos := "wire.go:123", after := #[{ on := 14, ground := Go.Ground.data }, { on := 21, ground := Go.Ground.data }], guard := Option.none }) (v := ?_) rfl (by kernel_rfl) (by kernel_rfl) (by kernel_rfl) (fun _ _ _ h => h) (Or.inl ⟨by rfl, ?_⟩) (by assumption) ?_
        rotate_left
        · (intro w _; go_simp; try with_reducible rfl)
        try simp only [Act.put, List.setIfInBounds_toArray, List.set_cons_zero, List.set_cons_succ]
        refine wpAnyH_take (i := 23) (oi := { dst := Option.some 5, op := Go.Op.assign (Go.Operand.tmp 31), type := 4, pos := "wire.go:123", after := #[{ on := 22, ground := Go.Ground.data }, { on := 20, ground := Go.Ground.chain }, { on := 0, ground := Go.Ground.phase }, { on := 1, ground := Go.Ground.phase }, { on := 2, ground := Go.Ground.phase }, { on := 3, ground := Go.Ground.phase }, { on := 4, ground := Go.Ground.phase }, { on := 5, ground := Go.Ground.phase }, { on := 6, ground := Go.Ground.phase }, { on := 7, ground := Go.Ground.phase }, { on := 8, ground := Go.Ground.phase }, { on := 9, ground := Go.Ground.phase }, { on := 10, ground := Go.Ground.phase }, { on := 11, ground := Go.Ground.phase }, { on := 12, ground := Go.Ground.phase }, { on := 13, ground := Go.Ground.phase }, { on := 14, ground := Go.Ground.phase }, { on := 15, ground := Go.Ground.phase }, { on := 16, ground := Go.Ground.phase }, { on := 17, ground := Go.Ground.phase }, { on := 18, ground := Go.Ground.phase }, { on := 19, ground := Go.Ground.phase }, { on := 20, ground := Go.Ground.phase }, { on := 21, ground := Go.Ground.phase }, { on := 22, ground := Go.Ground.phase }], guard := Option.none }) (v := ?_) rfl (by kernel_rfl) (by kernel_rfl) (by kernel_rfl) (fun _ _ _ h => h) (Or.inl ⟨by rfl, ?_⟩) (by assumption) ?_
        rotate_left
        · (intro w _; go_simp; try with_reducible rfl)
        try simp only [Act.put, List.setIfInBounds_toArray, List.set_cons_zero, List.set_cons_succ]
        refine wpAnyH_done (by kernel_rfl) ?_ _
        go_wp2_with fail
        go_ret2
        exact ⟨by rw [HEB2.out, h1, h2, h3]; simp [wn], HB3.out⟩
end Go.Proofs.YtmneemhplffemaaGreatDoorRR.Sum
namespace Go.Proofs.YtmneemhplffemaaGreatDoorRR.Sum
open Go.RowKit Go.Proofs.YtmneemhplffemaaGreatDoorRR.Ext Go.Proofs.YtmneemhplffemaaGreatDoorRR.Wire Go.Proofs.YtmneemhplffemaaGreatDoorRR.Mem Go.Proofs.YtmneemhplffemaaGreatDoorRR.Row Go.Proofs.YtmneemhplffemaaGreatDoorRR.Crc Go.Proofs.YtmneemhplffemaaGreatDoorRRW.PrintWords
set_option linter.unusedVariables false
set_option linter.unusedSimpArgs false
theorem gate_copy {P : Program} {all : Array Oper} {rest : List Oper} {o : Oper} {a : Act} {Q : Exit → Act → World → Prop} {W : World} {ts : Array TypeId} {xs : Array Operand} (_ho : o.op = .call { callee := .builtin .copy, args := xs, argTypes := ts }) (h : wpList P all Q (o :: rest) a W) : wpList P all Q (o :: rest) a W := h
/-- What lies between a frame's head and its last sum. -/
def bodyOf (xs : List Int) : List Int := (xs.drop 10).take (xs.length - 14)
set_option maxRecDepth 100000 in
set_option maxHeartbeats 4000000 in
theorem c_body (W : World) (A : Option Addr) (c : Nat) (xs : List Int) (hC : (Kd.int .u8).C W A xs.length xs) (h14 : 14 ≤ xs.length) (hc : xs.length ≤ c) (hl : xs.length ≤ 1000000000) :
    Calls Tryz.prog 130 #[.slice A xs.length c] W fun e W' => ∃ v, e = .returned v ∧ BRow W' W.heap.size v (bodyOf xs) ∧ Below W.heap.size W W' := by
  obtain ⟨k, hk⟩ : ∃ k, k = xs.length - 14 := ⟨_, rfl⟩
  obtain ⟨T, hT, hsl⟩ := drop_of hC 10 10 rfl (by omega) hc
  have HEK := Aside0.mk (show wrap64 ((xs.length : Int) - 14) = (k : Int) by unfold wrap64; omega)
  have HKL := Aside0.mk (show k ≤ 1000000000 by omega)
  have HBO := Aside0.mk (show bodyOf xs = (xs.drop 10).take k by rw [bodyOf, hk])
  obtain ⟨bo, hbo⟩ : ∃ bo, bodyOf xs = bo := ⟨_, rfl⟩
  rw [hbo] at HBO
  rw [hbo]
  have HLN := Aside0.mk (show (xs.drop 10).length = k + 4 by rw [List.length_drop]; omega)
  obtain ⟨L, hL⟩ : ∃ L, xs.drop 10 = L := ⟨_, rfl⟩
  rw [hL] at hT hsl HBO HLN
  have HT := Aside0.mk hT
  clear hT hC hk h14 hl hc hL hbo
  go_enter Tryz.func130, Tryz.ntmps130
  go_wp2_with (first | ((with_reducible refine gate_make (t := 41) rfl ?_); refine Kd.R_make (Kd.int .u8) (w0 := W) W.heap.size 5 rfl rfl 41 (.tmp 6) (.tmp 6) rfl (wrap64 ((xs.length : Int) - 14)) rfl rfl Tryz.underlying41 (.int .u8 0) 1 info5 rfl (by decide) (by decide) 0 (okp := fun _ => True) (ok := fun _ => True) rfl (fun _ _ => trivial) trivial (by rw [HEK.out]; omega) (by rw [HEK.out]; have := HKL.out; omega) (Below.refl _ _) (Nat.le_refl _) ?_; intro v1 w1 ho hb _ _; rw [HEK.out] at ho; have HO1 := Aside0.mk (show BRow w1 W.heap.size v1 (List.replicate k 0) from ho); have HB1 := Aside0.mk hb; clear ho hb) | ((with_reducible refine gate_copy (ts := #[41, 41]) (xs := #[.tmp 8, .tmp 10]) rfl ?_); refine Kd.R_copy (0 : Int) (w0 := W) W.heap.size rfl (.tmp 8) (.tmp 10) 41 41 5 rfl Tryz.underlying41 (by kernel_rfl) v1 (List.replicate k 0) L T L.length (c - 10) (fun _ => True) rfl rfl HO1.out (Kd.C_below HT.out HB1.out) HB1.out HB1.out.size ?_; intro w2 ho hb _; have HO2 := Aside0.mk ho; have HB2 := Aside0.mk hb; clear ho hb))
  go_ret
  refine ⟨_, rfl, ?_, HB2.out⟩
  have h := HO2.out
  rw [List.length_replicate, HLN.out, Nat.min_eq_right (by omega), List.drop_eq_nil_of_le (by simp), List.append_nil, ← HBO.out] at h
  exact h
/-- Are these bytes wholly one frame? -/
def unOk (xs : List Int) : Bool := !decide ((xs.length : Int) < 10) && headB xs && !decide ((xs.length : Int) < (word4 (xs.drop 2) : Int) + 14) && !decide ((word4 (xs.drop 2) : Int) + 14 < (xs.length : Int)) && endsB xs
/-- What wire.Unframe answers. -/
def UnRes (W : World) (xs : List Int) (e : Ending) (W' : World) : Prop := ∃ v er, e = .returned (.tuple #[v, .int .i64 er]) ∧ Below W.heap.size W W' ∧ (unOk xs = true → er = 0 ∧ BRow W' W.heap.size v (bodyOf xs)) ∧ (unOk xs = false → er ≠ 0)
set_option maxRecDepth 100000 in
set_option maxHeartbeats 4000000 in
theorem c_unframe (W : World) (A : Option Addr) (c : Nat) (xs : List Int) (hC : (Kd.int .u8).C W A xs.length xs) (hB : Bytes xs) (hc : xs.length ≤ c) (hl : xs.length ≤ 1000000000) :
    Calls Tryz.prog 85 #[.slice A xs.length c] W fun e W' => UnRes W xs e W' := by
  have HC := Aside0.mk hC
  have HB := Aside0.mk hB
  have HCC := Aside0.mk hc
  have HL := Aside0.mk hl
  obtain ⟨u, hu⟩ : ∃ u, unOk xs = u := ⟨_, rfl⟩
  have HU := Aside0.mk hu
  have HUE := Aside0.mk (show unOk xs = (!decide ((xs.length : Int) < 10) && headB xs && !decide ((xs.length : Int) < (word4 (xs.drop 2) : Int) + 14) && !decide ((word4 (xs.drop 2) : Int) + 14 < (xs.length : Int)) && endsB xs) from rfl)
  have HNL := Aside0.mk (word4_lt (bytes_drop hB 2))
  obtain ⟨n, hn⟩ : ∃ n, word4 (xs.drop 2) = n := ⟨_, rfl⟩
  have HN := Aside0.mk hn
  rw [hn] at HUE HNL
  have wn : wrap64 ((n : Int) + 14) = (n : Int) + 14 := by have := HNL.out; unfold wrap64; omega
  clear hC hB hc hl hu hn
  go_enter Tryz.func85, Tryz.ntmps85
  cases h1 : decide ((xs.length : Int) < 10) with
  | true =>
    go_wp2_with fail
    go_ret2
    exact ⟨_, _, rfl, Below.refl _ _, fun h => by rw [HUE.out, h1] at h; simp at h, fun _ => by decide⟩
  | false =>
    have HTEN := Aside0.mk (show 10 ≤ xs.length by have := of_decide_eq_false h1; omega)
    cases h2 : headB xs with
    | false =>
      go_wp2_with (go_at_call 128; have hcf := c_head W A c xs HC.out HB.out HTEN.out HCC.out; rw [HN.out, h2] at hcf; (with_reducible refine hcf.mono ?_); clear hcf; rintro e w1 ⟨rfl, hb⟩; have HB1 := Aside0.mk hb; clear hb)
      go_ret2
      exact ⟨_, _, rfl, HB1.out, fun h => by rw [HUE.out, h2] at h; simp at h, fun _ => by decide⟩
    | true =>
      cases h3 : decide ((xs.length : Int) < (n : Int) + 14) with
      | true =>
        go_wp2_with (go_at_call 128; have hcf := c_head W A c xs HC.out HB.out HTEN.out HCC.out; rw [HN.out, h2] at hcf; (with_reducible refine hcf.mono ?_); clear hcf; rintro e w1 ⟨rfl, hb⟩; have HB1 := Aside0.mk hb; clear hb)
        go_ret2
        exact ⟨_, _, rfl, HB1.out, fun h => by rw [HUE.out, h3] at h; simp at h, fun _ => by decide⟩
      | false =>
        cases h4 : decide ((n : Int) + 14 < (xs.length : Int)) with
        | true =>
          have h4' : decide ((xs.length : Int) > (n : Int) + 14) = true := h4
          go_wp2_with (go_at_call 128; have hcf := c_head W A c xs HC.out HB.out HTEN.out HCC.out; rw [HN.out, h2] at hcf; (with_reducible refine hcf.mono ?_); clear hcf; rintro e w1 ⟨rfl, hb⟩; have HB1 := Aside0.mk hb; clear hb)
          go_ret2
          exact ⟨_, _, rfl, HB1.out, fun h => by rw [HUE.out, h4] at h; simp at h, fun _ => by decide⟩
        | false =>
          have h4' : decide ((xs.length : Int) > (n : Int) + 14) = false := h4
          have H14 := Aside0.mk (show 14 ≤ xs.length by have := of_decide_eq_false h3; omega)
          cases h5 : endsB xs with
          | false =>
            go_wp2_with (first | (go_at_call 128; have hcf := c_head W A c xs HC.out HB.out HTEN.out HCC.out; rw [HN.out, h2] at hcf; (with_reducible refine hcf.mono ?_); clear hcf; rintro e w1 ⟨rfl, hb⟩; have HB1 := Aside0.mk hb; clear hb) | (go_at_call 129; have hcf := c_tail w1 A c xs (Kd.C_below HC.out HB1.out) HB.out (Nat.le_trans (by decide) H14.out) HCC.out; rw [h5] at hcf; (with_reducible refine hcf.mono ?_); clear hcf; rintro e w2 ⟨rfl, hb⟩; have HB2 := Aside0.mk (below_step HB1.out hb); clear hb))
            go_ret2
            exact ⟨_, _, rfl, HB2.out, fun h => by rw [HUE.out, h5] at h; simp at h, fun _ => by decide⟩
          | true =>
            go_wp2_with (first | (go_at_call 128; have hcf := c_head W A c xs HC.out HB.out HTEN.out HCC.out; rw [HN.out, h2] at hcf; (with_reducible refine hcf.mono ?_); clear hcf; rintro e w1 ⟨rfl, hb⟩; have HB1 := Aside0.mk hb; clear hb) | (go_at_call 129; have hcf := c_tail w1 A c xs (Kd.C_below HC.out HB1.out) HB.out (Nat.le_trans (by decide) H14.out) HCC.out; rw [h5] at hcf; (with_reducible refine hcf.mono ?_); clear hcf; rintro e w2 ⟨rfl, hb⟩; have HB2 := Aside0.mk (below_step HB1.out hb); clear hb) | (go_at_call 130; have hcf := c_body w2 A c xs (Kd.C_below HC.out HB2.out) H14.out HCC.out HL.out; (with_reducible refine hcf.mono ?_); clear hcf; rintro e w3 ⟨v3, rfl, ho, hb⟩; have HO3 := Aside0.mk (Kd.R_lower ho HB2.out.size); have HB3 := Aside0.mk (below_step HB2.out hb); clear ho hb))
            go_ret2
            exact ⟨_, _, rfl, HB3.out, fun _ => ⟨rfl, HO3.out⟩, fun h => by rw [HUE.out, h1, h2, h3, h4, h5] at h; simp at h⟩
end Go.Proofs.YtmneemhplffemaaGreatDoorRR.Sum
namespace Go.Proofs.YtmneemhplffemaaGreatDoorRR.Same
open Go.RowKit Go.Proofs.YtmneemhplffemaaGreatDoorRR.Row Go.Proofs.YtmneemhplffemaaGreatDoorRR.Ord Go.Proofs.YtmneemhplffemaaGreatDoorRR.Name Go.Proofs.YtmneemhplffemaaGreatDoorRR.Chk Go.Proofs.YtmneemhplffemaaGreatDoorRR.May Go.Proofs.YtmneemhplffemaaGreatDoorRR.Ext Go.Proofs.YtmneemhplffemaaGreatDoorRR.Wire Go.Proofs.YtmneemhplffemaaGreatDoorRR.Mem Go.Proofs.YtmneemhplffemaaGreatDoorRR.Put Go.Proofs.YtmneemhplffemaaGreatDoorRR.Get Go.Proofs.YtmneemhplffemaaGreatDoorRR.Law Go.Proofs.YtmneemhplffemaaGreatDoorRR.Ki Go.Proofs.YtmneemhplffemaaGreatDoorRR.Tab Go.Proofs.YtmneemhplffemaaGreatDoorRR.Arg Go.Proofs.YtmneemhplffemaaGreatDoorRRW.PrintWords
set_option linter.unusedVariables false
set_option linter.unusedSimpArgs false
theorem wf64 {v : Int} (h : (Lit.int .i64 v).wf = true) : -9223372036854775808 ≤ v ∧ v ≤ 9223372036854775807 := by
  have e1 : IntKind.i64.min = -9223372036854775808 := by kernel_rfl
  have e2 : IntKind.i64.max = 9223372036854775807 := by kernel_rfl
  simp [Lit.wf, e1, e2] at h
  omega
end Go.Proofs.YtmneemhplffemaaGreatDoorRR.Same
namespace Go.Proofs.YtmneemhplffemaaGreatDoorRR.Sum
open Go.RowKit Go.Proofs.YtmneemhplffemaaGreatDoorRR.Row Go.Proofs.YtmneemhplffemaaGreatDoorRR.Ord Go.Proofs.YtmneemhplffemaaGreatDoorRR.Name Go.Proofs.YtmneemhplffemaaGreatDoorRR.Chk Go.Proofs.YtmneemhplffemaaGreatDoorRR.May Go.Proofs.YtmneemhplffemaaGreatDoorRR.Ext Go.Proofs.YtmneemhplffemaaGreatDoorRR.Wire Go.Proofs.YtmneemhplffemaaGreatDoorRR.Mem Go.Proofs.YtmneemhplffemaaGreatDoorRR.Put Go.Proofs.YtmneemhplffemaaGreatDoorRR.Get Go.Proofs.YtmneemhplffemaaGreatDoorRR.Law Go.Proofs.YtmneemhplffemaaGreatDoorRR.Ki Go.Proofs.YtmneemhplffemaaGreatDoorRR.Tab Go.Proofs.YtmneemhplffemaaGreatDoorRR.Arg Go.Proofs.YtmneemhplffemaaGreatDoorRR.Crc Go.Proofs.YtmneemhplffemaaGreatDoorRRW.PrintWords
set_option linter.unusedVariables false
set_option linter.unusedSimpArgs false
theorem str_of {W : World} {A : Option Addr} {xs : List Int} (hC : (Kd.int .u8).C W A xs.length xs) (hB : Bytes xs) (h0 : 0 < xs.length) (c : Nat) :
    (convert 41 9 (.slice A xs.length c)).run Tryz.prog W = .ok (.string (strOfNums xs)) W := by
  obtain ⟨ad, rfl⟩ : ∃ ad, A = some ad := by obtain ⟨ad, h, _⟩ := Kd.at_int hC 0 (by omega) (by omega); exact ⟨ad, h⟩
  have h := run_convert_bytes_back (P := Tryz.prog) W 41 9 5 ad c (xs.map fun n => UInt8.ofNat n.toNat) Tryz.underlying41 Tryz.underlying5 Tryz.underlying9 (fun j hj => by
    have hj' : j < xs.length := by simpa using hj
    obtain ⟨b, hb, he, hc⟩ := byte_at hC hB hj'
    rw [hc]
    have e : xs[j] = (b : Int) := by rw [← he, List.getD_eq_getElem?_getD, List.getElem?_eq_getElem hj']; rfl
    simp only [List.getElem_map, e, Int.toNat_natCast]
    rw [show (UInt8.ofNat b).toNat = b by simp; omega])
  rw [List.length_map] at h
  exact h
theorem bytesOf_str {xs : List Int} (hB : Bytes xs) : bytesOf (strOfNums xs) = xs := by
  unfold bytesOf strOfNums
  simp only [List.map_map]
  refine List.ext_getElem (by simp) fun j h1 h2 => ?_
  have := hB xs[j] (List.getElem_mem h2)
  simp
  omega
theorem frame_bytes {bs : List Int} (h : Bytes bs) (hl : bs.length ≤ 262144) : Bytes (frameOf bs) := by
  have hh : Bytes (headOf bs.length) := bytes_app (bytes_app marks_bytes (be4_bytes (n := bs.length) (by omega))) (be4_bytes (sum_lt (bytes_app marks_bytes (be4_bytes (n := bs.length) (by omega)))))
  exact bytes_app (bytes_app hh h) (be4_bytes (sum_lt (bytes_app hh h)))
theorem head_length (n : Nat) : (headOf n).length = 10 := rfl
theorem frame_length (bs : List Int) : (frameOf bs).length = bs.length + 14 := by
  rw [frameOf, List.length_append, List.length_append, head_length]
  show 10 + bs.length + 4 = _
  omega
theorem frame_pos (bs : List Int) : 0 < (frameOf bs).length := by rw [frame_length]; omega
theorem mess_size : (Tryz.prog.info? 67).map (·.size) = some 3 := by kernel_rfl
theorem mess_one (p q : Int) (s : ByteArray) : ∀ u ∈ (#[.int .i64 p, .int .i64 q, .string s] : Array Value).toList, u.oneCell' = true := by
  intro u hu
  simp at hu
  rcases hu with rfl | rfl | rfl <;> rfl
set_option maxRecDepth 100000 in
set_option maxHeartbeats 4000000 in
theorem c_message (w0 W : World) (p q : Int) (x : Note) (cs : List Value) (hk : k34.K w0 x cs) (hb : Below w0.heap.size w0 W) (HE : EnvN w0) (hz : Sane x) (hp : addr p = true) (hq : addr q = true) :
    Calls Tryz.prog 34 #[.int .i64 p, .int .i64 q, .agg cs.toArray] W fun e W' => Below W.heap.size W W' ∧ (mCheck x = false → e = .returned (.tuple #[.agg #[.int .i64 0, .int .i64 0, .string ⟨#[]⟩], .int .i64 30])) ∧ (mCheck x = true → e = .returned (.tuple #[.agg #[.int .i64 p, .int .i64 q, .string (strOfNums (frameOf (encNote x)))], .int .i64 0])) := by
  have HK := Aside0.mk hk
  have HE := Aside0.mk HE
  have HZ := Aside0.mk hz
  have HSZ := Aside0.mk (cs_size hk)
  have HB := Aside0.mk hb
  have HGE := Aside0.mk hb.size
  have HP := Aside0.mk hp
  have HQ := Aside0.mk hq
  clear hk hz hb hp hq
  go_enter Tryz.func34, Tryz.ntmps34
  go_upto_region 1 with ((with_reducible refine gate_box (t := 34) rfl ?_); refine box_row rfl rfl rfl ?_; intro g1 hg1 w1 hbx hb1; have HX1 := Aside0.mk hbx; have HB1 := Aside0.mk hb1; clear hbx hb1 hg1)
  have HB2 := Aside0.mk (below_step HB1.out (below_alloc (Below.refl w1.heap.size w1) (Obj.cells #[.int .i64 0, .int .i64 0, .string ⟨#[]⟩] 67 (0, 0))))
  have HX2 := Aside0.mk (blk_below (below_alloc (Below.refl w1.heap.size w1) (Obj.cells #[.int .i64 0, .int .i64 0, .string ⟨#[]⟩] 67 (0, 0))) HX1.out)
  have HM2 := Aside0.mk (Mem.blk_alloc (W := w1) (Obj.cells #[.int .i64 0, .int .i64 0, .string ⟨#[]⟩] 67 (0, 0)))
  have HG2 := Aside0.mk (HB1.out.size)
  obtain ⟨w2, hw2⟩ : ∃ w2, w1.alloc (Obj.cells #[.int .i64 0, .int .i64 0, .string ⟨#[]⟩] 67 (0, 0)) = w2 := ⟨_, rfl⟩
  rw [hw2] at HB2 HX2 HM2
  rw [hw2]
  obtain ⟨g2, hg2⟩ : ∃ g2, w1.heap.size = g2 := ⟨_, rfl⟩
  rw [hg2] at HM2 HG2
  rw [hg2]
  clear hw2 hg2
  cases hmc : mCheck x with
  | false =>
    have HMC := Aside0.mk hmc
    clear hmc
    go_wp2_with (first | (go_at_call 81; have hcf := c_address w2 p; rw [HP.out] at hcf; (with_reducible refine hcf.mono ?_); clear hcf; rintro e w' ⟨rfl, hw'⟩; cases hw') | (go_at_call 81; have hcf := c_address w2 q; rw [HQ.out] at hcf; (with_reducible refine hcf.mono ?_); clear hcf; rintro e w' ⟨rfl, hw'⟩; cases hw') | ((with_reducible refine gate_load (t := 34) rfl ?_); refine load_row rfl rfl Tryz.underlying34 rfl HX2.out rfl HSZ.out ?_) | (go_at_call 21; (with_reducible refine (c_encodeP w0 w2 x cs HK.out (below_base HB.out HGE.out HB2.out) HE.out HZ.out).mono ?_); rintro e w3 ⟨hb, hno, _⟩; obtain rfl := hno HMC.out; clear hno; have HM3 := Aside0.mk (blk_below hb HM2.out); have HB3 := Aside0.mk (below_step HB2.out hb); clear hb) | ((with_reducible refine gate_store2 (t := 67) rfl ?_); refine store_row (old := #[.int .i64 0, .int .i64 0, .string ⟨#[]⟩]) (cs := #[.int .i64 0, .int .i64 0, .string ⟨#[]⟩]) rfl rfl rfl HM3.out rfl rfl mess_size rfl (mess_one _ _ _) ?_; intro w9 hm9 hx9; have HX9 := Aside0.mk hx9; have HB9 := Aside0.mk (Moved.above (w0 := W) hm9 HB3.out (fun k hk => by have := HG2.out; omega)); clear hm9 hx9))
    refine bodyPost_ret (results_ct rfl _ _ _ _ _ _ _ _ rfl rfl HX9.out Tryz.underlying67 rfl mess_size) rfl ?_
    exact ⟨HB9.out, fun _ => rfl, fun h => by have h' := HMC.out; rw [h] at h'; cases h'⟩
  | true =>
    have HMC := Aside0.mk hmc
    have HFN := Aside0.mk (fine_note hmc)
    clear hmc
    obtain ⟨bs, hbs⟩ : ∃ bs, encNote x = bs := ⟨_, rfl⟩
    have HBS := Aside0.mk hbs
    rw [hbs] at HFN
    clear hbs
    go_wp2_with (first | (go_at_call 81; have hcf := c_address w2 p; rw [HP.out] at hcf; (with_reducible refine hcf.mono ?_); clear hcf; rintro e w' ⟨rfl, hw'⟩; cases hw') | (go_at_call 81; have hcf := c_address w2 q; rw [HQ.out] at hcf; (with_reducible refine hcf.mono ?_); clear hcf; rintro e w' ⟨rfl, hw'⟩; cases hw') | ((with_reducible refine gate_load (t := 34) rfl ?_); refine load_row rfl rfl Tryz.underlying34 rfl HX2.out rfl HSZ.out ?_) | (go_at_call 21; (with_reducible refine (c_encodeP w0 w2 x cs HK.out (below_base HB.out HGE.out HB2.out) HE.out HZ.out).mono ?_); rintro e w3 ⟨hb, _, hok⟩; obtain ⟨v, rfl, hv⟩ := hok HMC.out; rw [HBS.out] at hv; obtain ⟨B, d, rfl⟩ := Kd.R_slice hv; have HV3 := Aside0.mk (Kd.R_reads' hv).2.2; clear hok hv; have HM3 := Aside0.mk (blk_below hb HM2.out); have HB3 := Aside0.mk (below_step HB2.out hb); clear hb) | (go_at_call 82; have hal := below_alloc (Below.refl w3.heap.size w3) (Obj.cells #[.slice B bs.length d] 41 (0, 0)); have hcl := blk_cell (Mem.blk_alloc (W := w3) (Obj.cells #[.slice B bs.length d] 41 (0, 0))) 0; have hcf := c_frame _ w3.heap.size B d bs hcl (Kd.C_below HV3.out hal) HFN.out.2 (by have := HFN.out.1; omega); (with_reducible refine hcf.mono ?_); clear hcf hcl; rintro e w4 ⟨v4, rfl, ho, hb⟩; obtain ⟨A4, c4, rfl⟩ := Kd.R_slice ho; have hcv := str_of (Kd.R_reads' ho).2.2 (frame_bytes HFN.out.2 (by have := HFN.out.1; omega)) (frame_pos bs) c4; have HB4 := Aside0.mk (below_step (below_step HB3.out hal) hb); have HM4 := Aside0.mk (blk_below hb (blk_below hal HM3.out)); clear hb ho hal) | ((with_reducible refine gate_store2 (t := 67) rfl ?_); refine store_row (old := #[.int .i64 0, .int .i64 0, .string ⟨#[]⟩]) (cs := #[.int .i64 p, .int .i64 q, .string (strOfNums (frameOf bs))]) rfl rfl rfl HM4.out rfl rfl mess_size rfl (mess_one _ _ _) ?_; intro w9 hm9 hx9; have HX9 := Aside0.mk hx9; have HB9 := Aside0.mk (Moved.above (w0 := W) hm9 HB4.out (fun k hk => by have := HG2.out; omega)); clear hm9 hx9))
    refine bodyPost_ret (results_ct rfl _ _ _ _ _ _ _ _ rfl rfl HX9.out Tryz.underlying67 rfl mess_size) rfl ?_
    exact ⟨HB9.out, fun h => (by have h' := HMC.out; rw [h] at h'; cases h'), fun _ => (by rw [HBS.out]; rfl)⟩
end Go.Proofs.YtmneemhplffemaaGreatDoorRR.Sum
namespace Go.Proofs.YtmneemhplffemaaGreatDoorRR.Sum
open Go.RowKit Go.Proofs.YtmneemhplffemaaGreatDoorRR.Row Go.Proofs.YtmneemhplffemaaGreatDoorRR.Ord Go.Proofs.YtmneemhplffemaaGreatDoorRR.Name Go.Proofs.YtmneemhplffemaaGreatDoorRR.Chk Go.Proofs.YtmneemhplffemaaGreatDoorRR.May Go.Proofs.YtmneemhplffemaaGreatDoorRR.Ext Go.Proofs.YtmneemhplffemaaGreatDoorRR.Wire Go.Proofs.YtmneemhplffemaaGreatDoorRR.Mem Go.Proofs.YtmneemhplffemaaGreatDoorRR.Put Go.Proofs.YtmneemhplffemaaGreatDoorRR.Get Go.Proofs.YtmneemhplffemaaGreatDoorRR.Law Go.Proofs.YtmneemhplffemaaGreatDoorRR.Ki Go.Proofs.YtmneemhplffemaaGreatDoorRR.Tab Go.Proofs.YtmneemhplffemaaGreatDoorRR.Arg Go.Proofs.YtmneemhplffemaaGreatDoorRR.Crc Go.Proofs.YtmneemhplffemaaGreatDoorRRW.PrintWords
set_option linter.unusedVariables false
set_option linter.unusedSimpArgs false
theorem blk_cell_fr {W : World} {k : Nat} {cs : Array Value} {t : TypeId} {fr : Nat × Nat} (h : W.heap[k]? = some (.cells cs t fr)) (j : Nat) : W.cell? ⟨k, j, none⟩ = cs[j]? := by
  simp [World.cell?, h]
theorem bytes_of_str (w : World) (s : ByteArray) (xs : List Int) (hx : bytesOf s = xs) (hl : s.size ≤ 1000000000) :
    ∃ g c w', (convert 9 41 (.string s)).run Tryz.prog w = .ok (.slice (some ⟨g, 0, none⟩) xs.length c) w' ∧ Below w.heap.size w w' ∧ (Kd.int .u8).C w' (some ⟨g, 0, none⟩) xs.length xs ∧ xs.length ≤ c ∧ w.heap.size ≤ g ∧ ∃ row fr, w'.heap[g]? = some (.cells row 5 (row.size, fr)) := by
  have hlen : xs.length = s.size := by rw [← hx, bytesOf_length]
  refine ⟨w.heap.size, _, _, by rw [hlen]; exact run_bytes_of_string w _ _ _ s Tryz.underlying9 Tryz.underlying41 Tryz.underlying5, ?_, ?_, by rw [hlen]; exact grownCap_ge _ _ _ _, Nat.le_refl _, _, _, Mem.blk_alloc (W := w.drew) _⟩
  · exact below_step (below_drew (Below.refl _ _)) (below_alloc (Below.refl _ _) _)
  · refine Kd.C_of_reads (d := 0) ⟨rfl, by omega, fun _ => ⟨_, rfl, fun j hj => ?_⟩⟩
    have h := blk_cell_fr (Mem.blk_alloc (W := w.drew) (.cells (bytesRow s (grownCap w s.size 0 5)) 5 ((bytesRow s (grownCap w s.size 0 5)).size, (bytesRow s (grownCap w s.size 0 5)).size + 1))) j
    have e : (⟨w.heap.size, 0, none⟩ : Addr).add j = ⟨w.heap.size, j, none⟩ := by
      unfold Addr.add
      by_cases h0 : j = 0
      · simp [h0]
      · simp [h0]
    have hj' : j < s.data.size := by have : s.size = s.data.size := rfl; omega
    rw [e]
    refine h.trans ?_
    rw [bytesRow_at s _ j hj', ← hx]
    simp [bytesOf, List.getD_eq_getElem?_getD]
    rw [Array.getElem?_eq_getElem hj']
    rfl
set_option maxRecDepth 100000 in
set_option maxHeartbeats 4000000 in
theorem c_open_no (W : World) (p q : Int) (s : ByteArray) (xs : List Int) (hx : bytesOf s = xs) (hB : Bytes xs) (hl : s.size ≤ 1000000000) (hp : addr p = true) (hq : addr q = true) (hn : unOk xs = false) :
    Calls Tryz.prog 36 #[.agg #[.int .i64 p, .int .i64 q, .string s]] W fun e W' => Below W.heap.size W W' ∧ ∃ er : Int, (er == 0) = false ∧ e = .returned (.tuple #[.agg zeroCells.toArray, .int .i64 er]) := by
  have HP := Aside0.mk hp
  have HQ := Aside0.mk hq
  have HN := Aside0.mk hn
  have HX := Aside0.mk hx
  have HB := Aside0.mk hB
  have HLE := Aside0.mk hl
  have HXL := Aside0.mk (show xs.length ≤ 1000000000 by rw [← hx, bytesOf_length]; exact hl)
  have hb1 := below_alloc (Below.refl W.heap.size W) (Obj.cells #[.int .i64 p, .int .i64 q, .string s] 67 (0, 0))
  have hx1 := Mem.blk_alloc (W := W) (Obj.cells #[.int .i64 p, .int .i64 q, .string s] 67 (0, 0))
  obtain ⟨w1, hw1⟩ : ∃ w1, w1 = W.alloc (Obj.cells #[.int .i64 p, .int .i64 q, .string s] 67 (0, 0)) := ⟨_, rfl⟩
  have HW1 := Aside0.mk (show W.alloc (Obj.cells #[.int .i64 p, .int .i64 q, .string s] 67 (0, 0)) = w1 from hw1.symm)
  rw [← hw1] at hb1 hx1
  have hb2 := below_alloc (Below.refl w1.heap.size w1) (Obj.cells zeroCells.toArray 34 (0, 0))
  have hx2 := Mem.blk_alloc (W := w1) (Obj.cells zeroCells.toArray 34 (0, 0))
  have hy1 := blk_below hb2 hx1
  have hs1 : w1.heap.size = W.heap.size + 1 := by rw [hw1]; simp
  obtain ⟨w2, hw2⟩ : ∃ w2, w2 = w1.alloc (Obj.cells zeroCells.toArray 34 (0, 0)) := ⟨_, rfl⟩
  have HW2 := Aside0.mk (show w1.alloc (Obj.cells #[.int .i64 0, .int .i64 0, .int .i64 0, .int .i64 0, .int .i64 0, .int .i64 0, .int .i64 0, .int .i64 0, .int .i64 0, .int .i64 0, .int .i64 0, .slice none 0 0, .slice none 0 0, .int .i64 0, .int .i64 0, .int .i64 0, .slice none 0 0, .slice none 0 0, .slice none 0 0, .slice none 0 0, .string ⟨#[]⟩] 34 (0, 0)) = w2 from hw2.symm)
  rw [← hw2] at hb2 hx2 hy1
  have n_0 : w2.cell? ⟨W.heap.size, 0, none⟩ = some (.int .i64 p) := blk_cell hy1 0
  have n_1 : w2.cell? ⟨W.heap.size, 1, none⟩ = some (.int .i64 q) := blk_cell hy1 1
  have n_2 : w2.cell? ⟨W.heap.size, 2, none⟩ = some (.string s) := blk_cell hy1 2
  rw [hs1] at hx2
  have HX2 := Aside0.mk hx2
  have HB2 := Aside0.mk (below_step hb1 hb2)
  obtain ⟨g, c, w3, hcv, hb3, hC, hc, hz1, hz2⟩ := bytes_of_str w2 s xs hx hl
  have HC := Aside0.mk hC
  have HCC := Aside0.mk hc
  have HB3 := Aside0.mk (below_step HB2.out hb3)
  have HX3 := Aside0.mk (blk_below hb3 hx2)
  clear hx hB hl hp hq hn hb1 hx1 hw1 hb2 hx2 hw2 hy1 hC hc hb3 hs1 hz1 hz2
  go_enter Tryz.func36, Tryz.ntmps36
  go_upto_region 1 with fail
  rw [HW1.out, HW2.out]
  clear HW1 HW2
  go_upto_region 4 with (first | (go_at_call 81; have hcf := c_address w2 p; rw [HP.out] at hcf; (with_reducible refine hcf.mono ?_); clear hcf; rintro e w' ⟨rfl, hw'⟩; cases hw') | (go_at_call 81; have hcf := c_address w2 q; rw [HQ.out] at hcf; (with_reducible refine hcf.mono ?_); clear hcf; rintro e w' ⟨rfl, hw'⟩; cases hw') | (go_at_call 85; (with_reducible refine (c_unframe w3 _ c xs HC.out HB.out HCC.out HXL.out).mono ?_); rintro e w4 ⟨v4, er, rfl, hb, _, hne⟩; have her : (er == 0) = false := (by simpa using hne HN.out); have her2 : (er != 0) = true := (by simpa using hne HN.out); have HER := Aside0.mk her; have HB4 := Aside0.mk (below_step HB3.out hb); have HX4 := Aside0.mk (blk_below hb HX3.out); clear hb hne))
  go_wp2_with ((with_reducible refine gate_store2 (t := 34) rfl ?_); refine store_row (old := zeroCells.toArray) (cs := zeroCells.toArray) rfl rfl rfl HX4.out rfl rfl zero_size rfl zero_one ?_; intro w9 hm9 hx9; have HX9 := Aside0.mk hx9; have HB9 := Aside0.mk (Moved.above (w0 := W) hm9 HB4.out (fun k hk => by omega)); clear hm9 hx9)
  refine bodyPost_ret (results_ct rfl _ _ _ _ _ _ _ _ rfl rfl HX9.out Tryz.underlying34 rfl zero_size) rfl ?_
  exact ⟨HB9.out, _, HER.out, rfl⟩
end Go.Proofs.YtmneemhplffemaaGreatDoorRR.Sum
namespace Go.Proofs.YtmneemhplffemaaGreatDoorRR.Sum
open Go.RowKit Go.Proofs.YtmneemhplffemaaGreatDoorRR.Ext Go.Proofs.YtmneemhplffemaaGreatDoorRR.Wire Go.Proofs.YtmneemhplffemaaGreatDoorRR.Mem Go.Proofs.YtmneemhplffemaaGreatDoorRR.Row Go.Proofs.YtmneemhplffemaaGreatDoorRR.Crc Go.Proofs.YtmneemhplffemaaGreatDoorRRW.PrintWords
set_option linter.unusedVariables false
set_option linter.unusedSimpArgs false
theorem be4_length (n : Nat) : (be4 n).length = 4 := rfl
theorem word4_be4 (s : Nat) (h : s < 4294967296) : word4 (be4 s) = s := by
  simp [word4, be4]
  omega
theorem ends_app {Q R : List Int} (h : R.length = 4) : endsB (Q ++ R) = ((word4 R : Int) == (sumN (nats Q) : Int)) := by
  have e : (Q ++ R).length - 4 = Q.length := by rw [List.length_append]; omega
  rw [endsB, e, List.drop_left, List.take_left]
theorem word4_turned {s k : Nat} {b c : Int} (hs : s < 4294967296) (hb : (be4 s)[k]? = some b) (h0 : 0 ≤ c) (h1 : c < 256) (hne : c ≠ b) : word4 ((be4 s).set k c) ≠ s := by
  have hk : k < 4 := by
    rcases Nat.lt_or_ge k 4 with h | h
    · exact h
    · rw [List.getElem?_eq_none (by rw [be4_length]; omega)] at hb; cases hb
  have e0 : ∀ x : Int, x = (s : Int) / 16777216 → 0 ≤ x ∧ x < 256 := by intro x hx; omega
  match k, hk with
  | 0, _ => simp [be4] at hb; simp [word4, be4]; omega
  | 1, _ => simp [be4] at hb; simp [word4, be4]; omega
  | 2, _ => simp [be4] at hb; simp [word4, be4]; omega
  | 3, _ => simp [be4] at hb; simp [word4, be4]; omega
theorem nats_app (u v : List Int) : nats (u ++ v) = nats u ++ nats v := by simp [nats]
theorem nats_cons (x : Int) (v : List Int) : nats (x :: v) = x.toNat :: nats v := rfl
theorem ends_turned {P : List Int} {i : Nat} {b c : Int} (hP : Bytes P) (hi : (P ++ be4 (sumN (nats P)))[i]? = some b) (h0 : 0 ≤ c) (h1 : c < 256) (hne : c ≠ b) :
    endsB ((P ++ be4 (sumN (nats P))).set i c) = false := by
  have hs := sum_lt hP
  rcases Nat.lt_or_ge i P.length with h | h
  · rw [List.getElem?_append_left h] at hi
    rw [List.set_append_left _ _ h, ends_app (be4_length _), word4_be4 _ hs]
    have hb : 0 ≤ b ∧ b < 256 := hP b (List.mem_of_getElem? hi)
    have hPe : P = P.take i ++ b :: P.drop (i + 1) := by
      have hg : P[i] = b := by rw [List.getElem?_eq_getElem h] at hi; exact Option.some.inj hi
      rw [← hg, ← List.drop_eq_getElem_cons h, List.take_append_drop]
    have hSe : P.set i c = P.take i ++ c :: P.drop (i + 1) := by
      rw [List.set_eq_take_append_cons_drop, if_pos h]
    have hd : sumN (nats P) ≠ sumN (nats (P.set i c)) := by
      intro he
      rw [hSe] at he
      have hL : nats P = nats (P.take i) ++ b.toNat :: nats (P.drop (i + 1)) := by rw [← nats_cons, ← nats_app, ← hPe]
      rw [hL, nats_app, nats_cons] at he
      have := sumN_turned (nats_lt (bytes_take hP i)) (nats_lt (bytes_drop hP (i + 1))) (by omega) (by omega) he
      omega
    rw [beq_eq_false_iff_ne]
    intro he
    exact hd (by omega)
  · rw [List.getElem?_append_right h] at hi
    rw [List.set_append_right _ _ h, ends_app (by rw [List.length_set]; rfl)]
    have := word4_turned hs hi h0 h1 hne
    rw [beq_eq_false_iff_ne]
    intro he
    exact this (by omega)
/-- A FRAME OF WHICH ONE BYTE IS TURNED IS NO FRAME. -/
theorem turned_no {bs : List Int} (hB : Bytes bs) (hl : bs.length ≤ 262144) {i : Nat} {b c : Int} (hi : (frameOf bs)[i]? = some b) (h0 : 0 ≤ c) (h1 : c < 256) (hne : c ≠ b) : unOk ((frameOf bs).set i c) = false := by
  have hh : Bytes (headOf bs.length) := bytes_app (bytes_app marks_bytes (be4_bytes (n := bs.length) (by omega))) (be4_bytes (sum_lt (bytes_app marks_bytes (be4_bytes (n := bs.length) (by omega)))))
  have he : endsB ((frameOf bs).set i c) = false := ends_turned (bytes_app hh hB) hi h0 h1 hne
  rw [unOk, he, Bool.and_false]
end Go.Proofs.YtmneemhplffemaaGreatDoorRR.Sum
namespace Go.Proofs.YtmneemhplffemaaGreatDoorRR.Same
open Go.RowKit Go.Proofs.YtmneemhplffemaaGreatDoorRR.Row Go.Proofs.YtmneemhplffemaaGreatDoorRR.Ord Go.Proofs.YtmneemhplffemaaGreatDoorRR.Name Go.Proofs.YtmneemhplffemaaGreatDoorRR.Chk Go.Proofs.YtmneemhplffemaaGreatDoorRR.May Go.Proofs.YtmneemhplffemaaGreatDoorRR.Ext Go.Proofs.YtmneemhplffemaaGreatDoorRR.Wire Go.Proofs.YtmneemhplffemaaGreatDoorRR.Mem Go.Proofs.YtmneemhplffemaaGreatDoorRR.Put Go.Proofs.YtmneemhplffemaaGreatDoorRR.Get Go.Proofs.YtmneemhplffemaaGreatDoorRR.Law Go.Proofs.YtmneemhplffemaaGreatDoorRR.Ki Go.Proofs.YtmneemhplffemaaGreatDoorRR.Tab Go.Proofs.YtmneemhplffemaaGreatDoorRRW.PrintWords
set_option linter.unusedVariables false
set_option linter.unusedSimpArgs false
theorem same0' (W : World) : Calls Tryz.prog 19 #[.agg zeroCells.toArray, .agg #[.int .i64 0, .int .i64 0, .int .i64 0, .int .i64 0, .int .i64 0, .int .i64 0, .int .i64 0, .int .i64 0, .int .i64 0, .int .i64 0, .int .i64 0, .slice none 0 0, .slice none 0 0, .int .i64 0, .int .i64 0, .int .i64 0, .slice none 0 0, .slice none 0 0, .slice none 0 0, .slice none 0 0, .string ⟨#[]⟩]] W fun e W' => e = .returned (.bool true) ∧ Below W.heap.size W W' := same0 W
end Go.Proofs.YtmneemhplffemaaGreatDoorRR.Same
namespace Go.Proofs.YtmneemhplffemaaGreatDoorRR.Sum
open Go.RowKit Go.Proofs.YtmneemhplffemaaGreatDoorRR.Row Go.Proofs.YtmneemhplffemaaGreatDoorRR.Ord Go.Proofs.YtmneemhplffemaaGreatDoorRR.Name Go.Proofs.YtmneemhplffemaaGreatDoorRR.Chk Go.Proofs.YtmneemhplffemaaGreatDoorRR.May Go.Proofs.YtmneemhplffemaaGreatDoorRR.Ext Go.Proofs.YtmneemhplffemaaGreatDoorRR.Wire Go.Proofs.YtmneemhplffemaaGreatDoorRR.Mem Go.Proofs.YtmneemhplffemaaGreatDoorRR.Put Go.Proofs.YtmneemhplffemaaGreatDoorRR.Get Go.Proofs.YtmneemhplffemaaGreatDoorRR.Law Go.Proofs.YtmneemhplffemaaGreatDoorRR.Ki Go.Proofs.YtmneemhplffemaaGreatDoorRR.Tab Go.Proofs.YtmneemhplffemaaGreatDoorRR.Arg Go.Proofs.YtmneemhplffemaaGreatDoorRR.Crc Go.Proofs.YtmneemhplffemaaGreatDoorRR.Same Go.Proofs.YtmneemhplffemaaGreatDoorRRW.PrintWords
set_option linter.unusedVariables false
set_option linter.unusedSimpArgs false
theorem set_byte {w : World} {g k : Nat} {xs : List Int} {m : Int} (hC : (Kd.int .u8).C w (some ⟨g, 0, none⟩) xs.length xs) (hB : Bytes xs) (hk : k < xs.length) (hm : 0 ≤ m ∧ m < 256) :
    (Kd.int .u8).C (w.setCell ⟨g, k, none⟩ (.int .u8 m)) (some ⟨g, 0, none⟩) (xs.set k m).length (xs.set k m) := by
  have ha : ∀ j, (⟨g, 0, none⟩ : Addr).add j = ⟨g, j, none⟩ := by
    intro j
    unfold Addr.add
    by_cases h0 : j = 0
    · simp [h0]
    · simp [h0]
  refine Kd.C_of_reads (d := 0) ⟨rfl, by rw [List.length_set]; exact hC.2.1, fun _ => ⟨_, rfl, fun j hj => ?_⟩⟩
  rw [List.length_set] at hj
  rw [ha]
  obtain ⟨b, _, _, hc⟩ := byte_at hC hB hk
  rw [ha] at hc
  by_cases h : j = k
  · subst h
    rw [World.cell?_setCell_same w _ _ hc]
    simp [List.getD_eq_getElem?_getD, hk]
  · obtain ⟨b', _, he, hc'⟩ := byte_at hC hB hj
    rw [ha] at hc'
    rw [@World.cell?_setCell_other w ⟨g, k, none⟩ ⟨g, j, none⟩ (.int .u8 m) (by intro e; injection e with e1 e2; exact h e2.symm), hc', ← he]
    simp [List.getD_eq_getElem?_getD, List.getElem?_set_ne (Ne.symm h)]
theorem bytes_set {xs : List Int} (h : Bytes xs) (k : Nat) {m : Int} (hm : 0 ≤ m ∧ m < 256) : Bytes (xs.set k m) := by
  intro b hb
  rcases List.mem_or_eq_of_mem_set hb with hb | hb
  · exact h b hb
  · subst hb; exact hm
theorem xor_ne {b t : Nat} (h : t ≠ 0) : b ^^^ t ≠ b := by
  intro e
  have : b ^^^ (b ^^^ t) = b ^^^ b := by rw [e]
  rw [← Nat.xor_assoc, Nat.xor_self, Nat.zero_xor] at this
  exact h this
theorem addr1 : addr 1 = true := by decide
theorem addr2 : addr 2 = true := by decide
set_option maxRecDepth 100000 in
set_option maxHeartbeats 4000000 in
theorem c_turned (W : World) (x : Note) (cs : List Value) (pl : Int) (t : Nat) (hK : k34.K W x cs) (hO : OkNote x) (hp : -9223372036854775808 ≤ pl ∧ pl ≤ 9223372036854775807) (ht : t < 256) (HE : EnvN W) :
    Calls Tryz.prog 14 #[.agg cs.toArray, .int .i64 pl, .int .u8 (t : Int)] W fun e W' => e = .returned (.bool true) ∧ Below W.heap.size W W' := by
  have HE := Aside0.mk HE
  have HK := Aside0.mk hK
  have HSZ := Aside0.mk (cs_size hK)
  have HSA := Aside0.mk (ok_sane hO)
  have HPL := Aside0.mk hp
  have HT := Aside0.mk ht
  clear hK hO hp ht
  go_enter Tryz.func14, Tryz.ntmps14
  go_upto_region 4 with (first | ((with_reducible refine gate_box (t := 34) rfl ?_); refine box_row rfl rfl rfl ?_; intro g1 hg1 w1 hbx hb1; have HX1 := Aside0.mk hbx; have HB1 := Aside0.mk hb1; clear hbx hb1 hg1) | (go_at_call 15; (with_reducible refine (c_begins _ (HE.out.at_ HB1.out)).mono ?_); rintro e w2 ⟨rfl, hb2⟩; have HX2 := Aside0.mk (blk_below hb2 HX1.out); have HB2 := Aside0.mk (below_step HB1.out hb2); clear hb2))
  cases hmx : mCheck x with
  | false =>
    have HMX := Aside0.mk hmx
    clear hmx
    go_upto_region 5 with (first | ((with_reducible refine gate_load (t := 34) rfl ?_); refine load_row rfl rfl Tryz.underlying34 rfl HX2.out rfl HSZ.out ?_) | (go_at_call 34; (with_reducible refine (c_message W w2 1 2 x cs HK.out HB2.out HE.out HSA.out addr1 addr2).mono ?_); rintro e w3 ⟨hb, hno, _⟩; obtain rfl := hno HMX.out; clear hno; have HB3 := Aside0.mk (below_step HB2.out hb); clear hb) | ((with_reducible refine gate_store2 (t := 67) rfl ?_); refine store_row (old := #[.int .i64 0, .int .i64 0, .string ⟨#[]⟩]) (cs := #[.int .i64 0, .int .i64 0, .string ⟨#[]⟩]) rfl rfl rfl (Mem.blk_alloc _) rfl rfl mess_size rfl (mess_one _ _ _) ?_; intro w4 hm4 hx4; have HX4 := Aside0.mk hx4; have HB4 := Aside0.mk (below_step HB3.out (Moved.above_ hm4 (Nat.le_refl _))); clear hm4 hx4))
    go_wp2_with fail
    go_ret
    exact ⟨rfl, HB4.out⟩
  | true =>
    have HMX := Aside0.mk hmx
    have HFN := Aside0.mk (fine_note hmx)
    clear hmx
    obtain ⟨bs, hbs⟩ : ∃ bs, encNote x = bs := ⟨_, rfl⟩
    have HBS := Aside0.mk hbs
    rw [hbs] at HFN
    obtain ⟨fr, hfr⟩ : ∃ fr, frameOf bs = fr := ⟨_, rfl⟩
    have HFR := Aside0.mk hfr
    have HFB := Aside0.mk (show Bytes fr by rw [← hfr]; exact frame_bytes HFN.out.2 (by have := HFN.out.1; omega))
    obtain ⟨s, hs⟩ : ∃ s, strOfNums fr = s := ⟨_, rfl⟩
    have HS := Aside0.mk hs
    have HBO := Aside0.mk (show bytesOf s = fr by rw [← hs]; exact bytesOf_str HFB.out)
    have hsz : s.size = fr.length := by rw [← hs]; exact strOfNums_size fr
    have hfl : fr.length = bs.length + 14 := by rw [← hfr]; exact frame_length bs
    have hl1 := HFN.out.1
    have HSL := Aside0.mk (show s.size ≤ 1000000000 by omega)
    have z1 : ((s.size : Int) == 0) = false := by rw [beq_eq_false_iff_ne]; omega
    have z2 : (s.size == 0) = false := by rw [beq_eq_false_iff_ne]; omega
    have HFL := Aside0.mk hfl
    have HSF := Aside0.mk hsz
    clear hbs hfr hs hsz hfl hl1
    go_upto_region 5 with (first | ((with_reducible refine gate_load (t := 34) rfl ?_); refine load_row rfl rfl Tryz.underlying34 rfl HX2.out rfl HSZ.out ?_) | (go_at_call 34; (with_reducible refine (c_message W w2 1 2 x cs HK.out HB2.out HE.out HSA.out addr1 addr2).mono ?_); rintro e w3 ⟨hb, hno, hok⟩; clear hno; obtain he := hok HMX.out; rw [HBS.out, HFR.out, HS.out] at he; obtain rfl := he; clear hok; have HB3 := Aside0.mk (below_step HB2.out hb); clear hb) | ((with_reducible refine gate_store2 (t := 67) rfl ?_); refine store_row (old := #[.int .i64 0, .int .i64 0, .string ⟨#[]⟩]) (cs := #[.int .i64 1, .int .i64 2, .string s]) rfl rfl rfl (Mem.blk_alloc _) rfl rfl mess_size rfl (mess_one _ _ _) ?_; intro w4 hm4 hx4; have HX4 := Aside0.mk hx4; have HB4 := Aside0.mk (below_step HB3.out (Moved.above_ hm4 (Nat.le_refl _))); clear hm4 hx4))
    have n_0 : w4.cell? ⟨w3.heap.size, 0, none⟩ = some (.int .i64 1) := blk_cell HX4.out 0
    have n_1 : w4.cell? ⟨w3.heap.size, 1, none⟩ = some (.int .i64 2) := blk_cell HX4.out 1
    have n_2 : w4.cell? ⟨w3.heap.size, 2, none⟩ = some (.string s) := blk_cell HX4.out 2
    cases ht0 : ((t : Int) == 0) with
    | true =>
      go_wp2_with fail
      go_ret
      exact ⟨rfl, HB4.out⟩
    | false =>
      have HT0 := Aside0.mk (show t ≠ 0 by intro h; subst h; simp at ht0)
      obtain ⟨g, c, w5, hcv, hb5, hC5, hc5, hz1, hz2⟩ := bytes_of_str w4 s fr HBO.out HSL.out
      have HB5 := Aside0.mk (below_step HB4.out hb5)
      have HC5 := Aside0.mk hC5
      have HCC := Aside0.mk hc5
      have HZ2 := Aside0.mk hz2
      have HG5 := Aside0.mk (Nat.le_trans HB4.out.size hz1)
      clear hb5 hC5 hc5 hz1 hz2
      cases hneg : decide (pl < 0) with
      | true =>
        have hpl := HPL.out
        have hng := of_decide_eq_true hneg
        have e1 : wrap64 (pl + 1) = pl + 1 := by unfold wrap64; omega
        have e2 : wrap64 (-(pl + 1)) = -(pl + 1) := by unfold wrap64; omega
        obtain ⟨q, hq⟩ : ∃ q, wrap64 (-(pl + 1)) = q := ⟨_, rfl⟩
        have HQ := Aside0.mk (show 0 ≤ q ∧ q ≤ 9223372036854775807 by omega)
        clear e2 hpl hng
        go_upto_region 10 with fail
        rw [hq]
        clear hq e1 hneg
        have hfl : 0 < fr.length := by have := HFL.out; omega
        obtain ⟨k, hk, hkl⟩ : ∃ k : Nat, q.tmod (fr.length : Int) = (k : Int) ∧ k < fr.length := by
          obtain ⟨m, hm⟩ := Int.eq_ofNat_of_zero_le HQ.out.1
          exact ⟨m % fr.length, by rw [hm]; rfl, Nat.mod_lt _ hfl⟩
        have hl0 : (fr.length : Int) ≠ 0 := by omega
        have hk0 : (0 : Int) ≤ (k : Int) := by omega
        have hk1 : (k : Int) < fr.length := by omega
        obtain ⟨b, hb, hbe, hbc⟩ := byte_at HC5.out HFB.out hkl
        have ha : (⟨g, 0, none⟩ : Addr).add k = ⟨g, k, none⟩ := by
          unfold Addr.add
          by_cases h0 : k = 0
          · simp [h0]
          · simp [h0]
        rw [ha] at hbc
        have hx : bits .xor .u8 (b : Int) (t : Int) = ((b ^^^ t : Nat) : Int) := u8_xor_nat b t hb HT.out
        obtain ⟨row, fz, hrow⟩ := HZ2.out
        have hfz : w5.frozen? ⟨g, k, none⟩ = false := by
          have hks : k < row.size := by
            have := hbc
            rw [blk_cell_fr hrow] at this
            exact (Array.getElem?_eq_some_iff.1 this).1
          simp [World.frozen?, hrow]
          omega
        have HROW := Aside0.mk hrow
        have HBE := Aside0.mk hbe
        clear hrow hbe
        go_region
        have hmx : 0 ≤ ((b ^^^ t : Nat) : Int) ∧ ((b ^^^ t : Nat) : Int) < 256 := by have hx8 : b ^^^ t < 2 ^ 8 := Nat.xor_lt_two_pow (by omega) (by have := HT.out; omega); omega
        have hne : ((b ^^^ t : Nat) : Int) ≠ (b : Int) := by have := @xor_ne b t HT0.out; omega
        have hfk : fr[k]? = some (b : Int) := by
          have := HBE.out
          rw [List.getD_eq_getElem?_getD, List.getElem?_eq_getElem hkl] at this
          rw [List.getElem?_eq_getElem hkl]
          simpa using this
        have HTN := Aside0.mk (show unOk (fr.set k ((b ^^^ t : Nat) : Int)) = false by
          rw [← HFR.out] at hfk ⊢
          exact turned_no HFN.out.2 (by have := HFN.out.1; omega) hfk hmx.1 hmx.2 hne)
        have HYB := Aside0.mk (bytes_set HFB.out k hmx)
        have HYC := Aside0.mk (Kd.C_below (set_byte HC5.out HFB.out hkl hmx) (below_drew (Below.refl _ _)))
        have HYL := Aside0.mk (show (fr.set k ((b ^^^ t : Nat) : Int)).length = fr.length by rw [List.length_set])
        have HB6 := Aside0.mk (below_drew (Below.setCell HB5.out (p := ⟨g, k, none⟩) HG5.out (.int .u8 ((b ^^^ t : Nat) : Int))))
        obtain ⟨w6, hw6⟩ : ∃ w6, (w5.setCell ⟨g, k, none⟩ (.int .u8 ((b ^^^ t : Nat) : Int))).drew = w6 := ⟨_, rfl⟩
        rw [hw6] at HYC HB6
        rw [hw6]
        obtain ⟨ys, hys⟩ : ∃ ys, fr.set k ((b ^^^ t : Nat) : Int) = ys := ⟨_, rfl⟩
        rw [hys] at HTN HYB HYC HYL
        have hcv2 := str_of HYC.out HYB.out (by rw [HYL.out]; exact hfl) c
        rw [HYL.out] at hcv2
        obtain ⟨s2, hs2⟩ : ∃ s2, strOfNums ys = s2 := ⟨_, rfl⟩
        rw [hs2] at hcv2
        have HBO2 := Aside0.mk (show bytesOf s2 = ys by rw [← hs2]; exact bytesOf_str HYB.out)
        have HSL2 := Aside0.mk (show s2.size ≤ 1000000000 by rw [← hs2, strOfNums_size, HYL.out, ← HSF.out]; exact HSL.out)
        clear hw6 hys hs2 hmx hne hfk hfz hbc hx hcv n_0 n_1 n_2 hfl hk hkl hl0 hk0 hk1 ha
        go_upto_region 12 with (first | (go_at_call 36; have hcf := c_open_no w6 1 2 s2 ys HBO2.out HYB.out HSL2.out addr1 addr2 HTN.out; (refine hcf.mono ?_); clear hcf; rintro e w7 ⟨hb7, er, her, rfl⟩; have her2 : (er != 0) = true := (by simpa using her); have HER := Aside0.mk her; have HB7 := Aside0.mk (below_step HB6.out hb7); clear hb7) | ((with_reducible refine gate_store2 (t := 34) rfl ?_); refine store_row (old := zeroCells.toArray) (cs := zeroCells.toArray) rfl rfl rfl (Mem.blk_alloc _) rfl rfl zero_size rfl zero_one ?_; intro w8 hm8 hx8; have HX8 := Aside0.mk hx8; have HB8 := Aside0.mk (below_step HB7.out (Moved.above_ hm8 (Nat.le_refl _))); clear hm8 hx8))
        go_wp2_with (first | ((with_reducible refine gate_load (t := 34) rfl ?_); refine gate_guard (by rfl) ?_; refine load_row rfl rfl Tryz.underlying34 rfl HX8.out rfl zero_size ?_) | (go_at_call 19; (with_reducible refine (same0' _).mono ?_); rintro e w9 ⟨rfl, hb9⟩; have HB9 := Aside0.mk (below_step HB8.out hb9); clear hb9))
        go_ret
        exact ⟨rfl, HB9.out⟩
      | false =>
        have hpl := HPL.out
        have hng := of_decide_eq_false hneg
        have HQ := Aside0.mk (show 0 ≤ pl ∧ pl ≤ 9223372036854775807 by omega)
        clear hpl hng
        go_upto_region 10 with fail
        clear hneg
        have hfl : 0 < fr.length := by have := HFL.out; omega
        obtain ⟨k, hk, hkl⟩ : ∃ k : Nat, pl.tmod (fr.length : Int) = (k : Int) ∧ k < fr.length := by
          obtain ⟨m, hm⟩ := Int.eq_ofNat_of_zero_le HQ.out.1
          exact ⟨m % fr.length, by rw [hm]; rfl, Nat.mod_lt _ hfl⟩
        have hl0 : (fr.length : Int) ≠ 0 := by omega
        have hk0 : (0 : Int) ≤ (k : Int) := by omega
        have hk1 : (k : Int) < fr.length := by omega
        obtain ⟨b, hb, hbe, hbc⟩ := byte_at HC5.out HFB.out hkl
        have ha : (⟨g, 0, none⟩ : Addr).add k = ⟨g, k, none⟩ := by
          unfold Addr.add
          by_cases h0 : k = 0
          · simp [h0]
          · simp [h0]
        rw [ha] at hbc
        have hx : bits .xor .u8 (b : Int) (t : Int) = ((b ^^^ t : Nat) : Int) := u8_xor_nat b t hb HT.out
        obtain ⟨row, fz, hrow⟩ := HZ2.out
        have hfz : w5.frozen? ⟨g, k, none⟩ = false := by
          have hks : k < row.size := by
            have := hbc
            rw [blk_cell_fr hrow] at this
            exact (Array.getElem?_eq_some_iff.1 this).1
          simp [World.frozen?, hrow]
          omega
        have HROW := Aside0.mk hrow
        have HBE := Aside0.mk hbe
        clear hrow hbe
        go_region
        have hmx : 0 ≤ ((b ^^^ t : Nat) : Int) ∧ ((b ^^^ t : Nat) : Int) < 256 := by have hx8 : b ^^^ t < 2 ^ 8 := Nat.xor_lt_two_pow (by omega) (by have := HT.out; omega); omega
        have hne : ((b ^^^ t : Nat) : Int) ≠ (b : Int) := by have := @xor_ne b t HT0.out; omega
        have hfk : fr[k]? = some (b : Int) := by
          have := HBE.out
          rw [List.getD_eq_getElem?_getD, List.getElem?_eq_getElem hkl] at this
          rw [List.getElem?_eq_getElem hkl]
          simpa using this
        have HTN := Aside0.mk (show unOk (fr.set k ((b ^^^ t : Nat) : Int)) = false by
          rw [← HFR.out] at hfk ⊢
          exact turned_no HFN.out.2 (by have := HFN.out.1; omega) hfk hmx.1 hmx.2 hne)
        have HYB := Aside0.mk (bytes_set HFB.out k hmx)
        have HYC := Aside0.mk (Kd.C_below (set_byte HC5.out HFB.out hkl hmx) (below_drew (Below.refl _ _)))
        have HYL := Aside0.mk (show (fr.set k ((b ^^^ t : Nat) : Int)).length = fr.length by rw [List.length_set])
        have HB6 := Aside0.mk (below_drew (Below.setCell HB5.out (p := ⟨g, k, none⟩) HG5.out (.int .u8 ((b ^^^ t : Nat) : Int))))
        obtain ⟨w6, hw6⟩ : ∃ w6, (w5.setCell ⟨g, k, none⟩ (.int .u8 ((b ^^^ t : Nat) : Int))).drew = w6 := ⟨_, rfl⟩
        rw [hw6] at HYC HB6
        rw [hw6]
        obtain ⟨ys, hys⟩ : ∃ ys, fr.set k ((b ^^^ t : Nat) : Int) = ys := ⟨_, rfl⟩
        rw [hys] at HTN HYB HYC HYL
        have hcv2 := str_of HYC.out HYB.out (by rw [HYL.out]; exact hfl) c
        rw [HYL.out] at hcv2
        obtain ⟨s2, hs2⟩ : ∃ s2, strOfNums ys = s2 := ⟨_, rfl⟩
        rw [hs2] at hcv2
        have HBO2 := Aside0.mk (show bytesOf s2 = ys by rw [← hs2]; exact bytesOf_str HYB.out)
        have HSL2 := Aside0.mk (show s2.size ≤ 1000000000 by rw [← hs2, strOfNums_size, HYL.out, ← HSF.out]; exact HSL.out)
        clear hw6 hys hs2 hmx hne hfk hfz hbc hx hcv n_0 n_1 n_2 hfl hk hkl hl0 hk0 hk1 ha
        go_upto_region 12 with (first | (go_at_call 36; have hcf := c_open_no w6 1 2 s2 ys HBO2.out HYB.out HSL2.out addr1 addr2 HTN.out; (refine hcf.mono ?_); clear hcf; rintro e w7 ⟨hb7, er, her, rfl⟩; have her2 : (er != 0) = true := (by simpa using her); have HER := Aside0.mk her; have HB7 := Aside0.mk (below_step HB6.out hb7); clear hb7) | ((with_reducible refine gate_store2 (t := 34) rfl ?_); refine store_row (old := zeroCells.toArray) (cs := zeroCells.toArray) rfl rfl rfl (Mem.blk_alloc _) rfl rfl zero_size rfl zero_one ?_; intro w8 hm8 hx8; have HX8 := Aside0.mk hx8; have HB8 := Aside0.mk (below_step HB7.out (Moved.above_ hm8 (Nat.le_refl _))); clear hm8 hx8))
        go_wp2_with (first | ((with_reducible refine gate_load (t := 34) rfl ?_); refine gate_guard (by rfl) ?_; refine load_row rfl rfl Tryz.underlying34 rfl HX8.out rfl zero_size ?_) | (go_at_call 19; (with_reducible refine (same0' _).mono ?_); rintro e w9 ⟨rfl, hb9⟩; have HB9 := Aside0.mk (below_step HB8.out hb9); clear hb9))
        go_ret
        exact ⟨rfl, HB9.out⟩
end Go.Proofs.YtmneemhplffemaaGreatDoorRR.Sum
namespace Go.Proofs.YtmneemhplffemaaGreatDoorRR.Law3
open Go.RowKit Go.Proofs.YtmneemhplffemaaGreatDoorRR.Chk Go.Proofs.YtmneemhplffemaaGreatDoorRR.Law Go.Proofs.YtmneemhplffemaaGreatDoorRR.Ki Go.Proofs.YtmneemhplffemaaGreatDoorRR.Arg Go.Proofs.YtmneemhplffemaaGreatDoorRRW.PrintWords
theorem wf8 {v : Int} (h : (Lit.int .u8 v).wf = true) : 0 ≤ v ∧ v < 256 := by
  have e1 : IntKind.u8.min = 0 := by kernel_rfl
  have e2 : IntKind.u8.max = 255 := by kernel_rfl
  simp [Lit.wf, e1, e2] at h
  omega
theorem turned (x : Note) (cs : List Value) (pl t : Int) (W : World) (hK : k34.K W x cs) (hO : OkNote x) (hp : (Lit.int .i64 pl).wf = true) (ht : (Lit.int .u8 t).wf = true) (HE : EnvN W) :
    Calls Tryz.prog 14 #[.agg cs.toArray, .int .i64 pl, .int .u8 t] W fun e W' => e = .returned (.bool true) ∧ Below W.heap.size W W' := by
  have h8 := wf8 ht
  obtain ⟨n, rfl⟩ := Int.eq_ofNat_of_zero_le h8.1
  exact Sum.c_turned W x cs pl n hK hO (Same.wf64 hp) (by omega) HE
end Go.Proofs.YtmneemhplffemaaGreatDoorRR.Law3
namespace Go.Proofs.YtmneemhplffemaaGreatDoorRR.noteTurned
open Go.ChangeShapes Go.WideShapes Go.ChangeAt Go.RowKit Go.Proofs.YtmneemhplffemaaGreatDoorRRW
open Go.ChangeMaps (open_string shut_string)
set_option linter.unusedVariables false
set_option linter.unusedSimpArgs false
theorem own : ownKnob Tryz.prog.godebug = none := by kernel_rfl
theorem laidOut : laidOutB Tryz.prog = true := by kernel_rfl
theorem laid_met (os : Os) : laidMet Tryz.prog Rows.noteTurnedRow.laid ((Ext.laidWorld os).forCall (fun _ _ => 0) ⟨#[], #[.agg #[.int .i64 0, .int .i64 0, .int .i64 0, .int .i64 0, .int .i64 0, .int .i64 0, .int .i64 0, .int .i64 0, .int .i64 0, .int .i64 0, .int .i64 0, .slice none 0 0, .slice none 0 0, .int .i64 0, .int .i64 0, .int .i64 0, .slice none 0 0, .slice none 0 0, .slice none 0 0, .slice none 0 0, .string ByteArray.empty], .int .i64 0, .int .u8 0], []⟩).memory := laidMet_of_run' 8 (by kernel_rfl) (by kernel_rfl)
theorem reads (os : Os) {H : Type} (enc : TypeId × Value → H) : ∃ places, DataW.whole enc Tryz.prog ((Ext.laidWorld os).forCall (fun _ _ => 0) ⟨#[], #[.agg #[.int .i64 0, .int .i64 0, .int .i64 0, .int .i64 0, .int .i64 0, .int .i64 0, .int .i64 0, .int .i64 0, .int .i64 0, .int .i64 0, .int .i64 0, .slice none 0 0, .slice none 0 0, .int .i64 0, .int .i64 0, .int .i64 0, .slice none 0 0, .slice none 0 0, .slice none 0 0, .slice none 0 0, .string ByteArray.empty], .int .i64 0, .int .u8 0], []⟩).memory Tryz.f14.params.toList Rows.noteTurnedSpec.vars false (#[.agg #[.int .i64 0, .int .i64 0, .int .i64 0, .int .i64 0, .int .i64 0, .int .i64 0, .int .i64 0, .int .i64 0, .int .i64 0, .int .i64 0, .int .i64 0, .slice none 0 0, .slice none 0 0, .int .i64 0, .int .i64 0, .int .i64 0, .slice none 0 0, .slice none 0 0, .slice none 0 0, .slice none 0 0, .string ByteArray.empty], .int .i64 0, .int .u8 0] : Array Value).toList 8 = some ([.agg [.lit (.int .i64 0), .agg [.lit (.int .i64 0), .lit (.int .i64 0), .lit (.int .i64 0)], .lit (.int .i64 0), .lit (.int .i64 0), .lit (.int .i64 0), .lit (.int .i64 0), .lit (.int .i64 0), .lit (.int .i64 0), .lit (.int .i64 0), .nil, .nil, .agg [.lit (.int .i64 0), .lit (.int .i64 0), .lit (.int .i64 0), .nil], .nil, .nil, .nil, .lit (.string [])], .lit (.int .i64 0), .lit (.int .u8 0)], [], places) := ⟨[], by kernel_rfl⟩
set_option maxRecDepth 100000 in
/-- THE WALK, FOR EVERY ARGUMENT AND EVERY WORLD THAT HOLDS THE TABLES. -/
theorem contract (H : Type) (enc : TypeId × Value → H) (W : World) (base : Nat) (args : Array Value) (ds gs : List (DataW H)) (before : List MemPlace)
    (hval0 : ∀ (j : Nat) t v, Tryz.f14.params[j]? = some t → args[j]? = some v → Value.okWide Tryz.prog W .any base t v)
    (hW : DataW.Whole enc Tryz.prog Tryz.f14.params.toList Rows.noteTurnedSpec.vars false W args.toList ds gs before)
    (hsz0 : (DataW.weightsEach Tryz.prog (Tryz.f14.params.toList ++ Rows.noteTurnedSpec.plain.varTypes Tryz.prog) (ds ++ gs)).all (· ≤ reachBytes) = true) (HE : Chk.EnvN W) :
    Calls Tryz.prog 14 args W fun e W' => ∃ v, e = .returned v ∧ Rows.noteTurnedSpec.post enc Tryz.prog Tryz.f14 false true false false W args v W' := by
  have hsz := hsz0
  have hval := hval0
  have hW' := hW
  obtain ⟨p, q, hA0, hV, rfl, hfz, hnd⟩ := hW
  have hA : DataW.TrodAll enc Tryz.prog W 0 (fun _ => true) true Tryz.f14.params.toList args.toList ds p := hA0
  rw [Tryz.params14] at hA hval hsz
  obtain ⟨v0, vs0, d0, ds0, p0, q0, hargs, rfl, rfl, h0, r0⟩ := trodAll_cons hA
  obtain ⟨v1, vs1, d1, ds1, p1, q1, rfl, rfl, rfl, h1, r1⟩ := trodAll_cons r0
  obtain ⟨v2, vs2, d2, ds2, p2, q2, rfl, rfl, rfl, h2, r2⟩ := trodAll_cons r1
  obtain ⟨rfl, rfl, rfl⟩ := trodAll_nil r2
  obtain rfl : args = #[v0, v1, v2] := by cases args; simp_all
  obtain ⟨rfl, rfl⟩ := trodVars_none hV
  have k0 := h0
  have lt0 : ∀ x ∈ p0, x.block < W.heap.size := by obtain ⟨m, hm⟩ := k0; exact DataW.trod_lt m _ _ _ hm
  obtain ⟨a0, c0, rfl, w0, o0⟩ := Arg.in_any Arg.u_note.choose_spec Arg.oNote hsz (j := 0) rfl rfl (hval 0 34 v0 rfl rfl) h0
  obtain ⟨a1, rfl, rfl, rfl, w1⟩ := open_int Tryz.underlying3 (hval 1 3 v1 rfl rfl) h1
  obtain ⟨a2, rfl, rfl, rfl, w2⟩ := open_int Tryz.underlying5 (hval 2 5 v2 rfl rfl) h2
  clear hA0 hval0 hsz0 hsz
  refine (Law3.turned a0 c0 a1 a2 W w0 o0 w1 w2 HE).mono fun e W' ⟨he, bel⟩ => ?_
  subst he
  exact ⟨_, rfl, _, _, _, [], _, [], hW', trodAll_mk1 (shut_bool Tryz.underlying4 _), (trodAll_cons_mk (Below.trod laidOut (by kernel_rfl) (of_decide_eq_true (by kernel_rfl)) k0 bel lt0) (trodAll_cons_mk (shut_int Tryz.underlying3 w1) (trodAll_cons_mk (shut_int Tryz.underlying5 w2) trodAll_mk0))), rfl, bel.frame _, fun h => by cases h⟩
set_option maxRecDepth 100000 in
theorem lifted (os : Os) (started : os.Started) (H : Type) (enc : TypeId × Value → H) (F : Stop.Interp) :
    ReturnsInHanded {} Tryz.checked os 14 .any ((OpenSpec.ofChange Rows.noteTurnedSpec).preRow enc Tryz.prog Tryz.f14 Rows.noteTurnedRow.domain false Rows.noteTurnedRow.laid) (((OpenSpec.ofChange Rows.noteTurnedSpec).at F).post enc Tryz.prog Tryz.f14 false true false false) := by
  obtain ⟨places, hx⟩ := reads os enc
  refine returnsInHanded_of_row (C := Tryz.checked) (s := OpenSpec.ofChange Rows.noteTurnedSpec) own started (by kernel_rfl) Tryz.func14
    (witness_row_at (enc := enc) (C := Tryz.checked) false (Ext.laidWorld os) #[.agg #[.int .i64 0, .int .i64 0, .int .i64 0, .int .i64 0, .int .i64 0, .int .i64 0, .int .i64 0, .int .i64 0, .int .i64 0, .int .i64 0, .int .i64 0, .slice none 0 0, .slice none 0 0, .int .i64 0, .int .i64 0, .int .i64 0, .slice none 0 0, .slice none 0 0, .slice none 0 0, .slice none 0 0, .string ByteArray.empty], .int .i64 0, .int .u8 0] rfl (by kernel_rfl) (by kernel_rfl) (by kernel_rfl)
      (OpenSpec.preRow_of_cond 8 hx (by kernel_rfl) (fun k hk => by cases hk) (by kernel_rfl) (laid_met os))) ?_
  intro W base args ds gs before hval hW _ _ hsz hL hS _
  exact contract H enc W base args ds gs before hval hW hsz (Ext.env_note hS hL)
theorem f_inPlace : (Rows.noteTurnedRow.inPlace == Tryz.prog.inPlace 14) = true := by kernel_rfl
theorem f_unfollowed : (Rows.noteTurnedRow.unfollowed == Tryz.prog.unfollowed 14) = true := by kernel_rfl
theorem f_recurses : (Rows.noteTurnedRow.recurses == Tryz.prog.recurses 14) = true := by kernel_rfl
theorem f_named : (Rows.noteTurnedRow.named == Tryz.prog.varsNamed 14) = true := by kernel_rfl
theorem f_maps : mapsRowed Tryz.prog = true := by kernel_rfl
theorem f_laid : laidOutB Tryz.prog = true := by kernel_rfl
set_option maxRecDepth 100000 in
set_option maxHeartbeats 8000000 in
theorem closed : joinedFacts Tryz.pinned.checked.prog 14 Tryz.f14 (OpenSpec.ofChange Rows.noteTurnedSpec).bare Rows.noteTurnedRow = true := by
  show joinedFacts Tryz.prog 14 Tryz.f14 (OpenSpec.ofChange Rows.noteTurnedSpec).bare Rows.noteTurnedRow = true
  unfold joinedFacts
  simp only [Bool.and_eq_true]
  repeat' (with_reducible apply And.intro)
  all_goals first | with_reducible exact f_inPlace | with_reducible exact f_unfollowed | with_reducible exact f_recurses | with_reducible exact f_named | with_reducible exact f_maps | with_reducible exact f_laid | (as_aux_lemma => kernel_rfl)
theorem hinst : Tryz.f14.isInstance Tryz.pinned.checked.prog Rows.noteTurnedRow.origin Rows.noteTurnedRow.targs := of_decide_eq_true (by kernel_rfl)
theorem hwrap : Tryz.f14.isWrapper Tryz.pinned.checked.prog Rows.noteTurnedRow.wrapper Rows.noteTurnedRow.mainSum := by unfold Func.isWrapper; first | (rw [if_pos (by decide +kernel)]; kernel_rfl) | (rw [if_neg (by decide +kernel)]; exact ⟨rfl, rfl⟩)
theorem hfn : Tryz.pinned.checked.prog.funcNamed Rows.noteTurnedRow.func = some 14 := by kernel_rfl
theorem said : Rows.NoteTurnedSaid :=
  OpenClaim.holds_of_cond 14 Tryz.f14 rfl rfl rfl rfl rfl rfl rfl ⟨rfl, rfl, rfl, rfl, rfl⟩ rfl rfl rfl rfl rfl hfn Tryz.func14 closed hinst hwrap
    (fun os started H enc _ F => by rw [OpenClaim.pre_eq_preRow]; exact lifted os started H enc F)
theorem looks_on : true = Tryz.pinned.checked.prog.looks [] := by kernel_rfl
/-- No parameter wants a stand-in; what the program looks at is told: what the card asks. -/
theorem plain (f : FuncId) (fn : Func) (hf : Tryz.pinned.checked.prog.funcNamed "herald/heraldlaw3.NoteTurned" = some f) (hfn : Tryz.pinned.checked.prog.funcs[f]? = some fn) :
    true = Tryz.pinned.checked.prog.looks [] ∧ ∀ (j : Nat) t, fn.params[j]? = some t → Tryz.pinned.checked.prog.wantsStandIn t = false := by
  obtain rfl : f = 14 := Option.some.inj ((show Tryz.prog.funcNamed "herald/heraldlaw3.NoteTurned" = some 14 by kernel_rfl).symm.trans hf) |>.symm
  obtain rfl : fn = Tryz.f14 := (Option.some.inj (Tryz.func14.symm.trans hfn)).symm
  refine ⟨looks_on, fun j t ht => ?_⟩
  rw [Tryz.params14] at ht
  have hm := Array.mem_of_getElem? ht
  simp only [Array.mem_def, List.mem_cons, or_false, List.not_mem_nil] at hm
  rcases hm with rfl | rfl | rfl
  · exact (show Tryz.prog.wantsStandIn 34 = false by kernel_rfl)
  · exact (show Tryz.prog.wantsStandIn 3 = false by kernel_rfl)
  · exact (show Tryz.prog.wantsStandIn 5 = false by kernel_rfl)
theorem wfText : Rows.noteTurnedRow.wfByText (OpenSpec.ofChange Rows.noteTurnedSpec) = true := by kernel_rfl
theorem goesBy : false = Rows.noteTurnedRow.goesBy Tryz.pinned.checked.prog := by kernel_rfl
/-- THE CARD -/
theorem card : Rows.NoteTurnedCardSaid :=
  Claim7.holds_tied_plain_at .later [] _ _ _ _ said (fun _ h => by cases h) wfText (fun _ h => by cases h) noteTurned_row_tie rfl ⟨rfl, rfl⟩ (by kernel_rfl) rfl plain goesBy
end Go.Proofs.YtmneemhplffemaaGreatDoorRR.noteTurned
namespace Go.Proofs.YtmneemhplffemaaGreatDoorRR
/-- The card, under a short name, for the claim. -/
theorem noteTurned_holds : Rows.NoteTurnedCardSaid := noteTurned.card
end Go.Proofs.YtmneemhplffemaaGreatDoorRR
