/- Memory for the law PlaceOwn: lists of texts that lie apart, a Held that leads to them; lists that are written full of marks and gone on from; (*Held).add. -/
import Derived.Test.YtfdinkofcjcahaaDoorKnown
namespace Go.Proofs.YtfdinkofcjcahaaDoor.Own
open Go.RowKit Go.Proofs.YtfdinkofcjcahaaDoor.Ext Go.Proofs.YtfdinkofcjcahaaDoor.PPl Go.Proofs.YtfdinkofcjcahaaDoor.Pl Go.Proofs.YtfdinkofcjcahaaDoor.Ord Go.Proofs.YtfdinkofcjcahaaDoorW.PrintWords Go.Proofs.YtfdinkofcjcahaaDoor.Law

/-- W is w but for the blocks S and new ones. -/
structure Moved (w W : World) (S : Nat → Prop) : Prop where mk ::
  os : W.os = w.os
  tape : W.tape = w.tape
  output : W.output = w.output
  size : w.heap.size ≤ W.heap.size
  block : ∀ k, k < w.heap.size → ¬ S k → W.heap[k]? = w.heap[k]?
theorem Moved.refl (w : World) (S : Nat → Prop) : Moved w w S := ⟨rfl, rfl, rfl, Nat.le_refl _, fun _ _ _ => rfl⟩
theorem Moved.of_below {w W : World} (h : Below w.heap.size w W) (S : Nat → Prop) : Moved w W S := ⟨h.os, h.tape, h.output, h.size, fun k hk _ => h.block k hk⟩
theorem Moved.of_grown {w W : World} {row : Option Nat} (h : w.grownBy W row) : Moved w W (fun k => row = some k) := ⟨h.os, h.tape, h.output, h.size, fun k hk hn => h.block k hk (fun he => hn he.symm)⟩
theorem Moved.mono {w W : World} {S S' : Nat → Prop} (h : Moved w W S) (hs : ∀ k, k < w.heap.size → S k → S' k) : Moved w W S' := ⟨h.os, h.tape, h.output, h.size, fun k hk hn => h.block k hk (fun he => hn (hs k hk he))⟩
theorem Moved.trans {w W W2 : World} {S S2 : Nat → Prop} (h : Moved w W S) (k : Moved W W2 S2) (hs : ∀ k, k < w.heap.size → S2 k → S k) : Moved w W2 S :=
  ⟨k.os.trans h.os, k.tape.trans h.tape, k.output.trans h.output, Nat.le_trans h.size k.size, fun i hi hn => (k.block i (Nat.lt_of_lt_of_le hi h.size) (fun he => hn (hs i hi he))).trans (h.block i hi hn)⟩
theorem Moved.below {w W : World} {S : Nat → Prop} (h : Moved w W S) (hs : ∀ k, k < w.heap.size → ¬ S k) : Below w.heap.size w W := ⟨h.os, h.tape, h.output, h.size, fun k hk => h.block k hk (hs k hk)⟩
theorem Moved.above {w0 w W : World} {S : Nat → Prop} (h : Moved w W S) (hb : Below w0.heap.size w0 w) (hs : ∀ k, S k → w0.heap.size ≤ k) : Below w0.heap.size w0 W :=
  ⟨h.os.trans hb.os, h.tape.trans hb.tape, h.output.trans hb.output, Nat.le_trans hb.size h.size, fun k hk => (h.block k (Nat.lt_of_lt_of_le hk hb.size) (fun he => by have := hs k he; omega)).trans (hb.block k hk)⟩
theorem Moved.set_ {w W : World} {S : Nat → Prop} (h : Moved w W S) {p : Addr} (hp : S p.block ∨ w.heap.size ≤ p.block) (u : Value) : Moved w (W.setCell p u) S := by
  refine ⟨?_, ?_, ?_, ?_, fun k hk hn => ?_⟩
  · exact (Below.setCell (B := 0) (Below.refl 0 W) (Nat.zero_le _) u).os.trans h.os
  · exact (Below.setCell (B := 0) (Below.refl 0 W) (Nat.zero_le _) u).tape.trans h.tape
  · exact (Below.setCell (B := 0) (Below.refl 0 W) (Nat.zero_le _) u).output.trans h.output
  · exact Nat.le_trans h.size (Below.setCell (B := 0) (Below.refl 0 W) (Nat.zero_le _) u).size
  · refine (Below.heap_setCell W p u k ?_).trans (h.block k hk hn)
    rintro rfl
    rcases hp with hp | hp
    · exact hn hp
    · omega
theorem Moved.step {w W W2 : World} {S : Nat → Prop} (h : Moved w W S) (hb : Below W.heap.size W W2) : Moved w W2 S := h.trans (Moved.of_below hb (fun _ => False)) (fun _ _ hk => hk.elim)

/-- A list of texts of one's own. -/
abbrev SRow (W : World) (base : Nat) (v : Value) (l : List ByteArray) : Prop := W.ownsRow base 9 1 v l.length (encs Value.string l)
theorem row_moved {W W' : World} {S : Nat → Prop} {base : Nat} {e : TypeId} {size n : Nat} {v : Value} {xs : List Value} (h : W.ownsRow base e size v n xs) (hm : Moved W W' S) (hs : ∀ k, v.ownBlock = some k → ¬ S k) : W'.ownsRow base e size v n xs :=
  own_move h (fun k hk => hm.block k (own_lt h k hk) (hs k hk))
theorem SRow.reads {W : World} {base : Nat} {v : Value} {l : List ByteArray} (h : SRow W base v l) : ∃ A c, v = .slice A l.length c ∧ l.length ≤ c ∧ Kd.string.C W A l.length l := Kd.R_reads (Kd.R_of_own (ok := fun _ => True) (h1 := fun _ => rfl) h (fun _ _ => trivial))
theorem SRow.of_R {W : World} {base : Nat} {ok : Nat → Prop} {v : Value} {l : List ByteArray} (h : Kd.string.R 9 W base ok v l) : SRow W base v l := Kd.own_of_R h
theorem SRow.to_R {W : World} {base : Nat} {v : Value} {l : List ByteArray} (h : SRow W base v l) : Kd.string.R 9 W base (fun _ => True) v l := Kd.R_of_own h (fun _ _ => trivial)

/-- Lists of texts, no two in one block. -/
def Rows (W : World) (base : Nat) (ps : List (Value × List ByteArray)) : Prop := (∀ p ∈ ps, SRow W base p.1 p.2) ∧ (ps.map Prod.fst).Pairwise NeRow
theorem Rows.moved {W W' : World} {S : Nat → Prop} {base : Nat} {ps : List (Value × List ByteArray)} (h : Rows W base ps) (hm : Moved W W' S) (hs : ∀ p ∈ ps, ∀ k, p.1.ownBlock = some k → ¬ S k) : Rows W' base ps :=
  ⟨fun p hp => row_moved (h.1 p hp) hm (hs p hp), h.2⟩
theorem Rows.perm {W : World} {base : Nat} {ps qs : List (Value × List ByteArray)} (h : Rows W base ps) (hp : ps.Perm qs) : Rows W base qs :=
  ⟨fun p hq => h.1 p (hp.mem_iff.2 hq), ((hp.map Prod.fst).pairwise_iff (fun h => ne_symm h)).1 h.2⟩
theorem Rows.left {W : World} {base : Nat} {ps qs : List (Value × List ByteArray)} (h : Rows W base (ps ++ qs)) : Rows W base ps :=
  ⟨fun p hp => h.1 p (List.mem_append_left _ hp), by have := h.2; rw [List.map_append] at this; exact (List.pairwise_append.1 this).1⟩
theorem Rows.cons {W : World} {base : Nat} {ps : List (Value × List ByteArray)} (h : Rows W base ps) {v : Value} {l : List ByteArray} (hv : SRow W base v l) (hn : ∀ p ∈ ps, ∀ k, p.1.ownBlock = some k → v.ownBlock ≠ some k) : Rows W base ((v, l) :: ps) := by
  refine ⟨fun p hp => ?_, ?_⟩
  · rcases List.mem_cons.1 hp with rfl | hp
    · exact hv
    · exact h.1 p hp
  · rw [List.map_cons]
    refine List.pairwise_cons.2 ⟨fun u hu => ?_, h.2⟩
    obtain ⟨p, hp, rfl⟩ := List.mem_map.1 hu
    exact ne_symm (fun k hk => hn p hp k hk)
theorem pairwise_at {vs : List Value} (h : vs.Pairwise NeRow) {i j : Nat} {u v : Value} (hi : vs[i]? = some u) (hj : vs[j]? = some v) (hne : i ≠ j) : NeRow u v := by
  obtain ⟨hli, rfl⟩ := List.getElem?_eq_some_iff.1 hi
  obtain ⟨hlj, rfl⟩ := List.getElem?_eq_some_iff.1 hj
  rw [List.pairwise_iff_getElem] at h
  rcases Nat.lt_or_ge i j with hlt | hge
  · exact h i j hli hlj hlt
  · exact ne_symm (h j i hlj hli (by omega))
theorem Rows.at_ne {W : World} {base : Nat} {ps : List (Value × List ByteArray)} (h : Rows W base ps) {i j : Nat} {p q : Value × List ByteArray} (hi : ps[i]? = some p) (hj : ps[j]? = some q) (hne : i ≠ j) : NeRow p.1 q.1 :=
  pairwise_at h.2 (by rw [List.getElem?_map, hi]; rfl) (by rw [List.getElem?_map, hj]; rfl) hne
theorem Rows.get {W : World} {base : Nat} {ps : List (Value × List ByteArray)} (h : Rows W base ps) {i : Nat} {p : Value × List ByteArray} (hi : ps[i]? = some p) : SRow W base p.1 p.2 := h.1 p (List.mem_of_getElem? hi)
/-- A text is stored into one of them. -/
theorem Rows.put {W : World} {base : Nat} {ps : List (Value × List ByteArray)} (h : Rows W base ps) {j g c k : Nat} {l : List ByteArray} (hj : ps[j]? = some (.slice (some ⟨g, 0, none⟩) l.length c, l)) (x : ByteArray) :
    Rows (W.setCell ⟨g, k, none⟩ (.string x)) base (ps.set j (.slice (some ⟨g, 0, none⟩) l.length c, l.set k x)) := by
  obtain ⟨hlj, _⟩ := List.getElem?_eq_some_iff.1 hj
  refine ⟨fun p hp => ?_, ?_⟩
  · obtain ⟨i, hi⟩ := List.getElem?_of_mem hp
    rw [List.getElem?_set] at hi
    by_cases he : j = i
    · subst he
      rw [if_pos rfl, if_pos hlj] at hi
      obtain rfl := Option.some.inj hi
      have := (own_store_of (h.get hj) (k : Int) x).1
      rw [Int.toNat_natCast] at this
      show W.setCell _ _ |>.ownsRow base _ 1 _ (l.set k x).length _
      rw [List.length_set]
      exact this
    · rw [if_neg he] at hi
      exact own_setCell (h.get hi) (p := ⟨g, k, none⟩) (fun hk => h.at_ne hj hi he g (by simp [Value.ownBlock]) hk.symm) _
  · have e : (ps.set j (.slice (some ⟨g, 0, none⟩) l.length c, l.set k x)).map Prod.fst = ps.map Prod.fst := by
      apply List.ext_getElem?
      intro i
      rw [List.getElem?_map, List.getElem?_map, List.getElem?_set]
      by_cases he : j = i
      · subst he
        rw [if_pos rfl, if_pos hlj, hj]
        rfl
      · rw [if_neg he]
    rw [e]
    exact h.2

/-- The blocks that a Held leads to. -/
def foot (hb : Nat) (vl vw : Value) (rs : List (Value × List ByteArray)) (k : Nat) : Prop := k = hb ∨ vl.ownBlock = some k ∨ vw.ownBlock = some k ∨ ∃ p ∈ rs, p.1.ownBlock = some k
/-- A Held at the block hb: its lists, and their copies. -/
structure HeldAt (W : World) (base hb : Nat) (vl vw : Value) (ps qs : List (Value × List ByteArray)) : Prop where mk ::
  blk : W.heap[hb]? = some (.cells #[vl, vw] 50 (0, 0))
  hbase : base ≤ hb
  ol : W.ownsRow base 23 1 vl ps.length (ps.map Prod.fst)
  ow : W.ownsRow base 23 1 vw qs.length (qs.map Prod.fst)
  ne : NeRow vl vw
  rows : Rows W base (ps ++ qs)
  len : qs.length = ps.length
theorem HeldAt.moved {W W' : World} {S : Nat → Prop} {base hb : Nat} {vl vw : Value} {ps qs : List (Value × List ByteArray)} (h : HeldAt W base hb vl vw ps qs) (hm : Moved W W' S) (hs : ∀ k, foot hb vl vw (ps ++ qs) k → ¬ S k) : HeldAt W' base hb vl vw ps qs :=
  ⟨(hm.block hb (blk_lt h.blk) (hs hb (.inl rfl))).trans h.blk, h.hbase, row_moved h.ol hm (fun k hk => hs k (.inr (.inl hk))), row_moved h.ow hm (fun k hk => hs k (.inr (.inr (.inl hk)))), h.ne, h.rows.moved hm (fun p hp k hk => hs k (.inr (.inr (.inr ⟨p, hp, hk⟩)))), h.len⟩
theorem HeldAt.foot_lt {W : World} {base hb : Nat} {vl vw : Value} {ps qs : List (Value × List ByteArray)} (h : HeldAt W base hb vl vw ps qs) (k : Nat) (hk : foot hb vl vw (ps ++ qs) k) : k < W.heap.size := by
  rcases hk with rfl | hk | hk | ⟨p, hp, hk⟩
  · exact blk_lt h.blk
  · exact own_lt h.ol k hk
  · exact own_lt h.ow k hk
  · exact own_lt (h.rows.1 p hp) k hk
theorem HeldAt.foot_base {W : World} {base hb : Nat} {vl vw : Value} {ps qs : List (Value × List ByteArray)} (h : HeldAt W base hb vl vw ps qs) (k : Nat) (hk : foot hb vl vw (ps ++ qs) k) : base ≤ k := by
  rcases hk with rfl | hk | hk | ⟨p, hp, hk⟩
  · exact h.hbase
  · exact own_base h.ol k hk
  · exact own_base h.ow k hk
  · exact own_base (h.rows.1 p hp) k hk
/-- The blocks of a Held are of three types. -/
theorem HeldAt.hb_vl {W : World} {base hb : Nat} {vl vw : Value} {ps qs : List (Value × List ByteArray)} (h : HeldAt W base hb vl vw ps qs) : vl.ownBlock ≠ some hb := by
  intro he
  obtain ⟨cells, hc⟩ := own_typed h.ol hb he
  have h2 := h.blk
  rw [hc] at h2
  injection h2 with h2
  injection h2 with _ h2
  exact absurd h2 (by decide)
theorem HeldAt.hb_vw {W : World} {base hb : Nat} {vl vw : Value} {ps qs : List (Value × List ByteArray)} (h : HeldAt W base hb vl vw ps qs) : vw.ownBlock ≠ some hb := by
  intro he
  obtain ⟨cells, hc⟩ := own_typed h.ow hb he
  have h2 := h.blk
  rw [hc] at h2
  injection h2 with h2
  injection h2 with _ h2
  exact absurd h2 (by decide)
theorem HeldAt.cell_l {W : World} {base hb : Nat} {vl vw : Value} {ps qs : List (Value × List ByteArray)} (h : HeldAt W base hb vl vw ps qs) : W.cell? ⟨hb, 0, none⟩ = some vl := blk_cell h.blk 0
theorem HeldAt.cell_w {W : World} {base hb : Nat} {vl vw : Value} {ps qs : List (Value × List ByteArray)} (h : HeldAt W base hb vl vw ps qs) : W.cell? ⟨hb, 1, none⟩ = some vw := blk_cell h.blk 1
theorem typed_ne {W : World} {b b' : Nat} {e e' : TypeId} {s s' n n' : Nat} {v v' : Value} {xs xs' : List Value} (h : W.ownsRow b e s v n xs) (h' : W.ownsRow b' e' s' v' n' xs') (hne : e ≠ e') : NeRow v v' := ne_types h h' hne
/-- An append to a row of one's own, with what lay there still read where it lay. -/
theorem append_keep {P : Program} {W : World} {ops : Array Oper} {rest : List Oper} {o : Oper} {a : Act} {Q : Exit → Act → World → Prop} (hgd : o.guard = none) (s x : Operand) (t : TypeId)
    (ho : o.op = .call { callee := .builtin .append, args := #[s, x], argTypes := #[t, t] })
    (base : Nat) (e : TypeId) (i : TypeInfo) (z : Value) (bytes : Nat) (ht : P.underlying t = some (.slice e)) (hi : P.info? e = some i) (hz : i.zero = some z) (hsize : i.size = 1) (hby : i.bytes = bytes) (hzs : z.cells.size = 1)
    (v : Value) (n : Nat) (xs : List Value) (hs : a.eval s = v) (hown : W.ownsRow base e 1 v n xs)
    (ad : Addr) (m c : Nat) (news : List Value) (hx : a.eval x = .slice (some ad) m c) (hl : news.length = m) (hnews : ∀ j u, news[j]? = some u → W.cell? (ad.add j) = some u) (h1 : ∀ u ∈ news, u.oneCell' = true)
    (h63 : n + m ≤ maxLen) (hbytes : (n + m) * bytes ≤ 140737488355328) (hbase : base ≤ W.heap.size)
    (h : ∀ v' w', w'.ownsRow base e 1 v' (n + m) (xs ++ news) → W.grownBy w' v.ownBlock → (v'.ownBlock = v.ownBlock ∨ ∃ b, v'.ownBlock = some b ∧ W.heap.size ≤ b) → w'.ownsRow base e 1 v n xs → wpList P ops Q rest (a.put o.dst v') w') :
    wpList P ops Q (o :: rest) a W := by
  rcases hown.2 with ⟨rfl, hn⟩ | ⟨g, cap, cur, rfl, hg, hh, hnc, hcm, hcs, htk⟩
  · refine wpList_append_own_at W hgd s x t ho base e i z 1 bytes ht hi hz hsize hby hzs (by decide) (.slice none 0 0) n xs hs hown ad m c news hx (by omega) hnews h1 h63 hbytes hbase ?_
    intro v' w' hown' hgrow _ hat
    refine h v' w' hown' hgrow ?_ ?_
    · rcases hat with hat | hat
      · exact .inl hat
      · exact .inr ⟨_, hat, Nat.le_refl _⟩
    · exact ⟨hown.1, .inl ⟨rfl, hn⟩⟩
  · have holds : ∀ j u, xs[j]? = some u → W.cell? ⟨g, 0 + j, none⟩ = some u := by
      intro j u hj
      have := hown.cells (g := g) rfl j u hj
      rwa [add_plain, ← Nat.zero_add j] at this
    refine wpList_append_arg W hgd s x t ho e i z 1 bytes ht hi hz hsize hby hzs (by decide) g 0 n cap xs hs (by have := hown.1; omega) holds ad m c news hx (by omega) hnews h1 (fun hroom j hj => ?_) h63 hbytes (fun hroom => ?_) (fun hgr v' w' ho' hg' => ?_)
    · have hlt : 0 + n * 1 + j < cur.size := by omega
      constructor
      · rw [blk_cell hh, Array.getElem?_eq_getElem hlt]
        rfl
      · exact blk_frozen hh _
    · obtain ⟨cur', h1', h2', h3'⟩ := setCells_row news (0 + n * 1) W cur hh (by omega)
      obtain ⟨e1, e2, e3, e4⟩ := setCells_same g news (0 + n * 1) W
      have hx1 : xs.length = n := by have := hown.1; omega
      have hn1 : 0 + n * 1 = n := by omega
      rw [hn1] at h3'
      have htk' : cur.toList.take n = xs := by rw [← htk, Nat.mul_one]
      rw [htk'] at h3'
      refine h _ _ ⟨by rw [List.length_append]; omega, .inr ⟨g, cap, cur', rfl, hg, h1', hroom, hcm, by omega, ?_⟩⟩ ⟨e1, e2, e3, by omega, fun k _ hk => setCells_far news _ k (fun he => hk (by simp [Value.ownBlock, he]))⟩ (.inl (by simp [Value.ownBlock])) ⟨hown.1, .inr ⟨g, cap, cur', rfl, hg, h1', hnc, hcm, by omega, ?_⟩⟩
      · rw [h3', Nat.mul_one, List.take_left' (by rw [List.length_append]; omega)]
      · rw [h3', Nat.mul_one, List.append_assoc, List.take_left' hx1]
    · have hmv := hg'
      refine h v' w' (own_weaken ho' hbase) ⟨hmv.os, hmv.tape, hmv.output, hmv.size, fun k hk _ => hmv.block k hk (by simp)⟩ ?_ (own_move hown (fun k hk => hmv.block k (own_lt hown k hk) (by simp)))
      rcases ho'.2 with ⟨_, hz0⟩ | ⟨g', _, _, rfl, hgb, _⟩
      · omega
      · exact .inr ⟨g', by simp [Value.ownBlock], hgb⟩

/-- The mark of the k-th place of the j-th list. -/
def mk (j k : Nat) : ByteArray := strOfNums [97 + (j : Int) % 26, 97 + (j : Int) / 26 % 26, 97 + (j : Int) / 676 % 26, 65 + (k : Int) % 26, 65 + (k : Int) / 26 % 26]
def marks (j n : Nat) : List ByteArray := (List.range n).map (mk j)
@[simp] theorem marks_length (j n : Nat) : (marks j n).length = n := by simp [marks]
theorem marks_succ (j n : Nat) : marks j (n + 1) = marks j n ++ [mk j n] := by simp [marks, List.range_succ]
theorem marks_at {j n k : Nat} (h : k < n) : rdOf ByteArray.empty (marks j n) (k : Int) = mk j k := by
  unfold rdOf
  rw [Int.toNat_natCast, List.getD_eq_getElem?_getD]
  simp [marks, h]
theorem marks_take {j n m : Nat} (h : n ≤ m) : (marks j m).take n = marks j n := by
  unfold marks
  rw [← List.map_take, List.take_range, Nat.min_eq_left h]

/-- The lists of which the first J are written, and of the next one k places. -/
def half (J k : Nat) (ps : List (Value × List ByteArray)) : List (Value × List ByteArray) :=
  ps.mapIdx fun j p => if j < J then (p.1, marks j p.2.length) else if j = J then (p.1, marks j k ++ p.2.drop k) else p
@[simp] theorem half_length (J k : Nat) (ps : List (Value × List ByteArray)) : (half J k ps).length = ps.length := by simp [half]
theorem half_get {J k j : Nat} {ps : List (Value × List ByteArray)} {p : Value × List ByteArray} (h : ps[j]? = some p) : (half J k ps)[j]? = some (if j < J then (p.1, marks j p.2.length) else if j = J then (p.1, marks j k ++ p.2.drop k) else p) := by
  simp [half, h]
theorem half_fst (J k : Nat) (ps : List (Value × List ByteArray)) : (half J k ps).map Prod.fst = ps.map Prod.fst := by
  apply List.ext_getElem?
  intro i
  rw [List.getElem?_map, List.getElem?_map]
  cases h : ps[i]? with
  | none => rw [List.getElem?_eq_none (by rw [half_length]; exact List.getElem?_eq_none_iff.1 h)]
  | some p =>
    rw [half_get h]
    simp only [Option.map_some]
    split
    · rfl
    · split <;> rfl
theorem half_zero (ps : List (Value × List ByteArray)) : half 0 0 ps = ps := by
  apply List.ext_getElem?
  intro i
  cases h : ps[i]? with
  | none => rw [List.getElem?_eq_none (by rw [half_length]; exact List.getElem?_eq_none_iff.1 h)]
  | some p =>
    rw [half_get h]
    simp [marks]
theorem half_next {J k : Nat} {ps : List (Value × List ByteArray)} {p : Value × List ByteArray} (h : ps[J]? = some p) (hk : p.2.length ≤ k) (hk' : k ≤ p.2.length) : half J k ps = half (J + 1) 0 ps := by
  apply List.ext_getElem?
  intro i
  cases hi : ps[i]? with
  | none => rw [List.getElem?_eq_none (by rw [half_length]; exact List.getElem?_eq_none_iff.1 hi), List.getElem?_eq_none (by rw [half_length]; exact List.getElem?_eq_none_iff.1 hi)]
  | some q =>
    rw [half_get hi, half_get hi]
    by_cases h1 : i < J
    · rw [if_pos h1, if_pos (by omega)]
    · rw [if_neg h1]
      by_cases h2 : i = J
      · subst h2
        obtain rfl : p = q := Option.some.inj (h.symm.trans hi)
        rw [if_pos rfl, if_pos (by omega), List.drop_of_length_le hk, List.append_nil, show k = p.2.length by omega]
      · rw [if_neg h2, if_neg (by omega)]
        by_cases h3 : i = J + 1
        · rw [if_pos h3]
          simp [marks]
        · rw [if_neg h3]
theorem half_put {J k : Nat} {ps : List (Value × List ByteArray)} {p : Value × List ByteArray} (h : ps[J]? = some p) (hk : k < p.2.length) : (half J k ps).set J (p.1, (marks J k ++ p.2.drop k).set k (mk J k)) = half J (k + 1) ps := by
  obtain ⟨hlt, _⟩ := List.getElem?_eq_some_iff.1 h
  apply List.ext_getElem?
  intro i
  rw [List.getElem?_set]
  by_cases he : J = i
  · subst he
    rw [if_pos rfl, if_pos (by rw [half_length]; exact hlt), half_get h, if_neg (by omega), if_pos rfl]
    congr 2
    rw [List.set_append_right _ _ (by simp), marks_length, Nat.sub_self, List.drop_eq_getElem_cons hk, List.set_cons_zero, marks_succ, List.append_assoc]
    rfl
  · rw [if_neg he]
    cases hi : ps[i]? with
    | none => rw [List.getElem?_eq_none (by rw [half_length]; exact List.getElem?_eq_none_iff.1 hi), List.getElem?_eq_none (by rw [half_length]; exact List.getElem?_eq_none_iff.1 hi)]
    | some q =>
      rw [half_get hi, half_get hi]
      by_cases h1 : i < J
      · rw [if_pos h1, if_pos h1]
      · rw [if_neg h1, if_neg h1, if_neg (by omega), if_neg (by omega)]
theorem half_cell {J k : Nat} {ps : List (Value × List ByteArray)} {p : Value × List ByteArray} (h : ps[J]? = some p) (hk : k ≤ p.2.length) : (half J k ps)[J]? = some (p.1, marks J k ++ p.2.drop k) ∧ (marks J k ++ p.2.drop k).length = p.2.length := by
  rw [half_get h, if_neg (by omega), if_pos rfl]
  exact ⟨rfl, by simp; omega⟩
theorem half_all {J : Nat} {ps : List (Value × List ByteArray)} (hJ : ps.length ≤ J) {i : Nat} {p : Value × List ByteArray} (h : (half J 0 ps)[i]? = some p) : ∃ n, p.2 = marks i n ∧ ∃ q, ps[i]? = some q ∧ q.1 = p.1 ∧ q.2.length = n := by
  obtain ⟨hlt, _⟩ := List.getElem?_eq_some_iff.1 h
  rw [half_length] at hlt
  have hq := List.getElem?_eq_getElem hlt
  rw [half_get hq, if_pos (by omega)] at h
  obtain rfl := Option.some.inj h
  exact ⟨_, rfl, _, hq, rfl, rfl⟩

/-- What of a Held is looked at and written by given. -/
structure Given (W : World) (base hb : Nat) (vl vw : Value) (ps : List (Value × List ByteArray)) : Prop where mk ::
  blk : W.heap[hb]? = some (.cells #[vl, vw] 50 (0, 0))
  ol : W.ownsRow base 23 1 vl ps.length (ps.map Prod.fst)
  rows : Rows W base ps
theorem blk_type_ne {W : World} {hb base : Nat} {cs : Array Value} {t e : TypeId} {size n : Nat} {v : Value} {xs : List Value} (hblk : W.heap[hb]? = some (.cells cs t (0, 0))) (h : W.ownsRow base e size v n xs) (hne : e ≠ t) : ∀ k, v.ownBlock = some k → k ≠ hb := by
  rintro k hk rfl
  obtain ⟨cells, hc⟩ := own_typed h k hk
  rw [hc] at hblk
  injection hblk with hblk
  injection hblk with _ hblk
  exact hne hblk
theorem Given.moved {W W' : World} {S : Nat → Prop} {base hb : Nat} {vl vw : Value} {ps : List (Value × List ByteArray)} (h : Given W base hb vl vw ps) (hm : Moved W W' S) (h0 : ¬ S hb) (h1 : ∀ k, vl.ownBlock = some k → ¬ S k) (h2 : ∀ p ∈ ps, ∀ k, p.1.ownBlock = some k → ¬ S k) : Given W' base hb vl vw ps :=
  ⟨(hm.block hb (blk_lt h.blk) h0).trans h.blk, row_moved h.ol hm h1, h.rows.moved hm h2⟩
theorem Given.below {W W' : World} {base hb : Nat} {vl vw : Value} {ps : List (Value × List ByteArray)} (h : Given W base hb vl vw ps) (hb' : Below W.heap.size W W') : Given W' base hb vl vw ps :=
  h.moved (Moved.of_below hb' (fun _ => False)) (fun h => h) (fun _ _ h => h) (fun _ _ _ _ h => h)
/-- The value of the j-th list, and where it lies. -/
theorem Given.at_ {W : World} {base hb : Nat} {vl vw : Value} {ps : List (Value × List ByteArray)} (h : Given W base hb vl vw ps) {j : Nat} {p : Value × List ByteArray} (hj : ps[j]? = some p) : ∃ g c, vl = .slice (some ⟨g, 0, none⟩) ps.length c ∧ W.cell? ⟨g, j, none⟩ = some p.1 := by
  obtain ⟨hlt, _⟩ := List.getElem?_eq_some_iff.1 hj
  rcases h.ol.2 with ⟨_, hn⟩ | ⟨g, c, cur, hv, _, hh, _⟩
  · omega
  · refine ⟨g, c, hv, ?_⟩
    have := h.ol.cells (g := g) (by rw [hv]; simp [Value.ownBlock]) j p.1 (by rw [List.getElem?_map, hj]; rfl)
    rwa [add_plain] at this
/-- A list's own form. -/
theorem SRow.form {W : World} {base : Nat} {v : Value} {l : List ByteArray} (h : SRow W base v l) : ∃ A c, v = .slice A l.length c ∧ (0 < l.length → ∃ g, A = some ⟨g, 0, none⟩) := by
  rcases h.2 with ⟨rfl, hn⟩ | ⟨g, c, cur, rfl, _⟩
  · exact ⟨none, 0, by rw [hn], fun h => by omega⟩
  · exact ⟨_, c, rfl, fun _ => ⟨g, rfl⟩⟩
theorem Given.put {W : World} {base hb : Nat} {vl vw : Value} {ps : List (Value × List ByteArray)} (h : Given W base hb vl vw ps) {j g c k : Nat} {l : List ByteArray} (hj : ps[j]? = some (.slice (some ⟨g, 0, none⟩) l.length c, l)) (x : ByteArray) :
    Given (W.setCell ⟨g, k, none⟩ (.string x)) base hb vl vw (ps.set j (.slice (some ⟨g, 0, none⟩) l.length c, l.set k x)) := by
  obtain ⟨hlj, _⟩ := List.getElem?_eq_some_iff.1 hj
  have hr := h.rows.get hj
  have hm : Moved W (W.setCell ⟨g, k, none⟩ (.string x)) (fun i => i = g) := (Moved.refl W (fun i => i = g)).set_ (p := ⟨g, k, none⟩) (.inl rfl) _
  have hfst : (ps.set j (.slice (some ⟨g, 0, none⟩) l.length c, l.set k x)).map Prod.fst = ps.map Prod.fst := by
    apply List.ext_getElem?
    intro i
    rw [List.getElem?_map, List.getElem?_map, List.getElem?_set]
    by_cases he : j = i
    · subst he
      rw [if_pos rfl, if_pos hlj, hj]
      rfl
    · rw [if_neg he]
  refine ⟨(hm.block hb (blk_lt h.blk) ?_).trans h.blk, ?_, h.rows.put hj x⟩
  · exact fun he => blk_type_ne h.blk hr (by decide) g (by simp [Value.ownBlock]) he.symm
  · rw [List.length_set, hfst]
    exact row_moved h.ol hm (fun i hi he => ne_types hr h.ol (by decide) g (by simp [Value.ownBlock]) (he ▸ hi))

/-- Two lists in one block: what is written behind both leaves the shorter. -/
theorem prefix_keep {W W' : World} {base n m : Nat} {e : TypeId} {v g : Value} {xs ys : List Value} (hv : W.ownsRow base e 1 v n ys) (hg : W.ownsRow base e 1 g m xs) (hg' : W'.ownsRow base e 1 g m xs) (hsame : ∃ k, v.ownBlock = some k ∧ g.ownBlock = some k) (hnm : n ≤ m) : W'.ownsRow base e 1 v n ys := by
  obtain ⟨k, hk, hk'⟩ := hsame
  rcases hv.2 with ⟨rfl, _⟩ | ⟨b, c, cur, rfl, hb, hh, hc, hcm, hcs, ht⟩
  · simp [Value.ownBlock] at hk
  · rcases hg.2 with ⟨rfl, _⟩ | ⟨b2, c2, cur2, rfl, hb2, hh2, hc2, hcm2, hcs2, ht2⟩
    · simp [Value.ownBlock] at hk'
    · obtain rfl : b = k := by simpa [Value.ownBlock] using hk
      obtain rfl : b2 = b := by simpa [Value.ownBlock] using hk'
      rw [hh] at hh2
      injection hh2 with hh2
      injection hh2 with hh2
      subst hh2
      rcases hg'.2 with ⟨h0, _⟩ | ⟨b3, c3, cur3, he3, hb3, hh3, hc3, hcm3, hcs3, ht3⟩
      · cases h0
      · injection he3 with he3 _ he4
        injection he3 with he3
        injection he3 with he3
        subst he3
        subst he4
        refine ⟨hv.1, .inr ⟨b2, c, cur3, rfl, hb, hh3, hc, hcm, by omega, ?_⟩⟩
        rw [Nat.mul_one] at ht ht2 ht3 ⊢
        have h1 : cur3.toList.take n = (cur3.toList.take m).take n := by rw [List.take_take, Nat.min_eq_left hnm]
        rw [h1, ht3, ← ht2, List.take_take, Nat.min_eq_left hnm, ht]

/-- While the lists are gone on from. -/
structure Grow (W : World) (base hb : Nat) (vl vw : Value) (ps gs : List (Value × List ByteArray)) : Prop where mk ::
  blk : W.heap[hb]? = some (.cells #[vl, vw] 50 (0, 0))
  ol : W.ownsRow base 23 1 vl ps.length (ps.map Prod.fst)
  rv : ∀ (i : Nat) (p : Value × List ByteArray), ps[i]? = some p → SRow W base p.1 p.2
  rg : ∀ (i : Nat) (p : Value × List ByteArray), gs[i]? = some p → SRow W base p.1 p.2
  vv : (ps.map Prod.fst).Pairwise NeRow
  gg : (gs.map Prod.fst).Pairwise NeRow
  gv : ∀ (i j : Nat) (q p : Value × List ByteArray), i ≠ j → gs[i]? = some q → ps[j]? = some p → NeRow q.1 p.1
/-- The one that is gone on from just now (the J-th). -/
structure Going (W : World) (base : Nat) (ps gs : List (Value × List ByteArray)) (J : Nat) (g : Value) (l : List ByteArray) : Prop where mk ::
  row : SRow W base g l
  np : ∀ (j : Nat) (p : Value × List ByteArray), j ≠ J → ps[j]? = some p → NeRow g p.1
  ng : ∀ (i : Nat) (q : Value × List ByteArray), gs[i]? = some q → NeRow g q.1
theorem Grow.moved {W W' : World} {S : Nat → Prop} {base hb : Nat} {vl vw : Value} {ps gs : List (Value × List ByteArray)} (h : Grow W base hb vl vw ps gs) (hm : Moved W W' S) (h0 : ¬ S hb) (h1 : ∀ k, vl.ownBlock = some k → ¬ S k) (h2 : ∀ p ∈ ps, ∀ k, p.1.ownBlock = some k → ¬ S k) (h3 : ∀ p ∈ gs, ∀ k, p.1.ownBlock = some k → ¬ S k) : Grow W' base hb vl vw ps gs :=
  ⟨(hm.block hb (blk_lt h.blk) h0).trans h.blk, row_moved h.ol hm h1, fun i p hp => row_moved (h.rv i p hp) hm (h2 p (List.mem_of_getElem? hp)), fun i p hp => row_moved (h.rg i p hp) hm (h3 p (List.mem_of_getElem? hp)), h.vv, h.gg, h.gv⟩
theorem Grow.below {W W' : World} {base hb : Nat} {vl vw : Value} {ps gs : List (Value × List ByteArray)} (h : Grow W base hb vl vw ps gs) (hb' : Below W.heap.size W W') : Grow W' base hb vl vw ps gs :=
  h.moved (Moved.of_below hb' (fun _ => False)) (fun h => h) (fun _ _ h => h) (fun _ _ _ _ h => h) (fun _ _ _ _ h => h)
theorem Going.below {W W' : World} {base J : Nat} {ps gs : List (Value × List ByteArray)} {g : Value} {l : List ByteArray} (h : Going W base ps gs J g l) (hb' : Below W.heap.size W W') : Going W' base ps gs J g l :=
  ⟨pw_own_below h.row hb', h.np, h.ng⟩
theorem Grow.start {W : World} {base hb : Nat} {vl vw : Value} {ps : List (Value × List ByteArray)} (h : Given W base hb vl vw ps) : Grow W base hb vl vw ps [] :=
  ⟨h.blk, h.ol, fun _ _ hp => h.rows.get hp, fun _ _ hp => by simp at hp, h.rows.2, List.Pairwise.nil, fun _ _ _ _ _ hp => by simp at hp⟩
theorem Going.start {W : World} {base hb : Nat} {vl vw : Value} {ps gs : List (Value × List ByteArray)} (h : Grow W base hb vl vw ps gs) {p : Value × List ByteArray} (hp : ps[gs.length]? = some p) : Going W base ps gs gs.length p.1 p.2 := by
  refine ⟨h.rv _ _ hp, fun j q hne hq => pairwise_at h.vv (by rw [List.getElem?_map, hp]; rfl) (by rw [List.getElem?_map, hq]; rfl) (Ne.symm hne), fun i q hq => ?_⟩
  obtain ⟨hlt, _⟩ := List.getElem?_eq_some_iff.1 hq
  exact ne_symm (h.gv i gs.length q p (by omega) hq hp)
/-- One text more. -/
theorem Grow.step {W W' : World} {base hb J : Nat} {vl vw g g' : Value} {ps gs : List (Value × List ByteArray)} {l l' : List ByteArray} {p : Value × List ByteArray} (h : Grow W base hb vl vw ps gs) (hg : Going W base ps gs J g l) (hp : ps[J]? = some p) (hlen : p.2.length ≤ l.length)
    (hrow : SRow W' base g' l') (hgr : W.grownBy W' g.ownBlock) (hat : g'.ownBlock = g.ownBlock ∨ ∃ b, g'.ownBlock = some b ∧ W.heap.size ≤ b) (hkeep : SRow W' base g l) : Grow W' base hb vl vw ps gs ∧ Going W' base ps gs J g' l' := by
  have hm := Moved.of_grown hgr
  have hnew : ∀ {base' : Nat} {e : TypeId} {size n : Nat} {v : Value} {xs : List Value}, W.ownsRow base' e size v n xs → NeRow g v → NeRow g' v := by
    intro base' e size n v xs ho hne k hk hk'
    rcases hat with hat | ⟨b, hb', hle⟩
    · exact hne k (hat ▸ hk) hk'
    · rw [hb'] at hk
      injection hk with hk
      have := own_lt ho k hk'
      omega
  refine ⟨⟨?_, ?_, fun i q hq => ?_, fun i q hq => ?_, h.vv, h.gg, h.gv⟩, ⟨hrow, fun j q hne hq => hnew (h.rv j q hq) (hg.np j q hne hq), fun i q hq => hnew (h.rg i q hq) (hg.ng i q hq)⟩⟩
  · exact (hm.block hb (blk_lt h.blk) (fun he => blk_type_ne h.blk hg.row (by decide) hb he rfl)).trans h.blk
  · exact row_moved h.ol hm (fun k hk hs => ne_types hg.row h.ol (by decide) k hs hk)
  · by_cases he : i = J
    · subst he
      obtain rfl : p = q := Option.some.inj (hp.symm.trans hq)
      by_cases hs : ∃ k, p.1.ownBlock = some k ∧ g.ownBlock = some k
      · exact prefix_keep (h.rv i p hp) hg.row hkeep hs hlen
      · exact row_moved (h.rv i p hp) hm (fun k hk hs' => hs ⟨k, hk, hs'⟩)
    · exact row_moved (h.rv i q hq) hm (fun k hk hs => hg.np i q he hq k hs hk)
  · exact row_moved (h.rg i q hq) hm (fun k hk hs => hg.ng i q hq k hs hk)
/-- It is put behind the others. -/
theorem Grow.snoc {W : World} {base hb : Nat} {vl vw g : Value} {ps gs : List (Value × List ByteArray)} {l : List ByteArray} (h : Grow W base hb vl vw ps gs) (hg : Going W base ps gs gs.length g l) : Grow W base hb vl vw ps (gs ++ [(g, l)]) := by
  refine ⟨h.blk, h.ol, h.rv, fun i q hq => ?_, h.vv, ?_, fun i j q p hne hq hp => ?_⟩
  · rcases Nat.lt_or_ge i gs.length with hlt | hge
    · rw [List.getElem?_append_left hlt] at hq
      exact h.rg i q hq
    · rw [List.getElem?_append_right hge] at hq
      obtain ⟨_, rfl⟩ := List.mem_singleton.1 (List.mem_of_getElem? hq) |> fun h => (⟨trivial, h⟩ : True ∧ q = (g, l))
      exact hg.row
  · rw [List.map_append]
    refine List.pairwise_append.2 ⟨h.gg, List.pairwise_singleton _ _, fun u hu v hv => ?_⟩
    obtain ⟨q, hq, rfl⟩ := List.mem_map.1 hu
    obtain rfl : v = g := by simpa using hv
    obtain ⟨i, hi⟩ := List.getElem?_of_mem hq
    exact ne_symm (hg.ng i q hi)
  · rcases Nat.lt_or_ge i gs.length with hlt | hge
    · rw [List.getElem?_append_left hlt] at hq
      exact h.gv i j q p hne hq hp
    · rw [List.getElem?_append_right hge] at hq
      have hm := List.mem_of_getElem? hq
      obtain rfl : q = (g, l) := by simpa using hm
      obtain ⟨hl1, _⟩ := List.getElem?_eq_some_iff.1 hq
      have : i = gs.length := by simp at hl1; omega
      exact hg.np j p (by omega) hp

theorem infoL : (Tryd.prog.info? 23).map (fun i => (i.zero, i.size, i.bytes)) = some (some (.slice none 0 0), 1, 24) := by kernel_rfl
/-- What add leaves. -/
def Added (w W : World) (base hb : Nat) (vl vw : Value) (ps qs : List (Value × List ByteArray)) (v : Value) (l : List ByteArray) : Prop :=
  ∃ vl' vw' cw, HeldAt W base hb vl' vw' (ps ++ [(v, l)]) (qs ++ [(cw, l)]) ∧ Moved w W (foot hb vl vw (ps ++ qs)) ∧ ∀ k, foot hb vl' vw' ((ps ++ [(v, l)]) ++ (qs ++ [(cw, l)])) k → foot hb vl vw (ps ++ qs) k ∨ v.ownBlock = some k ∨ w.heap.size ≤ k
/-- Behind the first append: the Held's block as it was, and the list of copies. -/
theorem mid1 {w1 w' : World} {o : Obj} {base hb : Nat} {vl vw : Value} {ps qs : List (Value × List ByteArray)} (H : HeldAt w1 base hb vl vw ps qs) (hg : (w1.alloc o).grownBy w' vl.ownBlock) :
    w'.heap[hb]? = some (.cells #[vl, vw] 50 (0, 0)) ∧ w'.ownsRow base 23 1 vw qs.length (qs.map Prod.fst) := by
  have ha : ∀ k, k < w1.heap.size → k < (w1.alloc o).heap.size := fun k hk => Nat.lt_of_lt_of_le hk (below_alloc (Below.refl _ w1) o).size
  refine ⟨?_, own_move H.ow (fun k hk => ?_)⟩
  · rw [hg.block hb (ha hb (blk_lt H.blk)) (fun he => H.hb_vl he.symm), Below.heap_alloc w1 o hb (blk_lt H.blk)]
    exact H.blk
  · have hlt := own_lt H.ow k hk
    rw [hg.block k (ha k hlt) (fun he => H.ne k he.symm hk), Below.heap_alloc w1 o k hlt]
/-- Behind the first store and the second append. -/
theorem mid2 {w' w'' : World} {o : Obj} {base hb n : Nat} {vl vw v' : Value} {xs : List Value} (hblk : w'.heap[hb]? = some (.cells #[vl, vw] 50 (0, 0))) (hv : w'.ownsRow base 23 1 v' n xs) (hne : NeRow v' vw) (hbv : v'.ownBlock ≠ some hb) (hbw : vw.ownBlock ≠ some hb)
    (hg : ((w'.setCell ⟨hb, 0, none⟩ v').alloc o).grownBy w'' vw.ownBlock) :
    w''.heap[hb]? = some (.cells #[v', vw] 50 (0, 0)) ∧ w''.ownsRow base 23 1 v' n xs := by
  have h1 := blk_set hblk 0 v'
  have ha : ∀ k, k < w'.heap.size → k < ((w'.setCell ⟨hb, 0, none⟩ v').alloc o).heap.size := fun k hk => Nat.lt_of_lt_of_le (by simpa using hk) (below_alloc (Below.refl _ (w'.setCell ⟨hb, 0, none⟩ v')) o).size
  refine ⟨?_, own_move hv (fun k hk => ?_)⟩
  · rw [hg.block hb (ha hb (blk_lt hblk)) (fun he => hbw he.symm), Below.heap_alloc _ o hb (blk_lt h1)]
    simpa using h1
  · have hlt := own_lt hv k hk
    rw [hg.block k (ha k hlt) (fun he => hne k hk he.symm), Below.heap_alloc _ o k (by simpa using hlt)]
    exact Below.heap_setCell w' ⟨hb, 0, none⟩ v' k (fun he => hbv (by rw [show hb = k from he.symm]; exact hk))
theorem cell_one_set (w : World) (p : Addr) (v x : Value) (t : TypeId) : ∀ j u, [x][j]? = some u → ((w.setCell p v).alloc (.cells #[x] t)).cell? ((⟨w.heap.size, 0, none⟩ : Addr).add j) = some u := by
  have := cell_one_new (w.setCell p v) x t
  simpa using this
theorem blk_third {w w1 w' w'' : World} {o1 o2 : Obj} {base hb : Nat} {vl vw v' v : Value} {ps qs : List (Value × List ByteArray)}
    (H : HeldAt w base hb vl vw ps qs) (hb1 : Below w.heap.size w w1) (ho' : w'.ownsRow base 23 1 v' (ps.length + 1) (ps.map Prod.fst ++ [v])) (hg' : (w1.alloc o1).grownBy w' vl.ownBlock) (hat' : v'.ownBlock = vl.ownBlock ∨ v'.ownBlock = some (w1.alloc o1).heap.size)
    (hg'' : ((w'.setCell ⟨hb, 0, none⟩ v').alloc o2).grownBy w'' vw.ownBlock) : w''.heap[hb]? = some (.cells #[v', vw] 50 (0, 0)) := by
  have H1 := H.moved (Moved.of_below hb1 (fun _ => False)) (fun _ _ hk => hk)
  obtain ⟨m1b, m1w⟩ := mid1 H1 hg'
  have hs1 : w1.heap.size ≤ (w1.alloc o1).heap.size := (below_alloc (Below.refl _ w1) o1).size
  have ne1 : NeRow v' vw := by
    intro k hk hk'
    rcases hat' with hat | hat
    · exact H.ne k (hat ▸ hk) hk'
    · rw [hat] at hk
      injection hk with hk
      have := own_lt H1.ow k hk'
      omega
  have hbv : v'.ownBlock ≠ some hb := fun he => by
    obtain ⟨cells, hc⟩ := own_typed ho' hb he
    have h2 := m1b
    rw [hc] at h2
    injection h2 with h2
    injection h2 with _ h2
    exact absurd h2 (by decide)
  exact (mid2 m1b ho' ne1 hbv H.hb_vw hg'').1
theorem added_mk {w w1 w' w'' : World} {o1 o2 : Obj} {base hb : Nat} {vl vw v' v'' v cv : Value} {ps qs : List (Value × List ByteArray)} {l : List ByteArray}
    (H : HeldAt w base hb vl vw ps qs) (hbs : base ≤ w.heap.size) (hv : SRow w base v l) (hfree : ∀ k, v.ownBlock = some k → ¬ foot hb vl vw (ps ++ qs) k)
    (hb1 : Below w.heap.size w w1) (hcv : SRow w1 w.heap.size cv l)
    (ho' : w'.ownsRow base 23 1 v' (ps.length + 1) (ps.map Prod.fst ++ [v])) (hg' : (w1.alloc o1).grownBy w' vl.ownBlock) (hat' : v'.ownBlock = vl.ownBlock ∨ v'.ownBlock = some (w1.alloc o1).heap.size)
    (ho'' : w''.ownsRow base 23 1 v'' (qs.length + 1) (qs.map Prod.fst ++ [cv])) (hg'' : ((w'.setCell ⟨hb, 0, none⟩ v').alloc o2).grownBy w'' vw.ownBlock) (hat'' : v''.ownBlock = vw.ownBlock ∨ v''.ownBlock = some ((w'.setCell ⟨hb, 0, none⟩ v').alloc o2).heap.size) :
    Added w (w''.setCell ⟨hb, 1, none⟩ v'') base hb vl vw ps qs v l := by
  have H1 := H.moved (Moved.of_below hb1 (fun _ => False)) (fun _ _ hk => hk)
  obtain ⟨m1b, m1w⟩ := mid1 H1 hg'
  have hs1 : w1.heap.size ≤ (w1.alloc o1).heap.size := (below_alloc (Below.refl _ w1) o1).size
  have hs2 : w'.heap.size ≤ ((w'.setCell ⟨hb, 0, none⟩ v').alloc o2).heap.size := by
    simp
  have ne1 : NeRow v' vw := by
    intro k hk hk'
    rcases hat' with hat | hat
    · exact H.ne k (hat ▸ hk) hk'
    · rw [hat] at hk
      injection hk with hk
      have := own_lt H1.ow k hk'
      omega
  have hbv : v'.ownBlock ≠ some hb := fun he => by
    obtain ⟨cells, hc⟩ := own_typed ho' hb he
    have h2 := m1b
    rw [hc] at h2
    injection h2 with h2
    injection h2 with _ h2
    exact absurd h2 (by decide)
  obtain ⟨m2b, m2l⟩ := mid2 m1b ho' ne1 hbv H.hb_vw hg''
  have hbv2 : v''.ownBlock ≠ some hb := fun he => by
    obtain ⟨cells, hc⟩ := own_typed ho'' hb he
    have h2 := m2b
    rw [hc] at h2
    injection h2 with h2
    injection h2 with _ h2
    exact absurd h2 (by decide)
  have ne2 : NeRow v' v'' := by
    intro k hk hk'
    rcases hat'' with hat | hat
    · exact ne1 k hk (hat ▸ hk')
    · rw [hat] at hk'
      injection hk' with hk'
      have := own_lt ho' k hk
      omega
  have M1 : Moved w1 (w''.setCell ⟨hb, 1, none⟩ v'') (fun k => k = hb ∨ vl.ownBlock = some k ∨ vw.ownBlock = some k) := by
    refine Moved.set_ (Moved.trans (Moved.step (Moved.set_ (Moved.trans (Moved.step (Moved.refl w1 _) (below_alloc (Below.refl _ _) o1)) (Moved.of_grown hg') (fun k _ hk => .inr (.inl hk))) (.inl (.inl rfl)) v') (below_alloc (Below.refl _ _) o2)) (Moved.of_grown hg'') (fun k _ hk => .inr (.inr hk))) (.inl (.inl rfl)) v''
  have M : Moved w (w''.setCell ⟨hb, 1, none⟩ v'') (fun k => k = hb ∨ vl.ownBlock = some k ∨ vw.ownBlock = some k) := (Moved.of_below hb1 _).trans M1 (fun _ _ hk => hk)
  have hS : ∀ p ∈ ps ++ qs, ∀ k, p.1.ownBlock = some k → ¬ (k = hb ∨ vl.ownBlock = some k ∨ vw.ownBlock = some k) := by
    intro p hp k hk hS
    have hr := H.rows.1 p hp
    rcases hS with rfl | hS | hS
    · obtain ⟨cells, hc⟩ := own_typed hr k hk
      have h2 := H.blk
      rw [hc] at h2
      injection h2 with h2
      injection h2 with _ h2
      exact absurd h2 (by decide)
    · exact ne_types hr H.ol (by decide) k hk hS
    · exact ne_types hr H.ow (by decide) k hk hS
  have hlt : ∀ k, foot hb vl vw (ps ++ qs) k → k < w.heap.size := H.foot_lt
  have hcvb : ∀ k, cv.ownBlock = some k → w.heap.size ≤ k := fun k hk => own_base hcv k hk
  refine ⟨v', v'', cv, ⟨?_, H.hbase, ?_, ?_, ne2, ?_, by simp [H.len]⟩, M.mono (fun k _ hk => ?_), fun k hk => ?_⟩
  · simpa using blk_set m2b 1 v''
  · have := own_setCell m2l (p := ⟨hb, 1, none⟩) (fun he => hbv he.symm) v''
    simpa using this
  · have := own_setCell ho'' (p := ⟨hb, 1, none⟩) (fun he => hbv2 he.symm) v''
    simpa using this
  · have r0 := H.rows.moved M hS
    have r1 := r0.cons (row_moved hv M (fun k hk hS => hfree k hk (by
      rcases hS with hS | hS | hS
      · exact .inl hS
      · exact .inr (.inl hS)
      · exact .inr (.inr (.inl hS))))) (fun p hp k hk hk' => hfree k hk' (.inr (.inr (.inr ⟨p, hp, hk⟩))))
    have r2 := r1.cons (own_weaken (row_moved hcv M1 (fun k hk hS => by
      have h1 := hcvb k hk
      have h2 := hlt k (by
        rcases hS with hS | hS | hS
        · exact .inl hS
        · exact .inr (.inl hS)
        · exact .inr (.inr (.inl hS)))
      omega)) hbs) (fun p hp k hk hk' => by
        have h1 := hcvb k hk'
        rcases List.mem_cons.1 hp with rfl | hp
        · have := own_lt hv k hk
          omega
        · have := hlt k (.inr (.inr (.inr ⟨p, hp, hk⟩)))
          omega)
    refine r2.perm ?_
    have e1 : ((cv, l) :: (v, l) :: (ps ++ qs)).Perm ((ps ++ qs) ++ [(v, l), (cv, l)]) := (List.Perm.swap _ _ _).trans (List.perm_append_comm (l₁ := [(v, l), (cv, l)]))
    refine e1.trans ?_
    have e2 : (ps ++ [(v, l)]) ++ (qs ++ [(cv, l)]) = ps ++ ([(v, l)] ++ qs ++ [(cv, l)]) := by simp
    have e3 : (ps ++ qs) ++ [(v, l), (cv, l)] = ps ++ (qs ++ [(v, l)] ++ [(cv, l)]) := by simp
    rw [e2, e3]
    exact (List.Perm.append_right _ List.perm_append_comm).append_left ps
  · rcases hk with hk | hk | hk
    · exact .inl hk
    · exact .inr (.inl hk)
    · exact .inr (.inr (.inl hk))
  · rcases hk with hk | hk | hk | ⟨p, hp, hk⟩
    · exact .inl (.inl hk)
    · rcases hat' with hat | hat
      · exact .inl (.inr (.inl (hat ▸ hk)))
      · rw [hat] at hk
        injection hk with hk
        have := hb1.size
        exact .inr (.inr (by omega))
    · rcases hat'' with hat | hat
      · exact .inl (.inr (.inr (.inl (hat ▸ hk))))
      · rw [hat] at hk
        injection hk with hk
        have := hb1.size
        have := hg'.size
        exact .inr (.inr (by omega))
    · simp only [List.mem_append, List.mem_singleton] at hp
      rcases hp with (hp | rfl) | (hp | rfl)
      · exact .inl (.inr (.inr (.inr ⟨p, by simp [hp], hk⟩)))
      · exact .inr (.inl hk)
      · exact .inl (.inr (.inr (.inr ⟨p, by simp [hp], hk⟩)))
      · exact .inr (.inr (hcvb k hk))
set_option maxRecDepth 100000 in
set_option maxHeartbeats 1000000 in
theorem add_any (hb : Nat) (vl vw : Value) (ps qs : List (Value × List ByteArray)) (A : Option Addr) (c : Nat) (l : List ByteArray) (w : World) (base : Nat) (H : HeldAt w base hb vl vw ps qs) (hbs : base ≤ w.heap.size)
    (hv : SRow w base (.slice A l.length c) l) (hfree : ∀ k, (Value.slice A l.length c).ownBlock = some k → ¬ foot hb vl vw (ps ++ qs) k) (hps : ps.length ≤ 1000) (hl : l.length ≤ 1000) :
    Calls Tryd.prog 34 #[.pointer (some ⟨hb, 0, none⟩), .slice A l.length c] w fun e W => e = .returned (.tuple #[]) ∧ Added w W base hb vl vw ps qs (.slice A l.length c) l := by
  obtain ⟨Al, cl, rfl⟩ := own_slice H.ol
  obtain ⟨Aw, cw, rfl⟩ := own_slice H.ow
  have HH := Aside0.mk H
  have HV := Aside0.mk hv
  have HF := Aside0.mk hfree
  obtain ⟨A', c', he, hlc, hrd⟩ := SRow.reads hv
  obtain ⟨rfl, rfl⟩ : A = A' ∧ c = c' := by injection he with h1 h2 h3; exact ⟨h1, h3⟩
  have HR := Aside0.mk hrd
  have hqs : qs.length ≤ 1000 := by have := H.len; omega
  obtain ⟨i1, hi1, hy0, hy1, hy2⟩ := info_parts infoL
  clear H hv hfree he hrd
  go_enter Tryd.func34, Tryd.ntmps34
  go_wp2_with (first
    | ((with_reducible refine gate_builtin (b := .append) (xs := #[.tmp 5, .tmp 6]) rfl ?_); at_builtin; refine print_append_row_of (w0 := w) Value.string ByteArray.empty w.heap.size rfl (.tmp 5) (.tmp 6) 23 9 (.string ByteArray.empty) 16 rfl Tryd.underlying23 infoS rfl (by decide) (fun _ => rfl) (.slice none 0 0) [] l A l.length c rfl rfl (own_nil _ _ _ _) (Kd.reads_of_C HR.out) (Below.refl _ _) (Nat.le_refl _) ?aL ?_; (case aL => simp; omega); intro v1 w1 hown1 hb1 hg1 hat1; obtain ⟨A1, c1, rfl⟩ := own_slice hown1; have HC := Aside0.mk (show SRow w1 w.heap.size _ l from hown1); have H1 := Aside0.mk (HH.out.moved (Moved.of_below hb1 (fun _ => False)) (fun _ _ hk => hk)); have HB1 := Aside0.mk hb1; have hc0 := H1.out.cell_l; clear hown1 hb1 hg1 hat1)
    | ((with_reducible refine gate_builtin (b := .append) (xs := #[.tmp 12, .tmp 14]) rfl ?_); at_builtin; refine wpList_append_own_at _ rfl _ _ 48 rfl base 23 i1 (.slice none 0 0) 1 24 Tryd.underlying48 hi1 hy0 hy1 hy2 rfl (by decide) _ _ _ rfl (H1.out.ol.alloc _) ⟨w1.heap.size, 0, none⟩ 1 1 [.slice A l.length c] rfl rfl (cell_one_new _ _ _) (by simp [Value.oneCell']) (by unfold maxLen; omega) (by omega) (by have := HB1.out.size; simp; omega) ?_; intro v2 w2 hown2 hgrow2 n2_ hat2; obtain ⟨A2, c2, rfl⟩ := own_slice hown2; have HO2 := Aside0.mk hown2; have HG2 := Aside0.mk hgrow2; have HA2 := Aside0.mk hat2; have hm12 := mid1 H1.out hgrow2; have HM12 := Aside0.mk hm12; have hc2 := blk_cell hm12.1 0; have hc3 := blk_cell hm12.1 1; have hf2 := blk_frozen hm12.1 0; have OW3 := Aside0.mk (own_setCell hm12.2 (p := ⟨hb, 0, none⟩) (fun he => H1.out.hb_vw he.symm) (.slice A2 (ps.length + 1) c2)); clear hown2 hgrow2 n2_ hat2 hm12 hc0)
    | ((with_reducible refine gate_builtin (b := .append) (xs := #[.tmp 22, .tmp 24]) rfl ?_); at_builtin; refine wpList_append_own_at _ rfl _ _ 48 rfl base 23 i1 (.slice none 0 0) 1 24 Tryd.underlying48 hi1 hy0 hy1 hy2 rfl (by decide) _ _ _ rfl (OW3.out.alloc _) ⟨w2.heap.size, 0, none⟩ 1 1 [.slice A1 l.length c1] rfl rfl (cell_one_set _ _ _ _ _) (by simp [Value.oneCell']) (by unfold maxLen; omega) (by omega) ?aB ?_; (case aB => have h1_ := HB1.out.size; have h2_ := HG2.out.size; simp at h2_ ⊢; omega); intro v3 w3 hown3 hgrow3 n3_ hat3; obtain ⟨A3, c3, rfl⟩ := own_slice hown3; have HO3 := Aside0.mk hown3; have HG3 := Aside0.mk hgrow3; have HA3 := Aside0.mk hat3; have hm23 := blk_third HH.out HB1.out HO2.out HG2.out HA2.out HG3.out; have hc4 := blk_cell hm23 1; have hf4 := blk_frozen hm23 1; clear hown3 hgrow3 n3_ hat3 hm23 hc2 hc3 hf2))
  go_end0
  exact ⟨rfl, added_mk HH.out hbs HV.out HF.out HB1.out HC.out HO2.out HG2.out HA2.out HO3.out HG3.out HA3.out⟩
end Go.Proofs.YtfdinkofcjcahaaDoor.Own
