/- The walk of place.Clean: the pieces one by one, the names on a stack of the call's own. -/
import Derived.Test.YtfdinkofcjcahaaDoorSplitSeq
import Derived.Test.YtfdinkofcjcahaaDoorCleanSpec
import Derived.RangeFuncBox
import Derived.WalkSmall
import Derived.Maps.AppendAt
import Derived.Scope
import Derived.Outline
namespace Go.Proofs.YtfdinkofcjcahaaDoor.Ext
open Go Go.RowKit Go.Shelf Go.Proofs.YtfdinkofcjcahaaDoor.Ord Go.Proofs.YtfdinkofcjcahaaDoor.Pl Go.Proofs.YtfdinkofcjcahaaDoorW.PrintWords Go.Proofs.YtfdinkofcjcahaaDoor.Box

attribute [local go_sem] Oper.semAt_some

/-- What has come, handed to Clean's stack: the stack is acc. -/
def At (pre : List ByteArray) (acc : List (List UInt8)) : Prop := ∀ rest, clean [] (pre.map tx ++ rest) = clean acc rest
theorem At.nil : At [] [] := fun _ => rfl
theorem At.step {pre : List ByteArray} {acc acc' : List (List UInt8)} (h : At pre acc) (x : ByteArray) (hs : ∀ rest, clean acc (tx x :: rest) = clean acc' rest) : At (pre ++ [x]) acc' := fun rest => by
  rw [List.map_append, List.append_assoc]
  exact (h _).trans (hs rest)
/-- .. and Clean has given up. -/
def Gave (pre : List ByteArray) : Prop := ∀ rest, clean [] (pre.map tx ++ rest) = none
def cells (acc : List (List UInt8)) : List Value := (acc.map bs).map Value.string
theorem seq_box (n : Nat) (hn : 1 ≤ n) (Bs Bp Bv : Nat) (hd1 : Bs ≠ Bp) (hd2 : Bs ≠ Bv) (s0 : ByteArray) (hs0 : s0.size ≤ 70000) (w : World) (hv : Vars Bs Bp Bv w s0) :
    SeqBox Fence.wide n Tryd.prog 72 #[.pointer (some ⟨Bp, 0, none⟩), .pointer (some ⟨Bs, 0, none⟩), .pointer (some ⟨Bv, 0, none⟩)] (fun x : ByteArray => #[.string x]) (KpAt Bs Bp Bv) (fun xs => xs = (pcs (tx s0)).map bs) (fun pre => pre <+: (pcs (tx s0)).map bs) (pcs (tx s0)).length Bs w := by
  intro l J Jx W hb _ _ hJb hY h0
  have hv' : Vars Bs Bp Bv W s0 := ⟨(hb.block _ hv.s.lt).trans hv.s, (hb.block _ hv.p.lt).trans hv.p, (hb.block _ hv.v.lt).trans hv.v⟩
  exact split1_in n hn l Bs Bp Bv hd1 hd2 s0 hs0 J Jx hJb hY W hv' h0
theorem row_kept {W W' : World} {row : Option Nat} {base : Nat} {e : TypeId} {size : Nat} {v : Value} {k : Nat} {xs : List Value} (h : W.ownsRow base e size v k xs) (hg : W.grownBy W' row) (hr : ∀ r, row = some r → ∃ o : Obj, W.heap[r]? = some o ∧ o.isCells = false) : W'.ownsRow base e size v k xs := by
  refine h.kept hg ?_
  rcases h.2 with ⟨rfl, _⟩ | ⟨g, cap, cur, rfl, _, hgb, _⟩
  · exact .inl rfl
  · refine .inr fun e' => ?_
    obtain ⟨o, ho, hc⟩ := hr g (by rw [← e']; rfl)
    rw [hgb] at ho
    cases ho
    cases hc
theorem row_far {W : World} {base : Nat} {e : TypeId} {size : Nat} {v : Value} {k : Nat} {xs : List Value} (h : W.ownsRow base e size v k xs) {B : Nat} (hB : B < base) (u : Value) : (W.setCell ⟨B, 0, none⟩ u).ownsRow base e size v k xs := by
  refine h.kept (grownBy_setCell' W B u) ?_
  rcases h.2 with ⟨rfl, _⟩ | ⟨g, cap, cur, rfl, hb, _⟩
  · exact .inl rfl
  · refine .inr fun e' => ?_
    have : g = B := by simpa [Value.ownBlock] using e'
    omega
theorem row_ge {W : World} {base : Nat} {e : TypeId} {size : Nat} {v : Value} {k : Nat} {xs : List Value} (h : W.ownsRow base e size v k xs) : ∀ j, v.ownBlock = some j → base ≤ j := fun j hj => (h.lt j hj).1
theorem box_not_row {W : World} {base : Nat} {e : TypeId} {size : Nat} {v : Value} {k : Nat} {xs : List Value} (h : W.ownsRow base e size v k xs) {B : Nat} (hB : B < base) : some B ≠ v.ownBlock := fun e' => by have := row_ge h _ e'.symm; omega
theorem keeps_append {W w1 : World} {n₀ : Nat} {e : TypeId} {size : Nat} {v : Value} {k : Nat} {xs : List Value} {tmp : Obj} (hrow : W.ownsRow n₀ e size v k xs) (hgrow : (W.alloc tmp).grownBy w1 v.ownBlock) : KeepsOthers W w1 := by
  refine (KeepsOthers.alloc W tmp).trans (KeepsOthers.of_grownBy hgrow fun j o ej hj => ?_)
  rcases (hrow.alloc tmp).2 with ⟨rfl, _⟩ | ⟨g, cap, cur, rfl, _, hgb, _⟩
  · simp [Value.ownBlock] at ej
  · obtain rfl : g = j := by simpa [Value.ownBlock] using ej
    rw [hgb] at hj
    cases hj
    rfl
theorem cells_length (acc : List (List UInt8)) : (cells acc).length = acc.length := by simp [cells]
theorem cells_snoc (acc : List (List UInt8)) (x : ByteArray) : cells (acc ++ [tx x]) = cells acc ++ [.string x] := by simp [cells, bs_tx]
theorem infoS : (Tryd.prog.info? 9).map (fun i => (i.zero, i.size, i.bytes)) = some (some (.string ByteArray.empty), 1, 16) := by kernel_rfl
/-- The world in which the loop begins: the two results, the stack, the iterator's three variables. -/
def W0 (w : World) (s : ByteArray) : World := (((((w.alloc (.cells #[.string ⟨#[]⟩] 9)).alloc (.cells #[.int .i64 0] 24)).alloc (.cells #[.slice none 0 0] 23)).alloc (.cells #[.string (s.extract 1 s.size)] 9)).alloc (.cells #[.string ⟨#[47]⟩] 9)).alloc (.cells #[.int .i64 0] 3)
theorem W0_size (w : World) (s : ByteArray) : (W0 w s).heap.size = w.heap.size + 6 := by simp [W0]
theorem box_new (W : World) (t : TypeId) (v : Value) (n : Nat) (h : W.heap.size = n) : Boxed (W.alloc (.cells #[v] t)) n t v := h ▸ Boxed.new W t v
theorem W0_boxes (w : World) (s : ByteArray) : Boxed (W0 w s) w.heap.size 9 (.string ⟨#[]⟩) ∧ Boxed (W0 w s) (w.heap.size + 1) 24 (.int .i64 0) ∧ Boxed (W0 w s) (w.heap.size + 1 + 1) 23 (.slice none 0 0) ∧
    Vars (w.heap.size + 3) (w.heap.size + 4) (w.heap.size + 5) (W0 w s) (s.extract 1 s.size) := by
  unfold W0
  refine ⟨?_, ?_, ?_, ?_, ?_, ?_⟩
  · exact (((((box_new _ _ _ _ rfl).alloc _).alloc _).alloc _).alloc _).alloc _
  · exact ((((box_new _ _ _ _ (by simp)).alloc _).alloc _).alloc _).alloc _
  · exact (((box_new _ _ _ _ (by simp)).alloc _).alloc _).alloc _
  · exact ((box_new _ _ _ _ (by simp)).alloc _).alloc _
  · exact (box_new _ _ _ _ (by simp)).alloc _
  · exact box_new _ _ _ _ (by simp)
theorem W0_below (w : World) (s : ByteArray) : Below w.heap.size w (W0 w s) :=
  ((((((Below.refl _ w).alloc (Nat.le_refl _) _).alloc (by simp) _).alloc (by simp; omega) _).alloc (by simp; omega) _).alloc (by simp; omega) _).alloc (by simp; omega) _

/-- Between two rounds. -/
def Inv (w : World) (n₀ : Nat) (pre : List ByteArray) (W : World) : Prop :=
  (∃ acc v, At pre acc ∧ acc.all Name.okN = true ∧ acc.length ≤ pre.length ∧ Boxed W (w.heap.size + 1 + 1) 23 v ∧ W.ownsRow n₀ 9 1 v acc.length (cells acc)) ∧
    Boxed W w.heap.size 9 (.string ⟨#[]⟩) ∧ Boxed W (w.heap.size + 1) 24 (.int .i64 0) ∧ Below w.heap.size w W ∧ n₀ ≤ W.heap.size
/-- Clean has given up in a round. -/
def InvX (w : World) (c : Code) (pre : List ByteArray) (W : World) : Prop :=
  c = .ret ∧ Gave pre ∧ Boxed W w.heap.size 9 (.string ⟨#[]⟩) ∧ Boxed W (w.heap.size + 1) 24 (.int .i64 10) ∧ Below w.heap.size w W
theorem far_row {n₀ B : Nat} {W : World} {row : Option Nat} (hB : B < n₀) (hr : ∀ r, row = some r → n₀ ≤ r ∧ ∃ o : Obj, W.heap[r]? = some o ∧ o.isCells = false) : some B ≠ row := fun e => by have := (hr B e.symm).1; omega
theorem inv_own (w : World) (n₀ : Nat) (hn : n₀ = w.heap.size + 6) : OwnFrom n₀ (Inv w n₀) := by
  rintro s X Y row ⟨⟨acc, v, h1, h2, h3, h4, h5⟩, h6, h7, h8, h9⟩ hg hr
  exact ⟨⟨acc, v, h1, h2, h3, h4.kept hg (far_row (by omega) hr), row_kept h5 hg (fun r e => (hr r e).2)⟩, h6.kept hg (far_row (by omega) hr), h7.kept hg (far_row (by omega) hr), h8.grown hg h8.size (fun k e => by have := (hr k e).1; omega), Nat.le_trans h9 hg.size⟩
theorem invX_own (w : World) (n₀ : Nat) (hn : n₀ = w.heap.size + 6) (c : Code) : OwnFrom n₀ (InvX w c) := by
  rintro s X Y row ⟨h1, h2, h6, h7, h8⟩ hg hr
  exact ⟨h1, h2, h6.kept hg (far_row (by omega) hr), h7.kept hg (far_row (by omega) hr), h8.grown hg h8.size (fun k e => by have := (hr k e).1; omega)⟩
theorem inv_box (w : World) (n₀ : Nat) (hn : n₀ = w.heap.size + 6) (pre : List ByteArray) (X : World) (u : Value) : Inv w n₀ pre X → Inv w n₀ pre (X.setCell ⟨w.heap.size + 3, 0, none⟩ u) := by
  rintro ⟨⟨acc, v, h1, h2, h3, h4, h5⟩, h6, h7, h8, h9⟩
  exact ⟨⟨acc, v, h1, h2, h3, h4.other (by omega) u, row_far h5 (by omega) u⟩, h6.other (by omega) u, h7.other (by omega) u, h8.setCell (p := ⟨w.heap.size + 3, 0, none⟩) (by show w.heap.size ≤ w.heap.size + 3; omega) u, by simpa using h9⟩
/-- A round that writes the stack or a result, and makes new memory, keeps the iterator's variables. -/
theorem kp_of {Bs Bp Bv : Nat} {A B : World} (h : ∀ k, k = Bs ∨ k = Bp ∨ k = Bv → B.heap[k]? = A.heap[k]?) : KpAt Bs Bp Bv A B := ⟨h _ (.inl rfl), h _ (.inr (.inl rfl)), h _ (.inr (.inr rfl))⟩
theorem kp_refl {Bs Bp Bv : Nat} (A : World) : KpAt Bs Bp Bv A A := ⟨rfl, rfl, rfl⟩
theorem kp_set {Bs Bp Bv : Nat} (A : World) (B : Nat) (u : Value) (h1 : B ≠ Bs) (h2 : B ≠ Bp) (h3 : B ≠ Bv) : KpAt Bs Bp Bv A (A.setCell ⟨B, 0, none⟩ u) :=
  ⟨Below.heap_setCell A ⟨B, 0, none⟩ u _ (Ne.symm h1), Below.heap_setCell A ⟨B, 0, none⟩ u _ (Ne.symm h2), Below.heap_setCell A ⟨B, 0, none⟩ u _ (Ne.symm h3)⟩
theorem kp_grown {Bs Bp Bv n₀ : Nat} {A B : World} {row : Option Nat} (hg : A.grownBy B row) (hs : n₀ ≤ A.heap.size) (h1 : Bs < n₀) (h2 : Bp < n₀) (h3 : Bv < n₀) (hr : ∀ k, row = some k → n₀ ≤ k) : KpAt Bs Bp Bv A B :=
  ⟨hg.block _ (by omega) (fun e => by have := hr _ e.symm; omega), hg.block _ (by omega) (fun e => by have := hr _ e.symm; omega), hg.block _ (by omega) (fun e => by have := hr _ e.symm; omega)⟩
theorem kp_below {Bs Bp Bv n₀ : Nat} {A B : World} (hb : Below n₀ A B) (h1 : Bs < n₀) (h2 : Bp < n₀) (h3 : Bv < n₀) : KpAt Bs Bp Bv A B := ⟨hb.block _ h1, hb.block _ h2, hb.block _ h3⟩

theorem pcs_len' : ∀ l : List UInt8, (pcs l).length ≤ l.length + 1
  | [] => by simp [pcs]
  | c :: r => by
    have := pcs_len' r
    unfold pcs
    split
    · simp only [List.length_cons]; omega
    · split
      · simp
      · rename_i h; rw [h] at this; simp only [List.length_cons] at this ⊢; omega
theorem gaveUp {w W : World} {n₀ : Nat} {Kp : World → World → Prop} {I : List ByteArray → World → Prop} {pre : List ByteArray} {a : Act} (hr0 : Boxed W w.heap.size 9 (.string ⟨#[]⟩)) (hr1 : Boxed W (w.heap.size + 1) 24 (.int .i64 0)) (hB : Below w.heap.size w W) (hG : Gave pre) :
    ownPostG n₀ Kp I (InvX w) pre W .ret a ((W.setCell ⟨w.heap.size, 0, none⟩ (.string ⟨#[]⟩)).setCell ⟨w.heap.size + 1, 0, none⟩ (.int .i64 10)) :=
  ⟨((KeepsOthers.setCell _ _ _).trans (KeepsOthers.setCell _ _ _)).from _, rfl, hG, (hr0.set _).other (by omega) _, (hr1.other (by omega) _).set _,
    (hB.setCell (p := ⟨w.heap.size, 0, none⟩) (Nat.le_refl _) _).setCell (p := ⟨w.heap.size + 1, 0, none⟩) (by show w.heap.size ≤ w.heap.size + 1; omega) _⟩

theorem box_below {W W' : World} {B : Nat} {t : TypeId} {v : Value} (h : Boxed W B t v) (hb : Below W.heap.size W W') : Boxed W' B t v := by
  have hl : B < W.heap.size := h.lt
  exact (hb.block _ hl).trans h
theorem box_put {W : World} {B D : Nat} {t : TypeId} {v : Value} (h : Boxed W B t v) (hne : B ≠ D) : Boxed (W.putObj D (.deferred none)) B t v :=
  (World.putObj_heap_other (by omega)).trans h
theorem below_put {n : Nat} {w W : World} (h : Below n w W) {D : Nat} (hD : n ≤ D) (o : Obj) : Below n w (W.putObj D o) :=
  { h with size := by simpa using h.size, block := fun k hk => (World.putObj_heap_other (by omega)).trans (h.block k hk) }
theorem leave_two {W : World} {a : Array Value} {n : Nat} {r1 : ByteArray} {r2 : Int} (ha : a[2]? = some (.pointer (some ⟨n, 0, none⟩)) ∧ a[3]? = some (.pointer (some ⟨n + 1, 0, none⟩))) (h1 : Boxed W n 9 (.string r1)) (h2 : Boxed W (n + 1) 24 (.int .i64 r2)) :
    (results Tryd.f28 a).run Tryd.prog W = .ok (.tuple #[.string r1, .int .i64 r2]) W := by
  have hc5 := h1.cell
  have hc6 := h2.cell
  simp [results, Tryd.f28, go_sem, hc5, hc6, ha.1, ha.2]
set_option maxRecDepth 100000 in
set_option maxHeartbeats 2000000 in
theorem clean_loop (s : ByteArray) (w : World) (hs : s.size ≤ 65536) (hp : (tx s).head? = some 47) (HE : Env w) :
    CallsIn Fence.wide 6 Tryd.prog 28 #[.string s] w fun e W' => e = .returned (.tuple #[.string (bs (cleanEnd (clean [] (pcs (tx s).tail))).1), .int .i64 (cleanEnd (clean [] (pcs (tx s).tail))).2]) ∧ Below w.heap.size w W' := by
  have hpos : 1 ≤ s.size := by
    rw [← tx_length]
    cases hh : tx s with
    | nil => rw [hh] at hp; simp at hp
    | cons c r => simp
  have hpre := Aside0.mk (show Lib.hasPrefix s.data.toList [47] = true by rw [prefix_slash, decide_eq_true hp])
  have HT := Aside0.mk (show tx (s.extract 1 s.size) = (tx s).tail by
    show (s.extract 1 s.size).data.toList = _
    rw [Lib.extract_to_end]
    show (tx s).drop 1 = _
    rw [List.drop_one])
  have hsz : (s.extract 1 s.size).size ≤ 70000 := by rw [ByteArray.size_extract]; omega
  have HSZ := Aside0.mk hsz
  have HP := Aside0.mk hp
  clear hp hsz
  refine callsIn_of_wp_marks Tryd.func28 rfl trivial ?_ rfl
  simp only [Tryd.ntmps28, List.size_toArray, List.length_cons, List.length_nil, Nat.reduceAdd, Nat.reduceSub, Array.replicate_succ, Array.replicate_zero, List.push_toArray, List.append_toArray, List.nil_append, List.cons_append]
  gi_wp2
  refine wpIn_wide.2 ?_
  apply wp_scope_straight
  refine (wpIn_wide (n := 6)).1 ?_
  gi_wp2_with (refine ⟨trivial, ?_⟩; gi_at_call 45; refine (callsIn_wide.2 (Tryd.strings_HasPrefix s ⟨#[47]⟩ _)).mono ?_; rintro e w' ⟨rfl, rfl⟩; rw [hpre.out])
  apply wpIn_label
  gi_wp2_with (refine ⟨trivial, ?_⟩; gi_at_call 53; refine (callsIn_wide.2 (splitSeq_calls (s.extract 1 s.size) _)).mono ?_; rintro e w' ⟨rfl, rfl⟩)
  obtain ⟨V, hV⟩ : ∃ V, W0 w s = V := ⟨_, rfl⟩
  obtain ⟨b0, b1, b2, b3⟩ := W0_boxes w s
  have hz := W0_size w s
  have hb := W0_below w s
  rw [hV] at b0 b1 b2 b3 hz hb
  have hV' := hV
  unfold W0 at hV
  rw [hV]
  clear hV hV'
  have hn0 : V.heap.size = w.heap.size + 6 := hz
  refine range_box (F := Fence.wide) (n := 6) (α := ByteArray) rfl (by omega) (gf := 72) (lb := #[.pointer (some ⟨w.heap.size + 1 + 1 + 1 + 1, 0, none⟩), .pointer (some ⟨w.heap.size + 1 + 1 + 1, 0, none⟩), .pointer (some ⟨w.heap.size + 1 + 1 + 1 + 2, 0, none⟩)]) rfl trivial (enters_of Tryd.func72 (by kernel_rfl) rfl)
    (encs := fun x : ByteArray => #[.string x]) (Bs := w.heap.size + 3) (by omega) (seq_box 5 (by omega) (w.heap.size + 3) (w.heap.size + 4) (w.heap.size + 5) (by omega) (by omega) (s.extract 1 s.size) HSZ.out V b3)
    (fun h k => h.trans k) (fun W l o' hl => ⟨World.putObj_heap_other (by omega), World.putObj_heap_other (by omega), World.putObj_heap_other (by omega)⟩) (fun _ => rfl)
    (Inv w V.heap.size) (InvX w) (inv_own w _ hn0) (invX_own w _ hn0) (inv_box w _ hn0)
    ⟨⟨[], _, At.nil, rfl, Nat.le_refl _, b2, World.ownsRow_nil _ _ _ _⟩, b0, b1, hb, Nat.le_refl _⟩
    (fun x => { tmps := #[.string s, undef, .pointer (some ⟨w.heap.size, 0, none⟩), .pointer (some ⟨w.heap.size + 1, 0, none⟩), .pointer (some ⟨w.heap.size + 1 + 1, 0, none⟩), .string x, .string s, .int .i64 s.size, .bool (decide (65536 < (s.size : Int))), .string s, .bool true, .bool false, .string s, .string (s.extract 1 s.size),
      .func (.func 72) #[] #[.pointer (some ⟨w.heap.size + 1 + 1 + 1 + 1, 0, none⟩), .pointer (some ⟨w.heap.size + 1 + 1 + 1, 0, none⟩), .pointer (some ⟨w.heap.size + 1 + 1 + 1 + 2, 0, none⟩)], .string x,
      undef, undef, undef, undef, undef, undef, undef, undef, undef, undef, undef, undef, undef, undef, undef, undef, undef, undef, undef, undef, undef, undef, undef, undef, undef, undef, undef, undef, undef, undef, undef], defers := [] }) ?assign ?body ?done ?stop
  case assign =>
    intro l x W K hK
    gi_wp2
    exact hK
  case body =>
    rintro l pre x W hl ⟨⟨acc, v, hA, hok, hlen, hbv, hrow⟩, hr0, hr1, hB, hge⟩ hN
    have hlow : w.heap.size + 6 ≤ V.heap.size := by omega
    clear hn0 hz b0 b1 b2 b3 hb
    obtain ⟨A, cap, rfl⟩ := own_slice hrow
    have HEW := HE.at_ hB
    have hcv := hbv.cell
    have hfv := hbv.frozen
    have hc0 := hr0.cell
    have hf0 := hr0.frozen
    have hc1 := hr1.cell
    have hf1 := hr1.frozen
    have htx : x.toList = tx x := ByteArray.toList_eq x
    have stay : ∀ acc', (∀ rest, clean acc (tx x :: rest) = clean acc' rest) → At (pre ++ [x]) acc' := fun acc' h => hA.step x h
    have gave : (∀ rest, clean acc (tx x :: rest) = none) → Gave (pre ++ [x]) := fun h rest => by
      rw [List.map_append, List.append_assoc]
      exact (hA _).trans (h rest)
    have HST := Aside0.mk stay
    have HGV := Aside0.mk gave
    clear stay gave hA
    by_cases e1 : tx x = []
    · have t1 : x.toList.isEmpty = true := by rw [htx, e1]; rfl
      have t2 : x.toList = [] := by rw [htx, e1]
      have HN := Aside0.mk (HST.out acc (fun rest => by rw [e1, clean, if_pos rfl]))
      clear e1 htx HST HGV
      gi_wp2
      exact ⟨KeepsFrom.refl _ _, kp_refl W, ⟨acc, _, HN.out, hok, by simp; omega, hbv, hrow⟩, hr0, hr1, hB, hge⟩
    · have t1 : x.toList.isEmpty = false := by
        rw [htx]
        cases hh : tx x with
        | nil => exact absurd hh e1
        | cons a b => rfl
      have t2 : (x.toList == []) = false := by rw [htx, beq_eq_false_iff_ne]; exact e1
      by_cases e2 : tx x = [46]
      · have t3 : (x.toList == [46]) = true := by rw [htx, e2]; rfl
        have HN := Aside0.mk (HST.out acc (fun rest => by rw [e2, clean, if_neg (by simp), if_pos rfl]))
        clear e1 e2 htx HST HGV
        gi_wp2
        exact ⟨KeepsFrom.refl _ _, kp_refl W, ⟨acc, _, HN.out, hok, by simp; omega, hbv, hrow⟩, hr0, hr1, hB, hge⟩
      · have t3 : (x.toList == [46]) = false := by rw [htx, beq_eq_false_iff_ne]; exact e2
        by_cases e3 : tx x = [46, 46]
        · have t4 : (x.toList == [46, 46]) = true := by rw [htx, e3]; rfl
          by_cases e4 : acc = []
          · have HN := Aside0.mk (HGV.out (fun rest => by rw [e3, clean, if_neg (by simp), if_neg (by simp), if_pos rfl, if_pos e4]))
            have t5 : ((acc.length : Int) == 0) = true := by rw [e4]; rfl
            clear e1 e2 e3 e4 htx HST HGV
            gi_wp2
            exact gaveUp hr0 hr1 hB HN.out
          · obtain ⟨acc, q, rfl⟩ : ∃ acc' q, acc = acc' ++ [q] := ⟨acc.dropLast, acc.getLast e4, (List.dropLast_concat_getLast e4).symm⟩
            have HN := Aside0.mk (HST.out acc (fun rest => by rw [e3, clean, if_neg (by simp), if_neg (by simp), if_pos rfl, if_neg (by simp), List.dropLast_concat]))
            have hok' : acc.all Name.okN = true := by
              rw [List.all_append] at hok
              exact (Bool.and_eq_true_iff.1 hok).1
            simp only [List.length_append, List.length_cons, List.length_nil, Nat.zero_add] at hrow hbv hcv hlen
            obtain ⟨g, cap', hsv⟩ := ownsRow_succ hrow
            injection hsv with hsA _ hsC
            subst hsA hsC
            have hcap : acc.length + 1 ≤ cap := by
              rcases hrow.2 with ⟨h0, _⟩ | ⟨_, _, _, hs', _, _, hle, _⟩
              · cases h0
              · injection hs' with _ _ hc'
                omega
            have hpop := ownsRow_pop (n := acc.length) (size := 1) (xs := cells acc) (last := [.string (bs q)]) (by simp [cells]) (by simpa [cells] using hrow)
            have t5 : (((acc.length + 1 : Nat) : Int) == 0) = false := by rw [beq_eq_false_iff_ne]; omega
            have HR := Aside0.mk hpop
            have hbound : acc.length + 1 ≤ 70001 := by
              have h1 := pcs_len' (tx (s.extract 1 s.size))
              rw [tx_length] at h1
              have h2 := HSZ.out
              omega
            clear e1 e2 e3 e4 htx HST HGV hrow hpop hok
            gi_wp2
            exact ⟨(KeepsOthers.setCell _ _ _).from _, kp_set _ _ _ (by omega) (by omega) (by omega), ⟨acc, _, HN.out, hok', by simp; omega, hbv.set _, row_far (B := w.heap.size + 1 + 1) HR.out (by omega) _⟩, hr0.other (by omega) _, hr1.other (by omega) _,
              hB.setCell (p := ⟨w.heap.size + 1 + 1, 0, none⟩) (by show w.heap.size ≤ w.heap.size + 1 + 1; omega) _, by simpa using hge⟩
        · have t4 : (x.toList == [46, 46]) = false := by rw [htx, beq_eq_false_iff_ne]; exact e3
          by_cases e5 : Name.okN (tx x) = true
          · have HN := Aside0.mk (HST.out (acc ++ [tx x]) (fun rest => by rw [clean, if_neg e1, if_neg e2, if_neg e3, if_pos e5]))
            have HI := Aside0.mk (show place_isName.f x = some true by rw [place_isName.f, e5])
            have hok' : (acc ++ [tx x]).all Name.okN = true := by rw [List.all_append, hok]; simp [e5]
            have hbound : acc.length + 1 ≤ 70001 := by
              have h1 := pcs_len' (tx (s.extract 1 s.size))
              rw [tx_length] at h1
              have h2 := HSZ.out
              omega
            have HR := Aside0.mk hrow
            obtain ⟨i0, hi, hz0, hz1, hz2⟩ := info_parts infoS
            clear e1 e2 e3 e5 htx HST HGV hok
            gi_wp2_with (first | (refine ⟨trivial, ?_⟩; gi_at_call 47; refine (CallsIn.inRound l (callsIn_wide.2 (place_isName.stays x true _ HI.out HEW))).mono ?_; rintro e w' ⟨rfl, rfl⟩) | (gi_at_builtin; refine wpListIn_append_own _ rfl _ _ 23 rfl V.heap.size 9 i0 (.string ByteArray.empty) 1 16 Tryd.underlying23 hi hz0 hz1 hz2 rfl (by decide) _ _ _ rfl (HR.out.alloc _) ⟨W.heap.size, 0, none⟩ 1 1 [.string x] rfl rfl (cell_one_new _ _ _) (by simp [Value.oneCell']) (by unfold maxLen; omega) (by omega) (by simp; omega) ?_; intro v' w1 hown' hgrow _; obtain ⟨g', cap', rfl⟩ := ownsRow_succ hown'; have hv1 := (hbv.alloc _).kept hgrow (box_not_row (B := w.heap.size + 1 + 1) HR.out (by omega)); have hcv1 := hv1.cell; have hfv1 := hv1.frozen))
            have hg : W.grownBy w1 (Value.slice A acc.length cap).ownBlock := (World.grownBy_alloc W _ _).trans hgrow
            exact ⟨((keeps_append HR.out hgrow).trans (KeepsOthers.setCell _ _ _)).from _,
              (kp_grown hg hge (by omega) (by omega) (by omega) (fun k e' => row_ge HR.out k e')).trans (kp_set _ _ _ (by omega) (by omega) (by omega)),
              ⟨acc ++ [tx x], _, HN.out, hok', by simp; omega, hv1.set _, row_far (B := w.heap.size + 1 + 1) (by rw [cells_snoc, List.length_append]; exact hown') (by omega) _⟩,
              (hr0.kept hg (box_not_row HR.out (by omega))).other (by omega) _, (hr1.kept hg (box_not_row HR.out (by omega))).other (by omega) _,
              (hB.grown hg hB.size (fun k e' => by have := row_ge HR.out k e'; omega)).setCell (p := ⟨w.heap.size + 1 + 1, 0, none⟩) (by show w.heap.size ≤ w.heap.size + 1 + 1; omega) _,
              by have := hg.size; simp; omega⟩
          · have HN := Aside0.mk (HGV.out (fun rest => by rw [clean, if_neg e1, if_neg e2, if_neg e3, if_neg e5]))
            have HI := Aside0.mk (show place_isName.f x = some false by rw [place_isName.f, Bool.eq_false_iff.2 e5])
            clear e1 e2 e3 e5 htx HST HGV hok
            gi_wp2_with (refine ⟨trivial, ?_⟩; gi_at_call 47; refine (CallsIn.inRound l (callsIn_wide.2 (place_isName.stays x false _ HI.out HEW))).mono ?_; rintro e w' ⟨rfl, rfl⟩)
            exact gaveUp hr0 hr1 hB HN.out
  case done =>
    rintro D xs W hD hxs ⟨⟨acc, v, hA, hok, hlen, hbv, hrow⟩, hr0, hr1, hB, hge⟩ hK
    have hfin : clean [] (pcs (tx s).tail) = some acc := by
      have h1 := hA []
      rw [hxs, List.append_nil, List.map_map] at h1
      have h2 : (pcs (tx (s.extract 1 s.size))).map (tx ∘ bs) = pcs (tx s).tail := by
        rw [HT.out]
        conv => rhs; rw [← List.map_id (pcs (tx s).tail)]
        exact List.map_congr_left fun x _ => tx_bs x
      rw [h2] at h1
      rw [h1]
      rfl
    have hlow : w.heap.size + 6 ≤ V.heap.size := by omega
    clear hn0 hz b0 b1 b2 b3 hb hA hxs hlen
    obtain ⟨A, cap, rfl⟩ := own_slice hrow
    have hcv := hbv.cell
    have hc0 := hr0.cell
    have hf0 := hr0.frozen
    have hc1 := hr1.cell
    have hf1 := hr1.frozen
    by_cases h6 : acc.length > 6
    · have HF := Aside0.mk (show cleanEnd (clean [] (pcs (tx s).tail)) = ([], 10) by rw [hfin, cleanEnd, if_pos h6])
      clear hfin
      gi_wp2
      rw [Exit.noGoto_ret]
      have hK' := ((KeepsOthers.setCell W ⟨w.heap.size, 0, none⟩ (.string ⟨#[]⟩)).trans (KeepsOthers.setCell _ ⟨w.heap.size + 1, 0, none⟩ (.int .i64 10))).same D _ hK rfl
      have hB' := (hB.setCell (p := ⟨w.heap.size, 0, none⟩) (Nat.le_refl _) (.string ⟨#[]⟩)).setCell (p := ⟨w.heap.size + 1, 0, none⟩) (by show w.heap.size ≤ w.heap.size + 1; omega) (.int .i64 10)
      have hr0' := (hr0.set (.string ⟨#[]⟩)).other (B' := w.heap.size + 1) (by omega) (.int .i64 10)
      have hr1' := (hr1.other (B' := w.heap.size) (by omega) (.string ⟨#[]⟩)).set (.int .i64 10)
      refine ⟨by simp, .inl ⟨_, _, rfl, run_takeDeferred hK', ?_⟩⟩
      exact ⟨_, leave_two ⟨rfl, rfl⟩ (box_put hr0' (by omega)) (box_put hr1' (by omega)), by rw [HF.out]; rfl, below_put hB' (by omega) _⟩
    · have HF := Aside0.mk (show cleanEnd (clean [] (pcs (tx s).tail)) = (plc acc, 0) by rw [hfin, cleanEnd, if_neg h6])
      have HP' := Aside0.mk (placed_tells acc ⟨by omega, hok⟩)
      have HR : (Kd.R Kd.string 9 W V.heap.size (fun _ => True) (.slice A acc.length cap) (acc.map bs)) := Kd.R_of_own (by rw [List.length_map]; exact hrow) (fun _ _ => trivial)
      have HC := Aside0.mk (Kd.R_reads' HR)
      have HL := Aside0.mk (show (acc.map bs).length = acc.length from List.length_map bs)
      clear hfin hok hrow HR
      gi_wp2_with (refine ⟨trivial, ?_⟩; gi_at_call 48; rw [← HL.out]; refine (callsIn_wide.2 (PPa.place_placed.calls A cap (acc.map bs) (bs (plc acc)) W HC.out.2.2 (HL.out ▸ HC.out.2.1) HP'.out)).mono ?_; rintro e W2 ⟨rfl, hb2⟩; have hr2 := box_below hr0 hb2; have hr3 := box_below hr1 hb2; have hc2 := hr2.cell; have hf2 := hr2.frozen; have hc3 := hr3.cell; have hf3 := hr3.frozen)
      rw [Exit.noGoto_ret]
      have hK2 : W2.heap[D]? = some (.deferred (some [])) := (hb2.block D (Array.getElem?_eq_some_iff.1 hK).1).trans hK
      have hK' := ((KeepsOthers.setCell W2 ⟨w.heap.size, 0, none⟩ (.string (bs (plc acc)))).trans (KeepsOthers.setCell _ ⟨w.heap.size + 1, 0, none⟩ (.int .i64 0))).same D _ hK2 rfl
      have hB' := ((hB.trans (hb2.mono hB.size)).setCell (p := ⟨w.heap.size, 0, none⟩) (Nat.le_refl _) (.string (bs (plc acc)))).setCell (p := ⟨w.heap.size + 1, 0, none⟩) (by show w.heap.size ≤ w.heap.size + 1; omega) (.int .i64 0)
      have hr0' := (hr2.set (.string (bs (plc acc)))).other (B' := w.heap.size + 1) (by omega) (.int .i64 0)
      have hr1' := (hr3.other (B' := w.heap.size) (by omega) (.string (bs (plc acc)))).set (.int .i64 0)
      refine ⟨by simp, .inl ⟨_, _, rfl, run_takeDeferred hK', ?_⟩⟩
      exact ⟨_, leave_two ⟨rfl, rfl⟩ (box_put hr0' (by omega)) (box_put hr1' (by omega)), by rw [HF.out], below_put hB' (by omega) _⟩
  case stop =>
    rintro D c pre W hD ⟨post, hpost⟩ ⟨rfl, hG, hr0, hr1, hB⟩ hK
    have HF : cleanEnd (clean [] (pcs (tx s).tail)) = ([], 10) := by
      have h1 := hG (post.map tx)
      rw [← List.map_append, hpost, List.map_map] at h1
      have h2 : (pcs (tx (s.extract 1 s.size))).map (tx ∘ bs) = pcs (tx s).tail := by
        rw [HT.out]
        conv => rhs; rw [← List.map_id (pcs (tx s).tail)]
        exact List.map_congr_left fun x _ => tx_bs x
      rw [h2] at h1
      rw [h1]
      rfl
    have hlow : w.heap.size + 6 ≤ V.heap.size := by omega
    clear hn0 hz b0 b1 b2 b3 hb
    gi_wp2
    refine ⟨by simp, .inl ⟨_, _, rfl, run_takeDeferred hK, ?_⟩⟩
    exact ⟨_, leave_two ⟨rfl, rfl⟩ (box_put hr0 (by omega)) (box_put hr1 (by omega)), by rw [HF]; rfl, below_put hB (by omega) _⟩

set_option maxRecDepth 100000 in
set_option maxHeartbeats 2000000 in
theorem clean_long (s : ByteArray) (w : World) (hs : ¬ s.size ≤ 65536) :
    CallsIn Fence.wide 6 Tryd.prog 28 #[.string s] w fun e W' => e = .returned (.tuple #[.string ByteArray.empty, .int .i64 2]) ∧ Below w.heap.size w W' := by
  refine callsIn_of_wp_marks Tryd.func28 rfl trivial ?_ rfl
  simp only [Tryd.ntmps28, List.size_toArray, List.length_cons, List.length_nil, Nat.reduceAdd, Nat.reduceSub, Array.replicate_succ, Array.replicate_zero, List.push_toArray, List.append_toArray, List.nil_append, List.cons_append]
  gi_wp2
  refine wpIn_wide.2 ?_
  apply wp_scope_straight
  refine (wpIn_wide (n := 6)).1 ?_
  have hlt : (65536 : Int) < s.size := by omega
  gi_wp2
  rw [Exit.noGoto_ret]
  exact ⟨_, leave_two ⟨rfl, rfl⟩ ((box_new _ _ _ _ rfl).alloc _) (box_new _ _ _ _ (by simp)), rfl, ((Below.refl _ w).alloc (Nat.le_refl _) _).alloc (by simp) _⟩

set_option maxRecDepth 100000 in
set_option maxHeartbeats 2000000 in
theorem clean_bare (s : ByteArray) (w : World) (hs : s.size ≤ 65536) (hp : (tx s).head? ≠ some 47) :
    CallsIn Fence.wide 6 Tryd.prog 28 #[.string s] w fun e W' => e = .returned (.tuple #[.string ByteArray.empty, .int .i64 10]) ∧ Below w.heap.size w W' := by
  have hpre := Aside0.mk (show Lib.hasPrefix s.data.toList [47] = false by rw [prefix_slash, decide_eq_false hp])
  clear hp
  refine callsIn_of_wp_marks Tryd.func28 rfl trivial ?_ rfl
  simp only [Tryd.ntmps28, List.size_toArray, List.length_cons, List.length_nil, Nat.reduceAdd, Nat.reduceSub, Array.replicate_succ, Array.replicate_zero, List.push_toArray, List.append_toArray, List.nil_append, List.cons_append]
  gi_wp2
  refine wpIn_wide.2 ?_
  apply wp_scope_straight
  refine (wpIn_wide (n := 6)).1 ?_
  gi_wp2_with (refine ⟨trivial, ?_⟩; gi_at_call 45; refine (callsIn_wide.2 (Tryd.strings_HasPrefix s ⟨#[47]⟩ _)).mono ?_; rintro e w' ⟨rfl, rfl⟩; rw [hpre.out])
  rw [Exit.noGoto_ret]
  exact ⟨_, leave_two ⟨rfl, rfl⟩ ((box_new _ _ _ _ rfl).alloc _) (box_new _ _ _ _ (by simp)), rfl, ((Below.refl _ w).alloc (Nat.le_refl _) _).alloc (by simp) _⟩

/-- **place.Clean, AT EVERY TEXT: what cleanB says.** -/
theorem clean_any (s : ByteArray) (w : World) (HE : Env w) : Calls Tryd.prog 28 #[.string s] w fun e W' => e = .returned (.tuple #[.string (cleanB s).1, .int .i64 (cleanB s).2]) ∧ Below w.heap.size w W' := by
  unfold cleanB cleanL
  rw [tx_length]
  by_cases h1 : s.size ≤ 65536
  · rw [if_neg (by omega)]
    by_cases h2 : (tx s).head? = some 47
    · rw [if_pos h2]
      exact callsIn_wide.1 (clean_loop s w h1 h2 HE)
    · rw [if_neg h2]
      exact callsIn_wide.1 (clean_bare s w h1 h2)
  · rw [if_pos (by omega)]
    exact callsIn_wide.1 (clean_long s w h1)
theorem place_Clean.calls (a0 : ByteArray) (r1 : ByteArray) (r2 : Int) (w : World) (h : place_Clean.f a0 = some (r1, r2)) (HE : Env w) :
    Calls Tryd.prog 28 #[.string a0] w fun e w' => e = .returned (.tuple #[.string r1, .int .i64 r2]) ∧ Below w.heap.size w w' := by
  unfold place_Clean.f at h
  by_cases hl : a0.size ≤ maxLen
  · rw [if_pos hl] at h
    obtain ⟨rfl, rfl⟩ := Prod.mk.inj (Option.some.inj h)
    exact clean_any a0 w HE
  · rw [if_neg hl] at h
    cases h
end Go.Proofs.YtfdinkofcjcahaaDoor.Ext
