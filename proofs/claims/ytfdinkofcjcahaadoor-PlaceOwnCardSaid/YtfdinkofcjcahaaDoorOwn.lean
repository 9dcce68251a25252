/- The walk of the law PlaceOwn: lists that Parse answered are new memory. -/
import Derived.Test.YtfdinkofcjcahaaDoorOwnGiven
namespace Go.Proofs.YtfdinkofcjcahaaDoor.Own
open Go.RowKit Go.Proofs.YtfdinkofcjcahaaDoor.Ext Go.Proofs.YtfdinkofcjcahaaDoor.PPl Go.Proofs.YtfdinkofcjcahaaDoor.Pl Go.Proofs.YtfdinkofcjcahaaDoor.Ord Go.Proofs.YtfdinkofcjcahaaDoorW.PrintWords Go.Proofs.YtfdinkofcjcahaaDoor.Law Go.Proofs.YtfdinkofcjcahaaDoor.Name

/-- Between two rounds: what came in, and the two Helds, m rounds old. -/
structure St (w W : World) (A : Option Addr) (ns : List ByteArray) (hb bb : Nat) (vl vw ul uw : Value) (ps qs rs ts : List (Value × List ByteArray)) (m : Nat) : Prop where mk ::
  below : Below w.heap.size w W
  names : Kd.string.C W A ns.length ns
  h : HeldAt W w.heap.size hb vl vw ps qs
  b : HeldAt W w.heap.size bb ul uw rs ts
  apart : ∀ k, foot hb vl vw (ps ++ qs) k → ¬ foot bb ul uw (rs ++ ts) k
  hsame : ps.map Prod.snd = qs.map Prod.snd
  bsame : rs.map Prod.snd = ts.map Prod.snd
  hlen : ps.length ≤ 2 * m
  blen : rs.length ≤ m
  hl : ∀ p ∈ ps, p.2.length ≤ 8
  bl : ∀ p ∈ rs, p.2.length ≤ 8
def Stt (w W : World) (A : Option Addr) (ns : List ByteArray) (hb bb : Nat) (m : Nat) : Prop := ∃ vl vw ul uw ps qs rs ts, St w W A ns hb bb vl vw ul uw ps qs rs ts m
section
variable {w W W' : World} {A : Option Addr} {ns : List ByteArray} {hb bb : Nat} {vl vw ul uw : Value} {ps qs rs ts : List (Value × List ByteArray)} {m : Nat}
/-- What is written elsewhere. -/
theorem St.moved {S : Nat → Prop} (h : St w W A ns hb bb vl vw ul uw ps qs rs ts m) (hn : Kd.string.C w A ns.length ns) (hm : Moved W W' S) (h0 : ∀ k, S k → w.heap.size ≤ k) (h1 : ∀ k, foot hb vl vw (ps ++ qs) k → ¬ S k) (h2 : ∀ k, foot bb ul uw (rs ++ ts) k → ¬ S k) : St w W' A ns hb bb vl vw ul uw ps qs rs ts m :=
  have hb' := hm.above h.below h0
  ⟨hb', Kd.C_below hn hb', h.h.moved hm h1, h.b.moved hm h2, h.apart, h.hsame, h.bsame, h.hlen, h.blen, h.hl, h.bl⟩
theorem St.step (h : St w W A ns hb bb vl vw ul uw ps qs rs ts m) (hb' : Below W.heap.size W W') : St w W' A ns hb bb vl vw ul uw ps qs rs ts m :=
  ⟨below_step h.below hb', Kd.C_below h.names hb', h.h.moved (Moved.of_below hb' (fun _ => False)) (fun _ _ hk => hk), h.b.moved (Moved.of_below hb' (fun _ => False)) (fun _ _ hk => hk), h.apart, h.hsame, h.bsame, h.hlen, h.blen, h.hl, h.bl⟩
theorem St.name (h : St w W A ns hb bb vl vw ul uw ps qs rs ts m) (i : Nat) (hi : i < ns.length) : ∃ ad, A = some ad ∧ W.cell? (ad.add i) = some (.string (rdOf ByteArray.empty ns (i : Int))) := by
  obtain ⟨ad, e, hx⟩ := Kd.at_string h.names (i : Int) (by omega) (by omega)
  rw [Int.toNat_natCast] at hx
  exact ⟨ad, e, hx⟩
/-- A list is added to the first. -/
theorem St.add_h {v : Value} {l : List ByteArray} (h : St w W A ns hb bb vl vw ul uw ps qs rs ts m) (hn : Kd.string.C w A ns.length ns) (ha : Added W W' w.heap.size hb vl vw ps qs v l) (hfree : ∀ k, v.ownBlock = some k → ¬ foot bb ul uw (rs ++ ts) k) (hl : l.length ≤ 8) (m' : Nat) (hm : ps.length + 1 ≤ 2 * m') (hm' : m ≤ m') :
    ∃ vl' vw' cw, St w W' A ns hb bb vl' vw' ul uw (ps ++ [(v, l)]) (qs ++ [(cw, l)]) rs ts m' ∧ Moved W W' (foot hb vl vw (ps ++ qs)) ∧ ∀ k, foot hb vl' vw' ((ps ++ [(v, l)]) ++ (qs ++ [(cw, l)])) k → foot hb vl vw (ps ++ qs) k ∨ v.ownBlock = some k ∨ W.heap.size ≤ k := by
  obtain ⟨vl', vw', cw, hh, hm1, hf⟩ := ha
  have hb' := hm1.above h.below h.h.foot_base
  refine ⟨vl', vw', cw, ⟨hb', Kd.C_below hn hb', hh, h.b.moved hm1 (fun k hk hk' => h.apart k hk' hk), fun k hk hk' => ?_, by simp [h.hsame], h.bsame, by simp; omega, by have := h.blen; omega, ?_, h.bl⟩, hm1, hf⟩
  · rcases hf k hk with hk | hk | hk
    · exact h.apart k hk hk'
    · exact hfree k hk hk'
    · have := h.b.foot_lt k hk'
      omega
  · intro p hp
    rcases List.mem_append.1 hp with hp | hp
    · exact h.hl p hp
    · rw [List.mem_singleton.1 hp]
      exact hl
theorem St.add_b {v : Value} {l : List ByteArray} (h : St w W A ns hb bb vl vw ul uw ps qs rs ts m) (hn : Kd.string.C w A ns.length ns) (ha : Added W W' w.heap.size bb ul uw rs ts v l) (hfree : ∀ k, v.ownBlock = some k → ¬ foot hb vl vw (ps ++ qs) k) (hl : l.length ≤ 8) (m' : Nat) (hm : rs.length + 1 ≤ m') (hm' : m ≤ m') :
    ∃ ul' uw' cw, St w W' A ns hb bb vl vw ul' uw' ps qs (rs ++ [(v, l)]) (ts ++ [(cw, l)]) m' ∧ Moved W W' (foot bb ul uw (rs ++ ts)) ∧ ∀ k, foot bb ul' uw' ((rs ++ [(v, l)]) ++ (ts ++ [(cw, l)])) k → foot bb ul uw (rs ++ ts) k ∨ v.ownBlock = some k ∨ W.heap.size ≤ k := by
  obtain ⟨ul', uw', cw, hh, hm1, hf⟩ := ha
  have hb' := hm1.above h.below h.b.foot_base
  refine ⟨ul', uw', cw, ⟨hb', Kd.C_below hn hb', h.h.moved hm1 (fun k hk hk' => h.apart k hk hk'), hh, fun k hk hk' => ?_, h.hsame, by simp [h.bsame], by have := h.hlen; omega, by simp; omega, h.hl, ?_⟩, hm1, hf⟩
  · rcases hf k hk' with hk' | hk' | hk'
    · exact h.apart k hk hk'
    · exact hfree k hk' hk
    · have := h.h.foot_lt k hk
      omega
  · intro p hp
    rcases List.mem_append.1 hp with hp | hp
    · exact h.bl p hp
    · rw [List.mem_singleton.1 hp]
      exact hl
end
/-- What is written elsewhere, of a list of one's own. -/
theorem row_below {W W' : World} {base : Nat} {v : Value} {l : List ByteArray} (h : SRow W base v l) (hb : Below W.heap.size W W') : SRow W' base v l := pw_own_below h hb
theorem fresh_foot {W0 W : World} {base hb base' : Nat} {vl vw v : Value} {ps qs : List (Value × List ByteArray)} {l : List ByteArray} (h : HeldAt W0 base hb vl vw ps qs) (hv : SRow W base' v l) (hle : W0.heap.size ≤ base') : ∀ k, v.ownBlock = some k → ¬ foot hb vl vw (ps ++ qs) k := by
  intro k hk hf
  have h1 := h.foot_lt k hf
  have h2 := own_base hv k hk
  omega

/-- A list of one's own beside the two Helds. -/
structure Aside (w W : World) (hb bb : Nat) (vl vw ul uw : Value) (ps qs rs ts : List (Value × List ByteArray)) (v : Value) (l : List ByteArray) : Prop where mk ::
  row : SRow W w.heap.size v l
  fh : ∀ k, v.ownBlock = some k → ¬ foot hb vl vw (ps ++ qs) k
  fb : ∀ k, v.ownBlock = some k → ¬ foot bb ul uw (rs ++ ts) k
section
variable {w W W' : World} {A : Option Addr} {ns : List ByteArray} {hb bb : Nat} {vl vw ul uw v v' : Value} {ps qs rs ts : List (Value × List ByteArray)} {m : Nat} {l l' : List ByteArray}
theorem St.name_at {ad : Addr} (h : St w W (some ad) ns hb bb vl vw ul uw ps qs rs ts m) {i : Nat} {q : ByteArray} (hi : i < ns.length) (hq : q = rdOf ByteArray.empty ns (i : Int)) : W.cell? (ad.add i) = some (.string q) := by
  obtain ⟨ad', e, hx⟩ := h.name i hi
  obtain rfl : ad = ad' := Option.some.inj e
  rw [hq]
  exact hx
/-- A list that was made since. -/
theorem St.aside (h : St w W A ns hb bb vl vw ul uw ps qs rs ts m) (hv : SRow W' W.heap.size v l) : Aside w W' hb bb vl vw ul uw ps qs rs ts v l :=
  ⟨own_weaken hv h.below.size, fresh_foot h.h hv (Nat.le_refl _), fresh_foot h.b hv (Nat.le_refl _)⟩
theorem Aside.step (h : Aside w W hb bb vl vw ul uw ps qs rs ts v l) (hb' : Below W.heap.size W W') : Aside w W' hb bb vl vw ul uw ps qs rs ts v l := ⟨row_below h.row hb', h.fh, h.fb⟩
theorem new_ne {base : Nat} (hv : SRow W base v l) (hv' : SRow W' W.heap.size v' l') : NeRow v v' := by
  intro k hk hk'
  have h1 := own_lt hv k hk
  have h2 := own_base hv' k hk'
  omega
/-- Behind an addition to the first Held. -/
theorem Aside.add_h {vl' vw' cw v1 : Value} {l1 : List ByteArray} (h : Aside w W hb bb vl vw ul uw ps qs rs ts v l) (hm : Moved W W' (foot hb vl vw (ps ++ qs))) (hf : ∀ k, foot hb vl' vw' ((ps ++ [(v1, l1)]) ++ (qs ++ [(cw, l1)])) k → foot hb vl vw (ps ++ qs) k ∨ v1.ownBlock = some k ∨ W.heap.size ≤ k) (hne : NeRow v1 v) : Aside w W' hb bb vl' vw' ul uw (ps ++ [(v1, l1)]) (qs ++ [(cw, l1)]) rs ts v l := by
  refine ⟨row_moved h.row hm h.fh, fun k hk hk' => ?_, h.fb⟩
  rcases hf k hk' with hk' | hk' | hk'
  · exact h.fh k hk hk'
  · exact hne k hk' hk
  · have := own_lt h.row k hk
    omega
end
section
variable {w W W' : World} {A : Option Addr} {ns : List ByteArray} {hb bb : Nat} {vl vw ul uw v v' : Value} {ps qs rs ts : List (Value × List ByteArray)} {m : Nat} {l l' : List ByteArray}
/-- A text is stored into the list beside. -/
theorem St.put {g n c : Nat} (h : St w W A ns hb bb vl vw ul uw ps qs rs ts m) (hn : Kd.string.C w A ns.length ns) (ha : Aside w W hb bb vl vw ul uw ps qs rs ts (.slice (some ⟨g, 0, none⟩) n c) l) (hl : l.length = n) (k : Nat) (x : ByteArray) :
    St w (W.setCell ⟨g, k, none⟩ (.string x)) A ns hb bb vl vw ul uw ps qs rs ts m ∧ Aside w (W.setCell ⟨g, k, none⟩ (.string x)) hb bb vl vw ul uw ps qs rs ts (.slice (some ⟨g, 0, none⟩) n c) (l.set k x) := by
  subst hl
  have hm : Moved W (W.setCell ⟨g, k, none⟩ (.string x)) (fun i => i = g) := (Moved.refl W (fun i => i = g)).set_ (p := ⟨g, k, none⟩) (.inl rfl) _
  have hg : (Value.slice (some ⟨g, 0, none⟩) l.length c).ownBlock = some g := by simp [Value.ownBlock]
  refine ⟨h.moved hn hm (fun k hk => hk ▸ own_base ha.row g hg) (fun k hk he => ha.fh g hg (he ▸ hk)) (fun k hk he => ha.fb g hg (he ▸ hk)), ⟨?_, ha.fh, ha.fb⟩⟩
  have := (own_store_of ha.row (k : Int) x).1
  rw [Int.toNat_natCast] at this
  show W.setCell _ _ |>.ownsRow _ _ 1 _ (l.set k x).length _
  rw [List.length_set]
  exact this
theorem Aside.cell {g n c : Nat} (ha : Aside w W hb bb vl vw ul uw ps qs rs ts (.slice (some ⟨g, 0, none⟩) n c) l) (hl : l.length = n) {k : Nat} (hk : k < n) : (∃ x, W.cell? ⟨g, k, none⟩ = some (.string x)) ∧ W.frozen? ⟨g, k, none⟩ = false := by
  subst hl
  have := own_at_of (d := ByteArray.empty) ha.row (k : Int) (by omega) (by omega)
  rw [Int.toNat_natCast] at this
  exact ⟨⟨_, this.1⟩, this.2⟩
/-- The list beside is gone on from. -/
theorem Aside.grow {o : Obj} (h : St w W A ns hb bb vl vw ul uw ps qs rs ts m) (hn : Kd.string.C w A ns.length ns) (ha : Aside w W hb bb vl vw ul uw ps qs rs ts v l) (hg : (W.alloc o).grownBy W' v.ownBlock) (hat : v'.ownBlock = v.ownBlock ∨ ∃ b, v'.ownBlock = some b ∧ (W.alloc o).heap.size ≤ b) (hrow : SRow W' w.heap.size v' l') :
    St w W' A ns hb bb vl vw ul uw ps qs rs ts m ∧ Aside w W' hb bb vl vw ul uw ps qs rs ts v' l' := by
  have hal := below_alloc (Below.refl _ W) o
  have hm := Moved.of_grown hg
  have h1 := h.step hal
  refine ⟨h1.moved hn hm (fun k hk => own_base ha.row k hk) (fun k hk he => ha.fh k he hk) (fun k hk he => ha.fb k he hk), ⟨hrow, fun k hk hk' => ?_, fun k hk hk' => ?_⟩⟩
  · rcases hat with hat | ⟨b, hb', hle⟩
    · exact ha.fh k (hat ▸ hk) hk'
    · rw [hb'] at hk
      injection hk with hk
      have h2 := h1.h.foot_lt k hk'
      omega
  · rcases hat with hat | ⟨b, hb', hle⟩
    · exact ha.fb k (hat ▸ hk) hk'
    · rw [hb'] at hk
      injection hk with hk
      have h2 := h1.b.foot_lt k hk'
      omega
end
theorem row_n {w W : World} {hb bb : Nat} {vl vw ul uw v : Value} {ps qs rs ts : List (Value × List ByteArray)} {l : List ByteArray} {n : Nat} (h : Aside w W hb bb vl vw ul uw ps qs rs ts v l) (hl : l.length = n) : W.ownsRow w.heap.size 9 1 v n (encs Value.string l) := by
  subst hl
  exact h.row
theorem St.mono {w W : World} {A : Option Addr} {ns : List ByteArray} {hb bb : Nat} {vl vw ul uw : Value} {ps qs rs ts : List (Value × List ByteArray)} {m m' : Nat} (h : St w W A ns hb bb vl vw ul uw ps qs rs ts m) (hm : m ≤ m') : St w W A ns hb bb vl vw ul uw ps qs rs ts m' :=
  ⟨h.below, h.names, h.h, h.b, h.apart, h.hsame, h.bsame, by have := h.hlen; omega, by have := h.blen; omega, h.hl, h.bl⟩
theorem reads_n {W : World} {base n c : Nat} {A : Option Addr} {l : List ByteArray} (h : W.ownsRow base 9 1 (.slice A n c) n (encs Value.string l)) (hl : l.length = n) : l.length ≤ c ∧ Kd.string.C W A l.length l := by
  subst hl
  obtain ⟨_, _, e1, hc1, hr1⟩ := SRow.reads (show SRow W base _ l from h)
  injection e1 with e1 _ e3
  subst e1 e3
  exact ⟨hc1, hr1⟩
theorem held_new {w W : World} {hb : Nat} (hblk : W.heap[hb]? = some (.cells #[.slice none 0 0, .slice none 0 0] 50 (0, 0))) (hle : w.heap.size ≤ hb) : HeldAt W w.heap.size hb (.slice none 0 0) (.slice none 0 0) [] [] :=
  ⟨hblk, hle, own_nil _ _ _ _, own_nil _ _ _ _, ne_nil _, ⟨fun _ h => by simp at h, List.Pairwise.nil⟩, rfl⟩
theorem start_st {w : World} {A : Option Addr} {ns : List ByteArray} (hn : Kd.string.C w A ns.length ns) : Stt w ((w.alloc (.cells #[.slice none 0 0, .slice none 0 0] 50)).alloc (.cells #[.slice none 0 0, .slice none 0 0] 50)) A ns w.heap.size (w.heap.size + 1) 0 := by
  have hb : Below w.heap.size w ((w.alloc (.cells #[.slice none 0 0, .slice none 0 0] 50)).alloc (.cells #[.slice none 0 0, .slice none 0 0] 50)) := below_alloc (below_alloc (Below.refl _ w) _) _
  have h1 := blk_alloc (blk_new w (.cells #[.slice none 0 0, .slice none 0 0] 50)) (.cells #[.slice none 0 0, .slice none 0 0] 50)
  have h2 := blk_new (w.alloc (.cells #[.slice none 0 0, .slice none 0 0] 50)) (.cells #[.slice none 0 0, .slice none 0 0] 50)
  rw [show (w.alloc (.cells #[.slice none 0 0, .slice none 0 0] 50)).heap.size = w.heap.size + 1 by simp] at h2
  refine ⟨_, _, _, _, [], [], [], [], ⟨hb, Kd.C_below hn hb, held_new h1 (Nat.le_refl _), held_new h2 (by omega), fun k hk hk' => ?_, rfl, rfl, by simp, by simp, fun _ h => by simp at h, fun _ h => by simp at h⟩⟩
  simp [foot, Value.ownBlock] at hk hk'
  omega
theorem own_join (b : ByteArray) (A : Option Addr) (n c : Nat) (os : List ByteArray) (want : ByteArray) (f : Int) (W : World) (hn : os.length = n) (hr : Kd.string.C W A os.length os) (hc : os.length ≤ c) (hf : place_Join.f b os = some (want, f)) (HE : Env W) : Calls Tryd.prog 33 #[.string b, .slice A n c] W fun e W' => e = .returned (.tuple #[.string want, .int .i64 f]) ∧ Below W.heap.size W W' := by
  subst hn
  exact (place_Join.calls b A c os want f W hr hc hf HE).mono fun _ _ h => h
theorem add_len (hb : Nat) (vl vw : Value) (ps qs : List (Value × List ByteArray)) (A : Option Addr) (n c : Nat) (l : List ByteArray) (w : World) (base : Nat) (hn : l.length = n) (H : HeldAt w base hb vl vw ps qs) (hbs : base ≤ w.heap.size)
    (hv : SRow w base (.slice A n c) l) (hfree : ∀ k, (Value.slice A n c).ownBlock = some k → ¬ foot hb vl vw (ps ++ qs) k) (hps : ps.length ≤ 1000) (hl : l.length ≤ 1000) :
    Calls Tryd.prog 34 #[.pointer (some ⟨hb, 0, none⟩), .slice A n c] w fun e W => e = .returned (.tuple #[]) ∧ Added w W base hb vl vw ps qs (.slice A n c) l := by
  subst hn
  exact add_any hb vl vw ps qs A c l w base H hbs hv hfree hps hl
theorem texts_own {W : World} {base base' : Nat} {A1 A2 : Option Addr} {c1 c2 : Nat} {l : List ByteArray} (h1 : SRow W base (.slice A1 l.length c1) l) (h2 : SRow W base' (.slice A2 l.length c2) l) (hl : l.length ≤ 1000) :
    Calls Tryd.prog 25 #[.slice A1 l.length c1, .slice A2 l.length c2] W fun e W' => e = .returned (.bool true) ∧ Drawn0 W W' := by
  obtain ⟨_, _, e1, hc1, hr1⟩ := SRow.reads h1
  obtain ⟨_, _, e2, hc2, hr2⟩ := SRow.reads h2
  injection e1 with e1 _ e3
  injection e2 with e2 _ e4
  subst e1 e3 e2 e4
  exact heraldlaw1_texts.calls (l.length + 1) A1 c1 l A2 c2 l true W hr1 hc1 hr2 hc2 (texts_same l (by omega) _ (by omega))
theorem cells_two (w : World) (a b : Value) : ∀ j u, [a, b][j]? = some u → (w.alloc (.cells #[a, b] 9)).cell? ((⟨w.heap.size, 0, none⟩ : Addr).add j) = some u := by
  intro j u h
  have e : (⟨w.heap.size, 0, none⟩ : Addr).add j = ⟨w.heap.size, j, none⟩ := by simp [Addr.add]; omega
  rw [e, World.cell?_alloc_new]
  simpa using h
theorem two_more {W : World} {base n : Nat} {v : Value} {xs : List ByteArray} {a b : ByteArray} (hl : xs.length = n) (h : W.ownsRow base 9 1 v (n + 2) (encs Value.string xs ++ [.string a, .string b])) : SRow W base v (xs ++ [a, b]) := by
  subst hl
  simpa [SRow, encs] using h
theorem parse_any (q : ByteArray) : ∃ (r1 : List ByteArray) (r2 : Int), place_Parse.f q = some (r1, r2) ∧ r1.length ≤ 6 := by
  refine ⟨(parseB q).1, (parseB q).2, rfl, ?_⟩
  have h := (parse_good (tx q)).1
  unfold parseB
  rw [List.length_map]
  exact h
set_option maxRecDepth 100000 in
set_option maxHeartbeats 4000000 in
theorem own_walk (A : Option Addr) (c : Nat) (ns : List ByteArray) (w : World) (hr : Kd.string.C w A ns.length ns) (_hc : ns.length ≤ c) (hnl : ns.length * 16 ≤ 140737488351232) (HE : Env2 w) :
    Calls Tryd.prog 10 #[.slice A ns.length c] w fun e w' => e = .returned (.bool true) ∧ Below w.heap.size w w' := by
  have HK := Aside0.mk (known_tells 8 (by omega))
  have HR := Aside0.mk hr
  obtain ⟨i0, hi0, hz0, hz1, hz2⟩ := info_parts infoS
  clear hr
  go_enter Tryd.func10, Tryd.ntmps10
  go_wp2_with fail
  go_loopw [5] (fun v5 W => ∃ r : Nat, v5 = .int .i64 r ∧ r ≤ 2 ∧ Stt w W A ns w.heap.size (w.heap.size + 1) (60 * r)) (fun v5 _ => 2 - (intOf v5).toNat)
  case atStart => exact ⟨0, rfl, by omega, start_st HR.out⟩
  case round =>
    obtain ⟨r, rfl, hr2, hst⟩ := hrel
    have HST := Aside0.mk hst
    clear hst
    by_cases hrr : r < 2
    · have hrd : decide ((r : Int) < 2) = true := by simp; omega
      go_wp2_with fail
      go_loopw [6] (fun v6 W => ∃ i : Nat, v6 = .int .i64 i ∧ i ≤ 60 ∧ i ≤ ns.length ∧ Stt w W A ns w.heap.size (w.heap.size + 1) (60 * r + i)) (fun v6 _ => 60 - (intOf v6).toNat)
      case atStart => exact ⟨0, rfl, by omega, by omega, HST.out⟩
      case round =>
        clear HST
        obtain ⟨i, rfl, hi60, hin, hst⟩ := hrel
        obtain ⟨vl, vw, ul, uw, ps, qs, rs, ts, hs⟩ := hst
        have HS := Aside0.mk hs
        clear hs
        by_cases hi1 : i < ns.length
        · by_cases hi2 : i < 60
          · obtain ⟨ad, rfl, hx⟩ := HS.out.name i hi1
            obtain ⟨q, hq⟩ : ∃ q, q = rdOf ByteArray.empty ns (i : Int) := ⟨_, rfl⟩
            rw [← hq] at hx
            obtain ⟨l, f, hP, hl6⟩ := parse_any q
            have HP := Aside0.mk hP
            have HQ := Aside0.mk hq
            clear hq hP
            go_wp2_with fail
            refine (place_Parse.calls q l f _ HP.out (HE.at_ HS.out.below).env).mono ?_
            rintro e w1 ⟨v1, rfl, hR1, hb1⟩
            obtain ⟨A1, c1, rfl⟩ := Kd.R_slice hR1
            have HS1 := Aside0.mk (HS.out.step hb1)
            have HA1 := Aside0.mk (HS.out.aside (SRow.of_R hR1))
            have hx1 := HS1.out.name_at hi1 HQ.out
            clear hR1 hb1 hx HS
            go_wp2_with fail
            refine (place_Parse.calls q l f _ HP.out (HE.at_ HS1.out.below).env).mono ?_
            rintro e w2 ⟨v2, rfl, hR2, hb2⟩
            obtain ⟨A2, c2, rfl⟩ := Kd.R_slice hR2
            have HS2 := Aside0.mk (HS1.out.step hb2)
            have HA2 := Aside0.mk (HS1.out.aside (SRow.of_R hR2))
            have HN := Aside0.mk (new_ne HA1.out.row (SRow.of_R hR2))
            have n0_ := Aside0.mk (HA1.out.step hb2)
            clear HA1 hR2 hb2 hx1 HS1
            have HA1 := n0_
            clear n0_
            go_wp2_with (first
              | (go_at_call 20; (with_reducible refine (heraldlaw1_num.calls _ _ _ rfl).mono ?_); rintro e w3 ⟨rfl, hd⟩; have n0_ := Aside0.mk (HS2.out.step hd.below); have n1_ := Aside0.mk (HA1.out.step hd.below); have n2_ := Aside0.mk (HA2.out.step hd.below); clear HS2 HA1 HA2 hd; have HS2 := n0_; have HA1 := n1_; have HA2 := n2_; clear n0_ n1_ n2_)
              | (go_at_call 25; (with_reducible refine (texts_own HA1.out.row HA2.out.row (by omega)).mono ?_); rintro e w3 ⟨rfl, hd⟩; have n0_ := Aside0.mk (HS2.out.step hd.below); have n1_ := Aside0.mk (HA1.out.step hd.below); have n2_ := Aside0.mk (HA2.out.step hd.below); clear HS2 HA1 HA2 hd; have HS2 := n0_; have HA1 := n1_; have HA2 := n2_; clear n0_ n1_ n2_))
            refine (add_any w.heap.size vl vw ps qs A1 c1 l _ w.heap.size HS2.out.h HS2.out.below.size HA1.out.row HA1.out.fh (by have := HS2.out.hlen; omega) (by omega)).mono ?_
            rintro e w4 ⟨rfl, hadd⟩
            have hlen0 := HS2.out.hlen
            have blen0 := HS2.out.blen
            obtain ⟨vl1, vw1, cw1, hs4, hm4, hf4⟩ := HS2.out.add_h HR.out hadd HA1.out.fb (by omega) (60 * r + i + 1) (by omega) (by omega)
            have HS4 := Aside0.mk hs4
            have HA4 := Aside0.mk (HA2.out.add_h hm4 hf4 HN.out)
            clear hs4 hm4 hf4 hadd HS2 HA1 HA2 HN
            go_wp2_with fail
            refine (add_any w.heap.size vl1 vw1 (ps ++ [(.slice A1 l.length c1, l)]) (qs ++ [(cw1, l)]) A2 c2 l _ w.heap.size HS4.out.h HS4.out.below.size HA4.out.row HA4.out.fh (by simp; omega) (by omega)).mono ?_
            rintro e w5 ⟨rfl, hadd⟩
            obtain ⟨vl2, vw2, cw2, hs5, hm5, hf5⟩ := HS4.out.add_h HR.out hadd HA4.out.fb (by omega) (60 * r + i + 1) (by simp; omega) (by omega)
            have HS5 := Aside0.mk hs5
            have hx5 := HS5.out.name_at hi1 HQ.out
            clear hs5 hm5 hf5 hadd HS4 HA4
            go_wp2_with fail
            refine (place_Parse.calls q l f _ HP.out (HE.at_ HS5.out.below).env).mono ?_
            rintro e w6 ⟨v3, rfl, hR3, hb6⟩
            obtain ⟨A3, c3, rfl⟩ := Kd.R_slice hR3
            have HS6 := Aside0.mk (HS5.out.step hb6)
            have HA6 := Aside0.mk (HS5.out.aside (SRow.of_R hR3))
            have HV1 := Aside0.mk (HS6.out.h.given.rows.get (i := ps.length) (p := (.slice A1 l.length c1, l)) (by simp))
            clear hR3 hb6 hx5 HS5
            go_wp2_with (go_at_call 25; (with_reducible refine (texts_own HA6.out.row HV1.out (by omega)).mono ?_); rintro e w7 ⟨rfl, hd⟩; have n0_ := Aside0.mk (HS6.out.step hd.below); have n1_ := Aside0.mk (HA6.out.step hd.below); clear HS6 HA6 hd; have HS6 := n0_; have HA6 := n1_; clear n0_ n1_)
            clear HV1
            have hA3 : 0 < l.length → ∃ g, A3 = some ⟨g, 0, none⟩ := by
              obtain ⟨_, _, e1, e2⟩ := HA6.out.row.form
              injection e1 with e1 _ e3
              subst e1
              exact e2
            have HF3 := Aside0.mk hA3
            clear hA3
            go_loopw [13] (fun v13 W => ∃ k : Nat, ∃ xs : List ByteArray, v13 = .int .i64 k ∧ k ≤ l.length ∧ xs.length = l.length ∧ St w W (some ad) ns w.heap.size (w.heap.size + 1) vl2 vw2 ul uw ((ps ++ [(.slice A1 l.length c1, l)]) ++ [(.slice A2 l.length c2, l)]) ((qs ++ [(cw1, l)]) ++ [(cw2, l)]) rs ts (60 * r + i + 1) ∧ Aside w W w.heap.size (w.heap.size + 1) vl2 vw2 ul uw ((ps ++ [(.slice A1 l.length c1, l)]) ++ [(.slice A2 l.length c2, l)]) ((qs ++ [(cw1, l)]) ++ [(cw2, l)]) rs ts (.slice A3 l.length c3) xs) (fun v13 _ => l.length - (intOf v13).toNat)
            case atStart => exact ⟨0, l, rfl, Nat.zero_le _, rfl, HS6.out, HA6.out⟩
            case round =>
              clear HS6 HA6
              obtain ⟨k, xs, rfl, hk, hxl, hs, ha⟩ := hrel
              have HS := Aside0.mk hs
              have HA := Aside0.mk ha
              have HX := Aside0.mk hxl
              clear hs ha hxl
              by_cases hkl : k < l.length
              · obtain ⟨g3, rfl⟩ := HF3.out (by omega)
                go_wp2_with (go_at_call 35; (with_reducible refine (mark_any _ _ _ (by omega) (by omega) (by omega) (by omega)).mono ?_); rintro e w8 ⟨rfl, hb8⟩; have n0_ := Aside0.mk (HS.out.step hb8); have n1_ := Aside0.mk (HA.out.step hb8); clear HS HA hb8; have HS := n0_; have HA := n1_; clear n0_ n1_; obtain ⟨⟨x0, hx0⟩, hz0'⟩ := HA.out.cell HX.out hkl)
                go_roundw
                case rel => exact ⟨k + 1, _, by go_num, by omega, by rw [List.length_set]; exact HX.out, (HS.out.put HR.out HA.out HX.out k _).1, (HS.out.put HR.out HA.out HX.out k _).2⟩
                case measure => simp [intOf]; omega
              · have hxr := row_n HA.out HX.out
                have HXR := Aside0.mk hxr
                obtain ⟨want, f2, hw2⟩ : ∃ want f2, (joinB ⟨#[47, 97]⟩ (xs.map tx)) = (want, f2) := ⟨_, _, rfl⟩
                have HJ := Aside0.mk (show place_Join.f ⟨#[47, 97]⟩ xs = some (want, f2) by unfold place_Join.f; rw [if_pos (by have := HX.out; omega), hw2])
                clear hxr hw2
                go_wp2_with ((with_reducible refine gate_builtin (b := .append) (xs := #[.tmp 91, .tmp 92]) rfl ?_); at_builtin; go_loud (refine append_keep rfl _ _ 23 rfl w.heap.size 9 i0 (.string ByteArray.empty) 16 Tryd.underlying23 hi0 hz0 hz1 hz2 rfl _ l.length (encs Value.string xs) rfl (HXR.out.alloc _) ⟨wr.heap.size, 0, none⟩ 2 2 [.string ⟨#[120]⟩, .string ⟨#[121]⟩] rfl rfl (cells_two wr _ _) (by simp [Value.oneCell']) (by unfold maxLen; omega) (by omega) (by have := HS.out.below.size; simp; omega) ?_); intro v4 w9 hown9 hg9 hat9 hkeep9; obtain ⟨A4, c4, rfl⟩ := own_slice hown9; have hst9 := Aside.grow (l' := xs ++ [⟨#[120]⟩, ⟨#[121]⟩]) HS.out HR.out HA.out hg9 hat9 (two_more HX.out hown9); have HS9 := Aside0.mk hst9.1; have HA9 := Aside0.mk hst9.2; have HK9 := Aside0.mk hkeep9; clear hown9 hg9 hat9 hkeep9 hst9)
                refine (add_len (w.heap.size + 1) ul uw rs ts A4 (l.length + 2) c4 (xs ++ [⟨#[120]⟩, ⟨#[121]⟩]) _ w.heap.size (by simp [HX.out]) HS9.out.b HS9.out.below.size HA9.out.row HA9.out.fb (by omega) (by have := HX.out; simp; omega)).mono ?_
                rintro e w10 ⟨rfl, hadd⟩
                obtain ⟨ul2, uw2, cw3, hs10, hm10, hf10⟩ := HS9.out.add_b HR.out hadd HA9.out.fh (by have := HX.out; simp; omega) (60 * r + i + 1) (by omega) (Nat.le_refl _)
                have HS10 := Aside0.mk hs10
                obtain ⟨hc10, hr10⟩ := reads_n (row_moved HK9.out hm10 HA.out.fb) HX.out
                have HR10 := Aside0.mk hr10
                have HC10 := Aside0.mk hc10
                clear hs10 hm10 hf10 hadd HS9 HA9 HK9 hr10 hc10 HS HA
                go_wp2_with fail
                refine (own_join ⟨#[47, 97]⟩ A3 l.length c3 xs want f2 _ HX.out HR10.out HC10.out HJ.out (HE.at_ HS10.out.below).env).mono ?_
                rintro e w11 ⟨rfl, hb11⟩
                have HS11 := Aside0.mk (HS10.out.step hb11)
                clear hb11 HS10 HR10 HC10
                go_wp2_with fail
                go_roundw
                case rel => exact ⟨i + 1, by go_num, by omega, by omega, _, _, _, _, _, _, _, _, HS11.out⟩
                case measure => simp [intOf]; omega
          · go_wp2_with fail
            go_roundw
            case rel => exact ⟨r + 1, by go_num, by omega, _, _, _, _, _, _, _, _, HS.out.mono (by omega)⟩
            case measure => simp [intOf]; omega
        · go_wp2_with fail
          go_roundw
          case rel => exact ⟨r + 1, by go_num, by omega, _, _, _, _, _, _, _, _, HS.out.mono (by omega)⟩
          case measure => simp [intOf]; omega
    · obtain ⟨vl, vw, ul, uw, ps, qs, rs, ts, hs⟩ := HST.out
      have HS := Aside0.mk hs
      have hlen0 := hs.hlen
      have blen0 := hs.blen
      clear hs HST
      go_wp2_with fail
      refine (given_any (w.heap.size + 1) ul uw rs ts _ w.heap.size HS.out.b HS.out.below.size (by omega) (fun p hp => by have := HS.out.bl p hp; omega) HS.out.bsame).mono ?_
      rintro e w2 ⟨rfl, hm2⟩
      have HH := Aside0.mk (HS.out.h.moved hm2 HS.out.apart)
      have HB2 := Aside0.mk (hm2.above HS.out.below HS.out.b.foot_base)
      clear hm2
      go_wp2_with fail
      refine (given_any w.heap.size vl vw ps qs _ w.heap.size HH.out HB2.out.size (by omega) (fun p hp => by have := HS.out.hl p hp; omega) HS.out.hsame).mono ?_
      rintro e w3 ⟨rfl, hm3⟩
      have HB3 := Aside0.mk (hm3.above HB2.out HH.out.foot_base)
      clear hm3
      go_wp2_with (go_at_call 26; (with_reducible refine (heraldlaw1_known.calls 8 true _ HK.out (HE.at_ HB3.out)).mono ?_); rintro e w9 ⟨rfl, hb9⟩; have HBZ := Aside0.mk (below_step HB3.out hb9); clear hb9)
      go_ret
      exact ⟨rfl, HBZ.out⟩
end Go.Proofs.YtfdinkofcjcahaaDoor.Own
