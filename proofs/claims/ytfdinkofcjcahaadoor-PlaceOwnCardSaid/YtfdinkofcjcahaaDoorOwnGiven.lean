/- (*Held).given: each list is as it was; it is written full of marks, and gone on from: all stands. -/
import Derived.Test.YtfdinkofcjcahaaDoorOwnMem
import Derived.Deep.RegionHeld3
import Derived.Deep.QuietTactic
import Derived.BigQuiet
namespace Go.Proofs.YtfdinkofcjcahaaDoor.Own
open Go.RowKit Go.Proofs.YtfdinkofcjcahaaDoor.Ext Go.Proofs.YtfdinkofcjcahaaDoor.PPl Go.Proofs.YtfdinkofcjcahaaDoor.Pl Go.Proofs.YtfdinkofcjcahaaDoor.Ord Go.Proofs.YtfdinkofcjcahaaDoorW.PrintWords Go.Proofs.YtfdinkofcjcahaaDoor.Law

theorem mark_text (W : World) (j k : Nat) (cs : Array Value) (h : cs = #[.int .u8 (97 + (j : Int) % 26), .int .u8 (97 + (j : Int) / 26 % 26), .int .u8 (97 + (j : Int) / 676 % 26), .int .u8 (65 + (k : Int) % 26), .int .u8 (65 + (k : Int) / 26 % 26)]) :
    (convert 45 9 (Value.slice (some { block := W.heap.size, off := 0 }) 5 5)).run Tryd.prog (W.alloc (Obj.cells cs 5)) = .ok (.string (mk j k)) (W.alloc (Obj.cells cs 5)) := by
  subst h
  exact own_string (e' := 5) Tryd.underlying45 Tryd.underlying5 Tryd.underlying9 (own_lit W W.heap.size 5 .u8 [97 + (j : Int) % 26, 97 + (j : Int) / 26 % 26, 97 + (j : Int) / 676 % 26, 65 + (k : Int) % 26, 65 + (k : Int) / 26 % 26] (Nat.le_refl _) (by simp))
set_option maxRecDepth 100000 in
theorem mark_any (x y : Int) (w : World) (hx0 : 0 ≤ x) (hx : x ≤ 1000000) (hy0 : 0 ≤ y) (hy : y ≤ 1000000) :
    Calls Tryd.prog 35 #[.int .i64 x, .int .i64 y] w fun e W => e = .returned (.string (mk x.toNat y.toNat)) ∧ Below w.heap.size w W := by
  obtain ⟨j, rfl⟩ := Int.eq_ofNat_of_zero_le hx0
  obtain ⟨k, rfl⟩ := Int.eq_ofNat_of_zero_le hy0
  rw [Int.toNat_natCast, Int.toNat_natCast]
  have hcv := mark_text w j k _ rfl
  go_enter Tryd.func35, Tryd.ntmps35
  go_wp2
  go_ret
  exact ⟨rfl, below_alloc (Below.refl _ _) _⟩
theorem mark_nat (j k : Nat) (y : Int) (w : World) (hy : y = k) (hj : j ≤ 1000000) (hk : k ≤ 1000000) :
    Calls Tryd.prog 35 #[.int .i64 (j : Int), .int .i64 y] w fun e W => e = .returned (.string (mk j k)) ∧ Below w.heap.size w W := by
  subst hy
  have := mark_any (j : Int) (k : Int) w (by omega) (by omega) (by omega) (by omega)
  rw [Int.toNat_natCast, Int.toNat_natCast] at this
  exact this
theorem texts_quiet {A1 A2 : Option Addr} {c1 c2 : Nat} {l : List ByteArray} {w : World} {n : Nat} (h1 : Kd.string.C w A1 l.length l) (hc1 : l.length ≤ c1) (h2 : Kd.string.C w A2 l.length l) (hc2 : l.length ≤ c2) (hl : l.length ≤ 1000) :
    Calls Tryd.prog 25 #[.slice A1 l.length c1, .slice A2 l.length c2] (w.drewN n) fun e W => e = .returned (.bool true) ∧ ∃ m, W = w.drewN m := by
  refine (heraldlaw1_texts.calls (l.length + 1) A1 c1 l A2 c2 l true (w.drewN n) (Kd.C_below h1 (pw_below_drewN (Below.refl _ _) n)) hc1 (Kd.C_below h2 (pw_below_drewN (Below.refl _ _) n)) hc2 (texts_same l (by omega) _ (by omega))).mono ?_
  rintro e W ⟨rfl, hd⟩
  refine ⟨rfl, ?_⟩
  obtain ⟨m, hm⟩ := hd.out
  exact ⟨n + m, by rw [hm]; simp⟩
theorem frozen_below {w W : World} (h : Below w.heap.size w W) {a : Addr} {v : Value} (hc : w.cell? a = some v) (hf : w.frozen? a = false) : W.frozen? a = false := (h.frozen (World.block_lt_of_cell? w a hc)).trans hf
theorem half_own {W : World} {base hb J k g c : Nat} {vl vw : Value} {ps : List (Value × List ByteArray)} {l : List ByteArray} (hp : ps[J]? = some (.slice (some ⟨g, 0, none⟩) l.length c, l)) (hk : k ≤ l.length) (h : Given W base hb vl vw (half J k ps)) (hkl : k < l.length) : W.cell? ⟨g, k, none⟩ = some (.string (rdOf ByteArray.empty (marks J k ++ l.drop k) (k : Int))) ∧ W.frozen? ⟨g, k, none⟩ = false := by
  obtain ⟨h1, h2⟩ := half_cell hp hk
  have h3 := h.rows.get h1
  have h4 : SRow W base (.slice (some ⟨g, 0, none⟩) l.length c) (marks J k ++ l.drop k) := h3
  have h6 : W.ownsRow base 9 1 (.slice (some ⟨g, 0, none⟩) l.length c) l.length (encs Value.string (marks J k ++ l.drop k)) := by
    have h7 : (marks J k ++ l.drop k).length = l.length := h2
    unfold SRow at h4
    rw [h7] at h4
    exact h4
  have h5 := own_at_of (d := ByteArray.empty) h6 (k : Int) (by omega) (by omega)
  rw [Int.toNat_natCast] at h5
  exact h5
theorem cell_set_ne {W : World} {a p : Addr} {u v : Value} (h : W.cell? a = some v) (hne : a.block ≠ p.block) : (W.setCell p u).cell? a = some v := (World.cell?_of_block (w := W) (Below.heap_setCell W p u a.block hne)).trans h
theorem half_ne {W : World} {base hb J k g c gl n cl : Nat} {vw : Value} {ps : List (Value × List ByteArray)} {l : List ByteArray} (hp : ps[J]? = some (.slice (some ⟨g, 0, none⟩) l.length c, l)) (hk : k ≤ l.length) (h : Given W base hb (.slice (some ⟨gl, 0, none⟩) n cl) vw (half J k ps)) : hb ≠ g ∧ gl ≠ g := by
  have h3 : SRow W base (.slice (some ⟨g, 0, none⟩) l.length c) (marks J k ++ l.drop k) := h.rows.get (half_cell hp hk).1
  refine ⟨fun he => blk_type_ne h.blk h3 (by decide) g (by simp [Value.ownBlock]) he.symm, fun he => ne_types h3 h.ol (by decide) g (by simp [Value.ownBlock]) (by simp [Value.ownBlock, he])⟩
theorem put_half {W : World} {base hb J k g c : Nat} {vl vw : Value} {ps : List (Value × List ByteArray)} {l : List ByteArray} (hp : ps[J]? = some (.slice (some ⟨g, 0, none⟩) l.length c, l)) (hk : k ≤ l.length) (hkl : k < l.length) (h : Given W base hb vl vw (half J k ps)) : Given (W.setCell ⟨g, k, none⟩ (.string (mk J k))) base hb vl vw (half J (k + 1) ps) := by
  obtain ⟨h1, h2⟩ := half_cell hp hk
  have h2' : (marks J k ++ l.drop k).length = l.length := h2
  have h3 := h.put (l := marks J k ++ l.drop k) (c := c) (k := k) (g := g) (j := J) (by rw [h2']; exact h1) (mk J k)
  rw [h2'] at h3
  have h4 := half_put hp hkl
  exact h4 ▸ h3
theorem foot_ms {hb : Nat} {vl vw : Value} {ps qs ms : List (Value × List ByteArray)} {i k : Nat} {p : Value × List ByteArray} (hm : ms.map Prod.fst = ps.map Prod.fst) (hp : ms[i]? = some p) (hk : p.1.ownBlock = some k) : foot hb vl vw (ps ++ qs) k := by
  have h := congrArg (fun l => l[i]?) hm
  simp only [List.getElem?_map, hp, Option.map_some] at h
  obtain ⟨q, hq, he⟩ := Option.map_eq_some_iff.1 h.symm
  exact .inr (.inr (.inr ⟨q, List.mem_append_left _ (List.mem_of_getElem? hq), he ▸ hk⟩))
theorem Grow.at_ {W : World} {base hb : Nat} {vl vw : Value} {ps gs : List (Value × List ByteArray)} (h : Grow W base hb vl vw ps gs) {j : Nat} {p : Value × List ByteArray} (hj : ps[j]? = some p) : ∃ g c, vl = .slice (some ⟨g, 0, none⟩) ps.length c ∧ W.cell? ⟨g, j, none⟩ = some p.1 := by
  obtain ⟨hlt, _⟩ := List.getElem?_eq_some_iff.1 hj
  rcases h.ol.2 with ⟨_, hn⟩ | ⟨g, c, cur, hv, _, hh, _⟩
  · omega
  · refine ⟨g, c, hv, ?_⟩
    have := h.ol.cells (g := g) (by rw [hv]; simp [Value.ownBlock]) j p.1 (by rw [List.getElem?_map, hj]; rfl)
    rwa [add_plain] at this
theorem grow_round {w W W8 W9 : World} {o : Obj} {F : Nat → Prop} {base hb m b4 n4 : Nat} {vl vw v4 g g' : Value} {xs4 : List Value} {ms gs : List (Value × List ByteArray)} {p : Value × List ByteArray} (hG : Grow W base hb vl vw ms gs) (hGo : Going W base ms gs gs.length g (marks gs.length m)) (hp : ms[gs.length]? = some p) (hlen : p.2.length ≤ m) (h4 : W.ownsRow b4 23 1 v4 n4 xs4)
    (hM : Moved w W F) (hF : ∀ k, g.ownBlock = some k → F k ∨ w.heap.size ≤ k) (hb8 : Below W.heap.size W W8) (hown : W9.ownsRow base 9 1 g' (m + 1) (encs Value.string (marks gs.length m) ++ [.string (mk gs.length m)])) (hgr : (W8.alloc o).grownBy W9 g.ownBlock) (hat : g'.ownBlock = g.ownBlock ∨ ∃ b, g'.ownBlock = some b ∧ (W8.alloc o).heap.size ≤ b) (hkeep : W9.ownsRow base 9 1 g m (encs Value.string (marks gs.length m))) :
    Grow W9 base hb vl vw ms gs ∧ Going W9 base ms gs gs.length g' (marks gs.length (m + 1)) ∧ W9.ownsRow b4 23 1 v4 n4 xs4 ∧ Moved w W9 F ∧ ∀ k, g'.ownBlock = some k → F k ∨ w.heap.size ≤ k := by
  have hbo : Below W.heap.size W (W8.alloc o) := below_alloc hb8 o
  have hs := (hG.below hbo).step (hGo.below hbo) hp (by rw [marks_length]; exact hlen) (g' := g') (l' := marks gs.length (m + 1)) (W' := W9) (by
    unfold SRow
    rw [marks_length, marks_succ, encs_append]
    exact hown) hgr hat (by unfold SRow; rw [marks_length]; exact hkeep)
  have hm := Moved.of_grown hgr
  refine ⟨hs.1, hs.2, row_moved (pw_own_below h4 hbo) hm (fun k hk he => ne_types hGo.row h4 (by decide) k he hk), (hM.step hbo).trans hm (fun k hlt he => ?_), fun k hk => ?_⟩
  · rcases hF k he with h | h
    · exact h
    · omega
  · rcases hat with hat | ⟨b, hb', hle⟩
    · exact hF k (hat ▸ hk)
    · rw [hb'] at hk
      injection hk with hk
      have := hM.size
      have := hbo.size
      exact .inr (by omega)
theorem grow_outer {w W W9 : World} {o : Obj} {base hb m : Nat} {vl vw v4 v9 g : Value} {ms gs ps : List (Value × List ByteArray)} {p : Value × List ByteArray} (hG : Grow W base hb vl vw ms gs) (hGo : Going W base ms gs gs.length g (marks gs.length m)) (hC : ∀ (i : Nat) (q : Value × List ByteArray), gs[i]? = some q → ∃ p, ms[i]? = some p ∧ q.2 = marks i (p.2.length + 64)) (hp : ms[gs.length]? = some p) (hlen : m = p.2.length + 64)
    (h4 : W.ownsRow w.heap.size 23 1 v4 gs.length (gs.map Prod.fst)) (hM : Moved w W (foot hb vl vw ps)) (hlt : ∀ k, foot hb vl vw ps k → k < w.heap.size) (hown : W9.ownsRow w.heap.size 23 1 v9 (gs.length + 1) (gs.map Prod.fst ++ [g])) (hgr : (W.alloc o).grownBy W9 v4.ownBlock) :
    Grow W9 base hb vl vw ms (gs ++ [(g, marks gs.length m)]) ∧ W9.ownsRow w.heap.size 23 1 v9 (gs ++ [(g, marks gs.length m)]).length ((gs ++ [(g, marks gs.length m)]).map Prod.fst) ∧ (∀ (i : Nat) (q : Value × List ByteArray), (gs ++ [(g, marks gs.length m)])[i]? = some q → ∃ p, ms[i]? = some p ∧ q.2 = marks i (p.2.length + 64)) ∧ Moved w W9 (foot hb vl vw ps) := by
  have hbo : Below W.heap.size W (W.alloc o) := below_alloc (Below.refl _ W) o
  have hm := Moved.of_grown hgr
  have h4b : ∀ k, v4.ownBlock = some k → w.heap.size ≤ k := fun k hk => own_base h4 k hk
  have hsn := (hG.snoc hGo).below hbo
  have h4o := pw_own_below h4 hbo
  refine ⟨hsn.moved hm (fun he => ?_) (fun k hk he => ?_) (fun p hp k hk he => ?_) (fun p hp k hk he => ?_), by simpa using hown, fun i q hq => ?_, (hM.step hbo).trans hm (fun k hlt' he => ?_)⟩
  · have := h4b hb he
    have := hlt hb (.inl rfl)
    omega
  · have := h4b k he
    have := hlt k (.inr (.inl hk))
    omega
  · obtain ⟨i, hi⟩ := List.getElem?_of_mem hp
    exact ne_types (hsn.rv i p hi) h4o (by decide) k hk he
  · obtain ⟨i, hi⟩ := List.getElem?_of_mem hp
    exact ne_types (hsn.rg i p hi) h4o (by decide) k hk he
  · rcases Nat.lt_or_ge i gs.length with h | h
    · rw [List.getElem?_append_left h] at hq
      exact hC i q hq
    · obtain ⟨hl1, _⟩ := List.getElem?_eq_some_iff.1 hq
      have : i = gs.length := by simp at hl1; omega
      subst this
      rw [List.getElem?_append_right (Nat.le_refl _), Nat.sub_self] at hq
      obtain rfl := Option.some.inj hq
      exact ⟨p, hp, by rw [hlen]⟩
  · have := h4b k he
    omega
theorem Grow.cell_l {W : World} {base hb : Nat} {vl vw : Value} {ps gs : List (Value × List ByteArray)} (h : Grow W base hb vl vw ps gs) : W.cell? ⟨hb, 0, none⟩ = some vl := blk_cell h.blk 0
theorem out_at {W : World} {base : Nat} {v : Value} {gs : List (Value × List ByteArray)} (h : W.ownsRow base 23 1 v gs.length (gs.map Prod.fst)) {j : Nat} {p : Value × List ByteArray} (hj : gs[j]? = some p) : ∃ g c, v = .slice (some ⟨g, 0, none⟩) gs.length c ∧ W.cell? ⟨g, j, none⟩ = some p.1 := by
  obtain ⟨hlt, _⟩ := List.getElem?_eq_some_iff.1 hj
  rcases h.2 with ⟨_, hn⟩ | ⟨g, c, cur, hv, _, hh, _⟩
  · omega
  · refine ⟨g, c, hv, ?_⟩
    have := h.cells (g := g) (by rw [hv]; simp [Value.ownBlock]) j p.1 (by rw [List.getElem?_map, hj]; rfl)
    rwa [add_plain] at this
theorem row_text {W : World} {base g n c j k : Nat} (h : SRow W base (.slice (some ⟨g, 0, none⟩) n c) (marks j n)) (hk : k < n) : W.cell? ⟨g, k, none⟩ = some (.string (mk j k)) := by
  unfold SRow at h
  rw [marks_length] at h
  have h5 := (own_at_of (d := ByteArray.empty) h (k : Int) (by omega) (by omega)).1
  rw [Int.toNat_natCast, marks_at hk] at h5
  exact h5
theorem HeldAt.given {W : World} {base hb : Nat} {vl vw : Value} {ps qs : List (Value × List ByteArray)} (h : HeldAt W base hb vl vw ps qs) : Given W base hb vl vw ps := ⟨h.blk, h.ol, h.rows.left⟩
theorem HeldAt.at_w {W : World} {base hb : Nat} {vl vw : Value} {ps qs : List (Value × List ByteArray)} (h : HeldAt W base hb vl vw ps qs) {j : Nat} {p : Value × List ByteArray} (hj : qs[j]? = some p) : ∃ g c, vw = .slice (some ⟨g, 0, none⟩) qs.length c ∧ W.cell? ⟨g, j, none⟩ = some p.1 := by
  obtain ⟨hlt, _⟩ := List.getElem?_eq_some_iff.1 hj
  rcases h.ow.2 with ⟨_, hn⟩ | ⟨g, c, cur, hv, _, hh, _⟩
  · omega
  · refine ⟨g, c, hv, ?_⟩
    have := h.ow.cells (g := g) (by rw [hv]; simp [Value.ownBlock]) j p.1 (by rw [List.getElem?_map, hj]; rfl)
    rwa [add_plain] at this
theorem HeldAt.row_w {W : World} {base hb : Nat} {vl vw : Value} {ps qs : List (Value × List ByteArray)} (h : HeldAt W base hb vl vw ps qs) {j : Nat} {p : Value × List ByteArray} (hj : qs[j]? = some p) : SRow W base p.1 p.2 := h.rows.1 p (List.mem_append_right _ (List.mem_of_getElem? hj))
theorem same_at {ps qs : List (Value × List ByteArray)} (h : ps.map Prod.snd = qs.map Prod.snd) {j : Nat} {p q : Value × List ByteArray} (hp : ps[j]? = some p) (hq : qs[j]? = some q) : q.2 = p.2 := by
  have := congrArg (fun l => l[j]?) h
  simp only [List.getElem?_map, hp, hq, Option.map_some, Option.some.injEq] at this
  exact this.symm

set_option maxRecDepth 100000 in
set_option maxHeartbeats 4000000 in
theorem given_any (hb : Nat) (vl vw : Value) (ps qs : List (Value × List ByteArray)) (w : World) (base : Nat) (H : HeldAt w base hb vl vw ps qs) (hbs : base ≤ w.heap.size) (hps : ps.length ≤ 1000) (hl : ∀ p ∈ ps, p.2.length ≤ 1000) (hsame : ps.map Prod.snd = qs.map Prod.snd) :
    Calls Tryd.prog 36 #[.pointer (some ⟨hb, 0, none⟩)] w fun e W => e = .returned (.bool true) ∧ Moved w W (foot hb vl vw (ps ++ qs)) := by
  obtain ⟨Al, cl, rfl⟩ := own_slice H.ol
  obtain ⟨Aw, cw, hvw⟩ := own_slice H.ow
  rw [H.len] at hvw
  subst hvw
  have HH := Aside0.mk H
  have HL := Aside0.mk hl
  have HS := Aside0.mk hsame
  obtain ⟨i1, hi1, hy0, hy1, hy2⟩ := info_parts infoL
  obtain ⟨i0, hi0, hz0, hz1, hz2⟩ := info_parts infoS
  clear H hl hsame
  go_enter Tryd.func36, Tryd.ntmps36
  go_wp2_with fail
  go_loopw [3] (fun v3 W => ∃ j : Nat, v3 = .int .i64 j ∧ j ≤ ps.length ∧ Below w.heap.size w W) (fun v3 _ => ps.length - (intOf v3).toNat)
  case atStart => exact ⟨0, rfl, Nat.zero_le _, Below.refl _ _⟩
  case round =>
    obtain ⟨j, rfl, hj, hb0⟩ := hrel
    have HB := Aside0.mk hb0
    have H1 := Aside0.mk (HH.out.moved (Moved.of_below hb0 (fun _ => False)) (fun _ _ hk => hk))
    have hc0 := H1.out.cell_l
    have hc1 := H1.out.cell_w
    clear hb0
    by_cases hlt : j < ps.length
    · obtain ⟨p, hp⟩ : ∃ p, ps[j]? = some p := ⟨_, List.getElem?_eq_getElem hlt⟩
      obtain ⟨q, hq⟩ : ∃ q, qs[j]? = some q := ⟨_, List.getElem?_eq_getElem (by have := HH.out.len; omega)⟩
      have hqp := same_at HS.out hp hq
      obtain ⟨gl, c', he, hx⟩ := H1.out.given.at_ hp
      injection he with he _ he2
      subst he he2
      obtain ⟨gw, c', he, hx2⟩ := H1.out.at_w hq
      injection he with he _ he2
      subst he he2
      obtain ⟨v, l⟩ := p
      obtain ⟨v2, l2⟩ := q
      obtain rfl : l2 = l := hqp
      obtain ⟨A1, c1, rfl, hlc1, hr1⟩ := SRow.reads (show SRow wr base v l2 from H1.out.given.rows.get hp)
      obtain ⟨A2, c2, rfl, hlc2, hr2⟩ := SRow.reads (show SRow wr base v2 l2 from H1.out.row_w hq)
      have HR1 := Aside0.mk hr1
      have HR2 := Aside0.mk hr2
      have hll : l2.length ≤ 1000 := HL.out _ (List.mem_of_getElem? hp)
      have hj0 : (0 : Int) ≤ (j : Int) := by omega
      have hj1 : (j : Int) < (ps.length : Int) := by omega
      clear hp hq hr1 hr2
      go_wp2_with fail
      go_quiet ((go_at_call 25; exact texts_quiet HR1.out hlc1 HR2.out hlc2 hll))
      go_wp2_with fail
      go_roundw
      case rel => exact ⟨j + 1, by go_num, by omega, pw_below_drewN HB.out _⟩
      case measure => simp [intOf]; omega
    · have hG := H1.out.given
      have HG := Aside0.mk (show Given wr base hb (.slice Al ps.length cl) (.slice Aw ps.length cw) (half 0 0 ps) by rw [half_zero]; exact hG)
      have HM := Aside0.mk (Moved.of_below HB.out (foot hb (.slice Al ps.length cl) (.slice Aw ps.length cw) (ps ++ qs)))
      have HLT := Aside0.mk (fun k hk => HH.out.foot_lt k hk)
      clear hG hc1
      go_wp2_with fail
      clear HB H1 hc0
      go_loopw [5] (fun v5 W => ∃ J : Nat, v5 = .int .i64 J ∧ J ≤ ps.length ∧ Given W base hb (.slice Al ps.length cl) (.slice Aw ps.length cw) (half J 0 ps) ∧ Moved w W (foot hb (.slice Al ps.length cl) (.slice Aw ps.length cw) (ps ++ qs))) (fun v5 _ => ps.length - (intOf v5).toNat)
      case atStart => exact ⟨0, rfl, Nat.zero_le _, HG.out, HM.out⟩
      case round =>
        clear HG HM
        obtain ⟨J, rfl, hJ, hG, hM⟩ := hrel
        have HG := Aside0.mk hG
        have HM := Aside0.mk hM
        have hc0 := blk_cell hG.blk 0
        clear hG hM
        by_cases hJl : J < ps.length
        · obtain ⟨p, hp⟩ : ∃ p, ps[J]? = some p := ⟨_, List.getElem?_eq_getElem hJl⟩
          obtain ⟨v, l⟩ := p
          obtain ⟨A1, c1, hv1, hA1⟩ := SRow.form (show SRow w base v l from HH.out.given.rows.get hp)
          subst hv1
          have hll : l.length ≤ 1000 := HL.out _ (List.mem_of_getElem? hp)
          have HP := Aside0.mk hp
          have HA1 := Aside0.mk hA1
          clear hp hA1
          go_wp2_with fail
          clear hc0
          go_loopw [6] (fun v6 W => ∃ k : Nat, v6 = .int .i64 k ∧ k ≤ l.length ∧ Given W base hb (.slice Al ps.length cl) (.slice Aw ps.length cw) (half J k ps) ∧ Moved w W (foot hb (.slice Al ps.length cl) (.slice Aw ps.length cw) (ps ++ qs))) (fun v6 _ => l.length - (intOf v6).toNat)
          case atStart => exact ⟨0, rfl, Nat.zero_le _, HG.out, HM.out⟩
          case round =>
            clear HG HM
            obtain ⟨k, rfl, hk, hG, hM⟩ := hrel
            have HG := Aside0.mk hG
            have HM := Aside0.mk hM
            have hc0 := blk_cell hG.blk 0
            obtain ⟨gl, c', he, hx⟩ := hG.at_ (half_cell HP.out hk).1
            rw [half_length] at he
            injection he with he _ he2
            subst he he2
            clear hG hM
            have hJ0 : (0 : Int) ≤ (J : Int) := by omega
            have hJ1 : (J : Int) < (ps.length : Int) := by omega
            by_cases hkl : k < l.length
            · obtain ⟨g, rfl⟩ := HA1.out (by omega)
              have hk0 : (0 : Int) ≤ (k : Int) := by omega
              have hk1 : (k : Int) < (l.length : Int) := by omega
              have hx' : wr.cell? ⟨gl, J, none⟩ = some (.slice (some ⟨g, 0, none⟩) l.length c1) := hx
              obtain ⟨x0, hx0⟩ : ∃ x0, wr.cell? ⟨g, k, none⟩ = some (.string x0) := ⟨_, (half_own HP.out hk HG.out hkl).1⟩
              have hz0' := (half_own HP.out hk HG.out hkl).2
              obtain ⟨hne1, hne2⟩ := half_ne HP.out hk HG.out
              clear hx
              go_wp2_with fail
              go_region_held3 (fun W' => W'.cell? ⟨hb, 0, none⟩ = some (.slice (some ⟨gl, 0, none⟩) ps.length cl) ∧ W'.cell? ⟨gl, J, none⟩ = some (.slice (some ⟨g, 0, none⟩) l.length c1)) (first | exact ⟨pw_cell_below (w := wr.drew) hb8 hc0, pw_cell_below (w := wr.drew) hb8 hx'⟩ | exact ⟨cell_set_ne (pw_cell_below (w := wr.drew) hb8 hc0) hne1, cell_set_ne (pw_cell_below (w := wr.drew) hb8 hx') hne2⟩ | go_keep) (first | (go_at_call 35; refine (mark_any _ _ _ (by omega) (by omega) (by omega) (by omega)).mono ?_; rintro e w8 ⟨rfl, hb8⟩; have hx8 := pw_cell_below hb8 hx0; have hz8 := frozen_below hb8 hx0 hz0'))
              have HB9 := Aside0.mk (below_step (below_drew (Below.refl wr.heap.size wr)) hb8)
              clear hb8 hx8 hz8 hx0 hz0' hx' hc0 hne1 hne2
              go_wp2_with fail
              go_roundw
              case rel => exact ⟨k + 1, by go_num, by omega, put_half HP.out hk hkl (HG.out.below HB9.out), (HM.out.step HB9.out).set_ (.inl (.inr (.inr (.inr ⟨_, List.mem_append_left _ (List.mem_of_getElem? HP.out), by simp [Value.ownBlock]⟩)))) _⟩
              case measure => simp [intOf]; omega
            · have hk2 : l.length ≤ k := by omega
              have HG2 := Aside0.mk (half_next HP.out hk2 hk ▸ HG.out)
              have hx' : wr.cell? ⟨gl, J, none⟩ = some (.slice A1 l.length c1) := hx
              clear hx
              go_wp2_with fail
              go_roundw
              case rel => exact ⟨J + 1, by go_num, by omega, HG2.out, HM.out⟩
              case measure => simp [intOf]; omega
        · obtain rfl : J = ps.length := by omega
          have HB3 := Aside0.mk (Grow.start HG.out)
          have hfst : (half ps.length 0 ps).map Prod.fst = ps.map Prod.fst := half_fst ps.length 0 ps
          have HPS := Aside0.mk (fun (i : Nat) (p : Value × List ByteArray) (h : (half ps.length 0 ps)[i]? = some p) => half_all (Nat.le_refl _) h)
          obtain ⟨ms, hms⟩ : ∃ ms, ms = half ps.length 0 ps := ⟨_, rfl⟩
          rw [← hms] at HB3 HPS hfst
          have hml : ms.length = ps.length := by rw [hms, half_length]
          have HML := Aside0.mk hml
          have HMF := Aside0.mk hfst
          clear hfst hms hml HG
          go_wp2_with fail
          clear hc0
          go_loopw [4, 7] (fun v4 v7 W => ∃ gs : List (Value × List ByteArray), v7 = .int .i64 gs.length ∧ gs.length ≤ ps.length ∧ Grow W base hb (.slice Al ps.length cl) (.slice Aw ps.length cw) ms gs ∧ W.ownsRow w.heap.size 23 1 v4 gs.length (gs.map Prod.fst) ∧ (∀ i q, gs[i]? = some q → ∃ p, ms[i]? = some p ∧ q.2 = marks i (p.2.length + 64)) ∧ Moved w W (foot hb (.slice Al ps.length cl) (.slice Aw ps.length cw) (ps ++ qs))) (fun _ v7 _ => ps.length - (intOf v7).toNat)
          case atStart => exact ⟨[], rfl, Nat.zero_le _, HB3.out, own_nil _ _ _ _, fun _ _ h => by simp at h, HM.out⟩
          case round =>
            clear HB3 HM
            obtain ⟨gs, rfl, hgl, hG, hO, hC, hM⟩ := hrel
            have HG := Aside0.mk hG
            have HO := Aside0.mk hO
            have HC := Aside0.mk hC
            have HM := Aside0.mk hM
            have hc0 := blk_cell hG.blk 0
            obtain ⟨A4, c4, rfl⟩ := own_slice hO
            clear hG hO hC hM
            by_cases hlt3 : gs.length < ps.length
            · obtain ⟨p, hp⟩ : ∃ p, ms[gs.length]? = some p := ⟨_, List.getElem?_eq_getElem (by have := HML.out; omega)⟩
              obtain ⟨v, l⟩ := p
              obtain ⟨n, hln, q0, hq0, _, hqn⟩ := HPS.out _ _ hp
              obtain ⟨A1, c1, hv1⟩ := own_slice (show SRow wr base v l from HG.out.rv _ _ hp)
              have hn : n ≤ 1000 := by have := HL.out _ (List.mem_of_getElem? hq0); omega
              obtain rfl : l = marks gs.length n := hln
              rw [marks_length] at hv1
              subst hv1
              obtain ⟨gl, c', he, hx⟩ := HG.out.at_ hp
              injection he with he hm_ he2
              clear hm_
              subst he he2
              have hx' : wr.cell? ⟨gl, gs.length, none⟩ = some (.slice A1 n c1) := hx
              have HGO := Aside0.mk (Going.start HG.out hp)
              have HP := Aside0.mk hp
              have HIF := Aside0.mk (show ∀ k, (Value.slice A1 n c1).ownBlock = some k → foot hb (.slice (some ⟨gl, 0, none⟩) ps.length cl) (.slice Aw ps.length cw) (ps ++ qs) k ∨ w.heap.size ≤ k from fun k hk => .inl (foot_ms HMF.out hp hk))
              have hJ0 : (0 : Int) ≤ (gs.length : Int) := by omega
              have hJ1 : (gs.length : Int) < (ps.length : Int) := by omega
              clear hx hp hq0 hqn
              go_wp2_with fail
              clear hc0 hx'
              go_loopw [8, 9] (fun v8 v9 W => ∃ k : Nat, v9 = .int .i64 k ∧ k ≤ 64 ∧ Grow W base hb (.slice (some ⟨gl, 0, none⟩) ps.length cl) (.slice Aw ps.length cw) ms gs ∧ Going W base ms gs gs.length v8 (marks gs.length (n + k)) ∧ W.ownsRow w.heap.size 23 1 (.slice A4 gs.length c4) gs.length (gs.map Prod.fst) ∧ Moved w W (foot hb (.slice (some ⟨gl, 0, none⟩) ps.length cl) (.slice Aw ps.length cw) (ps ++ qs)) ∧ ∀ k', v8.ownBlock = some k' → foot hb (.slice (some ⟨gl, 0, none⟩) ps.length cl) (.slice Aw ps.length cw) (ps ++ qs) k' ∨ w.heap.size ≤ k') (fun _ v9 _ => 64 - (intOf v9).toNat)
              case atStart => exact ⟨0, rfl, by omega, HG.out, HGO.out, HO.out, HM.out, HIF.out⟩
              case round =>
                clear HG HGO HO HM HIF
                obtain ⟨k, rfl, hk, hG, hGo, hO, hM, hIF⟩ := hrel
                have HG := Aside0.mk hG
                have HO := Aside0.mk hO
                have HM := Aside0.mk hM
                have HIF := Aside0.mk hIF
                obtain ⟨A8, c8, hv8⟩ := own_slice hGo.row
                rw [marks_length] at hv8
                subst hv8
                have HGO := Aside0.mk hGo
                have hrw := hGo.row
                unfold SRow at hrw
                rw [marks_length] at hrw
                have HRW := Aside0.mk hrw
                clear hG hO hM hIF hGo hrw
                by_cases hk64 : k < 64
                · go_wp2_with (first
                    | (go_at_call 35; (with_reducible refine (mark_nat gs.length (n + k) _ _ (by omega) (by omega) (by omega)).mono ?_); rintro e w8 ⟨rfl, hb8⟩; have HB8 := Aside0.mk hb8; have HR8 := Aside0.mk (pw_own_below HRW.out hb8); have hs8 := hb8.size; clear hb8)
                    | ((with_reducible refine gate_builtin (b := .append) (xs := #[.tmp 90, .tmp 95]) rfl ?_); at_builtin; refine append_keep rfl _ _ 23 rfl base 9 i0 (.string ByteArray.empty) 16 Tryd.underlying23 hi0 hz0 hz1 hz2 rfl _ (n + k) (encs Value.string (marks gs.length (n + k))) rfl (HR8.out.alloc _) ⟨w8.heap.size, 0, none⟩ 1 1 [.string (mk gs.length (n + k))] rfl rfl (cell_one_new _ _ _) (by simp [Value.oneCell']) (by unfold maxLen; omega) (by omega) ?aB ?_; (case aB => have h1_ := HM.out.size; simp; omega); intro v9 w9 hown9 hg9 hat9 hkeep9; have HX := Aside0.mk (grow_round HG.out HGO.out HP.out (by simp) HO.out HM.out HIF.out HB8.out hown9 hg9 hat9 hkeep9); obtain ⟨A9, c9, rfl⟩ := own_slice hown9; clear hown9 hg9 hat9 hkeep9))
                  go_roundw
                  case rel => exact ⟨k + 1, by go_num, by omega, HX.out⟩
                  case measure => simp [intOf]; omega
                · have hk2 : k = 64 := by omega
                  subst hk2
                  go_wp2_with ((with_reducible refine gate_builtin (b := .append) (xs := #[.tmp 97, .tmp 99]) rfl ?_); at_builtin; refine wpList_append_own_at _ rfl _ _ 48 rfl w.heap.size 23 i1 (.slice none 0 0) 1 24 Tryd.underlying48 hi1 hy0 hy1 hy2 rfl (by decide) _ _ _ rfl (HO.out.alloc _) ⟨wr.heap.size, 0, none⟩ 1 1 [.slice A8 (n + 64) c8] rfl rfl (cell_one_new _ _ _) (by simp [Value.oneCell']) (by unfold maxLen; omega) (by omega) ?aB ?_; (case aB => have h1_ := HM.out.size; simp; omega); intro v9 w9 hown9 hg9 n_ hat9; have HX := Aside0.mk (grow_outer HG.out HGO.out HC.out HP.out (by simp) HO.out HM.out HLT.out hown9 hg9); obtain ⟨A9, c9, rfl⟩ := own_slice hown9; clear hown9 hg9 n_ hat9)
                  go_roundw
                  case rel => exact ⟨gs ++ [(Value.slice A8 (n + 64) c8, marks gs.length (n + 64))], by simp, by simp; omega, HX.out⟩
                  case measure => simp [intOf]; omega
            · have HGL := Aside0.mk (show gs.length = ps.length by omega)
              obtain ⟨wo, rfl⟩ : ∃ wo : World, wo = wr := ⟨_, rfl⟩
              go_wp2_with fail
              clear hc0 hlt3
              go_loopw [10] (fun v10 W => ∃ j : Nat, v10 = .int .i64 j ∧ j ≤ gs.length ∧ Below wo.heap.size wo W) (fun v10 _ => gs.length - (intOf v10).toNat)
              case atStart => exact ⟨0, rfl, Nat.zero_le _, Below.refl _ _⟩
              case round =>
                obtain ⟨j, rfl, hj, hb0⟩ := hrel
                have HB := Aside0.mk hb0
                clear hb0
                by_cases hjl : j < gs.length
                · obtain ⟨q, hq⟩ : ∃ q, gs[j]? = some q := ⟨_, List.getElem?_eq_getElem hjl⟩
                  obtain ⟨p, hp, hqm⟩ := HC.out j q hq
                  obtain ⟨n, hln, q0, hq0, _, hqn⟩ := HPS.out _ _ hp
                  obtain ⟨v5, l5⟩ := q
                  obtain ⟨v1, l1⟩ := p
                  have hn : n ≤ 1000 := by have := HL.out _ (List.mem_of_getElem? hq0); omega
                  obtain rfl : l1 = marks j n := hln
                  obtain rfl : l5 = marks j (n + 64) := by rw [show l5 = marks j ((marks j n).length + 64) from hqm, marks_length]
                  have h5 : SRow wo base v5 (marks j (n + 64)) := HG.out.rg _ _ hq
                  have h1 : SRow wo base v1 (marks j n) := HG.out.rv _ _ hp
                  obtain ⟨A5, c5, hv5, hA5⟩ := SRow.form h5
                  obtain ⟨A1, c1, hv1, hA1⟩ := SRow.form h1
                  rw [marks_length] at hv5 hv1 hA5 hA1
                  subst hv5 hv1
                  obtain ⟨g5, rfl⟩ := hA5 (by omega)
                  obtain ⟨g4, c', he, hx4⟩ := out_at HO.out hq
                  injection he with he hm_ he2
                  clear hm_
                  subst he he2
                  obtain ⟨gl, c', he, hxl⟩ := HG.out.at_ hp
                  injection he with he hm_ he2
                  clear hm_
                  subst he he2
                  have HX4 := Aside0.mk (show wo.cell? ⟨g4, j, none⟩ = some (.slice (some ⟨g5, 0, none⟩) (n + 64) c5) from hx4)
                  have HXL := Aside0.mk (show wo.cell? ⟨gl, j, none⟩ = some (.slice A1 n c1) from hxl)
                  have H5 := Aside0.mk h5
                  have H1 := Aside0.mk h1
                  have HA1 := Aside0.mk hA1
                  have hj0 : (0 : Int) ≤ (j : Int) := by omega
                  have hj1 : (j : Int) < (gs.length : Int) := by omega
                  have hj2 : (j : Int) < (ps.length : Int) := by have := HGL.out; omega
                  clear hq hp hq0 hqn hqm hA5 hA1 h5 h1 hx4 hxl
                  go_wp2_with fail
                  go_loopw [11] (fun v11 W => ∃ k : Nat, v11 = .int .i64 k ∧ k ≤ n + 64 ∧ Below wo.heap.size wo W) (fun v11 _ => n + 64 - (intOf v11).toNat)
                  case atStart => exact ⟨0, rfl, Nat.zero_le _, HB.out⟩
                  case round =>
                    clear HB
                    obtain ⟨k, rfl, hk, hb0⟩ := hrel
                    have HB := Aside0.mk hb0
                    have hA := pw_cell_below hb0 HX4.out
                    clear hb0
                    by_cases hkl : k < n + 64
                    · have hB := pw_cell_below HB.out (row_text H5.out hkl)
                      have hC := pw_cell_below HB.out (HG.out.cell_l)
                      have hD := pw_cell_below HB.out HXL.out
                      have hk0 : (0 : Int) ≤ (k : Int) := by omega
                      have hk1 : (k : Int) < (n : Int) + 64 := by omega
                      have HBZ := Aside0.mk (below_drew (Below.refl wr.heap.size wr))
                      by_cases hkn : k < n
                      · obtain ⟨g1, rfl⟩ := HA1.out (by omega)
                        have hE := pw_cell_below HB.out (row_text H1.out hkn)
                        have hk2 : (k : Int) < (n : Int) := by omega
                        go_wp2_with fail
                        go_region_held3 (fun W' => W'.cell? ⟨g4, j, none⟩ = some (.slice (some ⟨g5, 0, none⟩) (n + 64) c5) ∧ W'.cell? ⟨g5, k, none⟩ = some (.string (mk j k)) ∧ W'.cell? ⟨hb, 0, none⟩ = some (.slice (some ⟨gl, 0, none⟩) ps.length cl) ∧ W'.cell? ⟨gl, j, none⟩ = some (.slice (some ⟨g1, 0, none⟩) n c1) ∧ W'.cell? ⟨g1, k, none⟩ = some (.string (mk j k))) (exact ⟨hA, hB, hC, hD, hE⟩) (first | (go_at_call 35; refine (mark_nat j k _ _ rfl (by omega) (by omega)).mono ?_; rintro e w8 ⟨rfl, hb8⟩; have HBZ := Aside0.mk (below_step HBZ.out hb8); have hA := pw_cell_below hb8 hA; have hB := pw_cell_below hb8 hB; have hC := pw_cell_below hb8 hC; have hD := pw_cell_below hb8 hD; have hE := pw_cell_below hb8 hE))
                        go_wp2_with fail
                        go_roundw
                        case rel => exact ⟨k + 1, by go_num, by omega, below_step HB.out HBZ.out⟩
                        case measure => simp [intOf]; omega
                      · have hk3 : decide (k < n) = false := by simp; omega
                        go_wp2_with fail
                        refine wp_region_held_drew (S := fun W' => W'.cell? ⟨g4, j, none⟩ = some (.slice (some ⟨g5, 0, none⟩) (n + 64) c5) ∧ W'.cell? ⟨g5, k, none⟩ = some (.string (mk j k)) ∧ W'.cell? ⟨hb, 0, none⟩ = some (.slice (some ⟨gl, 0, none⟩) ps.length cl) ∧ W'.cell? ⟨gl, j, none⟩ = some (.slice A1 n c1)) (by kernel_rfl) ?_ (fun hHeld => ?_)
                        · exact ⟨hA, hB, hC, hD⟩
                        refine wpAnyH_take (i := 0) (oi := { dst := some 116, op := Go.Op.move (Go.Operand.tmp 4), type := 48, pos := "outright.go:195", after := #[], guard := none }) (v := ?_) rfl (by kernel_rfl) (by kernel_rfl) (by kernel_rfl) (fun _ _ _ h => h) (Or.inl ⟨by rfl, ?_⟩) (by assumption) ?_
                        rotate_left
                        · (intro w hSw; (try dsimp only at hSw); go_simp; try with_reducible rfl)
                        try simp only [Act.put, List.setIfInBounds_toArray, List.set_cons_zero, List.set_cons_succ]
                        refine wpAnyH_take (i := 1) (oi := { dst := some 117, op := Go.Op.move (Go.Operand.tmp 10), type := 3, pos := "outright.go:195", after := #[], guard := none }) (v := ?_) rfl (by kernel_rfl) (by kernel_rfl) (by kernel_rfl) (fun _ _ _ h => h) (Or.inl ⟨by rfl, ?_⟩) (by assumption) ?_
                        rotate_left
                        · (intro w hSw; (try dsimp only at hSw); go_simp; try with_reducible rfl)
                        try simp only [Act.put, List.setIfInBounds_toArray, List.set_cons_zero, List.set_cons_succ]
                        refine wpAnyH_take (i := 2) (oi := { dst := some 118, op := Go.Op.indexAddr 48 (Go.Operand.tmp 116) (Go.Operand.tmp 117), type := 0, pos := "outright.go:195", after := #[{ on := 0, ground := Go.Ground.data }, { on := 1, ground := Go.Ground.data }], guard := none }) (v := ?_) rfl (by kernel_rfl) (by kernel_rfl) (by kernel_rfl) (fun _ _ _ h => h) (Or.inl ⟨by rfl, ?_⟩) (by assumption) ?_
                        rotate_left
                        · (intro w hSw; (try dsimp only at hSw); go_simp; try with_reducible rfl)
                        try simp only [Act.put, List.setIfInBounds_toArray, List.set_cons_zero, List.set_cons_succ]
                        refine wpAnyH_take (i := 3) (oi := { dst := some 119, op := Go.Op.load 23 (Go.Operand.tmp 118), type := 23, pos := "outright.go:195", after := #[{ on := 2, ground := Go.Ground.data }], guard := none }) (v := ?_) rfl (by kernel_rfl) (by kernel_rfl) (by kernel_rfl) (fun _ _ _ h => h) (Or.inl ⟨by rfl, ?_⟩) (by assumption) ?_
                        rotate_left
                        · (intro w hSw; (try dsimp only at hSw); go_simp; try with_reducible rfl)
                        try simp only [Act.put, List.setIfInBounds_toArray, List.set_cons_zero, List.set_cons_succ]
                        refine wpAnyH_take (i := 4) (oi := { dst := some 120, op := Go.Op.move (Go.Operand.tmp 11), type := 3, pos := "outright.go:195", after := #[], guard := none }) (v := ?_) rfl (by kernel_rfl) (by kernel_rfl) (by kernel_rfl) (fun _ _ _ h => h) (Or.inl ⟨by rfl, ?_⟩) (by assumption) ?_
                        rotate_left
                        · (intro w hSw; (try dsimp only at hSw); go_simp; try with_reducible rfl)
                        try simp only [Act.put, List.setIfInBounds_toArray, List.set_cons_zero, List.set_cons_succ]
                        refine wpAnyH_take (i := 5) (oi := { dst := some 121, op := Go.Op.indexAddr 23 (Go.Operand.tmp 119) (Go.Operand.tmp 120), type := 0, pos := "outright.go:195", after := #[{ on := 3, ground := Go.Ground.data }, { on := 4, ground := Go.Ground.data }], guard := none }) (v := ?_) rfl (by kernel_rfl) (by kernel_rfl) (by kernel_rfl) (fun _ _ _ h => h) (Or.inl ⟨by rfl, ?_⟩) (by assumption) ?_
                        rotate_left
                        · (intro w hSw; (try dsimp only at hSw); go_simp; try with_reducible rfl)
                        try simp only [Act.put, List.setIfInBounds_toArray, List.set_cons_zero, List.set_cons_succ]
                        refine wpAnyH_take (i := 6) (oi := { dst := some 122, op := Go.Op.load 9 (Go.Operand.tmp 121), type := 9, pos := "outright.go:195", after := #[{ on := 5, ground := Go.Ground.data }], guard := none }) (v := ?_) rfl (by kernel_rfl) (by kernel_rfl) (by kernel_rfl) (fun _ _ _ h => h) (Or.inl ⟨by rfl, ?_⟩) (by assumption) ?_
                        rotate_left
                        · (intro w hSw; (try dsimp only at hSw); go_simp; try with_reducible rfl)
                        try simp only [Act.put, List.setIfInBounds_toArray, List.set_cons_zero, List.set_cons_succ]
                        refine wpAnyH_take (i := 7) (oi := { dst := some 123, op := Go.Op.move (Go.Operand.tmp 10), type := 3, pos := "outright.go:195", after := #[], guard := none }) (v := ?_) rfl (by kernel_rfl) (by kernel_rfl) (by kernel_rfl) (fun _ _ _ h => h) (Or.inl ⟨by rfl, ?_⟩) (by assumption) ?_
                        rotate_left
                        · (intro w hSw; (try dsimp only at hSw); go_simp; try with_reducible rfl)
                        try simp only [Act.put, List.setIfInBounds_toArray, List.set_cons_zero, List.set_cons_succ]
                        refine wpAnyH_take (i := 8) (oi := { dst := some 124, op := Go.Op.move (Go.Operand.tmp 11), type := 3, pos := "outright.go:195", after := #[], guard := none }) (v := ?_) rfl (by kernel_rfl) (by kernel_rfl) (by kernel_rfl) (fun _ _ _ h => h) (Or.inl ⟨by rfl, ?_⟩) (by assumption) ?_
                        rotate_left
                        · (intro w hSw; (try dsimp only at hSw); go_simp; try with_reducible rfl)
                        try simp only [Act.put, List.setIfInBounds_toArray, List.set_cons_zero, List.set_cons_succ]
                        refine wpAnyH_ready (rs := [9]) (by kernel_rfl) (by simp) ?_
                        refine AllReadyH.cons (o := { dst := some 125, op := Go.Op.call { callee := Go.Callee.value (Go.Operand.func 35), args := #[Go.Operand.tmp 123, Go.Operand.tmp 124], argTypes := #[3, 3] }, type := 9, pos := "outright.go:195", after := #[{ on := 7, ground := Go.Ground.data }, { on := 8, ground := Go.Ground.data }], guard := none }) rfl (fun K hK => ?_) ?_
                        rotate_left
                        · exact AllReadyH.nil
                        go_simp
                        (go_at_call 35; refine (mark_nat j k _ _ rfl (by omega) (by omega)).mono ?_; rintro e w8 ⟨rfl, hb8⟩; have HBZ := Aside0.mk (below_step HBZ.out hb8); have hA := pw_cell_below hb8 hA; have hB := pw_cell_below hb8 hB; have hC := pw_cell_below hb8 hC; have hD := pw_cell_below hb8 hD)
                        refine hK.out _ _ ?_ (fun hHeld => ?_)
                        · exact ⟨hA, hB, hC, hD⟩
                        clear hK K
                        try simp only [Act.put, List.setIfInBounds_toArray, List.set_cons_zero, List.set_cons_succ]
                        refine wpAnyH_take (i := 10) (oi := { dst := some 126, op := Go.Op.binOp Go.BinOp.neq 9 (Go.Operand.tmp 122) (Go.Operand.tmp 125) 9, type := 4, pos := "outright.go:195", after := #[{ on := 6, ground := Go.Ground.data }, { on := 9, ground := Go.Ground.data }], guard := none }) (v := ?_) rfl (by kernel_rfl) (by kernel_rfl) (by kernel_rfl) (fun _ _ _ h => h) (Or.inl ⟨by rfl, ?_⟩) (by assumption) ?_
                        rotate_left
                        · (intro w hSw; (try dsimp only at hSw); go_simp; try with_reducible rfl)
                        try simp only [Act.put, List.setIfInBounds_toArray, List.set_cons_zero, List.set_cons_succ]
                        refine wpAnyH_take (i := 11) (oi := { dst := some 127, op := Go.Op.move (Go.Operand.tmp 126), type := 4, pos := "outright.go:195", after := #[{ on := 10, ground := Go.Ground.data }, { on := 9, ground := Go.Ground.chain }], guard := none }) (v := ?_) rfl (by kernel_rfl) (by kernel_rfl) (by kernel_rfl) (fun _ _ _ h => h) (Or.inl ⟨by rfl, ?_⟩) (by assumption) ?_
                        rotate_left
                        · (intro w hSw; (try dsimp only at hSw); go_simp; try with_reducible rfl)
                        try simp only [Act.put, List.setIfInBounds_toArray, List.set_cons_zero, List.set_cons_succ]
                        refine wpAnyH_take (i := 12) (oi := { dst := some 128, op := Go.Op.move (Go.Operand.tmp 11), type := 3, pos := "outright.go:195", after := #[{ on := 11, ground := Go.Ground.guard }], guard := some (11, false) }) (v := ?_) rfl (by kernel_rfl) (by kernel_rfl) (by kernel_rfl) (fun _ _ _ h => h) (Or.inl ⟨by rfl, ?_⟩) (by assumption) ?_
                        rotate_left
                        · (intro w hSw; (try dsimp only at hSw); go_simp; try with_reducible rfl)
                        try simp only [Act.put, List.setIfInBounds_toArray, List.set_cons_zero, List.set_cons_succ]
                        refine wpAnyH_take (i := 13) (oi := { dst := some 129, op := Go.Op.move (Go.Operand.tmp 0), type := 47, pos := "outright.go:195", after := #[{ on := 11, ground := Go.Ground.guard }], guard := some (11, false) }) (v := ?_) rfl (by kernel_rfl) (by kernel_rfl) (by kernel_rfl) (fun _ _ _ h => h) (Or.inl ⟨by rfl, ?_⟩) (by assumption) ?_
                        rotate_left
                        · (intro w hSw; (try dsimp only at hSw); go_simp; try with_reducible rfl)
                        try simp only [Act.put, List.setIfInBounds_toArray, List.set_cons_zero, List.set_cons_succ]
                        refine wpAnyH_take (i := 14) (oi := { dst := some 130, op := Go.Op.nilCheck (Go.Operand.tmp 129), type := 0, pos := "outright.go:195", after := #[{ on := 13, ground := Go.Ground.data }, { on := 11, ground := Go.Ground.guard }], guard := some (11, false) }) (v := ?_) rfl (by kernel_rfl) (by kernel_rfl) (by kernel_rfl) (fun _ _ _ h => h) (Or.inl ⟨by rfl, ?_⟩) (by assumption) ?_
                        rotate_left
                        · (intro w hSw; (try dsimp only at hSw); go_simp; try with_reducible rfl)
                        try simp only [Act.put, List.setIfInBounds_toArray, List.set_cons_zero, List.set_cons_succ]
                        refine wpAnyH_take (i := 15) (oi := { dst := some 131, op := Go.Op.fieldAddr 50 (Go.Operand.tmp 130) 0, type := 0, pos := "outright.go:195", after := #[{ on := 14, ground := Go.Ground.data }, { on := 11, ground := Go.Ground.guard }], guard := some (11, false) }) (v := ?_) rfl (by kernel_rfl) (by kernel_rfl) (by kernel_rfl) (fun _ _ _ h => h) (Or.inl ⟨by rfl, ?_⟩) (by assumption) ?_
                        rotate_left
                        · (intro w hSw; (try dsimp only at hSw); go_simp; try with_reducible rfl)
                        try simp only [Act.put, List.setIfInBounds_toArray, List.set_cons_zero, List.set_cons_succ]
                        refine wpAnyH_take (i := 16) (oi := { dst := some 132, op := Go.Op.load 48 (Go.Operand.tmp 131), type := 48, pos := "outright.go:195", after := #[{ on := 15, ground := Go.Ground.data }, { on := 11, ground := Go.Ground.guard }], guard := some (11, false) }) (v := ?_) rfl (by kernel_rfl) (by kernel_rfl) (by kernel_rfl) (fun _ _ _ h => h) (Or.inl ⟨by rfl, ?_⟩) (by assumption) ?_
                        rotate_left
                        · (intro w hSw; (try dsimp only at hSw); go_simp; try with_reducible rfl)
                        try simp only [Act.put, List.setIfInBounds_toArray, List.set_cons_zero, List.set_cons_succ]
                        refine wpAnyH_take (i := 17) (oi := { dst := some 133, op := Go.Op.move (Go.Operand.tmp 10), type := 3, pos := "outright.go:195", after := #[{ on := 11, ground := Go.Ground.guard }], guard := some (11, false) }) (v := ?_) rfl (by kernel_rfl) (by kernel_rfl) (by kernel_rfl) (fun _ _ _ h => h) (Or.inl ⟨by rfl, ?_⟩) (by assumption) ?_
                        rotate_left
                        · (intro w hSw; (try dsimp only at hSw); go_simp; try with_reducible rfl)
                        try simp only [Act.put, List.setIfInBounds_toArray, List.set_cons_zero, List.set_cons_succ]
                        refine wpAnyH_take (i := 18) (oi := { dst := some 134, op := Go.Op.indexAddr 48 (Go.Operand.tmp 132) (Go.Operand.tmp 133), type := 0, pos := "outright.go:195", after := #[{ on := 16, ground := Go.Ground.data }, { on := 17, ground := Go.Ground.data }, { on := 11, ground := Go.Ground.guard }], guard := some (11, false) }) (v := ?_) rfl (by kernel_rfl) (by kernel_rfl) (by kernel_rfl) (fun _ _ _ h => h) (Or.inl ⟨by rfl, ?_⟩) (by assumption) ?_
                        rotate_left
                        · (intro w hSw; (try dsimp only at hSw); go_simp; try with_reducible rfl)
                        try simp only [Act.put, List.setIfInBounds_toArray, List.set_cons_zero, List.set_cons_succ]
                        refine wpAnyH_take (i := 19) (oi := { dst := some 135, op := Go.Op.load 23 (Go.Operand.tmp 134), type := 23, pos := "outright.go:195", after := #[{ on := 18, ground := Go.Ground.data }, { on := 11, ground := Go.Ground.guard }], guard := some (11, false) }) (v := ?_) rfl (by kernel_rfl) (by kernel_rfl) (by kernel_rfl) (fun _ _ _ h => h) (Or.inl ⟨by rfl, ?_⟩) (by assumption) ?_
                        rotate_left
                        · (intro w hSw; (try dsimp only at hSw); go_simp; try with_reducible rfl)
                        try simp only [Act.put, List.setIfInBounds_toArray, List.set_cons_zero, List.set_cons_succ]
                        refine wpAnyH_take (i := 20) (oi := { dst := some 136, op := Go.Op.call { callee := Go.Callee.builtin Go.Builtin.len, args := #[Go.Operand.tmp 135], argTypes := #[23] }, type := 3, pos := "outright.go:195", after := #[{ on := 19, ground := Go.Ground.data }, { on := 11, ground := Go.Ground.guard }], guard := some (11, false) }) (v := ?_) rfl (by kernel_rfl) (by kernel_rfl) (by kernel_rfl) (fun _ _ _ h => h) (Or.inl ⟨by rfl, ?_⟩) (by assumption) ?_
                        rotate_left
                        · (intro w hSw; (try dsimp only at hSw); go_simp; try with_reducible rfl)
                        try simp only [Act.put, List.setIfInBounds_toArray, List.set_cons_zero, List.set_cons_succ]
                        refine wpAnyH_take (i := 21) (oi := { dst := some 137, op := Go.Op.binOp Go.BinOp.lss 3 (Go.Operand.tmp 128) (Go.Operand.tmp 136) 3, type := 4, pos := "outright.go:195", after := #[{ on := 12, ground := Go.Ground.data }, { on := 20, ground := Go.Ground.data }, { on := 11, ground := Go.Ground.guard }], guard := some (11, false) }) (v := ?_) rfl (by kernel_rfl) (by kernel_rfl) (by kernel_rfl) (fun _ _ _ h => h) (Or.inl ⟨by rfl, ?_⟩) (by assumption) ?_
                        rotate_left
                        · (intro w hSw; (try dsimp only at hSw); go_simp; try with_reducible rfl)
                        try simp only [Act.put, List.setIfInBounds_toArray, List.set_cons_zero, List.set_cons_succ]
                        refine wpAnyH_take (i := 22) (oi := { dst := some 138, op := Go.Op.move (Go.Operand.tmp 137), type := 4, pos := "outright.go:195", after := #[{ on := 21, ground := Go.Ground.data }, { on := 11, ground := Go.Ground.chain }, { on := 11, ground := Go.Ground.guard }], guard := some (11, false) }) (v := ?_) rfl (by kernel_rfl) (by kernel_rfl) (by kernel_rfl) (fun _ _ _ h => h) (Or.inl ⟨by rfl, ?_⟩) (by assumption) ?_
                        rotate_left
                        · (intro w hSw; (try dsimp only at hSw); go_simp; try with_reducible rfl)
                        try simp only [Act.put, List.setIfInBounds_toArray, List.set_cons_zero, List.set_cons_succ]
                        refine wpAnyH_take (i := 23) (oi := { dst := some 139, op := Go.Op.move (Go.Operand.tmp 0), type := 47, pos := "outright.go:195", after := #[{ on := 22, ground := Go.Ground.guard }], guard := some (22, true) }) (v := undef) rfl (by kernel_rfl) (by kernel_rfl) (by kernel_rfl) (fun _ _ _ h => h) (Or.inr ⟨by rfl, rfl⟩) (by assumption) ?_
                        try simp only [Act.put, List.setIfInBounds_toArray, List.set_cons_zero, List.set_cons_succ]
                        refine wpAnyH_take (i := 24) (oi := { dst := some 140, op := Go.Op.nilCheck (Go.Operand.tmp 139), type := 0, pos := "outright.go:195", after := #[{ on := 23, ground := Go.Ground.data }, { on := 22, ground := Go.Ground.guard }], guard := some (22, true) }) (v := undef) rfl (by kernel_rfl) (by kernel_rfl) (by kernel_rfl) (fun _ _ _ h => h) (Or.inr ⟨by rfl, rfl⟩) (by assumption) ?_
                        try simp only [Act.put, List.setIfInBounds_toArray, List.set_cons_zero, List.set_cons_succ]
                        refine wpAnyH_take (i := 25) (oi := { dst := some 141, op := Go.Op.fieldAddr 50 (Go.Operand.tmp 140) 0, type := 0, pos := "outright.go:195", after := #[{ on := 24, ground := Go.Ground.data }, { on := 22, ground := Go.Ground.guard }], guard := some (22, true) }) (v := undef) rfl (by kernel_rfl) (by kernel_rfl) (by kernel_rfl) (fun _ _ _ h => h) (Or.inr ⟨by rfl, rfl⟩) (by assumption) ?_
                        try simp only [Act.put, List.setIfInBounds_toArray, List.set_cons_zero, List.set_cons_succ]
                        refine wpAnyH_take (i := 26) (oi := { dst := some 142, op := Go.Op.load 48 (Go.Operand.tmp 141), type := 48, pos := "outright.go:195", after := #[{ on := 25, ground := Go.Ground.data }, { on := 22, ground := Go.Ground.guard }], guard := some (22, true) }) (v := undef) rfl (by kernel_rfl) (by kernel_rfl) (by kernel_rfl) (fun _ _ _ h => h) (Or.inr ⟨by rfl, rfl⟩) (by assumption) ?_
                        try simp only [Act.put, List.setIfInBounds_toArray, List.set_cons_zero, List.set_cons_succ]
                        refine wpAnyH_take (i := 27) (oi := { dst := some 143, op := Go.Op.move (Go.Operand.tmp 10), type := 3, pos := "outright.go:195", after := #[{ on := 22, ground := Go.Ground.guard }], guard := some (22, true) }) (v := undef) rfl (by kernel_rfl) (by kernel_rfl) (by kernel_rfl) (fun _ _ _ h => h) (Or.inr ⟨by rfl, rfl⟩) (by assumption) ?_
                        try simp only [Act.put, List.setIfInBounds_toArray, List.set_cons_zero, List.set_cons_succ]
                        refine wpAnyH_take (i := 28) (oi := { dst := some 144, op := Go.Op.indexAddr 48 (Go.Operand.tmp 142) (Go.Operand.tmp 143), type := 0, pos := "outright.go:195", after := #[{ on := 26, ground := Go.Ground.data }, { on := 27, ground := Go.Ground.data }, { on := 22, ground := Go.Ground.guard }], guard := some (22, true) }) (v := undef) rfl (by kernel_rfl) (by kernel_rfl) (by kernel_rfl) (fun _ _ _ h => h) (Or.inr ⟨by rfl, rfl⟩) (by assumption) ?_
                        try simp only [Act.put, List.setIfInBounds_toArray, List.set_cons_zero, List.set_cons_succ]
                        refine wpAnyH_take (i := 29) (oi := { dst := some 145, op := Go.Op.load 23 (Go.Operand.tmp 144), type := 23, pos := "outright.go:195", after := #[{ on := 28, ground := Go.Ground.data }, { on := 22, ground := Go.Ground.guard }], guard := some (22, true) }) (v := undef) rfl (by kernel_rfl) (by kernel_rfl) (by kernel_rfl) (fun _ _ _ h => h) (Or.inr ⟨by rfl, rfl⟩) (by assumption) ?_
                        try simp only [Act.put, List.setIfInBounds_toArray, List.set_cons_zero, List.set_cons_succ]
                        refine wpAnyH_take (i := 30) (oi := { dst := some 146, op := Go.Op.move (Go.Operand.tmp 11), type := 3, pos := "outright.go:195", after := #[{ on := 22, ground := Go.Ground.guard }], guard := some (22, true) }) (v := undef) rfl (by kernel_rfl) (by kernel_rfl) (by kernel_rfl) (fun _ _ _ h => h) (Or.inr ⟨by rfl, rfl⟩) (by assumption) ?_
                        try simp only [Act.put, List.setIfInBounds_toArray, List.set_cons_zero, List.set_cons_succ]
                        refine wpAnyH_take (i := 31) (oi := { dst := some 147, op := Go.Op.indexAddr 23 (Go.Operand.tmp 145) (Go.Operand.tmp 146), type := 0, pos := "outright.go:195", after := #[{ on := 29, ground := Go.Ground.data }, { on := 30, ground := Go.Ground.data }, { on := 22, ground := Go.Ground.guard }], guard := some (22, true) }) (v := undef) rfl (by kernel_rfl) (by kernel_rfl) (by kernel_rfl) (fun _ _ _ h => h) (Or.inr ⟨by rfl, rfl⟩) (by assumption) ?_
                        try simp only [Act.put, List.setIfInBounds_toArray, List.set_cons_zero, List.set_cons_succ]
                        refine wpAnyH_take (i := 32) (oi := { dst := some 148, op := Go.Op.load 9 (Go.Operand.tmp 147), type := 9, pos := "outright.go:195", after := #[{ on := 31, ground := Go.Ground.data }, { on := 22, ground := Go.Ground.guard }], guard := some (22, true) }) (v := undef) rfl (by kernel_rfl) (by kernel_rfl) (by kernel_rfl) (fun _ _ _ h => h) (Or.inr ⟨by rfl, rfl⟩) (by assumption) ?_
                        try simp only [Act.put, List.setIfInBounds_toArray, List.set_cons_zero, List.set_cons_succ]
                        refine wpAnyH_take (i := 33) (oi := { dst := some 149, op := Go.Op.move (Go.Operand.tmp 10), type := 3, pos := "outright.go:195", after := #[{ on := 22, ground := Go.Ground.guard }], guard := some (22, true) }) (v := undef) rfl (by kernel_rfl) (by kernel_rfl) (by kernel_rfl) (fun _ _ _ h => h) (Or.inr ⟨by rfl, rfl⟩) (by assumption) ?_
                        try simp only [Act.put, List.setIfInBounds_toArray, List.set_cons_zero, List.set_cons_succ]
                        refine wpAnyH_take (i := 34) (oi := { dst := some 150, op := Go.Op.move (Go.Operand.tmp 11), type := 3, pos := "outright.go:195", after := #[{ on := 22, ground := Go.Ground.guard }], guard := some (22, true) }) (v := undef) rfl (by kernel_rfl) (by kernel_rfl) (by kernel_rfl) (fun _ _ _ h => h) (Or.inr ⟨by rfl, rfl⟩) (by assumption) ?_
                        try simp only [Act.put, List.setIfInBounds_toArray, List.set_cons_zero, List.set_cons_succ]
                        refine wpAnyH_take (i := 35) (oi := { dst := some 151, op := Go.Op.call { callee := Go.Callee.value (Go.Operand.func 35), args := #[Go.Operand.tmp 149, Go.Operand.tmp 150], argTypes := #[3, 3] }, type := 9, pos := "outright.go:195", after := #[{ on := 33, ground := Go.Ground.data }, { on := 34, ground := Go.Ground.data }, { on := 22, ground := Go.Ground.chain }, { on := 22, ground := Go.Ground.guard }], guard := some (22, true) }) (v := undef) rfl (by kernel_rfl) (by kernel_rfl) (by kernel_rfl) (fun _ _ _ h => h) (Or.inr ⟨by rfl, rfl⟩) (by assumption) ?_
                        try simp only [Act.put, List.setIfInBounds_toArray, List.set_cons_zero, List.set_cons_succ]
                        refine wpAnyH_take (i := 36) (oi := { dst := some 152, op := Go.Op.binOp Go.BinOp.neq 9 (Go.Operand.tmp 148) (Go.Operand.tmp 151) 9, type := 4, pos := "outright.go:195", after := #[{ on := 32, ground := Go.Ground.data }, { on := 35, ground := Go.Ground.data }, { on := 22, ground := Go.Ground.guard }], guard := some (22, true) }) (v := undef) rfl (by kernel_rfl) (by kernel_rfl) (by kernel_rfl) (fun _ _ _ h => h) (Or.inr ⟨by rfl, rfl⟩) (by assumption) ?_
                        try simp only [Act.put, List.setIfInBounds_toArray, List.set_cons_zero, List.set_cons_succ]
                        refine wpAnyH_take (i := 37) (oi := { dst := some 153, op := Go.Op.pick (Go.Operand.tmp 138) (Go.Operand.tmp 152) (Go.Operand.const (Go.Value.bool false)), type := 4, pos := "outright.go:195", after := #[{ on := 22, ground := Go.Ground.data }, { on := 36, ground := Go.Ground.data }, { on := 11, ground := Go.Ground.guard }], guard := some (11, false) }) (v := ?_) rfl (by kernel_rfl) (by kernel_rfl) (by kernel_rfl) (fun _ _ _ h => h) (Or.inl ⟨by rfl, ?_⟩) (by assumption) ?_
                        rotate_left
                        · (intro w hSw; (try dsimp only at hSw); go_simp; try with_reducible rfl)
                        try simp only [Act.put, List.setIfInBounds_toArray, List.set_cons_zero, List.set_cons_succ]
                        refine wpAnyH_take (i := 38) (oi := { dst := some 154, op := Go.Op.pick (Go.Operand.tmp 127) (Go.Operand.const (Go.Value.bool true)) (Go.Operand.tmp 153), type := 4, pos := "outright.go:195", after := #[{ on := 11, ground := Go.Ground.data }, { on := 37, ground := Go.Ground.data }], guard := none }) (v := ?_) rfl (by kernel_rfl) (by kernel_rfl) (by kernel_rfl) (fun _ _ _ h => h) (Or.inl ⟨by rfl, ?_⟩) (by assumption) ?_
                        rotate_left
                        · (intro w hSw; (try dsimp only at hSw); go_simp; try with_reducible rfl)
                        try simp only [Act.put, List.setIfInBounds_toArray, List.set_cons_zero, List.set_cons_succ]
                        refine wpAnyH_done (by kernel_rfl) ?_ _
                        go_wp2_with fail
                        go_roundw
                        case rel => exact ⟨k + 1, by go_num, by omega, below_step HB.out HBZ.out⟩
                        case measure => simp [intOf]; omega
                    · go_wp2_with fail
                      go_roundw
                      case rel => exact ⟨j + 1, by go_num, by omega, HB.out⟩
                      case measure => simp [intOf]; omega
                · go_wp2_with fail
                  go_ret
                  exact ⟨rfl, HM.out.step HB.out⟩
end Go.Proofs.YtfdinkofcjcahaaDoor.Own
