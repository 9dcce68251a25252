/- The walk of the law PlaceDigits: at every text and two counters it returns true, in every world that holds the tables. -/
import Derived.Test.YtfdinkofcjcahaaDoorLawsE
namespace Go.Proofs.YtfdinkofcjcahaaDoor.Law
open Go.RowKit Go.Proofs.YtfdinkofcjcahaaDoor.Ext Go.Proofs.YtfdinkofcjcahaaDoor.PPl Go.Proofs.YtfdinkofcjcahaaDoor.Pl Go.Proofs.YtfdinkofcjcahaaDoor.Ord Go.Proofs.YtfdinkofcjcahaaDoorW.PrintWords Go.Proofs.YtfdinkofcjcahaaDoor.Name

set_option maxRecDepth 100000 in
set_option maxHeartbeats 2000000 in
theorem digits_good (t : ByteArray) (a b : Int) (w : World) (ht : t.size ≤ 140737488351232) (ca : Cnt (tx t) a) (cb : Cnt (tx t) b) (HE : Env2 w) :
    Calls Tryd.prog 12 #[.string t, .int .i64 a, .int .i64 b] w fun e w' => e = .returned (.bool true) ∧ Below w.heap.size w w' := by
  obtain ⟨s, hs⟩ : ∃ s, s = bs (tx t ++ dig5 a.toNat) := ⟨_, rfl⟩
  obtain ⟨u, hu⟩ : ∃ u, u = bs (tx t ++ dig5 b.toNat) := ⟨_, rfl⟩
  obtain ⟨up, hup⟩ : ∃ up, up = bs (parentL (tx t)).1 := ⟨_, rfl⟩
  have hts : tx s = tx t ++ dig5 a.toNat := by rw [hs, tx_bs]
  have htu : tx u = tx t ++ dig5 b.toNat := by rw [hu, tx_bs]
  have hsz : s.size = t.size + 5 := by
    rw [← tx_length, hts, List.length_append, tx_length]
    rfl
  have husz : u.size = t.size + 5 := by
    rw [← tx_length, htu, List.length_append, tx_length]
    rfl
  have pa := counted_parent ca
  have HSa := Aside0.mk (show place_Counted.f t a = some (s, 0) by
    unfold place_Counted.f countedB
    rcases counted_cases (tx t) a with ⟨_, h⟩ | ⟨h, _⟩
    · rw [h, hs]
    · exact absurd (by unfold countedL; rw [if_pos ca.place, if_neg ca.some_, if_neg (by have := ca.last; omega), if_neg (by have := ca.lo; have := ca.hi; omega)]) h)
  have HSb := Aside0.mk (show place_Counted.f t b = some (u, 0) by
    unfold place_Counted.f countedB
    rcases counted_cases (tx t) b with ⟨_, h⟩ | ⟨h, _⟩
    · rw [h, hu]
    · exact absurd (by unfold countedL; rw [if_pos cb.place, if_neg cb.some_, if_neg (by have := cb.last; omega), if_neg (by have := cb.lo; have := cb.hi; omega)]) h)
  have HPs := Aside0.mk (show place_Parent.f s = some (up, 0) by
    unfold place_Parent.f parentB
    rw [hts, pa.1, pa.2, hup])
  have HPt := Aside0.mk (show place_Parent.f t = some (up, 0) by
    unfold place_Parent.f parentB
    rw [pa.2, hup])
  have HI := Aside0.mk (show heraldlaw1_in.f s = some true by
    obtain ⟨l, q, _, hp⟩ := counted_parse ca
    rw [in_tells, hts, hp]
    rfl)
  have HK := Aside0.mk (known_tells 8 (by omega))
  have hcut : s.extract 0 t.size = t := by
    rw [← bs_tx (s.extract 0 t.size), ← bs_tx t]
    congr 1
    show (s.extract 0 (bs (tx t)).size).data.toList = _
    rw [bs_size, tx_length]
    have : (s.extract 0 t.size).data.toList = (tx s).take t.size := by simp [tx]
    rw [this, hts, ← tx_length, List.take_left]
  have HB := Aside0.mk (Below.refl w.heap.size w)
  have hord : ordL (tx s) (tx u) = if a.toNat < b.toNat then -1 else if a.toNat = b.toNat then 0 else 1 := by
    rw [hts, htu, ord_same]
    exact ord_dig5 (by have := ca.hi; have := ca.lo; omega) (by have := cb.hi; have := cb.lo; omega)
  obtain ⟨o, ho, hc⟩ : ∃ o, place_Order.f s u = some o ∧ ((o = -1 ∧ a < b) ∨ (o = 0 ∧ a = b) ∨ (o = 1 ∧ b < a)) := by
    refine ⟨_, show place_Order.f s u = some (ordL (tx s) (tx u)) by unfold place_Order.f; rw [if_pos (by unfold maxLen; omega), if_pos (by unfold maxLen; omega)], ?_⟩
    rw [hord]
    have h1 := ca.lo
    have h2 := cb.lo
    by_cases c1 : a.toNat < b.toNat
    · rw [if_pos c1]; exact .inl ⟨rfl, by omega⟩
    · rw [if_neg c1]
      by_cases c2 : a.toNat = b.toNat
      · rw [if_pos c2]; exact .inr (.inl ⟨rfl, by omega⟩)
      · rw [if_neg c2]; exact .inr (.inr ⟨rfl, by omega⟩)
  have HO := Aside0.mk ho
  clear hs hu hup ca cb hts htu pa hord ho husz
  rcases hc with ⟨rfl, h⟩ | ⟨rfl, h⟩ | ⟨rfl, h⟩
  · have b1 : decide (a < b) = true := decide_eq_true h
    have b2 : (a == b) = false := beq_eq_false_iff_ne.2 (by omega)
    clear h
    go_enter Tryd.func12, Tryd.ntmps12
    go_wp2_with (first
      | (go_at_call 30; (with_reducible first | refine (place_Counted.calls t a s 0 _ HSa.out (HE.at_ HB.out)).mono ?_ | refine (place_Counted.calls t b u 0 _ HSb.out (HE.at_ HB.out)).mono ?_); rintro e w1 ⟨rfl, hb⟩; have n0_ := Aside0.mk (below_step HB.out hb); clear HB; have HB := n0_; clear n0_ hb)
      | (go_at_call 20; (with_reducible refine (heraldlaw1_num.calls _ _ _ rfl).mono ?_); rintro e w1 ⟨rfl, hd⟩; have n0_ := Aside0.mk (below_step HB.out hd.below); clear HB; have HB := n0_; clear n0_ hd)
      | (go_at_call 19; (with_reducible first | refine (place_Parent.calls s up 0 _ HPs.out (HE.at_ HB.out).env).mono ?_ | refine (place_Parent.calls t up 0 _ HPt.out (HE.at_ HB.out).env).mono ?_); rintro e w1 ⟨rfl, hb⟩; have n0_ := Aside0.mk (below_step HB.out hb); clear HB; have HB := n0_; clear n0_ hb)
      | (go_at_call 40; (with_reducible refine (place_Order.calls s u _ _ HO.out).mono ?_); rintro e w1 ⟨rfl, hb⟩; have n0_ := Aside0.mk (below_step HB.out hb); clear HB; have HB := n0_; clear n0_ hb)
      | (go_at_call 41; (with_reducible refine (heraldlaw1_in.calls s true _ HI.out (HE.at_ HB.out).env).mono ?_); rintro e w1 ⟨rfl, hb⟩; have n0_ := Aside0.mk (below_step HB.out hb); clear HB; have HB := n0_; clear n0_ hb)
      | (go_at_call 26; (with_reducible refine (heraldlaw1_known.calls 8 true _ HK.out (HE.at_ HB.out)).mono ?_); rintro e w1 ⟨rfl, hb⟩; have n0_ := Aside0.mk (below_step HB.out hb); clear HB; have HB := n0_; clear n0_ hb))
    go_ret
    exact ⟨rfl, HB.out⟩
  · have b1 : decide (a < b) = false := decide_eq_false (by omega)
    have b2 : (a == b) = true := beq_iff_eq.2 h
    clear h
    go_enter Tryd.func12, Tryd.ntmps12
    go_wp2_with (first
      | (go_at_call 30; (with_reducible first | refine (place_Counted.calls t a s 0 _ HSa.out (HE.at_ HB.out)).mono ?_ | refine (place_Counted.calls t b u 0 _ HSb.out (HE.at_ HB.out)).mono ?_); rintro e w1 ⟨rfl, hb⟩; have n0_ := Aside0.mk (below_step HB.out hb); clear HB; have HB := n0_; clear n0_ hb)
      | (go_at_call 20; (with_reducible refine (heraldlaw1_num.calls _ _ _ rfl).mono ?_); rintro e w1 ⟨rfl, hd⟩; have n0_ := Aside0.mk (below_step HB.out hd.below); clear HB; have HB := n0_; clear n0_ hd)
      | (go_at_call 19; (with_reducible first | refine (place_Parent.calls s up 0 _ HPs.out (HE.at_ HB.out).env).mono ?_ | refine (place_Parent.calls t up 0 _ HPt.out (HE.at_ HB.out).env).mono ?_); rintro e w1 ⟨rfl, hb⟩; have n0_ := Aside0.mk (below_step HB.out hb); clear HB; have HB := n0_; clear n0_ hb)
      | (go_at_call 40; (with_reducible refine (place_Order.calls s u _ _ HO.out).mono ?_); rintro e w1 ⟨rfl, hb⟩; have n0_ := Aside0.mk (below_step HB.out hb); clear HB; have HB := n0_; clear n0_ hb)
      | (go_at_call 41; (with_reducible refine (heraldlaw1_in.calls s true _ HI.out (HE.at_ HB.out).env).mono ?_); rintro e w1 ⟨rfl, hb⟩; have n0_ := Aside0.mk (below_step HB.out hb); clear HB; have HB := n0_; clear n0_ hb)
      | (go_at_call 26; (with_reducible refine (heraldlaw1_known.calls 8 true _ HK.out (HE.at_ HB.out)).mono ?_); rintro e w1 ⟨rfl, hb⟩; have n0_ := Aside0.mk (below_step HB.out hb); clear HB; have HB := n0_; clear n0_ hb))
    go_ret
    exact ⟨rfl, HB.out⟩
  · have b1 : decide (a < b) = false := decide_eq_false (by omega)
    have b2 : (a == b) = false := beq_eq_false_iff_ne.2 (by omega)
    clear h
    go_enter Tryd.func12, Tryd.ntmps12
    go_wp2_with (first
      | (go_at_call 30; (with_reducible first | refine (place_Counted.calls t a s 0 _ HSa.out (HE.at_ HB.out)).mono ?_ | refine (place_Counted.calls t b u 0 _ HSb.out (HE.at_ HB.out)).mono ?_); rintro e w1 ⟨rfl, hb⟩; have n0_ := Aside0.mk (below_step HB.out hb); clear HB; have HB := n0_; clear n0_ hb)
      | (go_at_call 20; (with_reducible refine (heraldlaw1_num.calls _ _ _ rfl).mono ?_); rintro e w1 ⟨rfl, hd⟩; have n0_ := Aside0.mk (below_step HB.out hd.below); clear HB; have HB := n0_; clear n0_ hd)
      | (go_at_call 19; (with_reducible first | refine (place_Parent.calls s up 0 _ HPs.out (HE.at_ HB.out).env).mono ?_ | refine (place_Parent.calls t up 0 _ HPt.out (HE.at_ HB.out).env).mono ?_); rintro e w1 ⟨rfl, hb⟩; have n0_ := Aside0.mk (below_step HB.out hb); clear HB; have HB := n0_; clear n0_ hb)
      | (go_at_call 40; (with_reducible refine (place_Order.calls s u _ _ HO.out).mono ?_); rintro e w1 ⟨rfl, hb⟩; have n0_ := Aside0.mk (below_step HB.out hb); clear HB; have HB := n0_; clear n0_ hb)
      | (go_at_call 41; (with_reducible refine (heraldlaw1_in.calls s true _ HI.out (HE.at_ HB.out).env).mono ?_); rintro e w1 ⟨rfl, hb⟩; have n0_ := Aside0.mk (below_step HB.out hb); clear HB; have HB := n0_; clear n0_ hb)
      | (go_at_call 26; (with_reducible refine (heraldlaw1_known.calls 8 true _ HK.out (HE.at_ HB.out)).mono ?_); rintro e w1 ⟨rfl, hb⟩; have n0_ := Aside0.mk (below_step HB.out hb); clear HB; have HB := n0_; clear n0_ hb))
    go_ret
    exact ⟨rfl, HB.out⟩

set_option maxRecDepth 100000 in
set_option maxHeartbeats 2000000 in
theorem digits_bad (t : ByteArray) (a b : Int) (w : World) (HE : Env2 w) (s u : ByteArray) (e f : Int) (hs : place_Counted.f t a = some (s, e)) (hu : place_Counted.f t b = some (u, f)) (h : (e ≠ 0 ∧ s = ⟨#[]⟩ ∧ f ≠ 0 ∧ u = ⟨#[]⟩) ∨ (e ≠ 0 ∧ s = ⟨#[]⟩ ∧ f = 0) ∨ (e = 0 ∧ f ≠ 0 ∧ u = ⟨#[]⟩)) :
    Calls Tryd.prog 12 #[.string t, .int .i64 a, .int .i64 b] w fun e w' => e = .returned (.bool true) ∧ Below w.heap.size w w' := by
  have HSa := Aside0.mk hs
  have HSb := Aside0.mk hu
  have HK := Aside0.mk (known_tells 8 (by omega))
  have HB := Aside0.mk (Below.refl w.heap.size w)
  clear hs hu
  rcases h with ⟨he, rfl, hf, rfl⟩ | ⟨he, rfl, rfl⟩ | ⟨rfl, hf, rfl⟩
  · have b1 : (e == 0) = false := beq_eq_false_iff_ne.2 he
    have b2 : (f == 0) = false := beq_eq_false_iff_ne.2 hf
    have b3 : (e != 0) = true := bne_iff_ne.2 he
    have b4 : (f != 0) = true := bne_iff_ne.2 hf
    clear he hf
    go_enter Tryd.func12, Tryd.ntmps12
    go_wp2_with (first
      | (go_at_call 30; (with_reducible first | refine (place_Counted.calls t a _ _ _ HSa.out (HE.at_ HB.out)).mono ?_ | refine (place_Counted.calls t b _ _ _ HSb.out (HE.at_ HB.out)).mono ?_); rintro e w1 ⟨rfl, hb⟩; have n0_ := Aside0.mk (below_step HB.out hb); clear HB; have HB := n0_; clear n0_ hb)
      | (go_at_call 20; (with_reducible refine (heraldlaw1_num.calls _ _ _ rfl).mono ?_); rintro e w1 ⟨rfl, hd⟩; have n0_ := Aside0.mk (below_step HB.out hd.below); clear HB; have HB := n0_; clear n0_ hd)
      | (go_at_call 26; (with_reducible refine (heraldlaw1_known.calls 8 true _ HK.out (HE.at_ HB.out)).mono ?_); rintro e w1 ⟨rfl, hb⟩; have n0_ := Aside0.mk (below_step HB.out hb); clear HB; have HB := n0_; clear n0_ hb))
    go_ret
    exact ⟨rfl, HB.out⟩
  · have b1 : (e == 0) = false := beq_eq_false_iff_ne.2 he
    have b3 : (e != 0) = true := bne_iff_ne.2 he
    clear he
    go_enter Tryd.func12, Tryd.ntmps12
    go_wp2_with (first
      | (go_at_call 30; (with_reducible first | refine (place_Counted.calls t a _ _ _ HSa.out (HE.at_ HB.out)).mono ?_ | refine (place_Counted.calls t b _ _ _ HSb.out (HE.at_ HB.out)).mono ?_); rintro e w1 ⟨rfl, hb⟩; have n0_ := Aside0.mk (below_step HB.out hb); clear HB; have HB := n0_; clear n0_ hb)
      | (go_at_call 20; (with_reducible refine (heraldlaw1_num.calls _ _ _ rfl).mono ?_); rintro e w1 ⟨rfl, hd⟩; have n0_ := Aside0.mk (below_step HB.out hd.below); clear HB; have HB := n0_; clear n0_ hd)
      | (go_at_call 26; (with_reducible refine (heraldlaw1_known.calls 8 true _ HK.out (HE.at_ HB.out)).mono ?_); rintro e w1 ⟨rfl, hb⟩; have n0_ := Aside0.mk (below_step HB.out hb); clear HB; have HB := n0_; clear n0_ hb))
    go_ret
    exact ⟨rfl, HB.out⟩
  · have b2 : (f == 0) = false := beq_eq_false_iff_ne.2 hf
    have b4 : (f != 0) = true := bne_iff_ne.2 hf
    clear hf
    go_enter Tryd.func12, Tryd.ntmps12
    go_wp2_with (first
      | (go_at_call 30; (with_reducible first | refine (place_Counted.calls t a _ _ _ HSa.out (HE.at_ HB.out)).mono ?_ | refine (place_Counted.calls t b _ _ _ HSb.out (HE.at_ HB.out)).mono ?_); rintro e w1 ⟨rfl, hb⟩; have n0_ := Aside0.mk (below_step HB.out hb); clear HB; have HB := n0_; clear n0_ hb)
      | (go_at_call 20; (with_reducible refine (heraldlaw1_num.calls _ _ _ rfl).mono ?_); rintro e w1 ⟨rfl, hd⟩; have n0_ := Aside0.mk (below_step HB.out hd.below); clear HB; have HB := n0_; clear n0_ hd)
      | (go_at_call 26; (with_reducible refine (heraldlaw1_known.calls 8 true _ HK.out (HE.at_ HB.out)).mono ?_); rintro e w1 ⟨rfl, hb⟩; have n0_ := Aside0.mk (below_step HB.out hb); clear HB; have HB := n0_; clear n0_ hb))
    go_ret
    exact ⟨rfl, HB.out⟩

/-- **PlaceDigits, AT EVERY TEXT AND TWO COUNTERS: true.** -/
theorem digits_walk (t : ByteArray) (a b : Int) (w : World) (ht : t.size ≤ 140737488351232) (_ : (Lit.int .i64 a).wf = true) (_ : (Lit.int .i64 b).wf = true) (HE : Env2 w) :
    Calls Tryd.prog 12 #[.string t, .int .i64 a, .int .i64 b] w fun e w' => e = .returned (.bool true) ∧ Below w.heap.size w w' := by
  have e1 : place_Counted.f t a = some (bs (countedL (tx t) a).1, (countedL (tx t) a).2) := rfl
  have e2 : place_Counted.f t b = some (bs (countedL (tx t) b).1, (countedL (tx t) b).2) := rfl
  rcases counted_cases (tx t) a with ⟨ca, ha⟩ | ⟨ha, ha'⟩
  · rcases counted_cases (tx t) b with ⟨cb, hb⟩ | ⟨hb, hb'⟩
    · exact digits_good t a b w ht ca cb HE
    · exact digits_bad t a b w HE _ _ _ _ e1 e2 (.inr (.inr ⟨by rw [ha], hb, by rw [hb']; rfl⟩))
  · rcases counted_cases (tx t) b with ⟨cb, hb⟩ | ⟨hb, hb'⟩
    · exact digits_bad t a b w HE _ _ _ _ e1 e2 (.inr (.inl ⟨ha, by rw [ha']; rfl, by rw [hb]⟩))
    · exact digits_bad t a b w HE _ _ _ _ e1 e2 (.inl ⟨ha, by rw [ha']; rfl, hb, by rw [hb']; rfl⟩)
end Go.Proofs.YtfdinkofcjcahaaDoor.Law
