/- The walk of the law PlaceBack: Parse and Join are there and back; Parent and Name part a place; at every text and list, in every world that holds the tables. -/
import Derived.Test.YtfdinkofcjcahaaDoorLawsB
import Derived.Test.YtfdinkofcjcahaaDoorStrs
namespace Go.Proofs.YtfdinkofcjcahaaDoor.Law
open Go.RowKit Go.Proofs.YtfdinkofcjcahaaDoor.Ext Go.Proofs.YtfdinkofcjcahaaDoor.PPl Go.Proofs.YtfdinkofcjcahaaDoor.Pl Go.Proofs.YtfdinkofcjcahaaDoor.Ord Go.Proofs.YtfdinkofcjcahaaDoorW.PrintWords Go.Proofs.YtfdinkofcjcahaaDoor.Name

set_option maxRecDepth 100000 in
set_option maxHeartbeats 2000000 in
theorem back_none (t : ByteArray) (A : Option Addr) (c : Nat) (ns : List ByteArray) (w : World) (h : (parseL (tx t)).2 ≠ 0) (HE : Env2 w) :
    Calls Tryd.prog 14 #[.string t, .slice A ns.length c] w fun e w' => e = .returned (.bool true) ∧ Below w.heap.size w w' := by
  obtain ⟨e0, he0⟩ : ∃ e, e = (parseL (tx t)).2 := ⟨_, rfl⟩
  have HP := Aside0.mk (show place_Parse.f t = some ([], e0) by
    unfold place_Parse.f parseB
    rw [parse_bad h, he0]
    rfl)
  have b1 : (e0 != 0) = true := bne_iff_ne.2 (he0 ▸ h)
  have HK := Aside0.mk (known_tells 8 (by omega))
  have HB := Aside0.mk (Below.refl w.heap.size w)
  clear h he0
  go_enter Tryd.func14, Tryd.ntmps14
  go_wp2_with (first
    | (go_at_call 18; (with_reducible refine (place_Parse.calls t [] e0 _ HP.out (HE.at_ HB.out).env).mono ?_); rintro e w1 ⟨v, rfl, hR, hb⟩; obtain ⟨A1, c1, rfl⟩ := Kd.R_slice hR; have n0_ := Aside0.mk (below_step HB.out hb); clear HB; have HB := n0_; clear n0_ hb hR)
    | (go_at_call 20; (with_reducible refine (heraldlaw1_num.calls _ _ _ rfl).mono ?_); rintro e w1 ⟨rfl, hd⟩; have n0_ := Aside0.mk (below_step HB.out hd.below); clear HB; have HB := n0_; clear n0_ hd)
    | (go_at_call 26; (with_reducible refine (heraldlaw1_known.calls 8 true _ HK.out (HE.at_ HB.out)).mono ?_); rintro e w1 ⟨rfl, hb⟩; have n0_ := Aside0.mk (below_step HB.out hb); clear HB; have HB := n0_; clear n0_ hb))
  go_ret
  exact ⟨rfl, HB.out⟩

/-- What the walk keeps: the list that came in, the list that Parse answered. -/
structure Keep (w W : World) (A : Option Addr) (ns : List ByteArray) (A1 : Option Addr) (lb : List ByteArray) : Prop where mk ::
  below : Below w.heap.size w W
  names : Kd.string.C W A ns.length ns
  list : Kd.string.C W A1 lb.length lb
theorem Keep.step {w W W' : World} {A : Option Addr} {ns : List ByteArray} {A1 : Option Addr} {lb : List ByteArray} (h : Keep w W A ns A1 lb) (hb : Below W.heap.size W W') : Keep w W' A ns A1 lb :=
  ⟨below_step h.below hb, Kd.C_below h.names hb, Kd.C_below h.list hb⟩
theorem Keep.drewN {w W : World} {A : Option Addr} {ns : List ByteArray} {A1 : Option Addr} {lb : List ByteArray} (h : Keep w W A ns A1 lb) (n : Nat) : Keep w (W.drewN n) A ns A1 lb := h.step (pw_below_drewN (Below.refl _ _) n)
theorem Keep.alloc {w W : World} {A : Option Addr} {ns : List ByteArray} {A1 : Option Addr} {lb : List ByteArray} (h : Keep w W A ns A1 lb) (o : Obj) : Keep w (W.alloc o) A ns A1 lb := h.step ((Below.refl _ _).alloc (Nat.le_refl _) o)
theorem Keep.last {w W : World} {A : Option Addr} {ns : List ByteArray} {ad1 : Addr} {lb : List ByteArray} (h : Keep w W A ns (some ad1) lb) {q : ByteArray} (hq : rdOf ByteArray.empty lb ((lb.length : Int) - 1) = q) (hpos : 1 ≤ lb.length) : W.cell? (ad1.add (lb.length - 1)) = some (.string q) := by
  obtain ⟨ad, e, hx⟩ := Kd.at_string h.list ((lb.length : Int) - 1) (by omega) (by omega)
  cases e
  rw [hq, show ((lb.length : Int) - 1).toNat = lb.length - 1 from by omega] at hx
  exact hx
theorem c_one (W : World) (q : ByteArray) (t : TypeId) : Kd.string.C (W.alloc (.cells #[.string q] t)) (some ⟨W.heap.size, 0, none⟩) [q].length [q] := by
  refine Kd.C_of_reads (d := ByteArray.empty) (h1 := fun _ => rfl) ⟨rfl, by simp, fun _ => ⟨_, rfl, fun j hj => ?_⟩⟩
  obtain rfl : j = 0 := by simp at hj; omega
  exact cell_one_new _ _ _ 0 _ rfl
theorem join_up {up q t : ByteArray} (h : place_Join.f up [q] = some (t, 0)) (W : World) (HE : Env (W.alloc (.cells #[.string q] 9))) :
    Calls Tryd.prog 33 #[.string up, .slice (some ⟨W.heap.size, 0, none⟩) 1 1] (W.alloc (.cells #[.string q] 9)) fun e w' => e = .returned (.tuple #[.string t, .int .i64 0]) ∧ Below (W.alloc (.cells #[.string q] 9)).heap.size (W.alloc (.cells #[.string q] 9)) w' :=
  place_Join.calls up _ 1 [q] t 0 _ (c_one W q _) (by simp) h HE
theorem texts_same_calls {A0 A1 : Option Addr} {n m c0 c1 : Nat} {l : List ByteArray} (hn : n = l.length) (hm : m = l.length) (W : World) (h0 : Kd.string.C W A0 l.length l) (hc0 : l.length ≤ c0) (h1 : Kd.string.C W A1 l.length l) (hc1 : l.length ≤ c1) (h : heraldlaw1_texts.f 8 l l = some true) :
    Calls Tryd.prog 25 #[.slice A0 n c0, .slice A1 m c1] W fun e w' => e = .returned (.bool true) ∧ Drawn0 W w' := by
  subst hn hm
  exact heraldlaw1_texts.calls 8 A0 c0 l A1 c1 l true W h0 hc0 h1 hc1 h
theorem c_head {W : World} {A : Option Addr} {a b : List ByteArray} (h : Kd.string.C W A (a ++ b).length (a ++ b)) : Kd.string.C W A a.length a := by
  have := Kd.C_take (m := a.length) h (by simp)
  rw [List.take_left] at this
  exact this
theorem c_tail {W : World} {A : Option Addr} {a b : List ByteArray} {c : Nat} (h : Kd.string.C W A (a ++ b).length (a ++ b)) (hc : a.length + b.length ≤ c) : Kd.string.C W (if c = a.length then A else A.map (fun x => x.add a.length)) b.length b := by
  have := Kd.C_drop (m := a.length) (c := c) h (by simp) (by rw [List.length_append]; exact hc)
  rw [List.drop_left, show a.length * Kd.string.sz = a.length from Nat.mul_one _] at this
  exact this
theorem join_one {l : List (List UInt8)} (h : Pl.Good l) (hl : l ≠ []) : joinL (plc l.dropLast) [lastL l] = (plc l, 0) := by
  have e : l = l.dropLast ++ [lastL l] := by
    have := (List.dropLast_concat_getLast hl).symm
    rw [show lastL l = l.getLast hl by unfold lastL; rw [List.getLast?_eq_some_getLast hl]; rfl]
    exact this
  have hG := good_dropLast h
  have hlen := congrArg List.length e
  rw [List.length_append, List.length_cons, List.length_nil] at hlen
  have h6 := h.1
  have hok : okN (lastL l) = true := h.ok (by rw [e]; simp [lastL])
  unfold joinL
  rw [parse_plc hG]
  simp only
  rw [if_pos trivial, if_pos ⟨by simp [hok], by simp; simp at hlen; omega⟩, ← e]
theorem map_bs_tx (l : List (List UInt8)) : (l.map bs).map tx = l := by
  rw [List.map_map]
  conv => rhs; rw [← List.map_id l]
  exact List.map_congr_left fun x _ => tx_bs x
/-- What is known where the text is a place. -/
structure Facts (t : ByteArray) (l : List (List UInt8)) (lb : List ByteArray) : Prop where mk ::
  good : Pl.Good l
  list : lb = l.map bs
  text : tx t = plc l
  parse : place_Parse.f t = some (lb, 0)
  join : place_Join.f ⟨#[47]⟩ lb = some (t, 0)
  clean : place_Clean.f t = some (t, 0)
theorem facts_of {t : ByteArray} (h : (parseL (tx t)).2 = 0) : Facts t (parseL (tx t)).1 ((parseL (tx t)).1.map bs) := by
  have hG := parse_good (tx t)
  have hb := parse_back h
  have h6 := hG.1
  have hp := plc_length hG
  refine ⟨hG, rfl, hb, ?_, ?_, ?_⟩
  · unfold place_Parse.f parseB; rw [h]
  · unfold place_Join.f
    rw [if_pos (by rw [List.length_map]; omega), map_bs_tx]
    unfold joinB joinL
    have e : parseL (tx (⟨#[47]⟩ : ByteArray)) = ([], 0) := by kernel_rfl
    rw [e]
    simp only
    rw [if_pos trivial, if_pos ⟨hG.2, by simp; omega⟩, List.nil_append, ← hb, bs_tx]
  · unfold place_Clean.f
    rw [if_pos (by rw [← tx_length, hb]; unfold maxLen; omega)]
    unfold cleanB
    rw [hb, cleanL_plc hG, ← hb, bs_tx]

set_option maxRecDepth 100000 in
set_option maxHeartbeats 4000000 in
theorem back_names_ok (t : ByteArray) (A : Option Addr) (c : Nat) (ns : List ByteArray) (w : World) (l : List (List UInt8)) (lb : List ByteArray) (F : Facts t l lb) (hl : l ≠ []) (hn : (ns.map tx).all okN = true ∧ l.length + ns.length ≤ 6) (hr : Kd.string.C w A ns.length ns) (hc : ns.length ≤ c) (HE : Env2 w) :
    Calls Tryd.prog 14 #[.string t, .slice A ns.length c] w fun e w' => e = .returned (.bool true) ∧ Below w.heap.size w w' := by
  have hlen : lb.length = l.length := by rw [F.list, List.length_map]
  have hG := F.good
  obtain ⟨up, hup⟩ : ∃ up, up = bs (plc l.dropLast) := ⟨_, rfl⟩
  obtain ⟨q, hq⟩ : ∃ q, q = bs (lastL l) := ⟨_, rfl⟩
  obtain ⟨j, hj⟩ : ∃ j, j = bs (plc (l ++ ns.map tx)) := ⟨_, rfl⟩
  have hGj : Pl.Good (l ++ ns.map tx) := good_append hG hn.1 (by rw [List.length_map]; exact hn.2)
  have hll : 1 ≤ l.length := by cases l with | nil => exact absurd rfl hl | cons a b => simp
  have HF := Aside0.mk F
  have HU := Aside0.mk (show place_Parent.f t = some (up, 0) by
    unfold place_Parent.f
    rw [show t = bs (plc l) by rw [← F.text, bs_tx], parent_plc hG, if_neg hl, hup])
  have HQ := Aside0.mk (show place_Name.f t = some (q, 0) by
    unfold place_Name.f nameB nameL
    rw [F.text, parse_plc hG, hq]
    rfl)
  have HJ2 := Aside0.mk (show place_Join.f up [q] = some (t, 0) by
    unfold place_Join.f
    rw [if_pos (by simp)]
    unfold joinB
    rw [hup, hq, List.map_cons, List.map_nil, tx_bs, tx_bs, join_one hG hl, ← F.text, bs_tx])
  have HJ3 := Aside0.mk (show place_Join.f t ns = some (j, 0) by
    unfold place_Join.f
    rw [if_pos (by omega)]
    unfold joinB joinL
    rw [F.text, parse_plc hG]
    simp only
    rw [if_pos trivial, if_pos ⟨hn.1, by rw [List.length_map]; exact hn.2⟩, hj])
  have HPJ := Aside0.mk (show place_Parse.f j = some (lb ++ ns, 0) by
    unfold place_Parse.f parseB
    rw [hj, tx_bs, parse_plc hGj, List.map_append, map_tx, F.list])
  have HT1 := Aside0.mk (texts_same lb (by have := hG.1; omega) 8 (by have := hG.1; omega))
  have HT2 := Aside0.mk (texts_same ns (by omega) 8 (by omega))
  have HK := Aside0.mk (known_tells 8 (by omega))
  have HR := Aside0.mk hr
  have HQL := Aside0.mk (show rdOf ByteArray.empty lb ((lb.length : Int) - 1) = q by
    rw [hlen, show ((l.length : Int) - 1) = ((l.length - 1 : Nat) : Int) by omega, F.list, rdOf_map l (l.length - 1) (by omega), hq]
    congr 1
    unfold lastL
    rw [List.getLast?_eq_getElem?, List.getElem?_eq_getElem (by omega)]
    rfl)
  have hpos : 1 ≤ lb.length := by omega
  have hlb6 : lb.length ≤ 6 := by have := hG.1; omega
  have hns6 : ns.length ≤ 6 := by omega
  have hsum : (lb ++ ns).length = lb.length + ns.length := List.length_append
  clear hup hj hr hl hn hll hGj hG F hq hlen
  go_enter Tryd.func14, Tryd.ntmps14
  go_wp2_with (first
    | (go_at_call 18; first
        | ((with_reducible refine (place_Parse.calls t lb 0 _ HF.out.parse HE.env).mono ?_); rintro e w1 ⟨v, rfl, hR, hb⟩; obtain ⟨A1, c1, rfl, hc1, hC1⟩ := Kd.R_reads hR; have HLC := Aside0.mk hc1; have KP := Aside0.mk (Keep.mk hb (Kd.C_below HR.out hb) hC1); clear HR hb hR hC1; obtain ⟨ad1, rfl, _⟩ := Kd.at_string KP.out.list ((lb.length : Int) - 1) (by omega) (by omega))
        | ((with_reducible refine (place_Parse.calls j (lb ++ ns) 0 _ HPJ.out (HE.at_ KP.out.below).env).mono ?_); rintro e w2 ⟨v, rfl, hR, hb⟩; obtain ⟨A2, c2, rfl, hc2, hC2⟩ := Kd.R_reads hR; have HLC2 := Aside0.mk hc2; have n0_ := Aside0.mk (KP.out.step hb); clear KP; have KP := n0_; have HC2 := Aside0.mk hC2; clear hC2 hb hR n0_; rw [hsum] at hc2 ⊢))
    | (go_at_call 20; (with_reducible refine (heraldlaw1_num.calls _ _ _ rfl).mono ?_); rintro e w1_ ⟨rfl, hd⟩; have n0_ := Aside0.mk (KP.out.step hd.below); clear KP; (try (have n2_ := Aside0.mk (Kd.C_below HC2.out hd.below); clear HC2; have HC2 := n2_; clear n2_)); clear hd; (try clear hx1); have KP := n0_; clear n0_; have hx1 := KP.out.last HQL.out (by omega))
    | (go_at_call 33; first
        | ((with_reducible refine (place_Join.calls ⟨#[47]⟩ _ c1 lb t 0 _ KP.out.list HLC.out HF.out.join (HE.at_ KP.out.below).env).mono ?_); rintro e w1_ ⟨rfl, hb⟩; have n0_ := Aside0.mk (KP.out.step hb); clear KP; have KP := n0_; clear n0_ hb)
        | ((with_reducible refine (join_up HJ2.out _ (HE.at_ (KP.out.alloc _).below).env).mono ?_); rintro e w1_ ⟨rfl, hb⟩; have n0_ := Aside0.mk ((KP.out.alloc _).step hb); clear KP; have KP := n0_; clear n0_ hb)
        | ((with_reducible refine (place_Join.calls t A c ns j 0 _ KP.out.names hc HJ3.out (HE.at_ KP.out.below).env).mono ?_); rintro e w1_ ⟨rfl, hb⟩; have n0_ := Aside0.mk (KP.out.step hb); clear KP; have KP := n0_; clear n0_ hb))
    | (go_at_call 28; (with_reducible refine (place_Clean.calls t t 0 _ HF.out.clean (HE.at_ KP.out.below).env).mono ?_); rintro e w1_ ⟨rfl, hb⟩; have n0_ := Aside0.mk (KP.out.step hb); clear KP; have KP := n0_; clear n0_ hb)
    | (go_at_call 19; (with_reducible refine (place_Parent.calls t up 0 _ HU.out (HE.at_ KP.out.below).env).mono ?_); rintro e w1_ ⟨rfl, hb⟩; have n0_ := Aside0.mk (KP.out.step hb); clear KP; have KP := n0_; clear n0_ hb)
    | (go_at_call 39; (with_reducible refine (place_Name.calls t q 0 _ HQ.out (HE.at_ KP.out.below).env).mono ?_); rintro e w1_ ⟨rfl, hb⟩; have n0_ := Aside0.mk (KP.out.step hb); clear KP; have KP := n0_; clear n0_ hb)
    | (go_at_call 25; first
        | ((with_reducible refine (texts_same_calls (A0 := A2) (l := lb) (by omega) (by omega) _ (c_head HC2.out) (by omega) KP.out.list HLC.out HT1.out).mono ?_); rintro e w1_ ⟨rfl, hd⟩; have n0_ := Aside0.mk (KP.out.step hd.below); have n2_ := Aside0.mk (Kd.C_below HC2.out hd.below); clear KP HC2 hd; have KP := n0_; have HC2 := n2_; clear n0_ n2_)
        | ((with_reducible refine (texts_same_calls (l := ns) (by omega) (by omega) _ (c_tail HC2.out hc2) (by omega) KP.out.names hc HT2.out).mono ?_); rintro e w1_ ⟨rfl, hd⟩; have n0_ := Aside0.mk (KP.out.step hd.below); clear KP hd; have KP := n0_; clear n0_))
    | (go_at_call 26; (with_reducible refine (heraldlaw1_known.calls 8 true _ HK.out (HE.at_ KP.out.below)).mono ?_); rintro e w1_ ⟨rfl, hb⟩; have n0_ := Aside0.mk (KP.out.step hb); clear KP; have KP := n0_; clear n0_ hb))
  all_goals (go_ret; exact ⟨rfl, KP.out.below⟩)
set_option maxRecDepth 100000 in
set_option maxHeartbeats 4000000 in
theorem back_names_no (t : ByteArray) (A : Option Addr) (c : Nat) (ns : List ByteArray) (w : World) (l : List (List UInt8)) (lb : List ByteArray) (F : Facts t l lb) (hl : l ≠ []) (hn : ¬ ((ns.map tx).all okN = true ∧ l.length + ns.length ≤ 6)) (hnl : ns.length * 16 ≤ 140737488351232) (hr : Kd.string.C w A ns.length ns) (hc : ns.length ≤ c) (HE : Env2 w) :
    Calls Tryd.prog 14 #[.string t, .slice A ns.length c] w fun e w' => e = .returned (.bool true) ∧ Below w.heap.size w w' := by
  have hlen : lb.length = l.length := by rw [F.list, List.length_map]
  have hG := F.good
  obtain ⟨up, hup⟩ : ∃ up, up = bs (plc l.dropLast) := ⟨_, rfl⟩
  obtain ⟨q, hq⟩ : ∃ q, q = bs (lastL l) := ⟨_, rfl⟩
  have hll : 1 ≤ l.length := by cases l with | nil => exact absurd rfl hl | cons a b => simp
  have HF := Aside0.mk F
  have HU := Aside0.mk (show place_Parent.f t = some (up, 0) by
    unfold place_Parent.f
    rw [show t = bs (plc l) by rw [← F.text, bs_tx], parent_plc hG, if_neg hl, hup])
  have HQ := Aside0.mk (show place_Name.f t = some (q, 0) by
    unfold place_Name.f nameB nameL
    rw [F.text, parse_plc hG, hq]
    rfl)
  have HJ2 := Aside0.mk (show place_Join.f up [q] = some (t, 0) by
    unfold place_Join.f
    rw [if_pos (by simp)]
    unfold joinB
    rw [hup, hq, List.map_cons, List.map_nil, tx_bs, tx_bs, join_one hG hl, ← F.text, bs_tx])
  have HJ3 := Aside0.mk (show place_Join.f t ns = some (⟨#[]⟩, 10) by
    unfold place_Join.f
    rw [if_pos (by omega)]
    unfold joinB joinL
    rw [F.text, parse_plc hG]
    simp only
    rw [if_pos trivial, if_neg (fun h => hn ⟨h.1, by rw [List.length_map] at h; exact h.2⟩)]
    rfl)
  have HK := Aside0.mk (known_tells 8 (by omega))
  have HR := Aside0.mk hr
  have HQL := Aside0.mk (show rdOf ByteArray.empty lb ((lb.length : Int) - 1) = q by
    rw [hlen, show ((l.length : Int) - 1) = ((l.length - 1 : Nat) : Int) by omega, F.list, rdOf_map l (l.length - 1) (by omega), hq]
    congr 1
    unfold lastL
    rw [List.getLast?_eq_getElem?, List.getElem?_eq_getElem (by omega)]
    rfl)
  have hpos : 1 ≤ lb.length := by omega
  have hlb6 : lb.length ≤ 6 := by have := hG.1; omega
  clear hup hr hl hn hll hG F hq hlen
  go_enter Tryd.func14, Tryd.ntmps14
  go_wp2_with (first
    | (go_at_call 18; first
        | ((with_reducible refine (place_Parse.calls t lb 0 _ HF.out.parse HE.env).mono ?_); rintro e w1 ⟨v, rfl, hR, hb⟩; obtain ⟨A1, c1, rfl, hc1, hC1⟩ := Kd.R_reads hR; have HLC := Aside0.mk hc1; have KP := Aside0.mk (Keep.mk hb (Kd.C_below HR.out hb) hC1); clear HR hb hR hC1; obtain ⟨ad1, rfl, _⟩ := Kd.at_string KP.out.list ((lb.length : Int) - 1) (by omega) (by omega)))
    | (go_at_call 20; (with_reducible refine (heraldlaw1_num.calls _ _ _ rfl).mono ?_); rintro e w1_ ⟨rfl, hd⟩; have n0_ := Aside0.mk (KP.out.step hd.below); clear KP; clear hd; (try clear hx1); have KP := n0_; clear n0_; have hx1 := KP.out.last HQL.out (by omega))
    | (go_at_call 33; first
        | ((with_reducible refine (place_Join.calls ⟨#[47]⟩ _ c1 lb t 0 _ KP.out.list HLC.out HF.out.join (HE.at_ KP.out.below).env).mono ?_); rintro e w1_ ⟨rfl, hb⟩; have n0_ := Aside0.mk (KP.out.step hb); clear KP; have KP := n0_; clear n0_ hb)
        | ((with_reducible refine (join_up HJ2.out _ (HE.at_ (KP.out.alloc _).below).env).mono ?_); rintro e w1_ ⟨rfl, hb⟩; have n0_ := Aside0.mk ((KP.out.alloc _).step hb); clear KP; have KP := n0_; clear n0_ hb)
        | ((with_reducible refine (place_Join.calls t A c ns ⟨#[]⟩ 10 _ KP.out.names hc HJ3.out (HE.at_ KP.out.below).env).mono ?_); rintro e w1_ ⟨rfl, hb⟩; have n0_ := Aside0.mk (KP.out.step hb); clear KP; have KP := n0_; clear n0_ hb))
    | (go_at_call 28; (with_reducible refine (place_Clean.calls t t 0 _ HF.out.clean (HE.at_ KP.out.below).env).mono ?_); rintro e w1_ ⟨rfl, hb⟩; have n0_ := Aside0.mk (KP.out.step hb); clear KP; have KP := n0_; clear n0_ hb)
    | (go_at_call 19; (with_reducible refine (place_Parent.calls t up 0 _ HU.out (HE.at_ KP.out.below).env).mono ?_); rintro e w1_ ⟨rfl, hb⟩; have n0_ := Aside0.mk (KP.out.step hb); clear KP; have KP := n0_; clear n0_ hb)
    | (go_at_call 39; (with_reducible refine (place_Name.calls t q 0 _ HQ.out (HE.at_ KP.out.below).env).mono ?_); rintro e w1_ ⟨rfl, hb⟩; have n0_ := Aside0.mk (KP.out.step hb); clear KP; have KP := n0_; clear n0_ hb)
    | (go_at_call 26; (with_reducible refine (heraldlaw1_known.calls 8 true _ HK.out (HE.at_ KP.out.below)).mono ?_); rintro e w1_ ⟨rfl, hb⟩; have n0_ := Aside0.mk (KP.out.step hb); clear KP; have KP := n0_; clear n0_ hb))
  all_goals (go_ret; exact ⟨rfl, KP.out.below⟩)
set_option maxRecDepth 100000 in
set_option maxHeartbeats 4000000 in
theorem back_root_ok (t : ByteArray) (A : Option Addr) (c : Nat) (ns : List ByteArray) (w : World) (l : List (List UInt8)) (lb : List ByteArray) (F : Facts t l lb) (hl : l = []) (hn : (ns.map tx).all okN = true ∧ l.length + ns.length ≤ 6) (hr : Kd.string.C w A ns.length ns) (hc : ns.length ≤ c) (HE : Env2 w) :
    Calls Tryd.prog 14 #[.string t, .slice A ns.length c] w fun e w' => e = .returned (.bool true) ∧ Below w.heap.size w w' := by
  have hlen : lb.length = l.length := by rw [F.list, List.length_map]
  have hG := F.good
  obtain ⟨j, hj⟩ : ∃ j, j = bs (plc (l ++ ns.map tx)) := ⟨_, rfl⟩
  have hGj : Pl.Good (l ++ ns.map tx) := good_append hG hn.1 (by rw [List.length_map]; exact hn.2)
  have HF := Aside0.mk F
  have HJ3 := Aside0.mk (show place_Join.f t ns = some (j, 0) by
    unfold place_Join.f
    rw [if_pos (by omega)]
    unfold joinB joinL
    rw [F.text, parse_plc hG]
    simp only
    rw [if_pos trivial, if_pos ⟨hn.1, by rw [List.length_map]; exact hn.2⟩, hj])
  have HPJ := Aside0.mk (show place_Parse.f j = some (lb ++ ns, 0) by
    unfold place_Parse.f parseB
    rw [hj, tx_bs, parse_plc hGj, List.map_append, map_tx, F.list])
  have HT1 := Aside0.mk (texts_same lb (by have := hG.1; omega) 8 (by have := hG.1; omega))
  have HT2 := Aside0.mk (texts_same ns (by omega) 8 (by omega))
  have HK := Aside0.mk (known_tells 8 (by omega))
  have HR := Aside0.mk hr
  have hlb0 : lb.length ≤ 0 := by rw [hlen, hl]; simp
  have hlb6 : lb.length ≤ 6 := by have := hG.1; omega
  have hns6 : ns.length ≤ 6 := by omega
  have hsum : (lb ++ ns).length = lb.length + ns.length := List.length_append
  clear hj hr hl hn hGj hG F hlen
  go_enter Tryd.func14, Tryd.ntmps14
  go_wp2_with (first
    | (go_at_call 18; first
        | ((with_reducible refine (place_Parse.calls t lb 0 _ HF.out.parse HE.env).mono ?_); rintro e w1 ⟨v, rfl, hR, hb⟩; obtain ⟨A1, c1, rfl, hc1, hC1⟩ := Kd.R_reads hR; have HLC := Aside0.mk hc1; have KP := Aside0.mk (Keep.mk hb (Kd.C_below HR.out hb) hC1); clear HR hb hR hC1)
        | ((with_reducible refine (place_Parse.calls j (lb ++ ns) 0 _ HPJ.out (HE.at_ KP.out.below).env).mono ?_); rintro e w2 ⟨v, rfl, hR, hb⟩; obtain ⟨A2, c2, rfl, hc2, hC2⟩ := Kd.R_reads hR; have HLC2 := Aside0.mk hc2; have n0_ := Aside0.mk (KP.out.step hb); clear KP; have KP := n0_; have HC2 := Aside0.mk hC2; clear hC2 hb hR n0_; rw [hsum] at hc2 ⊢))
    | (go_at_call 20; (with_reducible refine (heraldlaw1_num.calls _ _ _ rfl).mono ?_); rintro e w1_ ⟨rfl, hd⟩; have n0_ := Aside0.mk (KP.out.step hd.below); clear KP; (try (have n2_ := Aside0.mk (Kd.C_below HC2.out hd.below); clear HC2; have HC2 := n2_; clear n2_)); clear hd; have KP := n0_; clear n0_)
    | (go_at_call 33; first
        | ((with_reducible refine (place_Join.calls ⟨#[47]⟩ _ c1 lb t 0 _ KP.out.list HLC.out HF.out.join (HE.at_ KP.out.below).env).mono ?_); rintro e w1_ ⟨rfl, hb⟩; have n0_ := Aside0.mk (KP.out.step hb); clear KP; have KP := n0_; clear n0_ hb)
        | ((with_reducible refine (place_Join.calls t A c ns j 0 _ KP.out.names hc HJ3.out (HE.at_ KP.out.below).env).mono ?_); rintro e w1_ ⟨rfl, hb⟩; have n0_ := Aside0.mk (KP.out.step hb); clear KP; have KP := n0_; clear n0_ hb))
    | (go_at_call 28; (with_reducible refine (place_Clean.calls t t 0 _ HF.out.clean (HE.at_ KP.out.below).env).mono ?_); rintro e w1_ ⟨rfl, hb⟩; have n0_ := Aside0.mk (KP.out.step hb); clear KP; have KP := n0_; clear n0_ hb)
    | (go_at_call 25; first
        | ((with_reducible refine (texts_same_calls (A0 := A2) (l := lb) (by omega) (by omega) _ (c_head HC2.out) (by omega) KP.out.list HLC.out HT1.out).mono ?_); rintro e w1_ ⟨rfl, hd⟩; have n0_ := Aside0.mk (KP.out.step hd.below); have n2_ := Aside0.mk (Kd.C_below HC2.out hd.below); clear KP HC2 hd; have KP := n0_; have HC2 := n2_; clear n0_ n2_)
        | ((with_reducible refine (texts_same_calls (l := ns) (by omega) (by omega) _ (c_tail HC2.out hc2) (by omega) KP.out.names hc HT2.out).mono ?_); rintro e w1_ ⟨rfl, hd⟩; have n0_ := Aside0.mk (KP.out.step hd.below); clear KP hd; have KP := n0_; clear n0_))
    | (go_at_call 26; (with_reducible refine (heraldlaw1_known.calls 8 true _ HK.out (HE.at_ KP.out.below)).mono ?_); rintro e w1_ ⟨rfl, hb⟩; have n0_ := Aside0.mk (KP.out.step hb); clear KP; have KP := n0_; clear n0_ hb))
  all_goals (go_ret; exact ⟨rfl, KP.out.below⟩)
set_option maxRecDepth 100000 in
set_option maxHeartbeats 4000000 in
theorem back_root_no (t : ByteArray) (A : Option Addr) (c : Nat) (ns : List ByteArray) (w : World) (l : List (List UInt8)) (lb : List ByteArray) (F : Facts t l lb) (hl : l = []) (hn : ¬ ((ns.map tx).all okN = true ∧ l.length + ns.length ≤ 6)) (hnl : ns.length * 16 ≤ 140737488351232) (hr : Kd.string.C w A ns.length ns) (hc : ns.length ≤ c) (HE : Env2 w) :
    Calls Tryd.prog 14 #[.string t, .slice A ns.length c] w fun e w' => e = .returned (.bool true) ∧ Below w.heap.size w w' := by
  have hlen : lb.length = l.length := by rw [F.list, List.length_map]
  have hG := F.good
  have HF := Aside0.mk F
  have HJ3 := Aside0.mk (show place_Join.f t ns = some (⟨#[]⟩, 10) by
    unfold place_Join.f
    rw [if_pos (by omega)]
    unfold joinB joinL
    rw [F.text, parse_plc hG]
    simp only
    rw [if_pos trivial, if_neg (fun h => hn ⟨h.1, by rw [List.length_map] at h; exact h.2⟩)]
    rfl)
  have HK := Aside0.mk (known_tells 8 (by omega))
  have HR := Aside0.mk hr
  have hlb0 : lb.length ≤ 0 := by rw [hlen, hl]; simp
  have hlb6 : lb.length ≤ 6 := by have := hG.1; omega
  clear hr hl hn hG F hlen
  go_enter Tryd.func14, Tryd.ntmps14
  go_wp2_with (first
    | (go_at_call 18; first
        | ((with_reducible refine (place_Parse.calls t lb 0 _ HF.out.parse HE.env).mono ?_); rintro e w1 ⟨v, rfl, hR, hb⟩; obtain ⟨A1, c1, rfl, hc1, hC1⟩ := Kd.R_reads hR; have HLC := Aside0.mk hc1; have KP := Aside0.mk (Keep.mk hb (Kd.C_below HR.out hb) hC1); clear HR hb hR hC1))
    | (go_at_call 20; (with_reducible refine (heraldlaw1_num.calls _ _ _ rfl).mono ?_); rintro e w1_ ⟨rfl, hd⟩; have n0_ := Aside0.mk (KP.out.step hd.below); clear KP; clear hd; have KP := n0_; clear n0_)
    | (go_at_call 33; first
        | ((with_reducible refine (place_Join.calls ⟨#[47]⟩ _ c1 lb t 0 _ KP.out.list HLC.out HF.out.join (HE.at_ KP.out.below).env).mono ?_); rintro e w1_ ⟨rfl, hb⟩; have n0_ := Aside0.mk (KP.out.step hb); clear KP; have KP := n0_; clear n0_ hb)
        | ((with_reducible refine (place_Join.calls t A c ns ⟨#[]⟩ 10 _ KP.out.names hc HJ3.out (HE.at_ KP.out.below).env).mono ?_); rintro e w1_ ⟨rfl, hb⟩; have n0_ := Aside0.mk (KP.out.step hb); clear KP; have KP := n0_; clear n0_ hb))
    | (go_at_call 28; (with_reducible refine (place_Clean.calls t t 0 _ HF.out.clean (HE.at_ KP.out.below).env).mono ?_); rintro e w1_ ⟨rfl, hb⟩; have n0_ := Aside0.mk (KP.out.step hb); clear KP; have KP := n0_; clear n0_ hb)
    | (go_at_call 26; (with_reducible refine (heraldlaw1_known.calls 8 true _ HK.out (HE.at_ KP.out.below)).mono ?_); rintro e w1_ ⟨rfl, hb⟩; have n0_ := Aside0.mk (KP.out.step hb); clear KP; have KP := n0_; clear n0_ hb))
  all_goals (go_ret; exact ⟨rfl, KP.out.below⟩)

/-- **PlaceBack, AT EVERY TEXT AND LIST: true.** -/
theorem back_walk (t : ByteArray) (A : Option Addr) (c : Nat) (ns : List ByteArray) (w : World) (_ : t.size ≤ 140737488351232) (hr : Kd.string.C w A ns.length ns) (hc : ns.length ≤ c) (hnl : ns.length * 16 ≤ 140737488351232) (HE : Env2 w) :
    Calls Tryd.prog 14 #[.string t, .slice A ns.length c] w fun e w' => e = .returned (.bool true) ∧ Below w.heap.size w w' := by
  by_cases h : (parseL (tx t)).2 = 0
  · have F := facts_of h
    by_cases hl : (parseL (tx t)).1 = []
    · by_cases hn : (ns.map tx).all okN = true ∧ (parseL (tx t)).1.length + ns.length ≤ 6
      · exact back_root_ok t A c ns w _ _ F hl hn hr hc HE
      · exact back_root_no t A c ns w _ _ F hl hn hnl hr hc HE
    · by_cases hn : (ns.map tx).all okN = true ∧ (parseL (tx t)).1.length + ns.length ≤ 6
      · exact back_names_ok t A c ns w _ _ F hl hn hr hc HE
      · exact back_names_no t A c ns w _ _ F hl hn hnl hr hc HE
  · exact back_none t A c ns w h HE
end Go.Proofs.YtfdinkofcjcahaaDoor.Law
