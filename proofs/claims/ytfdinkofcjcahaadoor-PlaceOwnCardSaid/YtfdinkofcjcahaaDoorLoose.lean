/- The walk of heraldlaw1.loose: the names with marks between them. -/
import Derived.Test.YtfdinkofcjcahaaDoorClean
namespace Go.Proofs.YtfdinkofcjcahaaDoor.Ext
open Go.RowKit Go.Proofs.YtfdinkofcjcahaaDoor.Ord Go.Proofs.YtfdinkofcjcahaaDoor.Pl Go.Proofs.YtfdinkofcjcahaaDoorW.PrintWords

/-- What is still to come when the round i begins. -/
def rest (l : List (List UInt8)) (ms : List Int) (i : Nat) : List UInt8 := if i ≤ l.length then looseL (l.drop i) (ms.drop i) else []
theorem rest_zero (l : List (List UInt8)) (ms : List Int) : rest l ms 0 = looseL l ms := rfl
theorem rest_name {l : List (List UInt8)} {ms : List Int} {i : Nat} (h : i < l.length) : rest l ms i = Pl.mark ((ms.drop i).headD 0) ++ l[i]'h ++ rest l ms (i + 1) := by
  unfold rest
  rw [if_pos (by omega), if_pos (by omega), List.drop_eq_getElem_cons h, looseL, List.tail_drop]
theorem rest_last {l : List (List UInt8)} {ms : List Int} : rest l ms l.length = Pl.mark ((ms.drop l.length).headD 0) := by
  unfold rest
  rw [if_pos (by omega), List.drop_length, looseL]
theorem rest_end {l : List (List UInt8)} {ms : List Int} : rest l ms (l.length + 1) = [] := by
  unfold rest
  rw [if_neg (by omega)]
theorem head_in {ms : List Int} {i : Nat} (h : i < ms.length) : (ms.drop i).headD 0 = ms[i]'h := by rw [List.drop_eq_getElem_cons h]; rfl
theorem head_out {ms : List Int} {i : Nat} (h : ¬ i < ms.length) : (ms.drop i).headD 0 = 0 := by rw [List.drop_eq_nil_of_le (by omega)]; rfl
/-- Between two rounds. -/
structure Loosed (w : World) (l : List (List UInt8)) (ms : List Int) (i : Nat) (s : ByteArray) (W : World) : Prop where mk ::
  same : looseL l ms = tx s ++ rest l ms i
  size : s.size ≤ 40 * i
  below : Below w.heap.size w W

theorem mark_len (m : Int) : (Pl.mark m).length ≤ 16 := by
  unfold Pl.mark
  repeat (first | (split; · simp) | simp)
theorem Loosed.step {w : World} {l : List (List UInt8)} {ms : List Int} {i : Nat} {s : ByteArray} {W : World} (h : Loosed w l ms i s W) (hi : i < l.length) (hG : Pl.Good l) {m : Int} (hm : (ms.drop i).headD 0 = m) (t : ByteArray) (ht : tx t = tx s ++ (Pl.mark m ++ l[i]'hi)) : Loosed w l ms (i + 1) t W := by
  refine ⟨by rw [h.same, rest_name hi, hm, ht]; simp, ?_, h.below⟩
  have h1 := mark_len m
  have h2 := (Pl.okN_len (hG.ok (List.getElem_mem hi))).2
  have h3 := h.size
  have h4 := congrArg List.length ht
  rw [List.length_append, List.length_append, tx_length, tx_length] at h4
  omega
theorem Loosed.last {w : World} {l : List (List UInt8)} {ms : List Int} {s : ByteArray} {W : World} (h : Loosed w l ms l.length s W) {m : Int} (hm : (ms.drop l.length).headD 0 = m) (t : ByteArray) (ht : tx t = tx s ++ Pl.mark m) : Loosed w l ms (l.length + 1) t W := by
  refine ⟨by rw [h.same, rest_last, hm, ht, rest_end]; simp, ?_, h.below⟩
  have h1 := mark_len m
  have h3 := h.size
  have h4 := congrArg List.length ht
  rw [List.length_append, tx_length, tx_length] at h4
  omega
theorem five (m : Int) : (m = 1 ∨ m = 2 ∨ m = 3 ∨ m = 4) ∨ (m ≠ 1 ∧ m ≠ 2 ∧ m ≠ 3 ∧ m ≠ 4) := by omega
theorem mark_else {m : Int} (h : m ≠ 1 ∧ m ≠ 2 ∧ m ≠ 3 ∧ m ≠ 4) : Pl.mark m = [47] := by
  unfold Pl.mark
  rw [if_neg h.1, if_neg h.2.1, if_neg h.2.2.1, if_neg h.2.2.2]

set_option maxRecDepth 100000 in
set_option maxHeartbeats 2000000 in
theorem loose_any (l : List (List UInt8)) (ms : List Int) (hG : Pl.Good l) (A0 : Option Addr) (c0 : Nat) (A1 : Option Addr) (c1 : Nat) (w : World) (hr0 : Kd.C Kd.string w A0 l.length (l.map bs)) (hr1 : Kd.C (Kd.int .i64) w A1 ms.length ms) :
    Calls Tryd.prog 31 #[.slice A0 l.length c0, .slice A1 ms.length c1] w fun e w' => e = .returned (.string (bs (looseL l ms))) ∧ Below w.heap.size w w' := by
  have h6 := hG.1
  have HR0 := Aside0.mk hr0
  have HR1 := Aside0.mk hr1
  clear hr0 hr1
  go_enter Tryd.func31, Tryd.ntmps31
  go_wp2
  have HL := Aside0.mk (show (l.map bs).length = l.length from List.length_map bs)
  go_loopw [5, 6] (fun v5 v6 W => ∃ (s : ByteArray) (i : Nat), v5 = .string s ∧ v6 = .int .i64 i ∧ i ≤ l.length + 1 ∧ Loosed w l ms i s W) (fun _ v6 _ => l.length + 1 - (intOf v6).toNat)
  case atStart => exact ⟨ByteArray.empty, 0, rfl, rfl, by omega, rfl, by simp, Below.refl _ _⟩
  case round =>
    obtain ⟨s, i, rfl, rfl, hi, HS⟩ := hrel
    have hss := HS.size
    have hsb : s.size ≤ 280 := by omega
    by_cases hlt : i < l.length
    · obtain ⟨ad, rfl, hx⟩ := Kd.at_string (Kd.C_below HR0.out HS.below) (i : Int) (by omega) (by omega)
      rw [rdOf_map l i hlt, Int.toNat_natCast] at hx
      have hq : (bs (l[i]'hlt)).size ≤ 16 := by
        have := (okN_len (hG.ok (List.getElem_mem hlt))).2
        rw [← tx_length, tx_bs]
        exact this
      by_cases hmt : i < ms.length
      · obtain ⟨ad1, rfl, hx1⟩ := Kd.at_int (Kd.C_below HR1.out HS.below) (i : Int) (by omega) (by omega)
        rw [show rd ms (i : Int) = (ms.drop i).headD 0 by rw [head_in hmt]; simp [rd, hmt], Int.toNat_natCast] at hx1
        obtain ⟨m, hm⟩ : ∃ m, (ms.drop i).headD 0 = m := ⟨_, rfl⟩
        rw [hm] at hx1
        rcases five m with (rfl | rfl | rfl | rfl) | h5
        · go_wp2
          go_roundw
          case rel => exact ⟨_, i + 1, rfl, by go_num, by omega, HS.step hlt hG hm _ (by simp [tx, bs, Pl.mark])⟩
          case measure => simp [intOf]; omega
        · go_wp2
          go_roundw
          case rel => exact ⟨_, i + 1, rfl, by go_num, by omega, HS.step hlt hG hm _ (by simp [tx, bs, Pl.mark])⟩
          case measure => simp [intOf]; omega
        · go_wp2
          go_roundw
          case rel => exact ⟨_, i + 1, rfl, by go_num, by omega, HS.step hlt hG hm _ (by simp [tx, bs, Pl.mark])⟩
          case measure => simp [intOf]; omega
        · go_wp2
          go_roundw
          case rel => exact ⟨_, i + 1, rfl, by go_num, by omega, HS.step hlt hG hm _ (by simp [tx, bs, Pl.mark])⟩
          case measure => simp [intOf]; omega
        · have b1 : (m == 1) = false := beq_eq_false_iff_ne.2 h5.1
          have b2 : (m == 2) = false := beq_eq_false_iff_ne.2 h5.2.1
          have b3 : (m == 3) = false := beq_eq_false_iff_ne.2 h5.2.2.1
          have b4 : (m == 4) = false := beq_eq_false_iff_ne.2 h5.2.2.2
          go_wp2
          go_roundw
          case rel => exact ⟨_, i + 1, rfl, by go_num, by omega, HS.step hlt hG hm _ (by rw [mark_else h5]; simp [tx, bs])⟩
          case measure => simp [intOf]; omega
      · go_wp2
        go_roundw
        case rel => exact ⟨_, i + 1, rfl, by go_num, by omega, HS.step hlt hG (head_out hmt) _ (by simp [tx, bs, Pl.mark])⟩
        case measure => simp [intOf]; omega
    · by_cases hel : i = l.length
      · subst hel
        by_cases hmt : l.length < ms.length
        · obtain ⟨ad1, rfl, hx1⟩ := Kd.at_int (Kd.C_below HR1.out HS.below) (l.length : Int) (by omega) (by omega)
          rw [show rd ms (l.length : Int) = (ms.drop l.length).headD 0 by rw [head_in hmt]; simp [rd, hmt], Int.toNat_natCast] at hx1
          obtain ⟨m, hm⟩ : ∃ m, (ms.drop l.length).headD 0 = m := ⟨_, rfl⟩
          rw [hm] at hx1
          rcases five m with (rfl | rfl | rfl | rfl) | h5
          · go_wp2
            go_roundw
            case rel => exact ⟨_, l.length + 1, rfl, by go_num, by omega, HS.last hm _ (by simp [tx, Pl.mark])⟩
            case measure => simp [intOf]
          · go_wp2
            go_roundw
            case rel => exact ⟨_, l.length + 1, rfl, by go_num, by omega, HS.last hm _ (by simp [tx, Pl.mark])⟩
            case measure => simp [intOf]
          · go_wp2
            go_roundw
            case rel => exact ⟨_, l.length + 1, rfl, by go_num, by omega, HS.last hm _ (by simp [tx, Pl.mark])⟩
            case measure => simp [intOf]
          · go_wp2
            go_roundw
            case rel => exact ⟨_, l.length + 1, rfl, by go_num, by omega, HS.last hm _ (by simp [tx, Pl.mark])⟩
            case measure => simp [intOf]
          · have b1 : (m == 1) = false := beq_eq_false_iff_ne.2 h5.1
            have b2 : (m == 2) = false := beq_eq_false_iff_ne.2 h5.2.1
            have b3 : (m == 3) = false := beq_eq_false_iff_ne.2 h5.2.2.1
            have b4 : (m == 4) = false := beq_eq_false_iff_ne.2 h5.2.2.2
            go_wp2
            go_roundw
            case rel => exact ⟨_, l.length + 1, rfl, by go_num, by omega, HS.last hm _ (by rw [mark_else h5]; simp [tx])⟩
            case measure => simp [intOf]
        · go_wp2
          go_roundw
          case rel => exact ⟨_, l.length + 1, rfl, by go_num, by omega, HS.last (head_out hmt) _ (by simp [tx, Pl.mark])⟩
          case measure => simp [intOf]
      · have he : i = l.length + 1 := by omega
        have hn : ¬ i ≤ l.length := by omega
        have hn' : decide ((i : Int) ≤ (l.length : Int)) = false := by simp; omega
        have HF := Aside0.mk (show looseL l ms = tx s by rw [HS.same, he, rest_end, List.append_nil])
        clear he
        go_wp2
        go_ret
        exact ⟨by rw [HF.out, bs_tx]; rfl, HS.below⟩
theorem heraldlaw1_loose.calls (A0 : Option Addr) (c0 : Nat) (l0 : List ByteArray) (A1 : Option Addr) (c1 : Nat) (l1 : List Int) (r : ByteArray) (w : World) (hr0 : Kd.C Kd.string w A0 l0.length l0) (_hc0 : l0.length ≤ c0) (hr1 : Kd.C (Kd.int .i64) w A1 l1.length l1) (_hc1 : l1.length ≤ c1) (h : heraldlaw1_loose.f l0 l1 = some r) :
    Calls Tryd.prog 31 #[.slice A0 l0.length c0, .slice A1 l1.length c1] w fun e w' => e = .returned (.string r) ∧ Below w.heap.size w w' := by
  unfold heraldlaw1_loose.f at h
  by_cases hg : (l0.map tx).length ≤ 6 ∧ (l0.map tx).all Name.okN = true
  · rw [if_pos hg] at h
    obtain rfl := Option.some.inj h
    have h1 := loose_any (l0.map tx) l1 hg A0 c0 A1 c1 w (by rw [map_tx, List.length_map]; exact hr0) hr1
    rw [List.length_map] at h1
    exact h1
  · rw [if_neg hg] at h
    cases h
end Go.Proofs.YtfdinkofcjcahaaDoor.Ext
