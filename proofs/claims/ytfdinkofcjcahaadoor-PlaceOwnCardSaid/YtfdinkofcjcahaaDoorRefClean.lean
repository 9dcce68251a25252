/- The walk of heraldref1.Clean: pieces, then the names on a stack of its own. -/
import Derived.Test.YtfdinkofcjcahaaDoorClean
namespace Go.Proofs.YtfdinkofcjcahaaDoor.Ext
open Go Go.RowKit Go.Shelf Go.Proofs.YtfdinkofcjcahaaDoor.Ord Go.Proofs.YtfdinkofcjcahaaDoor.Pl Go.Proofs.YtfdinkofcjcahaaDoorW.PrintWords

theorem drop_map {l : List (List UInt8)} {i : Nat} (h : i < l.length) : l.drop i = (l[i]'h) :: l.drop (i + 1) := List.drop_eq_getElem_cons h
/-- Between two rounds of the document's Clean: what is left of the pieces, handed to the stack, answers as the whole. -/
structure Stack (w W1 : World) (ps acc : List (List UInt8)) (i : Nat) (v : Value) (W : World) : Prop where mk ::
  same : clean [] ps = clean acc (ps.drop i)
  ok : acc.all Name.okN = true
  len : acc.length ≤ i
  row : W.ownsRow W1.heap.size 9 1 v acc.length (cells acc)
  below : Below W1.heap.size W1 W

set_option maxRecDepth 100000 in
set_option maxHeartbeats 2000000 in
theorem refclean_loop (s : ByteArray) (w : World) (hs : s.size ≤ 65536) (hp : (tx s).head? = some 47) :
    Calls Tryd.prog 27 #[.string s] w fun e W' => e = .returned (.tuple #[.string (bs (cleanEnd (clean [] (pcs (tx s).tail))).1), .int .i64 (cleanEnd (clean [] (pcs (tx s).tail))).2]) ∧ Below w.heap.size w W' := by
  have hpos : 1 ≤ s.size := by
    rw [← tx_length]
    cases hh : tx s with
    | nil => rw [hh] at hp; simp at hp
    | cons c r => simp
  have t1 : s.toList.isEmpty = false := by
    rw [show s.toList = tx s from ByteArray.toList_eq s]
    cases hh : tx s with
    | nil => rw [hh] at hp; simp at hp
    | cons a b => rfl
  have t2 : (((s[0]'(by omega)).toNat : Int) != 47) = false := by
    have h0 := drop_cons s 0 (by omega)
    rw [List.drop_zero] at h0
    rw [h0] at hp
    rw [Option.some.inj hp]
    rfl
  have HPC := Aside0.mk (pieces_tells s (by omega) hpos (s.size + 3) (by omega))
  obtain ⟨ps, hps⟩ : ∃ ps, ps = pcs (tx s).tail := ⟨_, rfl⟩
  have hlen : ps.length ≤ 65537 := by
    have h1 := pcs_len' (tx s).tail
    rw [← hps, List.length_tail, tx_length] at h1
    omega
  rw [← hps] at HPC ⊢
  clear hp hps
  go_enter Tryd.func27, Tryd.ntmps27
  go_wp2_with (go_at_call 50; (with_reducible refine (PRe.heraldref1_pieces.calls (s.size + 3) s (ps.map bs) _ HPC.out).mono ?_); rintro e W1 ⟨v, rfl, hR, hb⟩; have HB := Aside0.mk hb; clear hb; obtain ⟨A, c, rfl, hcap, hC⟩ := Kd.R_reads hR; have HC := Aside0.mk hC; clear hC hR)
  have HL := Aside0.mk (show (ps.map bs).length = ps.length from List.length_map bs)
  clear HPC
  obtain ⟨i0, hi0, hz0, hz1, hz2⟩ := info_parts infoS
  go_loopw [5, 6] (fun v5 v6 W => ∃ (acc : List (List UInt8)) (i : Nat), v6 = .int .i64 i ∧ i ≤ ps.length ∧ Stack w W1 ps acc i v5 W) (fun _ v6 _ => ps.length - (intOf v6).toNat)
  case atStart => exact ⟨[], 0, rfl, Nat.zero_le _, rfl, rfl, Nat.le_refl _, World.ownsRow_nil _ _ _ _, Below.refl _ _⟩
  case round =>
    obtain ⟨acc, i, rfl, hi, HS⟩ := hrel
    obtain ⟨A', cap, rfl⟩ := own_slice HS.row
    have hal := HS.len
    by_cases hlt : i < ps.length
    · obtain ⟨ad, rfl, hx⟩ := Kd.at_string (Kd.C_below HC.out HS.below) (i : Int) (by omega) (by rw [HL.out]; omega)
      rw [rdOf_map ps i hlt, Int.toNat_natCast] at hx
      have hcv := HS.same
      rw [drop_map hlt] at hcv
      obtain ⟨q, hq⟩ : ∃ q, q = ps[i]'hlt := ⟨_, rfl⟩
      rw [← hq] at hcv hx
      clear hq
      have htx : (bs q).toList = q := (ByteArray.toList_eq (bs q)).trans (tx_bs q)
      have HCV := Aside0.mk hcv
      clear hcv
      by_cases e1 : q = []
      · have t3 : (bs q).toList.isEmpty = true := by rw [htx, e1]; rfl
        have HN := HCV.out
        rw [e1, clean, if_pos rfl] at HN
        have HN := Aside0.mk HN
        clear e1 htx HCV
        go_wp2
        go_roundw
        case rel => exact ⟨acc, i + 1, by go_num, by omega, HN.out, HS.ok, by have := HS.len; omega, HS.row, HS.below⟩
        case measure => simp [intOf]; omega
      · have t3 : (bs q).toList.isEmpty = false := by
          rw [htx]
          cases q with
          | nil => exact absurd rfl e1
          | cons a b => rfl
        by_cases e2 : q = [46]
        · have t4 : ((bs q).toList == [46]) = true := by rw [htx, e2]; rfl
          have HN := HCV.out
          rw [e2, clean, if_neg (by simp), if_pos rfl] at HN
          have HN := Aside0.mk HN
          clear e1 e2 htx HCV
          go_wp2
          go_roundw
          case rel => exact ⟨acc, i + 1, by go_num, by omega, HN.out, HS.ok, by have := HS.len; omega, HS.row, HS.below⟩
          case measure => simp [intOf]; omega
        · have t4 : ((bs q).toList == [46]) = false := by rw [htx, beq_eq_false_iff_ne]; exact e2
          by_cases e3 : q = [46, 46]
          · have t5 : ((bs q).toList == [46, 46]) = true := by rw [htx, e3]; rfl
            by_cases e4 : acc = []
            · have HN := HCV.out
              rw [e3, clean, if_neg (by simp), if_neg (by simp), if_pos rfl, if_pos e4] at HN
              have HN := Aside0.mk HN
              have t6 : ((acc.length : Int) == 0) = true := by rw [e4]; rfl
              clear e1 e2 e3 e4 htx HCV
              go_wp2
              go_ret2
              exact ⟨by first | rfl | (rw [HN.out]; rfl), HB.out.trans (HS.below.mono HB.out.size)⟩
            · obtain ⟨acc, q', rfl⟩ : ∃ acc' q', acc = acc' ++ [q'] := ⟨acc.dropLast, acc.getLast e4, (List.dropLast_concat_getLast e4).symm⟩
              have HN := HCV.out
              rw [e3, clean, if_neg (by simp), if_neg (by simp), if_pos rfl, if_neg (by simp), List.dropLast_concat] at HN
              have HN := Aside0.mk HN
              have hok' : acc.all Name.okN = true := by
                have hok := HS.ok
                rw [List.all_append] at hok
                exact (Bool.and_eq_true_iff.1 hok).1
              have hrow := HS.row
              have hll : (acc ++ [q']).length = acc.length + 1 := by simp
              rw [hll] at hrow hal
              rw [hll]
              obtain ⟨g, cap', hsv⟩ := ownsRow_succ hrow
              injection hsv with hsA _ hsC
              subst hsA hsC
              have hcap' : acc.length + 1 ≤ cap := by
                rcases hrow.2 with ⟨h0, _⟩ | ⟨_, _, _, hs', _, _, hle, _⟩
                · cases h0
                · injection hs' with _ _ hc'
                  omega
              have hpop := ownsRow_pop (n := acc.length) (size := 1) (xs := cells acc) (last := [.string (bs q')]) (by simp [cells]) (by simpa [cells] using hrow)
              have t6 : (((acc.length + 1 : Nat) : Int) == 0) = false := by rw [beq_eq_false_iff_ne]; omega
              have HR := Aside0.mk hpop
              clear e1 e2 e3 e4 htx HCV hrow hpop
              go_wp2
              go_roundw
              case rel => exact ⟨acc, i + 1, by go_num, by omega, HN.out, hok', by omega, HR.out, HS.below⟩
              case measure => simp [intOf]; omega
          · have t5 : ((bs q).toList == [46, 46]) = false := by rw [htx, beq_eq_false_iff_ne]; exact e3
            by_cases e5 : Name.okN q = true
            · have HN := HCV.out
              rw [clean, if_neg e1, if_neg e2, if_neg e3, if_pos e5] at HN
              have HN := Aside0.mk HN
              have HI := Aside0.mk (show PRe.heraldref1_NameOf.f 21 (bs q) = some true by rw [nameOf_bs q 21 (by omega), e5])
              have hok' : (acc ++ [q]).all Name.okN = true := by rw [List.all_append, HS.ok]; simp [e5]
              clear e1 e2 e3 e5 htx HCV
              have HRK := Aside0.mk (show Kd.R Kd.string 9 wr W1.heap.size (fun _ => True) (.slice A' acc.length cap) (acc.map bs) from Kd.R_of_own (by rw [List.length_map]; exact HS.row) (fun _ _ => trivial))
              have HBW := Aside0.mk HS.below
              go_wp2_with (first | (go_at_call 51; (with_reducible refine (PRe.heraldref1_NameOf.calls 21 (bs q) true _ HI.out).mono ?_); rintro e w3 ⟨rfl, ⟨n3, rfl⟩⟩) | ((with_reducible refine gate_builtin (b := .append) (xs := #[.tmp 58, .tmp 63]) rfl ?_); at_builtin; refine Kd.R_append Kd.string (w0 := W1) W1.heap.size rfl (.tmp 58) (.tmp 63) 23 9 (.string ByteArray.empty) 16 rfl Tryd.underlying23 infoS rfl (by decide) (by omega) (.slice A' acc.length cap) (acc.map bs) (bs q) [.string (bs q)] (fun _ => True) (fun _ => False) rfl rfl rfl (fun _ hk => hk.elim) (fun _ _ => trivial) (Kd.R_drewN HRK.out _) (pw_below_drewN HBW.out _) ?aS ?aL ?_; (case aS => have := HBW.out.size; simp; omega); (case aL => rw [List.length_map]; omega); intro v1 w8 ho hb8 hg hat; have HO8 := Aside0.mk ho; have HB8 := Aside0.mk hb8; clear ho hb8 hg hat))
              go_roundw
              case rel =>
                refine ⟨acc ++ [q], i + 1, by go_num, by omega, HN.out, hok', by simp; omega, ?_, HB8.out⟩
                have h1 := Kd.own_of_R HO8.out
                rw [show (acc ++ [q]).length = (acc.map bs ++ [bs q]).length by simp, show cells (acc ++ [q]) = encs Value.string (acc.map bs ++ [bs q]) by simp [cells, encs]]
                exact h1
              case measure => simp [intOf]; omega
            · have HN := HCV.out
              rw [clean, if_neg e1, if_neg e2, if_neg e3, if_neg e5] at HN
              have HN := Aside0.mk HN
              have HI := Aside0.mk (show PRe.heraldref1_NameOf.f 21 (bs q) = some false by rw [nameOf_bs q 21 (by omega), Bool.eq_false_iff.2 e5])
              clear e1 e2 e3 e5 htx HCV
              go_wp2_with (go_at_call 51; (with_reducible refine (PRe.heraldref1_NameOf.calls 21 (bs q) false _ HI.out).mono ?_); rintro e w3 ⟨rfl, hb3⟩)
              go_ret2
              exact ⟨by first | rfl | (rw [HN.out]; rfl), (HB.out.trans (HS.below.mono HB.out.size)).trans (hb3.below.mono (HB.out.trans (HS.below.mono HB.out.size)).size)⟩
    · have hend : i = ps.length := by omega
      have HN := Aside0.mk (show clean [] ps = some acc by rw [HS.same, hend, List.drop_length]; rfl)
      have hle : acc.length ≤ 65537 := by omega
      by_cases h6 : acc.length > 6
      · go_wp2
        go_ret2
        exact ⟨by first | (rw [HN.out, cleanEnd, if_pos h6]; rfl) | (rw [cleanEnd, if_pos h6]; rfl), HB.out.trans (HS.below.mono HB.out.size)⟩
      · have HP' := Aside0.mk (of_tells acc ⟨by omega, HS.ok⟩ 8 (by omega))
        have HR : (Kd.R Kd.string 9 wr W1.heap.size (fun _ => True) (.slice A' acc.length cap) (acc.map bs)) := Kd.R_of_own (by rw [List.length_map]; exact HS.row) (fun _ _ => trivial)
        have HC' := Aside0.mk (Kd.R_reads' HR)
        have HL' := Aside0.mk (show (acc.map bs).length = acc.length from List.length_map bs)
        clear HR
        go_wp2_with (go_at_call 52; rw [← HL'.out]; (with_reducible refine (PRe.heraldref1_Of.calls 8 A' cap (acc.map bs) (bs (plc acc)) _ HC'.out.2.2 (HL'.out ▸ HC'.out.2.1) HP'.out).mono ?_); rintro e w3 ⟨rfl, hb3⟩)
        go_ret2
        exact ⟨by first | (rw [HN.out, cleanEnd, if_neg h6]; rfl) | (rw [cleanEnd, if_neg h6]; rfl), (HB.out.trans (HS.below.mono HB.out.size)).trans (hb3.below.mono (HB.out.trans (HS.below.mono HB.out.size)).size)⟩

set_option maxRecDepth 100000 in
theorem refclean_long (s : ByteArray) (w : World) (hs : ¬ s.size ≤ 65536) :
    Calls Tryd.prog 27 #[.string s] w fun e W' => e = .returned (.tuple #[.string ByteArray.empty, .int .i64 2]) ∧ Below w.heap.size w W' := by
  have hlt : (65536 : Int) < s.size := by omega
  go_enter Tryd.func27, Tryd.ntmps27
  go_wp2
  go_ret2
  exact ⟨rfl, Below.refl _ _⟩

set_option maxRecDepth 100000 in
theorem refclean_bare (s : ByteArray) (w : World) (hs : s.size ≤ 65536) (hp : (tx s).head? ≠ some 47) :
    Calls Tryd.prog 27 #[.string s] w fun e W' => e = .returned (.tuple #[.string ByteArray.empty, .int .i64 10]) ∧ Below w.heap.size w W' := by
  by_cases h0 : s.size = 0
  · have t1 : s.toList.isEmpty = true := by
      rw [show s.toList = tx s from ByteArray.toList_eq s]
      have := tx_length s
      rw [h0] at this
      rw [List.length_eq_zero_iff.1 this]
      rfl
    go_enter Tryd.func27, Tryd.ntmps27
    go_wp2
    go_ret2
    exact ⟨rfl, Below.refl _ _⟩
  · have hpos : 0 < s.size := by omega
    have hd := drop_cons s 0 (by omega)
    rw [List.drop_zero] at hd
    have t1 : s.toList.isEmpty = false := by
      rw [show s.toList = tx s from ByteArray.toList_eq s, hd]
      rfl
    have t2 : (((s[0]'(by omega)).toNat : Int) != 47) = true := by
      rw [bne_iff_ne]
      intro e
      apply hp
      rw [hd, show s[0]'(by omega) = 47 from UInt8.toNat_inj.1 (by simpa using (by omega : (s[0]'(by omega)).toNat = 47))]
      rfl
    clear hp hd
    go_enter Tryd.func27, Tryd.ntmps27
    go_wp2
    go_ret2
    exact ⟨rfl, Below.refl _ _⟩

/-- **heraldref1.Clean, AT EVERY TEXT: what cleanB says.** -/
theorem refclean_any (s : ByteArray) (w : World) : Calls Tryd.prog 27 #[.string s] w fun e W' => e = .returned (.tuple #[.string (cleanB s).1, .int .i64 (cleanB s).2]) ∧ Below w.heap.size w W' := by
  unfold cleanB cleanL
  rw [tx_length]
  by_cases h1 : s.size ≤ 65536
  · rw [if_neg (by omega)]
    by_cases h2 : (tx s).head? = some 47
    · rw [if_pos h2]
      exact refclean_loop s w h1 h2
    · rw [if_neg h2]
      exact refclean_bare s w h1 h2
  · rw [if_pos (by omega)]
    exact refclean_long s w h1
theorem heraldref1_Clean.calls (a0 : ByteArray) (r1 : ByteArray) (r2 : Int) (w : World) (h : heraldref1_Clean.f a0 = some (r1, r2)) :
    Calls Tryd.prog 27 #[.string a0] w fun e w' => e = .returned (.tuple #[.string r1, .int .i64 r2]) ∧ Below w.heap.size w w' := by
  unfold heraldref1_Clean.f at h
  by_cases hl : a0.size ≤ maxLen
  · rw [if_pos hl] at h
    obtain ⟨rfl, rfl⟩ := Prod.mk.inj (Option.some.inj h)
    exact refclean_any a0 w
  · rw [if_neg hl] at h
    cases h
end Go.Proofs.YtfdinkofcjcahaaDoor.Ext
