/- The walk of place.Counted. -/
import Derived.Test.YtfdinkofcjcahaaDoorApi
import Derived.WalkLawsBesides
import Derived.Outline
namespace Go.Proofs.YtfdinkofcjcahaaDoor.Ext
open Go.RowKit Go.Proofs.YtfdinkofcjcahaaDoorW.PrintWords Go.Proofs.YtfdinkofcjcahaaDoor.Ord Go.Proofs.YtfdinkofcjcahaaDoor.Pl

def place_Counted.f (a0 : ByteArray) (a1 : Int) : Option (ByteArray × Int) := some (countedB a0 a1)
/-- Zeros ahead, then the digits: five signs. -/
theorem digits_small (n : Nat) (h : n < 100000) : (Lib.decDigits n).length ≤ 5 ∧ 1 ≤ (Lib.decDigits n).length ∧ Lib.repeatL [48] (5 - (Lib.decDigits n).length) ++ Lib.decDigits n = dig5 n := by
  have z (m : Nat) (hm : ¬ m < 10) : Lib.decDigits m = Lib.decDigits (m / 10) ++ [UInt8.ofNat (48 + m % 10)] := by rw [Lib.decDigits, dif_neg hm]
  by_cases h1 : n < 10
  · rw [Lib.decDigits_one h1]
    refine ⟨by simp, by simp, ?_⟩
    simp only [dig5, List.length_cons, List.length_nil, Nat.zero_add, show 5 - 1 = 4 from rfl, Lib.repeatL]
    have e1 : n / 10000 % 10 = 0 := by omega
    have e2 : n / 1000 % 10 = 0 := by omega
    have e3 : n / 100 % 10 = 0 := by omega
    have e4 : n / 10 % 10 = 0 := by omega
    have e5 : n % 10 = n := by omega
    rw [e1, e2, e3, e4, e5]
    rfl
  · by_cases h2 : n < 100
    · rw [z n h1, Lib.decDigits_one (by omega)]
      refine ⟨by simp, by simp, ?_⟩
      have e1 : n / 10000 % 10 = 0 := by omega
      have e2 : n / 1000 % 10 = 0 := by omega
      have e3 : n / 100 % 10 = 0 := by omega
      have e4 : n / 10 % 10 = n / 10 := by omega
      simp only [dig5, e1, e2, e3, e4]
      rfl
    · by_cases h3 : n < 1000
      · rw [z n h1, z (n / 10) (by omega), Lib.decDigits_one (by omega)]
        refine ⟨by simp, by simp, ?_⟩
        have e1 : n / 10000 % 10 = 0 := by omega
        have e2 : n / 1000 % 10 = 0 := by omega
        have e3 : n / 100 % 10 = n / 10 / 10 := by omega
        simp only [dig5, e1, e2, e3]
        rfl
      · by_cases h4 : n < 10000
        · rw [z n h1, z (n / 10) (by omega), z (n / 10 / 10) (by omega), Lib.decDigits_one (by omega)]
          refine ⟨by simp, by simp, ?_⟩
          have e1 : n / 10000 % 10 = 0 := by omega
          have e2 : n / 1000 % 10 = n / 10 / 10 / 10 := by omega
          have e3 : n / 100 % 10 = n / 10 / 10 % 10 := by omega
          simp only [dig5, e1, e2, e3]
          rfl
        · rw [z n h1, z (n / 10) (by omega), z (n / 10 / 10) (by omega), z (n / 10 / 10 / 10) (by omega), Lib.decDigits_one (by omega)]
          refine ⟨by simp, by simp, ?_⟩
          have e1 : n / 10000 % 10 = n / 10 / 10 / 10 / 10 := by omega
          have e2 : n / 1000 % 10 = n / 10 / 10 / 10 % 10 := by omega
          have e3 : n / 100 % 10 = n / 10 / 10 % 10 := by omega
          simp only [dig5, e1, e2, e3]
          rfl

/-- What stands behind Parse: the names and the errno, in a world where the variables are as they were. -/
theorem counted_bad (a0 : ByteArray) (a1 : Int) (w : World) (ns : List ByteArray) (code : Int) (hp : parseB a0 = (ns, code)) (hc : code ≠ 0) (HE : Env w) :
    Calls Tryd.prog 30 #[.string a0, .int .i64 a1] w fun e w' => e = .returned (.tuple #[.string (bs []), .int .i64 code]) ∧ Below w.heap.size w w' := by
  have H := Aside0.mk (show place_Parse.f a0 = some (ns, code) by rw [place_Parse.f, hp])
  clear hp
  have c1 : (code == 0) = false := beq_eq_false_iff_ne.2 hc
  have c2 : (code != 0) = true := bne_iff_ne.2 hc
  clear hc
  go_enter Tryd.func30, Tryd.ntmps30
  go_wp2_with (go_at_call 18; (with_reducible refine (place_Parse.calls a0 ns code _ H.out HE).mono ?_); rintro e w1 ⟨v, rfl, _, hb⟩; have HB := Aside0.mk hb; clear hb)
  go_ret2
  exact ⟨rfl, HB.out⟩
theorem counted_root (a0 : ByteArray) (a1 : Int) (w : World) (hp : parseB a0 = ([], 0)) (HE : Env w) :
    Calls Tryd.prog 30 #[.string a0, .int .i64 a1] w fun e w' => e = .returned (.tuple #[.string (bs []), .int .i64 47]) ∧ Below w.heap.size w w' := by
  have H := Aside0.mk (show place_Parse.f a0 = some ([], 0) by rw [place_Parse.f, hp])
  clear hp
  go_enter Tryd.func30, Tryd.ntmps30
  go_wp2_with (go_at_call 18; (with_reducible refine (place_Parse.calls a0 [] 0 _ H.out HE).mono ?_); rintro e w1 ⟨v, rfl, hR, hb⟩; have HB := Aside0.mk hb; clear hb; obtain ⟨A, c, rfl⟩ := Kd.R_slice hR; clear hR)
  go_ret2
  exact ⟨rfl, HB.out⟩
theorem counted_long (a0 : ByteArray) (a1 : Int) (w : World) (ns : List ByteArray) (hp : parseB a0 = (ns, 0)) (hn : 0 < ns.length) (hn6 : ns.length ≤ 6) (last : ByteArray) (hl : rdOf ByteArray.empty ns ((ns.length : Int) - 1) = last) (hbig : 11 < last.size) (HE : Env w) :
    Calls Tryd.prog 30 #[.string a0, .int .i64 a1] w fun e w' => e = .returned (.tuple #[.string (bs []), .int .i64 10]) ∧ Below w.heap.size w w' := by
  have H := Aside0.mk (show place_Parse.f a0 = some (ns, 0) by rw [place_Parse.f, hp])
  clear hp
  have c1 : ((ns.length : Int) == 0) = false := beq_eq_false_iff_ne.2 (by omega)
  have HL := Aside0.mk hl
  clear hl
  go_enter Tryd.func30, Tryd.ntmps30
  go_wp2_with (go_at_call 18; (with_reducible refine (place_Parse.calls a0 ns 0 _ H.out HE).mono ?_); rintro e w1 ⟨v, rfl, hR, hb⟩; have HB := Aside0.mk hb; clear hb; obtain ⟨A, c, rfl, hcap, hC⟩ := Kd.R_reads hR; obtain ⟨ad, rfl, hx⟩ := Kd.at_string hC ((ns.length : Int) - 1) (by omega) (by omega); rw [HL.out, show ((ns.length : Int) - 1).toNat = ns.length - 1 from by omega] at hx; have HC := Aside0.mk hC; clear hC hR)
  go_ret2
  exact ⟨rfl, HB.out⟩
theorem counted_out (a0 : ByteArray) (a1 : Int) (w : World) (ns : List ByteArray) (hp : parseB a0 = (ns, 0)) (hn : 0 < ns.length) (hn6 : ns.length ≤ 6) (last : ByteArray) (hl : rdOf ByteArray.empty ns ((ns.length : Int) - 1) = last) (hbig : ¬ 11 < last.size) (ho : a1 < 0 ∨ 99999 < a1) (HE : Env w) :
    Calls Tryd.prog 30 #[.string a0, .int .i64 a1] w fun e w' => e = .returned (.tuple #[.string (bs []), .int .i64 1]) ∧ Below w.heap.size w w' := by
  have H := Aside0.mk (show place_Parse.f a0 = some (ns, 0) by rw [place_Parse.f, hp])
  clear hp
  have c1 : ((ns.length : Int) == 0) = false := beq_eq_false_iff_ne.2 (by omega)
  have HL := Aside0.mk hl
  clear hl
  rcases ho with ho | ho
  · have o1 : decide (a1 < 0) = true := decide_eq_true ho
    clear ho
    go_enter Tryd.func30, Tryd.ntmps30
    go_wp2_with (go_at_call 18; (with_reducible refine (place_Parse.calls a0 ns 0 _ H.out HE).mono ?_); rintro e w1 ⟨v, rfl, hR, hb⟩; have HB := Aside0.mk hb; clear hb; obtain ⟨A, c, rfl, hcap, hC⟩ := Kd.R_reads hR; obtain ⟨ad, rfl, hx⟩ := Kd.at_string hC ((ns.length : Int) - 1) (by omega) (by omega); rw [HL.out, show ((ns.length : Int) - 1).toNat = ns.length - 1 from by omega] at hx; have HC := Aside0.mk hC; clear hC hR)
    go_ret2
    exact ⟨rfl, HB.out⟩
  · have o1 : decide (a1 < 0) = false := decide_eq_false (by omega)
    have o2 : decide (99999 < a1) = true := decide_eq_true ho
    clear ho
    go_enter Tryd.func30, Tryd.ntmps30
    go_wp2_with (go_at_call 18; (with_reducible refine (place_Parse.calls a0 ns 0 _ H.out HE).mono ?_); rintro e w1 ⟨v, rfl, hR, hb⟩; have HB := Aside0.mk hb; clear hb; obtain ⟨A, c, rfl, hcap, hC⟩ := Kd.R_reads hR; obtain ⟨ad, rfl, hx⟩ := Kd.at_string hC ((ns.length : Int) - 1) (by omega) (by omega); rw [HL.out, show ((ns.length : Int) - 1).toNat = ns.length - 1 from by omega] at hx; have HC := Aside0.mk hC; clear hC hR)
    go_ret2
    exact ⟨rfl, HB.out⟩
theorem counted_good (a0 : ByteArray) (m : Nat) (w : World) (ns : List ByteArray) (hp : parseB a0 = (ns, 0)) (hn : 0 < ns.length) (hn6 : ns.length ≤ 6) (last : ByteArray) (hl : rdOf ByteArray.empty ns ((ns.length : Int) - 1) = last) (hbig : ¬ 11 < last.size) (hm : m ≤ 99999) (ha : a0.size ≤ 102) (HE : Env2 w) :
    Calls Tryd.prog 30 #[.string a0, .int .i64 m] w fun e w' => e = .returned (.tuple #[.string (bs (tx a0 ++ dig5 m)), .int .i64 0]) ∧ Below w.heap.size w w' := by
  have H := Aside0.mk (show place_Parse.f a0 = some (ns, 0) by rw [place_Parse.f, hp])
  clear hp
  have c1 : ((ns.length : Int) == 0) = false := beq_eq_false_iff_ne.2 (by omega)
  have HL := Aside0.mk hl
  clear hl
  have o1 : decide ((m : Int) < 0) = false := decide_eq_false (by omega)
  have o2 : decide (99999 < (m : Int)) = false := decide_eq_false (by omega)
  obtain ⟨d1, d2, d3⟩ := digits_small m (by omega)
  obtain ⟨dg, hdg⟩ : ∃ dg, Lib.decDigits m = dg := ⟨_, rfl⟩
  rw [hdg] at d1 d2 d3
  have HI := Aside0.mk (show strconv_Itoa.f (m : Int) = some (bs dg) by
    unfold strconv_Itoa.f
    rw [if_pos (by omega), if_pos (by omega), Lib.itoa, if_neg (by omega), Int.toNat_natCast, hdg]
    rfl)
  have HR := Aside0.mk (show strings_Repeat.f (⟨#[48]⟩ : ByteArray) (5 - ((bs dg).size : Int)) = some (bs (Lib.repeatL [48] (5 - dg.length))) by
    unfold strings_Repeat.f
    have e : (5 - ((bs dg).size : Int)).toNat = 5 - dg.length := by rw [bs_size]; omega
    rw [if_pos (by rw [bs_size]; omega), if_pos (by rw [bs_size]; omega), e, if_pos (by show 1 * _ ≤ _; omega)]
    rfl)
  have hbs := bs_size dg
  have hz : (bs dg).size ≤ 5 := by omega
  have hr : (bs (Lib.repeatL [48] (5 - dg.length))).size ≤ 5 := by
    rw [bs_size]
    have := congrArg List.length d3
    rw [List.length_append] at this
    simp only [dig5, List.length_cons, List.length_nil] at this
    omega
  have HF := Aside0.mk (show a0 ++ bs (Lib.repeatL [48] (5 - dg.length)) ++ bs dg = bs (tx a0 ++ dig5 m) by
    rw [← d3, ← bs_append, ← bs_append, bs_tx, ByteArray.append_assoc])
  have D3 := Aside0.mk d3
  have HD := Aside0.mk hdg
  clear d3 hdg hbs
  generalize bs (Lib.repeatL [48] (5 - dg.length)) = zz at HR HF hr
  generalize bs dg = nn at HI HR HF hz
  go_enter Tryd.func30, Tryd.ntmps30
  go_wp2_with (first | (go_at_call 18; (with_reducible refine (place_Parse.calls a0 ns 0 _ H.out HE.env).mono ?_); rintro e w1 ⟨v, rfl, hR, hb⟩; have HB := Aside0.mk hb; clear hb; obtain ⟨A, c, rfl, hcap, hC⟩ := Kd.R_reads hR; obtain ⟨ad, rfl, hx⟩ := Kd.at_string hC ((ns.length : Int) - 1) (by omega) (by omega); rw [HL.out, show ((ns.length : Int) - 1).toNat = ns.length - 1 from by omega] at hx; have HC := Aside0.mk hC; clear hC hR) | (go_at_call 54; (with_reducible refine (strconv_Itoa.calls (m : Int) nn _ HI.out (HE.at_ HB.out)).mono ?_); rintro e w2 ⟨rfl, hb⟩; have HB2 := Aside0.mk (HB.out.trans (hb.mono HB.out.size)); clear hb hx) | (go_at_call 55; (with_reducible refine (strings_Repeat.calls (⟨#[48]⟩ : ByteArray) (5 - (nn.size : Int)) zz _ HR.out).mono ?_); rintro e w3 ⟨rfl, hb⟩; have HB3 := Aside0.mk (HB2.out.trans (hb.mono HB2.out.size)); clear hb))
  go_ret2
  exact ⟨by rw [HF.out]; rfl, HB3.out⟩
theorem place_Counted.calls (a0 : ByteArray) (a1 : Int) (r1 : ByteArray) (r2 : Int) (w : World) (h : place_Counted.f a0 a1 = some (r1, r2)) (HE : Env2 w) :
    Calls Tryd.prog 30 #[.string a0, .int .i64 a1] w fun e w' => e = .returned (.tuple #[.string r1, .int .i64 r2]) ∧ Below w.heap.size w w' := by
  obtain ⟨rfl, rfl⟩ : (countedB a0 a1).1 = r1 ∧ (countedB a0 a1).2 = r2 := by
    have := Option.some.inj h
    rw [this]
    exact ⟨rfl, rfl⟩
  clear h
  unfold countedB countedL
  have hg := parse_good (tx a0)
  have hB : parseB a0 = ((parseL (tx a0)).1.map bs, (parseL (tx a0)).2) := rfl
  by_cases h : (parseL (tx a0)).2 = 0
  · have hlen := plc_length hg
    rw [← parse_back h, tx_length] at hlen
    rw [h] at hB
    rw [if_pos h]
    generalize (parseL (tx a0)).1 = l at hB hg hlen ⊢
    by_cases h0 : l = []
    · subst h0
      rw [if_pos rfl]
      exact counted_root a0 a1 w hB HE.env
    · have hpos : 1 ≤ l.length := by
        cases l with
        | nil => exact absurd rfl h0
        | cons a b => simp
      have h6 := hg.1
      have hl : rdOf ByteArray.empty (l.map bs) (((l.map bs).length : Int) - 1) = bs (lastL l) := by
        rw [List.length_map, show ((l.length : Int) - 1) = ((l.length - 1 : Nat) : Int) by omega, rdOf_map _ _ (by omega), last_at _ hpos]
      rw [if_neg h0]
      by_cases h11 : (lastL l).length > 11
      · rw [if_pos h11]
        exact counted_long a0 a1 w _ hB (by rw [List.length_map]; omega) (by rw [List.length_map]; omega) _ hl (by rw [bs_size]; omega) HE.env
      · rw [if_neg h11]
        by_cases ho : a1 < 0 ∨ a1 > 99999
        · rw [if_pos ho]
          exact counted_out a0 a1 w _ hB (by rw [List.length_map]; omega) (by rw [List.length_map]; omega) _ hl (by rw [bs_size]; omega) ho HE.env
        · rw [if_neg ho]
          obtain ⟨m, rfl⟩ := Int.eq_ofNat_of_zero_le (show 0 ≤ a1 by omega)
          rw [Int.toNat_natCast]
          exact counted_good a0 m w _ hB (by rw [List.length_map]; omega) (by rw [List.length_map]; omega) _ hl (by rw [bs_size]; omega) (by omega) hlen.1 HE
  · rw [if_neg h]
    exact counted_bad a0 a1 w _ _ hB h HE.env
end Go.Proofs.YtfdinkofcjcahaaDoor.Ext
