/- The walk of the law PlaceJoins (begun): the list is copied with room behind it, joined, compared; three turns with other names in the same room. -/
import Derived.Test.YtfdinkofcjcahaaDoorLawsA
import Derived.Test.YtfdinkofcjcahaaDoorClean
namespace Go.Proofs.YtfdinkofcjcahaaDoor.Law
open Go.RowKit Go.Proofs.YtfdinkofcjcahaaDoor.Ext Go.Proofs.YtfdinkofcjcahaaDoor.PPl Go.Proofs.YtfdinkofcjcahaaDoor.Pl Go.Proofs.YtfdinkofcjcahaaDoor.Ord Go.Proofs.YtfdinkofcjcahaaDoorW.PrintWords Go.Proofs.YtfdinkofcjcahaaDoor.Name

/-- Between two rounds of the first loop: what has come of the names lies in the room. -/
structure Copied (w : World) (A : Option Addr) (ns : List ByteArray) (i : Nat) (v : Value) (W : World) : Prop where mk ::
  below : Below w.heap.size w W
  row : Kd.R Kd.string 9 W w.heap.size (fun _ => True) v (ns.take i)
  names : Kd.string.C W A ns.length ns

theorem cells_new (w : World) (cs : Array Value) (t : TypeId) : ∀ j u, cs.toList[j]? = some u → (w.alloc (.cells cs t)).cell? ((⟨w.heap.size, 0, none⟩ : Addr).add j) = some u := by
  intro j u h
  have e : (⟨w.heap.size, 0, none⟩ : Addr).add j = ⟨w.heap.size, j, none⟩ := by simp [Addr.add]; omega
  rw [e, World.cell?_alloc_new, ← Array.getElem?_toList]
  exact h
def behind : List ByteArray := [⟨#[98, 101, 104, 105, 110, 100, 32, 49]⟩, ⟨#[98, 101, 104, 105, 110, 100, 32, 50]⟩]
theorem room_of {W : World} {base : Nat} {v : Value} {ns : List ByteArray} (h : W.ownsRow base 9 1 v (ns.length + 2) (encs Value.string ns ++ [.string ⟨#[98, 101, 104, 105, 110, 100, 32, 49]⟩, .string ⟨#[98, 101, 104, 105, 110, 100, 32, 50]⟩])) : Kd.R Kd.string 9 W base (fun _ => True) v (ns ++ behind) := by
  refine Kd.R_of_own ?_ (fun _ _ => trivial)
  rw [show (ns ++ behind).length = ns.length + 2 by simp [behind], show encs Value.string (ns ++ behind) = encs Value.string ns ++ [.string ⟨#[98, 101, 104, 105, 110, 100, 32, 49]⟩, .string ⟨#[98, 101, 104, 105, 110, 100, 32, 50]⟩] by simp [encs, behind]]
  exact h
theorem room_len {W : World} {base : Nat} {A : Option Addr} {n c : Nat} {ns : List ByteArray} (h : Kd.R Kd.string 9 W base (fun _ => True) (.slice A n c) (ns ++ behind)) : ns.length + 2 ≤ c := by
  have h1 := Kd.R_reads' h
  have h2 : (ns ++ behind).length = ns.length + 2 := by simp [behind]
  omega
/-- What the walk keeps: the list that came in, the room. -/
structure Room (w W : World) (A : Option Addr) (ns : List ByteArray) (A8 : Option Addr) (n8 c8 : Nat) (xs : List ByteArray) : Prop where mk ::
  below : Below w.heap.size w W
  names : Kd.string.C W A ns.length ns
  len : xs.length = n8
  room : Kd.R Kd.string 9 W w.heap.size (fun _ => True) (.slice A8 xs.length c8) xs
theorem Room.step {w W W' : World} {A : Option Addr} {ns : List ByteArray} {A8 : Option Addr} {n8 c8 : Nat} {xs : List ByteArray} (h : Room w W A ns A8 n8 c8 xs) (hb : Below W.heap.size W W') : Room w W' A ns A8 n8 c8 xs :=
  ⟨below_step h.below hb, Kd.C_below h.names hb, h.len, Kd.R_below h.room hb⟩
theorem Room.head {w W : World} {A : Option Addr} {ns : List ByteArray} {A8 : Option Addr} {n8 c8 : Nat} {l m : List ByteArray} (h : Room w W A ns A8 n8 c8 (l ++ m)) : Kd.string.C W A8 l.length l := by
  have := Kd.C_take (m := l.length) (Kd.R_reads' h.room).2.2 (by simp)
  rw [List.take_left] at this
  exact this
theorem Room.at_ {w W : World} {A : Option Addr} {ns : List ByteArray} {A8 : Option Addr} {n8 c8 : Nat} {xs : List ByteArray} (h : Room w W A ns A8 n8 c8 xs) (i : Nat) (hi : i < n8) : ∃ ad, A8 = some ad ∧ W.cell? (ad.add i) = some (.string (rdOf ByteArray.empty xs (i : Int))) := by
  have hl := h.len
  obtain ⟨ad, e, hx⟩ := Kd.at_string (Kd.R_reads' h.room).2.2 (i : Int) (by omega) (by omega)
  rw [Int.toNat_natCast] at hx
  exact ⟨ad, e, hx⟩
theorem Room.name {w W : World} {A : Option Addr} {ns : List ByteArray} {A8 : Option Addr} {n8 c8 : Nat} {xs : List ByteArray} (h : Room w W A ns A8 n8 c8 xs) (i : Nat) (hi : i < ns.length) : ∃ ad, A = some ad ∧ W.cell? (ad.add i) = some (.string (rdOf ByteArray.empty ns (i : Int))) := by
  obtain ⟨ad, e, hx⟩ := Kd.at_string h.names (i : Int) (by omega) (by omega)
  rw [Int.toNat_natCast] at hx
  exact ⟨ad, e, hx⟩
theorem rd_front {ns m : List ByteArray} {i : Nat} (h : i < ns.length) : rdOf ByteArray.empty (ns ++ m) (i : Int) = rdOf ByteArray.empty ns (i : Int) := by
  unfold rdOf
  rw [Int.toNat_natCast, List.getD_eq_getElem?_getD, List.getD_eq_getElem?_getD, List.getElem?_append_left h]
/-- The two texts that lie behind the names. -/
theorem rd_back1 (ns : List ByteArray) : rdOf ByteArray.empty (ns ++ behind) (ns.length : Int) = ⟨#[98, 101, 104, 105, 110, 100, 32, 49]⟩ := by
  unfold rdOf behind
  rw [Int.toNat_natCast, List.getD_eq_getElem?_getD, List.getElem?_append_right (Nat.le_refl _), Nat.sub_self]
  rfl
theorem rd_back2 (ns : List ByteArray) : rdOf ByteArray.empty (ns ++ behind) ((ns.length + 1 : Nat) : Int) = ⟨#[98, 101, 104, 105, 110, 100, 32, 50]⟩ := by
  unfold rdOf behind
  rw [Int.toNat_natCast, List.getD_eq_getElem?_getD, List.getElem?_append_right (by omega), show ns.length + 1 - ns.length = 1 by omega]
  rfl
theorem behind_len (ns : List ByteArray) : (ns ++ behind).length = ns.length + 2 := by simp [behind]
/-- A row of the call's own with an element begins at a block's head. -/
theorem row_head {W : World} {base : Nat} {ok : Nat → Prop} {A : Option Addr} {n c : Nat} {xs : List ByteArray} (h : Kd.R Kd.string 9 W base ok (.slice A n c) xs) (hx : 0 < xs.length) : ∃ g, A = some ⟨g, 0, none⟩ ∧ base ≤ g ∧ g < W.heap.size := by
  obtain ⟨inner, ho⟩ := Kd.R_own h
  rcases ho.2 with ⟨_, hn⟩ | ⟨g, cap, cur, he, hg, hh, _⟩
  · omega
  · injection he with he _ _
    exact ⟨g, he, hg, (Array.getElem?_eq_some_iff.1 hh).1⟩
theorem Room.backs {w W : World} {A : Option Addr} {ns : List ByteArray} {A8 : Option Addr} {n8 c8 : Nat} (h : Room w W A ns A8 n8 c8 (ns ++ behind)) : ∃ g, A8 = some ⟨g, 0, none⟩ ∧ W.cell? ⟨g, ns.length, none⟩ = some (.string ⟨#[98, 101, 104, 105, 110, 100, 32, 49]⟩) ∧ W.cell? ⟨g, ns.length + 1, none⟩ = some (.string ⟨#[98, 101, 104, 105, 110, 100, 32, 50]⟩) := by
  have hl : n8 = ns.length + 2 := h.len.symm.trans (behind_len ns)
  obtain ⟨g, rfl, _, _⟩ := row_head h.room (by rw [h.len]; omega)
  have h1 := (Kd.R_cell ByteArray.empty h.room (ns.length : Int) (by omega) (by rw [h.len]; omega)).1
  have h2 := (Kd.R_cell ByteArray.empty h.room ((ns.length + 1 : Nat) : Int) (by omega) (by rw [h.len]; omega)).1
  rw [rd_back1, Int.toNat_natCast] at h1
  rw [rd_back2, Int.toNat_natCast] at h2
  exact ⟨g, rfl, h1, h2⟩
/-- While a turn lasts: the room and the other list, two rows. -/
structure Two (w W : World) (A : Option Addr) (ns : List ByteArray) (g8 n8 c8 : Nat) (xs : List ByteArray) (g13 n13 c13 : Nat) (os : List ByteArray) : Prop where mk ::
  room : Room w W A ns (some ⟨g8, 0, none⟩) n8 c8 xs
  len : os.length = n13
  other : Kd.R Kd.string 9 W w.heap.size (fun _ => True) (.slice (some ⟨g13, 0, none⟩) os.length c13) os
  apart : g8 ≠ g13
theorem Two.step {w W W' : World} {A : Option Addr} {ns : List ByteArray} {g8 n8 c8 : Nat} {xs : List ByteArray} {g13 n13 c13 : Nat} {os : List ByteArray} (h : Two w W A ns g8 n8 c8 xs g13 n13 c13 os) (hb : Below W.heap.size W W') : Two w W' A ns g8 n8 c8 xs g13 n13 c13 os :=
  ⟨h.room.step hb, h.len, Kd.R_below h.other hb, h.apart⟩
theorem below_set {w W : World} (h : Below w.heap.size w W) {g : Nat} (hg : w.heap.size ≤ g) (i : Nat) (v : Value) : Below w.heap.size w (W.setCell ⟨g, i, none⟩ v) := h.setCell hg v
theorem row_base {W : World} {base : Nat} {ok : Nat → Prop} {g n c : Nat} {xs : List ByteArray} (h : Kd.R Kd.string 9 W base ok (.slice (some ⟨g, 0, none⟩) n c) xs) : base ≤ g := by
  obtain ⟨inner, ho⟩ := Kd.R_own h
  exact own_base ho g (by simp [Value.ownBlock])
theorem Two.put8 {w W : World} {A : Option Addr} {ns : List ByteArray} {g8 n8 c8 : Nat} {xs : List ByteArray} {g13 n13 c13 : Nat} {os : List ByteArray} (h0 : Kd.string.C w A ns.length ns) (h : Two w W A ns g8 n8 c8 xs g13 n13 c13 os) (i : Nat) (x : ByteArray) : Two w (W.setCell ⟨g8, i, none⟩ (.string x)) A ns g8 n8 c8 (xs.set i x) g13 n13 c13 os := by
  have hb := below_set h.room.below (row_base h.room.room) i (.string x)
  refine ⟨⟨hb, Kd.C_below h0 hb, by rw [List.length_set]; exact h.room.len, ?_⟩, h.len, ?_, h.apart⟩
  · have := (Kd.R_put h.room.room (i : Int) x).1
    rw [Int.toNat_natCast] at this
    rw [List.length_set]
    exact this
  · have h1 := Kd.own_of_R h.other
    have h2 := own_setCell h1 (p := ⟨g8, i, none⟩) (by simp [Value.ownBlock]; exact h.apart) (.string x)
    exact Kd.R_of_own h2 (fun _ _ => trivial)
theorem Two.put13 {w W : World} {A : Option Addr} {ns : List ByteArray} {g8 n8 c8 : Nat} {xs : List ByteArray} {g13 n13 c13 : Nat} {os : List ByteArray} (h0 : Kd.string.C w A ns.length ns) (h : Two w W A ns g8 n8 c8 xs g13 n13 c13 os) (i : Nat) (x : ByteArray) : Two w (W.setCell ⟨g13, i, none⟩ (.string x)) A ns g8 n8 c8 xs g13 n13 c13 (os.set i x) := by
  have hb := below_set h.room.below (row_base h.other) i (.string x)
  refine ⟨⟨hb, Kd.C_below h0 hb, h.room.len, ?_⟩, by rw [List.length_set]; exact h.len, ?_, h.apart⟩
  · have h1 := Kd.own_of_R h.room.room
    have h2 := own_setCell h1 (p := ⟨g13, i, none⟩) (by simp [Value.ownBlock]; exact Ne.symm h.apart) (.string x)
    exact Kd.R_of_own h2 (fun _ _ => trivial)
  · have := (Kd.R_put h.other (i : Int) x).1
    rw [Int.toNat_natCast] at this
    rw [List.length_set]
    exact this
theorem Two.cell8 {w W : World} {A : Option Addr} {ns : List ByteArray} {g8 n8 c8 : Nat} {xs : List ByteArray} {g13 n13 c13 : Nat} {os : List ByteArray} (h : Two w W A ns g8 n8 c8 xs g13 n13 c13 os) (i : Nat) (hi : i < n8) : ∃ x, W.cell? ⟨g8, i, none⟩ = some (.string x) ∧ W.frozen? ⟨g8, i, none⟩ = false := by
  have hl := h.room.len
  have := Kd.R_cell ByteArray.empty h.room.room (i : Int) (by omega) (by omega)
  rw [Int.toNat_natCast] at this
  exact ⟨_, this⟩
theorem Two.cell13 {w W : World} {A : Option Addr} {ns : List ByteArray} {g8 n8 c8 : Nat} {xs : List ByteArray} {g13 n13 c13 : Nat} {os : List ByteArray} (h : Two w W A ns g8 n8 c8 xs g13 n13 c13 os) (i : Nat) (hi : i < n13) : W.cell? ⟨g13, i, none⟩ = some (.string (rdOf ByteArray.empty os (i : Int))) ∧ W.frozen? ⟨g13, i, none⟩ = false := by
  have hl := h.len
  have := Kd.R_cell ByteArray.empty h.other (i : Int) (by omega) (by omega)
  rw [Int.toNat_natCast] at this
  exact this
theorem two_of {w wo W : World} {A : Option Addr} {ns : List ByteArray} {g8 n8 c8 : Nat} {xs : List ByteArray} {g13 n13 c13 : Nat} {os : List ByteArray} (h0 : Room w wo A ns (some ⟨g8, 0, none⟩) n8 c8 xs) (h : Room w W A ns (some ⟨g8, 0, none⟩) n8 c8 xs) (hl : os.length = n13) (h1 : Kd.R Kd.string 9 W wo.heap.size (fun _ => True) (.slice (some ⟨g13, 0, none⟩) n13 c13) os) : Two w W A ns g8 n8 c8 xs g13 n13 c13 os := by
  subst hl
  refine ⟨h, rfl, Kd.R_lower h1 h0.below.size, ?_⟩
  have h2 := row_base h1
  obtain ⟨inner, ho⟩ := Kd.R_own h0.room
  have h3 := own_lt ho g8 (by simp [Value.ownBlock])
  omega
theorem digit_text (W : World) (t : Nat) : (convert 45 9 (Value.slice (some { block := W.heap.size, off := 0 }) 1 1)).run Tryd.prog (W.alloc (Obj.cells #[Value.int IntKind.u8 (48 + ↑t)] 5)) = .ok (.string (strOfNums [48 + (t : Int)])) (W.alloc (Obj.cells #[Value.int IntKind.u8 (48 + ↑t)] 5)) :=
  own_string (e' := 5) Tryd.underlying45 Tryd.underlying5 Tryd.underlying9 (own_lit W W.heap.size 5 .u8 [48 + (t : Int)] (Nat.le_refl _) (by simp))
theorem put_take {os xs : List ByteArray} {i : Nat} (hi : i < os.length) (hx : os.length ≤ xs.length) : (os.take i ++ xs.drop i).set i (rdOf ByteArray.empty os (i : Int)) = os.take (i + 1) ++ xs.drop (i + 1) := by
  have hl : (os.take i).length = i := by rw [List.length_take]; omega
  rw [List.set_append_right _ _ (by omega), hl, Nat.sub_self, List.drop_eq_getElem_cons (by omega), List.set_cons_zero, List.take_succ_eq_append_getElem hi, List.append_assoc]
  unfold rdOf
  rw [Int.toNat_natCast, List.getD_eq_getElem?_getD, List.getElem?_eq_getElem hi]
  rfl
theorem put_step {w W : World} {A : Option Addr} {ns ms : List ByteArray} {g8 n8 c8 g13 n13 c13 i : Nat} {os : List ByteArray} {q : ByteArray} (h0 : Kd.string.C w A ns.length ns) (h : Two w W A ns g8 n8 c8 (os.take i ++ (ms ++ behind).drop i) g13 n13 c13 os) (hq : q = rdOf ByteArray.empty os (i : Int)) (ho : os.length = ns.length) (hm : ms.length = ns.length) (hi : i < ns.length) : Two w (W.setCell ⟨g8, i, none⟩ (.string q)) A ns g8 n8 c8 (os.take (i + 1) ++ (ms ++ behind).drop (i + 1)) g13 n13 c13 os := by
  have := h.put8 h0 i q
  rw [hq] at this ⊢
  rwa [put_take (by omega) (by rw [behind_len]; omega)] at this
theorem laid_all {w W : World} {A : Option Addr} {ns ms : List ByteArray} {g8 n8 c8 g13 n13 c13 i : Nat} {os : List ByteArray} (h : Two w W A ns g8 n8 c8 (os.take i ++ (ms ++ behind).drop i) g13 n13 c13 os) (ho : os.length = ns.length) (hm : ms.length = ns.length) (hi : ns.length ≤ i) (hi' : i ≤ ns.length) : Two w W A ns g8 n8 c8 (os ++ behind) g13 n13 c13 os := by
  obtain rfl : i = ns.length := by omega
  rw [List.take_of_length_le (by omega), ← hm, List.drop_left] at h
  exact h
theorem Two.c13 {w W : World} {A : Option Addr} {ns : List ByteArray} {g8 n8 c8 : Nat} {xs : List ByteArray} {g13 n13 c13 : Nat} {os : List ByteArray} (h : Two w W A ns g8 n8 c8 xs g13 n13 c13 os) : Kd.string.C W (some ⟨g13, 0, none⟩) os.length os := (Kd.R_reads' h.other).2.2
theorem Two.cap13 {w W : World} {A : Option Addr} {ns : List ByteArray} {g8 n8 c8 : Nat} {xs : List ByteArray} {g13 n13 c13 : Nat} {os : List ByteArray} (h : Two w W A ns g8 n8 c8 xs g13 n13 c13 os) : os.length ≤ c13 := (Kd.R_reads' h.other).2.1
theorem Two.cap8 {w W : World} {A : Option Addr} {ns : List ByteArray} {g8 n8 c8 : Nat} {g13 n13 c13 : Nat} {os : List ByteArray} (h : Two w W A ns g8 n8 c8 (os ++ behind) g13 n13 c13 os) : os.length ≤ c8 := by
  have := (Kd.R_reads' h.room.room).2.1
  rw [behind_len] at this
  omega
theorem ref_join (b : ByteArray) (A : Option Addr) (n c : Nat) (os : List ByteArray) (want : ByteArray) (f : Int) (W : World) (hn : os.length = n) (hr : Kd.string.C W A os.length os) (hc : os.length ≤ c) (hf : heraldref1_Join.f b os = some (want, f)) : Calls Tryd.prog 32 #[.string b, .slice A n c] W fun e W' => e = .returned (.tuple #[.string want, .int .i64 f]) ∧ Below W.heap.size W W' := by
  subst hn
  exact (heraldref1_Join.calls b A c os want f W hr hc hf).mono fun _ _ h => h
theorem own_join (b : ByteArray) (A : Option Addr) (n c : Nat) (os : List ByteArray) (want : ByteArray) (f : Int) (W : World) (hn : os.length = n) (hr : Kd.string.C W A os.length os) (hc : os.length ≤ c) (hf : place_Join.f b os = some (want, f)) (HE : Env W) : Calls Tryd.prog 33 #[.string b, .slice A n c] W fun e W' => e = .returned (.tuple #[.string want, .int .i64 f]) ∧ Below W.heap.size W W' := by
  subst hn
  exact (place_Join.calls b A c os want f W hr hc hf HE).mono fun _ _ h => h
/-- While the other list is gathered. -/
structure Gathers (w wo W : World) (A : Option Addr) (ns : List ByteArray) (A8 : Option Addr) (n8 c8 : Nat) (xs : List ByteArray) (i : Nat) (v : Value) : Prop where mk ::
  room : Room w W A ns A8 n8 c8 xs
  below : Below wo.heap.size wo W
  row : Kd.R Kd.string 9 W wo.heap.size (fun _ => True) v (ns.reverse.take i)
theorem rev_take {ns : List ByteArray} {i : Nat} (h : i < ns.length) : ns.reverse.take i ++ [rdOf ByteArray.empty ns ((ns.length - 1 - i : Nat) : Int)] = ns.reverse.take (i + 1) := by
  rw [List.take_succ_eq_append_getElem (by simpa using h), List.getElem_reverse]
  unfold rdOf
  rw [Int.toNat_natCast, List.getD_eq_getElem?_getD, List.getElem?_eq_getElem (by omega)]
  rfl
set_option maxRecDepth 100000 in
set_option maxHeartbeats 4000000 in
theorem joins_walk (b : ByteArray) (A : Option Addr) (c : Nat) (ns : List ByteArray) (w : World) (hb : b.size ≤ 140737488351232) (hr : Kd.string.C w A ns.length ns) (hc : ns.length ≤ c) (hnl : ns.length * 16 ≤ 140737488351232) (HE : Env2 w) :
    Calls Tryd.prog 9 #[.string b, .slice A ns.length c] w fun e w' => e = .returned (.bool true) ∧ Below w.heap.size w w' := by
  have HK := Aside0.mk (known_tells 8 (by omega))
  have HR := Aside0.mk hr
  have HJ := Aside0.mk (show place_Join.f b ns = some ((joinB b (ns.map tx)).1, (joinB b (ns.map tx)).2) by unfold place_Join.f; rw [if_pos (by omega)])
  have HJr := Aside0.mk (show heraldref1_Join.f b ns = some ((joinB b (ns.map tx)).1, (joinB b (ns.map tx)).2) by unfold heraldref1_Join.f; rw [if_pos (by omega)])
  obtain ⟨want, f, hwf⟩ : ∃ want f, (joinB b (ns.map tx)) = (want, f) := ⟨_, _, rfl⟩
  rw [hwf] at HJ HJr
  clear hwf hr
  go_enter Tryd.func9, Tryd.ntmps9
  go_wp2_with (go_at_call 32; (with_reducible refine (heraldref1_Join.calls b A c ns want f _ HR.out hc HJr.out).mono ?_); rintro e w1 ⟨rfl, hb1⟩; have HB := Aside0.mk hb1; have HR1 := Aside0.mk (Kd.C_below HR.out hb1); clear hb1)
  go_loopw [7, 8] (fun v7 v8 W => ∃ i : Nat, v8 = .int .i64 i ∧ i ≤ ns.length ∧ Copied w A ns i v7 W) (fun _ v8 _ => ns.length - (intOf v8).toNat)
  case atStart => exact ⟨0, rfl, Nat.zero_le _, HB.out, Kd.R_nil _ _ _ _ _, HR1.out⟩
  case round =>
    obtain ⟨i, rfl, hi, HS⟩ := hrel
    by_cases hlt : i < ns.length
    · obtain ⟨A7, c7, rfl⟩ := Kd.R_slice HS.row
      obtain ⟨ad, rfl, hx⟩ := Kd.at_string HS.names (i : Int) (by omega) (by omega)
      rw [Int.toNat_natCast] at hx
      have HO := Aside0.mk HS.row
      have HBW := Aside0.mk HS.below
      have hlen : (ns.take i).length = i := by rw [List.length_take]; omega
      obtain ⟨q, hq⟩ : ∃ q, q = rdOf ByteArray.empty ns (i : Int) := ⟨_, rfl⟩
      rw [← hq] at hx
      have HQ := Aside0.mk (show ns.take i ++ [q] = ns.take (i + 1) by rw [hq, List.take_succ_eq_append_getElem hlt]; unfold rdOf; rw [Int.toNat_natCast, List.getD_eq_getElem?_getD, List.getElem?_eq_getElem hlt]; rfl)
      have HLN := Aside0.mk hlen
      have hrow := Kd.R_reads' HS.row
      clear hq hlen
      go_wp2_with ((with_reducible refine gate_builtin (b := .append) (xs := #[.tmp 28, .tmp 33]) rfl ?_); at_builtin; refine Kd.R_append Kd.string (w0 := w) w.heap.size rfl (.tmp 28) (.tmp 33) 23 9 (.string ByteArray.empty) 16 rfl Tryd.underlying23 infoS rfl (by decide) (by omega) _ (ns.take i) q [.string q] (fun _ => True) (fun _ => False) rfl rfl rfl (fun _ hk => hk.elim) (fun _ _ => trivial) HO.out HBW.out ?aS ?aL ?_; (case aS => exact HBW.out.size); (case aL => rw [HLN.out]; omega); intro v1 w8 ho hb8 hg hat; have HO8 := Aside0.mk ho; have HB8 := Aside0.mk hb8; clear ho hb8 hat)
      go_roundw
      case rel => exact ⟨i + 1, by go_num, by omega, HB8.out, HQ.out ▸ HO8.out, Kd.C_below HR.out HB8.out⟩
      case measure => simp [intOf]; omega
    · have hend : i = ns.length := by omega
      have hrow := HS.row
      rw [hend, List.take_length] at hrow
      have HO := Aside0.mk hrow
      have HBW := Aside0.mk HS.below
      obtain ⟨A7, c7, rfl⟩ := Kd.R_slice hrow
      have hR7 := Kd.R_reads' hrow
      clear hrow
      have HOW := Aside0.mk (Kd.own_of_R HO.out)
      obtain ⟨i0, hi0, hz0, hz1, hz2⟩ := info_parts infoS
      go_wp2_with (first | ((with_reducible refine gate_builtin (b := .append) rfl ?_); at_builtin; refine wpList_append_own_at _ rfl _ _ 23 rfl w.heap.size 9 i0 (.string ByteArray.empty) 1 16 Tryd.underlying23 hi0 hz0 hz1 hz2 rfl (by decide) _ _ _ rfl (HOW.out.alloc _) ⟨wr.heap.size, 0, none⟩ 2 2 [.string ⟨#[98, 101, 104, 105, 110, 100, 32, 49]⟩, .string ⟨#[98, 101, 104, 105, 110, 100, 32, 50]⟩] rfl rfl (cells_new wr #[.string ⟨#[98, 101, 104, 105, 110, 100, 32, 49]⟩, .string ⟨#[98, 101, 104, 105, 110, 100, 32, 50]⟩] 9) (by simp [Value.oneCell']) (by unfold maxLen; omega) (by omega) (by have := HBW.out.size; simp; omega) ?_; intro v' w8 hown' hgrow n2_ n3_; clear n2_ n3_; have HR8 := Aside0.mk (room_of hown'); have HB8 := Aside0.mk (HBW.out.grown ((World.grownBy_alloc wr _ _).trans hgrow) HBW.out.size (fun k e' => (row_ge HOW.out) k e')); clear hown' hgrow; obtain ⟨A8, c8, hv8⟩ := Kd.R_slice HR8.out; have hv9 := hv8; rw [behind_len] at hv9; subst hv9; have n1_ := hv8 ▸ HR8.out; have hl8 := room_len n1_; have HM := Aside0.mk (Room.mk HB8.out (Kd.C_below HR.out HB8.out) (behind_len ns) n1_); clear HR8 HB8 hv8 n1_) | (go_at_call 33; (with_reducible refine (place_Join.calls b A8 c8 ns want f _ HM.out.head (by omega) HJ.out (HE.at_ HM.out.below).env).mono ?_); rintro e w9 ⟨rfl, hb9⟩; have n0_ := Aside0.mk (HM.out.step hb9); clear HM hb9; have HM := n0_; clear n0_))
      go_loopw [11] (fun v11 W => ∃ i : Nat, v11 = .int .i64 i ∧ i ≤ ns.length ∧ Room w W A ns A8 (ns.length + 2) c8 (ns ++ behind)) (fun v11 _ => ns.length - (intOf v11).toNat)
      case atStart => exact ⟨0, rfl, Nat.zero_le _, HM.out⟩
      case round =>
        clear HM
        obtain ⟨i, rfl, hi, HM⟩ := hrel
        by_cases hlt : i < ns.length
        · obtain ⟨ad, rfl, hx⟩ := HM.name i hlt
          obtain ⟨ad8, rfl, hx8⟩ := HM.at_ i (by omega)
          rw [rd_front hlt] at hx8
          obtain ⟨q, hq⟩ : ∃ q, q = rdOf ByteArray.empty ns (i : Int) := ⟨_, rfl⟩
          rw [← hq] at hx hx8
          clear hq
          have HM' := Aside0.mk HM
          clear HM
          go_wp2
          go_quiet (fail)
          go_wp2
          go_roundw
          case rel => exact ⟨i + 1, by go_num, by omega, HM'.out.step (pw_below_drewN (Below.refl _ _) _)⟩
          case measure => simp [intOf]; omega
        · have hend2 : i = ns.length := by omega
          obtain ⟨g8, rfl, hx8, hx9⟩ := HM.backs
          have HM' := Aside0.mk HM
          clear HM
          go_wp2_with (go_at_call 20; (with_reducible refine (heraldlaw1_num.calls _ _ _ rfl).mono ?_); rintro e w1 ⟨rfl, hd⟩; have n0_ := Aside0.mk (HM'.out.step hd.below); clear HM' hd; have HM' := n0_; clear n0_)
          have HS0 := HM'.out
          clear HJ HJr hx8 hx9 hR7 HOW HO HS HBW HM'
          go_loopw [12] (fun v12 W => ∃ t : Nat, ∃ ms, v12 = .int .i64 t ∧ t ≤ 3 ∧ ms.length = ns.length ∧ Room w W A ns (some ⟨g8, 0, none⟩) (ns.length + 2) c8 (ms ++ behind)) (fun v12 _ => 3 - (intOf v12).toNat)
          case atStart => exact ⟨0, ns, rfl, by omega, rfl, HS0⟩
          case round =>
            clear HS0
            obtain ⟨t, ms, rfl, ht, hms0, HM0⟩ := hrel
            have HM := Aside0.mk HM0
            have HMS := Aside0.mk hms0
            clear HM0 hms0
            by_cases htt : t < 3
            · by_cases hn : 0 < ns.length
              · obtain ⟨wo, rfl⟩ : ∃ wo : World, wo = wr := ⟨_, rfl⟩
                have HM9 := Aside0.mk HM.out
                go_wp2_with fail
                go_loopw [13, 14] (fun v13 v14 W => ∃ i : Nat, v14 = .int .i64 i ∧ i ≤ ns.length ∧ Gathers w wo W A ns (some ⟨g8, 0, none⟩) (ns.length + 2) c8 (ms ++ behind) i v13) (fun _ v14 _ => ns.length - (intOf v14).toNat)
                case atStart => exact ⟨0, rfl, Nat.zero_le _, HM.out, Below.refl _ _, Kd.R_nil _ _ _ _ _⟩
                case round =>
                  clear HM
                  obtain ⟨i, rfl, hi, HG0⟩ := hrel
                  have HG := Aside0.mk HG0
                  clear HG0
                  by_cases hlt : i < ns.length
                  · obtain ⟨A13, c13, rfl⟩ := Kd.R_slice HG.out.row
                    obtain ⟨ad, rfl, hx⟩ := HG.out.room.name (ns.length - 1 - i) (by omega)
                    have HO := Aside0.mk HG.out.row
                    have HBW := Aside0.mk HG.out.below
                    have hlen : (ns.reverse.take i).length = i := by rw [List.length_take, List.length_reverse]; omega
                    obtain ⟨q, hq⟩ : ∃ q, q = rdOf ByteArray.empty ns ((ns.length - 1 - i : Nat) : Int) := ⟨_, rfl⟩
                    rw [← hq] at hx
                    have HQ := Aside0.mk (show ns.reverse.take i ++ [q] = ns.reverse.take (i + 1) by rw [hq]; exact rev_take hlt)
                    have HLN := Aside0.mk hlen
                    have hrow := Kd.R_reads' HG.out.row
                    have hi1 : (0 : Int) ≤ (ns.length : Int) - 1 - (i : Int) := by omega
                    have hi2 : (ns.length : Int) - 1 - (i : Int) < (ns.length : Int) := by omega
                    clear hq hlen HG
                    go_wp2_with ((with_reducible refine gate_builtin (b := .append) (xs := #[.tmp 103, .tmp 112]) rfl ?_); at_builtin; refine Kd.R_append Kd.string (w0 := wo) wo.heap.size rfl (.tmp 103) (.tmp 112) 23 9 (.string ByteArray.empty) 16 rfl Tryd.underlying23 infoS rfl (by decide) (by omega) _ (ns.reverse.take i) q [.string q] (fun _ => True) (fun _ => False) rfl rfl rfl (fun _ hk => hk.elim) (fun _ _ => trivial) HO.out HBW.out ?aS ?aL ?_; (case aS => exact HBW.out.size); (case aL => rw [HLN.out]; omega); intro v1 w8 ho hb8 hg hat; have HO8 := Aside0.mk ho; have HB8 := Aside0.mk hb8; clear ho hb8 hat)
                    go_roundw
                    case rel => exact ⟨i + 1, by go_num, by omega, HM9.out.step HB8.out, HB8.out, HQ.out ▸ HO8.out⟩
                    case measure => simp [intOf]; omega
                  · have hend4 : i = ns.length := by omega
                    have hrow := HG.out.row
                    rw [hend4, List.take_of_length_le (by simp)] at hrow
                    obtain ⟨A13, c13, hv13⟩ := Kd.R_slice hrow
                    rw [List.length_reverse] at hv13
                    subst hv13
                    obtain ⟨g13, rfl, hb13, hl13⟩ := row_head hrow (by simp; omega)
                    have HT := Aside0.mk (two_of (n13 := ns.length) HM9.out HG.out.room (by simp) hrow)
                    clear hrow HG
                    obtain ⟨q0, hq0⟩ : ∃ q0, wr.cell? ⟨g13, 0, none⟩ = some (.string q0) := ⟨_, (HT.out.cell13 0 (by omega)).1⟩
                    have hz0 := (HT.out.cell13 0 (by omega)).2
                    by_cases ht0 : 0 < t
                    · obtain ⟨qs, hqs, hqn⟩ : ∃ qs : ByteArray, (convert 45 9 (Value.slice (some { block := wr.heap.size, off := 0 }) 1 1)).run Tryd.prog (wr.alloc (Obj.cells #[Value.int IntKind.u8 (48 + ↑t)] 5)) = .ok (.string qs) (wr.alloc (Obj.cells #[Value.int IntKind.u8 (48 + ↑t)] 5)) ∧ qs.size = 1 := ⟨_, digit_text wr t, by simp [strOfNums, ByteArray.size]⟩
                      have hqn' : qs.size ≤ 1 := by omega
                      clear hqn
                      go_wp2_with fail
                      obtain ⟨os, hos, HT5⟩ : ∃ os : List ByteArray, os.length = ns.length ∧ Aside0 (Two w ((wr.setCell { block := g13, off := 0 } (Value.string ({ data := #[113] } ++ qs))).alloc (Obj.cells #[Value.int IntKind.u8 (48 + ↑t)] 5)) A ns g8 (ns.length + 2) c8 (ms ++ behind) g13 ns.length c13 os) := ⟨_, by simp, Aside0.mk ((HT.out.put13 HR.out 0 _).step (below_alloc (Below.refl _ _) _))⟩
                      clear HT hqs hqn'
                      obtain ⟨want2, f2, hw2⟩ : ∃ want2 f2, (joinB b (os.map tx)) = (want2, f2) := ⟨_, _, rfl⟩
                      have HJ := Aside0.mk (show place_Join.f b os = some (want2, f2) by unfold place_Join.f; rw [if_pos (by omega), hw2])
                      have HJr := Aside0.mk (show heraldref1_Join.f b os = some (want2, f2) by unfold heraldref1_Join.f; rw [if_pos (by omega), hw2])
                      have HOS := Aside0.mk hos
                      clear hw2 hos
                      go_loopw [15] (fun v15 W => ∃ i : Nat, v15 = .int .i64 i ∧ i ≤ ns.length ∧ Two w W A ns g8 (ns.length + 2) c8 (os.take i ++ (ms ++ behind).drop i) g13 ns.length c13 os) (fun v15 _ => ns.length - (intOf v15).toNat)
                      case atStart => exact ⟨0, rfl, Nat.zero_le _, HT5.out⟩
                      case round =>
                        clear HT5
                        obtain ⟨i, rfl, hi, HT0⟩ := hrel
                        have HT := Aside0.mk HT0
                        clear HT0
                        by_cases hlt : i < ns.length
                        · obtain ⟨hx13, _⟩ := HT.out.cell13 i hlt
                          obtain ⟨x8, hx8, hz8⟩ := HT.out.cell8 i (by omega)
                          obtain ⟨q, hq⟩ : ∃ q, q = rdOf ByteArray.empty os (i : Int) := ⟨_, rfl⟩
                          rw [← hq] at hx13
                          have HQ := Aside0.mk hq
                          clear hq
                          go_wp2_with fail
                          go_roundw
                          case rel => exact ⟨i + 1, by go_num, by omega, put_step HR.out HT.out HQ.out HOS.out HMS.out hlt⟩
                          case measure => simp [intOf]; omega
                        · have hend5 : i = ns.length := by omega
                          have HT6 := Aside0.mk (laid_all HT.out HOS.out HMS.out (Nat.le_of_not_lt hlt) hi)
                          clear HT
                          have hF : (f2 != f2) = false := by simp
                          go_wp2_with (first
                            | (go_at_call 32; (with_reducible refine (ref_join b _ _ _ os want2 f2 _ HOS.out HT6.out.c13 HT6.out.cap13 HJr.out).mono ?_); rintro e w9 ⟨rfl, hb9⟩; have n0_ := Aside0.mk (HT6.out.step hb9); clear HT6 hb9; have HT6 := n0_; clear n0_)
                            | (go_at_call 33; (with_reducible refine (own_join b _ _ _ os want2 f2 _ HOS.out HT6.out.room.head HT6.out.cap8 HJ.out (HE.at_ HT6.out.room.below).env).mono ?_); rintro e w9 ⟨rfl, hb9⟩; have n0_ := Aside0.mk (HT6.out.step hb9); clear HT6 hb9; have HT6 := n0_; clear n0_)
                            | (go_at_call 20; (with_reducible refine (heraldlaw1_num.calls _ _ _ rfl).mono ?_); rintro e w1 ⟨rfl, hd⟩; have n0_ := Aside0.mk (HT6.out.step hd.below); clear HT6 hd; have HT6 := n0_; clear n0_))
                          go_roundw
                          case rel => exact ⟨t + 1, os, by go_num, by omega, HOS.out, HT6.out.room⟩
                          case measure => simp [intOf]; omega
                    · obtain ⟨os, hos, HT5⟩ : ∃ os : List ByteArray, os.length = ns.length ∧ Aside0 (Two w wr A ns g8 (ns.length + 2) c8 (ms ++ behind) g13 ns.length c13 os) := ⟨_, by simp, HT⟩
                      clear HT
                      obtain ⟨want2, f2, hw2⟩ : ∃ want2 f2, (joinB b (os.map tx)) = (want2, f2) := ⟨_, _, rfl⟩
                      have HJ := Aside0.mk (show place_Join.f b os = some (want2, f2) by unfold place_Join.f; rw [if_pos (by omega), hw2])
                      have HJr := Aside0.mk (show heraldref1_Join.f b os = some (want2, f2) by unfold heraldref1_Join.f; rw [if_pos (by omega), hw2])
                      have HOS := Aside0.mk hos
                      clear hw2 hos
                      go_wp2_with fail
                      go_loopw [15] (fun v15 W => ∃ i : Nat, v15 = .int .i64 i ∧ i ≤ ns.length ∧ Two w W A ns g8 (ns.length + 2) c8 (os.take i ++ (ms ++ behind).drop i) g13 ns.length c13 os) (fun v15 _ => ns.length - (intOf v15).toNat)
                      case atStart => exact ⟨0, rfl, Nat.zero_le _, HT5.out⟩
                      case round =>
                        clear HT5
                        obtain ⟨i, rfl, hi, HT0⟩ := hrel
                        have HT := Aside0.mk HT0
                        clear HT0
                        by_cases hlt : i < ns.length
                        · obtain ⟨hx13, _⟩ := HT.out.cell13 i hlt
                          obtain ⟨x8, hx8, hz8⟩ := HT.out.cell8 i (by omega)
                          obtain ⟨q, hq⟩ : ∃ q, q = rdOf ByteArray.empty os (i : Int) := ⟨_, rfl⟩
                          rw [← hq] at hx13
                          have HQ := Aside0.mk hq
                          clear hq
                          go_wp2_with fail
                          go_roundw
                          case rel => exact ⟨i + 1, by go_num, by omega, put_step HR.out HT.out HQ.out HOS.out HMS.out hlt⟩
                          case measure => simp [intOf]; omega
                        · have hend5 : i = ns.length := by omega
                          have HT6 := Aside0.mk (laid_all HT.out HOS.out HMS.out (Nat.le_of_not_lt hlt) hi)
                          clear HT
                          have hF : (f2 != f2) = false := by simp
                          go_wp2_with (first
                            | (go_at_call 32; (with_reducible refine (ref_join b _ _ _ os want2 f2 _ HOS.out HT6.out.c13 HT6.out.cap13 HJr.out).mono ?_); rintro e w9 ⟨rfl, hb9⟩; have n0_ := Aside0.mk (HT6.out.step hb9); clear HT6 hb9; have HT6 := n0_; clear n0_)
                            | (go_at_call 33; (with_reducible refine (own_join b _ _ _ os want2 f2 _ HOS.out HT6.out.room.head HT6.out.cap8 HJ.out (HE.at_ HT6.out.room.below).env).mono ?_); rintro e w9 ⟨rfl, hb9⟩; have n0_ := Aside0.mk (HT6.out.step hb9); clear HT6 hb9; have HT6 := n0_; clear n0_)
                            | (go_at_call 20; (with_reducible refine (heraldlaw1_num.calls _ _ _ rfl).mono ?_); rintro e w1 ⟨rfl, hd⟩; have n0_ := Aside0.mk (HT6.out.step hd.below); clear HT6 hd; have HT6 := n0_; clear n0_))
                          go_roundw
                          case rel => exact ⟨t + 1, os, by go_num, by omega, HOS.out, HT6.out.room⟩
                          case measure => simp [intOf]; omega
              · go_wp2_with (go_at_call 26; (with_reducible refine (heraldlaw1_known.calls 8 true _ HK.out (HE.at_ HM.out.below)).mono ?_); rintro e w9 ⟨rfl, hb9⟩; have HBZ := Aside0.mk (below_step HM.out.below hb9); clear hb9)
                go_ret
                exact ⟨rfl, HBZ.out⟩
            · go_wp2_with (go_at_call 26; (with_reducible refine (heraldlaw1_known.calls 8 true _ HK.out (HE.at_ HM.out.below)).mono ?_); rintro e w9 ⟨rfl, hb9⟩; have HBZ := Aside0.mk (below_step HM.out.below hb9); clear hb9)
              go_ret
              exact ⟨rfl, HBZ.out⟩
end Go.Proofs.YtfdinkofcjcahaaDoor.Law
