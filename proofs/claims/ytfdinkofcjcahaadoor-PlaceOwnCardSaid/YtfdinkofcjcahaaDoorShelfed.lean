/- The library's functions that the program calls, off the shelf, in the words of the printed texts: what each answers, as a Lean function, and its contract. -/
import Derived.Test.YtfdinkofcjcahaaDoorEnv
import Derived.WalkKit
import Derived.Lib.SplitLaws
namespace Go.Proofs.YtfdinkofcjcahaaDoor.Ext
open Go.RowKit Go.Proofs.YtfdinkofcjcahaaDoorW.PrintWords

theorem row_strings {w : World} {n : Nat} {l : List ByteArray} {T : Nat} (base : Nat) (hn : n = l.length) (hb : base ≤ w.heap.size) (hm : l.length ≤ maxLen) :
    Kd.R Kd.string T (w.alloc (.cells (l.map Value.string).toArray T)) base (fun _ => True) (.slice (some ⟨w.heap.size, 0, none⟩) n n) l := by
  subst hn
  exact Kd.R_of_own ⟨by simp [encs], .inr ⟨w.heap.size, l.length, (l.map Value.string).toArray, rfl, hb, heap_alloc_new w _, Nat.le_refl _, hm, by simp, by rw [Nat.mul_one, List.take_of_length_le (by simp)]; rfl⟩⟩ (fun _ _ => trivial)

def strings_Split.f (a0 a1 : ByteArray) : Option (List ByteArray) := if a0.size < 4294967281 then (if 1 ≤ a1.size then some (Lib.splitB a1 0 (Lib.countB a0 a1) a0) else none) else none
theorem strings_Split.calls (a0 a1 : ByteArray) (r : List ByteArray) (w : World) (h : strings_Split.f a0 a1 = some r) (HE : Env w) :
    Calls Tryd.prog 46 #[.string a0, .string a1] w fun e w' => ∃ v0_ : Value, e = .returned (v0_) ∧ Kd.R Kd.string 9 w' w.heap.size (fun _ => True) v0_ r ∧ Below w.heap.size w w' := by
  unfold strings_Split.f at h
  by_cases h1 : a0.size < 4294967281
  · by_cases h2 : 1 ≤ a1.size
    · rw [if_pos h1, if_pos h2] at h
      obtain rfl := Option.some.inj h
      obtain ⟨m, hm⟩ := HE.maxLen
      have hl := Lib.splitB_all a1 h2 0 (Lib.countB a0 a1) a0 rfl
      have hc := Lib.countB_le a1 h2 a0.size a0 (Nat.le_refl _)
      refine (Tryd.strings_Split a0 a1 m w h1 hm h2).mono ?_
      rintro e w' ⟨rfl, rfl⟩
      exact ⟨_, rfl, row_strings _ hl.symm (Nat.le_refl _) (by rw [hl]; unfold maxLen; omega), (Below.refl _ _).alloc (Nat.le_refl _) _⟩
    · rw [if_pos h1, if_neg h2] at h; cases h
  · rw [if_neg h1] at h; cases h

def strings_HasPrefix.f (a0 a1 : ByteArray) : Option Bool := some (Lib.hasPrefix a0.data.toList a1.data.toList)
theorem strings_HasPrefix.calls (a0 a1 : ByteArray) (r : Bool) (w : World) (h : strings_HasPrefix.f a0 a1 = some r) :
    Calls Tryd.prog 45 #[.string a0, .string a1] w fun e w' => e = .returned (.bool r) ∧ Drawn0 w w' := by
  obtain rfl := Option.some.inj h
  refine (Tryd.strings_HasPrefix a0 a1 w).mono ?_
  rintro e w' ⟨rfl, rfl⟩
  exact ⟨rfl, Drawn0.refl _⟩

def joined (l : List ByteArray) (s : ByteArray) : ByteArray := ⟨(Lib.join (l.map (·.data.toList)) s.data.toList).toArray⟩
def strings_Join.f (l0 : List ByteArray) (a1 : ByteArray) : Option ByteArray := if l0.length ≤ 140737488355328 then (if (joined l0 a1).size ≤ 140737488355328 then some (joined l0 a1) else none) else none
theorem strings_Join.calls (A0 : Option Addr) (c0 : Nat) (l0 : List ByteArray) (a1 : ByteArray) (r : ByteArray) (w : World) (hr0 : Kd.C Kd.string w A0 l0.length l0) (hc0 : l0.length ≤ c0) (h : strings_Join.f l0 a1 = some r) :
    Calls Tryd.prog 60 #[.slice A0 l0.length c0, .string a1] w fun e w' => e = .returned (.string r) ∧ Below w.heap.size w w' := by
  unfold strings_Join.f at h
  by_cases h1 : l0.length ≤ 140737488355328
  · by_cases h2 : (joined l0 a1).size ≤ 140737488355328
    · rw [if_pos h1, if_pos h2] at h
      obtain rfl := Option.some.inj h
      cases l0 with
      | nil =>
        refine (Tryd.strings_Join_none A0 c0 a1 w).mono ?_
        rintro e w' ⟨rfl, rfl⟩
        exact ⟨rfl, Below.refl _ _⟩
      | cons x l =>
        obtain ⟨_, _, hr⟩ := hr0
        obtain ⟨⟨bk, o, sp⟩, rfl, hcell⟩ := hr (by simp)
        have cell : ∀ (j : Nat) (y : ByteArray), (x :: l)[j]? = some y → w.cell? (Addr.add ⟨bk, o, sp⟩ j) = some (.string y) := by
          intro j y hj
          obtain ⟨c, hlen, hk, hcs⟩ := hcell j y hj
          have hk' : c = [Value.string y] := hk
          subst hk'
          have hz := hcs 0 (Value.string y) rfl
          have e : (Kd.string).sz = 1 := rfl
          rw [e, Nat.mul_one, Nat.add_zero] at hz
          exact hz
        have c0' := cell 0 x rfl
        have hsp : sp = none := by
          cases sp with
          | none => rfl
          | some s =>
            unfold World.cell? Addr.add at c0'
            rw [if_pos rfl] at c0'
            split at c0' <;> simp at c0'
        subst hsp
        have hb : bk < w.heap.size := World.block_lt_of_cell? w _ c0'
        refine (Tryd.strings_Join bk o c0 (x :: l) a1 w ?_ hb h1 hc0 ?_).mono ?_
        · intro j y hj
          have := cell j y hj
          unfold Addr.add at this
          split at this
          · rename_i hz; subst hz; exact this
          · exact this
        · have : (joined (x :: l) a1).size = (Lib.join ((x :: l).map (·.data.toList)) a1.data.toList).length := by simp [joined, ByteArray.size]
          rw [← this]; exact h2
        · rintro e w' ⟨rfl, hb'⟩
          exact ⟨rfl, hb'⟩
    · rw [if_pos h1, if_neg h2] at h; cases h
  · rw [if_neg h1] at h; cases h

def stringslite_Clone.f (a0 : ByteArray) : Option ByteArray := if a0.size ≤ 281474976710656 then some a0 else none
theorem stringslite_Clone.calls (a0 : ByteArray) (r : ByteArray) (w : World) (h : stringslite_Clone.f a0 = some r) : Calls Tryd.prog 68 #[.string a0] w fun e w' => e = .returned (.string r) ∧ Below w.heap.size w w' := by
  unfold stringslite_Clone.f at h
  by_cases h1 : a0.size ≤ 281474976710656
  · rw [if_pos h1] at h
    obtain rfl := Option.some.inj h
    exact Tryd.stringslite_Clone a0 w h1
  · rw [if_neg h1] at h; cases h

def strconv_Itoa.f (a0 : Int) : Option ByteArray := if -9223372036854775808 ≤ a0 then (if a0 ≤ 9223372036854775807 then some ⟨(Lib.itoa a0).toArray⟩ else none) else none
theorem strconv_Itoa.calls (a0 : Int) (r : ByteArray) (w : World) (h : strconv_Itoa.f a0 = some r) (HE : Env2 w) :
    Calls Tryd.prog 54 #[.int .i64 a0] w fun e w' => e = .returned (.string r) ∧ Below w.heap.size w w' := by
  unfold strconv_Itoa.f at h
  by_cases h1 : -9223372036854775808 ≤ a0
  · by_cases h2 : a0 ≤ 9223372036854775807
    · rw [if_pos h1, if_pos h2] at h
      obtain rfl := Option.some.inj h
      refine (Tryd.strconv_Itoa a0 h1 h2 w HE.pow10).mono ?_
      rintro e w' ⟨rfl, k, os, rfl⟩
      refine ⟨rfl, ?_⟩
      have hb : Below w.heap.size w (w.drewN k) := pw_below_drewN (Below.refl _ _) k
      refine ⟨hb.os, hb.tape, hb.output, ?_, fun i hi => ?_⟩
      · simp [Sort.grow]
      · show ((w.drewN k).heap ++ os)[i]? = w.heap[i]?
        rw [Array.getElem?_append_left (by simpa using hi)]
        exact hb.block i hi
    · rw [if_pos h1, if_neg h2] at h; cases h
  · rw [if_neg h1] at h; cases h

def strings_Repeat.f (a0 : ByteArray) (a1 : Int) : Option ByteArray := if 0 ≤ a1 then (if a1 ≤ 9223372036854775807 then (if a0.size * a1.toNat ≤ 140737488355328 then some ⟨(Lib.repeatL a0.data.toList a1.toNat).toArray⟩ else none) else none) else none
theorem strings_Repeat.calls (a0 : ByteArray) (a1 : Int) (r : ByteArray) (w : World) (h : strings_Repeat.f a0 a1 = some r) :
    Calls Tryd.prog 55 #[.string a0, .int .i64 a1] w fun e w' => e = .returned (.string r) ∧ Below w.heap.size w w' := by
  unfold strings_Repeat.f at h
  by_cases h1 : 0 ≤ a1
  · by_cases h2 : a1 ≤ 9223372036854775807
    · by_cases h3 : a0.size * a1.toNat ≤ 140737488355328
      · rw [if_pos h1, if_pos h2, if_pos h3] at h
        obtain rfl := Option.some.inj h
        obtain ⟨n, rfl⟩ := Int.eq_ofNat_of_zero_le h1
        rw [Int.toNat_natCast] at h3 ⊢
        exact Tryd.strings_Repeat a0 n w (by omega) h3
      · rw [if_pos h1, if_pos h2, if_neg h3] at h; cases h
    · rw [if_pos h1, if_neg h2] at h; cases h
  · rw [if_neg h1] at h; cases h
end Go.Proofs.YtfdinkofcjcahaaDoor.Ext
