/- The contracts of layer 1 (place) and of the document's package, each with the plain answer of ApiSpec, in the form that the printed laws ask. -/
import Derived.Test.YtfdinkofcjcahaaDoorRePure2
import Derived.Test.YtfdinkofcjcahaaDoorOrder
namespace Go.Proofs.YtfdinkofcjcahaaDoor.Ext
open Go.RowKit Go.Proofs.YtfdinkofcjcahaaDoorW.PrintWords Go.Proofs.YtfdinkofcjcahaaDoor.Ord Go.Proofs.YtfdinkofcjcahaaDoor.Pl

theorem map_tx (l : List ByteArray) : (l.map tx).map bs = l := by
  rw [List.map_map]
  conv => rhs; rw [← List.map_id l]
  exact List.map_congr_left fun x _ => bs_tx x

def place_Parse.f (a0 : ByteArray) : Option (List ByteArray × Int) := some (parseB a0)
theorem place_Parse.calls (a0 : ByteArray) (r1 : List ByteArray) (r2 : Int) (w : World) (h : place_Parse.f a0 = some (r1, r2)) (HE : Env w) :
    Calls Tryd.prog 18 #[.string a0] w fun e w' => ∃ v0_ : Value, e = .returned (.tuple #[v0_, .int .i64 r2]) ∧ Kd.R Kd.string 9 w' w.heap.size (fun _ => True) v0_ r1 ∧ Below w.heap.size w w' :=
  PPa.place_Parse.calls 8 a0 r1 r2 w ((parse_tells a0 8 (by omega)).trans h) HE
def place_Join.f (a0 : ByteArray) (l1 : List ByteArray) : Option (ByteArray × Int) := if l1.length ≤ 140737488351232 then some (joinB a0 (l1.map tx)) else none
theorem place_Join.calls (a0 : ByteArray) (A1 : Option Addr) (c1 : Nat) (l1 : List ByteArray) (r1 : ByteArray) (r2 : Int) (w : World) (hr1 : Kd.C Kd.string w A1 l1.length l1) (hc1 : l1.length ≤ c1) (h : place_Join.f a0 l1 = some (r1, r2)) (HE : Env w) :
    Calls Tryd.prog 33 #[.string a0, .slice A1 l1.length c1] w fun e w' => e = .returned (.tuple #[.string r1, .int .i64 r2]) ∧ Below w.heap.size w w' := by
  unfold place_Join.f at h
  by_cases hl : l1.length ≤ 140737488351232
  · rw [if_pos hl] at h
    have := joinB_tells a0 (l1.map tx) (by rw [List.length_map]; exact hl) (l1.length + 9) (by rw [List.length_map]; omega)
    rw [map_tx] at this
    exact PPa.place_Join.calls _ a0 A1 c1 l1 r1 r2 w hr1 hc1 (this.trans h) HE
  · rw [if_neg hl] at h; cases h
def place_Parent.f (a0 : ByteArray) : Option (ByteArray × Int) := some (parentB a0)
theorem place_Parent.calls (a0 : ByteArray) (r1 : ByteArray) (r2 : Int) (w : World) (h : place_Parent.f a0 = some (r1, r2)) (HE : Env w) :
    Calls Tryd.prog 19 #[.string a0] w fun e w' => e = .returned (.tuple #[.string r1, .int .i64 r2]) ∧ Below w.heap.size w w' :=
  PPa.place_Parent.calls 9 a0 r1 r2 w ((parent_tells a0 9 (by omega)).trans h) HE
def place_Name.f (a0 : ByteArray) : Option (ByteArray × Int) := some (nameB a0)
theorem place_Name.calls (a0 : ByteArray) (r1 : ByteArray) (r2 : Int) (w : World) (h : place_Name.f a0 = some (r1, r2)) (HE : Env w) :
    Calls Tryd.prog 39 #[.string a0] w fun e w' => e = .returned (.tuple #[.string r1, .int .i64 r2]) ∧ Below w.heap.size w w' :=
  PPa.place_Name.calls 9 a0 r1 r2 w ((name_tells a0 9 (by omega)).trans h) HE
def place_Covers.f (a0 : Int) (a1 : ByteArray) (a2 : Int) (a3 : ByteArray) : Option Bool := some (coversL a0 (tx a1) a2 (tx a3))
theorem place_Covers.calls (a0 : Int) (a1 : ByteArray) (a2 : Int) (a3 : ByteArray) (r : Bool) (w : World) (h : place_Covers.f a0 a1 a2 a3 = some r) (HE : Env w) :
    Calls Tryd.prog 17 #[.int .i64 a0, .string a1, .int .i64 a2, .string a3] w fun e w' => e = .returned (.bool r) ∧ Below w.heap.size w w' :=
  PPa.place_Covers.calls 10 a0 a1 a2 a3 r w ((covers_tells a0 a1 a2 a3 10 (by omega)).trans h) HE
def place_Order.f (a0 a1 : ByteArray) : Option Int := if a0.size ≤ maxLen then (if a1.size ≤ maxLen then some (ordL (tx a0) (tx a1)) else none) else none
theorem place_Order.calls (a0 a1 : ByteArray) (r : Int) (w : World) (h : place_Order.f a0 a1 = some r) :
    Calls Tryd.prog 40 #[.string a0, .string a1] w fun e w' => e = .returned (.int .i64 r) ∧ Below w.heap.size w w' := by
  unfold place_Order.f at h
  by_cases h1 : a0.size ≤ maxLen
  · by_cases h2 : a1.size ≤ maxLen
    · rw [if_pos h1, if_pos h2] at h
      obtain rfl := Option.some.inj h
      exact (Order.order_any a0 a1 w h1 h2).mono fun _ _ ⟨he, hd⟩ => ⟨he, hd.below⟩
    · rw [if_pos h1, if_neg h2] at h; cases h
  · rw [if_neg h1] at h; cases h

def heraldref1_Parse.f (a0 : ByteArray) : Option (List ByteArray × Int) := some (parseB a0)
theorem heraldref1_Parse.calls (a0 : ByteArray) (r1 : List ByteArray) (r2 : Int) (w : World) (h : heraldref1_Parse.f a0 = some (r1, r2)) :
    Calls Tryd.prog 24 #[.string a0] w fun e w' => ∃ v0_ : Value, e = .returned (.tuple #[v0_, .int .i64 r2]) ∧ Kd.R Kd.string 9 w' w.heap.size (fun _ => True) v0_ r1 ∧ Below w.heap.size w w' :=
  PRe.heraldref1_Parse.calls 141 a0 r1 r2 w ((refparse_tells a0 141 (by omega)).trans h)
def heraldref1_Join.f (a0 : ByteArray) (l1 : List ByteArray) : Option (ByteArray × Int) := if l1.length ≤ 140737488351232 then some (joinB a0 (l1.map tx)) else none
theorem heraldref1_Join.calls (a0 : ByteArray) (A1 : Option Addr) (c1 : Nat) (l1 : List ByteArray) (r1 : ByteArray) (r2 : Int) (w : World) (hr1 : Kd.C Kd.string w A1 l1.length l1) (hc1 : l1.length ≤ c1) (h : heraldref1_Join.f a0 l1 = some (r1, r2)) :
    Calls Tryd.prog 32 #[.string a0, .slice A1 l1.length c1] w fun e w' => e = .returned (.tuple #[.string r1, .int .i64 r2]) ∧ Below w.heap.size w w' := by
  unfold heraldref1_Join.f at h
  by_cases hl : l1.length ≤ 140737488351232
  · rw [if_pos hl] at h
    have := refjoinB_tells a0 (l1.map tx) (by rw [List.length_map]; exact hl) (l1.length + 201) (by rw [List.length_map]; omega)
    rw [map_tx] at this
    exact PRe.heraldref1_Join.calls _ a0 A1 c1 l1 r1 r2 w hr1 hc1 (this.trans h)
  · rw [if_neg hl] at h; cases h
def heraldref1_Parent.f (a0 : ByteArray) : Option (ByteArray × Int) := some (parentB a0)
theorem heraldref1_Parent.calls (a0 : ByteArray) (r1 : ByteArray) (r2 : Int) (w : World) (h : heraldref1_Parent.f a0 = some (r1, r2)) :
    Calls Tryd.prog 37 #[.string a0] w fun e w' => e = .returned (.tuple #[.string r1, .int .i64 r2]) ∧ Below w.heap.size w w' :=
  PRe.heraldref1_Parent.calls 142 a0 r1 r2 w ((refparent_tells a0 142 (by omega)).trans h)
def heraldref1_Name.f (a0 : ByteArray) : Option (ByteArray × Int) := some (nameB a0)
theorem heraldref1_Name.calls (a0 : ByteArray) (r1 : ByteArray) (r2 : Int) (w : World) (h : heraldref1_Name.f a0 = some (r1, r2)) :
    Calls Tryd.prog 38 #[.string a0] w fun e w' => e = .returned (.tuple #[.string r1, .int .i64 r2]) ∧ Below w.heap.size w w' :=
  PRe.heraldref1_Name.calls 142 a0 r1 r2 w ((refname_tells a0 142 (by omega)).trans h)
def heraldref1_Counted.f (a0 : ByteArray) (a1 : Int) : Option (ByteArray × Int) := some (countedB a0 a1)
theorem heraldref1_Counted.calls (a0 : ByteArray) (a1 : Int) (r1 : ByteArray) (r2 : Int) (w : World) (h : heraldref1_Counted.f a0 a1 = some (r1, r2)) :
    Calls Tryd.prog 29 #[.string a0, .int .i64 a1] w fun e w' => e = .returned (.tuple #[.string r1, .int .i64 r2]) ∧ Below w.heap.size w w' :=
  PRe.heraldref1_Counted.calls 201 a0 a1 r1 r2 w ((refcounted_tells a0 a1 201 (by omega)).trans h)
def heraldref1_Covers.f (a0 : Int) (a1 : ByteArray) (a2 : Int) (a3 : ByteArray) : Option Bool := some (coversL a0 (tx a1) a2 (tx a3))
theorem heraldref1_Covers.calls (a0 : Int) (a1 : ByteArray) (a2 : Int) (a3 : ByteArray) (r : Bool) (w : World) (h : heraldref1_Covers.f a0 a1 a2 a3 = some r) :
    Calls Tryd.prog 16 #[.int .i64 a0, .string a1, .int .i64 a2, .string a3] w fun e w' => e = .returned (.bool r) ∧ Below w.heap.size w w' :=
  PRe.heraldref1_Covers.calls 201 a0 a1 a2 a3 r w ((refcovers_tells a0 a1 a2 a3 201 (by omega)).trans h)
end Go.Proofs.YtfdinkofcjcahaaDoor.Ext
