/- A row's list of texts: what it reads as, and that it is no longer than its weight allows. -/
import Derived.Test.YtfdinkofcjcahaaDoorWWords
import Derived.SizedLaws
import Derived.SliceStrings
namespace Go.Proofs.YtfdinkofcjcahaaDoor.Ext
open Go.RowKit Go.ChangeShapes Go.WideShapes Go.Proofs.YtfdinkofcjcahaaDoorW.PrintWords

theorem strings_in {H : Type} {enc : TypeId × Value → H} {P : Program} {W : World} {base : Nat} {spare : Nat → Bool} {held : Bool} {t e : TypeId} {a : Option Addr} {len cap : Nat} {d : DataW H} {ps : List MemPlace} {ts : List TypeId} {ds : List (DataW H)} {j : Nat}
    (hsz : (DataW.weightsEach P ts ds).all (· ≤ reachBytes) = true) (ht : ts[j]? = some t) (hd : ds[j]? = some d) (hu : P.underlying t = some (.slice e)) (he : P.underlying e = some .string) (hc : P.cellsOf e = 1) (hB : P.bytesOf e = 16)
    (h : DataW.Trod enc P W base spare held t (.slice a len cap) d ps) : ∃ l : List ByteArray, len = l.length ∧ l.length ≤ cap ∧ l.length * 16 ≤ 140737488351232 ∧ Kd.string.C W a l.length l := by
  obtain ⟨fuel, hf⟩ := h
  rcases open_strings hu he hc hf with ⟨hcs, _⟩ | ⟨x, l, c, zs, hcs, _, hl, _, hz, hx, hcell, _⟩
  · simp [Value.cells] at hcs
    obtain ⟨rfl, rfl, rfl⟩ := hcs
    exact ⟨[], rfl, Nat.le_refl _, by simp, Kd.C_of_reads (d := ByteArray.empty) (h1 := fun _ => rfl) ⟨rfl, by simp, fun hn => absurd hn (by simp)⟩⟩
  · simp [Value.cells] at hcs
    obtain ⟨rfl, rfl, rfl⟩ := hcs
    obtain ⟨hx, _⟩ := Prod.mk.inj hx
    subst hx
    have z := sized_slice hsz ht hd hu
    rw [hB] at z
    have hl2 : len ≤ zs.length := by
      rw [hz]
      split
      · exact hl
      · exact Nat.le_refl _
    have h1 : (strs (H := H) (zs.take len)).length + (strs (H := H) (zs.drop len)).length = zs.length := by
      simp [strs]
      omega
    rw [h1] at z
    have hlt : (zs.take len).length = len := by rw [List.length_take]; omega
    have z2 : len * 16 ≤ 140737488351232 := Nat.le_trans (Nat.mul_le_mul_right _ hl2) z
    refine ⟨zs.take len, hlt.symm, by rw [hlt]; exact hl, by rw [hlt]; exact z2, ?_⟩
    rw [hlt]
    refine Kd.C_of_reads (d := ByteArray.empty) (h1 := fun _ => rfl) ⟨hlt, by omega, fun _ => ⟨x, rfl, fun i hi => ?_⟩⟩
    rw [hcell i (by omega)]
    congr 1
    congr 1
    rw [List.getD_eq_getElem?_getD, List.getD_eq_getElem?_getD, List.getElem?_take_of_lt hi]
end Go.Proofs.YtfdinkofcjcahaaDoor.Ext
