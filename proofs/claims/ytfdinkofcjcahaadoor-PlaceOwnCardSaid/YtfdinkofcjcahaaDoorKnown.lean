/- Two lists of texts that are alike; what the program's known answers come to (as in LawsA, over fewer printed texts). -/
import Derived.Test.YtfdinkofcjcahaaDoorPPlx1
namespace Go.Proofs.YtfdinkofcjcahaaDoor.Law
open Go.RowKit Go.Proofs.YtfdinkofcjcahaaDoor.Ext Go.Proofs.YtfdinkofcjcahaaDoor.PPl Go.Proofs.YtfdinkofcjcahaaDoor.Pl Go.Proofs.YtfdinkofcjcahaaDoor.Ord Go.Proofs.YtfdinkofcjcahaaDoorW.PrintWords

theorem texts_loop (l : List ByteArray) (hl : l.length ≤ 4611686018427387904) (d : Nat) : ∀ (k i : Nat), i ≤ l.length → l.length - i = d → d < k → heraldlaw1_texts.l0 k l l (i : Int) = some true := by
  induction d with
  | zero =>
    intro k i hi hd hk
    obtain ⟨k, rfl⟩ : ∃ m, k = m + 1 := ⟨k - 1, by omega⟩
    simp only [heraldlaw1_texts.l0]
    rw [if_neg (by omega)]
  | succ d ih =>
    intro k i hi hd hk
    obtain ⟨k, rfl⟩ : ∃ m, k = m + 1 := ⟨k - 1, by omega⟩
    simp only [heraldlaw1_texts.l0]
    rw [if_pos (by omega), if_pos (by omega), if_pos (by omega), if_pos trivial, wrap_next (by omega : i < l.length) (by omega)]
    exact ih k (i + 1) (by omega) (by omega) (by omega)
theorem texts_same (l : List ByteArray) (hl : l.length ≤ 4611686018427387904) (k : Nat) (hk : l.length < k) : heraldlaw1_texts.f k l l = some true := by
  unfold heraldlaw1_texts.f
  rw [if_pos rfl]
  exact texts_loop l hl l.length k 0 (Nat.zero_le _) rfl hk
theorem known_tells (k : Nat) (hk : 4 < k) : heraldlaw1_known.f k = some true := by
  obtain ⟨k, rfl⟩ : ∃ m, k = m + 1 := ⟨k - 1, by omega⟩
  have h1 : place_Parse.f (⟨#[47, 97, 47, 98, 45, 49]⟩ : ByteArray) = some ([(⟨#[97]⟩ : ByteArray), (⟨#[98, 45, 49]⟩ : ByteArray)], 0) := by kernel_rfl
  have h2 : place_Parse.f (⟨#[47, 97, 47]⟩ : ByteArray) = some ([], 10) := by kernel_rfl
  have h3 : (strOfNums (List.replicate 65537 0)).size = 65537 := by
    show (((List.replicate 65537 (0 : Int)).map fun n => UInt8.ofNat n.toNat).toArray).size = 65537
    rw [List.size_toArray, List.length_map, List.length_replicate]
  have h4 : place_Clean.f (strOfNums (List.replicate 65537 0)) = some (bs [], 2) := by
    unfold place_Clean.f cleanB cleanL
    rw [if_pos (by rw [h3]; unfold maxLen; omega), tx_length, h3, if_pos (by omega)]
  have h5 : place_Counted.f (⟨#[47]⟩ : ByteArray) (-1) = some (bs [], 47) := by kernel_rfl
  have h6 : place_Counted.f (⟨#[47, 97, 98, 99, 100, 101, 102, 103, 104, 105, 106, 107, 108]⟩ : ByteArray) (-1) = some (bs [], 10) := by kernel_rfl
  unfold heraldlaw1_known.f
  rw [h1, h2, h4, h5, h6]
  simp only [Option.bind_some, heraldlaw1_num.f, heraldlaw1_known.j0]
  rw [texts_same _ (by simp) k (by simp; omega)]
  decide
end Go.Proofs.YtfdinkofcjcahaaDoor.Law
