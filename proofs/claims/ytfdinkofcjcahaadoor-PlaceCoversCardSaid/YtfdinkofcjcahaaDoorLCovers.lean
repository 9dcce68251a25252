/- The law PlaceCovers, in plain Lean. -/
import Derived.Test.YtfdinkofcjcahaaDoorPPlx1
namespace Go.Proofs.YtfdinkofcjcahaaDoor.Law
open Go.RowKit Go.Proofs.YtfdinkofcjcahaaDoor.Ext Go.Proofs.YtfdinkofcjcahaaDoor.PPl Go.Proofs.YtfdinkofcjcahaaDoor.Pl Go.Proofs.YtfdinkofcjcahaaDoor.Ord
theorem PlaceCovers : heraldlaw1_PlaceCovers.Pure := by
  intro a0 a1 a2 a3 _ _ _ _
  have h1 : coversL 3 (tx (⟨#[47]⟩ : ByteArray)) 1 (tx (⟨#[47, 120]⟩ : ByteArray)) = true := by decide
  unfold heraldlaw1_PlaceCovers.f heraldref1_Covers.f place_Covers.f
  simp [h1]
end Go.Proofs.YtfdinkofcjcahaaDoor.Law
