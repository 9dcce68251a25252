/- What Clean and loose answer, in the form that the printed laws ask. -/
import Derived.Test.YtfdinkofcjcahaaDoorApi
namespace Go.Proofs.YtfdinkofcjcahaaDoor.Ext
open Go.RowKit Go.Proofs.YtfdinkofcjcahaaDoorW.PrintWords Go.Proofs.YtfdinkofcjcahaaDoor.Ord Go.Proofs.YtfdinkofcjcahaaDoor.Pl
def cleanB (s : ByteArray) : ByteArray × Int := (bs (cleanL (tx s)).1, (cleanL (tx s)).2)
def place_Clean.f (a0 : ByteArray) : Option (ByteArray × Int) := if a0.size ≤ maxLen then some (cleanB a0) else none
def heraldref1_Clean.f (a0 : ByteArray) : Option (ByteArray × Int) := if a0.size ≤ maxLen then some (cleanB a0) else none
def heraldlaw1_loose.f (l0 : List ByteArray) (l1 : List Int) : Option ByteArray := if (l0.map tx).length ≤ 6 ∧ (l0.map tx).all Name.okN = true then some (bs (looseL (l0.map tx) l1)) else none
end Go.Proofs.YtfdinkofcjcahaaDoor.Ext
