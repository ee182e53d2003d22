/- Walks, laws and small notions for the claims of this seat, several texts as one (Strobe, Voted, Vote, Db). Conditions: as each theorem states them. -/
import Derived.Test.YtbaojbheopcjhaaGreatDoorSB23
import Derived.Test.YtbaojbheopcjhaaGreatDoorB1
import Derived.StillTailTactics
import Derived.Test.YtbaojbheopcjhaaGreatDoorB3
namespace Go.Proofs.YtbaojbheopcjhaaGreatDoor
open Go.RowKit

namespace StrobesOf
end StrobesOf
end Go.Proofs.YtbaojbheopcjhaaGreatDoor

namespace Go.Proofs.YtbaojbheopcjhaaGreatDoor
open Go.RowKit

namespace DecodeVoted
end DecodeVoted
end Go.Proofs.YtbaojbheopcjhaaGreatDoor

namespace Go.Proofs.YtbaojbheopcjhaaGreatDoor
open Go.RowKit

/-- a sample of a window; those ahead of the first are 1 -/
def vt (zs : List Int) (p : Int) : Int := if p < 0 then 1 else gi zs p.toNat
def onesTo (zs : List Int) (i : Nat) : Nat → Int
  | 0 => 0
  | m + 1 => onesTo zs i m + vt zs ((i : Int) - 4 + m)
def ones (zs : List Int) (i : Nat) : Int := onesTo zs i 5
def vb (zs : List Int) (i : Nat) : Int := if 3 ≤ ones zs i then 1 else 0
namespace Vote
end Vote

namespace DecodeSamples
end DecodeSamples
end Go.Proofs.YtbaojbheopcjhaaGreatDoor

namespace Go.Proofs.YtbaojbheopcjhaaGreatDoor
open Go.RowKit

end Go.Proofs.YtbaojbheopcjhaaGreatDoor
