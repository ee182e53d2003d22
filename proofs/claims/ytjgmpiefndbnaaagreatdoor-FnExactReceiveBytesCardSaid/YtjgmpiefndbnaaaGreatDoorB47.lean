/- Walks, laws and small notions for the claims of this seat, several texts as one (Of, Og). Conditions: as each theorem states them. -/
import Derived.Test.YtjgmpiefndbnaaaGreatDoorB36
import Derived.Test.YtjgmpiefndbnaaaGreatDoorB37
import Derived.Test.YtjgmpiefndbnaaaGreatDoorB42
import Derived.Test.YtjgmpiefndbnaaaGreatDoorB43
import Derived.Test.YtjgmpiefndbnaaaGreatDoorB44
import Derived.Test.YtjgmpiefndbnaaaGreatDoorB45
namespace Go.Proofs.YtjgmpiefndbnaaaGreatDoor
open Go.RowKit
theorem sFrm_any (A : Option Addr) (n c : Nat) (zs : List Int) (w : World) (h : SL w A n c zs) (hn : n ≤ 1048576) (hz : allR zs 0 255 = true) :
    Calls Tryz.prog 182 #[.slice A n c] w (RetFB w zs) := by
  by_cases h0 : bk zs = 0
  · exact sFrm_k0 A n c zs w h hn hz h0
  · by_cases h2 : bk zs = 2
    · exact sFrm_k1 A n c zs w h hn hz h0 h2
    · exact sFrm_k2 A n c zs w h hn hz h0 h2

end Go.Proofs.YtjgmpiefndbnaaaGreatDoor

namespace Go.Proofs.YtjgmpiefndbnaaaGreatDoor
open Go.RowKit
theorem iFrm_any (A : Option Addr) (n c : Nat) (zs : List Int) (w : World) (h : SL w A n c zs) (hn : n ≤ 1048576) (hz : allR zs 0 255 = true) :
    Calls Tryz.prog 188 #[.slice A n c] w (RetFB w zs) := by
  by_cases h0 : bk zs = 0
  · exact iFrm_k0 A n c zs w h hn hz h0
  · by_cases h2 : bk zs = 2
    · exact iFrm_k1 A n c zs w h hn hz h0 h2
    · exact iFrm_k2 A n c zs w h hn hz h0 h2

end Go.Proofs.YtjgmpiefndbnaaaGreatDoor
