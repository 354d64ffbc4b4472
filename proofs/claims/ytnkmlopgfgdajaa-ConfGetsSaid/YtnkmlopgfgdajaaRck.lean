/- The reference Get on commands. -/
import Derived.Test.YtnkmlopgfgdajaaRce
import Derived.Test.YtnkmlopgfgdajaaRcf
import Derived.Test.YtnkmlopgfgdajaaRcg
import Derived.Test.YtnkmlopgfgdajaaRch
namespace Go.Proofs.Ytnkmlopgfgdajaa
open Go.RowKit
theorem rcget_any (w : World) (b : List UInt8) (hn8 : b.length ≤ 1000000) : Calls Try.prog 12 #[.string ⟨b.toArray⟩] w (GetC w (getM b)) := by
  cases b with
  | nil => exact rcget_nil w
  | cons y b =>
    by_cases h4 : 4 < y.toNat
    · exact rcget_big w y b hn8 h4
    have h5 : y.toNat = 0 ∨ y.toNat = 1 ∨ y.toNat = 2 ∨ y.toNat = 3 ∨ y.toNat = 4 := by omega
    rcases h5 with h5 | h5 | h5 | h5 | h5
    · exact rcget_k0 w y b hn8 h5
    · exact rcget_k1 w y b hn8 h5
    · exact rcget_k2 w y b hn8 h5
    · exact rcget_k3 w y b hn8 h5
    · exact rcget_k4 w y b hn8 h5
end Go.Proofs.Ytnkmlopgfgdajaa
