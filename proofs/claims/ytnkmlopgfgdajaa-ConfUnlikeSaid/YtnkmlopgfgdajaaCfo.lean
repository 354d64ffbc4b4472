/- The function Get of conf. -/
import Derived.Test.YtnkmlopgfgdajaaCfi
import Derived.Test.YtnkmlopgfgdajaaCfj
import Derived.Test.YtnkmlopgfgdajaaCfk
import Derived.Test.YtnkmlopgfgdajaaCfl
namespace Go.Proofs.Ytnkmlopgfgdajaa
open Go.RowKit
theorem cget_any (w : World) (a : Option Addr) (n c : Nat) (b : List UInt8) (h : NB.RdB w a n c b) (hn8 : n ≤ 1000000) : Calls Try.prog 11 #[.slice a n c] w (GetC w (getM b)) := by
  cases b with
  | nil => exact cget_nil w a n c h
  | cons y b =>
    by_cases h4 : 4 < y.toNat
    · exact cget_big w a n c y b h hn8 h4
    have h5 : y.toNat = 0 ∨ y.toNat = 1 ∨ y.toNat = 2 ∨ y.toNat = 3 ∨ y.toNat = 4 := by omega
    rcases h5 with h5 | h5 | h5 | h5 | h5
    · exact cget_k0 w a n c y b h hn8 h5
    · exact cget_k1 w a n c y b h hn8 h5
    · exact cget_k2 w a n c y b h hn8 h5
    · exact cget_k3 w a n c y b h hn8 h5
    · exact cget_k4 w a n c y b h hn8 h5
end Go.Proofs.Ytnkmlopgfgdajaa
