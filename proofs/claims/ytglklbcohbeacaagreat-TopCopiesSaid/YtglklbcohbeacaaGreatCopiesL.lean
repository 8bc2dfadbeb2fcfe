/- The walk of TopCopies, under the name that its proof asks for. -/
import Derived.Test.YtglklbcohbeacaaGreatCopiesW
import Derived.Test.YtglklbcohbeacaaGreatIn
namespace Go.Proofs.YtglklbcohbeacaaGreat
open Go.RowKit
namespace topCopies
theorem walk (w : World) (s0 : Option Addr) (n cap0 : Nat) (ds : List Int) (a : Int) (h0 : IsRow .u8 w s0 n ds) (ha0 : 0 ≤ a) (ha1 : a ≤ 65535) :
    Calls Tryz.prog 4 #[.slice s0 n cap0, .int .u16 a] w (Ret (.bool true) w) := copies_any w s0 n cap0 ds a h0 ha0 ha1
end topCopies
end Go.Proofs.YtglklbcohbeacaaGreat
