/- The walk of TopSums, under the name that its proof asks for. -/
import Derived.Test.YtglklbcohbeacaaGreatSumsW
import Derived.Test.YtglklbcohbeacaaGreatIn
namespace Go.Proofs.YtglklbcohbeacaaGreat
open Go.RowKit
namespace topSums
theorem walk (w : World) (s0 : Option Addr) (len0 cap0 : Nat) (ks : List Int) (s1 : Option Addr) (n cap1 : Nat) (ls : List Int) (h0 : IsRow .u8 w s0 len0 ks) (h1 : IsRow .u8 w s1 n ls) :
    Calls Tryz.prog 3 #[.slice s0 len0 cap0, .slice s1 n cap1] w (Ret (.bool true) w) := sums_any w s0 len0 cap0 ks s1 n cap1 ls h0 h1
end topSums
end Go.Proofs.YtglklbcohbeacaaGreat
