/- The plain law of digits: sums and differences of numbers of two digits, mended by the digits' order. No program in sight; all pairs are reckoned by the kernel. -/
import Derived.Test.YtdcfljfgcnbjlaaWalksC
namespace Go.Proofs.Ytdcfljfgcnbjlaa
open Go.RowKit

def bcd (x : Int) : Int := x / 10 * 16 + x % 10
def addS (A B : Int) : Int := (A + B + sel false 1) % 256
def addF (A B : Int) : Int := fl (decide ((A + B + sel false 1) % 256 = 0)) false (decide (15 < A % 16 + B % 16 + sel false 1)) (decide (255 < A + B + sel false 1))
def subS (A B : Int) : Int := (A - B - sel false 1) % 256
def subF (A B : Int) : Int := fl (decide ((A - B - sel false 1) % 256 = 0)) true (decide (A % 16 < B % 16 + sel false 1)) (decide (A < B + sel false 1))

def okAdd (x y : Nat) : Bool :=
  let S := addS (bcd x) (bcd y)
  let F := addF (bcd x) (bcd y)
  decide (digR S F = bcd (((x : Int) + y) % 100)) && (digHigh S F == decide (99 < (x : Int) + y))
def okSub (x y : Nat) : Bool :=
  let S := subS (bcd x) (bcd y)
  let F := subF (bcd x) (bcd y)
  decide (digR S F = bcd (((x : Int) - y + 100) % 100)) && (digHigh S F == decide ((x : Int) < y))
theorem okAdd_all : ∀ x : Nat, x < 100 → ∀ y : Nat, y < 100 → okAdd x y = true := by decide +kernel
theorem okSub_all : ∀ x : Nat, x < 100 → ∀ y : Nat, y < 100 → okSub x y = true := by decide +kernel
end Go.Proofs.Ytdcfljfgcnbjlaa
