/- A slice of calls (two numbers and a byte each) that came in. -/
import Derived.Test.YtacbdapgdgliiaaBase
import Derived.ProofKit
import Derived.Deep.Slices
namespace Go.Proofs.Ytacbdapgdgliiaa
open Go.RowKit Go.ChangeShapes Go.WideShapes Go.Deep
set_option linter.unusedSimpArgs false
set_option linter.unusedVariables false

def IsOps (w : World) (a : Option Addr) (len : Nat) (_ : Unit) : Prop :=
  0 < len → ∃ b off, a = some ⟨b, off, none⟩ ∧ b < w.heap.size ∧ ∀ i, i < len → ∃ K N X : Int, -9223372036854775808 ≤ N ∧ N ≤ 9223372036854775807 ∧ 0 ≤ X ∧ X ≤ 255 ∧
    w.cell? ⟨b, off + i * 3, none⟩ = some (.int .i64 K) ∧ w.cell? ⟨b, off + i * 3 + 1, none⟩ = some (.int .i64 N) ∧ w.cell? ⟨b, off + i * 3 + 2, none⟩ = some (.int .u8 X)
section
variable {H : Type} {enc : TypeId × Value → H}
theorem isOps_of {w : World} {fuel : Nat} {a : Option Addr} {len cap : Nat} {x : DataW H × List MemPlace} {spare : Nat → Bool} {held : Bool} {p : List MemPlace}
    (hf : DataW.trod enc Try.prog w 0 spare held fuel 22 (Value.cells (.slice a len cap)).toList = some x) (_ : ∀ y ∈ p, y.block < w.heap.size) : ∃ zs, IsOps w a len zs := by
  refine ⟨(), fun h0 => ?_⟩
  rcases open_slice Try.underlying22 hf with ⟨hcs, _⟩ | ⟨ad, l, c, m, n, D, Pl, hcs, _, hl, hm, hmm, hx, hel⟩
  · simp [Value.cells] at hcs
    omega
  · simp [Value.cells] at hcs
    obtain ⟨rfl, rfl, rfl⟩ := hcs
    have hlm : len ≤ m := by rw [hmm]; split <;> omega
    have ce : Try.prog.cellsOf 32 = 3 := by kernel_rfl
    obtain ⟨b, off, spot⟩ := ad
    have each : ∀ i, i < len → ∃ K N X : Int, -9223372036854775808 ≤ N ∧ N ≤ 9223372036854775807 ∧ 0 ≤ X ∧ X ≤ 255 ∧
        w.cell? ((Addr.mk b off spot).add (i * 3)) = some (.int .i64 K) ∧ w.cell? ((Addr.mk b off spot).add (i * 3 + 1)) = some (.int .i64 N) ∧ w.cell? ((Addr.mk b off spot).add (i * 3 + 2)) = some (.int .u8 X) := by
      intro i hi
      obtain ⟨cs', h1, h2⟩ := hel i (by omega)
      rw [ce] at h1
      obtain ⟨_, hlen, hcell⟩ := World.cells?_some h1
      obtain ⟨xs, k, hk, hxy, _, hxl, hg⟩ := DataW.trod_struct Try.underlying32 h2
      match xs, hxl, cs', hlen with
      | [y0, y1, y2], _, [v0, v1, v2], _ =>
        have g0 := hg 0 _ rfl
        have g1 := hg 1 _ rfl
        have g2 := hg 2 _ rfl
        have c3 : Try.prog.cellsOf 3 = 1 := by kernel_rfl
        have c5 : Try.prog.cellsOf 5 = 1 := by kernel_rfl
        simp [c3, c5] at g0 g1 g2
        obtain ⟨K, e0, _, _⟩ := DataW.trod_int Try.underlying3 g0
        obtain ⟨N, e1, _, wN⟩ := DataW.trod_int Try.underlying3 g1
        obtain ⟨X, e2, _, wX⟩ := DataW.trod_int Try.underlying5 g2
        obtain rfl : v0 = .int .i64 K := by simpa using e0
        obtain rfl : v1 = .int .i64 N := by simpa using e1
        obtain rfl : v2 = .int .u8 X := by simpa using e2
        have bN : -9223372036854775808 ≤ N ∧ N ≤ 9223372036854775807 := by simpa [Lit.wf, IntKind.min, IntKind.max, IntKind.signed, IntKind.bits] using wN
        have bX : 0 ≤ X ∧ X ≤ 255 := by simpa [Lit.wf, IntKind.min, IntKind.max, IntKind.signed, IntKind.bits] using wX
        have q0 := hcell 0 (by omega)
        have q1 := hcell 1 (by omega)
        have q2 := hcell 2 (by omega)
        rw [Go.Deep.add_add] at q0 q1 q2
        exact ⟨K, N, X, bN.1, bN.2, bX.1, bX.2, by simpa using q0, by simpa using q1, by simpa using q2⟩
    obtain ⟨_, _, _, _, _, _, _, h1, _⟩ := each 0 h0
    have hspot : spot = none := by simpa [Addr.add] using World.cell?_spot h1
    subst hspot
    have hadd : ∀ j, (Addr.mk b off none).add j = ⟨b, off + j, none⟩ := fun j => by
      unfold Addr.add
      by_cases h : j = 0 <;> simp [h]
    refine ⟨b, off, rfl, ?_, fun i hi => ?_⟩
    · have := World.block_lt_of_cell? w _ h1
      simpa [Addr.add] using this
    · obtain ⟨K, N, X, n0, n1, x0, x1, q0, q1, q2⟩ := each i hi
      rw [hadd] at q0 q1 q2
      exact ⟨K, N, X, n0, n1, x0, x1, q0, by rw [Nat.add_assoc]; exact q1, by rw [Nat.add_assoc]; exact q2⟩
end
end Go.Proofs.Ytacbdapgdgliiaa
