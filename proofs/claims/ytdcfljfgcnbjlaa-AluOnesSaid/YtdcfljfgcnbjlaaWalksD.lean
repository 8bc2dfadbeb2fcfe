/- Contracts: digits of the reference; turns and bits of layer 1. -/
import Derived.Test.YtdcfljfgcnbjlaaWalksC
namespace Go.Proofs.Ytdcfljfgcnbjlaa
open Go.RowKit
set_option linter.unusedSimpArgs false
set_option linter.unusedVariables false

set_option maxHeartbeats 2000000 in
theorem rdaa_any (a f : Int) (ha : 0 ≤ a) (ha' : a ≤ 255) (hf : 0 ≤ f) (hf' : f ≤ 255) (w : World) :
    Calls Try.prog 29 #[.int .u8 a, .int .u8 f] w (Pure (two (digR a f) (fl (decide (digR a f = 0)) (nB f) false (digHigh a f))) w) := by
  obtain ⟨low, hlow⟩ : ∃ b, digLow a f = b := ⟨_, rfl⟩
  obtain ⟨high, hhigh⟩ : ∃ b, digHigh a f = b := ⟨_, rfl⟩
  unfold digR digBy
  rw [hlow, hhigh]
  unfold digLow at hlow
  unfold digHigh at hhigh
  obtain ⟨n, hn⟩ : ∃ b, nB f = b := ⟨_, rfl⟩
  obtain ⟨h, hh⟩ : ∃ b, hB f = b := ⟨_, rfl⟩
  obtain ⟨c, hc⟩ : ∃ b, cB f = b := ⟨_, rfl⟩
  rw [hn] at hlow hhigh ⊢
  rw [hh] at hlow
  rw [hc] at hhigh
  have HN := hid_ hn
  have HH := hid_ hh
  have HC := hid_ hc
  clear hn hh hc
  obtain ⟨r, hr⟩ : ∃ r, decide (9 < a % 16) = r := ⟨_, rfl⟩
  obtain ⟨s, hs⟩ : ∃ s, decide (153 < a) = s := ⟨_, rfl⟩
  rw [hr] at hlow
  rw [hs] at hhigh
  cases n <;> cases h <;> cases c <;> cases r <;> cases s <;> simp at hlow hhigh <;> subst hlow <;> subst hhigh <;> simp at hr hs
  all_goals
    go_enter Try.func29, Try.ntmps29
    go_wp2_with fail
    refine (rc_any _ hf hf' _).mono ?_
    rintro e w1 ⟨rfl, rfl⟩
    rw [HC.out]
    go_wp2_with fail
    refine (rn_any _ hf hf' _).mono ?_
    rintro e w1 ⟨rfl, rfl⟩
    rw [HN.out]
    go_wp2_with fail
    refine (rh_any _ hf hf' _).mono ?_
    rintro e w1 ⟨rfl, rfl⟩
    rw [HH.out]
    go_wp2_with fail
    refine (rn_any _ hf hf' _).mono ?_
    rintro e w1 ⟨rfl, rfl⟩
    rw [HN.out]
    go_wp2_with fail
    refine (flags_any _ _ _ _ _).mono ?_
    rintro e w1 ⟨rfl, rfl⟩
    go_wp2_with fail
    go_ret2
    refine ⟨ret_two ?_ ?_, rfl⟩
    · first | rfl | (simp [sel]; done) | (simp [sel] <;> omega)
    · congr 1
      first | rfl | (rw [← decide_eq_true_eq]; rfl) | (rw [Bool.eq_iff_iff]; simp [sel] <;> omega)

theorem and7_nat (m : Int) : bits .and .i64 m 7 = m % 8 := by
  show IntKind.i64.wrap ((BitVec.ofInt 64 m &&& BitVec.ofInt 64 7).toNat : Int) = _
  rw [BitVec.toNat_and, BitVec.toNat_ofInt, show (BitVec.ofInt 64 7).toNat = 7 from rfl, nat_mask3, IntKind.wrap_i64]
  omega
end Go.Proofs.Ytdcfljfgcnbjlaa
