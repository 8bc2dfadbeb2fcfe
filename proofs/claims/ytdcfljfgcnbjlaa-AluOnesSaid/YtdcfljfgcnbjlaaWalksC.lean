/- Contracts: digits, turns, bits of layer 1, and of its reference. -/
import Derived.Test.YtdcfljfgcnbjlaaWalksB
namespace Go.Proofs.Ytdcfljfgcnbjlaa
open Go.RowKit
set_option linter.unusedSimpArgs false
set_option linter.unusedVariables false

def bitN (a n : Nat) : Int := ((a / 2 ^ n % 2 : Nat) : Int)
/-- bit n of a byte, by halving: a loop. -/
theorem bit_any (a : Nat) (n : Nat) (ha : a ≤ 255) (hn : n ≤ 8) (w : World) :
    Calls Try.prog 39 #[.int .u8 (a : Int), .int .i64 (n : Int)] w (Pure (.int .i64 (bitN a n)) w) := by
  go_enter Try.func39, Try.ntmps39
  go_wp2_with fail
  go_loop [5, 6] (fun x i => ∃ k : Nat, k ≤ n ∧ i = .int .i64 k ∧ x = .int .i64 ((a / 2 ^ k : Nat) : Int)) (fun _ i => n - (intOf i).toNat)
  case atStart => exact ⟨0, by omega, rfl, by simp⟩
  case round =>
    obtain ⟨k, hk, rfl, rfl⟩ := hrel
    have hle : a / 2 ^ k ≤ 255 := Nat.le_trans (Nat.div_le_self _ _) ha
    obtain ⟨x, hx⟩ : ∃ x, a / 2 ^ k = x := ⟨_, rfl⟩
    have h2 : a / 2 ^ (k + 1) = x / 2 := by rw [Nat.pow_succ, ← Nat.div_div_eq_div_mul, hx]
    rw [hx] at hle ⊢
    have H2 := hid_ h2
    have HX := hid_ hx
    clear h2 hx
    by_cases hlt : k < n
    · go_wp2_with fail
      go_round
      case rel => exact ⟨k + 1, by omega, by go_num, by rw [H2.out]; go_num⟩
      case measure => simp [intOf]; omega
    · obtain rfl : k = n := by omega
      go_wp2_with fail
      go_ret
      refine ⟨ret_int ?_, rfl⟩
      unfold bitN
      rw [HX.out]
      omega

def digLow (a f : Int) : Bool := hB f || (!nB f && decide (9 < a % 16))
def digHigh (a f : Int) : Bool := cB f || (!nB f && decide (153 < a))
def digBy (a f : Int) : Int := sel (digLow a f) 6 + sel (digHigh a f) 96
def digR (a f : Int) : Int := (if nB f then a - digBy a f else a + digBy a f) % 256

theorem or_fin {r r' x y : Int} {n c : Bool} (hr : r' = r) (hx : x = sel n 64) (hy : y = sel c 16) :
    bits .or .u8 (bits .or .u8 (sel (decide (r' = 0)) 128) x) y = fl (decide (r = 0)) n false c := by
  subst hr; subst hx; subst hy
  cases decide (r' = 0) <;> cases n <;> cases c <;> decide
set_option maxHeartbeats 2000000 in
theorem daa_any (a f : Int) (ha : 0 ≤ a) (ha' : a ≤ 255) (hf : 0 ≤ f) (hf' : f ≤ 255) (w : World) :
    Calls Try.prog 13 #[.int .u8 a, .int .u8 f] w (Pure (two (digR a f) (fl (decide (digR a f = 0)) (nB f) false (digHigh a f))) w) := by
  have o1 : bits .or .u8 0 6 = 6 := by decide
  have o2 : bits .or .u8 0 96 = 96 := by decide
  have o3 : bits .or .u8 6 96 = 102 := by decide
  have e1 := and15 a ha ha'
  have e2 := andC f hf hf'
  have e3 := andH f hf hf'
  have e4 := andN f hf hf'
  obtain ⟨low, hlow⟩ : ∃ b, digLow a f = b := ⟨_, rfl⟩
  obtain ⟨high, hhigh⟩ : ∃ b, digHigh a f = b := ⟨_, rfl⟩
  unfold digR digBy
  rw [hlow, hhigh]
  unfold digLow at hlow
  unfold digHigh at hhigh
  obtain ⟨n, hn⟩ : ∃ b, nB f = b := ⟨_, rfl⟩
  obtain ⟨h, hh⟩ : ∃ b, hB f = b := ⟨_, rfl⟩
  obtain ⟨c, hc⟩ : ∃ b, cB f = b := ⟨_, rfl⟩
  rw [hn] at e4 hlow hhigh ⊢
  rw [hh] at e3 hlow
  rw [hc] at e2 hhigh
  clear hn hh hc
  obtain ⟨r, hr⟩ : ∃ r, decide (9 < a % 16) = r := ⟨_, rfl⟩
  obtain ⟨s, hs⟩ : ∃ s, decide (153 < a) = s := ⟨_, rfl⟩
  rw [hr] at hlow
  rw [hs] at hhigh
  cases n <;> cases h <;> cases c <;> cases r <;> cases s <;> simp at hlow hhigh <;> subst hlow <;> subst hhigh <;> simp [sel] at e2 e3 e4 hr hs
  all_goals
    go_enter Try.func13, Try.ntmps13
    go_wp2_with fail
    refine (zero_any _ _).mono ?_
    rintro e w1 ⟨rfl, rfl⟩
    go_wp2_with fail
    go_ret2
    refine ⟨ret_two ?_ (or_fin ?_ ?_ ?_), rfl⟩
    all_goals first | rfl | (simp [sel] <;> omega)
end Go.Proofs.Ytdcfljfgcnbjlaa
