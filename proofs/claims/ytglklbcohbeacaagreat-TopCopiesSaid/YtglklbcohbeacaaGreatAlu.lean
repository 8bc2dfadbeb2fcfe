/- Contracts of the leaves of layer 1. -/
import Derived.Test.YtglklbcohbeacaaGreatRun
namespace Go.Proofs.YtglklbcohbeacaaGreat
open Go.RowKit
set_option linter.unusedSimpArgs false
set_option linter.unusedVariables false

theorem ret_two {a b c d : Int} (h1 : a = c) (h2 : b = d) : Ending.returned (.tuple #[.int .u8 a, .int .u8 b]) = .returned (.tuple #[.int .u8 c, .int .u8 d]) := by rw [h1, h2]
theorem ret_w {a b c d : Int} (h1 : a = c) (h2 : b = d) : Ending.returned (.tuple #[.int .u16 a, .int .u8 b]) = .returned (.tuple #[.int .u16 c, .int .u8 d]) := by rw [h1, h2]

/-- The two results of an order on bytes. -/
abbrev two (r f : Int) : Value := .tuple #[.int .u8 r, .int .u8 f]
/-- Flags, of four answers. -/
def fl (z n h c : Bool) : Int := (if z then 128 else 0) + (if n then 64 else 0) + (if h then 32 else 0) + (if c then 16 else 0)
def sel (b : Bool) (x : Int) : Int := if b then x else 0

theorem flag_any (f : Int) (b : Bool) (w : World) : Calls Tryz.prog 21 #[.int .u8 f, .bool b] w (Pure (.int .u8 (sel b f)) w) := by
  cases b <;> (go_enter Tryz.func21, Tryz.ntmps21; go_wp2; go_ret; exact ⟨rfl, rfl⟩)
theorem zero_any (r : Int) (w : World) : Calls Tryz.prog 20 #[.int .u8 r] w (Pure (.int .u8 (sel (decide (r = 0)) 128)) w) := by
  go_enter Tryz.func20, Tryz.ntmps20
  go_wp2_with fail
  refine (flag_any _ _ _).mono ?_
  rintro e w1 ⟨rfl, rfl⟩
  go_wp2_with fail
  go_ret
  refine ⟨?_, rfl⟩
  simp [sel]
theorem one_any (b : Bool) (w : World) : Calls Tryz.prog 19 #[.bool b] w (Pure (.int .u8 (sel b 1)) w) := by
  go_enter Tryz.func19, Tryz.ntmps19
  go_wp2_with fail
  refine (flag_any _ _ _).mono ?_
  rintro e w1 ⟨rfl, rfl⟩
  go_wp2_with fail
  go_ret
  exact ⟨rfl, rfl⟩

theorem and_nat (a m : Nat) (h : a < 256) (hm : m < 256) : bits .and .u8 (a : Int) (m : Int) = ((a &&& m : Nat) : Int) := u8_and_nat a m h hm
theorem and15 (a : Int) (h : 0 ≤ a) (h' : a ≤ 255) : bits .and .u8 a 15 = a % 16 := by
  obtain ⟨n, rfl⟩ := Int.eq_ofNat_of_zero_le h
  rw [show (15 : Int) = ((15 : Nat) : Int) from rfl, u8_and_nat n 15 (by omega) (by omega), nat_mask4]; omega
theorem and16 (a : Int) (h : 0 ≤ a) (h' : a ≤ 255) : bits .and .u8 a 16 = a / 16 % 2 * 16 := by
  obtain ⟨n, rfl⟩ := Int.eq_ofNat_of_zero_le h
  have := nat_bit 4 n
  rw [show (16 : Int) = ((16 : Nat) : Int) from rfl, u8_and_nat n 16 (by omega) (by omega), this]; omega

theorem and_sel (f : Int) (k p : Nat) (hp : p = 2 ^ k) (hp2 : p < 256) (h : 0 ≤ f) (h' : f ≤ 255) : bits .and .u8 f (p : Int) = sel (decide (f / p % 2 = 1)) p := by
  obtain ⟨n, rfl⟩ := Int.eq_ofNat_of_zero_le h
  have hb := nat_bit k n
  rw [← hp] at hb
  rw [u8_and_nat n p (by omega) hp2, hb]
  have h2 : n / p % 2 = 0 ∨ n / p % 2 = 1 := by omega
  have hc : ((n : Int) / (p : Int) % 2) = ((n / p % 2 : Nat) : Int) := by push_cast; rfl
  rcases h2 with h2 | h2 <;> (rw [hc, h2]; simp [sel])
def cB (f : Int) : Bool := decide (f / 16 % 2 = 1)
def hB (f : Int) : Bool := decide (f / 32 % 2 = 1)
def nB (f : Int) : Bool := decide (f / 64 % 2 = 1)
def zB (f : Int) : Bool := decide (f / 128 % 2 = 1)
theorem andC (f : Int) (h : 0 ≤ f) (h' : f ≤ 255) : bits .and .u8 f 16 = sel (cB f) 16 := and_sel f 4 16 rfl (by decide) h h'
theorem andH (f : Int) (h : 0 ≤ f) (h' : f ≤ 255) : bits .and .u8 f 32 = sel (hB f) 32 := and_sel f 5 32 rfl (by decide) h h'
theorem andN (f : Int) (h : 0 ≤ f) (h' : f ≤ 255) : bits .and .u8 f 64 = sel (nB f) 64 := and_sel f 6 64 rfl (by decide) h h'
theorem andZ (f : Int) (h : 0 ≤ f) (h' : f ≤ 255) : bits .and .u8 f 128 = sel (zB f) 128 := and_sel f 7 128 rfl (by decide) h h'

theorem or_zhc (z h c : Bool) : bits .or .u8 (bits .or .u8 (sel z 128) (sel h 32)) (sel c 16) = fl z false h c := by
  cases z <;> cases h <;> cases c <;> decide
theorem or_znhc (z h c : Bool) : bits .or .u8 (bits .or .u8 (bits .or .u8 (sel z 128) 64) (sel h 32)) (sel c 16) = fl z true h c := by
  cases z <;> cases h <;> cases c <;> decide
theorem or_zh (z : Bool) : bits .or .u8 (sel z 128) 32 = fl z false true false := by
  cases z <;> decide
theorem fl_z (z : Bool) : sel z 128 = fl z false false false := by
  cases z <;> decide
theorem sel_ex (b : Bool) : ∃ k : Int, sel b 1 = k ∧ 0 ≤ k ∧ k ≤ 1 := ⟨_, rfl, by cases b <;> decide, by cases b <;> decide⟩

theorem add_any (a b : Int) (c : Bool) (ha : 0 ≤ a) (ha' : a ≤ 255) (hb : 0 ≤ b) (hb' : b ≤ 255) (w : World) :
    Calls Tryz.prog 6 #[.int .u8 a, .int .u8 b, .bool c] w (Pure (two ((a + b + sel c 1) % 256) (fl (decide ((a + b + sel c 1) % 256 = 0)) false (decide (15 < a % 16 + b % 16 + sel c 1)) (decide (255 < a + b + sel c 1)))) w) := by
  have e1 := and15 a ha ha'
  have e2 := and15 b hb hb'
  have b11 : 0 ≤ a % 16 := by omega
  have b12 : a % 16 ≤ 15 := by omega
  have b21 : 0 ≤ b % 16 := by omega
  have b22 : b % 16 ≤ 15 := by omega
  obtain ⟨k, hk, hk0, hk1⟩ := sel_ex c
  have HK := hid_ hk
  rw [hk]
  clear hk
  go_enter Tryz.func6, Tryz.ntmps6
  go_wp2_with fail
  refine (one_any _ _).mono ?_
  rintro e w1 ⟨rfl, rfl⟩
  rw [HK.out]
  go_wp2_with fail
  refine (zero_any _ _).mono ?_
  rintro e w1 ⟨rfl, rfl⟩
  go_wp2_with fail
  refine (flag_any _ _ _).mono ?_
  rintro e w1 ⟨rfl, rfl⟩
  go_wp2_with fail
  refine (flag_any _ _ _).mono ?_
  rintro e w1 ⟨rfl, rfl⟩
  go_wp2_with fail
  go_ret2
  exact ⟨ret_two rfl (or_zhc _ _ _), rfl⟩

theorem sub_any (a b : Int) (c : Bool) (ha : 0 ≤ a) (ha' : a ≤ 255) (hb : 0 ≤ b) (hb' : b ≤ 255) (w : World) :
    Calls Tryz.prog 7 #[.int .u8 a, .int .u8 b, .bool c] w (Pure (two ((a - b - sel c 1) % 256) (fl (decide ((a - b - sel c 1) % 256 = 0)) true (decide (a % 16 < b % 16 + sel c 1)) (decide (a < b + sel c 1)))) w) := by
  have e1 := and15 a ha ha'
  have e2 := and15 b hb hb'
  have b11 : 0 ≤ a % 16 := by omega
  have b12 : a % 16 ≤ 15 := by omega
  have b21 : 0 ≤ b % 16 := by omega
  have b22 : b % 16 ≤ 15 := by omega
  obtain ⟨k, hk, hk0, hk1⟩ := sel_ex c
  have HK := hid_ hk
  rw [hk]
  clear hk
  go_enter Tryz.func7, Tryz.ntmps7
  go_wp2_with fail
  refine (one_any _ _).mono ?_
  rintro e w1 ⟨rfl, rfl⟩
  rw [HK.out]
  go_wp2_with fail
  refine (zero_any _ _).mono ?_
  rintro e w1 ⟨rfl, rfl⟩
  go_wp2_with fail
  refine (flag_any _ _ _).mono ?_
  rintro e w1 ⟨rfl, rfl⟩
  go_wp2_with fail
  refine (flag_any _ _ _).mono ?_
  rintro e w1 ⟨rfl, rfl⟩
  go_wp2_with fail
  go_ret2
  exact ⟨ret_two rfl (or_znhc _ _ _), rfl⟩

theorem and_any (a b : Int) (w : World) :
    Calls Tryz.prog 8 #[.int .u8 a, .int .u8 b] w (Pure (two (bits .and .u8 a b) (fl (decide (bits .and .u8 a b = 0)) false true false)) w) := by
  go_enter Tryz.func8, Tryz.ntmps8
  go_wp2_with fail
  refine (zero_any _ _).mono ?_
  rintro e w1 ⟨rfl, rfl⟩
  go_wp2_with fail
  go_ret2
  exact ⟨ret_two rfl (or_zh _), rfl⟩
theorem or_any (a b : Int) (w : World) :
    Calls Tryz.prog 10 #[.int .u8 a, .int .u8 b] w (Pure (two (bits .or .u8 a b) (fl (decide (bits .or .u8 a b = 0)) false false false)) w) := by
  go_enter Tryz.func10, Tryz.ntmps10
  go_wp2_with fail
  refine (zero_any _ _).mono ?_
  rintro e w1 ⟨rfl, rfl⟩
  go_wp2_with fail
  go_ret2
  exact ⟨ret_two rfl (fl_z _), rfl⟩
theorem xor_any (a b : Int) (w : World) :
    Calls Tryz.prog 9 #[.int .u8 a, .int .u8 b] w (Pure (two (bits .xor .u8 a b) (fl (decide (bits .xor .u8 a b = 0)) false false false)) w) := by
  go_enter Tryz.func9, Tryz.ntmps9
  go_wp2_with fail
  refine (zero_any _ _).mono ?_
  rintro e w1 ⟨rfl, rfl⟩
  go_wp2_with fail
  go_ret2
  exact ⟨ret_two rfl (fl_z _), rfl⟩

theorem inc_any (a f : Int) (ha : 0 ≤ a) (ha' : a ≤ 255) (hf : 0 ≤ f) (hf' : f ≤ 255) (w : World) :
    Calls Tryz.prog 76 #[.int .u8 a, .int .u8 f] w (Pure (two ((a + 1) % 256) (fl (decide ((a + 1) % 256 = 0)) false (a % 16 == 15) (cB f))) w) := by
  have e1 := and15 a ha ha'
  have e2 := andC f hf hf'
  go_enter Tryz.func76, Tryz.ntmps76
  go_wp2_with fail
  refine (zero_any _ _).mono ?_
  rintro e w1 ⟨rfl, rfl⟩
  go_wp2_with fail
  refine (flag_any _ _ _).mono ?_
  rintro e w1 ⟨rfl, rfl⟩
  go_wp2_with fail
  go_ret2
  exact ⟨ret_two rfl (or_zhc _ _ _), rfl⟩
theorem dec_any (a f : Int) (ha : 0 ≤ a) (ha' : a ≤ 255) (hf : 0 ≤ f) (hf' : f ≤ 255) (w : World) :
    Calls Tryz.prog 77 #[.int .u8 a, .int .u8 f] w (Pure (two ((a - 1) % 256) (fl (decide ((a - 1) % 256 = 0)) true (a % 16 == 0) (cB f))) w) := by
  have e1 := and15 a ha ha'
  have e2 := andC f hf hf'
  go_enter Tryz.func77, Tryz.ntmps77
  go_wp2_with fail
  refine (zero_any _ _).mono ?_
  rintro e w1 ⟨rfl, rfl⟩
  go_wp2_with fail
  refine (flag_any _ _ _).mono ?_
  rintro e w1 ⟨rfl, rfl⟩
  go_wp2_with fail
  go_ret2
  exact ⟨ret_two rfl (or_znhc _ _ _), rfl⟩
end Go.Proofs.YtglklbcohbeacaaGreat
