/- Contracts: turns and bits of layer 1. -/
import Derived.Test.YtdcfljfgcnbjlaaWalksD
namespace Go.Proofs.Ytdcfljfgcnbjlaa
open Go.RowKit
set_option linter.unusedSimpArgs false
set_option linter.unusedVariables false

theorem and1 (a : Int) (h : 0 ≤ a) (h' : a ≤ 255) : bits .and .u8 a 1 = a % 2 := by
  obtain ⟨n, rfl⟩ := Int.eq_ofNat_of_zero_le h
  rw [show (1 : Int) = ((1 : Nat) : Int) from rfl, u8_and_nat n 1 (by omega) (by omega), nat_mask1]; omega
theorem upto {P : Int → Prop} (hP : ∀ n : Nat, n < 256 → P n) (a : Int) (h : 0 ≤ a) (h' : a ≤ 255) : P a := by
  obtain ⟨n, rfl⟩ := Int.eq_ofNat_of_zero_le h
  exact hP n (by omega)
theorem or_a (a : Int) (h : 0 ≤ a) (h' : a ≤ 255) : bits .or .u8 (a * 2 % 256) (a / 128) = a * 2 % 256 + a / 128 :=
  upto (P := fun a => bits .or .u8 (a * 2 % 256) (a / 128) = a * 2 % 256 + a / 128) (by decide +kernel) a h h'
theorem or_b (a : Int) (h : 0 ≤ a) (h' : a ≤ 255) : bits .or .u8 (a * 16 % 256) (a / 16) = a * 16 % 256 + a / 16 :=
  upto (P := fun a => bits .or .u8 (a * 16 % 256) (a / 16) = a * 16 % 256 + a / 16) (by decide +kernel) a h h'
theorem or_c0 (a : Int) (h : 0 ≤ a) (h' : a ≤ 255) : ∀ c : Bool, bits .or .u8 (a * 2 % 256) (sel c 1) = a * 2 % 256 + sel c 1 :=
  upto (P := fun a => ∀ c : Bool, bits .or .u8 (a * 2 % 256) (sel c 1) = a * 2 % 256 + sel c 1) (by decide +kernel) a h h'
theorem or_d (a : Int) (h : 0 ≤ a) (h' : a ≤ 255) : bits .or .u8 (a / 2) (a % 2 * 128) = a / 2 + a % 2 * 128 :=
  upto (P := fun a => bits .or .u8 (a / 2) (a % 2 * 128) = a / 2 + a % 2 * 128) (by decide +kernel) a h h'
theorem or_e (a : Int) (h : 0 ≤ a) (h' : a ≤ 255) : ∀ c : Bool, bits .or .u8 (a / 2) (sel c 1 * 128) = a / 2 + sel c 1 * 128 :=
  upto (P := fun a => ∀ c : Bool, bits .or .u8 (a / 2) (sel c 1 * 128) = a / 2 + sel c 1 * 128) (by decide +kernel) a h h'
theorem and_f (a : Int) (h : 0 ≤ a) (h' : a ≤ 255) : bits .and .u8 a 128 = a / 128 * 128 :=
  upto (P := fun a => bits .and .u8 a 128 = a / 128 * 128) (by decide +kernel) a h h'
theorem or_f (a : Int) (h : 0 ≤ a) (h' : a ≤ 255) : bits .or .u8 (a / 2) (a / 128 * 128) = a / 2 + a / 128 * 128 :=
  upto (P := fun a => bits .or .u8 (a / 2) (a / 128 * 128) = a / 2 + a / 128 * 128) (by decide +kernel) a h h'
theorem or_out (z : Bool) (o : Int) (h : o = 0 ∨ o = 1) : bits .or .u8 (sel z 128) (o * 16) = fl z false false (decide (o = 1)) := by
  rcases h with h | h <;> subst h <;> cases z <;> decide

theorem rot1 (a : Int) (h : 0 ≤ a) (h' : a ≤ 255) (w : World) : Calls Try.prog 41 #[.int .u8 a, .int .i64 1] w (Pure (.int .u8 (a * 2 % 256 + a / 128)) w) := by
  have o1 := or_a a h h'
  have u1 : bits .and .u64 1 7 = 1 := by decide
  go_enter Try.func41, Try.ntmps41
  go_wp2_with fail
  go_ret
  exact ⟨rfl, rfl⟩
theorem rot4 (a : Int) (h : 0 ≤ a) (h' : a ≤ 255) (w : World) : Calls Try.prog 41 #[.int .u8 a, .int .i64 4] w (Pure (.int .u8 (a * 16 % 256 + a / 16)) w) := by
  have o1 := or_b a h h'
  have u1 : bits .and .u64 4 7 = 4 := by decide
  go_enter Try.func41, Try.ntmps41
  go_wp2_with fail
  go_ret
  exact ⟨rfl, rfl⟩

theorem turn0 (kind a f : Int) (hj : kind % 8 = 0) (ha : 0 ≤ a) (ha' : a ≤ 255) (hf : 0 ≤ f) (hf' : f ≤ 255) (w : World) :
    Calls Try.prog 24 #[.int .i64 kind, .int .u8 a, .int .u8 f] w (Pure (two (a * 2 % 256 + a / 128) (fl (decide (a * 2 % 256 + a / 128 = 0)) false false (decide (a / 128 = 1)))) w) := by
  have e0 : bits .and .i64 kind 7 = 0 := by rw [and7_nat, hj]
  have e1 := and1 a ha ha'
  have e2 := andC f hf hf'
  have e3 : sel (cB f) 16 / 16 = sel (cB f) 1 := by cases cB f <;> decide
  have e4 := or_c0 a ha ha' (cB f)
  have e5 := or_d a ha ha'
  have e6 := or_e a ha ha' (cB f)
  have e7 := and_f a ha ha'
  have e8 := or_f a ha ha'
  have k0 : 0 ≤ sel (cB f) 1 := by cases cB f <;> decide
  have k1 : sel (cB f) 1 ≤ 1 := by cases cB f <;> decide
  have m0 : 0 ≤ a % 2 := by omega
  have m1 : a % 2 ≤ 1 := by omega
  have n0 : 0 ≤ a / 128 := by omega
  have n1 : a / 128 ≤ 1 := by omega
  clear hj
  go_enter Try.func24, Try.ntmps24
  go_wp2_with fail
  refine (rot1 a ha ha' _).mono ?_
  rintro e w1 ⟨rfl, rfl⟩
  go_wp2_with fail
  refine (zero_any _ _).mono ?_
  rintro e w1 ⟨rfl, rfl⟩
  go_wp2_with fail
  go_ret2
  exact ⟨ret_two rfl (or_out _ _ (by omega)), rfl⟩
theorem turn1 (kind a f : Int) (hj : kind % 8 = 1) (ha : 0 ≤ a) (ha' : a ≤ 255) (hf : 0 ≤ f) (hf' : f ≤ 255) (w : World) :
    Calls Try.prog 24 #[.int .i64 kind, .int .u8 a, .int .u8 f] w (Pure (two (a / 2 + a % 2 * 128) (fl (decide (a / 2 + a % 2 * 128 = 0)) false false (decide (a % 2 = 1)))) w) := by
  have e0 : bits .and .i64 kind 7 = 1 := by rw [and7_nat, hj]
  have e1 := and1 a ha ha'
  have e2 := andC f hf hf'
  have e3 : sel (cB f) 16 / 16 = sel (cB f) 1 := by cases cB f <;> decide
  have e4 := or_c0 a ha ha' (cB f)
  have e5 := or_d a ha ha'
  have e6 := or_e a ha ha' (cB f)
  have e7 := and_f a ha ha'
  have e8 := or_f a ha ha'
  have k0 : 0 ≤ sel (cB f) 1 := by cases cB f <;> decide
  have k1 : sel (cB f) 1 ≤ 1 := by cases cB f <;> decide
  have m0 : 0 ≤ a % 2 := by omega
  have m1 : a % 2 ≤ 1 := by omega
  have n0 : 0 ≤ a / 128 := by omega
  have n1 : a / 128 ≤ 1 := by omega
  clear hj
  go_enter Try.func24, Try.ntmps24
  go_wp2_with fail
  refine (zero_any _ _).mono ?_
  rintro e w1 ⟨rfl, rfl⟩
  go_wp2_with fail
  go_ret2
  exact ⟨ret_two rfl (or_out _ _ (by omega)), rfl⟩
theorem turn2 (kind a f : Int) (hj : kind % 8 = 2) (ha : 0 ≤ a) (ha' : a ≤ 255) (hf : 0 ≤ f) (hf' : f ≤ 255) (w : World) :
    Calls Try.prog 24 #[.int .i64 kind, .int .u8 a, .int .u8 f] w (Pure (two (a * 2 % 256 + sel (cB f) 1) (fl (decide (a * 2 % 256 + sel (cB f) 1 = 0)) false false (decide (a / 128 = 1)))) w) := by
  have e0 : bits .and .i64 kind 7 = 2 := by rw [and7_nat, hj]
  have e1 := and1 a ha ha'
  have e2 := andC f hf hf'
  have e3 : sel (cB f) 16 / 16 = sel (cB f) 1 := by cases cB f <;> decide
  have e4 := or_c0 a ha ha' (cB f)
  have e5 := or_d a ha ha'
  have e6 := or_e a ha ha' (cB f)
  have e7 := and_f a ha ha'
  have e8 := or_f a ha ha'
  have k0 : 0 ≤ sel (cB f) 1 := by cases cB f <;> decide
  have k1 : sel (cB f) 1 ≤ 1 := by cases cB f <;> decide
  have m0 : 0 ≤ a % 2 := by omega
  have m1 : a % 2 ≤ 1 := by omega
  have n0 : 0 ≤ a / 128 := by omega
  have n1 : a / 128 ≤ 1 := by omega
  clear hj
  go_enter Try.func24, Try.ntmps24
  go_wp2_with fail
  refine (zero_any _ _).mono ?_
  rintro e w1 ⟨rfl, rfl⟩
  go_wp2_with fail
  go_ret2
  exact ⟨ret_two rfl (or_out _ _ (by omega)), rfl⟩
theorem turn3 (kind a f : Int) (hj : kind % 8 = 3) (ha : 0 ≤ a) (ha' : a ≤ 255) (hf : 0 ≤ f) (hf' : f ≤ 255) (w : World) :
    Calls Try.prog 24 #[.int .i64 kind, .int .u8 a, .int .u8 f] w (Pure (two (a / 2 + sel (cB f) 1 * 128) (fl (decide (a / 2 + sel (cB f) 1 * 128 = 0)) false false (decide (a % 2 = 1)))) w) := by
  have e0 : bits .and .i64 kind 7 = 3 := by rw [and7_nat, hj]
  have e1 := and1 a ha ha'
  have e2 := andC f hf hf'
  have e3 : sel (cB f) 16 / 16 = sel (cB f) 1 := by cases cB f <;> decide
  have e4 := or_c0 a ha ha' (cB f)
  have e5 := or_d a ha ha'
  have e6 := or_e a ha ha' (cB f)
  have e7 := and_f a ha ha'
  have e8 := or_f a ha ha'
  have k0 : 0 ≤ sel (cB f) 1 := by cases cB f <;> decide
  have k1 : sel (cB f) 1 ≤ 1 := by cases cB f <;> decide
  have m0 : 0 ≤ a % 2 := by omega
  have m1 : a % 2 ≤ 1 := by omega
  have n0 : 0 ≤ a / 128 := by omega
  have n1 : a / 128 ≤ 1 := by omega
  clear hj
  go_enter Try.func24, Try.ntmps24
  go_wp2_with fail
  refine (zero_any _ _).mono ?_
  rintro e w1 ⟨rfl, rfl⟩
  go_wp2_with fail
  go_ret2
  exact ⟨ret_two rfl (or_out _ _ (by omega)), rfl⟩
theorem turn4 (kind a f : Int) (hj : kind % 8 = 4) (ha : 0 ≤ a) (ha' : a ≤ 255) (hf : 0 ≤ f) (hf' : f ≤ 255) (w : World) :
    Calls Try.prog 24 #[.int .i64 kind, .int .u8 a, .int .u8 f] w (Pure (two (a * 2 % 256) (fl (decide (a * 2 % 256 = 0)) false false (decide (a / 128 = 1)))) w) := by
  have e0 : bits .and .i64 kind 7 = 4 := by rw [and7_nat, hj]
  have e1 := and1 a ha ha'
  have e2 := andC f hf hf'
  have e3 : sel (cB f) 16 / 16 = sel (cB f) 1 := by cases cB f <;> decide
  have e4 := or_c0 a ha ha' (cB f)
  have e5 := or_d a ha ha'
  have e6 := or_e a ha ha' (cB f)
  have e7 := and_f a ha ha'
  have e8 := or_f a ha ha'
  have k0 : 0 ≤ sel (cB f) 1 := by cases cB f <;> decide
  have k1 : sel (cB f) 1 ≤ 1 := by cases cB f <;> decide
  have m0 : 0 ≤ a % 2 := by omega
  have m1 : a % 2 ≤ 1 := by omega
  have n0 : 0 ≤ a / 128 := by omega
  have n1 : a / 128 ≤ 1 := by omega
  clear hj
  go_enter Try.func24, Try.ntmps24
  go_wp2_with fail
  refine (zero_any _ _).mono ?_
  rintro e w1 ⟨rfl, rfl⟩
  go_wp2_with fail
  go_ret2
  exact ⟨ret_two rfl (or_out _ _ (by omega)), rfl⟩
theorem turn5 (kind a f : Int) (hj : kind % 8 = 5) (ha : 0 ≤ a) (ha' : a ≤ 255) (hf : 0 ≤ f) (hf' : f ≤ 255) (w : World) :
    Calls Try.prog 24 #[.int .i64 kind, .int .u8 a, .int .u8 f] w (Pure (two (a / 2 + a / 128 * 128) (fl (decide (a / 2 + a / 128 * 128 = 0)) false false (decide (a % 2 = 1)))) w) := by
  have e0 : bits .and .i64 kind 7 = 5 := by rw [and7_nat, hj]
  have e1 := and1 a ha ha'
  have e2 := andC f hf hf'
  have e3 : sel (cB f) 16 / 16 = sel (cB f) 1 := by cases cB f <;> decide
  have e4 := or_c0 a ha ha' (cB f)
  have e5 := or_d a ha ha'
  have e6 := or_e a ha ha' (cB f)
  have e7 := and_f a ha ha'
  have e8 := or_f a ha ha'
  have k0 : 0 ≤ sel (cB f) 1 := by cases cB f <;> decide
  have k1 : sel (cB f) 1 ≤ 1 := by cases cB f <;> decide
  have m0 : 0 ≤ a % 2 := by omega
  have m1 : a % 2 ≤ 1 := by omega
  have n0 : 0 ≤ a / 128 := by omega
  have n1 : a / 128 ≤ 1 := by omega
  clear hj
  go_enter Try.func24, Try.ntmps24
  go_wp2_with fail
  refine (zero_any _ _).mono ?_
  rintro e w1 ⟨rfl, rfl⟩
  go_wp2_with fail
  go_ret2
  exact ⟨ret_two rfl (or_out _ _ (by omega)), rfl⟩
theorem turn6 (kind a f : Int) (hj : kind % 8 = 6) (ha : 0 ≤ a) (ha' : a ≤ 255) (hf : 0 ≤ f) (hf' : f ≤ 255) (w : World) :
    Calls Try.prog 24 #[.int .i64 kind, .int .u8 a, .int .u8 f] w (Pure (two (a * 16 % 256 + a / 16) (fl (decide (a * 16 % 256 + a / 16 = 0)) false false (decide (0 = 1)))) w) := by
  have e0 : bits .and .i64 kind 7 = 6 := by rw [and7_nat, hj]
  have e1 := and1 a ha ha'
  have e2 := andC f hf hf'
  have e3 : sel (cB f) 16 / 16 = sel (cB f) 1 := by cases cB f <;> decide
  have e4 := or_c0 a ha ha' (cB f)
  have e5 := or_d a ha ha'
  have e6 := or_e a ha ha' (cB f)
  have e7 := and_f a ha ha'
  have e8 := or_f a ha ha'
  have k0 : 0 ≤ sel (cB f) 1 := by cases cB f <;> decide
  have k1 : sel (cB f) 1 ≤ 1 := by cases cB f <;> decide
  have m0 : 0 ≤ a % 2 := by omega
  have m1 : a % 2 ≤ 1 := by omega
  have n0 : 0 ≤ a / 128 := by omega
  have n1 : a / 128 ≤ 1 := by omega
  clear hj
  go_enter Try.func24, Try.ntmps24
  go_wp2_with fail
  refine (rot4 a ha ha' _).mono ?_
  rintro e w1 ⟨rfl, rfl⟩
  go_wp2_with fail
  refine (zero_any _ _).mono ?_
  rintro e w1 ⟨rfl, rfl⟩
  go_wp2_with fail
  go_ret2
  exact ⟨ret_two rfl (or_out (decide (a * 16 % 256 + a / 16 = 0)) 0 (.inl rfl)), rfl⟩
theorem turn7 (kind a f : Int) (hj : kind % 8 = 7) (ha : 0 ≤ a) (ha' : a ≤ 255) (hf : 0 ≤ f) (hf' : f ≤ 255) (w : World) :
    Calls Try.prog 24 #[.int .i64 kind, .int .u8 a, .int .u8 f] w (Pure (two (a / 2) (fl (decide (a / 2 = 0)) false false (decide (a % 2 = 1)))) w) := by
  have e0 : bits .and .i64 kind 7 = 7 := by rw [and7_nat, hj]
  have e1 := and1 a ha ha'
  have e2 := andC f hf hf'
  have e3 : sel (cB f) 16 / 16 = sel (cB f) 1 := by cases cB f <;> decide
  have e4 := or_c0 a ha ha' (cB f)
  have e5 := or_d a ha ha'
  have e6 := or_e a ha ha' (cB f)
  have e7 := and_f a ha ha'
  have e8 := or_f a ha ha'
  have k0 : 0 ≤ sel (cB f) 1 := by cases cB f <;> decide
  have k1 : sel (cB f) 1 ≤ 1 := by cases cB f <;> decide
  have m0 : 0 ≤ a % 2 := by omega
  have m1 : a % 2 ≤ 1 := by omega
  have n0 : 0 ≤ a / 128 := by omega
  have n1 : a / 128 ≤ 1 := by omega
  clear hj
  go_enter Try.func24, Try.ntmps24
  go_wp2_with fail
  refine (zero_any _ _).mono ?_
  rintro e w1 ⟨rfl, rfl⟩
  go_wp2_with fail
  go_ret2
  exact ⟨ret_two rfl (or_out _ _ (by omega)), rfl⟩

theorem or_zhc2 (z c : Bool) : bits .or .u8 (bits .or .u8 (sel z 128) 32) (sel c 16) = fl z false true c := by cases z <;> cases c <;> decide
theorem abit_any (n a f : Int) (j : Nat) (hj : n % 8 = j) (hj8 : j < 8) (ha : 0 ≤ a) (ha' : a ≤ 255) (hf : 0 ≤ f) (hf' : f ≤ 255) (w : World) :
    Calls Try.prog 31 #[.int .i64 n, .int .u8 a, .int .u8 f] w (Pure (.int .u8 (fl (decide (a / 2 ^ j % 2 = 0)) false true (cB f))) w) := by
  have e0 : bits .and .i64 n 7 = j := by rw [and7_nat, hj]
  have e2 := andC f hf hf'
  clear hj
  match j, hj8 with
  | 0, _ =>
    have e1 : bits .and .u8 (a) 1 = a % 2 := and1 _ (by omega) (by omega)
    go_enter Try.func31, Try.ntmps31
    go_wp2_with fail
    refine (zero_any _ _).mono ?_
    rintro e w1 ⟨rfl, rfl⟩
    go_wp2_with fail
    go_ret
    exact ⟨ret_int (by simpa using or_zhc2 (decide (a % 2 = 0)) (cB f)), rfl⟩
  | 1, _ =>
    have e1 : bits .and .u8 (a / 2) 1 = a / 2 % 2 := and1 _ (by omega) (by omega)
    go_enter Try.func31, Try.ntmps31
    go_wp2_with fail
    refine (zero_any _ _).mono ?_
    rintro e w1 ⟨rfl, rfl⟩
    go_wp2_with fail
    go_ret
    exact ⟨ret_int (or_zhc2 _ _), rfl⟩
  | 2, _ =>
    have e1 : bits .and .u8 (a / 4) 1 = a / 4 % 2 := and1 _ (by omega) (by omega)
    go_enter Try.func31, Try.ntmps31
    go_wp2_with fail
    refine (zero_any _ _).mono ?_
    rintro e w1 ⟨rfl, rfl⟩
    go_wp2_with fail
    go_ret
    exact ⟨ret_int (or_zhc2 _ _), rfl⟩
  | 3, _ =>
    have e1 : bits .and .u8 (a / 8) 1 = a / 8 % 2 := and1 _ (by omega) (by omega)
    go_enter Try.func31, Try.ntmps31
    go_wp2_with fail
    refine (zero_any _ _).mono ?_
    rintro e w1 ⟨rfl, rfl⟩
    go_wp2_with fail
    go_ret
    exact ⟨ret_int (or_zhc2 _ _), rfl⟩
  | 4, _ =>
    have e1 : bits .and .u8 (a / 16) 1 = a / 16 % 2 := and1 _ (by omega) (by omega)
    go_enter Try.func31, Try.ntmps31
    go_wp2_with fail
    refine (zero_any _ _).mono ?_
    rintro e w1 ⟨rfl, rfl⟩
    go_wp2_with fail
    go_ret
    exact ⟨ret_int (or_zhc2 _ _), rfl⟩
  | 5, _ =>
    have e1 : bits .and .u8 (a / 32) 1 = a / 32 % 2 := and1 _ (by omega) (by omega)
    go_enter Try.func31, Try.ntmps31
    go_wp2_with fail
    refine (zero_any _ _).mono ?_
    rintro e w1 ⟨rfl, rfl⟩
    go_wp2_with fail
    go_ret
    exact ⟨ret_int (or_zhc2 _ _), rfl⟩
  | 6, _ =>
    have e1 : bits .and .u8 (a / 64) 1 = a / 64 % 2 := and1 _ (by omega) (by omega)
    go_enter Try.func31, Try.ntmps31
    go_wp2_with fail
    refine (zero_any _ _).mono ?_
    rintro e w1 ⟨rfl, rfl⟩
    go_wp2_with fail
    go_ret
    exact ⟨ret_int (or_zhc2 _ _), rfl⟩
  | 7, _ =>
    have e1 : bits .and .u8 (a / 128) 1 = a / 128 % 2 := and1 _ (by omega) (by omega)
    go_enter Try.func31, Try.ntmps31
    go_wp2_with fail
    refine (zero_any _ _).mono ?_
    rintro e w1 ⟨rfl, rfl⟩
    go_wp2_with fail
    go_ret
    exact ⟨ret_int (or_zhc2 _ _), rfl⟩
end Go.Proofs.Ytdcfljfgcnbjlaa
