/- Contracts: sums of words, digits, flags of layer 1, and of its reference. -/
import Derived.Test.YtdcfljfgcnbjlaaWalksA
namespace Go.Proofs.Ytdcfljfgcnbjlaa
open Go.RowKit
set_option linter.unusedSimpArgs false
set_option linter.unusedVariables false

theorem and4095 (a : Int) (h : 0 ≤ a) (h' : a ≤ 65535) : bits .and .u16 a 4095 = a % 4096 := by
  obtain ⟨n, rfl⟩ := Int.eq_ofNat_of_zero_le h
  rw [show (4095 : Int) = ((4095 : Nat) : Int) from rfl, u16_and_nat n 4095 (by omega) (by omega), nat_mask12]; omega
theorem or_zhc' (z h c : Bool) : bits .or .u8 (bits .or .u8 (sel z 128) (sel h 32)) (sel c 16) = fl z false h c := or_zhc z h c
theorem or_hc (h c : Bool) : bits .or .u8 (sel h 32) (sel c 16) = fl false false h c := by cases h <;> cases c <;> decide

abbrev wtwo (r f : Int) : Value := .tuple #[.int .u16 r, .int .u8 f]

theorem add16_any (a b f : Int) (ha : 0 ≤ a) (ha' : a ≤ 65535) (hb : 0 ≤ b) (hb' : b ≤ 65535) (hf : 0 ≤ f) (hf' : f ≤ 255) (w : World) :
    Calls Try.prog 15 #[.int .u16 a, .int .u16 b, .int .u8 f] w (Pure (wtwo ((a + b) % 65536) (fl (zB f) false (decide (4095 < a % 4096 + b % 4096)) (decide (65535 < a + b)))) w) := by
  have e1 := and4095 a ha ha'
  have e2 := and4095 b hb hb'
  have e3 := andZ f hf hf'
  have b11 : 0 ≤ a % 4096 := by omega
  have b12 : a % 4096 ≤ 4095 := by omega
  have b21 : 0 ≤ b % 4096 := by omega
  have b22 : b % 4096 ≤ 4095 := by omega
  go_enter Try.func15, Try.ntmps15
  go_wp2_with fail
  refine (flag_any _ _ _).mono ?_
  rintro e w1 ⟨rfl, rfl⟩
  go_wp2_with fail
  refine (flag_any _ _ _).mono ?_
  rintro e w1 ⟨rfl, rfl⟩
  go_wp2_with fail
  go_ret2
  exact ⟨ret_w (by first | rfl | (simp only [IntKind.wrap_u16])) (or_zhc _ _ _), rfl⟩

def sgn (e : Int) : Int := if 127 < e then e - 256 else e
theorem wrap_i8_nat : ∀ n : Nat, n < 256 → IntKind.i8.wrap (n : Int) = sgn n := by decide +kernel
theorem wrap_i8 (e : Int) (h : 0 ≤ e) (h' : e ≤ 255) : IntKind.i8.wrap e = sgn e := by
  obtain ⟨n, rfl⟩ := Int.eq_ofNat_of_zero_le h
  exact wrap_i8_nat n (by omega)
theorem shift16_any (a e : Int) (ha : 0 ≤ a) (ha' : a ≤ 65535) (hb : 0 ≤ e) (hb' : e ≤ 255) (w : World) :
    Calls Try.prog 17 #[.int .u16 a, .int .u8 e] w (Pure (wtwo ((a + sgn e) % 65536) (fl false false (decide (15 < a % 16 + e % 16)) (decide (255 < a % 256 + e)))) w) := by
  have e0 : bits .and .u8 (a % 256) 15 = a % 16 := by rw [and15 _ (by omega) (by omega)]; omega
  have e2 := and15 e hb hb'
  have b11 : 0 ≤ a % 16 := by omega
  have b12 : a % 16 ≤ 15 := by omega
  have b21 : 0 ≤ e % 16 := by omega
  have b22 : e % 16 ≤ 15 := by omega
  go_enter Try.func17, Try.ntmps17
  go_wp2_with fail
  refine (flag_any _ _ _).mono ?_
  rintro e w1 ⟨rfl, rfl⟩
  go_wp2_with fail
  refine (flag_any _ _ _).mono ?_
  rintro e w1 ⟨rfl, rfl⟩
  go_wp2_with fail
  go_ret2
  refine ⟨ret_w ?_ (or_hc _ _), rfl⟩
  rw [wrap_i8 e hb hb']
  simp only [IntKind.wrap_u16]
  omega

theorem ret_bool {a b : Bool} (h : a = b) : Ending.returned (.bool a) = .returned (.bool b) := by rw [h]
theorem ret_int {k : IntKind} {a b : Int} (h : a = b) : Ending.returned (.int k a) = .returned (.int k b) := by rw [h]
theorem flags_any (z n h c : Bool) (w : World) : Calls Try.prog 36 #[.bool z, .bool n, .bool h, .bool c] w (Pure (.int .u8 (fl z n h c)) w) := by
  cases z <;> cases n <;> cases h <;> cases c <;> (go_enter Try.func36, Try.ntmps36; go_wp2; go_ret; exact ⟨rfl, rfl⟩)
theorem rone_any (b : Bool) (w : World) : Calls Try.prog 38 #[.bool b] w (Pure (.int .i64 (sel b 1)) w) := by
  cases b <;> (go_enter Try.func38, Try.ntmps38; go_wp2; go_ret; exact ⟨rfl, rfl⟩)
theorem rz_any (f : Int) (hf : 0 ≤ f) (hf' : f ≤ 255) (w : World) : Calls Try.prog 37 #[.int .u8 f] w (Pure (.bool (zB f)) w) := by
  go_enter Try.func37, Try.ntmps37; go_wp2; go_ret; exact ⟨ret_bool (by unfold zB; rw [Bool.eq_iff_iff]; simp <;> omega), rfl⟩
theorem rn_any (f : Int) (hf : 0 ≤ f) (hf' : f ≤ 255) (w : World) : Calls Try.prog 44 #[.int .u8 f] w (Pure (.bool (nB f)) w) := by
  go_enter Try.func44, Try.ntmps44; go_wp2; go_ret; exact ⟨ret_bool (by unfold nB; rw [Bool.eq_iff_iff]; simp <;> omega), rfl⟩
theorem rh_any (f : Int) (hf : 0 ≤ f) (hf' : f ≤ 255) (w : World) : Calls Try.prog 42 #[.int .u8 f] w (Pure (.bool (hB f)) w) := by
  go_enter Try.func42, Try.ntmps42; go_wp2; go_ret; exact ⟨ret_bool (by unfold hB; rw [Bool.eq_iff_iff]; simp <;> omega), rfl⟩
theorem rc_any (f : Int) (hf : 0 ≤ f) (hf' : f ≤ 255) (w : World) : Calls Try.prog 43 #[.int .u8 f] w (Pure (.bool (cB f)) w) := by
  go_enter Try.func43, Try.ntmps43; go_wp2; go_ret; exact ⟨ret_bool (by unfold cB; rw [Bool.eq_iff_iff]; simp <;> omega), rfl⟩

theorem radd16_any (a b f : Int) (ha : 0 ≤ a) (ha' : a ≤ 65535) (hb : 0 ≤ b) (hb' : b ≤ 65535) (hf : 0 ≤ f) (hf' : f ≤ 255) (w : World) :
    Calls Try.prog 16 #[.int .u16 a, .int .u16 b, .int .u8 f] w (Pure (wtwo ((a + b) % 65536) (fl (zB f) false (decide (4095 < a % 4096 + b % 4096)) (decide (65535 < a + b)))) w) := by
  have b11 : 0 ≤ a % 4096 := by omega
  have b12 : a % 4096 ≤ 4095 := by omega
  have b21 : 0 ≤ b % 4096 := by omega
  have b22 : b % 4096 ≤ 4095 := by omega
  go_enter Try.func16, Try.ntmps16
  go_wp2_with fail
  refine (rz_any _ hf hf' _).mono ?_
  rintro e w1 ⟨rfl, rfl⟩
  go_wp2_with fail
  refine (flags_any _ _ _ _ _).mono ?_
  rintro e w1 ⟨rfl, rfl⟩
  go_wp2_with fail
  go_ret2
  exact ⟨rfl, rfl⟩
theorem rshift16_any (a e : Int) (ha : 0 ≤ a) (ha' : a ≤ 65535) (hb : 0 ≤ e) (hb' : e ≤ 255) (w : World) :
    Calls Try.prog 18 #[.int .u16 a, .int .u8 e] w (Pure (wtwo ((a + sgn e) % 65536) (fl false false (decide (15 < a % 16 + e % 16)) (decide (255 < a % 256 + e)))) w) := by
  by_cases h : 127 < e
  all_goals
    go_enter Try.func18, Try.ntmps18
    go_wp2_with fail
    refine (flags_any _ _ _ _ _).mono ?_
    rintro e w1 ⟨rfl, rfl⟩
    go_wp2_with fail
    go_ret2
    refine ⟨ret_w ?_ rfl, rfl⟩
    unfold sgn
    split <;> omega
end Go.Proofs.Ytdcfljfgcnbjlaa
