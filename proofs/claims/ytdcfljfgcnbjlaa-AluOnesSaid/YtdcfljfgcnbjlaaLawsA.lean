/- The laws AluWords, AluBack, AluDigits: their walks. -/
import Derived.Test.YtdcfljfgcnbjlaaWalksD
namespace Go.Proofs.Ytdcfljfgcnbjlaa
open Go.RowKit
set_option linter.unusedSimpArgs false
set_option linter.unusedVariables false

theorem Pure.ret {v : Value} {w : World} : Ret v w (.returned v) w := .of rfl (Below.refl _ _)

theorem awake_any (w : World) : Calls Try.prog 10 #[] w (Pure (.bool true) w) := by
  go_enter Try.func10, Try.ntmps10
  go_wp2_with fail
  refine (add_any 58 198 false (by omega) (by omega) (by omega) (by omega) _).mono ?_
  rintro e w1 ⟨rfl, rfl⟩
  rw [show two ((58 + 198 + sel false 1) % 256) (fl (decide ((58 + 198 + sel false 1) % 256 = 0)) false (decide (15 < 58 % 16 + 198 % 16 + sel false 1)) (decide (255 < 58 + 198 + sel false 1))) = two 0 176 from rfl]
  go_wp2_with fail
  refine (daa_any 125 0 (by omega) (by omega) (by omega) (by omega) _).mono ?_
  rintro e w1 ⟨rfl, rfl⟩
  rw [show two (digR 125 0) (fl (decide (digR 125 0 = 0)) (nB 0) false (digHigh 125 0)) = two 131 0 from rfl]
  go_wp2_with fail
  go_ret
  exact ⟨rfl, rfl⟩

namespace aluWords
set_option maxRecDepth 100000 in
theorem walk (a b e f : Int) (ha : 0 ≤ a) (ha' : a ≤ 65535) (hb : 0 ≤ b) (hb' : b ≤ 65535) (he : 0 ≤ e) (he' : e ≤ 255) (hf : 0 ≤ f) (hf' : f ≤ 255) (w : World) :
    Calls Try.prog 5 #[.int .u16 a, .int .u16 b, .int .u8 e, .int .u8 f] w (Ret (.bool true) w) := by
  go_enter Try.func5, Try.ntmps5
  go_wp2_with fail
  refine (awake_any _).mono ?_
  rintro e w1 ⟨rfl, rfl⟩
  go_wp2_with fail
  refine (add16_any _ _ _ ha ha' hb hb' hf hf' _).mono ?_
  rintro e w1 ⟨rfl, rfl⟩
  go_wp2_with fail
  refine (radd16_any _ _ _ ha ha' hb hb' hf hf' _).mono ?_
  rintro e w1 ⟨rfl, rfl⟩
  go_wp2_with fail
  refine (shift16_any _ _ ha ha' he he' _).mono ?_
  rintro e w1 ⟨rfl, rfl⟩
  go_wp2_with fail
  refine (rshift16_any _ _ ha ha' he he' _).mono ?_
  rintro e w1 ⟨rfl, rfl⟩
  go_wp2_with fail
  go_ret
  exact Pure.ret
end aluWords

theorem fl_16 (z n h c : Bool) : bits .and .u8 (fl z n h c) 16 = sel c 16 := by cases z <;> cases n <;> cases h <;> cases c <;> decide
theorem fl_32 (z n h c : Bool) : bits .and .u8 (fl z n h c) 32 = sel h 32 := by cases z <;> cases n <;> cases h <;> cases c <;> decide
theorem fl_128 (z n h c : Bool) : bits .and .u8 (fl z n h c) 128 = sel z 128 := by cases z <;> cases n <;> cases h <;> cases c <;> decide
theorem xor_self (a : Int) (h : 0 ≤ a) (h' : a ≤ 255) : bits .xor .u8 a a = 0 := by
  obtain ⟨n, rfl⟩ := Int.eq_ofNat_of_zero_le h
  rw [u8_xor_nat n n (by omega) (by omega), Nat.xor_self]; rfl
theorem sub_self_two (a : Int) (h : 0 ≤ a) (h' : a ≤ 255) :
    two ((a - a - sel false 1) % 256) (fl (decide ((a - a - sel false 1) % 256 = 0)) true (decide (a % 16 < a % 16 + sel false 1)) (decide (a < a + sel false 1))) = two 0 192 := by
  have e1 : a - a - sel false 1 = 0 := by simp [sel]
  have e2 : decide (a % 16 < a % 16 + sel false 1) = false := by simp [sel]
  have e3 : decide (a < a + sel false 1) = false := by simp [sel]
  rw [e1, e2, e3]
  rfl

namespace aluBack
set_option maxRecDepth 100000 in
theorem walk (a b : Int) (c : Bool) (ha : 0 ≤ a) (ha' : a ≤ 255) (hb : 0 ≤ b) (hb' : b ≤ 255) (w : World) :
    Calls Try.prog 4 #[.int .u8 a, .int .u8 b, .bool c] w (Ret (.bool true) w) := by
  obtain ⟨k, hk, hk0, hk1⟩ := sel_ex c
  have HK := hid_ hk
  clear hk
  go_enter Try.func4, Try.ntmps4
  go_wp2_with fail
  refine (awake_any _).mono ?_
  rintro e w1 ⟨rfl, rfl⟩
  go_wp2_with fail
  refine (add_any _ _ _ ha ha' hb hb' _).mono ?_
  rintro e w1 ⟨rfl, rfl⟩
  rw [HK.out]
  obtain ⟨s, hs⟩ : ∃ s, (a + b + k) % 256 = s := ⟨_, rfl⟩
  have hs0 : 0 ≤ s := by omega
  have hs1 : s ≤ 255 := by omega
  rw [hs]
  have i1 := fl_16 (decide (s = 0)) false (decide (15 < a % 16 + b % 16 + k)) (decide (255 < a + b + k))
  have i2 := fl_32 (decide (s = 0)) false (decide (15 < a % 16 + b % 16 + k)) (decide (255 < a + b + k))
  obtain ⟨F, hF⟩ : ∃ F, fl (decide (s = 0)) false (decide (15 < a % 16 + b % 16 + k)) (decide (255 < a + b + k)) = F := ⟨_, rfl⟩
  rw [hF] at i1 i2 ⊢
  have HS := hid_ hs
  clear hs hF
  obtain ⟨x16, hx16⟩ : ∃ x, sel (decide (255 < a + b + k)) 16 = x := ⟨_, rfl⟩
  obtain ⟨x32, hx32⟩ : ∃ x, sel (decide (15 < a % 16 + b % 16 + k)) 32 = x := ⟨_, rfl⟩
  have j0 : (s - b - k) % 256 = a := by have := HS.out; omega
  have j1 : decide (s < b + k) = decide (255 < a + b + k) := decide_eq_decide.2 (by have := HS.out; omega)
  have j2 : decide (s % 16 < b % 16 + k) = decide (15 < a % 16 + b % 16 + k) := decide_eq_decide.2 (by have := HS.out; omega)
  have i3 := fl_16 (decide (a = 0)) true (decide (15 < a % 16 + b % 16 + k)) (decide (255 < a + b + k))
  have i4 := fl_32 (decide (a = 0)) true (decide (15 < a % 16 + b % 16 + k)) (decide (255 < a + b + k))
  obtain ⟨G, hG⟩ : ∃ G, fl (decide (a = 0)) true (decide (15 < a % 16 + b % 16 + k)) (decide (255 < a + b + k)) = G := ⟨_, rfl⟩
  rw [hG] at i3 i4
  rw [hx16] at i1 i3
  rw [hx32] at i2 i4
  have HJ : Hid (two ((s - b - k) % 256) (fl (decide ((s - b - k) % 256 = 0)) true (decide (s % 16 < b % 16 + k)) (decide (s < b + k))) = two a G) := by
    show _ = _
    rw [j0, j1, j2, hG]
  clear j0 j1 j2 hG hx16 hx32
  go_wp2_with fail
  refine (sub_any _ _ _ hs0 hs1 hb hb' _).mono ?_
  rintro e w1 ⟨rfl, rfl⟩
  rw [HK.out, HJ.out]
  go_wp2_with fail
  refine (sub_any _ _ _ ha ha' ha ha' _).mono ?_
  rintro e w1 ⟨rfl, rfl⟩
  rw [sub_self_two a ha ha']
  go_wp2_with fail
  refine (xor_any _ _ _).mono ?_
  rintro e w1 ⟨rfl, rfl⟩
  rw [xor_self a ha ha']
  go_wp2_with fail
  go_ret
  exact Pure.ret
end aluBack
end Go.Proofs.Ytdcfljfgcnbjlaa
