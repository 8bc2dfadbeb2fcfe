/- Contracts of the reference of layer 13: colours, numbers, shades; memory that is filled. -/
import Derived.Test.YtglnikjeloafiaaWalksB
namespace Go.Proofs.Ytglnikjeloafiaa
open Go.RowKit
set_option linter.unusedSimpArgs false
set_option linter.unusedVariables false

def bitI (a n : Int) : Int := a / 2 ^ n.toNat % 2
theorem bitI_bd (a n : Int) : 0 ≤ bitI a n ∧ bitI a n ≤ 1 := by unfold bitI; omega
theorem bit_q (a n : Int) (ha : 0 ≤ a) (ha' : a ≤ 255) (hn : 0 ≤ n) (hn' : n ≤ 8) (w : World) :
    Calls Try.prog 26 #[.int .u8 a, .int .i64 n] w (Pure (.int .i64 (bitI a n)) w) := by
  obtain ⟨a, rfl⟩ := Int.eq_ofNat_of_zero_le ha
  obtain ⟨n, rfl⟩ := Int.eq_ofNat_of_zero_le hn
  have e : bitI (a : Int) (n : Int) = bitN a n := by unfold bitI bitN; push_cast; rfl
  rw [e]
  exact (bit_any a n (by omega) (by omega) w).mono fun _ _ ⟨he, hw⟩ => ⟨he, hw.symm⟩
theorem rat_q (a : Option Addr) (len cap : Nat) (zs : List Int) (n : Int) (hn : 0 ≤ n) (w : World) (h : IsRow .u8 w a len zs) :
    Calls Try.prog 27 #[.slice a len cap, .int .i64 n] w (Pure (.int .u8 (memAt zs n)) w) := by
  obtain ⟨k, rfl⟩ := Int.eq_ofNat_of_zero_le hn
  exact (rat_any a len cap zs k w h).mono fun _ _ ⟨he, hw⟩ => ⟨he, hw.symm⟩

theorem rdot_any (a : Option Addr) (len cap : Nat) (zs : List Int) (tile x y : Int) (w : World) (h : IsRow .u8 w a len zs) :
    Calls Try.prog 12 #[.slice a len cap, .int .i64 tile, .int .i64 x, .int .i64 y] w (Pure (.int .u8 (dotI zs tile x y)) w) := by
  by_cases ho : tile < 0 ∨ 383 < tile
  · rw [show dotI zs tile x y = 0 by unfold dotI; rw [if_pos ho]]
    by_cases h1 : tile < 0
    · have q : decide (tile < 0) = true := by simp; omega
      clear ho
      go_enter Try.func12, Try.ntmps12
      go_wp2_with fail
      go_ret
      exact ⟨rfl, rfl⟩
    · have q : decide (tile < 0) = false := by simp; omega
      have q2 : decide (383 < tile) = true := by simp; omega
      clear ho
      go_enter Try.func12, Try.ntmps12
      go_wp2_with fail
      go_ret
      exact ⟨rfl, rfl⟩
  · obtain ⟨t, rfl⟩ := Int.eq_ofNat_of_zero_le (by omega : 0 ≤ tile)
    obtain ⟨k, hk⟩ : ∃ k, y % 8 = k := ⟨_, rfl⟩
    obtain ⟨j, hj⟩ : ∃ j, x % 8 = j := ⟨_, rfl⟩
    have hk0 : 0 ≤ k := by omega
    have hk8 : k ≤ 7 := by omega
    have hj0 : 0 ≤ j := by omega
    have hj8 : j ≤ 7 := by omega
    have ht : (t : Int) ≤ 383 := by omega
    have q : decide ((t : Int) < 0) = false := by simp
    have q2 : decide (383 < (t : Int)) = false := by simp; omega
    have b1 := memAt_bd h (16 * t + 2 * k)
    have b2 := memAt_bd h (16 * t + 2 * k + 1)
    have hd : dotI zs t x y = bitI (memAt zs (16 * t + 2 * k)) (7 - j) + 2 * bitI (memAt zs (16 * t + 2 * k + 1)) (7 - j) := by
      unfold dotI bitI; rw [if_neg ho, hk, hj]; omega
    rw [hd]
    have c1 := bitI_bd (memAt zs (16 * t + 2 * k)) (7 - j)
    have c2 := bitI_bd (memAt zs (16 * t + 2 * k + 1)) (7 - j)
    obtain ⟨b10, b11⟩ := b1
    obtain ⟨b20, b21⟩ := b2
    obtain ⟨c10, c11⟩ := c1
    obtain ⟨c20, c21⟩ := c2
    have HK := hid_ hk
    have HJ := hid_ hj
    clear hd hk hj ho
    go_enter Try.func12, Try.ntmps12
    go_wp2_with fail
    refine (mod8_any y _).mono ?_
    rintro e wp ⟨rfl, rfl⟩
    rw [HK.out]
    go_wp2_with fail
    refine (mod8_any x _).mono ?_
    rintro e wp ⟨rfl, rfl⟩
    rw [HJ.out]
    go_wp2_with fail
    refine (rat_q a len cap zs (16 * (t : Int) + 2 * k) (by omega) _ h).mono ?_
    rintro e wp ⟨rfl, rfl⟩
    go_wp2_with fail
    refine (bit_q (memAt zs (16 * (t : Int) + 2 * k)) (7 - j) b10 b11 (by omega) (by omega) _).mono ?_
    rintro e wp ⟨rfl, rfl⟩
    go_wp2_with fail
    refine (rat_q a len cap zs (16 * (t : Int) + 2 * k + 1) (by omega) _ h).mono ?_
    rintro e wp ⟨rfl, rfl⟩
    go_wp2_with fail
    refine (bit_q (memAt zs (16 * (t : Int) + 2 * k + 1)) (7 - j) b20 b21 (by omega) (by omega) _).mono ?_
    rintro e wp ⟨rfl, rfl⟩
    go_wp2_with fail
    go_ret
    exact ⟨rfl, rfl⟩

theorem rnumber_any (c sx sy wx wy b : Int) (hc : 0 ≤ c) (hc' : c ≤ 255) (hb : 0 ≤ b) (hb' : b ≤ 255) (w : World) :
    Calls Try.prog 14 #[view c sx sy wx wy, .int .u8 b] w (Ret (.int .i64 (numI c b)) w) := by
  have hbi : bitI c 4 = c / 16 % 2 := rfl
  by_cases h : c / 16 % 2 = 1
  · rw [show numI c b = b by unfold numI; rw [if_pos h]]
    have HB : Hid (bitI c 4 = 1) := by show _ = _; rw [hbi, h]
    clear h hbi
    go_enter Try.func14, Try.ntmps14
    go_wp2_with fail
    refine (bit_q c 4 hc hc' (by omega) (by omega) _).mono ?_
    rintro e wp ⟨rfl, rfl⟩
    rw [HB.out]
    go_wp2_with fail
    go_ret
    exact .of rfl ((Below.refl _ _).alloc (Nat.le_refl _) _)
  · have HB : Hid (bitI c 4 = 0) := by show _ = _; rw [hbi]; omega
    by_cases h2 : 127 < b
    · rw [show numI c b = b by unfold numI sgn; rw [if_neg h, if_pos h2]; omega]
      clear h hbi
      go_enter Try.func14, Try.ntmps14
      go_wp2_with fail
      refine (bit_q c 4 hc hc' (by omega) (by omega) _).mono ?_
      rintro e wp ⟨rfl, rfl⟩
      rw [HB.out]
      go_wp2_with fail
      go_ret
      exact .of rfl ((Below.refl _ _).alloc (Nat.le_refl _) _)
    · rw [show numI c b = 256 + b by unfold numI sgn; rw [if_neg h, if_neg h2]]
      clear h hbi
      go_enter Try.func14, Try.ntmps14
      go_wp2_with fail
      refine (bit_q c 4 hc hc' (by omega) (by omega) _).mono ?_
      rintro e wp ⟨rfl, rfl⟩
      rw [HB.out]
      go_wp2_with fail
      go_ret
      exact .of rfl ((Below.refl _ _).alloc (Nat.le_refl _) _)

theorem rshade_any (p c : Int) (hp : 0 ≤ p) (hp' : p ≤ 255) (h0 : 0 ≤ c) (h1 : c ≤ 255) (w : World) : Calls Try.prog 16 #[.int .u8 p, .int .u8 c] w (Pure (.int .u8 (shadeI p c)) w) := by
  obtain ⟨j, hj⟩ : ∃ j, c % 4 = j := ⟨_, rfl⟩
  have hj0 : 0 ≤ j := by omega
  have hj3 : j ≤ 3 := by omega
  have hd : shadeI p c = bitI p (j * 2) + 2 * bitI p (j * 2 + 1) := by
    unfold shadeI bitI; rw [hj]
    have hjj : j = 0 ∨ j = 1 ∨ j = 2 ∨ j = 3 := by omega
    rcases hjj with rfl | rfl | rfl | rfl <;> simp <;> omega
  rw [hd]
  obtain ⟨c10, c11⟩ := bitI_bd p (j * 2)
  obtain ⟨c20, c21⟩ := bitI_bd p (j * 2 + 1)
  clear hd
  go_enter Try.func16, Try.ntmps16
  go_wp2_with fail
  refine (bit_q p (j * 2) hp hp' (by omega) (by omega) _).mono ?_
  rintro e wp ⟨rfl, rfl⟩
  go_wp2_with fail
  refine (bit_q p (j * 2 + 1) hp hp' (by omega) (by omega) _).mono ?_
  rintro e wp ⟨rfl, rfl⟩
  go_wp2_with fail
  go_ret
  exact ⟨rfl, rfl⟩
end Go.Proofs.Ytglnikjeloafiaa
