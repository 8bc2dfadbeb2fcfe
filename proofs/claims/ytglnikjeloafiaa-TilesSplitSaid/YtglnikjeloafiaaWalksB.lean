/- Contracts of a tile's colour, of numbers and of shades, of layer 13 and of its reference. -/
import Derived.Test.YtglnikjeloafiaaWalksA
namespace Go.Proofs.Ytglnikjeloafiaa
open Go.RowKit
set_option linter.unusedSimpArgs false
set_option linter.unusedVariables false

theorem IsRow.drewN {k : IntKind} {w : World} {a : Option Addr} {len : Nat} {zs : List Int} (h : IsRow k w a len zs) (n : Nat) : IsRow k (w.drewN n) a len zs := h
theorem at_q (a : Option Addr) (len cap : Nat) (zs : List Int) (n : Int) (hn : 0 ≤ n) (w : World) (m : Nat) (h : IsRow .u8 w a len zs) :
    Calls Try.prog 24 #[.slice a len cap, .int .i64 n] (w.drewN m) fun e w'' => e = .returned (.int .u8 (memAt zs n)) ∧ ∃ m', w'' = w.drewN m' := by
  obtain ⟨k, rfl⟩ := Int.eq_ofNat_of_zero_le hn
  exact (at_any a len cap zs k (w.drewN m) h).mono fun _ _ ⟨he, hw⟩ => ⟨he, m, hw⟩
theorem tmod8 (n : Int) : -8 < n.tmod 8 ∧ n.tmod 8 < 8 ∧ (n.tmod 8 + 8) % 8 = n % 8 := by
  have e := @Int.tmod_eq_emod n 8
  have h1 := Int.tmod_lt_of_pos n (by decide : (0 : Int) < 8)
  have h2 := Int.lt_tmod_of_pos n (by decide : (0 : Int) < 8)
  refine ⟨by omega, h1, ?_⟩
  rw [e]; split <;> simp <;> omega
theorem tmod256 (n : Int) : -256 < n.tmod 256 ∧ n.tmod 256 < 256 ∧ (n.tmod 256 + 256) % 256 = n % 256 := by
  have e := @Int.tmod_eq_emod n 256
  have h1 := Int.tmod_lt_of_pos n (by decide : (0 : Int) < 256)
  have h2 := Int.lt_tmod_of_pos n (by decide : (0 : Int) < 256)
  refine ⟨by omega, h1, ?_⟩
  rw [e]; split <;> simp <;> omega
theorem mod8_any (n : Int) (w : World) : Calls Try.prog 25 #[.int .i64 n, .int .i64 8] w (Pure (.int .i64 (n % 8)) w) := by
  obtain ⟨h1, h2, h3⟩ := tmod8 n
  go_enter Try.func25, Try.ntmps25
  go_wp2
  go_ret
  exact ⟨ret_int h3, rfl⟩
theorem mod256_any (n : Int) (w : World) : Calls Try.prog 25 #[.int .i64 n, .int .i64 256] w (Pure (.int .i64 (n % 256)) w) := by
  obtain ⟨h1, h2, h3⟩ := tmod256 n
  go_enter Try.func25, Try.ntmps25
  go_wp2
  go_ret
  exact ⟨ret_int h3, rfl⟩

def bitN (a n : Nat) : Int := ((a / 2 ^ n % 2 : Nat) : Int)
theorem bit_any (a : Nat) (n : Nat) (ha : a ≤ 255) (hn : n ≤ 8) (w : World) :
    Calls Try.prog 26 #[.int .u8 (a : Int), .int .i64 (n : Int)] w (Same (.int .i64 (bitN a n)) w) := by
  go_enter Try.func26, Try.ntmps26
  go_wp2_with fail
  go_loop [5, 6] (fun x i => ∃ k : Nat, k ≤ n ∧ i = .int .i64 k ∧ x = .int .i64 ((a / 2 ^ k : Nat) : Int)) (fun _ i => n - (intOf i).toNat)
  case atStart => exact ⟨0, by omega, rfl, by simp⟩
  case round =>
    obtain ⟨k, hk, rfl, rfl⟩ := hrel
    have hle : a / 2 ^ k ≤ 255 := Nat.le_trans (Nat.div_le_self _ _) ha
    obtain ⟨x, hx⟩ : ∃ x, a / 2 ^ k = x := ⟨_, rfl⟩
    have h2 : a / 2 ^ (k + 1) = x / 2 := by rw [Nat.pow_succ, ← Nat.div_div_eq_div_mul, hx]
    rw [hx] at hle ⊢
    have H2 := hid_ h2
    have HX := hid_ hx
    clear h2 hx
    by_cases hlt : k < n
    · go_wp2_with fail
      go_round
      case rel => exact ⟨k + 1, by omega, by go_num, by rw [H2.out]; go_num⟩
      case measure => simp [intOf]; omega
    · obtain rfl : k = n := by omega
      go_wp2_with fail
      go_ret
      refine ⟨ret_int ?_, rfl⟩
      unfold bitN
      rw [HX.out]
      omega

/-- A colour. -/
def dotI (zs : List Int) (tile x y : Int) : Int :=
  if tile < 0 ∨ 383 < tile then 0 else
    memAt zs (16 * tile + 2 * (y % 8)) / 2 ^ (7 - x % 8).toNat % 2 + memAt zs (16 * tile + 2 * (y % 8) + 1) / 2 ^ (7 - x % 8).toNat % 2 * 2
theorem dot_out (a : Option Addr) (len cap : Nat) (zs : List Int) (tile x y : Int) (h : tile < 0 ∨ 383 < tile) (w : World) :
    Calls Try.prog 11 #[.slice a len cap, .int .i64 tile, .int .i64 x, .int .i64 y] w (Ret (.int .u8 (dotI zs tile x y)) w) := by
  rw [show dotI zs tile x y = 0 by unfold dotI; rw [if_pos h]]
  by_cases h1 : tile < 0
  · have q : decide (tile < 0) = true := by simp; omega
    clear h
    go_enter Try.func11, Try.ntmps11
    go_wp2_with fail
    go_ret
    exact Pure.ret
  · have q : decide (tile < 0) = false := by simp; omega
    have q2 : decide (384 ≤ tile) = true := by simp; omega
    clear h
    go_enter Try.func11, Try.ntmps11
    go_wp2_with fail
    go_ret
    exact Pure.ret

theorem dot_in0 (a : Option Addr) (len cap : Nat) (zs : List Int) (t : Nat) (x y : Int) (ht : t ≤ 383) (hx : x % 8 = 0) (w : World) (h : IsRow .u8 w a len zs) :
    Calls Try.prog 11 #[.slice a len cap, .int .i64 (t : Int), .int .i64 x, .int .i64 y] w (Ret (.int .u8 (dotI zs t x y)) w) := by
  obtain ⟨k, hk⟩ : ∃ k : Nat, y % 8 = k := Int.eq_ofNat_of_zero_le (by omega)
  have hk8 : k < 8 := by omega
  have q : decide ((t : Int) < 0) = false := by simp
  have q2 : decide (384 ≤ (t : Int)) = false := by simp; omega
  have e1 : bits .and .i64 x 7 = 0 := by rw [and7_i64, hx]
  have e2 : bits .and .i64 y 7 = k := by rw [and7_i64, hk]
  have b1 := memAt_bd h (16 * t + 2 * k)
  have b2 := memAt_bd h (16 * t + 2 * k + 1)
  have hd : dotI zs t x y = memAt zs (16 * t + 2 * k) / 128 % 2 + memAt zs (16 * t + 2 * k + 1) / 128 % 2 * 2 := by
    unfold dotI; rw [if_neg (by omega), hx, hk]; rfl
  rw [hd]
  obtain ⟨b10, b11⟩ := b1
  obtain ⟨b20, b21⟩ := b2
  have f1 : bits .and .u8 (memAt zs (16 * (t : Int) + 2 * (k : Int)) / 128) 1 = memAt zs (16 * (t : Int) + 2 * (k : Int)) / 128 % 2 := by rw [and1 _ (by omega) (by omega)]
  have f2 : bits .and .u8 (memAt zs (16 * (t : Int) + 2 * (k : Int) + 1) / 128) 1 = memAt zs (16 * (t : Int) + 2 * (k : Int) + 1) / 128 % 2 := by rw [and1 _ (by omega) (by omega)]
  have f3 : ∀ u v : Int, 0 ≤ u → u ≤ 1 → 0 ≤ v → v ≤ 1 → bits .or .u8 u (v * 2) = u + v * 2 := by
    intro u v h1 h2 h3 h4
    have hu : u = 0 ∨ u = 1 := by omega
    have hv : v = 0 ∨ v = 1 := by omega
    rcases hu with rfl | rfl <;> rcases hv with rfl | rfl <;> decide
  have f4 := f3 (memAt zs (16 * (t : Int) + 2 * (k : Int)) / 128 % 2) (memAt zs (16 * (t : Int) + 2 * (k : Int) + 1) / 128 % 2) (by omega) (by omega) (by omega) (by omega)
  have g1 : 0 ≤ memAt zs (16 * (t : Int) + 2 * (k : Int) + 1) / 128 % 2 := by omega
  have g2 : memAt zs (16 * (t : Int) + 2 * (k : Int) + 1) / 128 % 2 ≤ 1 := by omega
  clear hd hx hk f3
  go_enter Try.func11, Try.ntmps11
  go_wp2_with fail
  go_quiet ((go_at_call 24; exact at_q a len cap zs _ (by omega) w _ h))
  go_wp2_with fail
  go_ret
  exact .of rfl (below_drewN (Below.refl _ _) _)
theorem dot_in1 (a : Option Addr) (len cap : Nat) (zs : List Int) (t : Nat) (x y : Int) (ht : t ≤ 383) (hx : x % 8 = 1) (w : World) (h : IsRow .u8 w a len zs) :
    Calls Try.prog 11 #[.slice a len cap, .int .i64 (t : Int), .int .i64 x, .int .i64 y] w (Ret (.int .u8 (dotI zs t x y)) w) := by
  obtain ⟨k, hk⟩ : ∃ k : Nat, y % 8 = k := Int.eq_ofNat_of_zero_le (by omega)
  have hk8 : k < 8 := by omega
  have q : decide ((t : Int) < 0) = false := by simp
  have q2 : decide (384 ≤ (t : Int)) = false := by simp; omega
  have e1 : bits .and .i64 x 7 = 1 := by rw [and7_i64, hx]
  have e2 : bits .and .i64 y 7 = k := by rw [and7_i64, hk]
  have b1 := memAt_bd h (16 * t + 2 * k)
  have b2 := memAt_bd h (16 * t + 2 * k + 1)
  have hd : dotI zs t x y = memAt zs (16 * t + 2 * k) / 64 % 2 + memAt zs (16 * t + 2 * k + 1) / 64 % 2 * 2 := by
    unfold dotI; rw [if_neg (by omega), hx, hk]; rfl
  rw [hd]
  obtain ⟨b10, b11⟩ := b1
  obtain ⟨b20, b21⟩ := b2
  have f1 : bits .and .u8 (memAt zs (16 * (t : Int) + 2 * (k : Int)) / 64) 1 = memAt zs (16 * (t : Int) + 2 * (k : Int)) / 64 % 2 := by rw [and1 _ (by omega) (by omega)]
  have f2 : bits .and .u8 (memAt zs (16 * (t : Int) + 2 * (k : Int) + 1) / 64) 1 = memAt zs (16 * (t : Int) + 2 * (k : Int) + 1) / 64 % 2 := by rw [and1 _ (by omega) (by omega)]
  have f3 : ∀ u v : Int, 0 ≤ u → u ≤ 1 → 0 ≤ v → v ≤ 1 → bits .or .u8 u (v * 2) = u + v * 2 := by
    intro u v h1 h2 h3 h4
    have hu : u = 0 ∨ u = 1 := by omega
    have hv : v = 0 ∨ v = 1 := by omega
    rcases hu with rfl | rfl <;> rcases hv with rfl | rfl <;> decide
  have f4 := f3 (memAt zs (16 * (t : Int) + 2 * (k : Int)) / 64 % 2) (memAt zs (16 * (t : Int) + 2 * (k : Int) + 1) / 64 % 2) (by omega) (by omega) (by omega) (by omega)
  have g1 : 0 ≤ memAt zs (16 * (t : Int) + 2 * (k : Int) + 1) / 64 % 2 := by omega
  have g2 : memAt zs (16 * (t : Int) + 2 * (k : Int) + 1) / 64 % 2 ≤ 1 := by omega
  clear hd hx hk f3
  go_enter Try.func11, Try.ntmps11
  go_wp2_with fail
  go_quiet ((go_at_call 24; exact at_q a len cap zs _ (by omega) w _ h))
  go_wp2_with fail
  go_ret
  exact .of rfl (below_drewN (Below.refl _ _) _)
theorem dot_in2 (a : Option Addr) (len cap : Nat) (zs : List Int) (t : Nat) (x y : Int) (ht : t ≤ 383) (hx : x % 8 = 2) (w : World) (h : IsRow .u8 w a len zs) :
    Calls Try.prog 11 #[.slice a len cap, .int .i64 (t : Int), .int .i64 x, .int .i64 y] w (Ret (.int .u8 (dotI zs t x y)) w) := by
  obtain ⟨k, hk⟩ : ∃ k : Nat, y % 8 = k := Int.eq_ofNat_of_zero_le (by omega)
  have hk8 : k < 8 := by omega
  have q : decide ((t : Int) < 0) = false := by simp
  have q2 : decide (384 ≤ (t : Int)) = false := by simp; omega
  have e1 : bits .and .i64 x 7 = 2 := by rw [and7_i64, hx]
  have e2 : bits .and .i64 y 7 = k := by rw [and7_i64, hk]
  have b1 := memAt_bd h (16 * t + 2 * k)
  have b2 := memAt_bd h (16 * t + 2 * k + 1)
  have hd : dotI zs t x y = memAt zs (16 * t + 2 * k) / 32 % 2 + memAt zs (16 * t + 2 * k + 1) / 32 % 2 * 2 := by
    unfold dotI; rw [if_neg (by omega), hx, hk]; rfl
  rw [hd]
  obtain ⟨b10, b11⟩ := b1
  obtain ⟨b20, b21⟩ := b2
  have f1 : bits .and .u8 (memAt zs (16 * (t : Int) + 2 * (k : Int)) / 32) 1 = memAt zs (16 * (t : Int) + 2 * (k : Int)) / 32 % 2 := by rw [and1 _ (by omega) (by omega)]
  have f2 : bits .and .u8 (memAt zs (16 * (t : Int) + 2 * (k : Int) + 1) / 32) 1 = memAt zs (16 * (t : Int) + 2 * (k : Int) + 1) / 32 % 2 := by rw [and1 _ (by omega) (by omega)]
  have f3 : ∀ u v : Int, 0 ≤ u → u ≤ 1 → 0 ≤ v → v ≤ 1 → bits .or .u8 u (v * 2) = u + v * 2 := by
    intro u v h1 h2 h3 h4
    have hu : u = 0 ∨ u = 1 := by omega
    have hv : v = 0 ∨ v = 1 := by omega
    rcases hu with rfl | rfl <;> rcases hv with rfl | rfl <;> decide
  have f4 := f3 (memAt zs (16 * (t : Int) + 2 * (k : Int)) / 32 % 2) (memAt zs (16 * (t : Int) + 2 * (k : Int) + 1) / 32 % 2) (by omega) (by omega) (by omega) (by omega)
  have g1 : 0 ≤ memAt zs (16 * (t : Int) + 2 * (k : Int) + 1) / 32 % 2 := by omega
  have g2 : memAt zs (16 * (t : Int) + 2 * (k : Int) + 1) / 32 % 2 ≤ 1 := by omega
  clear hd hx hk f3
  go_enter Try.func11, Try.ntmps11
  go_wp2_with fail
  go_quiet ((go_at_call 24; exact at_q a len cap zs _ (by omega) w _ h))
  go_wp2_with fail
  go_ret
  exact .of rfl (below_drewN (Below.refl _ _) _)
theorem dot_in3 (a : Option Addr) (len cap : Nat) (zs : List Int) (t : Nat) (x y : Int) (ht : t ≤ 383) (hx : x % 8 = 3) (w : World) (h : IsRow .u8 w a len zs) :
    Calls Try.prog 11 #[.slice a len cap, .int .i64 (t : Int), .int .i64 x, .int .i64 y] w (Ret (.int .u8 (dotI zs t x y)) w) := by
  obtain ⟨k, hk⟩ : ∃ k : Nat, y % 8 = k := Int.eq_ofNat_of_zero_le (by omega)
  have hk8 : k < 8 := by omega
  have q : decide ((t : Int) < 0) = false := by simp
  have q2 : decide (384 ≤ (t : Int)) = false := by simp; omega
  have e1 : bits .and .i64 x 7 = 3 := by rw [and7_i64, hx]
  have e2 : bits .and .i64 y 7 = k := by rw [and7_i64, hk]
  have b1 := memAt_bd h (16 * t + 2 * k)
  have b2 := memAt_bd h (16 * t + 2 * k + 1)
  have hd : dotI zs t x y = memAt zs (16 * t + 2 * k) / 16 % 2 + memAt zs (16 * t + 2 * k + 1) / 16 % 2 * 2 := by
    unfold dotI; rw [if_neg (by omega), hx, hk]; rfl
  rw [hd]
  obtain ⟨b10, b11⟩ := b1
  obtain ⟨b20, b21⟩ := b2
  have f1 : bits .and .u8 (memAt zs (16 * (t : Int) + 2 * (k : Int)) / 16) 1 = memAt zs (16 * (t : Int) + 2 * (k : Int)) / 16 % 2 := by rw [and1 _ (by omega) (by omega)]
  have f2 : bits .and .u8 (memAt zs (16 * (t : Int) + 2 * (k : Int) + 1) / 16) 1 = memAt zs (16 * (t : Int) + 2 * (k : Int) + 1) / 16 % 2 := by rw [and1 _ (by omega) (by omega)]
  have f3 : ∀ u v : Int, 0 ≤ u → u ≤ 1 → 0 ≤ v → v ≤ 1 → bits .or .u8 u (v * 2) = u + v * 2 := by
    intro u v h1 h2 h3 h4
    have hu : u = 0 ∨ u = 1 := by omega
    have hv : v = 0 ∨ v = 1 := by omega
    rcases hu with rfl | rfl <;> rcases hv with rfl | rfl <;> decide
  have f4 := f3 (memAt zs (16 * (t : Int) + 2 * (k : Int)) / 16 % 2) (memAt zs (16 * (t : Int) + 2 * (k : Int) + 1) / 16 % 2) (by omega) (by omega) (by omega) (by omega)
  have g1 : 0 ≤ memAt zs (16 * (t : Int) + 2 * (k : Int) + 1) / 16 % 2 := by omega
  have g2 : memAt zs (16 * (t : Int) + 2 * (k : Int) + 1) / 16 % 2 ≤ 1 := by omega
  clear hd hx hk f3
  go_enter Try.func11, Try.ntmps11
  go_wp2_with fail
  go_quiet ((go_at_call 24; exact at_q a len cap zs _ (by omega) w _ h))
  go_wp2_with fail
  go_ret
  exact .of rfl (below_drewN (Below.refl _ _) _)
theorem dot_in4 (a : Option Addr) (len cap : Nat) (zs : List Int) (t : Nat) (x y : Int) (ht : t ≤ 383) (hx : x % 8 = 4) (w : World) (h : IsRow .u8 w a len zs) :
    Calls Try.prog 11 #[.slice a len cap, .int .i64 (t : Int), .int .i64 x, .int .i64 y] w (Ret (.int .u8 (dotI zs t x y)) w) := by
  obtain ⟨k, hk⟩ : ∃ k : Nat, y % 8 = k := Int.eq_ofNat_of_zero_le (by omega)
  have hk8 : k < 8 := by omega
  have q : decide ((t : Int) < 0) = false := by simp
  have q2 : decide (384 ≤ (t : Int)) = false := by simp; omega
  have e1 : bits .and .i64 x 7 = 4 := by rw [and7_i64, hx]
  have e2 : bits .and .i64 y 7 = k := by rw [and7_i64, hk]
  have b1 := memAt_bd h (16 * t + 2 * k)
  have b2 := memAt_bd h (16 * t + 2 * k + 1)
  have hd : dotI zs t x y = memAt zs (16 * t + 2 * k) / 8 % 2 + memAt zs (16 * t + 2 * k + 1) / 8 % 2 * 2 := by
    unfold dotI; rw [if_neg (by omega), hx, hk]; rfl
  rw [hd]
  obtain ⟨b10, b11⟩ := b1
  obtain ⟨b20, b21⟩ := b2
  have f1 : bits .and .u8 (memAt zs (16 * (t : Int) + 2 * (k : Int)) / 8) 1 = memAt zs (16 * (t : Int) + 2 * (k : Int)) / 8 % 2 := by rw [and1 _ (by omega) (by omega)]
  have f2 : bits .and .u8 (memAt zs (16 * (t : Int) + 2 * (k : Int) + 1) / 8) 1 = memAt zs (16 * (t : Int) + 2 * (k : Int) + 1) / 8 % 2 := by rw [and1 _ (by omega) (by omega)]
  have f3 : ∀ u v : Int, 0 ≤ u → u ≤ 1 → 0 ≤ v → v ≤ 1 → bits .or .u8 u (v * 2) = u + v * 2 := by
    intro u v h1 h2 h3 h4
    have hu : u = 0 ∨ u = 1 := by omega
    have hv : v = 0 ∨ v = 1 := by omega
    rcases hu with rfl | rfl <;> rcases hv with rfl | rfl <;> decide
  have f4 := f3 (memAt zs (16 * (t : Int) + 2 * (k : Int)) / 8 % 2) (memAt zs (16 * (t : Int) + 2 * (k : Int) + 1) / 8 % 2) (by omega) (by omega) (by omega) (by omega)
  have g1 : 0 ≤ memAt zs (16 * (t : Int) + 2 * (k : Int) + 1) / 8 % 2 := by omega
  have g2 : memAt zs (16 * (t : Int) + 2 * (k : Int) + 1) / 8 % 2 ≤ 1 := by omega
  clear hd hx hk f3
  go_enter Try.func11, Try.ntmps11
  go_wp2_with fail
  go_quiet ((go_at_call 24; exact at_q a len cap zs _ (by omega) w _ h))
  go_wp2_with fail
  go_ret
  exact .of rfl (below_drewN (Below.refl _ _) _)
theorem dot_in5 (a : Option Addr) (len cap : Nat) (zs : List Int) (t : Nat) (x y : Int) (ht : t ≤ 383) (hx : x % 8 = 5) (w : World) (h : IsRow .u8 w a len zs) :
    Calls Try.prog 11 #[.slice a len cap, .int .i64 (t : Int), .int .i64 x, .int .i64 y] w (Ret (.int .u8 (dotI zs t x y)) w) := by
  obtain ⟨k, hk⟩ : ∃ k : Nat, y % 8 = k := Int.eq_ofNat_of_zero_le (by omega)
  have hk8 : k < 8 := by omega
  have q : decide ((t : Int) < 0) = false := by simp
  have q2 : decide (384 ≤ (t : Int)) = false := by simp; omega
  have e1 : bits .and .i64 x 7 = 5 := by rw [and7_i64, hx]
  have e2 : bits .and .i64 y 7 = k := by rw [and7_i64, hk]
  have b1 := memAt_bd h (16 * t + 2 * k)
  have b2 := memAt_bd h (16 * t + 2 * k + 1)
  have hd : dotI zs t x y = memAt zs (16 * t + 2 * k) / 4 % 2 + memAt zs (16 * t + 2 * k + 1) / 4 % 2 * 2 := by
    unfold dotI; rw [if_neg (by omega), hx, hk]; rfl
  rw [hd]
  obtain ⟨b10, b11⟩ := b1
  obtain ⟨b20, b21⟩ := b2
  have f1 : bits .and .u8 (memAt zs (16 * (t : Int) + 2 * (k : Int)) / 4) 1 = memAt zs (16 * (t : Int) + 2 * (k : Int)) / 4 % 2 := by rw [and1 _ (by omega) (by omega)]
  have f2 : bits .and .u8 (memAt zs (16 * (t : Int) + 2 * (k : Int) + 1) / 4) 1 = memAt zs (16 * (t : Int) + 2 * (k : Int) + 1) / 4 % 2 := by rw [and1 _ (by omega) (by omega)]
  have f3 : ∀ u v : Int, 0 ≤ u → u ≤ 1 → 0 ≤ v → v ≤ 1 → bits .or .u8 u (v * 2) = u + v * 2 := by
    intro u v h1 h2 h3 h4
    have hu : u = 0 ∨ u = 1 := by omega
    have hv : v = 0 ∨ v = 1 := by omega
    rcases hu with rfl | rfl <;> rcases hv with rfl | rfl <;> decide
  have f4 := f3 (memAt zs (16 * (t : Int) + 2 * (k : Int)) / 4 % 2) (memAt zs (16 * (t : Int) + 2 * (k : Int) + 1) / 4 % 2) (by omega) (by omega) (by omega) (by omega)
  have g1 : 0 ≤ memAt zs (16 * (t : Int) + 2 * (k : Int) + 1) / 4 % 2 := by omega
  have g2 : memAt zs (16 * (t : Int) + 2 * (k : Int) + 1) / 4 % 2 ≤ 1 := by omega
  clear hd hx hk f3
  go_enter Try.func11, Try.ntmps11
  go_wp2_with fail
  go_quiet ((go_at_call 24; exact at_q a len cap zs _ (by omega) w _ h))
  go_wp2_with fail
  go_ret
  exact .of rfl (below_drewN (Below.refl _ _) _)
theorem dot_in6 (a : Option Addr) (len cap : Nat) (zs : List Int) (t : Nat) (x y : Int) (ht : t ≤ 383) (hx : x % 8 = 6) (w : World) (h : IsRow .u8 w a len zs) :
    Calls Try.prog 11 #[.slice a len cap, .int .i64 (t : Int), .int .i64 x, .int .i64 y] w (Ret (.int .u8 (dotI zs t x y)) w) := by
  obtain ⟨k, hk⟩ : ∃ k : Nat, y % 8 = k := Int.eq_ofNat_of_zero_le (by omega)
  have hk8 : k < 8 := by omega
  have q : decide ((t : Int) < 0) = false := by simp
  have q2 : decide (384 ≤ (t : Int)) = false := by simp; omega
  have e1 : bits .and .i64 x 7 = 6 := by rw [and7_i64, hx]
  have e2 : bits .and .i64 y 7 = k := by rw [and7_i64, hk]
  have b1 := memAt_bd h (16 * t + 2 * k)
  have b2 := memAt_bd h (16 * t + 2 * k + 1)
  have hd : dotI zs t x y = memAt zs (16 * t + 2 * k) / 2 % 2 + memAt zs (16 * t + 2 * k + 1) / 2 % 2 * 2 := by
    unfold dotI; rw [if_neg (by omega), hx, hk]; rfl
  rw [hd]
  obtain ⟨b10, b11⟩ := b1
  obtain ⟨b20, b21⟩ := b2
  have f1 : bits .and .u8 (memAt zs (16 * (t : Int) + 2 * (k : Int)) / 2) 1 = memAt zs (16 * (t : Int) + 2 * (k : Int)) / 2 % 2 := by rw [and1 _ (by omega) (by omega)]
  have f2 : bits .and .u8 (memAt zs (16 * (t : Int) + 2 * (k : Int) + 1) / 2) 1 = memAt zs (16 * (t : Int) + 2 * (k : Int) + 1) / 2 % 2 := by rw [and1 _ (by omega) (by omega)]
  have f3 : ∀ u v : Int, 0 ≤ u → u ≤ 1 → 0 ≤ v → v ≤ 1 → bits .or .u8 u (v * 2) = u + v * 2 := by
    intro u v h1 h2 h3 h4
    have hu : u = 0 ∨ u = 1 := by omega
    have hv : v = 0 ∨ v = 1 := by omega
    rcases hu with rfl | rfl <;> rcases hv with rfl | rfl <;> decide
  have f4 := f3 (memAt zs (16 * (t : Int) + 2 * (k : Int)) / 2 % 2) (memAt zs (16 * (t : Int) + 2 * (k : Int) + 1) / 2 % 2) (by omega) (by omega) (by omega) (by omega)
  have g1 : 0 ≤ memAt zs (16 * (t : Int) + 2 * (k : Int) + 1) / 2 % 2 := by omega
  have g2 : memAt zs (16 * (t : Int) + 2 * (k : Int) + 1) / 2 % 2 ≤ 1 := by omega
  clear hd hx hk f3
  go_enter Try.func11, Try.ntmps11
  go_wp2_with fail
  go_quiet ((go_at_call 24; exact at_q a len cap zs _ (by omega) w _ h))
  go_wp2_with fail
  go_ret
  exact .of rfl (below_drewN (Below.refl _ _) _)
theorem dot_in7 (a : Option Addr) (len cap : Nat) (zs : List Int) (t : Nat) (x y : Int) (ht : t ≤ 383) (hx : x % 8 = 7) (w : World) (h : IsRow .u8 w a len zs) :
    Calls Try.prog 11 #[.slice a len cap, .int .i64 (t : Int), .int .i64 x, .int .i64 y] w (Ret (.int .u8 (dotI zs t x y)) w) := by
  obtain ⟨k, hk⟩ : ∃ k : Nat, y % 8 = k := Int.eq_ofNat_of_zero_le (by omega)
  have hk8 : k < 8 := by omega
  have q : decide ((t : Int) < 0) = false := by simp
  have q2 : decide (384 ≤ (t : Int)) = false := by simp; omega
  have e1 : bits .and .i64 x 7 = 7 := by rw [and7_i64, hx]
  have e2 : bits .and .i64 y 7 = k := by rw [and7_i64, hk]
  have b1 := memAt_bd h (16 * t + 2 * k)
  have b2 := memAt_bd h (16 * t + 2 * k + 1)
  have hd : dotI zs t x y = memAt zs (16 * t + 2 * k) % 2 + memAt zs (16 * t + 2 * k + 1) % 2 * 2 := by
    unfold dotI; rw [if_neg (by omega), hx, hk]; simp
  rw [hd]
  obtain ⟨b10, b11⟩ := b1
  obtain ⟨b20, b21⟩ := b2
  have f1 : bits .and .u8 (memAt zs (16 * (t : Int) + 2 * (k : Int))) 1 = memAt zs (16 * (t : Int) + 2 * (k : Int)) % 2 := by rw [and1 _ (by omega) (by omega)]
  have f2 : bits .and .u8 (memAt zs (16 * (t : Int) + 2 * (k : Int) + 1)) 1 = memAt zs (16 * (t : Int) + 2 * (k : Int) + 1) % 2 := by rw [and1 _ (by omega) (by omega)]
  have f3 : ∀ u v : Int, 0 ≤ u → u ≤ 1 → 0 ≤ v → v ≤ 1 → bits .or .u8 u (v * 2) = u + v * 2 := by
    intro u v h1 h2 h3 h4
    have hu : u = 0 ∨ u = 1 := by omega
    have hv : v = 0 ∨ v = 1 := by omega
    rcases hu with rfl | rfl <;> rcases hv with rfl | rfl <;> decide
  have f4 := f3 (memAt zs (16 * (t : Int) + 2 * (k : Int)) % 2) (memAt zs (16 * (t : Int) + 2 * (k : Int) + 1) % 2) (by omega) (by omega) (by omega) (by omega)
  have g1 : 0 ≤ memAt zs (16 * (t : Int) + 2 * (k : Int) + 1) % 2 := by omega
  have g2 : memAt zs (16 * (t : Int) + 2 * (k : Int) + 1) % 2 ≤ 1 := by omega
  clear hd hx hk f3
  go_enter Try.func11, Try.ntmps11
  go_wp2_with fail
  go_quiet ((go_at_call 24; exact at_q a len cap zs _ (by omega) w _ h))
  go_wp2_with fail
  go_ret
  exact .of rfl (below_drewN (Below.refl _ _) _)
theorem dot_any (a : Option Addr) (len cap : Nat) (zs : List Int) (tile x y : Int) (w : World) (h : IsRow .u8 w a len zs) :
    Calls Try.prog 11 #[.slice a len cap, .int .i64 tile, .int .i64 x, .int .i64 y] w (Ret (.int .u8 (dotI zs tile x y)) w) := by
  by_cases ho : tile < 0 ∨ 383 < tile
  · exact dot_out a len cap zs tile x y ho w
  · obtain ⟨t, rfl⟩ := Int.eq_ofNat_of_zero_le (by omega : 0 ≤ tile)
    have hx : x % 8 = 0 ∨ x % 8 = 1 ∨ x % 8 = 2 ∨ x % 8 = 3 ∨ x % 8 = 4 ∨ x % 8 = 5 ∨ x % 8 = 6 ∨ x % 8 = 7 := by omega
    rcases hx with hx | hx | hx | hx | hx | hx | hx | hx
    · exact dot_in0 a len cap zs t x y (by omega) hx w h
    · exact dot_in1 a len cap zs t x y (by omega) hx w h
    · exact dot_in2 a len cap zs t x y (by omega) hx w h
    · exact dot_in3 a len cap zs t x y (by omega) hx w h
    · exact dot_in4 a len cap zs t x y (by omega) hx w h
    · exact dot_in5 a len cap zs t x y (by omega) hx w h
    · exact dot_in6 a len cap zs t x y (by omega) hx w h
    · exact dot_in7 a len cap zs t x y (by omega) hx w h

/-- A shade. -/
def shadeI (p c : Int) : Int := p / 4 ^ (c % 4).toNat % 4
theorem shade0 (p c : Int) (hc : c % 4 = 0) (hp : 0 ≤ p) (hp' : p ≤ 255) (h0 : 0 ≤ c) (h1 : c ≤ 255) (w : World) : Calls Try.prog 15 #[.int .u8 p, .int .u8 c] w (Pure (.int .u8 (shadeI p c)) w) := by
  have e1 : bits .and .u8 c 3 = 0 := by rw [and3 c h0 h1, hc]
  have e2 : bits .and .u8 (p) 3 = shadeI p c := by rw [and3 _ (by omega) (by omega)]; unfold shadeI; rw [hc]; simp
  clear hc
  go_enter Try.func15, Try.ntmps15
  go_wp2
  go_ret
  exact ⟨rfl, rfl⟩
theorem shade1 (p c : Int) (hc : c % 4 = 1) (hp : 0 ≤ p) (hp' : p ≤ 255) (h0 : 0 ≤ c) (h1 : c ≤ 255) (w : World) : Calls Try.prog 15 #[.int .u8 p, .int .u8 c] w (Pure (.int .u8 (shadeI p c)) w) := by
  have e1 : bits .and .u8 c 3 = 1 := by rw [and3 c h0 h1, hc]
  have e2 : bits .and .u8 (p / 4) 3 = shadeI p c := by rw [and3 _ (by omega) (by omega)]; unfold shadeI; rw [hc]; simp
  clear hc
  go_enter Try.func15, Try.ntmps15
  go_wp2
  go_ret
  exact ⟨rfl, rfl⟩
theorem shade2 (p c : Int) (hc : c % 4 = 2) (hp : 0 ≤ p) (hp' : p ≤ 255) (h0 : 0 ≤ c) (h1 : c ≤ 255) (w : World) : Calls Try.prog 15 #[.int .u8 p, .int .u8 c] w (Pure (.int .u8 (shadeI p c)) w) := by
  have e1 : bits .and .u8 c 3 = 2 := by rw [and3 c h0 h1, hc]
  have e2 : bits .and .u8 (p / 16) 3 = shadeI p c := by rw [and3 _ (by omega) (by omega)]; unfold shadeI; rw [hc]; simp
  clear hc
  go_enter Try.func15, Try.ntmps15
  go_wp2
  go_ret
  exact ⟨rfl, rfl⟩
theorem shade3 (p c : Int) (hc : c % 4 = 3) (hp : 0 ≤ p) (hp' : p ≤ 255) (h0 : 0 ≤ c) (h1 : c ≤ 255) (w : World) : Calls Try.prog 15 #[.int .u8 p, .int .u8 c] w (Pure (.int .u8 (shadeI p c)) w) := by
  have e1 : bits .and .u8 c 3 = 3 := by rw [and3 c h0 h1, hc]
  have e2 : bits .and .u8 (p / 64) 3 = shadeI p c := by rw [and3 _ (by omega) (by omega)]; unfold shadeI; rw [hc]; simp
  clear hc
  go_enter Try.func15, Try.ntmps15
  go_wp2
  go_ret
  exact ⟨rfl, rfl⟩
theorem shade_any (p c : Int) (hp : 0 ≤ p) (hp' : p ≤ 255) (h0 : 0 ≤ c) (h1 : c ≤ 255) (w : World) : Calls Try.prog 15 #[.int .u8 p, .int .u8 c] w (Pure (.int .u8 (shadeI p c)) w) := by
  have hc : c % 4 = 0 ∨ c % 4 = 1 ∨ c % 4 = 2 ∨ c % 4 = 3 := by omega
  rcases hc with hc | hc | hc | hc
  · exact shade0 p c hc hp hp' h0 h1 w
  · exact shade1 p c hc hp hp' h0 h1 w
  · exact shade2 p c hc hp hp' h0 h1 w
  · exact shade3 p c hc hp hp' h0 h1 w

def sgn (e : Int) : Int := if 127 < e then e - 256 else e
theorem wrap_i8 (e : Int) (h : 0 ≤ e) (h' : e ≤ 255) : IntKind.i8.wrap e = sgn e := upto (P := fun e => IntKind.i8.wrap e = sgn e) (by decide +kernel) e h h'
def numI (c b : Int) : Int := if c / 16 % 2 = 1 then b else 256 + sgn b
abbrev view (c sx sy wx wy : Int) : Value := .agg #[.int .u8 c, .int .u8 sx, .int .u8 sy, .int .u8 wx, .int .u8 wy]
theorem number_any (c sx sy wx wy b : Int) (hc : 0 ≤ c) (hc' : c ≤ 255) (hb : 0 ≤ b) (hb' : b ≤ 255) (w : World) :
    Calls Try.prog 13 #[view c sx sy wx wy, .int .u8 b] w (Ret (.int .i64 (numI c b)) w) := by
  have e1 := and16 c hc hc'
  have e2 := wrap_i8 b hb hb'
  have s0 : -128 ≤ sgn b := by unfold sgn; split <;> omega
  have s1 : sgn b ≤ 127 := by unfold sgn; split <;> omega
  by_cases h : c / 16 % 2 = 1
  · rw [show numI c b = b by unfold numI; rw [if_pos h]]
    have e3 : bits .and .u8 c 16 = 16 := by rw [e1, h]; rfl
    clear e1 h
    go_enter Try.func13, Try.ntmps13
    go_wp2
    go_ret
    exact .of rfl ((Below.refl _ _).alloc (Nat.le_refl _) _)
  · rw [show numI c b = 256 + sgn b by unfold numI; rw [if_neg h]]
    have e3 : bits .and .u8 c 16 = 0 := by rw [e1]; omega
    clear e1 h
    go_enter Try.func13, Try.ntmps13
    go_wp2
    go_ret
    exact .of rfl ((Below.refl _ _).alloc (Nat.le_refl _) _)

theorem IsRow.below {k : IntKind} {w w' : World} {a : Option Addr} {len : Nat} {zs : List Int} (h : IsRow k w a len zs) (hb : Below w.heap.size w w') : IsRow k w' a len zs :=
  ⟨h.1, h.2.1, fun h0 => by
    obtain ⟨b, off, ha, hlt, hc⟩ := h.2.2 h0
    exact ⟨b, off, ha, Nat.lt_of_lt_of_le hlt hb.size, fun i hi => (hb.cell (p := ⟨b, off + i, none⟩) hlt).trans (hc i hi)⟩⟩
theorem IsRow.alloc {k : IntKind} {w : World} {a : Option Addr} {len : Nat} {zs : List Int} (h : IsRow k w a len zs) (o : Obj) : IsRow k (w.alloc o) a len zs :=
  h.below ((Below.refl _ _).alloc (Nat.le_refl _) o)

theorem awake_any (w : World) : Calls Try.prog 9 #[] w (Ret (.bool true) w) := by
  have hr : IsRow .u8 (w.alloc (.cells #[.int .u8 60, .int .u8 126] 5)) (some ⟨w.heap.size, 0, none⟩) 2 [60, 126] := by
    refine ⟨rfl, by decide, fun _ => ⟨w.heap.size, 0, rfl, by simp, fun i hi => ?_⟩⟩
    have hB := Blk.new w 5 #[.int .u8 60, .int .u8 126]
    have := hB.cell (0 + i)
    rw [this]
    match i, hi with
    | 0, _ => rfl
    | 1, _ => rfl
  have HR := hid_ hr
  clear hr
  go_enter Try.func9, Try.ntmps9
  go_wp2_with fail
  refine (dot_any _ 2 _ [60, 126] _ _ _ _ HR.out).mono ?_
  rintro e w1 ⟨rfl, hc1, hf1, hz1, hb1⟩
  have R1 := hid_ (HR.out.below hb1)
  rw [show dotI [60, 126] 0 0 0 = 0 from rfl]
  clear hc1 hf1
  go_wp2_with fail
  refine (dot_any _ 2 _ [60, 126] _ _ _ _ R1.out).mono ?_
  rintro e w2 ⟨rfl, hc2, hf2, hz2, hb2⟩
  have R2 := hid_ (R1.out.below hb2)
  rw [show dotI [60, 126] 0 1 0 = 2 from rfl]
  clear hc2 hf2
  go_wp2_with fail
  refine (dot_any _ 2 _ [60, 126] _ _ _ _ R2.out).mono ?_
  rintro e w3 ⟨rfl, hc3, hf3, hz3, hb3⟩
  rw [show dotI [60, 126] 0 2 8 = 3 from rfl]
  clear hc3 hf3
  go_wp2_with fail
  refine (shade_any 228 2 (by omega) (by omega) (by omega) (by omega) _).mono ?_
  rintro e wp ⟨rfl, rfl⟩
  rw [show shadeI 228 2 = 2 from rfl]
  go_wp2_with fail
  refine (number_any 0 0 0 0 0 5 (by omega) (by omega) (by omega) (by omega) _).mono ?_
  rintro e w4 ⟨rfl, hc4, hf4, hz4, hb4⟩
  rw [show numI 0 5 = 261 from rfl]
  clear hc4 hf4
  go_wp2_with fail
  go_ret
  simp at hz1
  exact .of rfl (((((Below.refl _ _).alloc (Nat.le_refl _) _).trans (hb1.mono (by simp))).trans (hb2.mono (by omega))).trans (hb3.mono (by omega)) |>.trans (hb4.mono (by omega)))
end Go.Proofs.Ytglnikjeloafiaa
