/- The law AluDigits: its walk. -/
import Derived.Test.YtdcfljfgcnbjlaaLawsA
import Derived.Test.YtdcfljfgcnbjlaaPlainD
namespace Go.Proofs.Ytdcfljfgcnbjlaa
open Go.RowKit
set_option linter.unusedSimpArgs false
set_option linter.unusedVariables false
namespace aluDigits

theorem add_facts (x y : Nat) (hx : x < 100) (hy : y < 100) : digR (addS (bcd x) (bcd y)) (addF (bcd x) (bcd y)) = bcd (((x : Int) + y) % 100) ∧
    digHigh (addS (bcd x) (bcd y)) (addF (bcd x) (bcd y)) = decide (99 < (x : Int) + y) := by
  have h := okAdd_all x hx y hy
  simp only [okAdd, Bool.and_eq_true, decide_eq_true_eq, beq_iff_eq] at h
  exact h
theorem sub_facts (x y : Nat) (hx : x < 100) (hy : y < 100) : digR (subS (bcd x) (bcd y)) (subF (bcd x) (bcd y)) = bcd (((x : Int) - y + 100) % 100) ∧
    digHigh (subS (bcd x) (bcd y)) (subF (bcd x) (bcd y)) = decide ((x : Int) < y) := by
  have h := okSub_all x hx y hy
  simp only [okSub, Bool.and_eq_true, decide_eq_true_eq, beq_iff_eq] at h
  exact h
theorem fl_bd (z n h c : Bool) : 0 ≤ fl z n h c ∧ fl z n h c ≤ 255 := by cases z <;> cases n <;> cases h <;> cases c <;> decide
theorem bcd_zero (W : Int) (h : 0 ≤ W) (h' : W < 100) : decide (bcd W = 0) = decide (W = 0) := decide_eq_decide.2 (by unfold bcd; omega)

set_option maxRecDepth 100000 in
set_option maxHeartbeats 1000000 in
theorem walk (m n : Int) (less : Bool) (hm : 0 ≤ m) (hm' : m ≤ 255) (hn : 0 ≤ n) (hn' : n ≤ 255) (w : World) :
    Calls Try.prog 3 #[.int .u8 m, .int .u8 n, .bool less] w (Ret (.bool true) w) := by
  obtain ⟨x, hx⟩ : ∃ x : Nat, m % 100 = x := Int.eq_ofNat_of_zero_le (by omega)
  obtain ⟨y, hy⟩ : ∃ y : Nat, n % 100 = y := Int.eq_ofNat_of_zero_le (by omega)
  have hx9 : x < 100 := by omega
  have hy9 : y < 100 := by omega
  have ax : bcd x = (x : Int) / 10 * 16 + x % 10 := rfl
  have ay : bcd y = (y : Int) / 10 * 16 + y % 10 := rfl
  have A0 : 0 ≤ bcd x := by rw [ax]; omega
  have A1 : bcd x ≤ 255 := by rw [ax]; omega
  have B0 : 0 ≤ bcd y := by rw [ay]; omega
  have B1 : bcd y ≤ 255 := by rw [ay]; omega
  obtain ⟨A, hA⟩ : ∃ A, bcd x = A := ⟨_, rfl⟩
  obtain ⟨B, hB⟩ : ∃ B, bcd y = B := ⟨_, rfl⟩
  have hA' : (x : Int) / 10 * 16 + x % 10 = A := by rw [← ax]; exact hA
  have hB' : (y : Int) / 10 * 16 + y % 10 = B := by rw [← ay]; exact hB
  have p1 : 0 ≤ (x : Int) / 10 := by omega
  have p2 : (x : Int) / 10 ≤ 9 := by omega
  have p3 : 0 ≤ (x : Int) % 10 := by omega
  have p4 : (x : Int) % 10 ≤ 9 := by omega
  have q1 : 0 ≤ (y : Int) / 10 := by omega
  have q2 : (y : Int) / 10 ≤ 9 := by omega
  have q3 : 0 ≤ (y : Int) % 10 := by omega
  have q4 : (y : Int) % 10 ≤ 9 := by omega
  have fa := add_facts x y hx9 hy9
  have fs := sub_facts x y hx9 hy9
  rw [hA, hB] at fa fs
  rw [hA] at A0 A1
  rw [hB] at B0 B1
  clear ax ay hA hB
  have FA := hid_ fa
  have FS := hid_ fs
  clear fa fs
  cases less
  · go_enter Try.func3, Try.ntmps3
    go_wp2_with fail
    refine (awake_any _).mono ?_
    rintro e w1 ⟨rfl, rfl⟩
    go_wp2_with fail
    refine (add_any _ _ _ A0 A1 B0 B1 _).mono ?_
    rintro e w1 ⟨rfl, rfl⟩
    rw [show two ((A + B + sel false 1) % 256) (fl (decide ((A + B + sel false 1) % 256 = 0)) false (decide (15 < A % 16 + B % 16 + sel false 1)) (decide (255 < A + B + sel false 1))) = two (addS A B) (addF A B) from rfl]
    obtain ⟨W, hW⟩ : ∃ W, ((x : Int) + y) % 100 = W := ⟨_, rfl⟩
    have W0 : 0 ≤ W := by omega
    have W1 : W < 100 := by omega
    have S0 : 0 ≤ addS A B := by unfold addS; omega
    have S1 : addS A B ≤ 255 := by unfold addS; omega
    have F0 : 0 ≤ addF A B := (fl_bd _ _ _ _).1
    have F1 : addF A B ≤ 255 := (fl_bd _ _ _ _).2
    have fa := FA.out
    rw [hW] at fa
    have hT : two (digR (addS A B) (addF A B)) (fl (decide (digR (addS A B) (addF A B) = 0)) (nB (addF A B)) false (digHigh (addS A B) (addF A B))) =
        two (bcd W) (fl (decide (W = 0)) (nB (addF A B)) false (decide (99 < (x : Int) + y))) := by
      rw [fa.1, fa.2, bcd_zero W W0 W1]
    have HT := hid_ hT
    have g1 := fl_16 (decide (W = 0)) (nB (addF A B)) false (decide (99 < (x : Int) + y))
    have g2 := fl_32 (decide (W = 0)) (nB (addF A B)) false (decide (99 < (x : Int) + y))
    have g3 := fl_128 (decide (W = 0)) (nB (addF A B)) false (decide (99 < (x : Int) + y))
    obtain ⟨G, hG⟩ : ∃ G, fl (decide (W = 0)) (nB (addF A B)) false (decide (99 < (x : Int) + y)) = G := ⟨_, rfl⟩
    rw [hG] at g1 g2 g3
    have HG := hid_ hG
    have wd : W / 10 * 16 + W % 10 = bcd W := rfl
    have r1 : 0 ≤ W / 10 := by omega
    have r2 : W / 10 ≤ 9 := by omega
    have r3 : 0 ≤ W % 10 := by omega
    have r4 : W % 10 ≤ 9 := by omega
    have g2' : bits .and .u8 G 32 = 0 := g2
    clear hT hG fa g2
    by_cases hc : 99 < (x : Int) + y <;> by_cases hz : W = 0
    all_goals
      first | (have g1' : bits .and .u8 G 16 = 16 := by rw [g1]; simp [sel, hc]) | (have g1' : bits .and .u8 G 16 = 0 := by rw [g1]; simp [sel, hc])
      first | (have g3' : bits .and .u8 G 128 = 128 := by rw [g3]; simp [sel, hz]) | (have g3' : bits .and .u8 G 128 = 0 := by rw [g3]; simp [sel, hz])
      first | (have z1 : (W == 0) = true := by simp [hz]) | (have z1 : (W == 0) = false := by simp [hz])
      clear g1 g3
      have HZ := hid_ hz
      clear hz
    all_goals
      go_wp2_with fail
      refine (daa_any _ _ S0 S1 F0 F1 _).mono ?_
      rintro e w1 ⟨rfl, rfl⟩
      rw [HT.out, HG.out]
      go_wp2_with fail
    all_goals go_ret
    all_goals first | exact Pure.ret | exact .of (ret_bool (by simp <;> omega)) (Below.refl _ _)
  · go_enter Try.func3, Try.ntmps3
    go_wp2_with fail
    refine (awake_any _).mono ?_
    rintro e w1 ⟨rfl, rfl⟩
    go_wp2_with fail
    refine (add_any _ _ _ A0 A1 B0 B1 _).mono ?_
    rintro e w1 ⟨rfl, rfl⟩
    rw [show two ((A + B + sel false 1) % 256) (fl (decide ((A + B + sel false 1) % 256 = 0)) false (decide (15 < A % 16 + B % 16 + sel false 1)) (decide (255 < A + B + sel false 1))) = two (addS A B) (addF A B) from rfl]
    go_wp2_with fail
    refine (sub_any _ _ _ A0 A1 B0 B1 _).mono ?_
    rintro e w1 ⟨rfl, rfl⟩
    rw [show two ((A - B - sel false 1) % 256) (fl (decide ((A - B - sel false 1) % 256 = 0)) true (decide (A % 16 < B % 16 + sel false 1)) (decide (A < B + sel false 1))) = two (subS A B) (subF A B) from rfl]
    obtain ⟨W, hW⟩ : ∃ W, ((x : Int) - y + 100) % 100 = W := ⟨_, rfl⟩
    have W0 : 0 ≤ W := by omega
    have W1 : W < 100 := by omega
    have S0 : 0 ≤ subS A B := by unfold subS; omega
    have S1 : subS A B ≤ 255 := by unfold subS; omega
    have F0 : 0 ≤ subF A B := (fl_bd _ _ _ _).1
    have F1 : subF A B ≤ 255 := (fl_bd _ _ _ _).2
    have fa := FS.out
    rw [hW] at fa
    have hT : two (digR (subS A B) (subF A B)) (fl (decide (digR (subS A B) (subF A B) = 0)) (nB (subF A B)) false (digHigh (subS A B) (subF A B))) =
        two (bcd W) (fl (decide (W = 0)) (nB (subF A B)) false (decide ((x : Int) < y))) := by
      rw [fa.1, fa.2, bcd_zero W W0 W1]
    have HT := hid_ hT
    have g1 := fl_16 (decide (W = 0)) (nB (subF A B)) false (decide ((x : Int) < y))
    have g2 := fl_32 (decide (W = 0)) (nB (subF A B)) false (decide ((x : Int) < y))
    have g3 := fl_128 (decide (W = 0)) (nB (subF A B)) false (decide ((x : Int) < y))
    obtain ⟨G, hG⟩ : ∃ G, fl (decide (W = 0)) (nB (subF A B)) false (decide ((x : Int) < y)) = G := ⟨_, rfl⟩
    rw [hG] at g1 g2 g3
    have HG := hid_ hG
    have wd : W / 10 * 16 + W % 10 = bcd W := rfl
    have r1 : 0 ≤ W / 10 := by omega
    have r2 : W / 10 ≤ 9 := by omega
    have r3 : 0 ≤ W % 10 := by omega
    have r4 : W % 10 ≤ 9 := by omega
    have g2' : bits .and .u8 G 32 = 0 := g2
    clear hT hG fa g2
    by_cases hc : (x : Int) < y <;> by_cases hz : W = 0
    all_goals
      first | (have g1' : bits .and .u8 G 16 = 16 := by rw [g1]; simp [sel, hc]) | (have g1' : bits .and .u8 G 16 = 0 := by rw [g1]; simp [sel, hc])
      first | (have g3' : bits .and .u8 G 128 = 128 := by rw [g3]; simp [sel, hz]) | (have g3' : bits .and .u8 G 128 = 0 := by rw [g3]; simp [sel, hz])
      first | (have z1 : (W == 0) = true := by simp [hz]) | (have z1 : (W == 0) = false := by simp [hz])
      clear g1 g3
      have HZ := hid_ hz
      clear hz
    all_goals
      go_wp2_with fail
      refine (daa_any _ _ S0 S1 F0 F1 _).mono ?_
      rintro e w1 ⟨rfl, rfl⟩
      rw [HT.out, HG.out]
      go_wp2_with fail
    all_goals go_ret
    all_goals first | exact Pure.ret | exact .of (ret_bool (by simp <;> omega)) (Below.refl _ _)
end aluDigits
end Go.Proofs.Ytdcfljfgcnbjlaa
