/- The reference's kinds, of layer 5. -/
import Derived.Test.YtafkgmlamggbdaaRest
namespace Go.Proofs.Ytafkgmlamggbdaa
open Go.RowKit
set_option linter.unusedSimpArgs false
set_option linter.unusedVariables false

/-- The reference's kind. -/
def rkind (x : Int) : Int := if okI x = true then kindI x else -1
theorem okI_none (x : Int) (n0 : ¬ x = 0) (n8 : ¬ x = 8) (n9 : ¬ x = 9) (n1 : ¬ x = 1) (n2 : ¬ x = 2) (n3 : ¬ x = 3) (n5 : ¬ x = 5) (n6 : ¬ x = 6) (n15 : ¬ x = 15) (n16 : ¬ x = 16) (n17 : ¬ x = 17) (n18 : ¬ x = 18) (n19 : ¬ x = 19) (n25 : ¬ x = 25) (n26 : ¬ x = 26) (n27 : ¬ x = 27) (n28 : ¬ x = 28) (n29 : ¬ x = 29) (n30 : ¬ x = 30) : okI x = false := by
  unfold okI sortsL
  simp only [beq_false_of_ne (Ne.symm n0), beq_false_of_ne (Ne.symm n8), beq_false_of_ne (Ne.symm n9), beq_false_of_ne (Ne.symm n1), beq_false_of_ne (Ne.symm n2), beq_false_of_ne (Ne.symm n3), beq_false_of_ne (Ne.symm n5), beq_false_of_ne (Ne.symm n6), beq_false_of_ne (Ne.symm n15), beq_false_of_ne (Ne.symm n16), beq_false_of_ne (Ne.symm n17), beq_false_of_ne (Ne.symm n18), beq_false_of_ne (Ne.symm n19), beq_false_of_ne (Ne.symm n25), beq_false_of_ne (Ne.symm n26), beq_false_of_ne (Ne.symm n27), beq_false_of_ne (Ne.symm n28), beq_false_of_ne (Ne.symm n29), beq_false_of_ne (Ne.symm n30), List.find?]
  rfl
set_option maxRecDepth 100000 in
set_option maxHeartbeats 2000000 in
theorem kind_any (x : Int) (h0 : 0 ≤ x) (h1 : x ≤ 255) (w : World) : Calls Try.prog 18 #[.int .u8 x] w (Pure (.int .i64 (rkind x)) w) := by
  by_cases hin : x = 0 ∨ x = 8 ∨ x = 9 ∨ x = 1 ∨ x = 2 ∨ x = 3 ∨ x = 5 ∨ x = 6 ∨ x = 15 ∨ x = 16 ∨ x = 17 ∨ x = 18 ∨ x = 19 ∨ x = 25 ∨ x = 26 ∨ x = 27 ∨ x = 28 ∨ x = 29 ∨ x = 30
  · rcases hin with rfl | rfl | rfl | rfl | rfl | rfl | rfl | rfl | rfl | rfl | rfl | rfl | rfl | rfl | rfl | rfl | rfl | rfl | rfl
    all_goals go_enter Try.func18, Try.ntmps18
    all_goals go_wp2_with fail
    all_goals go_ret
    all_goals exact ⟨rfl, rfl⟩
  · have hr : rkind x = -1 := by
      unfold rkind
      rw [okI_none x (by omega) (by omega) (by omega) (by omega) (by omega) (by omega) (by omega) (by omega) (by omega) (by omega) (by omega) (by omega) (by omega) (by omega) (by omega) (by omega) (by omega) (by omega) (by omega)]
      rfl
    rw [hr]
    have n0 : (x == 0) = false := by simp; omega
    have n8 : (x == 8) = false := by simp; omega
    have n9 : (x == 9) = false := by simp; omega
    have n1 : (x == 1) = false := by simp; omega
    have n2 : (x == 2) = false := by simp; omega
    have n3 : (x == 3) = false := by simp; omega
    have n5 : (x == 5) = false := by simp; omega
    have n6 : (x == 6) = false := by simp; omega
    have n15 : (x == 15) = false := by simp; omega
    have n16 : (x == 16) = false := by simp; omega
    have n17 : (x == 17) = false := by simp; omega
    have n18 : (x == 18) = false := by simp; omega
    have n19 : (x == 19) = false := by simp; omega
    have n25 : (x == 25) = false := by simp; omega
    have n26 : (x == 26) = false := by simp; omega
    have n27 : (x == 27) = false := by simp; omega
    have n28 : (x == 28) = false := by simp; omega
    have n29 : (x == 29) = false := by simp; omega
    have n30 : (x == 30) = false := by simp; omega
    clear hin hr
    go_enter Try.func18, Try.ntmps18
    go_wp2_with fail
    go_ret
    exact ⟨rfl, rfl⟩
end Go.Proofs.Ytafkgmlamggbdaa
