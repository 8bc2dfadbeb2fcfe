/- Contracts of masks and of a board's read. -/
import Derived.Test.YtacbdapgdgliiaaReadA
import Derived.Test.YtacbdapgdgliiaaLeaf
import Derived.Deep.RegionHeld3
namespace Go.Proofs.Ytacbdapgdgliiaa
open Go.RowKit
set_option linter.unusedSimpArgs false
set_option linter.unusedVariables false

set_option maxRecDepth 20000 in
theorem read_none (b : Bd) (n : Int) (hn : n < 0 ∨ 48 ≤ n ∨ (22 < n ∧ n < 32)) (w : World) : Calls Try.prog 13 #[.agg (enc b), .int .i64 n] w (Ret (.int .u8 255) w) := by
  by_cases h1 : n < 0
  · go_enter Try.func13, Try.ntmps13
    go_wp2_with ((with_reducible refine wpList_box29 (op := ⟨some 2, .box 29 (.tmp 0), _, _, _, _⟩) rfl (.tmp 0) rfl b rfl ?_); intro w1 HB1 HW1)
    go_ret
    exact .of rfl HW1.out
  · by_cases h2 : 48 ≤ n
    · go_enter Try.func13, Try.ntmps13
      go_wp2_with ((with_reducible refine wpList_box29 (op := ⟨some 2, .box 29 (.tmp 0), _, _, _, _⟩) rfl (.tmp 0) rfl b rfl ?_); intro w1 HB1 HW1)
      go_ret
      exact .of rfl HW1.out
    · have h3 : 22 < n := by omega
      have h4 : n < 32 := by omega
      go_enter Try.func13, Try.ntmps13
      go_wp2_with ((with_reducible refine wpList_box29 (op := ⟨some 2, .box 29 (.tmp 0), _, _, _, _⟩) rfl (.tmp 0) rfl b rfl ?_); intro w1 HB1 HW1)
      go_ret
      exact .of rfl HW1.out
set_option maxRecDepth 20000 in
theorem read_waves (b : Bd) (hb : b.OkR) (n : Nat) (h0 : 32 ≤ n) (h1 : n < 48) (w : World) : Calls Try.prog 13 #[.agg (enc b), .int .i64 n] w (Ret (.int .u8 (b.reg n)) w) := by
  have i0 : ¬ (n : Int) < 0 := by omega
  have i1 : (n : Int) < 48 := by omega
  have i2 : 32 ≤ (n : Int) := by omega
  have d1 : decide ((n : Int) < 0) = false := by simp
  have d2 : decide (48 ≤ (n : Int)) = false := by simp; omega
  have d3 : decide (22 < (n : Int)) = true := by simp; omega
  have d4 : decide ((n : Int) < 32) = false := by simp; omega
  have d5 : decide (32 ≤ (n : Int)) = true := by simp; omega
  have HO := hid_ hb
  go_enter Try.func13, Try.ntmps13
  go_wp2_with ((with_reducible refine wpList_box29 (op := ⟨some 2, .box 29 (.tmp 0), _, _, _, _⟩) rfl (.tmp 0) rfl b rfl ?_); intro w1 HB1 HW1; have cn : w1.cell? ⟨w.heap.size, n, none⟩ = some (.int .u8 (b.reg n)) := HB1.out.ar HO.out.regs n h1)
  go_ret
  exact .of rfl HW1.out
theorem index_40 (M : Array Value) (n : Nat) (m : Int) (hn : n < 23) (hm : M[n]? = some (.int .u8 m)) (W : World) : (Instr.index 40 (.agg M) (.int .i64 n)).run Try.prog W = .ok (.int .u8 m) W := by
  have hs : (Try.prog.info? 5).map (·.size) = some 1 := by kernel_rfl
  have i1 : (n : Int) < 23 := by omega
  unfold Instr.index
  simp [Sem.run_bind, asIntOf, run_underlying Try.underlying40, i1, go_sem, hm]
  omega
theorem masks_row : ∃ M : Array Value, M.size = 23 ∧ (∀ n, n < 23 → M[n]? = some (.int .u8 (masksL.getD n 0))) ∧ ∀ w, Calls Try.prog 22 #[] w (Ret (.agg M) w) :=
  ⟨_, masks_len, masks_at, masks_any⟩
set_option maxRecDepth 20000 in
theorem read_low (b : Bd) (hb : b.OkR) (n : Nat) (h1 : n < 22) (w : World) : Calls Try.prog 13 #[.agg (enc b), .int .i64 n] w (Ret (.int .u8 (bits .or .u8 (b.reg n) (masksL.getD n 0))) w) := by
  have i0 : ¬ (n : Int) < 0 := by omega
  have i1 : (n : Int) < 22 := by omega
  have i2 : (0 : Int) ≤ (n : Int) := by omega
  have d1 : decide ((n : Int) < 0) = false := by simp
  have d2 : decide (48 ≤ (n : Int)) = false := by simp; omega
  have d3 : decide (22 < (n : Int)) = false := by simp; omega
  have d5 : decide (32 ≤ (n : Int)) = false := by simp; omega
  have d6 : decide ((n : Int) < 22) = true := by simp; omega
  obtain ⟨M, hM, hat, hcall⟩ := masks_row
  have hm := hat n (by omega)
  have hix : ∀ W, _ := index_40 M n _ (by omega) hm
  have HC := hid_ hcall
  generalize masksL.getD n 0 = m at *
  have HO := hid_ hb
  clear hat hcall
  go_enter Try.func13, Try.ntmps13
  go_wp2_with ((with_reducible refine wpList_box29 (op := ⟨some 2, .box 29 (.tmp 0), _, _, _, _⟩) rfl (.tmp 0) rfl b rfl ?_); intro w1 HB1 HW1; have cn : w1.cell? ⟨w.heap.size, n, none⟩ = some (.int .u8 (b.reg n)) := HB1.out.ar HO.out.regs n (by omega))
  have hlt := HB1.out.lt
  have hW1 := HW1.out
  have i3 : (n : Int) < 48 := by omega
  generalize w1 = wo at *
  go_region_held3 (fun W => (∀ b o, b < wo.heap.size → W.cell? ⟨b, o, none⟩ = wo.cell? ⟨b, o, none⟩) ∧ Keeps wo W)
    (first | exact ⟨fun _ _ _ => rfl, (Keeps.refl _).drew⟩ | exact ⟨fun _ _ h => Keeps.cells (by assumption) _ _ h, by assumption⟩)
    ((go_at_call 22; go_split_ands; refine (HC.out _).mono ?_; rintro e w4 ⟨rfl, hc4, hf4, hz4, hb4⟩; have hk4 := Keeps.step (wo := wo) (by assumption) hb4; clear hc4 hf4 hz4 hb4))
  go_wp2_with fail
  go_ret
  exact .of rfl (hW1.trans (Below.mono (by assumption : Keeps wo _) hW1.size))
end Go.Proofs.Ytacbdapgdgliiaa
