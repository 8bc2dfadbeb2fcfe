/- Contracts of a cartridge's sum, of layer 5 and of its reference. -/
import Derived.Test.YtglklbcohbeacaaGreatHwalksa
namespace Go.Proofs.YtglklbcohbeacaaGreat
open Go.RowKit
set_option linter.unusedSimpArgs false
set_option linter.unusedVariables false

theorem wrap_u16H (x : Int) : IntKind.u16.wrap x = x % 65536 := by simp [IntKind.wrap, IntKind.signed, IntKind.bits]
theorem sum_any (a : Option Addr) (len cap : Nat) (zs : List Int) (hl : len ≤ 9000000) (w : World) (h : IsRow .u8 w a len zs) :
    Calls Tryz.prog 51 #[.slice a len cap] w (fun e w' => e = .returned (.int .u16 (sumVH zs len)) ∧ ∃ n, w' = w.drewN n) := by
  by_cases h6 : len < 336
  · rw [show sumVH zs len = 0 by unfold sumVH; rw [if_pos h6]]
    have q : decide ((len : Int) < 336) = true := by simp; omega
    clear h6 h
    go_enter Tryz.func51, Tryz.ntmps51
    go_wp2_with fail
    go_ret
    exact ⟨rfl, 0, rfl⟩
  · rw [show sumVH zs len = (sm zs len - zs.getD 334 0 - zs.getD 335 0) % 65536 by unfold sumVH; rw [if_neg h6]]
    have q : decide ((len : Int) < 336) = false := by simp; omega
    obtain ⟨b, off, rfl, hb, hc⟩ := h.at_ (by omega)
    have HC := hid_ hc
    have hlen : 336 ≤ len := by omega
    have HL := hid_ hlen
    obtain ⟨u, hu, hu0, hu1, cu⟩ := hc 334 (by omega)
    obtain ⟨v, hv, hv0, hv1, cv⟩ := hc 335 (by omega)
    obtain ⟨hS0, hS1⟩ := sm_bd zs len
    obtain ⟨S, hS⟩ : ∃ S, sm zs len = S := ⟨_, rfl⟩
    rw [hu, hv, hS]
    rw [hS] at hS0 hS1
    have HSS := hid_ hS
    have CU := hid_ cu
    have CV := hid_ cv
    clear hc h6 h hlen hu hv hS cu cv
    go_enter Tryz.func51, Tryz.ntmps51
    go_wp2_with fail
    go_loop [3, 11] (fun x i => ∃ k : Nat, k ≤ len ∧ i = .int .i64 k ∧ x = .int .u16 (sm zs k)) (fun _ i => len - (intOf i).toNat)
    case atStart => exact ⟨0, by omega, rfl, rfl⟩
    case round =>
      obtain ⟨k, hk, rfl, rfl⟩ := hrel
      by_cases hlt : k < len
      · obtain ⟨z, hz, hz0, hz1, cz⟩ := HC.out k (by omega)
        have i0 : (0 : Int) ≤ (k : Int) := by omega
        have i1 : (k : Int) < (len : Int) := by omega
        have HS : Hid (sm zs (k + 1) = (sm zs k + z) % 65536) := by show _ = _; simp only [sm]; rw [hz]
        obtain ⟨hb0, hb1⟩ := sm_bd zs k
        generalize sm zs k = x at *
        clear hz
        go_wp2_with fail
        go_round
        case rel => exact ⟨k + 1, by omega, by go_num, by rw [HS.out, wrap_u16H]⟩
        case measure => simp [intOf]; omega
      · obtain rfl : k = len := by omega
        have hl := HL.out
        have cu := CU.out
        have cv := CV.out
        have j1 : (334 : Int) < (k : Int) := by omega
        have j2 : (335 : Int) < (k : Int) := by omega
        rw [HSS.out]
        clear hl
        go_wp2_with fail
        go_quiet (fail)
        go_wp2_with fail
        go_ret
        exact ⟨ret_int (by (try simp only [wrap_u16H]); omega), _, rfl⟩
end Go.Proofs.YtglklbcohbeacaaGreat
