/- Contracts of a cartridge's sum, of layer 5 and of its reference. -/
import Derived.Test.YtafkgmlamggbdaaWalksA
namespace Go.Proofs.Ytafkgmlamggbdaa
open Go.RowKit
set_option linter.unusedSimpArgs false
set_option linter.unusedVariables false

theorem wrap_u16 (x : Int) : IntKind.u16.wrap x = x % 65536 := by simp [IntKind.wrap, IntKind.signed, IntKind.bits]
theorem sum_any (a : Option Addr) (len cap : Nat) (zs : List Int) (hl : len ≤ 9000000) (w : World) (h : IsRow .u8 w a len zs) :
    Calls Try.prog 15 #[.slice a len cap] w (fun e w' => e = .returned (.int .u16 (sumV zs len)) ∧ ∃ n, w' = w.drewN n) := by
  by_cases h6 : len < 336
  · rw [show sumV zs len = 0 by unfold sumV; rw [if_pos h6]]
    have q : decide ((len : Int) < 336) = true := by simp; omega
    clear h6 h
    go_enter Try.func15, Try.ntmps15
    go_wp2_with fail
    go_ret
    exact ⟨rfl, 0, rfl⟩
  · rw [show sumV zs len = (sm zs len - zs.getD 334 0 - zs.getD 335 0) % 65536 by unfold sumV; rw [if_neg h6]]
    have q : decide ((len : Int) < 336) = false := by simp; omega
    obtain ⟨b, off, rfl, hb, hc⟩ := h.at_ (by omega)
    have HC := hid_ hc
    have hlen : 336 ≤ len := by omega
    have HL := hid_ hlen
    obtain ⟨u, hu, hu0, hu1, cu⟩ := hc 334 (by omega)
    obtain ⟨v, hv, hv0, hv1, cv⟩ := hc 335 (by omega)
    obtain ⟨hS0, hS1⟩ := sm_bd zs len
    obtain ⟨S, hS⟩ : ∃ S, sm zs len = S := ⟨_, rfl⟩
    rw [hu, hv, hS]
    rw [hS] at hS0 hS1
    have HSS := hid_ hS
    have CU := hid_ cu
    have CV := hid_ cv
    clear hc h6 h hlen hu hv hS cu cv
    go_enter Try.func15, Try.ntmps15
    go_wp2_with fail
    go_loop [3, 11] (fun x i => ∃ k : Nat, k ≤ len ∧ i = .int .i64 k ∧ x = .int .u16 (sm zs k)) (fun _ i => len - (intOf i).toNat)
    case atStart => exact ⟨0, by omega, rfl, rfl⟩
    case round =>
      obtain ⟨k, hk, rfl, rfl⟩ := hrel
      by_cases hlt : k < len
      · obtain ⟨z, hz, hz0, hz1, cz⟩ := HC.out k (by omega)
        have i0 : (0 : Int) ≤ (k : Int) := by omega
        have i1 : (k : Int) < (len : Int) := by omega
        have HS : Hid (sm zs (k + 1) = (sm zs k + z) % 65536) := by show _ = _; simp only [sm]; rw [hz]
        obtain ⟨hb0, hb1⟩ := sm_bd zs k
        generalize sm zs k = x at *
        clear hz
        go_wp2_with fail
        go_round
        case rel => exact ⟨k + 1, by omega, by go_num, by rw [HS.out, wrap_u16]⟩
        case measure => simp [intOf]; omega
      · obtain rfl : k = len := by omega
        have hl := HL.out
        have cu := CU.out
        have cv := CV.out
        have j1 : (334 : Int) < (k : Int) := by omega
        have j2 : (335 : Int) < (k : Int) := by omega
        rw [HSS.out]
        clear hl
        go_wp2_with fail
        go_quiet (fail)
        go_wp2_with fail
        go_ret
        exact ⟨ret_int (by (try simp only [wrap_u16]); omega), _, rfl⟩
def rs (zs : List Int) : Nat → Int
  | 0 => 0
  | k + 1 => if k = 334 ∨ k = 335 then rs zs k else (rs zs k + zs.getD k 0) % 65536
theorem rs_bd (zs : List Int) : ∀ k, 0 ≤ rs zs k ∧ rs zs k ≤ 65535
  | 0 => by simp [rs]
  | k + 1 => by
    have := rs_bd zs k
    simp only [rs]
    split <;> omega
theorem rs_low (zs : List Int) : ∀ k, k ≤ 334 → rs zs k = sm zs k
  | 0, _ => rfl
  | k + 1, h => by
    have := rs_low zs k (by omega)
    simp only [rs, sm]
    rw [if_neg (by omega), this]
theorem rs_high (zs : List Int) : ∀ k, rs zs (336 + k) = (sm zs (336 + k) - zs.getD 334 0 - zs.getD 335 0) % 65536
  | 0 => by
    have e := rs_low zs 334 (by omega)
    have h1 : rs zs 336 = rs zs 334 := by
      show (if (335 = 334 ∨ 335 = 335) then rs zs 335 else _) = _
      rw [if_pos (by omega)]
      show (if (334 = 334 ∨ 334 = 335) then rs zs 334 else _) = _
      rw [if_pos (by omega)]
    have h2 : sm zs 336 = ((sm zs 334 + zs.getD 334 0) % 65536 + zs.getD 335 0) % 65536 := rfl
    have hb := sm_bd zs 334
    show rs zs 336 = (sm zs 336 - _ - _) % 65536
    rw [h1, h2, e]
    omega
  | k + 1 => by
    have ih := rs_high zs k
    have h1 : rs zs (336 + (k + 1)) = (rs zs (336 + k) + zs.getD (336 + k) 0) % 65536 := by
      rw [show 336 + (k + 1) = (336 + k) + 1 from rfl, rs, if_neg (by omega)]
    have h2 : sm zs (336 + (k + 1)) = (sm zs (336 + k) + zs.getD (336 + k) 0) % 65536 := rfl
    rw [h1, h2, ih]
    omega
set_option maxRecDepth 20000 in
theorem rsum_any (a : Option Addr) (len cap : Nat) (zs : List Int) (hl : len ≤ 9000000) (w : World) (h : IsRow .u8 w a len zs) :
    Calls Try.prog 16 #[.slice a len cap] w (Pure (.int .u16 (sumV zs len)) w) := by
  by_cases h6 : len < 336
  · rw [show sumV zs len = 0 by unfold sumV; rw [if_pos h6]]
    have q : decide ((len : Int) < 336) = true := by simp; omega
    clear h6 h
    go_enter Try.func16, Try.ntmps16
    go_wp2_with fail
    go_ret
    exact ⟨rfl, rfl⟩
  · have er : sumV zs len = rs zs len := by
      unfold sumV; rw [if_neg h6]
      obtain ⟨k, rfl⟩ : ∃ k, len = 336 + k := ⟨len - 336, by omega⟩
      exact (rs_high zs k).symm
    rw [er]
    have q : decide ((len : Int) < 336) = false := by simp; omega
    obtain ⟨b, off, rfl, hb, hc⟩ := h.at_ (by omega)
    have HC := hid_ hc
    clear hc h6 h er
    go_enter Try.func16, Try.ntmps16
    go_wp2_with fail
    go_loop [3, 10] (fun x i => ∃ k : Nat, k ≤ len ∧ i = .int .i64 k ∧ x = .int .i64 (rs zs k)) (fun _ i => len - (intOf i).toNat)
    case atStart => exact ⟨0, by omega, rfl, rfl⟩
    case round =>
      obtain ⟨k, hk, rfl, rfl⟩ := hrel
      by_cases hlt : k < len
      · obtain ⟨z, hz, hz0, hz1, cz⟩ := HC.out k (by omega)
        have i0 : (0 : Int) ≤ (k : Int) := by omega
        have i1 : (k : Int) < (len : Int) := by omega
        have HS : Hid (rs zs (k + 1) = if k = 334 ∨ k = 335 then rs zs k else (rs zs k + z) % 65536) := by show _ = _; simp only [rs]; rw [hz]
        obtain ⟨hb0, hb1⟩ := rs_bd zs k
        generalize rs zs k = x at *
        clear hz
        by_cases h4 : k = 334
        · subst h4
          have HS2 : Hid (rs zs 335 = x) := HS.out
          have i1' : (334 : Int) < (len : Int) := by omega
          clear HS i0 i1
          go_wp2_with fail
          go_round
          case rel => exact ⟨335, by omega, by go_num, by rw [HS2.out]⟩
          case measure => simp [intOf]; omega
        · by_cases h5 : k = 335
          · subst h5
            have HS2 : Hid (rs zs 336 = x) := HS.out
            have i1' : (335 : Int) < (len : Int) := by omega
            clear HS i0 i1 h4
            go_wp2_with fail
            go_round
            case rel => exact ⟨336, by omega, by go_num, by rw [HS2.out]⟩
            case measure => simp [intOf]; omega
          · have d4 : ¬ (k : Int) = 334 := by omega
            have d5 : ¬ (k : Int) = 335 := by omega
            have d6 : ¬ k = 334 := by omega
            have d7 : ¬ k = 335 := by omega
            have e4 : ((k : Int) == 334) = false := by simp [d4]
            have e5 : ((k : Int) == 335) = false := by simp [d5]
            have e6 : ((k : Int) != 334) = true := by simp [d4]
            have e7 : ((k : Int) != 335) = true := by simp [d5]
            have HS2 : Hid (rs zs (k + 1) = (x + z) % 65536) := by show _ = _; rw [HS.out, if_neg (by omega)]
            clear HS h4 h5
            go_wp2_with fail
            go_round
            case rel => exact ⟨k + 1, by omega, by go_num, by rw [HS2.out]⟩
            case measure => simp [intOf]; omega
      · obtain rfl : k = len := by omega
        obtain ⟨hb0, hb1⟩ := rs_bd zs k
        go_wp2_with fail
        go_ret
        exact ⟨ret_int (by omega), rfl⟩
end Go.Proofs.Ytafkgmlamggbdaa
