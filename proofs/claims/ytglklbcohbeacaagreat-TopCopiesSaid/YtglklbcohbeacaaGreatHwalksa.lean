/- Contracts of a header's check and sum, of layer 5 and of its reference. -/
import Derived.Test.YtglklbcohbeacaaGreatMach
import Derived.Test.YtglklbcohbeacaaGreatTail2
namespace Go.Proofs.YtglklbcohbeacaaGreat
open Go.RowKit
set_option linter.unusedSimpArgs false
set_option linter.unusedVariables false

theorem IsRow.at_ {w : World} {a : Option Addr} {len : Nat} {zs : List Int} (h : IsRow .u8 w a len zs) (h0 : 0 < len) :
    ∃ b off, a = some ⟨b, off, none⟩ ∧ b < w.heap.size ∧ ∀ i, i < len → ∃ x : Int, zs.getD i 0 = x ∧ 0 ≤ x ∧ x ≤ 255 ∧ w.cell? ⟨b, off + i, none⟩ = some (.int .u8 x) := by
  obtain ⟨hl, hw, hc⟩ := h
  obtain ⟨b, off, ha, hb, hcell⟩ := hc h0
  refine ⟨b, off, ha, hb, fun i hi => ?_⟩
  have hm : zs.getD i 0 ∈ zs := by
    rw [List.getD_eq_getElem?_getD, List.getElem?_eq_getElem (by omega)]
    exact List.getElem_mem _
  have hwf := hw _ hm
  have hb2 : 0 ≤ zs.getD i 0 ∧ zs.getD i 0 ≤ 255 := by simpa [Lit.wf, IntKind.min, IntKind.max, IntKind.signed, IntKind.bits] using hwf
  exact ⟨_, rfl, hb2.1, hb2.2, hcell i hi⟩
/-- The check of a header, so many bytes far. -/
def chk (zs : List Int) : Nat → Int
  | 0 => 0
  | k + 1 => (chk zs k - (zs.getD (308 + k) 0 + 1)) % 256
theorem chk_bd (zs : List Int) : ∀ k, 0 ≤ chk zs k ∧ chk zs k ≤ 255
  | 0 => by simp [chk]
  | k + 1 => by simp only [chk]; omega
def checkV (zs : List Int) (len : Nat) : Int := if len < 336 then 0 else chk zs 25
/-- The sum of a cartridge's bytes, so many bytes far. -/
def sm (zs : List Int) : Nat → Int
  | 0 => 0
  | k + 1 => (sm zs k + zs.getD k 0) % 65536
theorem sm_bd (zs : List Int) : ∀ k, 0 ≤ sm zs k ∧ sm zs k ≤ 65535
  | 0 => by simp [sm]
  | k + 1 => by simp only [sm]; omega
def sumVH (zs : List Int) (len : Nat) : Int := if len < 336 then 0 else (sm zs len - zs.getD 334 0 - zs.getD 335 0) % 65536

theorem check_any (a : Option Addr) (len cap : Nat) (zs : List Int) (hcap : len ≤ cap) (hl : len ≤ 9000000) (w : World) (h : IsRow .u8 w a len zs) :
    Calls Tryz.prog 49 #[.slice a len cap] w (Pure (.int .u8 (checkV zs len)) w) := by
  by_cases h6 : len < 336
  · rw [show checkV zs len = 0 by unfold checkV; rw [if_pos h6]]
    have q : decide ((len : Int) < 336) = true := by simp; omega
    clear h6 h
    go_enter Tryz.func49, Tryz.ntmps49
    go_wp2_with fail
    go_ret
    exact ⟨rfl, rfl⟩
  · rw [show checkV zs len = chk zs 25 by unfold checkV; rw [if_neg h6]]
    have q : decide ((len : Int) < 336) = false := by simp; omega
    obtain ⟨b, off, rfl, hb, hc⟩ := h.at_ (by omega)
    have HC := hid_ hc
    have c1 : (333 : Int) ≤ (cap : Int) := by omega
    have c2 : ¬ cap = 308 := by omega
    have hlen : 336 ≤ len := by omega
    have HL := hid_ hlen
    clear hc h6 h hlen
    go_enter Tryz.func49, Tryz.ntmps49
    go_wp2_with fail
    go_loop [3, 12] (fun x i => ∃ k : Nat, k ≤ 25 ∧ i = .int .i64 k ∧ x = .int .u8 (chk zs k)) (fun _ i => 25 - (intOf i).toNat)
    case atStart => exact ⟨0, by omega, rfl, rfl⟩
    case round =>
      obtain ⟨k, hk, rfl, rfl⟩ := hrel
      by_cases hlt : k < 25
      · have hl := HL.out
        obtain ⟨z, hz, hz0, hz1, cz⟩ := HC.out (308 + k) (by omega)
        clear hl
        have i0 : (0 : Int) ≤ (k : Int) := by omega
        have i1 : (k : Int) < 25 := by omega
        have cz' : w.cell? ⟨b, off + 308 + k, none⟩ = some (.int .u8 z) := by rw [Nat.add_assoc]; exact cz
        have HS : Hid (chk zs (k + 1) = (chk zs k - (z + 1)) % 256) := by show _ = _; simp only [chk]; rw [hz]
        obtain ⟨hb0, hb1⟩ := chk_bd zs k
        generalize chk zs k = x at *
        clear cz hz
        go_wp2_with fail
        go_round
        case rel => exact ⟨k + 1, by omega, by go_num, by rw [HS.out]; exact congrArg _ (by omega)⟩
        case measure => simp [intOf]; omega
      · obtain rfl : k = 25 := by omega
        go_wp2_with fail
        go_ret
        exact ⟨rfl, rfl⟩
theorem rcheck_any (a : Option Addr) (len cap : Nat) (zs : List Int) (hl : len ≤ 9000000) (w : World) (h : IsRow .u8 w a len zs) :
    Calls Tryz.prog 31 #[.slice a len cap] w (Pure (.int .u8 (checkV zs len)) w) := by
  by_cases h6 : len < 336
  · rw [show checkV zs len = 0 by unfold checkV; rw [if_pos h6]]
    have q : decide ((len : Int) < 336) = true := by simp; omega
    clear h6 h
    go_enter Tryz.func31, Tryz.ntmps31
    go_wp2_with fail
    go_ret
    exact ⟨rfl, rfl⟩
  · rw [show checkV zs len = chk zs 25 by unfold checkV; rw [if_neg h6]]
    have q : decide ((len : Int) < 336) = false := by simp; omega
    obtain ⟨b, off, rfl, hb, hc⟩ := h.at_ (by omega)
    have HC := hid_ hc
    have hlen : 336 ≤ len := by omega
    have HL := hid_ hlen
    clear hc h6 h hlen
    go_enter Tryz.func31, Tryz.ntmps31
    go_wp2_with fail
    go_loop [3, 4] (fun x i => ∃ k : Nat, k ≤ 25 ∧ i = .int .i64 (308 + (k : Int)) ∧ x = .int .i64 (chk zs k)) (fun _ i => (333 - (intOf i)).toNat)
    case atStart => exact ⟨0, by omega, rfl, rfl⟩
    case round =>
      obtain ⟨k, hk, rfl, rfl⟩ := hrel
      by_cases hlt : k < 25
      · have hl := HL.out
        obtain ⟨z, hz, hz0, hz1, cz⟩ := HC.out (308 + k) (by omega)
        have i0 : (0 : Int) ≤ (k : Int) := by omega
        have i1 : (308 : Int) + (k : Int) < (len : Int) := by omega
        have i2 : (308 : Int) + (k : Int) ≤ 332 := by omega
        have HS : Hid (chk zs (k + 1) = (chk zs k - (z + 1)) % 256) := by show _ = _; simp only [chk]; rw [hz]
        obtain ⟨hb0, hb1⟩ := chk_bd zs k
        generalize chk zs k = x at *
        clear hz hl
        go_wp2_with fail
        go_round
        case rel => exact ⟨k + 1, by omega, by go_num, by rw [HS.out]; exact congrArg _ (by omega)⟩
        case measure => simp [intOf]; omega
      · obtain rfl : k = 25 := by omega
        obtain ⟨hb0, hb1⟩ := chk_bd zs 25
        go_wp2_with fail
        go_ret
        exact ⟨ret_int (by omega), rfl⟩
end Go.Proofs.YtglklbcohbeacaaGreat
