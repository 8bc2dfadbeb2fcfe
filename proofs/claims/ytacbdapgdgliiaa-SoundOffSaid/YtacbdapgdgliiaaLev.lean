/- Contract of the levels of a board. -/
import Derived.Test.YtacbdapgdgliiaaMeth
namespace Go.Proofs.Ytacbdapgdgliiaa
open Go.RowKit
set_option linter.unusedSimpArgs false
set_option linter.unusedVariables false

theorem voice_bd2 {b : Bd} (hb : b.Ok) : (0 ≤ b.v0.lev ∧ b.v0.lev ≤ 15 ∧ 0 ≤ b.v0.wait ∧ b.v0.wait ≤ 7) ∧ (0 ≤ b.v1.lev ∧ b.v1.lev ≤ 15 ∧ 0 ≤ b.v1.wait ∧ b.v1.wait ≤ 7) ∧ (0 ≤ b.v3.lev ∧ b.v3.lev ≤ 15 ∧ 0 ≤ b.v3.wait ∧ b.v3.wait ≤ 7) := by
  obtain ⟨_, _, a⟩ := hb.v0
  obtain ⟨_, _, d⟩ := hb.v1
  obtain ⟨_, _, h⟩ := hb.v3
  exact ⟨a, d, h⟩
set_option maxRecDepth 20000 in
set_option maxHeartbeats 4000000 in
theorem levels_any (b : Bd) (hb : b.Ok) (g : Nat) (w : World) (hB : Blk w g 29 (enc b)) :
    Calls Try.prog 21 #[.pointer (some ⟨g, 0, none⟩)] w (On g (levelsB b) (.tuple #[]) w) := by
  have HB := hid_ hB
  have HO := hid_ hb
  clear hB
  go_enter Try.func21, Try.ntmps21
  go_wp2_with fail
  go_loopw [5] (fun i wr => ∃ k : Nat, k ≤ 4 ∧ i = .int .i64 k ∧ Hid (Blk wr g 29 (enc (levTo b k))) ∧ Hid (Only g w wr)) (fun i _ => 4 - (intOf i).toNat)
  case atStart => exact ⟨0, by omega, rfl, HB, Only.refl g w⟩
  case round =>
    obtain ⟨k, hk, rfl, HBk, HW⟩ := hrel
    by_cases h4 : k = 4
    · subst h4
      go_wp2_with fail
      exact bodyPost_ret (v := .tuple #[]) (by simp [results, Try.results21, go_sem]) rfl ⟨rfl, HBk.out, HW.out⟩
    · have hr : (levTo b k).regs.length = 48 := by rw [levTo_regs]; exact HO.out.regs
      obtain rfl | rfl | rfl | rfl : k = 0 ∨ k = 1 ∨ k = 2 ∨ k = 3 := by omega
      · have cr : wr.cell? ⟨g, 2, none⟩ = some (.int .u8 (b.reg 2)) := HBk.out.ar hr 2 (by omega)
        have hg := HBk.out.lt
        have HR := hid_ hr
        have e1 := and7 (b.reg 2) (HO.out.byte 2).1 (HO.out.byte 2).2
        have e8 := and8 (b.reg 2) (HO.out.byte 2).1 (HO.out.byte 2).2
        have e9 : wrap64 (b.reg 2 % 8) = b.reg 2 % 8 := wrap_small _ (by omega) (by omega)
        obtain ⟨l0, l1, t0, t1⟩ : 0 ≤ b.v0.lev ∧ b.v0.lev ≤ 15 ∧ 0 ≤ b.v0.wait ∧ b.v0.wait ≤ 7 := (voice_bd2 HO.out).1
        clear hr hk h4
        go_wp2_with fail
        go_quiet (fail)
        have HBq : Hid (Blk (wr.drewN nq) g 29 (enc (levTo b 0))) := HBk
        have HWq : Hid (Only g w (wr.drewN nq)) := HW.out.drewN nq
        have hgq : g < (wr.drewN nq).heap.size := hg
        clear HBk HW cr hg
        generalize wr.drewN nq = wq at *
        have cwt : wq.cell? ⟨g, 54, none⟩ = some (.int .i64 b.v0.wait) := HBq.out.a54 HR.out
        have clv : wq.cell? ⟨g, 53, none⟩ = some (.int .i64 b.v0.lev) := HBq.out.a53 HR.out
        have fwt := HBq.out.frozen 54
        have flv := HBq.out.frozen 53
        by_cases hc : b.reg 2 % 8 = 0
        · have HS : Hid (levV (b.reg 2) b.v0 = b.v0) := by unfold Hid levV; rw [if_pos hc]
          have e2 : (b.reg 2 % 8 == 0) = true := by simp [hc]
          go_wp2
          go_roundw
          case rel => exact ⟨1, by omega, rfl, hid_ (by simp only [levTo, HS.out]; exact HBq.out), HWq⟩
          case measure => simp [intOf]
        · have e2 : (b.reg 2 % 8 == 0) = false := by simp [hc]
          by_cases hw : 0 < b.v0.wait - 1
          · have HS : Hid (levV (b.reg 2) b.v0 = { b.v0 with wait := b.v0.wait - 1 }) := by unfold Hid levV; rw [if_neg hc, if_pos hw]
            go_wp2
            go_roundw
            case rel => exact ⟨1, by omega, rfl, hid_ (by simp only [levTo, HS.out]; exact HBq.out.s54 HR.out (b.v0.wait - 1)), hid_ (HWq.out.step _)⟩
            case measure => simp [intOf]
          · by_cases h8 : b.reg 2 / 8 % 2 = 1
            · have e3 : decide (b.reg 2 / 8 % 2 = 1) = true := by simp [h8]
              have HS : Hid (levV (b.reg 2) b.v0 = { b.v0 with wait := b.reg 2 % 8, lev := (if 15 < b.v0.lev + 1 then 15 else b.v0.lev + 1) }) := by unfold Hid levV; rw [if_neg hc, if_neg hw, if_pos h8]
              go_wp2
              go_roundw
              case rel => exact ⟨1, by omega, rfl, hid_ (by simp only [levTo, HS.out]; exact ((HBq.out.s54 HR.out (b.v0.wait - 1)).s54 HR.out (b.reg 2 % 8)).s53 HR.out (if 15 < b.v0.lev + 1 then 15 else b.v0.lev + 1)), hid_ (((HWq.out.step _).step _).step _)⟩
              case measure => simp [intOf]
            · have e3 : decide (b.reg 2 / 8 % 2 = 1) = false := by simp [h8]
              have HS : Hid (levV (b.reg 2) b.v0 = { b.v0 with wait := b.reg 2 % 8, lev := (if b.v0.lev - 1 < 0 then 0 else b.v0.lev - 1) }) := by unfold Hid levV; rw [if_neg hc, if_neg hw, if_neg h8]
              go_wp2
              go_roundw
              case rel => exact ⟨1, by omega, rfl, hid_ (by simp only [levTo, HS.out]; exact ((HBq.out.s54 HR.out (b.v0.wait - 1)).s54 HR.out (b.reg 2 % 8)).s53 HR.out (if b.v0.lev - 1 < 0 then 0 else b.v0.lev - 1)), hid_ (((HWq.out.step _).step _).step _)⟩
              case measure => simp [intOf]
      · have cr : wr.cell? ⟨g, 7, none⟩ = some (.int .u8 (b.reg 7)) := HBk.out.ar hr 7 (by omega)
        have hg := HBk.out.lt
        have HR := hid_ hr
        have e1 := and7 (b.reg 7) (HO.out.byte 7).1 (HO.out.byte 7).2
        have e8 := and8 (b.reg 7) (HO.out.byte 7).1 (HO.out.byte 7).2
        have e9 : wrap64 (b.reg 7 % 8) = b.reg 7 % 8 := wrap_small _ (by omega) (by omega)
        obtain ⟨l0, l1, t0, t1⟩ : 0 ≤ b.v1.lev ∧ b.v1.lev ≤ 15 ∧ 0 ≤ b.v1.wait ∧ b.v1.wait ≤ 7 := (voice_bd2 HO.out).2.1
        clear hr hk h4
        go_wp2_with fail
        go_quiet (fail)
        have HBq : Hid (Blk (wr.drewN nq) g 29 (enc (levTo b 1))) := HBk
        have HWq : Hid (Only g w (wr.drewN nq)) := HW.out.drewN nq
        have hgq : g < (wr.drewN nq).heap.size := hg
        clear HBk HW cr hg
        generalize wr.drewN nq = wq at *
        have cwt : wq.cell? ⟨g, 58, none⟩ = some (.int .i64 b.v1.wait) := HBq.out.a58 HR.out
        have clv : wq.cell? ⟨g, 57, none⟩ = some (.int .i64 b.v1.lev) := HBq.out.a57 HR.out
        have fwt := HBq.out.frozen 58
        have flv := HBq.out.frozen 57
        by_cases hc : b.reg 7 % 8 = 0
        · have HS : Hid (levV (b.reg 7) b.v1 = b.v1) := by unfold Hid levV; rw [if_pos hc]
          have e2 : (b.reg 7 % 8 == 0) = true := by simp [hc]
          go_wp2
          go_roundw
          case rel => exact ⟨2, by omega, rfl, hid_ (by simp only [levTo, HS.out]; exact HBq.out), HWq⟩
          case measure => simp [intOf]
        · have e2 : (b.reg 7 % 8 == 0) = false := by simp [hc]
          by_cases hw : 0 < b.v1.wait - 1
          · have HS : Hid (levV (b.reg 7) b.v1 = { b.v1 with wait := b.v1.wait - 1 }) := by unfold Hid levV; rw [if_neg hc, if_pos hw]
            go_wp2
            go_roundw
            case rel => exact ⟨2, by omega, rfl, hid_ (by simp only [levTo, HS.out]; exact HBq.out.s58 HR.out (b.v1.wait - 1)), hid_ (HWq.out.step _)⟩
            case measure => simp [intOf]
          · by_cases h8 : b.reg 7 / 8 % 2 = 1
            · have e3 : decide (b.reg 7 / 8 % 2 = 1) = true := by simp [h8]
              have HS : Hid (levV (b.reg 7) b.v1 = { b.v1 with wait := b.reg 7 % 8, lev := (if 15 < b.v1.lev + 1 then 15 else b.v1.lev + 1) }) := by unfold Hid levV; rw [if_neg hc, if_neg hw, if_pos h8]
              go_wp2
              go_roundw
              case rel => exact ⟨2, by omega, rfl, hid_ (by simp only [levTo, HS.out]; exact ((HBq.out.s58 HR.out (b.v1.wait - 1)).s58 HR.out (b.reg 7 % 8)).s57 HR.out (if 15 < b.v1.lev + 1 then 15 else b.v1.lev + 1)), hid_ (((HWq.out.step _).step _).step _)⟩
              case measure => simp [intOf]
            · have e3 : decide (b.reg 7 / 8 % 2 = 1) = false := by simp [h8]
              have HS : Hid (levV (b.reg 7) b.v1 = { b.v1 with wait := b.reg 7 % 8, lev := (if b.v1.lev - 1 < 0 then 0 else b.v1.lev - 1) }) := by unfold Hid levV; rw [if_neg hc, if_neg hw, if_neg h8]
              go_wp2
              go_roundw
              case rel => exact ⟨2, by omega, rfl, hid_ (by simp only [levTo, HS.out]; exact ((HBq.out.s58 HR.out (b.v1.wait - 1)).s58 HR.out (b.reg 7 % 8)).s57 HR.out (if b.v1.lev - 1 < 0 then 0 else b.v1.lev - 1)), hid_ (((HWq.out.step _).step _).step _)⟩
              case measure => simp [intOf]
      · have cr : wr.cell? ⟨g, 12, none⟩ = some (.int .u8 (b.reg 12)) := HBk.out.ar hr 12 (by omega)
        have hg := HBk.out.lt
        clear hr hk h4
        go_wp2_with fail
        go_quiet (fail)
        go_wp2
        go_roundw
        case rel => exact ⟨3, by omega, rfl, HBk, hid_ (HW.out.drewN _)⟩
        case measure => simp [intOf]
      · have cr : wr.cell? ⟨g, 17, none⟩ = some (.int .u8 (b.reg 17)) := HBk.out.ar hr 17 (by omega)
        have hg := HBk.out.lt
        have HR := hid_ hr
        have e1 := and7 (b.reg 17) (HO.out.byte 17).1 (HO.out.byte 17).2
        have e8 := and8 (b.reg 17) (HO.out.byte 17).1 (HO.out.byte 17).2
        have e9 : wrap64 (b.reg 17 % 8) = b.reg 17 % 8 := wrap_small _ (by omega) (by omega)
        obtain ⟨l0, l1, t0, t1⟩ : 0 ≤ b.v3.lev ∧ b.v3.lev ≤ 15 ∧ 0 ≤ b.v3.wait ∧ b.v3.wait ≤ 7 := (voice_bd2 HO.out).2.2
        clear hr hk h4
        go_wp2_with fail
        go_quiet (fail)
        have HBq : Hid (Blk (wr.drewN nq) g 29 (enc (levTo b 3))) := HBk
        have HWq : Hid (Only g w (wr.drewN nq)) := HW.out.drewN nq
        have hgq : g < (wr.drewN nq).heap.size := hg
        clear HBk HW cr hg
        generalize wr.drewN nq = wq at *
        have cwt : wq.cell? ⟨g, 66, none⟩ = some (.int .i64 b.v3.wait) := HBq.out.a66 HR.out
        have clv : wq.cell? ⟨g, 65, none⟩ = some (.int .i64 b.v3.lev) := HBq.out.a65 HR.out
        have fwt := HBq.out.frozen 66
        have flv := HBq.out.frozen 65
        by_cases hc : b.reg 17 % 8 = 0
        · have HS : Hid (levV (b.reg 17) b.v3 = b.v3) := by unfold Hid levV; rw [if_pos hc]
          have e2 : (b.reg 17 % 8 == 0) = true := by simp [hc]
          go_wp2
          go_roundw
          case rel => exact ⟨4, by omega, rfl, hid_ (by simp only [levTo, HS.out]; exact HBq.out), HWq⟩
          case measure => simp [intOf]
        · have e2 : (b.reg 17 % 8 == 0) = false := by simp [hc]
          by_cases hw : 0 < b.v3.wait - 1
          · have HS : Hid (levV (b.reg 17) b.v3 = { b.v3 with wait := b.v3.wait - 1 }) := by unfold Hid levV; rw [if_neg hc, if_pos hw]
            go_wp2
            go_roundw
            case rel => exact ⟨4, by omega, rfl, hid_ (by simp only [levTo, HS.out]; exact HBq.out.s66 HR.out (b.v3.wait - 1)), hid_ (HWq.out.step _)⟩
            case measure => simp [intOf]
          · by_cases h8 : b.reg 17 / 8 % 2 = 1
            · have e3 : decide (b.reg 17 / 8 % 2 = 1) = true := by simp [h8]
              have HS : Hid (levV (b.reg 17) b.v3 = { b.v3 with wait := b.reg 17 % 8, lev := (if 15 < b.v3.lev + 1 then 15 else b.v3.lev + 1) }) := by unfold Hid levV; rw [if_neg hc, if_neg hw, if_pos h8]
              go_wp2
              go_roundw
              case rel => exact ⟨4, by omega, rfl, hid_ (by simp only [levTo, HS.out]; exact ((HBq.out.s66 HR.out (b.v3.wait - 1)).s66 HR.out (b.reg 17 % 8)).s65 HR.out (if 15 < b.v3.lev + 1 then 15 else b.v3.lev + 1)), hid_ (((HWq.out.step _).step _).step _)⟩
              case measure => simp [intOf]
            · have e3 : decide (b.reg 17 / 8 % 2 = 1) = false := by simp [h8]
              have HS : Hid (levV (b.reg 17) b.v3 = { b.v3 with wait := b.reg 17 % 8, lev := (if b.v3.lev - 1 < 0 then 0 else b.v3.lev - 1) }) := by unfold Hid levV; rw [if_neg hc, if_neg hw, if_neg h8]
              go_wp2
              go_roundw
              case rel => exact ⟨4, by omega, rfl, hid_ (by simp only [levTo, HS.out]; exact ((HBq.out.s66 HR.out (b.v3.wait - 1)).s66 HR.out (b.reg 17 % 8)).s65 HR.out (if b.v3.lev - 1 < 0 then 0 else b.v3.lev - 1)), hid_ (((HWq.out.step _).step _).step _)⟩
              case measure => simp [intOf]
end Go.Proofs.Ytacbdapgdgliiaa
