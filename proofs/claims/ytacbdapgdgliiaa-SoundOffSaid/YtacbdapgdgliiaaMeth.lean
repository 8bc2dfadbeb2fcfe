/- Contracts of lengths and levels of a board. -/
import Derived.Test.YtacbdapgdgliiaaLeaf
namespace Go.Proofs.Ytacbdapgdgliiaa
open Go.RowKit
set_option linter.unusedSimpArgs false
set_option linter.unusedVariables false

def lenV (r : Int) (v : Vc) : Vc := if r / 64 % 2 = 0 ∨ v.len = 0 then v else { v with len := v.len - 1, on := v.on && decide (1 < v.len) }
def levV (r : Int) (v : Vc) : Vc := if r % 8 = 0 then v else if 0 < v.wait - 1 then { v with wait := v.wait - 1 } else { v with wait := r % 8, lev := if r / 8 % 2 = 1 then (if 15 < v.lev + 1 then 15 else v.lev + 1) else (if v.lev - 1 < 0 then 0 else v.lev - 1) }
def lenTo (b : Bd) : Nat → Bd
  | 0 => b
  | 1 => { b with v0 := lenV (b.reg 4) b.v0 }
  | 2 => { b with v0 := lenV (b.reg 4) b.v0, v1 := lenV (b.reg 9) b.v1 }
  | 3 => { b with v0 := lenV (b.reg 4) b.v0, v1 := lenV (b.reg 9) b.v1, v2 := lenV (b.reg 14) b.v2 }
  | _ => { b with v0 := lenV (b.reg 4) b.v0, v1 := lenV (b.reg 9) b.v1, v2 := lenV (b.reg 14) b.v2, v3 := lenV (b.reg 19) b.v3 }
abbrev lengthsB (b : Bd) : Bd := lenTo b 4
def levTo (b : Bd) : Nat → Bd
  | 0 => b
  | 1 => { b with v0 := levV (b.reg 2) b.v0 }
  | 2 => { b with v0 := levV (b.reg 2) b.v0, v1 := levV (b.reg 7) b.v1 }
  | 3 => { b with v0 := levV (b.reg 2) b.v0, v1 := levV (b.reg 7) b.v1 }
  | _ => { b with v0 := levV (b.reg 2) b.v0, v1 := levV (b.reg 7) b.v1, v3 := levV (b.reg 17) b.v3 }
abbrev levelsB (b : Bd) : Bd := levTo b 4
theorem lenTo_regs (b : Bd) (k : Nat) : (lenTo b k).regs = b.regs := by
  match k with
  | 0 => rfl
  | 1 => rfl
  | 2 => rfl
  | 3 => rfl
  | _ + 4 => rfl
theorem levTo_regs (b : Bd) (k : Nat) : (levTo b k).regs = b.regs := by
  match k with
  | 0 => rfl
  | 1 => rfl
  | 2 => rfl
  | 3 => rfl
  | _ + 4 => rfl
theorem and64 (a : Int) (h : 0 ≤ a) (h' : a ≤ 255) : (bits .and .u8 a 64 == 0) = decide (a / 64 % 2 = 0) :=
  upto (P := fun a => (bits .and .u8 a 64 == 0) = decide (a / 64 % 2 = 0)) (by decide +kernel) a h h'
theorem and7 (a : Int) (h : 0 ≤ a) (h' : a ≤ 255) : bits .and .u8 a 7 = a % 8 :=
  upto (P := fun a => bits .and .u8 a 7 = a % 8) (by decide +kernel) a h h'
theorem voice_bd {b : Bd} (hb : b.Ok) : (0 ≤ b.v0.len ∧ b.v0.len ≤ 256) ∧ (0 ≤ b.v1.len ∧ b.v1.len ≤ 256) ∧ (0 ≤ b.v2.len ∧ b.v2.len ≤ 256) ∧ (0 ≤ b.v3.len ∧ b.v3.len ≤ 256) := by
  obtain ⟨a, c, _⟩ := hb.v0
  obtain ⟨d, e, _⟩ := hb.v1
  obtain ⟨f, g, _⟩ := hb.v2
  obtain ⟨h, i, _⟩ := hb.v3
  omega

set_option maxRecDepth 20000 in
set_option maxHeartbeats 4000000 in
theorem lengths_any (b : Bd) (hb : b.Ok) (g : Nat) (w : World) (hB : Blk w g 29 (enc b)) :
    Calls Try.prog 19 #[.pointer (some ⟨g, 0, none⟩)] w (On g (lengthsB b) (.tuple #[]) w) := by
  have HB := hid_ hB
  have HO := hid_ hb
  clear hB
  go_enter Try.func19, Try.ntmps19
  go_wp2_with fail
  go_loopw [4] (fun i wr => ∃ k : Nat, k ≤ 4 ∧ i = .int .i64 k ∧ Hid (Blk wr g 29 (enc (lenTo b k))) ∧ Hid (Only g w wr)) (fun i _ => 4 - (intOf i).toNat)
  case atStart => exact ⟨0, by omega, rfl, HB, Only.refl g w⟩
  case round =>
    obtain ⟨k, hk, rfl, HBk, HW⟩ := hrel
    by_cases h4 : k = 4
    · subst h4
      go_wp2_with fail
      exact bodyPost_ret (v := .tuple #[]) (by simp [results, Try.results19, go_sem]) rfl ⟨rfl, HBk.out, HW.out⟩
    · have hr : (lenTo b k).regs.length = 48 := by rw [lenTo_regs]; exact HO.out.regs
      obtain rfl | rfl | rfl | rfl : k = 0 ∨ k = 1 ∨ k = 2 ∨ k = 3 := by omega
      · have cr : wr.cell? ⟨g, 4, none⟩ = some (.int .u8 (b.reg 4)) := HBk.out.ar hr 4 (by omega)
        have con : wr.cell? ⟨g, 51, none⟩ = some (.bool b.v0.on) := HBk.out.a51 hr
        have cln : wr.cell? ⟨g, 52, none⟩ = some (.int .i64 b.v0.len) := HBk.out.a52 hr
        have fon := HBk.out.frozen 51
        have fln := HBk.out.frozen 52
        have hg := HBk.out.lt
        have HR := hid_ hr
        have e1 := and64 (b.reg 4) (HO.out.byte 4).1 (HO.out.byte 4).2
        obtain ⟨l0, l1⟩ : 0 ≤ b.v0.len ∧ b.v0.len ≤ 256 := (voice_bd HO.out).1
        clear hr hk h4
        by_cases hc : b.reg 4 / 64 % 2 = 0
        · have HS : Hid (lenV (b.reg 4) b.v0 = b.v0) := by unfold Hid lenV; rw [if_pos (.inl hc)]
          have e2 : decide (b.reg 4 / 64 % 2 = 0) = true := by simp [hc]
          go_wp2
          go_roundw
          case rel => exact ⟨1, by omega, rfl, hid_ (by simp only [lenTo, HS.out]; exact HBk.out), HW⟩
          case measure => simp [intOf]
        · have e2 : decide (b.reg 4 / 64 % 2 = 0) = false := by simp [hc]
          by_cases hl : b.v0.len = 0
          · have HS : Hid (lenV (b.reg 4) b.v0 = b.v0) := by unfold Hid lenV; rw [if_pos (.inr hl)]
            rw [hl] at cln
            go_wp2
            go_roundw
            case rel => exact ⟨1, by omega, rfl, hid_ (by simp only [lenTo, HS.out]; exact HBk.out), HW⟩
            case measure => simp [intOf]
          · have HS : Hid (lenV (b.reg 4) b.v0 = { b.v0 with len := b.v0.len - 1, on := b.v0.on && decide (1 < b.v0.len) }) := by unfold Hid lenV; rw [if_neg (by omega)]
            have e3 : (b.v0.len == 0) = false := by simp [hl]
            cases hon : b.v0.on with
            | true =>
              rw [hon] at con
              go_wp2
              go_roundw
              case rel => exact ⟨1, by omega, rfl, hid_ (by simp only [lenTo, HS.out, hon, Bool.true_and]; exact (HBk.out.s52 HR.out (b.v0.len - 1)).s51 HR.out (decide (1 < b.v0.len))), hid_ ((HW.out.step _).step _)⟩
              case measure => simp [intOf]
            | false =>
              rw [hon] at con
              go_wp2
              go_roundw
              case rel => exact ⟨1, by omega, rfl, hid_ (by simp only [lenTo, HS.out, hon, Bool.false_and]; exact (HBk.out.s52 HR.out (b.v0.len - 1)).s51 HR.out false), hid_ ((HW.out.step _).step _)⟩
              case measure => simp [intOf]
      · have cr : wr.cell? ⟨g, 9, none⟩ = some (.int .u8 (b.reg 9)) := HBk.out.ar hr 9 (by omega)
        have con : wr.cell? ⟨g, 55, none⟩ = some (.bool b.v1.on) := HBk.out.a55 hr
        have cln : wr.cell? ⟨g, 56, none⟩ = some (.int .i64 b.v1.len) := HBk.out.a56 hr
        have fon := HBk.out.frozen 55
        have fln := HBk.out.frozen 56
        have hg := HBk.out.lt
        have HR := hid_ hr
        have e1 := and64 (b.reg 9) (HO.out.byte 9).1 (HO.out.byte 9).2
        obtain ⟨l0, l1⟩ : 0 ≤ b.v1.len ∧ b.v1.len ≤ 256 := (voice_bd HO.out).2.1
        clear hr hk h4
        by_cases hc : b.reg 9 / 64 % 2 = 0
        · have HS : Hid (lenV (b.reg 9) b.v1 = b.v1) := by unfold Hid lenV; rw [if_pos (.inl hc)]
          have e2 : decide (b.reg 9 / 64 % 2 = 0) = true := by simp [hc]
          go_wp2
          go_roundw
          case rel => exact ⟨2, by omega, rfl, hid_ (by simp only [lenTo, HS.out]; exact HBk.out), HW⟩
          case measure => simp [intOf]
        · have e2 : decide (b.reg 9 / 64 % 2 = 0) = false := by simp [hc]
          by_cases hl : b.v1.len = 0
          · have HS : Hid (lenV (b.reg 9) b.v1 = b.v1) := by unfold Hid lenV; rw [if_pos (.inr hl)]
            rw [hl] at cln
            go_wp2
            go_roundw
            case rel => exact ⟨2, by omega, rfl, hid_ (by simp only [lenTo, HS.out]; exact HBk.out), HW⟩
            case measure => simp [intOf]
          · have HS : Hid (lenV (b.reg 9) b.v1 = { b.v1 with len := b.v1.len - 1, on := b.v1.on && decide (1 < b.v1.len) }) := by unfold Hid lenV; rw [if_neg (by omega)]
            have e3 : (b.v1.len == 0) = false := by simp [hl]
            cases hon : b.v1.on with
            | true =>
              rw [hon] at con
              go_wp2
              go_roundw
              case rel => exact ⟨2, by omega, rfl, hid_ (by simp only [lenTo, HS.out, hon, Bool.true_and]; exact (HBk.out.s56 HR.out (b.v1.len - 1)).s55 HR.out (decide (1 < b.v1.len))), hid_ ((HW.out.step _).step _)⟩
              case measure => simp [intOf]
            | false =>
              rw [hon] at con
              go_wp2
              go_roundw
              case rel => exact ⟨2, by omega, rfl, hid_ (by simp only [lenTo, HS.out, hon, Bool.false_and]; exact (HBk.out.s56 HR.out (b.v1.len - 1)).s55 HR.out false), hid_ ((HW.out.step _).step _)⟩
              case measure => simp [intOf]
      · have cr : wr.cell? ⟨g, 14, none⟩ = some (.int .u8 (b.reg 14)) := HBk.out.ar hr 14 (by omega)
        have con : wr.cell? ⟨g, 59, none⟩ = some (.bool b.v2.on) := HBk.out.a59 hr
        have cln : wr.cell? ⟨g, 60, none⟩ = some (.int .i64 b.v2.len) := HBk.out.a60 hr
        have fon := HBk.out.frozen 59
        have fln := HBk.out.frozen 60
        have hg := HBk.out.lt
        have HR := hid_ hr
        have e1 := and64 (b.reg 14) (HO.out.byte 14).1 (HO.out.byte 14).2
        obtain ⟨l0, l1⟩ : 0 ≤ b.v2.len ∧ b.v2.len ≤ 256 := (voice_bd HO.out).2.2.1
        clear hr hk h4
        by_cases hc : b.reg 14 / 64 % 2 = 0
        · have HS : Hid (lenV (b.reg 14) b.v2 = b.v2) := by unfold Hid lenV; rw [if_pos (.inl hc)]
          have e2 : decide (b.reg 14 / 64 % 2 = 0) = true := by simp [hc]
          go_wp2
          go_roundw
          case rel => exact ⟨3, by omega, rfl, hid_ (by simp only [lenTo, HS.out]; exact HBk.out), HW⟩
          case measure => simp [intOf]
        · have e2 : decide (b.reg 14 / 64 % 2 = 0) = false := by simp [hc]
          by_cases hl : b.v2.len = 0
          · have HS : Hid (lenV (b.reg 14) b.v2 = b.v2) := by unfold Hid lenV; rw [if_pos (.inr hl)]
            rw [hl] at cln
            go_wp2
            go_roundw
            case rel => exact ⟨3, by omega, rfl, hid_ (by simp only [lenTo, HS.out]; exact HBk.out), HW⟩
            case measure => simp [intOf]
          · have HS : Hid (lenV (b.reg 14) b.v2 = { b.v2 with len := b.v2.len - 1, on := b.v2.on && decide (1 < b.v2.len) }) := by unfold Hid lenV; rw [if_neg (by omega)]
            have e3 : (b.v2.len == 0) = false := by simp [hl]
            cases hon : b.v2.on with
            | true =>
              rw [hon] at con
              go_wp2
              go_roundw
              case rel => exact ⟨3, by omega, rfl, hid_ (by simp only [lenTo, HS.out, hon, Bool.true_and]; exact (HBk.out.s60 HR.out (b.v2.len - 1)).s59 HR.out (decide (1 < b.v2.len))), hid_ ((HW.out.step _).step _)⟩
              case measure => simp [intOf]
            | false =>
              rw [hon] at con
              go_wp2
              go_roundw
              case rel => exact ⟨3, by omega, rfl, hid_ (by simp only [lenTo, HS.out, hon, Bool.false_and]; exact (HBk.out.s60 HR.out (b.v2.len - 1)).s59 HR.out false), hid_ ((HW.out.step _).step _)⟩
              case measure => simp [intOf]
      · have cr : wr.cell? ⟨g, 19, none⟩ = some (.int .u8 (b.reg 19)) := HBk.out.ar hr 19 (by omega)
        have con : wr.cell? ⟨g, 63, none⟩ = some (.bool b.v3.on) := HBk.out.a63 hr
        have cln : wr.cell? ⟨g, 64, none⟩ = some (.int .i64 b.v3.len) := HBk.out.a64 hr
        have fon := HBk.out.frozen 63
        have fln := HBk.out.frozen 64
        have hg := HBk.out.lt
        have HR := hid_ hr
        have e1 := and64 (b.reg 19) (HO.out.byte 19).1 (HO.out.byte 19).2
        obtain ⟨l0, l1⟩ : 0 ≤ b.v3.len ∧ b.v3.len ≤ 256 := (voice_bd HO.out).2.2.2
        clear hr hk h4
        by_cases hc : b.reg 19 / 64 % 2 = 0
        · have HS : Hid (lenV (b.reg 19) b.v3 = b.v3) := by unfold Hid lenV; rw [if_pos (.inl hc)]
          have e2 : decide (b.reg 19 / 64 % 2 = 0) = true := by simp [hc]
          go_wp2
          go_roundw
          case rel => exact ⟨4, by omega, rfl, hid_ (by simp only [lenTo, HS.out]; exact HBk.out), HW⟩
          case measure => simp [intOf]
        · have e2 : decide (b.reg 19 / 64 % 2 = 0) = false := by simp [hc]
          by_cases hl : b.v3.len = 0
          · have HS : Hid (lenV (b.reg 19) b.v3 = b.v3) := by unfold Hid lenV; rw [if_pos (.inr hl)]
            rw [hl] at cln
            go_wp2
            go_roundw
            case rel => exact ⟨4, by omega, rfl, hid_ (by simp only [lenTo, HS.out]; exact HBk.out), HW⟩
            case measure => simp [intOf]
          · have HS : Hid (lenV (b.reg 19) b.v3 = { b.v3 with len := b.v3.len - 1, on := b.v3.on && decide (1 < b.v3.len) }) := by unfold Hid lenV; rw [if_neg (by omega)]
            have e3 : (b.v3.len == 0) = false := by simp [hl]
            cases hon : b.v3.on with
            | true =>
              rw [hon] at con
              go_wp2
              go_roundw
              case rel => exact ⟨4, by omega, rfl, hid_ (by simp only [lenTo, HS.out, hon, Bool.true_and]; exact (HBk.out.s64 HR.out (b.v3.len - 1)).s63 HR.out (decide (1 < b.v3.len))), hid_ ((HW.out.step _).step _)⟩
              case measure => simp [intOf]
            | false =>
              rw [hon] at con
              go_wp2
              go_roundw
              case rel => exact ⟨4, by omega, rfl, hid_ (by simp only [lenTo, HS.out, hon, Bool.false_and]; exact (HBk.out.s64 HR.out (b.v3.len - 1)).s63 HR.out false), hid_ ((HW.out.step _).step _)⟩
              case measure => simp [intOf]
end Go.Proofs.Ytacbdapgdgliiaa
