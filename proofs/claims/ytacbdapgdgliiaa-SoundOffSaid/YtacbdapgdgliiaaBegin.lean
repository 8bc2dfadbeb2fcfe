/- Contract of a voice's begin. -/
import Derived.Test.YtacbdapgdgliiaaSlide
namespace Go.Proofs.Ytacbdapgdgliiaa
open Go.RowKit
set_option linter.unusedSimpArgs false
set_option linter.unusedVariables false

/-- A voice that begins. -/
def begV (ready : Bool) (how longest : Int) (v : Vc) : Vc := { on := ready, len := if v.len = 0 then longest else v.len, lev := how / 16, wait := how % 8 }
def begP (b : Bd) : Bd := { b with v0 := begV (readyB b 0) (b.reg 2) 64 b.v0, pitch := b.reg 3 + b.reg 4 % 8 * 256 }
def begS (b : Bd) : Bd := { waitB (begP b) with slides := decide (everyB b ≠ 0 ∨ byB b ≠ 0) }
def beginB (b : Bd) (v : Nat) : Bd :=
  match v with
  | 0 => if byB b = 0 then begS b else checkB (begS b)
  | 1 => { b with v1 := begV (readyB b 1) (b.reg 7) 64 b.v1 }
  | 2 => { b with v2 := begV (readyB b 2) (b.reg 12) 256 b.v2 }
  | _ => { b with v3 := begV (readyB b 3) (b.reg 17) 64 b.v3 }
theorem word_pitch (a c : Int) (h : 0 ≤ a) (h' : a ≤ 255) (hc : 0 ≤ c) (hc' : c ≤ 7) : bits .or .i64 a (c * 256) = a + c * 256 := by
  obtain ⟨k, rfl⟩ := Int.eq_ofNat_of_zero_le hc
  have : ∀ k : Nat, k < 8 → ∀ n : Nat, n < 256 → bits .or .i64 (n : Int) ((k : Int) * 256) = (n : Int) + (k : Int) * 256 := by decide +kernel
  obtain ⟨n, rfl⟩ := Int.eq_ofNat_of_zero_le h
  exact this k (by omega) n (by omega)
theorem any_or (a c : Int) (h : 0 ≤ a) (h' : a ≤ 7) (hc : 0 ≤ c) (hc' : c ≤ 7) : (bits .or .i64 a c != 0) = decide (a ≠ 0 ∨ c ≠ 0) := by
  obtain ⟨k, rfl⟩ := Int.eq_ofNat_of_zero_le hc
  have : ∀ k : Nat, k < 8 → ∀ n : Nat, n < 8 → (bits .or .i64 (n : Int) (k : Int) != 0) = decide ((n : Int) ≠ 0 ∨ (k : Int) ≠ 0) := by decide +kernel
  obtain ⟨n, rfl⟩ := Int.eq_ofNat_of_zero_le h
  exact this k (by omega) n (by omega)
theorem begP_okR {b : Bd} (h : b.OkR) : (begP b).OkR := by
  have h3 : 0 ≤ b.reg 3 ∧ b.reg 3 ≤ 255 := h.byte 3
  have h4 : 0 ≤ b.reg 4 ∧ b.reg 4 ≤ 255 := h.byte 4
  refine ⟨h.regs, h.byte, ?_, ?_⟩ <;> simp only [begP] <;> omega
theorem begS_okR {b : Bd} (h : b.OkR) : (begS b).OkR := ⟨(begP_okR h).regs, (begP_okR h).byte, (begP_okR h).pitch0, (begP_okR h).pitch1⟩


set_option maxRecDepth 20000 in
set_option maxHeartbeats 4000000 in
theorem begin_0 (b : Bd) (hb : b.OkR) (g : Nat) (w : World) (hB : Blk w g 29 (enc b)) :
    Calls Try.prog 17 #[.pointer (some ⟨g, 0, none⟩), .int .i64 0] w (On g (beginB b 0) (.tuple #[]) w) := by
  have cr : w.cell? ⟨g, 2, none⟩ = some (.int .u8 (b.reg 2)) := hB.ar hb.regs 2 (by omega)
  have hg := hB.lt
  have HB := hid_ hB
  have HO := hid_ hb
  clear hB hb
  go_enter Try.func17, Try.ntmps17
  go_wp2_with fail
  go_quiet (fail)
  have HB1 : Hid (Blk (w.drewN nq) g 29 (enc b)) := HB
  have HO1 : Hid (Only g w (w.drewN nq)) := (Only.refl g w).drewN nq
  generalize w.drewN nq = w1 at *
  clear HB cr hg
  go_wp2_with fail
  refine (ready_any b HO.out g 0 (by omega) _ HB1.out).mono ?_
  rintro e w2 ⟨rfl, rfl⟩
  have f51 := HB1.out.frozen 51
  have f52 := HB1.out.frozen 52
  have f53 := HB1.out.frozen 53
  have f54 := HB1.out.frozen 54
  have c51 := HB1.out.a51 HO.out.regs
  have c52 := HB1.out.a52 HO.out.regs
  have c53 := HB1.out.a53 HO.out.regs
  have c54 := HB1.out.a54 HO.out.regs
  have hg := HB1.out.lt
  have e1 := upto (P := fun a => bits .and .u8 a 7 = a % 8) (by decide +kernel) (b.reg 2) (HO.out.byte 2).1 (HO.out.byte 2).2
  obtain ⟨r0, r1⟩ : 0 ≤ b.reg 2 ∧ b.reg 2 ≤ 255 := HO.out.byte 2
  have e2 : wrap64 (b.reg 2 / 16) = b.reg 2 / 16 := wrap_small _ (by omega) (by omega)
  have e3 : wrap64 (b.reg 2 % 8) = b.reg 2 % 8 := wrap_small _ (by omega) (by omega)
  have HB2 := hid_ (((HB1.out.s51 HO.out.regs (readyB b 0)).s53 HO.out.regs (b.reg 2 / 16)).s54 HO.out.regs (b.reg 2 % 8))
  have HO2 := hid_ (((HO1.out.step (i := 51) (.bool (readyB b 0))).step (i := 53) (.int .i64 (b.reg 2 / 16))).step (i := 54) (.int .i64 (b.reg 2 % 8)))
  by_cases hl : b.v0.len = 0
  · rw [hl] at c52
    have HL := hid_ hl
    clear hl
    go_wp2_with fail
    refine (longest_any 0 (by omega) _).mono ?_
    rintro e w3 ⟨rfl, rfl⟩
    rw [show longestB 0 = 64 from rfl]
    have HB3 := hid_ (HB2.out.s52 HO.out.regs 64)
    have HO3 := hid_ (HO2.out.step (i := 52) (.int .i64 64))
    go_wp2_with fail
    have HBc : Hid (Blk ((((w1.setCell ⟨g, 51, none⟩ (.bool (readyB b 0))).setCell ⟨g, 53, none⟩ (.int .i64 (b.reg 2 / 16))).setCell ⟨g, 54, none⟩ (.int .i64 (b.reg 2 % 8))).setCell ⟨g, 52, none⟩ (.int .i64 64)) g 29 (enc { b with v0 := begV (readyB b 0) (b.reg 2) 64 b.v0 })) := by unfold begV; rw [if_pos HL.out]; exact HB3.out
    have HOc := HO3
    generalize (((w1.setCell ⟨g, 51, none⟩ (.bool (readyB b 0))).setCell ⟨g, 53, none⟩ (.int .i64 (b.reg 2 / 16))).setCell ⟨g, 54, none⟩ (.int .i64 (b.reg 2 % 8))).setCell ⟨g, 52, none⟩ (.int .i64 64) = wX at HBc HOc ⊢
    clear f51 f52 f53 f54 c51 c52 c53 c54 hg HB2 HO2 HB1 HO1
    have q3 : wX.cell? ⟨g, 3, none⟩ = some (.int .u8 (b.reg 3)) := HBc.out.ar HO.out.regs 3 (by omega)
    have q4 : wX.cell? ⟨g, 4, none⟩ = some (.int .u8 (b.reg 4)) := HBc.out.ar HO.out.regs 4 (by omega)
    have q67 := HBc.out.a67 HO.out.regs
    have f67 := HBc.out.frozen 67
    have hg := HBc.out.lt
    obtain ⟨m0, m1⟩ : 0 ≤ b.reg 3 ∧ b.reg 3 ≤ 255 := HO.out.byte 3
    obtain ⟨n0, n1⟩ : 0 ≤ b.reg 4 ∧ b.reg 4 ≤ 255 := HO.out.byte 4
    have e5 := upto (P := fun a => bits .and .u8 a 7 = a % 8) (by decide +kernel) (b.reg 4) n0 n1
    have e6 := word_pitch (b.reg 3) (b.reg 4 % 8) m0 m1 (by omega) (by omega)
    go_region
    have HB6 : Hid (Blk (wX.setCell ⟨g, 67, none⟩ (.int .i64 (b.reg 3 + b.reg 4 % 8 * 256))).drew g 29 (enc (begP b))) := HBc.out.s67 HO.out.regs _
    have HO6 : Hid (Only g w (wX.setCell ⟨g, 67, none⟩ (.int .i64 (b.reg 3 + b.reg 4 % 8 * 256))).drew) := (HOc.out.step _).drewN 1
    generalize (wX.setCell ⟨g, 67, none⟩ (.int .i64 (b.reg 3 + b.reg 4 % 8 * 256))).drew = w6 at *
    clear HBc HOc q3 q4 q67 f67 hg e5 e6
    have HRP := hid_ (begP_okR HO.out)
    go_wp2_with fail
    refine (wait_any _ HRP.out g _ HB6.out).mono ?_
    rintro e w7 ⟨rfl, hB7, hO7⟩
    have HB7 := hid_ hB7
    have HO7 := hid_ (HO6.out.trans hO7)
    clear HB6 HO6 hB7 hO7
    have HRW : Hid (waitB (begP b)).OkR := ⟨HRP.out.regs, HRP.out.byte, HRP.out.pitch0, HRP.out.pitch1⟩
    go_wp2_with fail
    refine (every_any _ HRW.out g _ HB7.out).mono ?_
    rintro e w8 ⟨rfl, rfl⟩
    go_wp2_with fail
    refine (by_any _ HRW.out g _ HB7.out).mono ?_
    rintro e w8 ⟨rfl, rfl⟩
    rw [show everyB (waitB (begP b)) = everyB b from rfl, show byB (waitB (begP b)) = byB b from rfl]
    have e7 := any_or (everyB b) (byB b) (every_bd b).1 (every_bd b).2 (by_bd b).1 (by_bd b).2
    have c69 := HB7.out.a69 HRW.out.regs
    have f69 := HB7.out.frozen 69
    have hg := HB7.out.lt
    have HB8 : Hid (Blk (w7.setCell ⟨g, 69, none⟩ (.bool (decide (everyB b ≠ 0 ∨ byB b ≠ 0)))) g 29 (enc (begS b))) := HB7.out.s69 HRW.out.regs _
    have HO8 := hid_ (HO7.out.step (i := 69) (.bool (decide (everyB b ≠ 0 ∨ byB b ≠ 0))))
    have HRS := hid_ (begS_okR HO.out)
    generalize decide (everyB b ≠ 0 ∨ byB b ≠ 0) = sl at *
    go_wp2_with fail
    refine (by_any _ HRS.out g _ HB8.out).mono ?_
    rintro e w9 ⟨rfl, rfl⟩
    rw [show byB (begS b) = byB b from rfl]
    by_cases hy : byB b = 0
    · have HS : Hid (beginB b 0 = begS b) := by unfold beginB; rw [if_pos hy]; rfl
      rw [hy]
      go_wp2
      exact bodyPost_ret (v := .tuple #[]) (by simp [results, Try.results17, go_sem]) rfl ⟨rfl, by rw [HS.out]; exact HB8.out, HO8.out⟩
    · have HS : Hid (beginB b 0 = checkB (begS b)) := by unfold beginB; rw [if_neg hy]; rfl
      have hy' : (byB b != 0) = true := by simp [hy]
      go_wp2_with fail
      refine (check_any _ HRS.out g _ HB8.out).mono ?_
      rintro e w9 ⟨rfl, hB9, hO9⟩
      go_wp2_with fail
      exact bodyPost_ret (v := .tuple #[]) (by simp [results, Try.results17, go_sem]) rfl ⟨rfl, by rw [HS.out]; exact hB9, HO8.out.trans hO9⟩
  · have e4 : (b.v0.len == 0) = false := by simp [hl]
    have HL := hid_ hl
    clear hl
    go_wp2_with fail
    have HBc : Hid (Blk (((w1.setCell ⟨g, 51, none⟩ (.bool (readyB b 0))).setCell ⟨g, 53, none⟩ (.int .i64 (b.reg 2 / 16))).setCell ⟨g, 54, none⟩ (.int .i64 (b.reg 2 % 8))) g 29 (enc { b with v0 := begV (readyB b 0) (b.reg 2) 64 b.v0 })) := by unfold begV; rw [if_neg HL.out]; exact HB2.out
    have HOc := HO2
    generalize ((w1.setCell ⟨g, 51, none⟩ (.bool (readyB b 0))).setCell ⟨g, 53, none⟩ (.int .i64 (b.reg 2 / 16))).setCell ⟨g, 54, none⟩ (.int .i64 (b.reg 2 % 8)) = wX at HBc HOc ⊢
    clear f51 f52 f53 f54 c51 c52 c53 c54 hg HB2 HO2 HB1 HO1
    have q3 : wX.cell? ⟨g, 3, none⟩ = some (.int .u8 (b.reg 3)) := HBc.out.ar HO.out.regs 3 (by omega)
    have q4 : wX.cell? ⟨g, 4, none⟩ = some (.int .u8 (b.reg 4)) := HBc.out.ar HO.out.regs 4 (by omega)
    have q67 := HBc.out.a67 HO.out.regs
    have f67 := HBc.out.frozen 67
    have hg := HBc.out.lt
    obtain ⟨m0, m1⟩ : 0 ≤ b.reg 3 ∧ b.reg 3 ≤ 255 := HO.out.byte 3
    obtain ⟨n0, n1⟩ : 0 ≤ b.reg 4 ∧ b.reg 4 ≤ 255 := HO.out.byte 4
    have e5 := upto (P := fun a => bits .and .u8 a 7 = a % 8) (by decide +kernel) (b.reg 4) n0 n1
    have e6 := word_pitch (b.reg 3) (b.reg 4 % 8) m0 m1 (by omega) (by omega)
    go_region
    have HB6 : Hid (Blk (wX.setCell ⟨g, 67, none⟩ (.int .i64 (b.reg 3 + b.reg 4 % 8 * 256))).drew g 29 (enc (begP b))) := HBc.out.s67 HO.out.regs _
    have HO6 : Hid (Only g w (wX.setCell ⟨g, 67, none⟩ (.int .i64 (b.reg 3 + b.reg 4 % 8 * 256))).drew) := (HOc.out.step _).drewN 1
    generalize (wX.setCell ⟨g, 67, none⟩ (.int .i64 (b.reg 3 + b.reg 4 % 8 * 256))).drew = w6 at *
    clear HBc HOc q3 q4 q67 f67 hg e5 e6
    have HRP := hid_ (begP_okR HO.out)
    go_wp2_with fail
    refine (wait_any _ HRP.out g _ HB6.out).mono ?_
    rintro e w7 ⟨rfl, hB7, hO7⟩
    have HB7 := hid_ hB7
    have HO7 := hid_ (HO6.out.trans hO7)
    clear HB6 HO6 hB7 hO7
    have HRW : Hid (waitB (begP b)).OkR := ⟨HRP.out.regs, HRP.out.byte, HRP.out.pitch0, HRP.out.pitch1⟩
    go_wp2_with fail
    refine (every_any _ HRW.out g _ HB7.out).mono ?_
    rintro e w8 ⟨rfl, rfl⟩
    go_wp2_with fail
    refine (by_any _ HRW.out g _ HB7.out).mono ?_
    rintro e w8 ⟨rfl, rfl⟩
    rw [show everyB (waitB (begP b)) = everyB b from rfl, show byB (waitB (begP b)) = byB b from rfl]
    have e7 := any_or (everyB b) (byB b) (every_bd b).1 (every_bd b).2 (by_bd b).1 (by_bd b).2
    have c69 := HB7.out.a69 HRW.out.regs
    have f69 := HB7.out.frozen 69
    have hg := HB7.out.lt
    have HB8 : Hid (Blk (w7.setCell ⟨g, 69, none⟩ (.bool (decide (everyB b ≠ 0 ∨ byB b ≠ 0)))) g 29 (enc (begS b))) := HB7.out.s69 HRW.out.regs _
    have HO8 := hid_ (HO7.out.step (i := 69) (.bool (decide (everyB b ≠ 0 ∨ byB b ≠ 0))))
    have HRS := hid_ (begS_okR HO.out)
    generalize decide (everyB b ≠ 0 ∨ byB b ≠ 0) = sl at *
    go_wp2_with fail
    refine (by_any _ HRS.out g _ HB8.out).mono ?_
    rintro e w9 ⟨rfl, rfl⟩
    rw [show byB (begS b) = byB b from rfl]
    by_cases hy : byB b = 0
    · have HS : Hid (beginB b 0 = begS b) := by unfold beginB; rw [if_pos hy]; rfl
      rw [hy]
      go_wp2
      exact bodyPost_ret (v := .tuple #[]) (by simp [results, Try.results17, go_sem]) rfl ⟨rfl, by rw [HS.out]; exact HB8.out, HO8.out⟩
    · have HS : Hid (beginB b 0 = checkB (begS b)) := by unfold beginB; rw [if_neg hy]; rfl
      have hy' : (byB b != 0) = true := by simp [hy]
      go_wp2_with fail
      refine (check_any _ HRS.out g _ HB8.out).mono ?_
      rintro e w9 ⟨rfl, hB9, hO9⟩
      go_wp2_with fail
      exact bodyPost_ret (v := .tuple #[]) (by simp [results, Try.results17, go_sem]) rfl ⟨rfl, by rw [HS.out]; exact hB9, HO8.out.trans hO9⟩


set_option maxRecDepth 20000 in
set_option maxHeartbeats 4000000 in
theorem begin_1 (b : Bd) (hb : b.OkR) (g : Nat) (w : World) (hB : Blk w g 29 (enc b)) :
    Calls Try.prog 17 #[.pointer (some ⟨g, 0, none⟩), .int .i64 1] w (On g (beginB b 1) (.tuple #[]) w) := by
  have cr : w.cell? ⟨g, 7, none⟩ = some (.int .u8 (b.reg 7)) := hB.ar hb.regs 7 (by omega)
  have hg := hB.lt
  have HB := hid_ hB
  have HO := hid_ hb
  clear hB hb
  go_enter Try.func17, Try.ntmps17
  go_wp2_with fail
  go_quiet (fail)
  have HB1 : Hid (Blk (w.drewN nq) g 29 (enc b)) := HB
  have HO1 : Hid (Only g w (w.drewN nq)) := (Only.refl g w).drewN nq
  generalize w.drewN nq = w1 at *
  clear HB cr hg
  go_wp2_with fail
  refine (ready_any b HO.out g 1 (by omega) _ HB1.out).mono ?_
  rintro e w2 ⟨rfl, rfl⟩
  have f55 := HB1.out.frozen 55
  have f56 := HB1.out.frozen 56
  have f57 := HB1.out.frozen 57
  have f58 := HB1.out.frozen 58
  have c55 := HB1.out.a55 HO.out.regs
  have c56 := HB1.out.a56 HO.out.regs
  have c57 := HB1.out.a57 HO.out.regs
  have c58 := HB1.out.a58 HO.out.regs
  have hg := HB1.out.lt
  have e1 := upto (P := fun a => bits .and .u8 a 7 = a % 8) (by decide +kernel) (b.reg 7) (HO.out.byte 7).1 (HO.out.byte 7).2
  obtain ⟨r0, r1⟩ : 0 ≤ b.reg 7 ∧ b.reg 7 ≤ 255 := HO.out.byte 7
  have e2 : wrap64 (b.reg 7 / 16) = b.reg 7 / 16 := wrap_small _ (by omega) (by omega)
  have e3 : wrap64 (b.reg 7 % 8) = b.reg 7 % 8 := wrap_small _ (by omega) (by omega)
  have HB2 := hid_ (((HB1.out.s55 HO.out.regs (readyB b 1)).s57 HO.out.regs (b.reg 7 / 16)).s58 HO.out.regs (b.reg 7 % 8))
  have HO2 := hid_ (((HO1.out.step (i := 55) (.bool (readyB b 1))).step (i := 57) (.int .i64 (b.reg 7 / 16))).step (i := 58) (.int .i64 (b.reg 7 % 8)))
  by_cases hl : b.v1.len = 0
  · rw [hl] at c56
    have HL := hid_ hl
    clear hl
    go_wp2_with fail
    refine (longest_any 1 (by omega) _).mono ?_
    rintro e w3 ⟨rfl, rfl⟩
    rw [show longestB 1 = 64 from rfl]
    have HB3 := hid_ (HB2.out.s56 HO.out.regs 64)
    have HO3 := hid_ (HO2.out.step (i := 56) (.int .i64 64))
    go_wp2_with fail
    exact bodyPost_ret (v := .tuple #[]) (by simp [results, Try.results17, go_sem]) rfl ⟨rfl, by simp only [beginB, begV, HL.out, if_true]; exact HB3.out, HO3.out⟩
  · have e4 : (b.v1.len == 0) = false := by simp [hl]
    have HL := hid_ hl
    clear hl
    go_wp2_with fail
    exact bodyPost_ret (v := .tuple #[]) (by simp [results, Try.results17, go_sem]) rfl ⟨rfl, by simp only [beginB, begV, HL.out, if_false]; exact HB2.out, HO2.out⟩


set_option maxRecDepth 20000 in
set_option maxHeartbeats 4000000 in
theorem begin_2 (b : Bd) (hb : b.OkR) (g : Nat) (w : World) (hB : Blk w g 29 (enc b)) :
    Calls Try.prog 17 #[.pointer (some ⟨g, 0, none⟩), .int .i64 2] w (On g (beginB b 2) (.tuple #[]) w) := by
  have cr : w.cell? ⟨g, 12, none⟩ = some (.int .u8 (b.reg 12)) := hB.ar hb.regs 12 (by omega)
  have hg := hB.lt
  have HB := hid_ hB
  have HO := hid_ hb
  clear hB hb
  go_enter Try.func17, Try.ntmps17
  go_wp2_with fail
  go_quiet (fail)
  have HB1 : Hid (Blk (w.drewN nq) g 29 (enc b)) := HB
  have HO1 : Hid (Only g w (w.drewN nq)) := (Only.refl g w).drewN nq
  generalize w.drewN nq = w1 at *
  clear HB cr hg
  go_wp2_with fail
  refine (ready_any b HO.out g 2 (by omega) _ HB1.out).mono ?_
  rintro e w2 ⟨rfl, rfl⟩
  have f59 := HB1.out.frozen 59
  have f60 := HB1.out.frozen 60
  have f61 := HB1.out.frozen 61
  have f62 := HB1.out.frozen 62
  have c59 := HB1.out.a59 HO.out.regs
  have c60 := HB1.out.a60 HO.out.regs
  have c61 := HB1.out.a61 HO.out.regs
  have c62 := HB1.out.a62 HO.out.regs
  have hg := HB1.out.lt
  have e1 := upto (P := fun a => bits .and .u8 a 7 = a % 8) (by decide +kernel) (b.reg 12) (HO.out.byte 12).1 (HO.out.byte 12).2
  obtain ⟨r0, r1⟩ : 0 ≤ b.reg 12 ∧ b.reg 12 ≤ 255 := HO.out.byte 12
  have e2 : wrap64 (b.reg 12 / 16) = b.reg 12 / 16 := wrap_small _ (by omega) (by omega)
  have e3 : wrap64 (b.reg 12 % 8) = b.reg 12 % 8 := wrap_small _ (by omega) (by omega)
  have HB2 := hid_ (((HB1.out.s59 HO.out.regs (readyB b 2)).s61 HO.out.regs (b.reg 12 / 16)).s62 HO.out.regs (b.reg 12 % 8))
  have HO2 := hid_ (((HO1.out.step (i := 59) (.bool (readyB b 2))).step (i := 61) (.int .i64 (b.reg 12 / 16))).step (i := 62) (.int .i64 (b.reg 12 % 8)))
  by_cases hl : b.v2.len = 0
  · rw [hl] at c60
    have HL := hid_ hl
    clear hl
    go_wp2_with fail
    refine (longest_any 2 (by omega) _).mono ?_
    rintro e w3 ⟨rfl, rfl⟩
    rw [show longestB 2 = 256 from rfl]
    have HB3 := hid_ (HB2.out.s60 HO.out.regs 256)
    have HO3 := hid_ (HO2.out.step (i := 60) (.int .i64 256))
    go_wp2_with fail
    exact bodyPost_ret (v := .tuple #[]) (by simp [results, Try.results17, go_sem]) rfl ⟨rfl, by simp only [beginB, begV, HL.out, if_true]; exact HB3.out, HO3.out⟩
  · have e4 : (b.v2.len == 0) = false := by simp [hl]
    have HL := hid_ hl
    clear hl
    go_wp2_with fail
    exact bodyPost_ret (v := .tuple #[]) (by simp [results, Try.results17, go_sem]) rfl ⟨rfl, by simp only [beginB, begV, HL.out, if_false]; exact HB2.out, HO2.out⟩


set_option maxRecDepth 20000 in
set_option maxHeartbeats 4000000 in
theorem begin_3 (b : Bd) (hb : b.OkR) (g : Nat) (w : World) (hB : Blk w g 29 (enc b)) :
    Calls Try.prog 17 #[.pointer (some ⟨g, 0, none⟩), .int .i64 3] w (On g (beginB b 3) (.tuple #[]) w) := by
  have cr : w.cell? ⟨g, 17, none⟩ = some (.int .u8 (b.reg 17)) := hB.ar hb.regs 17 (by omega)
  have hg := hB.lt
  have HB := hid_ hB
  have HO := hid_ hb
  clear hB hb
  go_enter Try.func17, Try.ntmps17
  go_wp2_with fail
  go_quiet (fail)
  have HB1 : Hid (Blk (w.drewN nq) g 29 (enc b)) := HB
  have HO1 : Hid (Only g w (w.drewN nq)) := (Only.refl g w).drewN nq
  generalize w.drewN nq = w1 at *
  clear HB cr hg
  go_wp2_with fail
  refine (ready_any b HO.out g 3 (by omega) _ HB1.out).mono ?_
  rintro e w2 ⟨rfl, rfl⟩
  have f63 := HB1.out.frozen 63
  have f64 := HB1.out.frozen 64
  have f65 := HB1.out.frozen 65
  have f66 := HB1.out.frozen 66
  have c63 := HB1.out.a63 HO.out.regs
  have c64 := HB1.out.a64 HO.out.regs
  have c65 := HB1.out.a65 HO.out.regs
  have c66 := HB1.out.a66 HO.out.regs
  have hg := HB1.out.lt
  have e1 := upto (P := fun a => bits .and .u8 a 7 = a % 8) (by decide +kernel) (b.reg 17) (HO.out.byte 17).1 (HO.out.byte 17).2
  obtain ⟨r0, r1⟩ : 0 ≤ b.reg 17 ∧ b.reg 17 ≤ 255 := HO.out.byte 17
  have e2 : wrap64 (b.reg 17 / 16) = b.reg 17 / 16 := wrap_small _ (by omega) (by omega)
  have e3 : wrap64 (b.reg 17 % 8) = b.reg 17 % 8 := wrap_small _ (by omega) (by omega)
  have HB2 := hid_ (((HB1.out.s63 HO.out.regs (readyB b 3)).s65 HO.out.regs (b.reg 17 / 16)).s66 HO.out.regs (b.reg 17 % 8))
  have HO2 := hid_ (((HO1.out.step (i := 63) (.bool (readyB b 3))).step (i := 65) (.int .i64 (b.reg 17 / 16))).step (i := 66) (.int .i64 (b.reg 17 % 8)))
  by_cases hl : b.v3.len = 0
  · rw [hl] at c64
    have HL := hid_ hl
    clear hl
    go_wp2_with fail
    refine (longest_any 3 (by omega) _).mono ?_
    rintro e w3 ⟨rfl, rfl⟩
    rw [show longestB 3 = 64 from rfl]
    have HB3 := hid_ (HB2.out.s64 HO.out.regs 64)
    have HO3 := hid_ (HO2.out.step (i := 64) (.int .i64 64))
    go_wp2_with fail
    exact bodyPost_ret (v := .tuple #[]) (by simp [results, Try.results17, go_sem]) rfl ⟨rfl, by simp only [beginB, begV, HL.out, if_true]; exact HB3.out, HO3.out⟩
  · have e4 : (b.v3.len == 0) = false := by simp [hl]
    have HL := hid_ hl
    clear hl
    go_wp2_with fail
    exact bodyPost_ret (v := .tuple #[]) (by simp [results, Try.results17, go_sem]) rfl ⟨rfl, by simp only [beginB, begV, HL.out, if_false]; exact HB2.out, HO2.out⟩

end Go.Proofs.Ytacbdapgdgliiaa
