/- Contracts of a board's leaves. -/
import Derived.Test.YtacbdapgdgliiaaBase
namespace Go.Proofs.Ytacbdapgdgliiaa
open Go.RowKit
set_option linter.unusedSimpArgs false
set_option linter.unusedVariables false

def Bd.reg (b : Bd) (i : Nat) : Int := b.regs.getD i 0
def everyB (b : Bd) : Int := b.reg 0 / 16 % 8
def byB (b : Bd) : Int := b.reg 0 % 8
def readyB (b : Bd) (v : Nat) : Bool := if v = 2 then decide (128 ≤ b.reg 10) else decide (8 ≤ b.reg (5 * v + 2))
def longestB (v : Nat) : Int := if v = 2 then 256 else 64
def nextB (b : Bd) : Int := if b.reg 0 / 8 % 2 = 1 then b.pitch - b.pitch / 2 ^ (byB b).toNat else b.pitch + b.pitch / 2 ^ (byB b).toNat
def waitB (b : Bd) : Bd := { b with slide := if everyB b = 0 then 8 else everyB b }
def highB (b : Bd) : Bool := decide (2047 < nextB b)
def checkB (b : Bd) : Bd := if highB b then { b with v0 := { b.v0 with on := false } } else b

theorem and248 (a : Int) (h : 0 ≤ a) (h' : a ≤ 255) : (bits .and .u8 a 248 != 0) = decide (8 ≤ a) :=
  upto (P := fun a => (bits .and .u8 a 248 != 0) = decide (8 ≤ a)) (by decide +kernel) a h h'
theorem and128 (a : Int) (h : 0 ≤ a) (h' : a ≤ 255) : (bits .and .u8 a 128 != 0) = decide (128 ≤ a) :=
  upto (P := fun a => (bits .and .u8 a 128 != 0) = decide (128 ≤ a)) (by decide +kernel) a h h'

theorem longest_any (v : Nat) (hv : v < 4) (w : World) : Calls Try.prog 16 #[.int .i64 v] w (Pure (.int .i64 (longestB v)) w) := by
  obtain rfl | rfl | rfl | rfl : v = 0 ∨ v = 1 ∨ v = 2 ∨ v = 3 := by omega
  all_goals go_enter Try.func16, Try.ntmps16
  all_goals go_wp2
  all_goals go_ret
  all_goals exact ⟨rfl, rfl⟩
theorem ready_any (b : Bd) (hb : b.OkR) (g : Nat) (v : Nat) (hv : v < 4) (w : World) (hB : Blk w g 29 (enc b)) :
    Calls Try.prog 18 #[.pointer (some ⟨g, 0, none⟩), .int .i64 v] w (Pure (.bool (readyB b v)) w) := by
  have c2 := hB.ar hb.regs 2 (by omega)
  have c7 := hB.ar hb.regs 7 (by omega)
  have c10 := hB.ar hb.regs 10 (by omega)
  have c17 := hB.ar hb.regs 17 (by omega)
  have e2 : _ := and248 (b.reg 2) (hb.byte 2).1 (hb.byte 2).2
  have e7 : _ := and248 (b.reg 7) (hb.byte 7).1 (hb.byte 7).2
  have e10 : _ := and128 (b.reg 10) (hb.byte 10).1 (hb.byte 10).2
  have e17 : _ := and248 (b.reg 17) (hb.byte 17).1 (hb.byte 17).2
  rw [show b.regs.getD 2 0 = b.reg 2 from rfl] at c2
  rw [show b.regs.getD 7 0 = b.reg 7 from rfl] at c7
  rw [show b.regs.getD 10 0 = b.reg 10 from rfl] at c10
  rw [show b.regs.getD 17 0 = b.reg 17 from rfl] at c17
  clear hB hb
  obtain rfl | rfl | rfl | rfl : v = 0 ∨ v = 1 ∨ v = 2 ∨ v = 3 := by omega
  · go_enter Try.func18, Try.ntmps18
    go_wp2
    go_ret
    exact ⟨rfl, rfl⟩
  · go_enter Try.func18, Try.ntmps18
    go_wp2
    go_ret
    exact ⟨rfl, rfl⟩
  · go_enter Try.func18, Try.ntmps18
    go_wp2
    go_ret
    exact ⟨rfl, rfl⟩
  · go_enter Try.func18, Try.ntmps18
    go_wp2
    go_ret
    exact ⟨rfl, rfl⟩
theorem wrap_small (x : Int) (h : 0 ≤ x) (h' : x ≤ 100000) : wrap64 x = x := by
  simp [wrap64, IntKind.wrap, IntKind.signed, IntKind.bits]; omega
theorem every_bd (b : Bd) : 0 ≤ everyB b ∧ everyB b ≤ 7 := by unfold everyB; omega
theorem by_bd (b : Bd) : 0 ≤ byB b ∧ byB b ≤ 7 := by unfold byB; omega
theorem every_any (b : Bd) (hb : b.OkR) (g : Nat) (w : World) (hB : Blk w g 29 (enc b)) :
    Calls Try.prog 24 #[.pointer (some ⟨g, 0, none⟩)] w (Pure (.int .i64 (everyB b)) w) := by
  have c0 := hB.ar hb.regs 0 (by omega)
  rw [show b.regs.getD 0 0 = b.reg 0 from rfl] at c0
  have e1 : bits .and .u8 (b.reg 0 / 16) 7 = everyB b :=
    upto (P := fun a => bits .and .u8 (a / 16) 7 = a / 16 % 8) (by decide +kernel) (b.reg 0) (hb.byte 0).1 (hb.byte 0).2
  have e2 : wrap64 (everyB b) = everyB b := wrap_small _ (every_bd b).1 (by have := (every_bd b).2; omega)
  clear hB
  go_enter Try.func24, Try.ntmps24
  go_wp2
  go_ret
  exact ⟨ret_int e2, rfl⟩
theorem by_any (b : Bd) (hb : b.OkR) (g : Nat) (w : World) (hB : Blk w g 29 (enc b)) :
    Calls Try.prog 25 #[.pointer (some ⟨g, 0, none⟩)] w (Pure (.int .i64 (byB b)) w) := by
  have c0 := hB.ar hb.regs 0 (by omega)
  rw [show b.regs.getD 0 0 = b.reg 0 from rfl] at c0
  have e1 : bits .and .u8 (b.reg 0) 7 = byB b :=
    upto (P := fun a => bits .and .u8 a 7 = a % 8) (by decide +kernel) (b.reg 0) (hb.byte 0).1 (hb.byte 0).2
  have e2 : wrap64 (byB b) = byB b := wrap_small _ (by_bd b).1 (by have := (by_bd b).2; omega)
  clear hB
  go_enter Try.func25, Try.ntmps25
  go_wp2
  go_ret
  exact ⟨ret_int e2, rfl⟩
theorem by_q (b : Bd) (hb : b.OkR) (g : Nat) (w : World) (m : Nat) (hB : Blk w g 29 (enc b)) :
    Calls Try.prog 25 #[.pointer (some ⟨g, 0, none⟩)] (w.drewN m) (fun e w' => e = .returned (.int .i64 (byB b)) ∧ ∃ m', w' = w.drewN m') :=
  (by_any b hb g (w.drewN m) hB).mono fun e w' ⟨he, hw⟩ => ⟨he, m, hw.symm⟩
theorem and8 (a : Int) (h : 0 ≤ a) (h' : a ≤ 255) : (bits .and .u8 a 8 != 0) = decide (a / 8 % 2 = 1) :=
  upto (P := fun a => (bits .and .u8 a 8 != 0) = decide (a / 8 % 2 = 1)) (by decide +kernel) a h h'
theorem next_any (b : Bd) (hb : b.OkR) (g : Nat) (w : World) (hB : Blk w g 29 (enc b)) :
    Calls Try.prog 27 #[.pointer (some ⟨g, 0, none⟩)] w (fun e w' => e = .returned (.int .i64 (nextB b)) ∧ ∃ n, w' = w.drewN n) := by
  have c0 := hB.ar hb.regs 0 (by omega)
  rw [show b.regs.getD 0 0 = b.reg 0 from rfl] at c0
  have c67 := hB.a67 hb.regs
  have e1 := and8 (b.reg 0) (hb.byte 0).1 (hb.byte 0).2
  have p0 := hb.pitch0
  have p1 := hb.pitch1
  obtain ⟨b0, b1⟩ := by_bd b
  have HB := hid_ hB
  have HO := hid_ hb
  clear hB
  go_enter Try.func27, Try.ntmps27
  go_wp2
  go_quiet ((go_at_call 25; exact by_q b HO.out g w _ HB.out))
  have d0 : 0 ≤ b.pitch / 2 ^ (byB b).toNat := Int.ediv_nonneg p0 (Int.le_of_lt (Int.pow_pos (by omega)))
  have d1 : b.pitch / 2 ^ (byB b).toNat ≤ b.pitch := Int.ediv_le_self _ p0
  by_cases h8 : b.reg 0 / 8 % 2 = 1
  · have e2 : decide (b.reg 0 / 8 % 2 = 1) = true := by simp [h8]
    go_wp2
    go_ret
    refine ⟨ret_int ?_, nq, rfl⟩
    rw [nextB, if_pos h8]
    try (generalize b.pitch / 2 ^ (byB b).toNat = d at *; first | omega | rfl | (simp [wrap64, IntKind.wrap, IntKind.signed, IntKind.bits]; omega))
  · have e2 : decide (b.reg 0 / 8 % 2 = 1) = false := by simp [h8]
    go_wp2
    go_ret
    refine ⟨ret_int ?_, nq, rfl⟩
    rw [nextB, if_neg h8]
    try (generalize b.pitch / 2 ^ (byB b).toNat = d at *; first | omega | rfl | (simp [wrap64, IntKind.wrap, IntKind.signed, IntKind.bits]; omega))
theorem next_bd (b : Bd) (hb : b.OkR) : 0 ≤ nextB b ∧ nextB b ≤ 4094 := by
  have p0 := hb.pitch0
  have p1 := hb.pitch1
  have d0 : 0 ≤ b.pitch / 2 ^ (byB b).toNat := Int.ediv_nonneg p0 (Int.le_of_lt (Int.pow_pos (by omega)))
  have d1 : b.pitch / 2 ^ (byB b).toNat ≤ b.pitch := Int.ediv_le_self _ p0
  unfold nextB
  split <;> omega
/-- What a call on a board gives: its value, and the board as it is behind it. -/
def On (g : Nat) (b' : Bd) (v : Value) (w : World) (e : Ending) (w' : World) : Prop := e = .returned v ∧ Blk w' g 29 (enc b') ∧ Only g w w'
theorem check_any (b : Bd) (hb : b.OkR) (g : Nat) (w : World) (hB : Blk w g 29 (enc b)) :
    Calls Try.prog 26 #[.pointer (some ⟨g, 0, none⟩)] w (On g (checkB b) (.bool (highB b)) w) := by
  have HB := hid_ hB
  have HO := hid_ hb
  clear hB
  go_enter Try.func26, Try.ntmps26
  go_wp2_with fail
  refine (next_any b HO.out g _ HB.out).mono ?_
  rintro e w1 ⟨rfl, n, rfl⟩
  have hB1 : Blk (w.drewN n) g 29 (enc b) := HB.out
  have HW : Only g w (w.drewN n) := (Only.refl g w).drewN n
  generalize w.drewN n = w1 at *
  have f51 := hB1.frozen 51
  have c51 := hB1.a51 hb.regs
  have hg := hB1.lt
  have HB1 := hid_ hB1
  clear hB1
  by_cases hh : 2047 < nextB b
  · have e2 : decide (2047 < nextB b) = true := by simp [hh]
    go_wp2
    go_ret
    refine ⟨by unfold highB; rw [e2]; rfl, ?_, HW.step _⟩
    rw [checkB, highB, e2, if_pos rfl]
    exact HB1.out.s51 HO.out.regs false
  · have e2 : decide (2047 < nextB b) = false := by simp [hh]
    go_wp2
    go_ret
    refine ⟨by unfold highB; rw [e2]; rfl, ?_, HW⟩
    rw [checkB, highB, e2]
    exact HB1.out
theorem wait_any (b : Bd) (hb : b.OkR) (g : Nat) (w : World) (hB : Blk w g 29 (enc b)) :
    Calls Try.prog 23 #[.pointer (some ⟨g, 0, none⟩)] w (On g (waitB b) (.tuple #[]) w) := by
  have f68 := hB.frozen 68
  have c68 := hB.a68 hb.regs
  have hg := hB.lt
  have HB := hid_ hB
  have HO := hid_ hb
  clear hB
  go_enter Try.func23, Try.ntmps23
  go_wp2_with fail
  refine (every_any b HO.out g _ HB.out).mono ?_
  rintro e w1 ⟨rfl, rfl⟩
  by_cases he : everyB b = 0
  · rw [he]
    go_wp2
    refine bodyPost_ret (v := .tuple #[]) (by simp [results, Try.results23, go_sem]) rfl ⟨rfl, ?_, ((Only.refl g w).step _).step _⟩
    rw [waitB, if_pos he]
    exact (HB.out.s68 HO.out.regs 0).s68 HO.out.regs 8
  · have he' : (everyB b == 0) = false := by simp [he]
    go_wp2
    refine bodyPost_ret (v := .tuple #[]) (by simp [results, Try.results23, go_sem]) rfl ⟨rfl, ?_, ((Only.refl g w).step _)⟩
    rw [waitB, if_neg he]
    exact HB.out.s68 HO.out.regs _
end Go.Proofs.Ytacbdapgdgliiaa
