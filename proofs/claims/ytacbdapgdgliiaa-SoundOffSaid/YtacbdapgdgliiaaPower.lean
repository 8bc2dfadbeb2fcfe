/- Contract of a board's read at its own byte. -/
import Derived.Test.YtacbdapgdgliiaaRead
namespace Go.Proofs.Ytacbdapgdgliiaa
open Go.RowKit
set_option linter.unusedSimpArgs false
set_option linter.unusedVariables false

theorem index_27 (a0 a1 a2 a3 a4 a5 a6 a7 a8 a9 aa ab ac ad ae af : Value) (W : World) :
    (Instr.index 27 (.agg #[a0, a1, a2, a3, a4, a5, a6, a7, a8, a9, aa, ab, ac, ad, ae, af]) (.int .i64 0)).run Try.prog W = .ok (.agg #[a0, a1, a2, a3]) W ∧
    (Instr.index 27 (.agg #[a0, a1, a2, a3, a4, a5, a6, a7, a8, a9, aa, ab, ac, ad, ae, af]) (.int .i64 1)).run Try.prog W = .ok (.agg #[a4, a5, a6, a7]) W ∧
    (Instr.index 27 (.agg #[a0, a1, a2, a3, a4, a5, a6, a7, a8, a9, aa, ab, ac, ad, ae, af]) (.int .i64 2)).run Try.prog W = .ok (.agg #[a8, a9, aa, ab]) W ∧
    (Instr.index 27 (.agg #[a0, a1, a2, a3, a4, a5, a6, a7, a8, a9, aa, ab, ac, ad, ae, af]) (.int .i64 3)).run Try.prog W = .ok (.agg #[ac, ad, ae, af]) W := by
  have h26 : ∀ h, (Try.prog.types[26]'h).size = 4 := fun _ => by kernel_rfl
  refine ⟨?_, ?_, ?_, ?_⟩ <;> simp [Instr.index, asIntOf, Sem.run_bind, go_sem, h26]
def bit (x : Bool) (n : Int) : Int := if x then n else 0
def accB (b : Bd) : Nat → Int
  | 0 => 112 + bit b.on 128
  | 1 => 112 + bit b.on 128 + bit b.v0.on 1
  | 2 => 112 + bit b.on 128 + bit b.v0.on 1 + bit b.v1.on 2
  | 3 => 112 + bit b.on 128 + bit b.v0.on 1 + bit b.v1.on 2 + bit b.v2.on 4
  | _ => 112 + bit b.on 128 + bit b.v0.on 1 + bit b.v1.on 2 + bit b.v2.on 4 + bit b.v3.on 8
theorem acc_or0 (b : Bd) : bits .or .u8 (accB b 0) 1 = accB b 0 + 1 := by simp only [accB]; cases b.on <;> rfl
theorem acc_or1 (b : Bd) : bits .or .u8 (accB b 1) 2 = accB b 1 + 2 := by simp only [accB]; cases b.on <;> cases b.v0.on <;> rfl
theorem acc_or2 (b : Bd) : bits .or .u8 (accB b 2) 4 = accB b 2 + 4 := by simp only [accB]; cases b.on <;> cases b.v0.on <;> cases b.v1.on <;> rfl
theorem acc_or3 (b : Bd) : bits .or .u8 (accB b 3) 8 = accB b 3 + 8 := by simp only [accB]; cases b.on <;> cases b.v0.on <;> cases b.v1.on <;> cases b.v2.on <;> rfl

set_option maxRecDepth 20000 in
set_option maxHeartbeats 2000000 in
theorem read_power (b : Bd) (hb : b.OkR) (w : World) : Calls Try.prog 13 #[.agg (enc b), .int .i64 22] w (Ret (.int .u8 (accB b 4)) w) := by
  obtain ⟨M, hM, hat, hcall⟩ := masks_row
  have hm := hat 22 (by omega)
  have hix : ∀ W, (Instr.index 40 (.agg M) (.int .i64 22)).run Try.prog W = .ok (.int .u8 112) W := index_40 M 22 _ (by omega) hm
  have HC := hid_ hcall
  have HO := hid_ hb
  have e1 : bits .or .u8 112 128 = 240 := rfl
  clear hat hcall hm
  go_enter Try.func13, Try.ntmps13
  go_wp2_with ((with_reducible refine wpList_box29 (op := ⟨some 2, .box 29 (.tmp 0), _, _, _, _⟩) rfl (.tmp 0) rfl b rfl ?_); intro w1 HB1 HW1)
  refine (HC.out _).mono ?_
  rintro e w2 ⟨rfl, hc2, hf2, hz2, hb2⟩
  clear hc2 hf2 hz2
  have HB2 := hid_ (HB1.out.below hb2 HB1.out.lt)
  have HW2 := hid_ (HW1.out.trans (hb2.mono HW1.out.size))
  have c48 := HB2.out.a48 HO.out.regs
  have c51 := HB2.out.a51 HO.out.regs
  have c52 := HB2.out.a52 HO.out.regs
  have c53 := HB2.out.a53 HO.out.regs
  have c54 := HB2.out.a54 HO.out.regs
  have c55 := HB2.out.a55 HO.out.regs
  have c56 := HB2.out.a56 HO.out.regs
  have c57 := HB2.out.a57 HO.out.regs
  have c58 := HB2.out.a58 HO.out.regs
  have c59 := HB2.out.a59 HO.out.regs
  have c60 := HB2.out.a60 HO.out.regs
  have c61 := HB2.out.a61 HO.out.regs
  have c62 := HB2.out.a62 HO.out.regs
  have c63 := HB2.out.a63 HO.out.regs
  have c64 := HB2.out.a64 HO.out.regs
  have c65 := HB2.out.a65 HO.out.regs
  have c66 := HB2.out.a66 HO.out.regs
  clear hb2 HB1 HW1
  have hlt := HB2.out.lt
  have T5 : ∀ t, t = (if b.on then (240 : Int) else 112) → t = accB b 0 := by intro t h; rw [h]; simp only [accB, bit]; cases b.on <;> rfl
  have ht5 := hid_ T5
  clear T5
  cases hon : b.on with
  | true =>
    rw [hon] at c48
    go_wp2_with fail
    have hacc : Hid (accB b 0 = 240) := by simp only [Hid, accB, hon]; rfl
    clear ht5
    go_loopw [50, 5] (fun i x wr => ∃ k : Nat, k ≤ 4 ∧ i = .int .i64 k ∧ x = .int .u8 (accB b k) ∧ Hid (Below w.heap.size w wr)) (fun i _ _ => 4 - (intOf i).toNat)
    case atStart => exact ⟨0, by omega, rfl, by rw [hacc.out], HW2⟩
    case round =>
      obtain ⟨k, hk, rfl, rfl, HW⟩ := hrel
      clear c48 c51 c52 c53 c54 c55 c56 c57 c58 c59 c60 c61 c62 c63 c64 c65 c66
      obtain rfl | rfl | rfl | rfl | rfl : k = 0 ∨ k = 1 ∨ k = 2 ∨ k = 3 ∨ k = 4 := by omega
      · have e2 := acc_or0 b
        have ix := (index_27 (.bool b.v0.on) (.int .i64 b.v0.len) (.int .i64 b.v0.lev) (.int .i64 b.v0.wait) (.bool b.v1.on) (.int .i64 b.v1.len) (.int .i64 b.v1.lev) (.int .i64 b.v1.wait) (.bool b.v2.on) (.int .i64 b.v2.len) (.int .i64 b.v2.lev) (.int .i64 b.v2.wait) (.bool b.v3.on) (.int .i64 b.v3.len) (.int .i64 b.v3.lev) (.int .i64 b.v3.wait) wr).1
        have e3 : accB b 1 = accB b 0 + bit b.v0.on 1 := rfl
        have HE := hid_ e3
        clear e3
        cases hv : b.v0.on with
        | true =>
          rw [hv] at HE ix
          go_wp2
          go_roundw
          case rel => exact ⟨1, by omega, rfl, by rw [HE.out]; rfl, hid_ ((HW.out.alloc HW.out.size _))⟩
          case measure => simp [intOf]
        | false =>
          rw [hv] at HE ix
          go_wp2
          go_roundw
          case rel => exact ⟨1, by omega, rfl, by rw [HE.out]; simp [bit], hid_ ((HW.out.alloc HW.out.size _))⟩
          case measure => simp [intOf]
      · have e2 := acc_or1 b
        have ix := (index_27 (.bool b.v0.on) (.int .i64 b.v0.len) (.int .i64 b.v0.lev) (.int .i64 b.v0.wait) (.bool b.v1.on) (.int .i64 b.v1.len) (.int .i64 b.v1.lev) (.int .i64 b.v1.wait) (.bool b.v2.on) (.int .i64 b.v2.len) (.int .i64 b.v2.lev) (.int .i64 b.v2.wait) (.bool b.v3.on) (.int .i64 b.v3.len) (.int .i64 b.v3.lev) (.int .i64 b.v3.wait) wr).2.1
        have e3 : accB b 2 = accB b 1 + bit b.v1.on 2 := rfl
        have HE := hid_ e3
        clear e3
        cases hv : b.v1.on with
        | true =>
          rw [hv] at HE ix
          go_wp2
          go_roundw
          case rel => exact ⟨2, by omega, rfl, by rw [HE.out]; rfl, hid_ ((HW.out.alloc HW.out.size _))⟩
          case measure => simp [intOf]
        | false =>
          rw [hv] at HE ix
          go_wp2
          go_roundw
          case rel => exact ⟨2, by omega, rfl, by rw [HE.out]; simp [bit], hid_ ((HW.out.alloc HW.out.size _))⟩
          case measure => simp [intOf]
      · have e2 := acc_or2 b
        have ix := (index_27 (.bool b.v0.on) (.int .i64 b.v0.len) (.int .i64 b.v0.lev) (.int .i64 b.v0.wait) (.bool b.v1.on) (.int .i64 b.v1.len) (.int .i64 b.v1.lev) (.int .i64 b.v1.wait) (.bool b.v2.on) (.int .i64 b.v2.len) (.int .i64 b.v2.lev) (.int .i64 b.v2.wait) (.bool b.v3.on) (.int .i64 b.v3.len) (.int .i64 b.v3.lev) (.int .i64 b.v3.wait) wr).2.2.1
        have e3 : accB b 3 = accB b 2 + bit b.v2.on 4 := rfl
        have HE := hid_ e3
        clear e3
        cases hv : b.v2.on with
        | true =>
          rw [hv] at HE ix
          go_wp2
          go_roundw
          case rel => exact ⟨3, by omega, rfl, by rw [HE.out]; rfl, hid_ ((HW.out.alloc HW.out.size _))⟩
          case measure => simp [intOf]
        | false =>
          rw [hv] at HE ix
          go_wp2
          go_roundw
          case rel => exact ⟨3, by omega, rfl, by rw [HE.out]; simp [bit], hid_ ((HW.out.alloc HW.out.size _))⟩
          case measure => simp [intOf]
      · have e2 := acc_or3 b
        have ix := (index_27 (.bool b.v0.on) (.int .i64 b.v0.len) (.int .i64 b.v0.lev) (.int .i64 b.v0.wait) (.bool b.v1.on) (.int .i64 b.v1.len) (.int .i64 b.v1.lev) (.int .i64 b.v1.wait) (.bool b.v2.on) (.int .i64 b.v2.len) (.int .i64 b.v2.lev) (.int .i64 b.v2.wait) (.bool b.v3.on) (.int .i64 b.v3.len) (.int .i64 b.v3.lev) (.int .i64 b.v3.wait) wr).2.2.2
        have e3 : accB b 4 = accB b 3 + bit b.v3.on 8 := rfl
        have HE := hid_ e3
        clear e3
        cases hv : b.v3.on with
        | true =>
          rw [hv] at HE ix
          go_wp2
          go_roundw
          case rel => exact ⟨4, by omega, rfl, by rw [HE.out]; rfl, hid_ ((HW.out.alloc HW.out.size _))⟩
          case measure => simp [intOf]
        | false =>
          rw [hv] at HE ix
          go_wp2
          go_roundw
          case rel => exact ⟨4, by omega, rfl, by rw [HE.out]; simp [bit], hid_ ((HW.out.alloc HW.out.size _))⟩
          case measure => simp [intOf]
      · go_wp2
        go_ret
        exact .of rfl HW.out
  | false =>
    rw [hon] at c48
    go_wp2_with fail
    have hacc : Hid (accB b 0 = 112) := by simp only [Hid, accB, hon]; rfl
    clear ht5
    go_loopw [50, 5] (fun i x wr => ∃ k : Nat, k ≤ 4 ∧ i = .int .i64 k ∧ x = .int .u8 (accB b k) ∧ Hid (Below w.heap.size w wr)) (fun i _ _ => 4 - (intOf i).toNat)
    case atStart => exact ⟨0, by omega, rfl, by rw [hacc.out], HW2⟩
    case round =>
      obtain ⟨k, hk, rfl, rfl, HW⟩ := hrel
      clear c48 c51 c52 c53 c54 c55 c56 c57 c58 c59 c60 c61 c62 c63 c64 c65 c66
      obtain rfl | rfl | rfl | rfl | rfl : k = 0 ∨ k = 1 ∨ k = 2 ∨ k = 3 ∨ k = 4 := by omega
      · have e2 := acc_or0 b
        have ix := (index_27 (.bool b.v0.on) (.int .i64 b.v0.len) (.int .i64 b.v0.lev) (.int .i64 b.v0.wait) (.bool b.v1.on) (.int .i64 b.v1.len) (.int .i64 b.v1.lev) (.int .i64 b.v1.wait) (.bool b.v2.on) (.int .i64 b.v2.len) (.int .i64 b.v2.lev) (.int .i64 b.v2.wait) (.bool b.v3.on) (.int .i64 b.v3.len) (.int .i64 b.v3.lev) (.int .i64 b.v3.wait) wr).1
        have e3 : accB b 1 = accB b 0 + bit b.v0.on 1 := rfl
        have HE := hid_ e3
        clear e3
        cases hv : b.v0.on with
        | true =>
          rw [hv] at HE ix
          go_wp2
          go_roundw
          case rel => exact ⟨1, by omega, rfl, by rw [HE.out]; rfl, hid_ ((HW.out.alloc HW.out.size _))⟩
          case measure => simp [intOf]
        | false =>
          rw [hv] at HE ix
          go_wp2
          go_roundw
          case rel => exact ⟨1, by omega, rfl, by rw [HE.out]; simp [bit], hid_ ((HW.out.alloc HW.out.size _))⟩
          case measure => simp [intOf]
      · have e2 := acc_or1 b
        have ix := (index_27 (.bool b.v0.on) (.int .i64 b.v0.len) (.int .i64 b.v0.lev) (.int .i64 b.v0.wait) (.bool b.v1.on) (.int .i64 b.v1.len) (.int .i64 b.v1.lev) (.int .i64 b.v1.wait) (.bool b.v2.on) (.int .i64 b.v2.len) (.int .i64 b.v2.lev) (.int .i64 b.v2.wait) (.bool b.v3.on) (.int .i64 b.v3.len) (.int .i64 b.v3.lev) (.int .i64 b.v3.wait) wr).2.1
        have e3 : accB b 2 = accB b 1 + bit b.v1.on 2 := rfl
        have HE := hid_ e3
        clear e3
        cases hv : b.v1.on with
        | true =>
          rw [hv] at HE ix
          go_wp2
          go_roundw
          case rel => exact ⟨2, by omega, rfl, by rw [HE.out]; rfl, hid_ ((HW.out.alloc HW.out.size _))⟩
          case measure => simp [intOf]
        | false =>
          rw [hv] at HE ix
          go_wp2
          go_roundw
          case rel => exact ⟨2, by omega, rfl, by rw [HE.out]; simp [bit], hid_ ((HW.out.alloc HW.out.size _))⟩
          case measure => simp [intOf]
      · have e2 := acc_or2 b
        have ix := (index_27 (.bool b.v0.on) (.int .i64 b.v0.len) (.int .i64 b.v0.lev) (.int .i64 b.v0.wait) (.bool b.v1.on) (.int .i64 b.v1.len) (.int .i64 b.v1.lev) (.int .i64 b.v1.wait) (.bool b.v2.on) (.int .i64 b.v2.len) (.int .i64 b.v2.lev) (.int .i64 b.v2.wait) (.bool b.v3.on) (.int .i64 b.v3.len) (.int .i64 b.v3.lev) (.int .i64 b.v3.wait) wr).2.2.1
        have e3 : accB b 3 = accB b 2 + bit b.v2.on 4 := rfl
        have HE := hid_ e3
        clear e3
        cases hv : b.v2.on with
        | true =>
          rw [hv] at HE ix
          go_wp2
          go_roundw
          case rel => exact ⟨3, by omega, rfl, by rw [HE.out]; rfl, hid_ ((HW.out.alloc HW.out.size _))⟩
          case measure => simp [intOf]
        | false =>
          rw [hv] at HE ix
          go_wp2
          go_roundw
          case rel => exact ⟨3, by omega, rfl, by rw [HE.out]; simp [bit], hid_ ((HW.out.alloc HW.out.size _))⟩
          case measure => simp [intOf]
      · have e2 := acc_or3 b
        have ix := (index_27 (.bool b.v0.on) (.int .i64 b.v0.len) (.int .i64 b.v0.lev) (.int .i64 b.v0.wait) (.bool b.v1.on) (.int .i64 b.v1.len) (.int .i64 b.v1.lev) (.int .i64 b.v1.wait) (.bool b.v2.on) (.int .i64 b.v2.len) (.int .i64 b.v2.lev) (.int .i64 b.v2.wait) (.bool b.v3.on) (.int .i64 b.v3.len) (.int .i64 b.v3.lev) (.int .i64 b.v3.wait) wr).2.2.2
        have e3 : accB b 4 = accB b 3 + bit b.v3.on 8 := rfl
        have HE := hid_ e3
        clear e3
        cases hv : b.v3.on with
        | true =>
          rw [hv] at HE ix
          go_wp2
          go_roundw
          case rel => exact ⟨4, by omega, rfl, by rw [HE.out]; rfl, hid_ ((HW.out.alloc HW.out.size _))⟩
          case measure => simp [intOf]
        | false =>
          rw [hv] at HE ix
          go_wp2
          go_roundw
          case rel => exact ⟨4, by omega, rfl, by rw [HE.out]; simp [bit], hid_ ((HW.out.alloc HW.out.size _))⟩
          case measure => simp [intOf]
      · go_wp2
        go_ret
        exact .of rfl HW.out
end Go.Proofs.Ytacbdapgdgliiaa
