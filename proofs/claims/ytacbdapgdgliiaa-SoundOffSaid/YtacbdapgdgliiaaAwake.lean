/- Contract of 'awake'. -/
import Derived.Test.YtacbdapgdgliiaaThen
import Derived.Test.YtacbdapgdgliiaaPower
namespace Go.Proofs.Ytacbdapgdgliiaa
open Go.RowKit
set_option linter.unusedSimpArgs false
set_option linter.unusedVariables false

theorem wpList_load29w {ops : Array Oper} {rest : List Oper} {op : Oper} {a : Act} {w : World} {Q : Exit → Act → World → Prop} (hw : Region.wanted op (yielded ops a.tmps) = true) (x : Operand) (ho : op.op = .load 29 x)
    (g : Nat) (hx : a.eval x = .pointer (some ⟨g, 0, none⟩)) (cs : Array Value) (hB : Blk w g 29 cs) (hs : cs.size = 70)
    (h : wpList Try.prog ops Q rest (a.put op.dst (.agg cs)) w) : wpList Try.prog ops Q (op :: rest) a w :=
  wpList_step fun K hK => by
    rw [if_pos hw]
    unfold Oper.wp execOp
    simp only [ho, hx, Instr.loadAt, Instr.sureAddr, Sem.run_bind, Sem.run_pure, Result.andThen_ok, board_load hB hs]
    exact hK _ _ h
theorem zero_ok : zeroB.Ok :=
  ⟨⟨rfl, fun i => by
    show 0 ≤ (List.replicate 48 (0 : Int)).getD i 0 ∧ (List.replicate 48 (0 : Int)).getD i 0 ≤ 255
    rw [List.getD_eq_getElem?_getD, List.getElem?_replicate]
    split <;> simp, Int.le_refl 0, (show (0 : Int) ≤ 2047 by omega)⟩, Int.le_refl 0, (show (0 : Int) ≤ 2047 by omega), Int.le_refl 0, (show (0 : Int) ≤ 7 by omega),
    vOk_zero 64 (by omega), vOk_zero 64 (by omega), vOk_zero 256 (by omega), vOk_zero 64 (by omega), Int.le_refl 0, (show (0 : Int) ≤ 8 by omega)⟩
theorem div_field (b : Bd) (hb : b.regs.length = 48) (W : World) : (Instr.field 29 (.agg (enc b)) 2).run Try.prog W = .ok (.int .i64 b.div) W := by
  have h : (enc b)[49]? = some (.int .i64 b.div) := enc_tl b hb 1
  simp [Instr.field, Sem.run_bind, go_sem, h, asAgg]
def b1 : Bd := writeB zeroB 22 128
def b2 : Bd := writeB b1 2 240
def b3 : Bd := writeB b2 4 128
theorem b1_ok : b1.Ok := write_ok zero_ok 22 128 (by omega) (by omega)
theorem b2_ok : b2.Ok := write_ok b1_ok 2 240 (by omega) (by omega)
theorem b3_ok : b3.Ok := write_ok b2_ok 4 128 (by omega) (by omega)
theorem b3_acc : accB b3 4 = 241 := by decide +kernel
theorem b3_div : (tickB b3).div = 1 := by decide +kernel
theorem b3_reg : bits .or .u8 (b3.reg 1) (masksL.getD 1 0) = 63 := by decide +kernel

set_option maxRecDepth 20000 in
set_option maxHeartbeats 2000000 in
theorem awake_any (w : World) : Calls Try.prog 8 #[] w (Ret (.bool true) w) := by
  have hz := board_zero
  have HZ := hid_ (enc_size zeroB rfl)
  have HS := hid_ (enc_size b3 b3_ok.regs)
  have H1 := hid_ (enc_one b3)
  have e1 := hid_ b3_acc
  have e2 := hid_ b3_div
  have e3 := hid_ b3_reg
  go_enter Try.func8, Try.ntmps8
  go_wp2_with fail
  refine (write_any zeroB zero_ok 22 128 (by omega) (by omega) _).mono ?_
  rintro e w1 ⟨rfl, hc1, hf1, hz1, hb1⟩
  clear hc1 hf1 hz1
  rw [show writeB zeroB 22 128 = b1 from rfl]
  go_wp2_with fail
  refine (write_any b1 b1_ok 2 240 (by omega) (by omega) _).mono ?_
  rintro e w2 ⟨rfl, hc1, hf1, hz1, hb2⟩
  clear hc1 hf1 hz1
  rw [show writeB b1 2 240 = b2 from rfl]
  go_wp2_with fail
  refine (write_any b2 b2_ok 4 128 (by omega) (by omega) _).mono ?_
  rintro e w3 ⟨rfl, hc1, hf1, hz1, hb3⟩
  clear hc1 hf1 hz1
  rw [show writeB b2 4 128 = b3 from rfl]
  have hW3 : Below w.heap.size w w3 := (hb1.trans (hb2.mono hb1.size)).trans (hb3.mono (Nat.le_trans hb1.size hb2.size))
  have HW3 := hid_ hW3
  have hs3 := hW3.size
  clear hb1 hb2 hb3 hW3
  have HO := hid_ b3_ok
  generalize b3 = b at *
  go_wp2_with (first
    | ((with_reducible refine wpList_allocZ (op := ⟨some 1, .alloc 29, _, _, _, _⟩) rfl rfl ?_); intro w4 HB4 HW4)
    | (with_reducible refine wpList_store29 (op := ⟨none, .store 29 (.tmp 1) (.tmp 5), _, _, _, _⟩) rfl (.tmp 1) (.tmp 5) rfl w3.heap.size (enc zeroB) (enc b) (by with_unfolding_all rfl) (by with_unfolding_all rfl) HB4.out HZ.out HS.out H1.out ?_)
    | (with_reducible refine wpList_load29 (op := ⟨some 6, _, _, _, _, _⟩) rfl (.tmp 1) rfl w3.heap.size (by with_unfolding_all rfl) (enc b) (HB4.out.setRow _) HS.out ?_))
  refine (read_power b HO.out.toOkR _).mono ?_
  rintro e w5 ⟨rfl, hc1, hf1, hz1, hb5⟩
  clear hc1 hf1 hz1
  rw [e1.out]
  have HB5 := hid_ ((HB4.out.setRow (enc b)).below hb5 (HB4.out.setRow (enc b)).lt)
  have HW5 := hid_ ((below_setRow (HW3.out.trans (HW4.out.mono hs3)) hs3 (enc b)).trans (hb5.mono (below_setRow (HW3.out.trans (HW4.out.mono hs3)) hs3 (enc b)).size))
  clear hb5 HB4 HW4 HW3
  go_wp2_with (with_reducible refine wpList_load29w (op := ⟨some 10, _, _, _, _, _⟩) (by with_unfolding_all rfl) (.tmp 1) rfl w3.heap.size (by with_unfolding_all rfl) (enc b) HB5.out HS.out ?_)
  refine (tick_any b HO.out _).mono ?_
  rintro e w6 ⟨rfl, hc1, hf1, hz1, hb6⟩
  clear hc1 hf1 hz1
  have HB6 := hid_ (HB5.out.below hb6 HB5.out.lt)
  have HW6 := hid_ (HW5.out.trans (hb6.mono HW5.out.size))
  clear hb6 HB5 HW5
  have hd : ∀ W, (Instr.field 29 (.agg (enc (tickB b))) 2).run Try.prog W = .ok (.int .i64 1) W := fun W => by rw [div_field _ (tick_ok HO.out).regs W, e2.out]
  go_wp2_with (with_reducible refine wpList_load29w (op := ⟨some 16, _, _, _, _, _⟩) (by with_unfolding_all rfl) (.tmp 1) rfl w3.heap.size (by with_unfolding_all rfl) (enc b) HB6.out HS.out ?_)
  refine (read_low b HO.out.toOkR 1 (by omega) _).mono ?_
  rintro e w7 ⟨rfl, hc1, hf1, hz1, hb7⟩
  clear hc1 hf1 hz1
  rw [e3.out]
  go_wp2_with fail
  go_ret
  exact .of rfl (HW6.out.trans (hb7.mono HW6.out.size))
end Go.Proofs.Ytacbdapgdgliiaa
