/- The law of what is switched off: its walk. -/
import Derived.Test.YtacbdapgdgliiaaEq
namespace Go.Proofs.Ytacbdapgdgliiaa.soundOff
open Go.RowKit
set_option linter.unusedSimpArgs false
set_option linter.unusedVariables false

theorem and127 (a : Int) (h : 0 ≤ a) (h' : a ≤ 255) : bits .and .u8 a 127 = a % 128 :=
  upto (P := fun a => bits .and .u8 a 127 = a % 128) (by decide +kernel) a h h'
theorem off_write (b : Bd) (x : Int) (h0 : 0 ≤ x) (h1 : x ≤ 255) : writeB b 22 (x % 128) = offB b := by
  rw [write_22, decide_eq_false (by omega)]; rfl
theorem off_reg (b : Bd) (i : Nat) (hi : i < 22) : (offB b).reg i = 0 := by
  show (List.replicate 22 (0 : Int) ++ b.regs.drop 22).getD i 0 = 0
  rw [List.getD_eq_getElem?_getD, List.getElem?_append_left (by rw [List.length_replicate]; exact hi), List.getElem?_replicate, if_pos hi]; rfl
theorem zero_reg (i : Nat) (hi : i < 22) : zeroB.reg i = 0 := by
  show (List.replicate 48 (0 : Int)).getD i 0 = 0
  rw [List.getD_eq_getElem?_getD, List.getElem?_replicate, if_pos (by omega)]; rfl
theorem run_load29g {op : Oper} {a : Act} {w : World} (x : Operand) (ho : op.op = .load 29 x) (g : Nat) (hx : a.eval x = .pointer (some ⟨g, 0, none⟩)) (cs : Array Value) (hB : Blk w g 29 cs) (hs : cs.size = 70) :
    (execOp a.eval op).run Try.prog w = .ok (.value (.agg cs)) w := by
  unfold execOp
  simp only [ho, hx, Instr.loadAt, Instr.sureAddr, Sem.run_bind, Sem.run_pure, Result.andThen_ok, board_load hB hs]
theorem run_eq29 {op : Oper} {a : Act} {w : World} (x y : Operand) (ho : op.op = .binOp .eql 29 x y 29) (b : Bd) (hr : b.regs.length = 48) (hx : a.eval x = .agg (enc b)) (hy : a.eval y = .agg (enc b)) :
    (execOp a.eval op).run Try.prog w = .ok (.value (.bool true)) w := by
  have e : (Op.equal 29 (.agg (enc b)) (.agg (enc b))).run Try.prog w = .ok true w := by unfold Op.equal; exact board_same b hr w
  unfold execOp
  simp only [ho, hx, hy]
  simp [eqGuard, binOp, e, go_sem]

set_option maxRecDepth 20000 in
set_option maxHeartbeats 4000000 in
theorem walkA (a : Option Addr) (len cap : Nat) (z : Unit) (hl : len ≤ 40) (k0 : Nat) (x : Int) (h32 : 32 ≤ k0) (h48 : k0 < 48) (hx0 : 0 ≤ x) (hx1 : x ≤ 255) (w : World) (hops : IsOps w a len z) :
    Calls Try.prog 5 #[.slice a len cap, .int .i64 (k0 : Int), .int .u8 x] w (Ret (.bool true) w) := by
  have HP := hid_ hops
  have hz := board_zero
  have hsz : (enc zeroB).size = 70 := enc_size zeroB rfl
  have HZ := hid_ hsz
  have ql : decide (40 < (len : Int)) = false := by simp; omega
  have e127 := and127 x hx0 hx1
  have d1 : decide (32 ≤ (k0 : Int)) = true := by simp; omega
  have d2 : decide ((k0 : Int) < 48) = true := by simp; omega
  clear hops
  go_enter Try.func5, Try.ntmps5
  go_wp2_with fail
  refine (awake_any _).mono ?_
  rintro e w1 ⟨rfl, hc1, hf1, hz1, hb1⟩
  clear hc1 hf1 hz1
  have HP1 := hid_ (HP.out.below hb1)
  have HW1 := hid_ hb1
  clear hb1
  go_wp2_with fail
  refine (play_any a len cap z (by omega) _ HP1.out).mono ?_
  rintro e w2 ⟨b, hbok, rfl, hc1, hf1, hz1, hb2⟩
  clear hc1 hf1 hz1 HP1 HP
  have HW2 := hid_ (below_join HW1.out hb2)
  clear hb2 HW1
  have HOb := hid_ hbok
  clear hbok
  go_wp2_with fail
  refine (write_any b HOb.out 22 (x % 128) (by omega) (by omega) _).mono ?_
  rintro e w3 ⟨rfl, hc1, hf1, hz1, hb3⟩
  clear hc1 hf1 hz1
  have HW3 := hid_ (below_join HW2.out hb3)
  have hs3 := HW3.out.size
  clear hb3 HW2
  rw [off_write b x hx0 hx1]
  have HOB := hid_ (off_ok HOb.out)
  have HBF : Hid ((offB b).on = false) := rfl
  have E112 : Hid (accB (offB b) 4 = 112) := rfl
  have HRZ : Hid (∀ i, i < 22 → (offB b).reg i = 0) := off_reg b
  have HSB := hid_ (enc_size _ HOB.out.regs)
  have H1B := hid_ (enc_one (offB b))
  generalize offB b = B at *
  clear HOb ql e127
  go_wp2_with (first
    | ((with_reducible refine wpList_allocZ2 (op := ⟨some 7, .alloc 29, _, _, _, _⟩) rfl rfl ?_); intro w4 HB4 HW4 hl4)
    | (with_reducible refine wpList_store29 (op := ⟨none, .store 29 (.tmp 7) (.tmp 22), _, _, _, _⟩) rfl (.tmp 7) (.tmp 22) rfl w3.heap.size (enc zeroB) (enc B) (by with_unfolding_all rfl) (by with_unfolding_all rfl) HB4.out HZ.out HSB.out H1B.out ?_))
  have HB5 : Hid (Blk (w4.setRow w3.heap.size (enc B)) w3.heap.size 29 (enc B)) := HB4.out.setRow _
  have HW5 : Hid (Below w.heap.size w (w4.setRow w3.heap.size (enc B))) := below_setRow (HW3.out.trans (HW4.out.mono hs3)) hs3 _
  clear HB4 HW3 HW4 hl4
  generalize w4.setRow w3.heap.size (enc B) = w5 at *
  generalize w3.heap.size = g7 at *
  go_loopw [23] (fun i wr => ∃ k : Nat, k ≤ 22 ∧ i = .int .i64 k ∧ Hid (Blk wr g7 29 (enc B)) ∧ Hid (Below w.heap.size w wr)) (fun i _ => 22 - (intOf i).toNat)
  case atStart => exact ⟨0, by omega, rfl, HB5, HW5⟩
  case round =>
    clear HB5 HW5
    obtain ⟨k, hk, rfl, HB, HW⟩ := hrel
    by_cases hlt : k < 22
    · have q : decide ((k : Int) < 22) = true := by simp; omega
      go_wp2_with (with_reducible refine wpList_load29 (op := ⟨some 26, _, _, _, _, _⟩) rfl (.tmp 7) rfl g7 (by with_unfolding_all rfl) (enc B) HB.out HSB.out ?_)
      refine (read_low B HOB.out.toOkR k hlt _).mono ?_
      rintro e w6 ⟨rfl, hc1, hf1, hz1, hb6⟩
      clear hc1 hf1 hz1
      rw [HRZ.out k hlt]
      have HB6 := hid_ (HB.out.below hb6 HB.out.lt)
      have HW6 := hid_ (below_join HW.out hb6)
      clear hb6 HB HW
      go_wp2_with fail
      refine (read_low zeroB zero_ok.toOkR k hlt _).mono ?_
      rintro e w7 ⟨rfl, hc1, hf1, hz1, hb7⟩
      clear hc1 hf1 hz1
      rw [zero_reg k hlt]
      have HB7 := hid_ (HB6.out.below hb7 HB6.out.lt)
      have HW7 := hid_ (below_join HW6.out hb7)
      clear hb7 HB6 HW6
      go_wp2_with fail
      go_roundw
      case rel => exact ⟨k + 1, by omega, by go_num, HB7, HW7⟩
      case measure => simp [intOf]; omega
    · obtain rfl : k = 22 := by omega
      go_wp2_with (with_reducible refine wpList_load29 (op := ⟨some 34, _, _, _, _, _⟩) rfl (.tmp 7) rfl g7 (by with_unfolding_all rfl) (enc B) HB.out HSB.out ?_)
      refine (write_any B HOB.out (k0 : Int) x hx0 hx1 _).mono ?_
      rintro e w6 ⟨rfl, hc1, hf1, hz1, hb6⟩
      clear hc1 hf1 hz1
      have HB6 := hid_ (HB.out.below hb6 HB.out.lt)
      have HW6 := hid_ (below_join HW.out hb6)
      have hs6 := HW6.out.size
      have hl6 := HB6.out.lt
      clear hb6 HB HW
      have hw : writeB B (k0 : Int) x = putB B k0 x := by
        unfold writeB
        rw [if_neg (by omega), if_neg (by omega), if_neg (by omega), if_pos (by omega)]; rfl
      rw [hw]
      clear hw
      have HOC := hid_ (put_ok HOB.out k0 x hx0 hx1)
      have HSC := hid_ (enc_size _ HOC.out.regs)
      have H1C := hid_ (enc_one (putB B k0 x))
      have HRC : Hid ((putB B k0 x).reg k0 = x) := by
        show (B.regs.set k0 x).getD k0 0 = x
        rw [getD_set, if_pos ⟨rfl, by have := HOB.out.regs; omega⟩]
      generalize putB B k0 x = C at *
      go_wp2_with (first
        | ((with_reducible refine wpList_allocZ2 (op := ⟨some 9, .alloc 29, _, _, _, _⟩) rfl rfl ?_); intro w7 HB7 HW7 hl7)
        | (with_reducible refine wpList_store29 (op := ⟨none, .store 29 (.tmp 9) (.tmp 37), _, _, _, _⟩) rfl (.tmp 9) (.tmp 37) rfl w6.heap.size (enc zeroB) (enc C) (by with_unfolding_all rfl) (by with_unfolding_all rfl) HB7.out HZ.out HSC.out H1C.out ?_)
        | (with_reducible refine wpList_load29 (op := ⟨some 44, _, _, _, _, _⟩) rfl (.tmp 9) rfl w6.heap.size (by with_unfolding_all rfl) (enc C) (HB7.out.setRow _) HSC.out ?_))
      have HC9 : Hid (Blk (w7.setRow w6.heap.size (enc C)) w6.heap.size 29 (enc C)) := HB7.out.setRow _
      have HB8 : Hid (Blk (w7.setRow w6.heap.size (enc C)) g7 29 (enc B)) := (HB6.out.below HW7.out hl6).farRow (by omega) _
      have HW8 : Hid (Below w.heap.size w (w7.setRow w6.heap.size (enc C))) := below_setRow (HW6.out.trans (HW7.out.mono hs6)) hs6 _
      clear HB7 HW7 HB6 HW6 hl7
      generalize w7.setRow w6.heap.size (enc C) = wq at *
      generalize w6.heap.size = g9 at *
      refine (read_waves C HOC.out.toOkR k0 h32 h48 _).mono ?_
      rintro e w8 ⟨rfl, hc1, hf1, hz1, hb8⟩
      clear hc1 hf1 hz1
      rw [HRC.out]
      have HB9 := hid_ (HB8.out.below hb8 HB8.out.lt)
      have HW9 := hid_ (below_join HW8.out hb8)
      clear hb8 HB8 HW8
      go_wp2_with (with_reducible refine wpList_load29w (op := ⟨some 50, _, _, _, _, _⟩) (by with_unfolding_all rfl) (.tmp 7) rfl g7 (by with_unfolding_all rfl) (enc B) HB9.out HSB.out ?_)
      refine (read_power B HOB.out.toOkR _).mono ?_
      rintro e wa ⟨rfl, hc1, hf1, hz1, hba⟩
      clear hc1 hf1 hz1
      rw [E112.out]
      go_wp2_with fail
      go_ret
      exact .of (by first | rfl | simp) (below_join HW9.out hba)

set_option maxRecDepth 20000 in
set_option maxHeartbeats 4000000 in
theorem walkB (a : Option Addr) (len cap : Nat) (z : Unit) (hl : len ≤ 40) (x : Int) (hx0 : 0 ≤ x) (hx1 : x ≤ 255) (w : World) (hops : IsOps w a len z) :
    Calls Try.prog 5 #[.slice a len cap, .int .i64 22, .int .u8 x] w (Ret (.bool true) w) := by
  have HP := hid_ hops
  have hz := board_zero
  have hsz : (enc zeroB).size = 70 := enc_size zeroB rfl
  have HZ := hid_ hsz
  have ql : decide (40 < (len : Int)) = false := by simp; omega
  have e127 := and127 x hx0 hx1
  clear hops
  go_enter Try.func5, Try.ntmps5
  go_wp2_with fail
  refine (awake_any _).mono ?_
  rintro e w1 ⟨rfl, hc1, hf1, hz1, hb1⟩
  clear hc1 hf1 hz1
  have HP1 := hid_ (HP.out.below hb1)
  have HW1 := hid_ hb1
  clear hb1
  go_wp2_with fail
  refine (play_any a len cap z (by omega) _ HP1.out).mono ?_
  rintro e w2 ⟨b, hbok, rfl, hc1, hf1, hz1, hb2⟩
  clear hc1 hf1 hz1 HP1 HP
  have HW2 := hid_ (below_join HW1.out hb2)
  clear hb2 HW1
  have HOb := hid_ hbok
  clear hbok
  go_wp2_with fail
  refine (write_any b HOb.out 22 (x % 128) (by omega) (by omega) _).mono ?_
  rintro e w3 ⟨rfl, hc1, hf1, hz1, hb3⟩
  clear hc1 hf1 hz1
  have HW3 := hid_ (below_join HW2.out hb3)
  have hs3 := HW3.out.size
  clear hb3 HW2
  rw [off_write b x hx0 hx1]
  have HOB := hid_ (off_ok HOb.out)
  have HBF : Hid ((offB b).on = false) := rfl
  have E112 : Hid (accB (offB b) 4 = 112) := rfl
  have HRZ : Hid (∀ i, i < 22 → (offB b).reg i = 0) := off_reg b
  have HSB := hid_ (enc_size _ HOB.out.regs)
  have H1B := hid_ (enc_one (offB b))
  generalize offB b = B at *
  clear HOb ql e127
  go_wp2_with (first
    | ((with_reducible refine wpList_allocZ2 (op := ⟨some 7, .alloc 29, _, _, _, _⟩) rfl rfl ?_); intro w4 HB4 HW4 hl4)
    | (with_reducible refine wpList_store29 (op := ⟨none, .store 29 (.tmp 7) (.tmp 22), _, _, _, _⟩) rfl (.tmp 7) (.tmp 22) rfl w3.heap.size (enc zeroB) (enc B) (by with_unfolding_all rfl) (by with_unfolding_all rfl) HB4.out HZ.out HSB.out H1B.out ?_))
  have HB5 : Hid (Blk (w4.setRow w3.heap.size (enc B)) w3.heap.size 29 (enc B)) := HB4.out.setRow _
  have HW5 : Hid (Below w.heap.size w (w4.setRow w3.heap.size (enc B))) := below_setRow (HW3.out.trans (HW4.out.mono hs3)) hs3 _
  clear HB4 HW3 HW4 hl4
  generalize w4.setRow w3.heap.size (enc B) = w5 at *
  generalize w3.heap.size = g7 at *
  go_loopw [23] (fun i wr => ∃ k : Nat, k ≤ 22 ∧ i = .int .i64 k ∧ Hid (Blk wr g7 29 (enc B)) ∧ Hid (Below w.heap.size w wr)) (fun i _ => 22 - (intOf i).toNat)
  case atStart => exact ⟨0, by omega, rfl, HB5, HW5⟩
  case round =>
    clear HB5 HW5
    obtain ⟨k, hk, rfl, HB, HW⟩ := hrel
    by_cases hlt : k < 22
    · have q : decide ((k : Int) < 22) = true := by simp; omega
      go_wp2_with (with_reducible refine wpList_load29 (op := ⟨some 26, _, _, _, _, _⟩) rfl (.tmp 7) rfl g7 (by with_unfolding_all rfl) (enc B) HB.out HSB.out ?_)
      refine (read_low B HOB.out.toOkR k hlt _).mono ?_
      rintro e w6 ⟨rfl, hc1, hf1, hz1, hb6⟩
      clear hc1 hf1 hz1
      rw [HRZ.out k hlt]
      have HB6 := hid_ (HB.out.below hb6 HB.out.lt)
      have HW6 := hid_ (below_join HW.out hb6)
      clear hb6 HB HW
      go_wp2_with fail
      refine (read_low zeroB zero_ok.toOkR k hlt _).mono ?_
      rintro e w7 ⟨rfl, hc1, hf1, hz1, hb7⟩
      clear hc1 hf1 hz1
      rw [zero_reg k hlt]
      have HB7 := hid_ (HB6.out.below hb7 HB6.out.lt)
      have HW7 := hid_ (below_join HW6.out hb7)
      clear hb7 HB6 HW6
      go_wp2_with fail
      go_roundw
      case rel => exact ⟨k + 1, by omega, by go_num, HB7, HW7⟩
      case measure => simp [intOf]; omega
    · obtain rfl : k = 22 := by omega
      go_wp2_with (with_reducible refine wpList_load29 (op := ⟨some 34, _, _, _, _, _⟩) rfl (.tmp 7) rfl g7 (by with_unfolding_all rfl) (enc B) HB.out HSB.out ?_)
      refine (write_any B HOB.out 22 x hx0 hx1 _).mono ?_
      rintro e w6 ⟨rfl, hc1, hf1, hz1, hb6⟩
      clear hc1 hf1 hz1
      have HB6 := hid_ (HB.out.below hb6 HB.out.lt)
      have HW6 := hid_ (below_join HW.out hb6)
      have hs6 := HW6.out.size
      have hl6 := HB6.out.lt
      clear hb6 HB HW
      have HOC := hid_ (write_ok HOB.out 22 x hx0 hx1)
      have HSC := hid_ (enc_size _ HOC.out.regs)
      have H1C := hid_ (enc_one (writeB B 22 x))
      generalize writeB B 22 x = C at *
      go_wp2_with (first
        | ((with_reducible refine wpList_allocZ2 (op := ⟨some 9, .alloc 29, _, _, _, _⟩) rfl rfl ?_); intro w7 HB7 HW7 hl7)
        | (with_reducible refine wpList_store29 (op := ⟨none, .store 29 (.tmp 9) (.tmp 37), _, _, _, _⟩) rfl (.tmp 9) (.tmp 37) rfl w6.heap.size (enc zeroB) (enc C) (by with_unfolding_all rfl) (by with_unfolding_all rfl) HB7.out HZ.out HSC.out H1C.out ?_))
      have HC9 : Hid (Blk (w7.setRow w6.heap.size (enc C)) w6.heap.size 29 (enc C)) := HB7.out.setRow _
      have HB8 : Hid (Blk (w7.setRow w6.heap.size (enc C)) g7 29 (enc B)) := (HB6.out.below HW7.out hl6).farRow (by omega) _
      have HW8 : Hid (Below w.heap.size w (w7.setRow w6.heap.size (enc C))) := below_setRow (HW6.out.trans (HW7.out.mono hs6)) hs6 _
      clear HB7 HW7 HB6 HW6 hl7
      generalize w7.setRow w6.heap.size (enc C) = wq at *
      generalize w6.heap.size = g9 at *
      have HB7 := HB8
      refine wp_region_tail (S := (fun W => (∀ b o, b < wq.heap.size → W.cell? ⟨b, o, none⟩ = wq.cell? ⟨b, o, none⟩) ∧ Keeps wq W)) (tail := (fun _ => false)) (by kernel_rfl) ?hS1 (fun hHeld => ?rest1)
      case hS1 => (exact ⟨fun _ _ _ => rfl, (Keeps.refl _).drew⟩)
      refine wpAnyT_take (i := 0) (v := ?v2) rfl (by kernel_rfl) (by kernel_rfl) (by kernel_rfl) (by kernel_rfl) (by kernel_rfl) (fun _ _ _ h => h) (Or.inl ⟨by rfl, ?hy2⟩) (by assumption) ?rest2
      case hy2 => (intro w hSw; (try simp only [List.getElem_toArray, List.getElem_cons_succ, List.getElem_cons_zero]); (try dsimp only at hSw); go_simp; all_goals (with_reducible rfl))
      (try simp only [Act.put, List.getElem_toArray, List.getElem_cons_succ, List.getElem_cons_zero, List.setIfInBounds_toArray, List.set_cons_zero, List.set_cons_succ])
      refine wpAnyT_take (i := 1) (v := ?v3) rfl (by kernel_rfl) (by kernel_rfl) (by kernel_rfl) (by kernel_rfl) (by kernel_rfl) (fun _ _ _ h => h) (Or.inl ⟨by rfl, ?hy3⟩) (by assumption) ?rest3
      case hy3 => (intro w hSw; (try simp only [List.getElem_toArray, List.getElem_cons_succ, List.getElem_cons_zero]); (try dsimp only at hSw); go_simp; all_goals (with_reducible rfl))
      (try simp only [Act.put, List.getElem_toArray, List.getElem_cons_succ, List.getElem_cons_zero, List.setIfInBounds_toArray, List.set_cons_zero, List.set_cons_succ])
      refine wpAnyT_take (i := 2) (v := ?v4) rfl (by kernel_rfl) (by kernel_rfl) (by kernel_rfl) (by kernel_rfl) (by kernel_rfl) (fun _ _ _ h => h) (Or.inl ⟨by rfl, ?hy4⟩) (by assumption) ?rest4
      case hy4 => (intro w hSw; (try simp only [List.getElem_toArray, List.getElem_cons_succ, List.getElem_cons_zero]); (try dsimp only at hSw); go_simp; all_goals (with_reducible rfl))
      (try simp only [Act.put, List.getElem_toArray, List.getElem_cons_succ, List.getElem_cons_zero, List.setIfInBounds_toArray, List.set_cons_zero, List.set_cons_succ])
      refine wpAnyT_take (i := 3) (v := undef) rfl (by kernel_rfl) (by kernel_rfl) (by kernel_rfl) (by kernel_rfl) (by kernel_rfl) (fun _ _ _ h => h) (Or.inr ⟨by rfl, rfl⟩) (by assumption) ?rest5
      (try simp only [Act.put, List.getElem_toArray, List.getElem_cons_succ, List.getElem_cons_zero, List.setIfInBounds_toArray, List.set_cons_zero, List.set_cons_succ])
      refine wpAnyT_take (i := 4) (v := undef) rfl (by kernel_rfl) (by kernel_rfl) (by kernel_rfl) (by kernel_rfl) (by kernel_rfl) (fun _ _ _ h => h) (Or.inr ⟨by rfl, rfl⟩) (by assumption) ?rest6
      (try simp only [Act.put, List.getElem_toArray, List.getElem_cons_succ, List.getElem_cons_zero, List.setIfInBounds_toArray, List.set_cons_zero, List.set_cons_succ])
      refine wpAnyT_take (i := 5) (v := undef) rfl (by kernel_rfl) (by kernel_rfl) (by kernel_rfl) (by kernel_rfl) (by kernel_rfl) (fun _ _ _ h => h) (Or.inr ⟨by rfl, rfl⟩) (by assumption) ?rest7
      (try simp only [Act.put, List.getElem_toArray, List.getElem_cons_succ, List.getElem_cons_zero, List.setIfInBounds_toArray, List.set_cons_zero, List.set_cons_succ])
      refine wpAnyT_take (i := 6) (v := ?v8) rfl (by kernel_rfl) (by kernel_rfl) (by kernel_rfl) (by kernel_rfl) (by kernel_rfl) (fun _ _ _ h => h) (Or.inl ⟨by rfl, ?hy8⟩) (by assumption) ?rest8
      case hy8 => (intro w hSw; (try simp only [List.getElem_toArray, List.getElem_cons_succ, List.getElem_cons_zero]); (try dsimp only at hSw); go_simp; all_goals (with_reducible rfl))
      (try simp only [Act.put, List.getElem_toArray, List.getElem_cons_succ, List.getElem_cons_zero, List.setIfInBounds_toArray, List.set_cons_zero, List.set_cons_succ])
      refine wpAnyT_take (i := 7) (v := ?v9) rfl (by kernel_rfl) (by kernel_rfl) (by kernel_rfl) (by kernel_rfl) (by kernel_rfl) (fun _ _ _ h => h) (Or.inl ⟨by rfl, ?hy9⟩) (by assumption) ?rest9
      case hy9 => (intro w hSw; (try simp only [List.getElem_toArray, List.getElem_cons_succ, List.getElem_cons_zero]); (try dsimp only at hSw); go_simp; all_goals (with_reducible rfl))
      (try simp only [Act.put, List.getElem_toArray, List.getElem_cons_succ, List.getElem_cons_zero, List.setIfInBounds_toArray, List.set_cons_zero, List.set_cons_succ])
      refine wpAnyT_take (i := 8) (v := .agg (enc B)) rfl (by kernel_rfl) (by kernel_rfl) (by kernel_rfl) (by kernel_rfl) (by kernel_rfl) (fun _ _ _ h => h) (Or.inl ⟨by rfl, ?hy10⟩) (by assumption) ?rest10
      case hy10 => (intro W hSw; exact run_load29g (.tmp 7) rfl g7 (by with_unfolding_all rfl) (enc B) (HB7.out.below hSw.2 HB7.out.lt) HSB.out)
      (try simp only [Act.put, List.getElem_toArray, List.getElem_cons_succ, List.getElem_cons_zero, List.setIfInBounds_toArray, List.set_cons_zero, List.set_cons_succ])
      refine wpAnyT_one (i := 9) rfl (by kernel_rfl) (fun K hK => ?_)
      (try simp only [List.getElem_toArray, List.getElem_cons_succ, List.getElem_cons_zero])
      go_simp
      (refine (read_power B HOB.out.toOkR _).mono ?_; rintro e w8 ⟨rfl, hc4, hf4, hz4, hb4⟩; rw [E112.out]; have hk8 := Keeps.step (wo := wq) hHeld.2 hb4; clear hc4 hf4 hz4 hb4 hHeld)
      (try go_wp2_with fail)
      refine hK.out _ _ ?hS11 ?rest11
      case hS11 => (exact ⟨fun _ _ h => Keeps.cells hk8 _ _ h, hk8⟩)
      clear hK K
      (try simp only [Act.put, List.getElem_toArray, List.getElem_cons_succ, List.getElem_cons_zero, List.setIfInBounds_toArray, List.set_cons_zero, List.set_cons_succ])
      have hHeld : (fun W => (∀ b o, b < wq.heap.size → W.cell? ⟨b, o, none⟩ = wq.cell? ⟨b, o, none⟩) ∧ Keeps wq W) w8 := ⟨fun _ _ h => Keeps.cells hk8 _ _ h, hk8⟩
      refine wpAnyT_take (i := 10) (v := ?v12) rfl (by kernel_rfl) (by kernel_rfl) (by kernel_rfl) (by kernel_rfl) (by kernel_rfl) (fun _ _ _ h => h) (Or.inl ⟨by rfl, ?hy12⟩) (by assumption) ?rest12
      case hy12 => (intro w hSw; (try simp only [List.getElem_toArray, List.getElem_cons_succ, List.getElem_cons_zero]); (try dsimp only at hSw); go_simp; all_goals (with_reducible rfl))
      (try simp only [Act.put, List.getElem_toArray, List.getElem_cons_succ, List.getElem_cons_zero, List.setIfInBounds_toArray, List.set_cons_zero, List.set_cons_succ])
      refine wpAnyT_take (i := 11) (v := ?v13) rfl (by kernel_rfl) (by kernel_rfl) (by kernel_rfl) (by kernel_rfl) (by kernel_rfl) (fun _ _ _ h => h) (Or.inl ⟨by rfl, ?hy13⟩) (by assumption) ?rest13
      case hy13 => (intro w hSw; (try simp only [List.getElem_toArray, List.getElem_cons_succ, List.getElem_cons_zero]); (try dsimp only at hSw); go_simp; all_goals (with_reducible rfl))
      (try simp only [Act.put, List.getElem_toArray, List.getElem_cons_succ, List.getElem_cons_zero, List.setIfInBounds_toArray, List.set_cons_zero, List.set_cons_succ])
      refine wpAnyT_take (i := 12) (v := ?v14) rfl (by kernel_rfl) (by kernel_rfl) (by kernel_rfl) (by kernel_rfl) (by kernel_rfl) (fun _ _ _ h => h) (Or.inl ⟨by rfl, ?hy14⟩) (by assumption) ?rest14
      case hy14 => (intro w hSw; (try simp only [List.getElem_toArray, List.getElem_cons_succ, List.getElem_cons_zero]); (try dsimp only at hSw); go_simp; all_goals (with_reducible rfl))
      (try simp only [Act.put, List.getElem_toArray, List.getElem_cons_succ, List.getElem_cons_zero, List.setIfInBounds_toArray, List.set_cons_zero, List.set_cons_succ])
      refine wpAnyT_take (i := 13) (v := .agg (enc B)) rfl (by kernel_rfl) (by kernel_rfl) (by kernel_rfl) (by kernel_rfl) (by kernel_rfl) (fun _ _ _ h => h) (Or.inl ⟨by rfl, ?hy15⟩) (by assumption) ?rest15
      case hy15 => (intro W hSw; exact run_load29g (.tmp 7) rfl g7 (by with_unfolding_all rfl) (enc B) (HB7.out.below hSw.2 HB7.out.lt) HSB.out)
      (try simp only [Act.put, List.getElem_toArray, List.getElem_cons_succ, List.getElem_cons_zero, List.setIfInBounds_toArray, List.set_cons_zero, List.set_cons_succ])
      refine wpAnyT_take (i := 15) (v := .agg (enc B)) rfl (by kernel_rfl) (by kernel_rfl) (by kernel_rfl) (by kernel_rfl) (by kernel_rfl) (fun _ _ _ h => h) (Or.inl ⟨by rfl, ?hy16⟩) (by assumption) ?rest16
      case hy16 => (intro W hSw; exact run_load29g (.tmp 7) rfl g7 (by with_unfolding_all rfl) (enc B) (HB7.out.below hSw.2 HB7.out.lt) HSB.out)
      (try simp only [Act.put, List.getElem_toArray, List.getElem_cons_succ, List.getElem_cons_zero, List.setIfInBounds_toArray, List.set_cons_zero, List.set_cons_succ])
      refine wpAnyT_one (i := 14) rfl (by kernel_rfl) (fun K hK => ?_)
      (try simp only [List.getElem_toArray, List.getElem_cons_succ, List.getElem_cons_zero])
      go_simp
      (refine (tick_off B HOB.out.toOkR HBF.out _).mono ?_; rintro e w9 ⟨rfl, hc4, hf4, hz4, hb4⟩; have hk9 := Keeps.step (wo := wq) hk8 hb4; clear hc4 hf4 hz4 hb4 hHeld)
      (try go_wp2_with fail)
      refine hK.out _ _ ?hS17 ?rest17
      case hS17 => (exact ⟨fun _ _ h => Keeps.cells hk9 _ _ h, hk9⟩)
      clear hK K
      (try simp only [Act.put, List.getElem_toArray, List.getElem_cons_succ, List.getElem_cons_zero, List.setIfInBounds_toArray, List.set_cons_zero, List.set_cons_succ])
      have hHeld : (fun W => (∀ b o, b < wq.heap.size → W.cell? ⟨b, o, none⟩ = wq.cell? ⟨b, o, none⟩) ∧ Keeps wq W) w9 := ⟨fun _ _ h => Keeps.cells hk9 _ _ h, hk9⟩
      refine wpAnyT_take (i := 16) (v := .bool true) rfl (by kernel_rfl) (by kernel_rfl) (by kernel_rfl) (by kernel_rfl) (by kernel_rfl) (fun _ _ _ h => h) (Or.inl ⟨by rfl, ?hy18⟩) (by assumption) ?rest18
      case hy18 => (intro W hSw; exact run_eq29 (.tmp 68) (.tmp 69) rfl B HOB.out.regs (by with_unfolding_all rfl) (by with_unfolding_all rfl))
      (try simp only [Act.put, List.getElem_toArray, List.getElem_cons_succ, List.getElem_cons_zero, List.setIfInBounds_toArray, List.set_cons_zero, List.set_cons_succ])
      refine wpAnyT_take (i := 17) (v := ?v19) rfl (by kernel_rfl) (by kernel_rfl) (by kernel_rfl) (by kernel_rfl) (by kernel_rfl) (fun _ _ _ h => h) (Or.inl ⟨by rfl, ?hy19⟩) (by assumption) ?rest19
      case hy19 => (intro w hSw; (try simp only [List.getElem_toArray, List.getElem_cons_succ, List.getElem_cons_zero]); (try dsimp only at hSw); go_simp; all_goals (with_reducible rfl))
      (try simp only [Act.put, List.getElem_toArray, List.getElem_cons_succ, List.getElem_cons_zero, List.setIfInBounds_toArray, List.set_cons_zero, List.set_cons_succ])
      refine wpAnyT_take (i := 18) (v := ?v20) rfl (by kernel_rfl) (by kernel_rfl) (by kernel_rfl) (by kernel_rfl) (by kernel_rfl) (fun _ _ _ h => h) (Or.inl ⟨by rfl, ?hy20⟩) (by assumption) ?rest20
      case hy20 => (intro w hSw; (try simp only [List.getElem_toArray, List.getElem_cons_succ, List.getElem_cons_zero]); (try dsimp only at hSw); go_simp; all_goals (with_reducible rfl))
      (try simp only [Act.put, List.getElem_toArray, List.getElem_cons_succ, List.getElem_cons_zero, List.setIfInBounds_toArray, List.set_cons_zero, List.set_cons_succ])
      refine wpAnyT_done (by kernel_rfl) ?_ _
      go_wp2_with fail
      go_ret
      exact .of rfl (HW8.out.trans (Below.mono hk9 HW8.out.size))

set_option maxRecDepth 20000 in
set_option maxHeartbeats 4000000 in
theorem walkC1 (a : Option Addr) (len cap : Nat) (z : Unit) (hl : len ≤ 40) (n x : Int) (hn : n ≠ 22 ∧ n < 32) (hx0 : 0 ≤ x) (hx1 : x ≤ 255) (w : World) (hops : IsOps w a len z) :
    Calls Try.prog 5 #[.slice a len cap, .int .i64 n, .int .u8 x] w (Ret (.bool true) w) := by
  have HP := hid_ hops
  have hz := board_zero
  have hsz : (enc zeroB).size = 70 := enc_size zeroB rfl
  have HZ := hid_ hsz
  have ql : decide (40 < (len : Int)) = false := by simp; omega
  have e127 := and127 x hx0 hx1
  have hn22 := hn.1
  have hnn := hn.2
  have d1 : decide (32 ≤ n) = false := by simp; omega
  have d2 : (n == 22) = false := by simp [hn22]
  clear hn
  clear hops
  go_enter Try.func5, Try.ntmps5
  go_wp2_with fail
  refine (awake_any _).mono ?_
  rintro e w1 ⟨rfl, hc1, hf1, hz1, hb1⟩
  clear hc1 hf1 hz1
  have HP1 := hid_ (HP.out.below hb1)
  have HW1 := hid_ hb1
  clear hb1
  go_wp2_with fail
  refine (play_any a len cap z (by omega) _ HP1.out).mono ?_
  rintro e w2 ⟨b, hbok, rfl, hc1, hf1, hz1, hb2⟩
  clear hc1 hf1 hz1 HP1 HP
  have HW2 := hid_ (below_join HW1.out hb2)
  clear hb2 HW1
  have HOb := hid_ hbok
  clear hbok
  go_wp2_with fail
  refine (write_any b HOb.out 22 (x % 128) (by omega) (by omega) _).mono ?_
  rintro e w3 ⟨rfl, hc1, hf1, hz1, hb3⟩
  clear hc1 hf1 hz1
  have HW3 := hid_ (below_join HW2.out hb3)
  have hs3 := HW3.out.size
  clear hb3 HW2
  rw [off_write b x hx0 hx1]
  have HOB := hid_ (off_ok HOb.out)
  have HBF : Hid ((offB b).on = false) := rfl
  have E112 : Hid (accB (offB b) 4 = 112) := rfl
  have HRZ : Hid (∀ i, i < 22 → (offB b).reg i = 0) := off_reg b
  have HSB := hid_ (enc_size _ HOB.out.regs)
  have H1B := hid_ (enc_one (offB b))
  generalize offB b = B at *
  clear HOb ql e127
  go_wp2_with (first
    | ((with_reducible refine wpList_allocZ2 (op := ⟨some 7, .alloc 29, _, _, _, _⟩) rfl rfl ?_); intro w4 HB4 HW4 hl4)
    | (with_reducible refine wpList_store29 (op := ⟨none, .store 29 (.tmp 7) (.tmp 22), _, _, _, _⟩) rfl (.tmp 7) (.tmp 22) rfl w3.heap.size (enc zeroB) (enc B) (by with_unfolding_all rfl) (by with_unfolding_all rfl) HB4.out HZ.out HSB.out H1B.out ?_))
  have HB5 : Hid (Blk (w4.setRow w3.heap.size (enc B)) w3.heap.size 29 (enc B)) := HB4.out.setRow _
  have HW5 : Hid (Below w.heap.size w (w4.setRow w3.heap.size (enc B))) := below_setRow (HW3.out.trans (HW4.out.mono hs3)) hs3 _
  clear HB4 HW3 HW4 hl4
  generalize w4.setRow w3.heap.size (enc B) = w5 at *
  generalize w3.heap.size = g7 at *
  go_loopw [23] (fun i wr => ∃ k : Nat, k ≤ 22 ∧ i = .int .i64 k ∧ Hid (Blk wr g7 29 (enc B)) ∧ Hid (Below w.heap.size w wr)) (fun i _ => 22 - (intOf i).toNat)
  case atStart => exact ⟨0, by omega, rfl, HB5, HW5⟩
  case round =>
    clear HB5 HW5
    obtain ⟨k, hk, rfl, HB, HW⟩ := hrel
    by_cases hlt : k < 22
    · have q : decide ((k : Int) < 22) = true := by simp; omega
      go_wp2_with (with_reducible refine wpList_load29 (op := ⟨some 26, _, _, _, _, _⟩) rfl (.tmp 7) rfl g7 (by with_unfolding_all rfl) (enc B) HB.out HSB.out ?_)
      refine (read_low B HOB.out.toOkR k hlt _).mono ?_
      rintro e w6 ⟨rfl, hc1, hf1, hz1, hb6⟩
      clear hc1 hf1 hz1
      rw [HRZ.out k hlt]
      have HB6 := hid_ (HB.out.below hb6 HB.out.lt)
      have HW6 := hid_ (below_join HW.out hb6)
      clear hb6 HB HW
      go_wp2_with fail
      refine (read_low zeroB zero_ok.toOkR k hlt _).mono ?_
      rintro e w7 ⟨rfl, hc1, hf1, hz1, hb7⟩
      clear hc1 hf1 hz1
      rw [zero_reg k hlt]
      have HB7 := hid_ (HB6.out.below hb7 HB6.out.lt)
      have HW7 := hid_ (below_join HW6.out hb7)
      clear hb7 HB6 HW6
      go_wp2_with fail
      go_roundw
      case rel => exact ⟨k + 1, by omega, by go_num, HB7, HW7⟩
      case measure => simp [intOf]; omega
    · obtain rfl : k = 22 := by omega
      go_wp2_with (with_reducible refine wpList_load29 (op := ⟨some 34, _, _, _, _, _⟩) rfl (.tmp 7) rfl g7 (by with_unfolding_all rfl) (enc B) HB.out HSB.out ?_)
      refine (write_any B HOB.out n x hx0 hx1 _).mono ?_
      rintro e w6 ⟨rfl, hc1, hf1, hz1, hb6⟩
      clear hc1 hf1 hz1
      have HB6 := hid_ (HB.out.below hb6 HB.out.lt)
      have HW6 := hid_ (below_join HW.out hb6)
      have hs6 := HW6.out.size
      have hl6 := HB6.out.lt
      clear hb6 HB HW
      have hw : writeB B n x = B := by
        unfold writeB
        by_cases h : n < 0 ∨ 48 ≤ n
        · rw [if_pos h]
        · rw [if_neg h, if_neg hn22, if_pos ⟨HBF.out, by omega⟩]
      rw [hw]
      clear hw
      go_wp2_with (first
        | ((with_reducible refine wpList_allocZ2 (op := ⟨some 9, .alloc 29, _, _, _, _⟩) rfl rfl ?_); intro w7 HB7 HW7 hl7)
        | (with_reducible refine wpList_store29 (op := ⟨none, .store 29 (.tmp 9) (.tmp 37), _, _, _, _⟩) rfl (.tmp 9) (.tmp 37) rfl w6.heap.size (enc zeroB) (enc B) (by with_unfolding_all rfl) (by with_unfolding_all rfl) HB7.out HZ.out HSB.out H1B.out ?_))
      have HC9 : Hid (Blk (w7.setRow w6.heap.size (enc B)) w6.heap.size 29 (enc B)) := HB7.out.setRow _
      have HB8 : Hid (Blk (w7.setRow w6.heap.size (enc B)) g7 29 (enc B)) := (HB6.out.below HW7.out hl6).farRow (by omega) _
      have HW8 : Hid (Below w.heap.size w (w7.setRow w6.heap.size (enc B))) := below_setRow (HW6.out.trans (HW7.out.mono hs6)) hs6 _
      clear HB7 HW7 HB6 HW6 hl7
      generalize w7.setRow w6.heap.size (enc B) = wq at *
      generalize w6.heap.size = g9 at *
      have HB7 := HB8
      refine wp_region_tail (S := (fun W => (∀ b o, b < wq.heap.size → W.cell? ⟨b, o, none⟩ = wq.cell? ⟨b, o, none⟩) ∧ Keeps wq W)) (tail := (fun _ => false)) (by kernel_rfl) ?hS21 (fun hHeld => ?rest21)
      case hS21 => (exact ⟨fun _ _ _ => rfl, (Keeps.refl _).drew⟩)
      refine wpAnyT_take (i := 0) (v := ?v22) rfl (by kernel_rfl) (by kernel_rfl) (by kernel_rfl) (by kernel_rfl) (by kernel_rfl) (fun _ _ _ h => h) (Or.inl ⟨by rfl, ?hy22⟩) (by assumption) ?rest22
      case hy22 => (intro w hSw; (try simp only [List.getElem_toArray, List.getElem_cons_succ, List.getElem_cons_zero]); (try dsimp only at hSw); go_simp; all_goals (with_reducible rfl))
      (try simp only [Act.put, List.getElem_toArray, List.getElem_cons_succ, List.getElem_cons_zero, List.setIfInBounds_toArray, List.set_cons_zero, List.set_cons_succ])
      refine wpAnyT_take (i := 1) (v := ?v23) rfl (by kernel_rfl) (by kernel_rfl) (by kernel_rfl) (by kernel_rfl) (by kernel_rfl) (fun _ _ _ h => h) (Or.inl ⟨by rfl, ?hy23⟩) (by assumption) ?rest23
      case hy23 => (intro w hSw; (try simp only [List.getElem_toArray, List.getElem_cons_succ, List.getElem_cons_zero]); (try dsimp only at hSw); go_simp; all_goals (with_reducible rfl))
      (try simp only [Act.put, List.getElem_toArray, List.getElem_cons_succ, List.getElem_cons_zero, List.setIfInBounds_toArray, List.set_cons_zero, List.set_cons_succ])
      refine wpAnyT_take (i := 2) (v := ?v24) rfl (by kernel_rfl) (by kernel_rfl) (by kernel_rfl) (by kernel_rfl) (by kernel_rfl) (fun _ _ _ h => h) (Or.inl ⟨by rfl, ?hy24⟩) (by assumption) ?rest24
      case hy24 => (intro w hSw; (try simp only [List.getElem_toArray, List.getElem_cons_succ, List.getElem_cons_zero]); (try dsimp only at hSw); go_simp; all_goals (with_reducible rfl))
      (try simp only [Act.put, List.getElem_toArray, List.getElem_cons_succ, List.getElem_cons_zero, List.setIfInBounds_toArray, List.set_cons_zero, List.set_cons_succ])
      refine wpAnyT_take (i := 3) (v := .agg (enc B)) rfl (by kernel_rfl) (by kernel_rfl) (by kernel_rfl) (by kernel_rfl) (by kernel_rfl) (fun _ _ _ h => h) (Or.inl ⟨by rfl, ?hy25⟩) (by assumption) ?rest25
      case hy25 => (intro W hSw; exact run_load29g (.tmp 9) rfl g9 (by with_unfolding_all rfl) (enc B) (HC9.out.below hSw.2 HC9.out.lt) HSB.out)
      (try simp only [Act.put, List.getElem_toArray, List.getElem_cons_succ, List.getElem_cons_zero, List.setIfInBounds_toArray, List.set_cons_zero, List.set_cons_succ])
      refine wpAnyT_take (i := 4) (v := .agg (enc B)) rfl (by kernel_rfl) (by kernel_rfl) (by kernel_rfl) (by kernel_rfl) (by kernel_rfl) (fun _ _ _ h => h) (Or.inl ⟨by rfl, ?hy26⟩) (by assumption) ?rest26
      case hy26 => (intro W hSw; exact run_load29g (.tmp 7) rfl g7 (by with_unfolding_all rfl) (enc B) (HB7.out.below hSw.2 HB7.out.lt) HSB.out)
      (try simp only [Act.put, List.getElem_toArray, List.getElem_cons_succ, List.getElem_cons_zero, List.setIfInBounds_toArray, List.set_cons_zero, List.set_cons_succ])
      refine wpAnyT_take (i := 5) (v := .bool true) rfl (by kernel_rfl) (by kernel_rfl) (by kernel_rfl) (by kernel_rfl) (by kernel_rfl) (fun _ _ _ h => h) (Or.inl ⟨by rfl, ?hy27⟩) (by assumption) ?rest27
      case hy27 => (intro W hSw; exact run_eq29 (.tmp 57) (.tmp 58) rfl B HOB.out.regs (by with_unfolding_all rfl) (by with_unfolding_all rfl))
      (try simp only [Act.put, List.getElem_toArray, List.getElem_cons_succ, List.getElem_cons_zero, List.setIfInBounds_toArray, List.set_cons_zero, List.set_cons_succ])
      refine wpAnyT_take (i := 6) (v := ?v28) rfl (by kernel_rfl) (by kernel_rfl) (by kernel_rfl) (by kernel_rfl) (by kernel_rfl) (fun _ _ _ h => h) (Or.inl ⟨by rfl, ?hy28⟩) (by assumption) ?rest28
      case hy28 => (intro w hSw; (try simp only [List.getElem_toArray, List.getElem_cons_succ, List.getElem_cons_zero]); (try dsimp only at hSw); go_simp; all_goals (with_reducible rfl))
      (try simp only [Act.put, List.getElem_toArray, List.getElem_cons_succ, List.getElem_cons_zero, List.setIfInBounds_toArray, List.set_cons_zero, List.set_cons_succ])
      refine wpAnyT_take (i := 7) (v := ?v29) rfl (by kernel_rfl) (by kernel_rfl) (by kernel_rfl) (by kernel_rfl) (by kernel_rfl) (fun _ _ _ h => h) (Or.inl ⟨by rfl, ?hy29⟩) (by assumption) ?rest29
      case hy29 => (intro w hSw; (try simp only [List.getElem_toArray, List.getElem_cons_succ, List.getElem_cons_zero]); (try dsimp only at hSw); go_simp; all_goals (with_reducible rfl))
      (try simp only [Act.put, List.getElem_toArray, List.getElem_cons_succ, List.getElem_cons_zero, List.setIfInBounds_toArray, List.set_cons_zero, List.set_cons_succ])
      refine wpAnyT_take (i := 8) (v := .agg (enc B)) rfl (by kernel_rfl) (by kernel_rfl) (by kernel_rfl) (by kernel_rfl) (by kernel_rfl) (fun _ _ _ h => h) (Or.inl ⟨by rfl, ?hy30⟩) (by assumption) ?rest30
      case hy30 => (intro W hSw; exact run_load29g (.tmp 7) rfl g7 (by with_unfolding_all rfl) (enc B) (HB7.out.below hSw.2 HB7.out.lt) HSB.out)
      (try simp only [Act.put, List.getElem_toArray, List.getElem_cons_succ, List.getElem_cons_zero, List.setIfInBounds_toArray, List.set_cons_zero, List.set_cons_succ])
      refine wpAnyT_one (i := 9) rfl (by kernel_rfl) (fun K hK => ?_)
      (try simp only [List.getElem_toArray, List.getElem_cons_succ, List.getElem_cons_zero])
      go_simp
      (refine (read_power B HOB.out.toOkR _).mono ?_; rintro e w8 ⟨rfl, hc4, hf4, hz4, hb4⟩; rw [E112.out]; have hk8 := Keeps.step (wo := wq) hHeld.2 hb4; clear hc4 hf4 hz4 hb4 hHeld)
      (try go_wp2_with fail)
      refine hK.out _ _ ?hS31 ?rest31
      case hS31 => (exact ⟨fun _ _ h => Keeps.cells hk8 _ _ h, hk8⟩)
      clear hK K
      (try simp only [Act.put, List.getElem_toArray, List.getElem_cons_succ, List.getElem_cons_zero, List.setIfInBounds_toArray, List.set_cons_zero, List.set_cons_succ])
      have hHeld : (fun W => (∀ b o, b < wq.heap.size → W.cell? ⟨b, o, none⟩ = wq.cell? ⟨b, o, none⟩) ∧ Keeps wq W) w8 := ⟨fun _ _ h => Keeps.cells hk8 _ _ h, hk8⟩
      refine wpAnyT_take (i := 10) (v := ?v32) rfl (by kernel_rfl) (by kernel_rfl) (by kernel_rfl) (by kernel_rfl) (by kernel_rfl) (fun _ _ _ h => h) (Or.inl ⟨by rfl, ?hy32⟩) (by assumption) ?rest32
      case hy32 => (intro w hSw; (try simp only [List.getElem_toArray, List.getElem_cons_succ, List.getElem_cons_zero]); (try dsimp only at hSw); go_simp; all_goals (with_reducible rfl))
      (try simp only [Act.put, List.getElem_toArray, List.getElem_cons_succ, List.getElem_cons_zero, List.setIfInBounds_toArray, List.set_cons_zero, List.set_cons_succ])
      refine wpAnyT_take (i := 11) (v := ?v33) rfl (by kernel_rfl) (by kernel_rfl) (by kernel_rfl) (by kernel_rfl) (by kernel_rfl) (fun _ _ _ h => h) (Or.inl ⟨by rfl, ?hy33⟩) (by assumption) ?rest33
      case hy33 => (intro w hSw; (try simp only [List.getElem_toArray, List.getElem_cons_succ, List.getElem_cons_zero]); (try dsimp only at hSw); go_simp; all_goals (with_reducible rfl))
      (try simp only [Act.put, List.getElem_toArray, List.getElem_cons_succ, List.getElem_cons_zero, List.setIfInBounds_toArray, List.set_cons_zero, List.set_cons_succ])
      refine wpAnyT_take (i := 12) (v := ?v34) rfl (by kernel_rfl) (by kernel_rfl) (by kernel_rfl) (by kernel_rfl) (by kernel_rfl) (fun _ _ _ h => h) (Or.inl ⟨by rfl, ?hy34⟩) (by assumption) ?rest34
      case hy34 => (intro w hSw; (try simp only [List.getElem_toArray, List.getElem_cons_succ, List.getElem_cons_zero]); (try dsimp only at hSw); go_simp; all_goals (with_reducible rfl))
      (try simp only [Act.put, List.getElem_toArray, List.getElem_cons_succ, List.getElem_cons_zero, List.setIfInBounds_toArray, List.set_cons_zero, List.set_cons_succ])
      refine wpAnyT_take (i := 13) (v := .agg (enc B)) rfl (by kernel_rfl) (by kernel_rfl) (by kernel_rfl) (by kernel_rfl) (by kernel_rfl) (fun _ _ _ h => h) (Or.inl ⟨by rfl, ?hy35⟩) (by assumption) ?rest35
      case hy35 => (intro W hSw; exact run_load29g (.tmp 7) rfl g7 (by with_unfolding_all rfl) (enc B) (HB7.out.below hSw.2 HB7.out.lt) HSB.out)
      (try simp only [Act.put, List.getElem_toArray, List.getElem_cons_succ, List.getElem_cons_zero, List.setIfInBounds_toArray, List.set_cons_zero, List.set_cons_succ])
      refine wpAnyT_take (i := 15) (v := .agg (enc B)) rfl (by kernel_rfl) (by kernel_rfl) (by kernel_rfl) (by kernel_rfl) (by kernel_rfl) (fun _ _ _ h => h) (Or.inl ⟨by rfl, ?hy36⟩) (by assumption) ?rest36
      case hy36 => (intro W hSw; exact run_load29g (.tmp 7) rfl g7 (by with_unfolding_all rfl) (enc B) (HB7.out.below hSw.2 HB7.out.lt) HSB.out)
      (try simp only [Act.put, List.getElem_toArray, List.getElem_cons_succ, List.getElem_cons_zero, List.setIfInBounds_toArray, List.set_cons_zero, List.set_cons_succ])
      refine wpAnyT_one (i := 14) rfl (by kernel_rfl) (fun K hK => ?_)
      (try simp only [List.getElem_toArray, List.getElem_cons_succ, List.getElem_cons_zero])
      go_simp
      (refine (tick_off B HOB.out.toOkR HBF.out _).mono ?_; rintro e w9 ⟨rfl, hc4, hf4, hz4, hb4⟩; have hk9 := Keeps.step (wo := wq) hk8 hb4; clear hc4 hf4 hz4 hb4 hHeld)
      (try go_wp2_with fail)
      refine hK.out _ _ ?hS37 ?rest37
      case hS37 => (exact ⟨fun _ _ h => Keeps.cells hk9 _ _ h, hk9⟩)
      clear hK K
      (try simp only [Act.put, List.getElem_toArray, List.getElem_cons_succ, List.getElem_cons_zero, List.setIfInBounds_toArray, List.set_cons_zero, List.set_cons_succ])
      have hHeld : (fun W => (∀ b o, b < wq.heap.size → W.cell? ⟨b, o, none⟩ = wq.cell? ⟨b, o, none⟩) ∧ Keeps wq W) w9 := ⟨fun _ _ h => Keeps.cells hk9 _ _ h, hk9⟩
      refine wpAnyT_take (i := 16) (v := .bool true) rfl (by kernel_rfl) (by kernel_rfl) (by kernel_rfl) (by kernel_rfl) (by kernel_rfl) (fun _ _ _ h => h) (Or.inl ⟨by rfl, ?hy38⟩) (by assumption) ?rest38
      case hy38 => (intro W hSw; exact run_eq29 (.tmp 68) (.tmp 69) rfl B HOB.out.regs (by with_unfolding_all rfl) (by with_unfolding_all rfl))
      (try simp only [Act.put, List.getElem_toArray, List.getElem_cons_succ, List.getElem_cons_zero, List.setIfInBounds_toArray, List.set_cons_zero, List.set_cons_succ])
      refine wpAnyT_take (i := 17) (v := ?v39) rfl (by kernel_rfl) (by kernel_rfl) (by kernel_rfl) (by kernel_rfl) (by kernel_rfl) (fun _ _ _ h => h) (Or.inl ⟨by rfl, ?hy39⟩) (by assumption) ?rest39
      case hy39 => (intro w hSw; (try simp only [List.getElem_toArray, List.getElem_cons_succ, List.getElem_cons_zero]); (try dsimp only at hSw); go_simp; all_goals (with_reducible rfl))
      (try simp only [Act.put, List.getElem_toArray, List.getElem_cons_succ, List.getElem_cons_zero, List.setIfInBounds_toArray, List.set_cons_zero, List.set_cons_succ])
      refine wpAnyT_take (i := 18) (v := ?v40) rfl (by kernel_rfl) (by kernel_rfl) (by kernel_rfl) (by kernel_rfl) (by kernel_rfl) (fun _ _ _ h => h) (Or.inl ⟨by rfl, ?hy40⟩) (by assumption) ?rest40
      case hy40 => (intro w hSw; (try simp only [List.getElem_toArray, List.getElem_cons_succ, List.getElem_cons_zero]); (try dsimp only at hSw); go_simp; all_goals (with_reducible rfl))
      (try simp only [Act.put, List.getElem_toArray, List.getElem_cons_succ, List.getElem_cons_zero, List.setIfInBounds_toArray, List.set_cons_zero, List.set_cons_succ])
      refine wpAnyT_done (by kernel_rfl) ?_ _
      go_wp2_with fail
      go_ret
      exact .of rfl (HW8.out.trans (Below.mono hk9 HW8.out.size))

set_option maxRecDepth 20000 in
set_option maxHeartbeats 4000000 in
theorem walkC2 (a : Option Addr) (len cap : Nat) (z : Unit) (hl : len ≤ 40) (n x : Int) (hn : n ≠ 22 ∧ 48 ≤ n) (hx0 : 0 ≤ x) (hx1 : x ≤ 255) (w : World) (hops : IsOps w a len z) :
    Calls Try.prog 5 #[.slice a len cap, .int .i64 n, .int .u8 x] w (Ret (.bool true) w) := by
  have HP := hid_ hops
  have hz := board_zero
  have hsz : (enc zeroB).size = 70 := enc_size zeroB rfl
  have HZ := hid_ hsz
  have ql : decide (40 < (len : Int)) = false := by simp; omega
  have e127 := and127 x hx0 hx1
  have hn22 := hn.1
  have hnn := hn.2
  have d1 : decide (32 ≤ n) = true := by simp; omega
  have d3 : decide (n < 48) = false := by simp; omega
  have d2 : (n == 22) = false := by simp [hn22]
  clear hn
  clear hops
  go_enter Try.func5, Try.ntmps5
  go_wp2_with fail
  refine (awake_any _).mono ?_
  rintro e w1 ⟨rfl, hc1, hf1, hz1, hb1⟩
  clear hc1 hf1 hz1
  have HP1 := hid_ (HP.out.below hb1)
  have HW1 := hid_ hb1
  clear hb1
  go_wp2_with fail
  refine (play_any a len cap z (by omega) _ HP1.out).mono ?_
  rintro e w2 ⟨b, hbok, rfl, hc1, hf1, hz1, hb2⟩
  clear hc1 hf1 hz1 HP1 HP
  have HW2 := hid_ (below_join HW1.out hb2)
  clear hb2 HW1
  have HOb := hid_ hbok
  clear hbok
  go_wp2_with fail
  refine (write_any b HOb.out 22 (x % 128) (by omega) (by omega) _).mono ?_
  rintro e w3 ⟨rfl, hc1, hf1, hz1, hb3⟩
  clear hc1 hf1 hz1
  have HW3 := hid_ (below_join HW2.out hb3)
  have hs3 := HW3.out.size
  clear hb3 HW2
  rw [off_write b x hx0 hx1]
  have HOB := hid_ (off_ok HOb.out)
  have HBF : Hid ((offB b).on = false) := rfl
  have E112 : Hid (accB (offB b) 4 = 112) := rfl
  have HRZ : Hid (∀ i, i < 22 → (offB b).reg i = 0) := off_reg b
  have HSB := hid_ (enc_size _ HOB.out.regs)
  have H1B := hid_ (enc_one (offB b))
  generalize offB b = B at *
  clear HOb ql e127
  go_wp2_with (first
    | ((with_reducible refine wpList_allocZ2 (op := ⟨some 7, .alloc 29, _, _, _, _⟩) rfl rfl ?_); intro w4 HB4 HW4 hl4)
    | (with_reducible refine wpList_store29 (op := ⟨none, .store 29 (.tmp 7) (.tmp 22), _, _, _, _⟩) rfl (.tmp 7) (.tmp 22) rfl w3.heap.size (enc zeroB) (enc B) (by with_unfolding_all rfl) (by with_unfolding_all rfl) HB4.out HZ.out HSB.out H1B.out ?_))
  have HB5 : Hid (Blk (w4.setRow w3.heap.size (enc B)) w3.heap.size 29 (enc B)) := HB4.out.setRow _
  have HW5 : Hid (Below w.heap.size w (w4.setRow w3.heap.size (enc B))) := below_setRow (HW3.out.trans (HW4.out.mono hs3)) hs3 _
  clear HB4 HW3 HW4 hl4
  generalize w4.setRow w3.heap.size (enc B) = w5 at *
  generalize w3.heap.size = g7 at *
  go_loopw [23] (fun i wr => ∃ k : Nat, k ≤ 22 ∧ i = .int .i64 k ∧ Hid (Blk wr g7 29 (enc B)) ∧ Hid (Below w.heap.size w wr)) (fun i _ => 22 - (intOf i).toNat)
  case atStart => exact ⟨0, by omega, rfl, HB5, HW5⟩
  case round =>
    clear HB5 HW5
    obtain ⟨k, hk, rfl, HB, HW⟩ := hrel
    by_cases hlt : k < 22
    · have q : decide ((k : Int) < 22) = true := by simp; omega
      go_wp2_with (with_reducible refine wpList_load29 (op := ⟨some 26, _, _, _, _, _⟩) rfl (.tmp 7) rfl g7 (by with_unfolding_all rfl) (enc B) HB.out HSB.out ?_)
      refine (read_low B HOB.out.toOkR k hlt _).mono ?_
      rintro e w6 ⟨rfl, hc1, hf1, hz1, hb6⟩
      clear hc1 hf1 hz1
      rw [HRZ.out k hlt]
      have HB6 := hid_ (HB.out.below hb6 HB.out.lt)
      have HW6 := hid_ (below_join HW.out hb6)
      clear hb6 HB HW
      go_wp2_with fail
      refine (read_low zeroB zero_ok.toOkR k hlt _).mono ?_
      rintro e w7 ⟨rfl, hc1, hf1, hz1, hb7⟩
      clear hc1 hf1 hz1
      rw [zero_reg k hlt]
      have HB7 := hid_ (HB6.out.below hb7 HB6.out.lt)
      have HW7 := hid_ (below_join HW6.out hb7)
      clear hb7 HB6 HW6
      go_wp2_with fail
      go_roundw
      case rel => exact ⟨k + 1, by omega, by go_num, HB7, HW7⟩
      case measure => simp [intOf]; omega
    · obtain rfl : k = 22 := by omega
      go_wp2_with (with_reducible refine wpList_load29 (op := ⟨some 34, _, _, _, _, _⟩) rfl (.tmp 7) rfl g7 (by with_unfolding_all rfl) (enc B) HB.out HSB.out ?_)
      refine (write_any B HOB.out n x hx0 hx1 _).mono ?_
      rintro e w6 ⟨rfl, hc1, hf1, hz1, hb6⟩
      clear hc1 hf1 hz1
      have HB6 := hid_ (HB.out.below hb6 HB.out.lt)
      have HW6 := hid_ (below_join HW.out hb6)
      have hs6 := HW6.out.size
      have hl6 := HB6.out.lt
      clear hb6 HB HW
      have hw : writeB B n x = B := by
        unfold writeB
        by_cases h : n < 0 ∨ 48 ≤ n
        · rw [if_pos h]
        · rw [if_neg h, if_neg hn22, if_pos ⟨HBF.out, by omega⟩]
      rw [hw]
      clear hw
      go_wp2_with (first
        | ((with_reducible refine wpList_allocZ2 (op := ⟨some 9, .alloc 29, _, _, _, _⟩) rfl rfl ?_); intro w7 HB7 HW7 hl7)
        | (with_reducible refine wpList_store29 (op := ⟨none, .store 29 (.tmp 9) (.tmp 37), _, _, _, _⟩) rfl (.tmp 9) (.tmp 37) rfl w6.heap.size (enc zeroB) (enc B) (by with_unfolding_all rfl) (by with_unfolding_all rfl) HB7.out HZ.out HSB.out H1B.out ?_))
      have HC9 : Hid (Blk (w7.setRow w6.heap.size (enc B)) w6.heap.size 29 (enc B)) := HB7.out.setRow _
      have HB8 : Hid (Blk (w7.setRow w6.heap.size (enc B)) g7 29 (enc B)) := (HB6.out.below HW7.out hl6).farRow (by omega) _
      have HW8 : Hid (Below w.heap.size w (w7.setRow w6.heap.size (enc B))) := below_setRow (HW6.out.trans (HW7.out.mono hs6)) hs6 _
      clear HB7 HW7 HB6 HW6 hl7
      generalize w7.setRow w6.heap.size (enc B) = wq at *
      generalize w6.heap.size = g9 at *
      have HB7 := HB8
      refine wp_region_tail (S := (fun W => (∀ b o, b < wq.heap.size → W.cell? ⟨b, o, none⟩ = wq.cell? ⟨b, o, none⟩) ∧ Keeps wq W)) (tail := (fun _ => false)) (by kernel_rfl) ?hS41 (fun hHeld => ?rest41)
      case hS41 => (exact ⟨fun _ _ _ => rfl, (Keeps.refl _).drew⟩)
      refine wpAnyT_take (i := 0) (v := ?v42) rfl (by kernel_rfl) (by kernel_rfl) (by kernel_rfl) (by kernel_rfl) (by kernel_rfl) (fun _ _ _ h => h) (Or.inl ⟨by rfl, ?hy42⟩) (by assumption) ?rest42
      case hy42 => (intro w hSw; (try simp only [List.getElem_toArray, List.getElem_cons_succ, List.getElem_cons_zero]); (try dsimp only at hSw); go_simp; all_goals (with_reducible rfl))
      (try simp only [Act.put, List.getElem_toArray, List.getElem_cons_succ, List.getElem_cons_zero, List.setIfInBounds_toArray, List.set_cons_zero, List.set_cons_succ])
      refine wpAnyT_take (i := 1) (v := ?v43) rfl (by kernel_rfl) (by kernel_rfl) (by kernel_rfl) (by kernel_rfl) (by kernel_rfl) (fun _ _ _ h => h) (Or.inl ⟨by rfl, ?hy43⟩) (by assumption) ?rest43
      case hy43 => (intro w hSw; (try simp only [List.getElem_toArray, List.getElem_cons_succ, List.getElem_cons_zero]); (try dsimp only at hSw); go_simp; all_goals (with_reducible rfl))
      (try simp only [Act.put, List.getElem_toArray, List.getElem_cons_succ, List.getElem_cons_zero, List.setIfInBounds_toArray, List.set_cons_zero, List.set_cons_succ])
      refine wpAnyT_take (i := 2) (v := ?v44) rfl (by kernel_rfl) (by kernel_rfl) (by kernel_rfl) (by kernel_rfl) (by kernel_rfl) (fun _ _ _ h => h) (Or.inl ⟨by rfl, ?hy44⟩) (by assumption) ?rest44
      case hy44 => (intro w hSw; (try simp only [List.getElem_toArray, List.getElem_cons_succ, List.getElem_cons_zero]); (try dsimp only at hSw); go_simp; all_goals (with_reducible rfl))
      (try simp only [Act.put, List.getElem_toArray, List.getElem_cons_succ, List.getElem_cons_zero, List.setIfInBounds_toArray, List.set_cons_zero, List.set_cons_succ])
      refine wpAnyT_take (i := 3) (v := .agg (enc B)) rfl (by kernel_rfl) (by kernel_rfl) (by kernel_rfl) (by kernel_rfl) (by kernel_rfl) (fun _ _ _ h => h) (Or.inl ⟨by rfl, ?hy45⟩) (by assumption) ?rest45
      case hy45 => (intro W hSw; exact run_load29g (.tmp 9) rfl g9 (by with_unfolding_all rfl) (enc B) (HC9.out.below hSw.2 HC9.out.lt) HSB.out)
      (try simp only [Act.put, List.getElem_toArray, List.getElem_cons_succ, List.getElem_cons_zero, List.setIfInBounds_toArray, List.set_cons_zero, List.set_cons_succ])
      refine wpAnyT_take (i := 4) (v := .agg (enc B)) rfl (by kernel_rfl) (by kernel_rfl) (by kernel_rfl) (by kernel_rfl) (by kernel_rfl) (fun _ _ _ h => h) (Or.inl ⟨by rfl, ?hy46⟩) (by assumption) ?rest46
      case hy46 => (intro W hSw; exact run_load29g (.tmp 7) rfl g7 (by with_unfolding_all rfl) (enc B) (HB7.out.below hSw.2 HB7.out.lt) HSB.out)
      (try simp only [Act.put, List.getElem_toArray, List.getElem_cons_succ, List.getElem_cons_zero, List.setIfInBounds_toArray, List.set_cons_zero, List.set_cons_succ])
      refine wpAnyT_take (i := 5) (v := .bool true) rfl (by kernel_rfl) (by kernel_rfl) (by kernel_rfl) (by kernel_rfl) (by kernel_rfl) (fun _ _ _ h => h) (Or.inl ⟨by rfl, ?hy47⟩) (by assumption) ?rest47
      case hy47 => (intro W hSw; exact run_eq29 (.tmp 57) (.tmp 58) rfl B HOB.out.regs (by with_unfolding_all rfl) (by with_unfolding_all rfl))
      (try simp only [Act.put, List.getElem_toArray, List.getElem_cons_succ, List.getElem_cons_zero, List.setIfInBounds_toArray, List.set_cons_zero, List.set_cons_succ])
      refine wpAnyT_take (i := 6) (v := ?v48) rfl (by kernel_rfl) (by kernel_rfl) (by kernel_rfl) (by kernel_rfl) (by kernel_rfl) (fun _ _ _ h => h) (Or.inl ⟨by rfl, ?hy48⟩) (by assumption) ?rest48
      case hy48 => (intro w hSw; (try simp only [List.getElem_toArray, List.getElem_cons_succ, List.getElem_cons_zero]); (try dsimp only at hSw); go_simp; all_goals (with_reducible rfl))
      (try simp only [Act.put, List.getElem_toArray, List.getElem_cons_succ, List.getElem_cons_zero, List.setIfInBounds_toArray, List.set_cons_zero, List.set_cons_succ])
      refine wpAnyT_take (i := 7) (v := ?v49) rfl (by kernel_rfl) (by kernel_rfl) (by kernel_rfl) (by kernel_rfl) (by kernel_rfl) (fun _ _ _ h => h) (Or.inl ⟨by rfl, ?hy49⟩) (by assumption) ?rest49
      case hy49 => (intro w hSw; (try simp only [List.getElem_toArray, List.getElem_cons_succ, List.getElem_cons_zero]); (try dsimp only at hSw); go_simp; all_goals (with_reducible rfl))
      (try simp only [Act.put, List.getElem_toArray, List.getElem_cons_succ, List.getElem_cons_zero, List.setIfInBounds_toArray, List.set_cons_zero, List.set_cons_succ])
      refine wpAnyT_take (i := 8) (v := .agg (enc B)) rfl (by kernel_rfl) (by kernel_rfl) (by kernel_rfl) (by kernel_rfl) (by kernel_rfl) (fun _ _ _ h => h) (Or.inl ⟨by rfl, ?hy50⟩) (by assumption) ?rest50
      case hy50 => (intro W hSw; exact run_load29g (.tmp 7) rfl g7 (by with_unfolding_all rfl) (enc B) (HB7.out.below hSw.2 HB7.out.lt) HSB.out)
      (try simp only [Act.put, List.getElem_toArray, List.getElem_cons_succ, List.getElem_cons_zero, List.setIfInBounds_toArray, List.set_cons_zero, List.set_cons_succ])
      refine wpAnyT_one (i := 9) rfl (by kernel_rfl) (fun K hK => ?_)
      (try simp only [List.getElem_toArray, List.getElem_cons_succ, List.getElem_cons_zero])
      go_simp
      (refine (read_power B HOB.out.toOkR _).mono ?_; rintro e w8 ⟨rfl, hc4, hf4, hz4, hb4⟩; rw [E112.out]; have hk8 := Keeps.step (wo := wq) hHeld.2 hb4; clear hc4 hf4 hz4 hb4 hHeld)
      (try go_wp2_with fail)
      refine hK.out _ _ ?hS51 ?rest51
      case hS51 => (exact ⟨fun _ _ h => Keeps.cells hk8 _ _ h, hk8⟩)
      clear hK K
      (try simp only [Act.put, List.getElem_toArray, List.getElem_cons_succ, List.getElem_cons_zero, List.setIfInBounds_toArray, List.set_cons_zero, List.set_cons_succ])
      have hHeld : (fun W => (∀ b o, b < wq.heap.size → W.cell? ⟨b, o, none⟩ = wq.cell? ⟨b, o, none⟩) ∧ Keeps wq W) w8 := ⟨fun _ _ h => Keeps.cells hk8 _ _ h, hk8⟩
      refine wpAnyT_take (i := 10) (v := ?v52) rfl (by kernel_rfl) (by kernel_rfl) (by kernel_rfl) (by kernel_rfl) (by kernel_rfl) (fun _ _ _ h => h) (Or.inl ⟨by rfl, ?hy52⟩) (by assumption) ?rest52
      case hy52 => (intro w hSw; (try simp only [List.getElem_toArray, List.getElem_cons_succ, List.getElem_cons_zero]); (try dsimp only at hSw); go_simp; all_goals (with_reducible rfl))
      (try simp only [Act.put, List.getElem_toArray, List.getElem_cons_succ, List.getElem_cons_zero, List.setIfInBounds_toArray, List.set_cons_zero, List.set_cons_succ])
      refine wpAnyT_take (i := 11) (v := ?v53) rfl (by kernel_rfl) (by kernel_rfl) (by kernel_rfl) (by kernel_rfl) (by kernel_rfl) (fun _ _ _ h => h) (Or.inl ⟨by rfl, ?hy53⟩) (by assumption) ?rest53
      case hy53 => (intro w hSw; (try simp only [List.getElem_toArray, List.getElem_cons_succ, List.getElem_cons_zero]); (try dsimp only at hSw); go_simp; all_goals (with_reducible rfl))
      (try simp only [Act.put, List.getElem_toArray, List.getElem_cons_succ, List.getElem_cons_zero, List.setIfInBounds_toArray, List.set_cons_zero, List.set_cons_succ])
      refine wpAnyT_take (i := 12) (v := ?v54) rfl (by kernel_rfl) (by kernel_rfl) (by kernel_rfl) (by kernel_rfl) (by kernel_rfl) (fun _ _ _ h => h) (Or.inl ⟨by rfl, ?hy54⟩) (by assumption) ?rest54
      case hy54 => (intro w hSw; (try simp only [List.getElem_toArray, List.getElem_cons_succ, List.getElem_cons_zero]); (try dsimp only at hSw); go_simp; all_goals (with_reducible rfl))
      (try simp only [Act.put, List.getElem_toArray, List.getElem_cons_succ, List.getElem_cons_zero, List.setIfInBounds_toArray, List.set_cons_zero, List.set_cons_succ])
      refine wpAnyT_take (i := 13) (v := .agg (enc B)) rfl (by kernel_rfl) (by kernel_rfl) (by kernel_rfl) (by kernel_rfl) (by kernel_rfl) (fun _ _ _ h => h) (Or.inl ⟨by rfl, ?hy55⟩) (by assumption) ?rest55
      case hy55 => (intro W hSw; exact run_load29g (.tmp 7) rfl g7 (by with_unfolding_all rfl) (enc B) (HB7.out.below hSw.2 HB7.out.lt) HSB.out)
      (try simp only [Act.put, List.getElem_toArray, List.getElem_cons_succ, List.getElem_cons_zero, List.setIfInBounds_toArray, List.set_cons_zero, List.set_cons_succ])
      refine wpAnyT_take (i := 15) (v := .agg (enc B)) rfl (by kernel_rfl) (by kernel_rfl) (by kernel_rfl) (by kernel_rfl) (by kernel_rfl) (fun _ _ _ h => h) (Or.inl ⟨by rfl, ?hy56⟩) (by assumption) ?rest56
      case hy56 => (intro W hSw; exact run_load29g (.tmp 7) rfl g7 (by with_unfolding_all rfl) (enc B) (HB7.out.below hSw.2 HB7.out.lt) HSB.out)
      (try simp only [Act.put, List.getElem_toArray, List.getElem_cons_succ, List.getElem_cons_zero, List.setIfInBounds_toArray, List.set_cons_zero, List.set_cons_succ])
      refine wpAnyT_one (i := 14) rfl (by kernel_rfl) (fun K hK => ?_)
      (try simp only [List.getElem_toArray, List.getElem_cons_succ, List.getElem_cons_zero])
      go_simp
      (refine (tick_off B HOB.out.toOkR HBF.out _).mono ?_; rintro e w9 ⟨rfl, hc4, hf4, hz4, hb4⟩; have hk9 := Keeps.step (wo := wq) hk8 hb4; clear hc4 hf4 hz4 hb4 hHeld)
      (try go_wp2_with fail)
      refine hK.out _ _ ?hS57 ?rest57
      case hS57 => (exact ⟨fun _ _ h => Keeps.cells hk9 _ _ h, hk9⟩)
      clear hK K
      (try simp only [Act.put, List.getElem_toArray, List.getElem_cons_succ, List.getElem_cons_zero, List.setIfInBounds_toArray, List.set_cons_zero, List.set_cons_succ])
      have hHeld : (fun W => (∀ b o, b < wq.heap.size → W.cell? ⟨b, o, none⟩ = wq.cell? ⟨b, o, none⟩) ∧ Keeps wq W) w9 := ⟨fun _ _ h => Keeps.cells hk9 _ _ h, hk9⟩
      refine wpAnyT_take (i := 16) (v := .bool true) rfl (by kernel_rfl) (by kernel_rfl) (by kernel_rfl) (by kernel_rfl) (by kernel_rfl) (fun _ _ _ h => h) (Or.inl ⟨by rfl, ?hy58⟩) (by assumption) ?rest58
      case hy58 => (intro W hSw; exact run_eq29 (.tmp 68) (.tmp 69) rfl B HOB.out.regs (by with_unfolding_all rfl) (by with_unfolding_all rfl))
      (try simp only [Act.put, List.getElem_toArray, List.getElem_cons_succ, List.getElem_cons_zero, List.setIfInBounds_toArray, List.set_cons_zero, List.set_cons_succ])
      refine wpAnyT_take (i := 17) (v := ?v59) rfl (by kernel_rfl) (by kernel_rfl) (by kernel_rfl) (by kernel_rfl) (by kernel_rfl) (fun _ _ _ h => h) (Or.inl ⟨by rfl, ?hy59⟩) (by assumption) ?rest59
      case hy59 => (intro w hSw; (try simp only [List.getElem_toArray, List.getElem_cons_succ, List.getElem_cons_zero]); (try dsimp only at hSw); go_simp; all_goals (with_reducible rfl))
      (try simp only [Act.put, List.getElem_toArray, List.getElem_cons_succ, List.getElem_cons_zero, List.setIfInBounds_toArray, List.set_cons_zero, List.set_cons_succ])
      refine wpAnyT_take (i := 18) (v := ?v60) rfl (by kernel_rfl) (by kernel_rfl) (by kernel_rfl) (by kernel_rfl) (by kernel_rfl) (fun _ _ _ h => h) (Or.inl ⟨by rfl, ?hy60⟩) (by assumption) ?rest60
      case hy60 => (intro w hSw; (try simp only [List.getElem_toArray, List.getElem_cons_succ, List.getElem_cons_zero]); (try dsimp only at hSw); go_simp; all_goals (with_reducible rfl))
      (try simp only [Act.put, List.getElem_toArray, List.getElem_cons_succ, List.getElem_cons_zero, List.setIfInBounds_toArray, List.set_cons_zero, List.set_cons_succ])
      refine wpAnyT_done (by kernel_rfl) ?_ _
      go_wp2_with fail
      go_ret
      exact .of rfl (HW8.out.trans (Below.mono hk9 HW8.out.size))

set_option maxRecDepth 20000 in
theorem walkOut (a : Option Addr) (len cap : Nat) (hl : 40 < len) (n x : Int) (w : World) :
    Calls Try.prog 5 #[.slice a len cap, .int .i64 n, .int .u8 x] w (Ret (.bool true) w) := by
  have ql : decide (40 < (len : Int)) = true := by simp; omega
  go_enter Try.func5, Try.ntmps5
  go_wp2_with fail
  refine (awake_any _).mono ?_
  rintro e w1 ⟨rfl, hc1, hf1, hz1, hb1⟩
  clear hc1 hf1 hz1
  go_wp2_with fail
  refine (awake_any _).mono ?_
  rintro e w2 ⟨rfl, hc1, hf1, hz1, hb2⟩
  clear hc1 hf1 hz1
  go_wp2_with fail
  go_ret
  exact .of rfl (below_join hb1 hb2)
theorem walk (w : World) (a : Option Addr) (len cap : Nat) (z : Unit) (n x : Int) (hops : IsOps w a len z) (_ : -9223372036854775808 ≤ n) (_ : n ≤ 9223372036854775807) (hx0 : 0 ≤ x) (hx1 : x ≤ 255) :
    Calls Try.prog 5 #[.slice a len cap, .int .i64 n, .int .u8 x] w (Ret (.bool true) w) := by
  by_cases hl : 40 < len
  · exact walkOut a len cap hl n x w
  · by_cases h22 : n = 22
    · subst h22; exact walkB a len cap z (by omega) x hx0 hx1 w hops
    · by_cases h32 : n < 32
      · exact walkC1 a len cap z (by omega) n x ⟨h22, h32⟩ hx0 hx1 w hops
      · by_cases h48 : 48 ≤ n
        · exact walkC2 a len cap z (by omega) n x ⟨h22, h48⟩ hx0 hx1 w hops
        · obtain ⟨k, rfl⟩ := Int.eq_ofNat_of_zero_le (show 0 ≤ n by omega)
          exact walkA a len cap z (by omega) k x (by omega) (by omega) hx0 hx1 w hops
end Go.Proofs.Ytacbdapgdgliiaa.soundOff
