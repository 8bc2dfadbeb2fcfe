/- Contract of 'play': whatever calls came in, a board that is as it always is. -/
import Derived.Test.YtacbdapgdgliiaaAwake
import Derived.Test.YtacbdapgdgliiaaOps
import Derived.Test.YtacbdapgdgliiaaTail2
namespace Go.Proofs.Ytacbdapgdgliiaa
open Go.RowKit
set_option linter.unusedSimpArgs false
set_option linter.unusedVariables false

theorem below_join {w a c : World} (h : Below w.heap.size w a) (h2 : Below a.heap.size a c) : Below w.heap.size w c := h.trans (h2.mono h.size)
theorem run_load29 {op : Oper} {a : Act} {w : World} (hgd : op.guard = none) (x : Operand) (ho : op.op = .load 29 x) (g : Nat) (hx : a.eval x = .pointer (some ⟨g, 0, none⟩)) (cs : Array Value) (hB : Blk w g 29 cs) (hs : cs.size = 70) :
    (execOp a.eval op).run Try.prog w = .ok (.value (.agg cs)) w := by
  unfold execOp
  simp only [ho, hx, Instr.loadAt, Instr.sureAddr, Sem.run_bind, Sem.run_pure, Result.andThen_ok, board_load hB hs]
theorem step_store29 {ops : Array Oper} {op : Oper} {a : Act} {w : World} {K : Act → World → Prop} {Q : Exit → Act → World → Prop} {E : Prop} (hgd : op.guard = none) (x y : Operand) (ho : op.op = .store 29 x y)
    (g : Nat) (cs cs' : Array Value) (hx : a.eval x = .pointer (some ⟨g, 0, none⟩)) (hy : a.eval y = .agg cs') (hB : Blk w g 29 cs) (hs : cs.size = 70) (hs' : cs'.size = 70) (h1 : cs'.all (·.oneCell') = true)
    (h : K (a.put op.dst undef) (w.setRow g cs')) : if Region.wanted op (yielded ops a.tmps) = true then Oper.wp Try.prog op a w K Q else E := by
  have hw : Region.wanted op (yielded ops a.tmps) = true := by simp [Region.wanted, hgd]
  rw [if_pos hw]
  unfold Oper.wp execOp
  simp only [ho, hx, hy, Instr.storeAt, Instr.sureAddr, Sem.run_bind, Sem.run_pure, Result.andThen_ok, board_store hB hs hs' h1]
  exact h
theorem wpList_allocZ2 {ops : Array Oper} {rest : List Oper} {op : Oper} {a : Act} {w : World} {Q : Exit → Act → World → Prop} (hgd : op.guard = none) (ho : op.op = .alloc 29)
    (h : ∀ w', Hid (Blk w' w.heap.size 29 (enc zeroB)) → Hid (Below w.heap.size w w') → w.heap.size < w'.heap.size → wpList Try.prog ops Q rest (a.put op.dst (.pointer (some ⟨w.heap.size, 0, none⟩))) w') :
    wpList Try.prog ops Q (op :: rest) a w := wpList_allocZ hgd ho fun w' h1 h2 => h w' h1 h2 h1.out.lt

set_option maxRecDepth 20000 in
set_option maxHeartbeats 4000000 in
theorem play_some (b1 o1 len cap : Nat) (w : World) (hb1 : b1 < w.heap.size) (hlen : len ≤ 1000)
    (hc1 : ∀ i, i < len → ∃ K N X : Int, -9223372036854775808 ≤ N ∧ N ≤ 9223372036854775807 ∧ 0 ≤ X ∧ X ≤ 255 ∧
      w.cell? ⟨b1, o1 + i * 3, none⟩ = some (.int .i64 K) ∧ w.cell? ⟨b1, o1 + i * 3 + 1, none⟩ = some (.int .i64 N) ∧ w.cell? ⟨b1, o1 + i * 3 + 2, none⟩ = some (.int .u8 X)) :
    Calls Try.prog 12 #[.slice (some ⟨b1, o1, none⟩) len cap] w (fun e w' => ∃ b, Bd.Ok b ∧ Ret (.agg (enc b)) w e w') := by
  have HC := hid_ hc1
  have hz := board_zero
  have hsz : (enc zeroB).size = 70 := enc_size zeroB rfl
  have HZ := hid_ hsz
  have H1Z := hid_ (enc_one zeroB)
  clear hc1
  go_enter Try.func12, Try.ntmps12
  go_wp2_with (first
    | ((with_reducible refine wpList_allocZ2 (op := ⟨some 2, .alloc 29, _, _, _, _⟩) rfl rfl ?_); intro w2 HR2 HW2 hl2)
    | ((with_reducible refine wpList_allocZ2 (op := ⟨some 3, .alloc 29, _, _, _, _⟩) rfl rfl ?_); intro w3 HB3 HW3 hl3)
    | (with_reducible refine wpList_store29 (op := ⟨none, .store 29 (.tmp 3) (.tmp 5), _, _, _, _⟩) rfl (.tmp 3) (.tmp 5) rfl w2.heap.size (enc zeroB) (enc zeroB) (by with_unfolding_all rfl) (by with_unfolding_all rfl) HB3.out HZ.out HZ.out H1Z.out ?_))
  have HB4 : Hid (Blk (w3.setRow w2.heap.size (enc zeroB)) w2.heap.size 29 (enc zeroB)) := HB3.out.setRow _
  have HR4 : Hid (Blk (w3.setRow w2.heap.size (enc zeroB)) w.heap.size 29 (enc zeroB)) := (HR2.out.below HW3.out hl2).farRow (by omega) _
  have HW4 : Hid (Below w.heap.size w (w3.setRow w2.heap.size (enc zeroB))) := below_setRow (HW2.out.trans (HW3.out.mono (Nat.le_of_lt hl2))) (Nat.le_of_lt hl2) _
  clear HB3 HR2 HW2 HW3 hl3
  generalize w3.setRow w2.heap.size (enc zeroB) = w4 at *
  generalize w2.heap.size = g3 at *
  go_loopw [8] (fun i wr => ∃ (k : Nat) (b : Bd), k ≤ len ∧ i = .int .i64 k ∧ Hid b.Ok ∧ Hid (Blk wr g3 29 (enc b)) ∧ Hid (Blk wr w.heap.size 29 (enc zeroB)) ∧ Hid (Below w.heap.size w wr)) (fun i _ => len - (intOf i).toNat)
  case atStart => exact ⟨0, zeroB, by omega, rfl, zero_ok, HB4, HR4, HW4⟩
  case round =>
    clear HB4 HR4 HW4
    obtain ⟨k, b, hk, rfl, HO, HB, HR, HW⟩ := hrel
    have HSb0 := hid_ (enc_size b HO.out.regs)
    by_cases hlt : k < len
    · obtain ⟨K, N, X, hN0, hN1, hX0, hX1, cK, cN, cX⟩ := HC.out k hlt
      have i0 : (0 : Int) ≤ (k : Int) := by omega
      have i1 : (k : Int) < (len : Int) := by omega
      have CK : Hid (∀ W, Below w.heap.size w W → W.cell? ⟨b1, o1 + k * 3, none⟩ = some (.int .i64 K) ∧ W.cell? ⟨b1, o1 + k * 3 + 1, none⟩ = some (.int .i64 N) ∧ W.cell? ⟨b1, o1 + k * 3 + 2, none⟩ = some (.int .u8 X)) :=
        fun W h => ⟨(h.cell (p := ⟨b1, _, none⟩) hb1).trans cK, (h.cell (p := ⟨b1, _, none⟩) hb1).trans cN, (h.cell (p := ⟨b1, _, none⟩) hb1).trans cX⟩
      clear cK cN cX
      obtain ⟨y0, y1, y2⟩ := CK.out _ HW.out
      go_wp2_with fail
      refine (ticks_any K N X _).mono ?_
      rintro e w5 ⟨rfl, hc2, hf2, hz2, hb5⟩
      clear hc2 hf2 hz2 y0 y1 y2
      obtain ⟨Tn, hT, hT2⟩ : ∃ Tn : Nat, ticksI K N = (Tn : Int) ∧ (ticksI K N).toNat = Tn := ⟨(ticksI K N).toNat, by have := (ticks_bd K N).1; omega, rfl⟩
      have tb : Tn ≤ 24576 := by have := (ticks_bd K N).2; omega
      rw [hT]
      clear hT hT2
      have HB5 := hid_ (HB.out.below hb5 HB.out.lt)
      have HR5 := hid_ (HR.out.below hb5 HR.out.lt)
      have HW5 := hid_ (below_join HW.out hb5)
      clear hb5 HB HR HW
      go_wp2_with fail
      go_loopw [16] (fun i wz => ∃ (j : Nat) (c : Bd), j ≤ Tn ∧ i = .int .i64 j ∧ Hid c.Ok ∧ Hid (Blk wz g3 29 (enc c)) ∧ Hid (Blk wz w.heap.size 29 (enc zeroB)) ∧ Hid (Below w.heap.size w wz)) (fun i _ => Tn - (intOf i).toNat)
      case atStart => exact ⟨0, b, by omega, rfl, HO, HB5, HR5, HW5⟩
      case round =>
        clear HB5 HR5 HW5 HSb0
        obtain ⟨j, c, hj, rfl, HOc, HBc, HRc, HWc⟩ := hrel
        have HSb := hid_ (enc_size c HOc.out.regs)
        by_cases hlt2 : j < Tn
        · have q : decide ((j : Int) < (Tn : Int)) = true := by simp; omega
          go_wp2_with (with_reducible refine wpList_load29 (op := ⟨some 18, _, _, _, _, _⟩) rfl (.tmp 3) rfl g3 (by with_unfolding_all rfl) (enc c) HBc.out HSb.out ?_)
          refine (tick_any c HOc.out _).mono ?_
          rintro e w6 ⟨rfl, hc4, hf4, hz4, hb4⟩
          clear hc4 hf4 hz4
          have HBd := hid_ (HBc.out.below hb4 HBc.out.lt)
          have HRd := hid_ (HRc.out.below hb4 HRc.out.lt)
          have HWd := hid_ (below_join HWc.out hb4)
          have HOd := hid_ (tick_ok HOc.out)
          have HSd := hid_ (enc_size _ HOd.out.regs)
          have H1d := hid_ (enc_one (tickB c))
          clear hb4 HBc HRc HWc
          go_wp2_with (with_reducible refine wpList_store29 (op := ⟨none, .store 29 (.tmp 3) (.tmp 19), _, _, _, _⟩) rfl (.tmp 3) (.tmp 19) rfl g3 (enc c) (enc (tickB c)) (by with_unfolding_all rfl) (by with_unfolding_all rfl) HBd.out HSb.out HSd.out H1d.out ?_)
          go_roundw
          case rel => exact ⟨j + 1, tickB c, by omega, by go_num, HOd, HBd.out.setRow _, HRd.out.farRow (by omega) _, below_setRow HWd.out (Nat.le_of_lt hl2) _⟩
          case measure => simp [intOf]; omega
        · obtain rfl : j = Tn := by omega
          have q : decide ((j : Int) < (j : Int)) = false := by simp
          obtain ⟨y0, y1, y2⟩ := CK.out _ HWc.out
          by_cases hK : K = 2
          · subst hK
            have HOw := hid_ (write_ok HOc.out N X hX0 hX1)
            have HSw := hid_ (enc_size _ HOw.out.regs)
            have H1w := hid_ (enc_one (writeB c N X))
            go_wp2_with fail
            generalize hwq : wr = wq at *
            clear hwq
            have hbq : b1 < wq.heap.size := Nat.lt_of_lt_of_le hb1 HWc.out.size
            refine wp_region_tail (S := (fun W => (∀ b o, b < wq.heap.size → W.cell? ⟨b, o, none⟩ = wq.cell? ⟨b, o, none⟩) ∧ Keeps wq W)) (tail := (fun j => j == 12)) (by kernel_rfl) ?hS1 (fun hHeld => ?rest1)
            case hS1 => (exact ⟨fun _ _ _ => rfl, (Keeps.refl _).drew⟩)
            refine wpAnyT_take (i := 0) (v := .agg (enc c)) rfl (by kernel_rfl) (by kernel_rfl) (by kernel_rfl) (by kernel_rfl) (by kernel_rfl) (fun _ _ _ h => h) (Or.inl ⟨by rfl, ?hy2⟩) (by assumption) ?rest2
            case hy2 => (intro W hSw; exact run_load29 rfl (.tmp 3) rfl g3 (by with_unfolding_all rfl) (enc c) (HBc.out.below hSw.2 HBc.out.lt) HSb.out)
            (try simp only [Act.put, List.getElem_toArray, List.getElem_cons_succ, List.getElem_cons_zero, List.setIfInBounds_toArray, List.set_cons_zero, List.set_cons_succ])
            refine wpAnyT_take (i := 1) (v := ?v3) rfl (by kernel_rfl) (by kernel_rfl) (by kernel_rfl) (by kernel_rfl) (by kernel_rfl) (fun _ _ _ h => h) (Or.inl ⟨by rfl, ?hy3⟩) (by assumption) ?rest3
            case hy3 => (intro w hSw; (try simp only [List.getElem_toArray, List.getElem_cons_succ, List.getElem_cons_zero]); (try dsimp only at hSw); go_simp; all_goals (with_reducible rfl))
            (try simp only [Act.put, List.getElem_toArray, List.getElem_cons_succ, List.getElem_cons_zero, List.setIfInBounds_toArray, List.set_cons_zero, List.set_cons_succ])
            refine wpAnyT_take (i := 2) (v := ?v4) rfl (by kernel_rfl) (by kernel_rfl) (by kernel_rfl) (by kernel_rfl) (by kernel_rfl) (fun _ _ _ h => h) (Or.inl ⟨by rfl, ?hy4⟩) (by assumption) ?rest4
            case hy4 => (intro w hSw; (try simp only [List.getElem_toArray, List.getElem_cons_succ, List.getElem_cons_zero]); (try dsimp only at hSw); go_simp; all_goals (with_reducible rfl))
            (try simp only [Act.put, List.getElem_toArray, List.getElem_cons_succ, List.getElem_cons_zero, List.setIfInBounds_toArray, List.set_cons_zero, List.set_cons_succ])
            refine wpAnyT_take (i := 3) (v := ?v5) rfl (by kernel_rfl) (by kernel_rfl) (by kernel_rfl) (by kernel_rfl) (by kernel_rfl) (fun _ _ _ h => h) (Or.inl ⟨by rfl, ?hy5⟩) (by assumption) ?rest5
            case hy5 => (intro w hSw; (try simp only [List.getElem_toArray, List.getElem_cons_succ, List.getElem_cons_zero]); (try dsimp only at hSw); go_simp; all_goals (with_reducible rfl))
            (try simp only [Act.put, List.getElem_toArray, List.getElem_cons_succ, List.getElem_cons_zero, List.setIfInBounds_toArray, List.set_cons_zero, List.set_cons_succ])
            refine wpAnyT_take (i := 4) (v := ?v6) rfl (by kernel_rfl) (by kernel_rfl) (by kernel_rfl) (by kernel_rfl) (by kernel_rfl) (fun _ _ _ h => h) (Or.inl ⟨by rfl, ?hy6⟩) (by assumption) ?rest6
            case hy6 => (intro w hSw; (try simp only [List.getElem_toArray, List.getElem_cons_succ, List.getElem_cons_zero]); (try dsimp only at hSw); go_simp; all_goals (with_reducible rfl))
            (try simp only [Act.put, List.getElem_toArray, List.getElem_cons_succ, List.getElem_cons_zero, List.setIfInBounds_toArray, List.set_cons_zero, List.set_cons_succ])
            refine wpAnyT_take (i := 5) (v := ?v7) rfl (by kernel_rfl) (by kernel_rfl) (by kernel_rfl) (by kernel_rfl) (by kernel_rfl) (fun _ _ _ h => h) (Or.inl ⟨by rfl, ?hy7⟩) (by assumption) ?rest7
            case hy7 => (intro w hSw; (try simp only [List.getElem_toArray, List.getElem_cons_succ, List.getElem_cons_zero]); (try dsimp only at hSw); go_simp; all_goals (with_reducible rfl))
            (try simp only [Act.put, List.getElem_toArray, List.getElem_cons_succ, List.getElem_cons_zero, List.setIfInBounds_toArray, List.set_cons_zero, List.set_cons_succ])
            refine wpAnyT_take (i := 6) (v := ?v8) rfl (by kernel_rfl) (by kernel_rfl) (by kernel_rfl) (by kernel_rfl) (by kernel_rfl) (fun _ _ _ h => h) (Or.inl ⟨by rfl, ?hy8⟩) (by assumption) ?rest8
            case hy8 => (intro w hSw; (try simp only [List.getElem_toArray, List.getElem_cons_succ, List.getElem_cons_zero]); (try dsimp only at hSw); go_simp; all_goals (with_reducible rfl))
            (try simp only [Act.put, List.getElem_toArray, List.getElem_cons_succ, List.getElem_cons_zero, List.setIfInBounds_toArray, List.set_cons_zero, List.set_cons_succ])
            refine wpAnyT_take (i := 7) (v := ?v9) rfl (by kernel_rfl) (by kernel_rfl) (by kernel_rfl) (by kernel_rfl) (by kernel_rfl) (fun _ _ _ h => h) (Or.inl ⟨by rfl, ?hy9⟩) (by assumption) ?rest9
            case hy9 => (intro w hSw; (try simp only [List.getElem_toArray, List.getElem_cons_succ, List.getElem_cons_zero]); (try dsimp only at hSw); go_simp; all_goals (with_reducible rfl))
            (try simp only [Act.put, List.getElem_toArray, List.getElem_cons_succ, List.getElem_cons_zero, List.setIfInBounds_toArray, List.set_cons_zero, List.set_cons_succ])
            refine wpAnyT_take (i := 8) (v := ?v10) rfl (by kernel_rfl) (by kernel_rfl) (by kernel_rfl) (by kernel_rfl) (by kernel_rfl) (fun _ _ _ h => h) (Or.inl ⟨by rfl, ?hy10⟩) (by assumption) ?rest10
            case hy10 => (intro w hSw; (try simp only [List.getElem_toArray, List.getElem_cons_succ, List.getElem_cons_zero]); (try dsimp only at hSw); go_simp; all_goals (with_reducible rfl))
            (try simp only [Act.put, List.getElem_toArray, List.getElem_cons_succ, List.getElem_cons_zero, List.setIfInBounds_toArray, List.set_cons_zero, List.set_cons_succ])
            refine wpAnyT_take (i := 9) (v := ?v11) rfl (by kernel_rfl) (by kernel_rfl) (by kernel_rfl) (by kernel_rfl) (by kernel_rfl) (fun _ _ _ h => h) (Or.inl ⟨by rfl, ?hy11⟩) (by assumption) ?rest11
            case hy11 => (intro w hSw; (try simp only [List.getElem_toArray, List.getElem_cons_succ, List.getElem_cons_zero]); (try dsimp only at hSw); go_simp; all_goals (with_reducible rfl))
            (try simp only [Act.put, List.getElem_toArray, List.getElem_cons_succ, List.getElem_cons_zero, List.setIfInBounds_toArray, List.set_cons_zero, List.set_cons_succ])
            refine wpAnyT_take (i := 10) (v := ?v12) rfl (by kernel_rfl) (by kernel_rfl) (by kernel_rfl) (by kernel_rfl) (by kernel_rfl) (fun _ _ _ h => h) (Or.inl ⟨by rfl, ?hy12⟩) (by assumption) ?rest12
            case hy12 => (intro w hSw; (try simp only [List.getElem_toArray, List.getElem_cons_succ, List.getElem_cons_zero]); (try dsimp only at hSw); go_simp; all_goals (with_reducible rfl))
            (try simp only [Act.put, List.getElem_toArray, List.getElem_cons_succ, List.getElem_cons_zero, List.setIfInBounds_toArray, List.set_cons_zero, List.set_cons_succ])
            refine wpAnyT_one (i := 11) rfl (by kernel_rfl) (fun K hK => ?_)
            (try simp only [List.getElem_toArray, List.getElem_cons_succ, List.getElem_cons_zero])
            go_simp
            (refine (write_any c HOc.out N X hX0 hX1 _).mono ?_; rintro e w4 ⟨rfl, hc4, hf4, hz4, hb4⟩; have hk4 := Keeps.step (wo := wq) hHeld.2 hb4; clear hc4 hf4 hz4 hb4 hHeld)
            (try go_wp2_with fail)
            refine hK.out _ _ ?hS13 ?rest13
            case hS13 => (exact ⟨fun _ _ h => Keeps.cells hk4 _ _ h, hk4⟩)
            clear hK K
            (try simp only [Act.put, List.getElem_toArray, List.getElem_cons_succ, List.getElem_cons_zero, List.setIfInBounds_toArray, List.set_cons_zero, List.set_cons_succ])
            have hBd := HBc.out.below hk4 HBc.out.lt
            refine wpAnyT_last (i := 12) rfl (by kernel_rfl) rfl (fun K hK => ?_)
            (try simp only [List.getElem_toArray, List.getElem_cons_succ, List.getElem_cons_zero])
            refine step_store29 (op := ⟨none, .store 29 (.tmp 3) (.tmp 38), _, _, _, _⟩) rfl (.tmp 3) (.tmp 38) rfl g3 (enc c) (enc (writeB c N X)) (by with_unfolding_all rfl) (by with_unfolding_all rfl) hBd HSb.out HSw.out H1w.out ?_
            refine hK.out _ _ ?_
            clear hK K
            (try simp only [Act.put, List.getElem_toArray, List.getElem_cons_succ, List.getElem_cons_zero, List.setIfInBounds_toArray, List.set_cons_zero, List.set_cons_succ])
            refine wpAnyT_done (by kernel_rfl) ?_ _
            go_wp2_with fail
            go_roundw
            case rel => exact ⟨k + 1, writeB c N X, by omega, by go_num, HOw, hBd.setRow _, (HRc.out.below hk4 HRc.out.lt).farRow (by omega) _, below_setRow (HWc.out.trans (Below.mono hk4 HWc.out.size)) (Nat.le_of_lt hl2) _⟩
            case measure => simp [intOf]; omega
          · have hK2 : (K == 2) = false := by simp [hK]
            go_wp2_with fail
            go_roundw
            case rel => exact ⟨k + 1, c, by omega, by go_num, HOc, HBc, HRc, HWc⟩
            case measure => simp [intOf]; omega
    · obtain rfl : k = len := by omega
      have H1 := hid_ (enc_one b)
      have q : decide ((k : Int) < (k : Int)) = false := by simp
      go_wp2_with (first
        | (with_reducible refine wpList_load29 (op := ⟨some 40, _, _, _, _, _⟩) rfl (.tmp 3) rfl g3 (by with_unfolding_all rfl) (enc b) HB.out HSb0.out ?_)
        | (with_reducible refine wpList_store29 (op := ⟨none, .store 29 (.tmp 2) (.tmp 40), _, _, _, _⟩) rfl (.tmp 2) (.tmp 40) rfl w.heap.size (enc zeroB) (enc b) (by with_unfolding_all rfl) (by with_unfolding_all rfl) HR.out HZ.out HSb0.out H1.out ?_))
      exact bodyPost_ret (v := .agg (enc b)) (results_board Try.results12 rfl (HR.out.setRow _) HSb0.out) rfl ⟨b, HO.out, .of rfl (below_setRow HW.out (Nat.le_refl _) _)⟩
end Go.Proofs.Ytacbdapgdgliiaa
