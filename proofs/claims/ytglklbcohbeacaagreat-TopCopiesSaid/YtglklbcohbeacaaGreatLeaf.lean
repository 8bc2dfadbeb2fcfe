/- Contracts of leaves: a timer at rest, a pad, numbers. -/
import Derived.Test.YtglklbcohbeacaaGreatBase
import Derived.Test.YtglklbcohbeacaaGreatTail2
import Derived.LoopN
import Derived.Laws.BitsAllLaws
namespace Go.Proofs.YtglklbcohbeacaaGreat
open Go.RowKit
set_option linter.unusedSimpArgs false
set_option linter.unusedVariables false
set_option maxHeartbeats 1000000 in
theorem change_zero (w : World) : Calls Tryz.prog 52 #[.agg #[.int .u8 0, .int .u8 0], .agg #[.int .u8 0, .int .u8 0]] w (Ret (.tuple #[.agg #[.int .u8 0, .int .u8 0], .bool false]) w) := by
  have e0 : bits .andNot .u8 0 0 = 0 := rfl
  go_enter Tryz.func52, Tryz.ntmps52
  go_wp2
  have hA : Blk (((w.alloc (.cells #[.int .u8 0, .int .u8 0] 64)).alloc (.cells #[.int .u8 0, .int .u8 0] 64)).alloc (.cells #[.int .u8 0, .int .u8 0] 64)) w.heap.size 64 #[.int .u8 0, .int .u8 0] := ((Blk.new w _ _).alloc _).alloc _
  have hB : Blk (((w.alloc (.cells #[.int .u8 0, .int .u8 0] 64)).alloc (.cells #[.int .u8 0, .int .u8 0] 64)).alloc (.cells #[.int .u8 0, .int .u8 0] 64)) (w.heap.size + 1) 64 #[.int .u8 0, .int .u8 0] := by simpa using (Blk.new (w.alloc (.cells #[.int .u8 0, .int .u8 0] 64)) 64 #[.int .u8 0, .int .u8 0]).alloc (.cells #[.int .u8 0, .int .u8 0] 64)
  have hC : Blk (((w.alloc (.cells #[.int .u8 0, .int .u8 0] 64)).alloc (.cells #[.int .u8 0, .int .u8 0] 64)).alloc (.cells #[.int .u8 0, .int .u8 0] 64)) (w.heap.size + 2) 64 #[.int .u8 0, .int .u8 0] := by simpa using (Blk.new ((w.alloc (.cells #[.int .u8 0, .int .u8 0] 64)).alloc (.cells #[.int .u8 0, .int .u8 0] 64)) 64 #[.int .u8 0, .int .u8 0])
  have hW : Below w.heap.size w (((w.alloc (.cells #[.int .u8 0, .int .u8 0] 64)).alloc (.cells #[.int .u8 0, .int .u8 0] 64)).alloc (.cells #[.int .u8 0, .int .u8 0] 64)) := (((Below.refl _ _).alloc (Nat.le_refl _) _).alloc (by simp) _).alloc (by simp; omega) _
  generalize (((w.alloc (.cells #[.int .u8 0, .int .u8 0] 64)).alloc (.cells #[.int .u8 0, .int .u8 0] 64)).alloc (.cells #[.int .u8 0, .int .u8 0] 64)) = wr at *
  refine wp_region_tail (S := (fun W => Blk W w.heap.size 64 #[.int .u8 0, .int .u8 0] ∧ Blk W (w.heap.size + 1) 64 #[.int .u8 0, .int .u8 0] ∧ Blk W (w.heap.size + 2) 64 #[.int .u8 0, .int .u8 0] ∧ Below w.heap.size w W)) (tail := (fun _ => false)) (by kernel_rfl) ?hS1 (fun hHeld => ?rest1)
  case hS1 => (exact ⟨hA, hB, hC, hW.drew⟩)
  refine wpAnyT_take (i := 0) (v := ?v2) rfl (by kernel_rfl) (by kernel_rfl) (by kernel_rfl) (by kernel_rfl) (by kernel_rfl) (fun _ _ _ h => h) (Or.inl ⟨by rfl, ?hy2⟩) (by assumption) ?rest2
  case hy2 => (intro W hW; obtain ⟨hA, hB, hC, hk⟩ := hW; have a0 := hA.cell 0; have a1 := hA.cell 1; have b0 := hB.cell 0; have b1 := hB.cell 1; simp at a0 a1 b0 b1; (try simp only [List.getElem_toArray, List.getElem_cons_succ, List.getElem_cons_zero]); go_simp; all_goals (with_reducible rfl))
  (try simp only [Act.put, List.getElem_toArray, List.getElem_cons_succ, List.getElem_cons_zero, List.setIfInBounds_toArray, List.set_cons_zero, List.set_cons_succ])
  refine wpAnyT_take (i := 1) (v := ?v3) rfl (by kernel_rfl) (by kernel_rfl) (by kernel_rfl) (by kernel_rfl) (by kernel_rfl) (fun _ _ _ h => h) (Or.inl ⟨by rfl, ?hy3⟩) (by assumption) ?rest3
  case hy3 => (intro W hW; obtain ⟨hA, hB, hC, hk⟩ := hW; have a0 := hA.cell 0; have a1 := hA.cell 1; have b0 := hB.cell 0; have b1 := hB.cell 1; simp at a0 a1 b0 b1; (try simp only [List.getElem_toArray, List.getElem_cons_succ, List.getElem_cons_zero]); go_simp; all_goals (with_reducible rfl))
  (try simp only [Act.put, List.getElem_toArray, List.getElem_cons_succ, List.getElem_cons_zero, List.setIfInBounds_toArray, List.set_cons_zero, List.set_cons_succ])
  refine wpAnyT_take (i := 3) (v := ?v4) rfl (by kernel_rfl) (by kernel_rfl) (by kernel_rfl) (by kernel_rfl) (by kernel_rfl) (fun _ _ _ h => h) (Or.inl ⟨by rfl, ?hy4⟩) (by assumption) ?rest4
  case hy4 => (intro W hW; obtain ⟨hA, hB, hC, hk⟩ := hW; have a0 := hA.cell 0; have a1 := hA.cell 1; have b0 := hB.cell 0; have b1 := hB.cell 1; simp at a0 a1 b0 b1; (try simp only [List.getElem_toArray, List.getElem_cons_succ, List.getElem_cons_zero]); go_simp; all_goals (with_reducible rfl))
  (try simp only [Act.put, List.getElem_toArray, List.getElem_cons_succ, List.getElem_cons_zero, List.setIfInBounds_toArray, List.set_cons_zero, List.set_cons_succ])
  refine wpAnyT_one (i := 2) rfl (by kernel_rfl) (fun K hK => ?_)
  (try simp only [List.getElem_toArray, List.getElem_cons_succ, List.getElem_cons_zero])
  go_simp
  refine (held_zero _).mono ?_; rintro e wa ⟨rfl, hc, hf, hz, hb⟩; have hHeld : (fun W => Blk W w.heap.size 64 #[.int .u8 0, .int .u8 0] ∧ Blk W (w.heap.size + 1) 64 #[.int .u8 0, .int .u8 0] ∧ Blk W (w.heap.size + 2) 64 #[.int .u8 0, .int .u8 0] ∧ Below w.heap.size w W) wa := ⟨hHeld.1.below hb hHeld.1.lt, hHeld.2.1.below hb hHeld.2.1.lt, hHeld.2.2.1.below hb hHeld.2.2.1.lt, hHeld.2.2.2.trans (hb.mono hHeld.2.2.2.size)⟩; clear hc hf hz hb
  (try go_wp2_with fail)
  refine hK.out _ _ ?hS5 ?rest5
  case hS5 => (exact hHeld)
  clear hK K
  (try simp only [Act.put, List.getElem_toArray, List.getElem_cons_succ, List.getElem_cons_zero, List.setIfInBounds_toArray, List.set_cons_zero, List.set_cons_succ])
  refine wpAnyT_one (i := 4) rfl (by kernel_rfl) (fun K hK => ?_)
  (try simp only [List.getElem_toArray, List.getElem_cons_succ, List.getElem_cons_zero])
  go_simp
  refine (held_zero _).mono ?_; rintro e wb ⟨rfl, hc, hf, hz, hb⟩; have hHeld : (fun W => Blk W w.heap.size 64 #[.int .u8 0, .int .u8 0] ∧ Blk W (w.heap.size + 1) 64 #[.int .u8 0, .int .u8 0] ∧ Blk W (w.heap.size + 2) 64 #[.int .u8 0, .int .u8 0] ∧ Below w.heap.size w W) wb := ⟨hHeld.1.below hb hHeld.1.lt, hHeld.2.1.below hb hHeld.2.1.lt, hHeld.2.2.1.below hb hHeld.2.2.1.lt, hHeld.2.2.2.trans (hb.mono hHeld.2.2.2.size)⟩; clear hc hf hz hb
  (try go_wp2_with fail)
  refine hK.out _ _ ?hS6 ?rest6
  case hS6 => (exact hHeld)
  clear hK K
  (try simp only [Act.put, List.getElem_toArray, List.getElem_cons_succ, List.getElem_cons_zero, List.setIfInBounds_toArray, List.set_cons_zero, List.set_cons_succ])
  refine wpAnyT_take (i := 5) (v := ?v7) rfl (by kernel_rfl) (by kernel_rfl) (by kernel_rfl) (by kernel_rfl) (by kernel_rfl) (fun _ _ _ h => h) (Or.inl ⟨by rfl, ?hy7⟩) (by assumption) ?rest7
  case hy7 => (intro w hSw; (try simp only [List.getElem_toArray, List.getElem_cons_succ, List.getElem_cons_zero]); (try dsimp only at hSw); go_simp; all_goals (with_reducible rfl))
  (try simp only [Act.put, List.getElem_toArray, List.getElem_cons_succ, List.getElem_cons_zero, List.setIfInBounds_toArray, List.set_cons_zero, List.set_cons_succ])
  refine wpAnyT_take (i := 6) (v := ?v8) rfl (by kernel_rfl) (by kernel_rfl) (by kernel_rfl) (by kernel_rfl) (by kernel_rfl) (fun _ _ _ h => h) (Or.inl ⟨by rfl, ?hy8⟩) (by assumption) ?rest8
  case hy8 => (intro w hSw; (try simp only [List.getElem_toArray, List.getElem_cons_succ, List.getElem_cons_zero]); (try dsimp only at hSw); go_simp; all_goals (with_reducible rfl))
  (try simp only [Act.put, List.getElem_toArray, List.getElem_cons_succ, List.getElem_cons_zero, List.setIfInBounds_toArray, List.set_cons_zero, List.set_cons_succ])
  refine wpAnyT_one (i := 7) rfl (by kernel_rfl) (fun K hK => ?_)
  (try simp only [List.getElem_toArray, List.getElem_cons_succ, List.getElem_cons_zero])
  have hC := hHeld.2.2.1
  have c0 := hC.cell 0
  have c1 := hC.cell 1
  have f0 := hC.frozen 0
  have f1 := hC.frozen 1
  simp at c0 c1
  go_simp
  have hHeld : (fun W => Blk W w.heap.size 64 #[.int .u8 0, .int .u8 0] ∧ Blk W (w.heap.size + 1) 64 #[.int .u8 0, .int .u8 0] ∧ Blk W (w.heap.size + 2) 64 #[.int .u8 0, .int .u8 0] ∧ Below w.heap.size w W) ((wb.setCell ⟨w.heap.size + 2, 0, none⟩ (.int .u8 0)).setCell ⟨w.heap.size + 2, 1, none⟩ (.int .u8 0)) := by
    have h2 := ((hHeld.2.2.1.set_ 0 (.int .u8 0)).set_ 1 (.int .u8 0))
    exact ⟨(hHeld.1.far (p := ⟨_, 0, none⟩) (by simp) _).far (p := ⟨_, 1, none⟩) (by simp) _, (hHeld.2.1.far (p := ⟨_, 0, none⟩) (by simp) _).far (p := ⟨_, 1, none⟩) (by simp) _, h2, (hHeld.2.2.2.setCell (by simp) _).setCell (by simp) _⟩
  clear c0 c1 f0 f1 hC
  generalize ((wb.setCell ⟨w.heap.size + 2, 0, none⟩ (.int .u8 0)).setCell ⟨w.heap.size + 2, 1, none⟩ (.int .u8 0)) = wc at *
  refine hK.out _ _ ?hS9 ?rest9
  case hS9 => (exact hHeld)
  clear hK K
  (try simp only [Act.put, List.getElem_toArray, List.getElem_cons_succ, List.getElem_cons_zero, List.setIfInBounds_toArray, List.set_cons_zero, List.set_cons_succ])
  refine wpAnyT_one (i := 8) rfl (by kernel_rfl) (fun K hK => ?_)
  (try simp only [List.getElem_toArray, List.getElem_cons_succ, List.getElem_cons_zero])
  go_simp
  refine hK.out _ _ ?hS10 ?rest10
  case hS10 => (exact hHeld)
  clear hK K
  (try simp only [Act.put, List.getElem_toArray, List.getElem_cons_succ, List.getElem_cons_zero, List.setIfInBounds_toArray, List.set_cons_zero, List.set_cons_succ])
  refine wpAnyT_done (by kernel_rfl) ?_ _
  have hC := hHeld.2.2.1
  have hW := hHeld.2.2.2
  have c0 := hC.cell 0
  have c1 := hC.cell 1
  simp at c0 c1
  clear hA hB hC hHeld
  go_wp2
  refine bodyPost_ret (v := .tuple #[.agg #[.int .u8 0, .int .u8 0], .bool false]) (by simp [results, Tryz.results52, go_sem, c0, c1, e0]) rfl (.of rfl hW)
theorem press_zero (w : World) : Calls Tryz.prog 32 #[.agg #[.int .u8 0, .int .u8 0], .int .u8 0] w (Ret (.tuple #[.agg #[.int .u8 0, .int .u8 0], .bool false]) w) := by
  go_enter Tryz.func32, Tryz.ntmps32
  go_wp2_with fail
  have hB : Blk ((w.alloc (.cells #[.int .u8 0, .int .u8 0] 64)).alloc (.cells #[.int .u8 0, .int .u8 0] 64)) (w.heap.size + 1) 64 #[.int .u8 0, .int .u8 0] := by simpa using (Blk.new (w.alloc (.cells #[.int .u8 0, .int .u8 0] 64)) 64 #[.int .u8 0, .int .u8 0])
  have hW : Below w.heap.size w ((w.alloc (.cells #[.int .u8 0, .int .u8 0] 64)).alloc (.cells #[.int .u8 0, .int .u8 0] 64)) := (((Below.refl _ _).alloc (Nat.le_refl _) _).alloc (by simp) _)
  generalize ((w.alloc (.cells #[.int .u8 0, .int .u8 0] 64)).alloc (.cells #[.int .u8 0, .int .u8 0] 64)) = wr at *
  refine (change_zero _).mono ?_
  rintro e w1 ⟨rfl, hc, hf, hz, hb⟩
  have hB1 := hB.below hb hB.lt
  have hW1 := hW.trans (hb.mono hW.size)
  clear hc hf hz hb hB hW
  have c0 := hB1.cell 0
  have c1 := hB1.cell 1
  simp at c0 c1
  have fc0 := hB1.frozen 0
  have fc1 := hB1.frozen 1
  go_wp2_with fail
  have hB2 := (hB1.set_ 0 (.int .u8 0)).set_ 1 (.int .u8 0)
  have hW2 := (hW1.setCell (p := ⟨w.heap.size + 1, 0, none⟩) (by simp) (.int .u8 0)).setCell (p := ⟨w.heap.size + 1, 1, none⟩) (by simp) (.int .u8 0)
  have d0 := hB2.cell 0
  have d1 := hB2.cell 1
  refine bodyPost_ret (v := .tuple #[.agg #[.int .u8 0, .int .u8 0], .bool false]) ?_ rfl (.of rfl hW2)
  generalize ((w1.setCell ⟨w.heap.size + 1, 0, none⟩ (.int .u8 0)).setCell ⟨w.heap.size + 1, 1, none⟩ (.int .u8 0)) = w2 at *
  simp at d0 d1
  simp [results, Tryz.results32, go_sem, d0, d1]
theorem plan_none (n : Int) (w : World) : Calls Tryz.prog 33 #[.slice none 0 0, .int .u64 n] w (Pure (.int .u8 0) w) := by
  go_enter Tryz.func33, Tryz.ntmps33
  go_wp2_with fail
  refine wp_loop_rounds 1 ?_
  rw [rounds_succ]
  go_wp2_with fail
  go_ret
  exact ⟨rfl, rfl⟩
theorem signal_off (c : Int) (w : World) : Calls Tryz.prog 147 #[.agg #[.int .u16 c, .int .u8 0, .int .u8 0, .int .u8 0, .bool false]] w (Ret (.bool false) w) := by
  have e0 : bits .and .u8 0 4 = 0 := rfl
  go_enter Tryz.func147, Tryz.ntmps147
  go_wp2
  go_quiet (fail)
  go_wp2
  go_ret
  exact .of rfl (below_drewN (((Below.refl _ _).alloc (Nat.le_refl _) _).alloc (by simp) _) _)
theorem count_on (t : Nat) (c : Int) (h0 : 0 ≤ c) (h1 : c ≤ 65535) (w : World) (hc : w.cell? ⟨t, 0, none⟩ = some (.int .u16 c)) (hf : w.frozen? ⟨t, 0, none⟩ = false) :
    Calls Tryz.prog 187 #[.pointer (some ⟨t, 0, none⟩)] w (fun e w' => e = .returned (.tuple #[]) ∧ w' = w.setCell ⟨t, 0, none⟩ (.int .u16 ((c + 4) % 65536))) := by
  go_enter Tryz.func187, Tryz.ntmps187
  go_wp2
  go_end0
  exact ⟨rfl, by simp [IntKind.wrap, IntKind.signed, IntKind.bits]⟩
theorem lit_off (u : Nat) (w : World) (h : w.cell? ⟨u, 8352, none⟩ = some (.int .u8 0)) : Calls Tryz.prog 57 #[.pointer (some ⟨u, 0, none⟩)] w (Pure (.bool false) w) := by
  have e0 : bits .and .u8 0 128 = 0 := rfl
  go_enter Tryz.func57, Tryz.ntmps57
  go_wp2
  go_ret
  exact ⟨rfl, rfl⟩
theorem unit_off (u : Nat) (w : World) (h : w.cell? ⟨u, 8352, none⟩ = some (.int .u8 0)) : Calls Tryz.prog 183 #[.pointer (some ⟨u, 0, none⟩)] w (Pure (.int .u8 0) w) := by
  go_enter Tryz.func183, Tryz.ntmps183
  go_wp2_with (go_at_call 57; refine (lit_off u _ h).mono ?_; rintro e w1 ⟨rfl, rfl⟩)
  go_ret
  exact ⟨rfl, rfl⟩
theorem ask_no (m : Value) (bit : Int) (w : World) : Calls Tryz.prog 34 #[m, .int .u8 bit, .bool false] w (Unit_ w) := by
  go_enter Tryz.func34, Tryz.ntmps34
  go_wp2
  go_end0
  exact ⟨rfl, rfl⟩
theorem and14 (a : Int) (h0 : 0 ≤ a) (h1 : a < 16384) : bits .and .u16 a 16384 = 0 := by
  rw [u16_and a 16384 h0 (by omega) (by omega) (by omega)]
  have : a.toNat &&& (16384 : Int).toNat = 0 := by
    rw [show (16384 : Int).toNat = 2 ^ 14 from rfl, nat_bit]
    have : a.toNat / 2 ^ 14 = 0 := by omega
    rw [this]
  rw [this]; rfl
theorem bank_low (a : Int) (h0 : 0 ≤ a) (h1 : a < 16384) (w : World) : Calls Tryz.prog 36 #[.agg #[.int .i64 0, .int .i64 2, .int .i64 0, .bool true, .bool false, .int .i64 1, .int .i64 0, .int .u8 255], .int .u16 a] w (Ret (.int .i64 0) w) := by
  have hb := and14 a h0 h1
  go_enter Tryz.func36, Tryz.ntmps36
  go_wp2
  go_ret
  exact .of rfl ((Below.refl _ _).alloc (Nat.le_refl _) _)
theorem rom_low (a : Int) (h0 : 0 ≤ a) (h1 : a < 16384) (w : World) : Calls Tryz.prog 22 #[.agg #[.int .i64 0, .int .i64 2, .int .i64 0, .bool true, .bool false, .int .i64 1, .int .i64 0, .int .u8 255], .int .u16 a] w (Ret (.int .i64 a) w) := by
  go_enter Tryz.func22, Tryz.ntmps22
  go_wp2_with (go_at_call 36; refine (bank_low a h0 h1 _).mono ?_; rintro e w1 ⟨rfl, hc, hf, hz, hb⟩; clear hc hf)
  go_ret
  exact .of (ret_int (by omega)) (((Below.refl _ _).alloc (Nat.le_refl _) _).trans (hb.mono (by simp)))
theorem pictured_rom (a : Int) (h0 : 0 ≤ a) (h1 : a < 32768) (w : World) : Calls Tryz.prog 23 #[.int .u16 a] w (Pure (.bool false) w) := by
  go_enter Tryz.func23, Tryz.ntmps23
  go_wp2
  go_ret
  exact ⟨rfl, rfl⟩
theorem pictured_work (a : Int) (h0 : 49152 ≤ a) (h1 : a < 65024) (w : World) : Calls Tryz.prog 23 #[.int .u16 a] w (Pure (.bool false) w) := by
  have q : decide (a < 40960) = false := by simp; omega
  go_enter Tryz.func23, Tryz.ntmps23
  go_wp2
  go_ret
  exact ⟨rfl, rfl⟩
theorem change_rest (c : Int) (h0 : 0 ≤ c) (h1 : c ≤ 65535) (w : World) : Calls Tryz.prog 148 #[.agg #[.int .u16 c, .int .u8 0, .int .u8 0, .int .u8 0, .bool false], .func (.func 187) #[] #[]] w (Ret (.agg #[.int .u16 ((c + 4) % 65536), .int .u8 0, .int .u8 0, .int .u8 0, .bool false]) w) := by
  go_enter Tryz.func148, Tryz.ntmps148
  go_wp2_with fail
  refine (signal_off c _).mono ?_
  rintro e w1 ⟨rfl, hc, hf, hz, hb⟩
  have hA : Blk w1 w.heap.size 62 #[.int .u16 c, .int .u8 0, .int .u8 0, .int .u8 0, .bool false] := Blk.below ((Blk.new w _ _).alloc _) hb (by simp; omega)
  have hB : Blk w1 (w.heap.size + 1) 62 #[.int .u16 0, .int .u8 0, .int .u8 0, .int .u8 0, .bool false] := by
    refine Blk.below ?_ hb (by simp)
    simpa using Blk.new (w.alloc (.cells #[.int .u16 c, .int .u8 0, .int .u8 0, .int .u8 0, .bool false] 62)) 62 #[.int .u16 0, .int .u8 0, .int .u8 0, .int .u8 0, .bool false]
  have hW : Below w.heap.size w w1 := (((Below.refl _ _).alloc (Nat.le_refl _) _).alloc (by simp) _).trans (hb.mono (by simp; omega))
  clear hc hf hz hb
  have a0 := hA.cell 0
  simp at a0
  have fa0 := hA.frozen 0
  go_wp2_with fail
  refine (count_on _ c h0 h1 _ a0 fa0).mono ?_
  rintro e w2 ⟨rfl, rfl⟩
  have hA2 := hA.set_ 0 (.int .u16 ((c + 4) % 65536))
  have hB2 : Blk (w1.setCell ⟨w.heap.size, 0, none⟩ (.int .u16 ((c + 4) % 65536))) (w.heap.size + 1) 62 #[.int .u16 0, .int .u8 0, .int .u8 0, .int .u8 0, .bool false] := hB.far (by simp) _
  have hW2 := hW.setCell (p := ⟨w.heap.size, 0, none⟩) (by simp) (.int .u16 ((c + 4) % 65536))
  clear a0 fa0 hA hB hW
  generalize (w1.setCell ⟨w.heap.size, 0, none⟩ (.int .u16 ((c + 4) % 65536))) = w2 at *
  generalize (c + 4) % 65536 = c4 at *
  have a0 := hA2.cell 0
  have a1 := hA2.cell 1
  have a2 := hA2.cell 2
  have a3 := hA2.cell 3
  have a4 := hA2.cell 4
  simp at a0 a1 a2 a3 a4
  have b0 := hB2.cell 0
  have b1 := hB2.cell 1
  have b2 := hB2.cell 2
  have b3 := hB2.cell 3
  have b4 := hB2.cell 4
  simp at b0 b1 b2 b3 b4
  have fb0 := hB2.frozen 0
  have fb1 := hB2.frozen 1
  have fb2 := hB2.frozen 2
  have fb3 := hB2.frozen 3
  have fb4 := hB2.frozen 4
  go_wp2_with fail
  have hB3 := ((((hB2.set_ 0 (.int .u16 c4)).set_ 1 (.int .u8 0)).set_ 2 (.int .u8 0)).set_ 3 (.int .u8 0)).set_ 4 (.bool false)
  have hW3 := ((((hW2.setCell (p := ⟨w.heap.size + 1, 0, none⟩) (by simp) (.int .u16 c4)).setCell (p := ⟨w.heap.size + 1, 1, none⟩) (by simp) (.int .u8 0)).setCell (p := ⟨w.heap.size + 1, 2, none⟩) (by simp) (.int .u8 0)).setCell (p := ⟨w.heap.size + 1, 3, none⟩) (by simp) (.int .u8 0)).setCell (p := ⟨w.heap.size + 1, 4, none⟩) (by simp) (.bool false)
  refine bodyPost_ret (v := .agg #[.int .u16 c4, .int .u8 0, .int .u8 0, .int .u8 0, .bool false]) ?_ rfl (.of rfl hW3)
  clear a0 a1 a2 a3 a4
  clear b0 b1 b2 b3 b4 fb0 fb1 fb2 fb3 fb4
  generalize (((((w2.setCell ⟨w.heap.size + 1, 0, none⟩ (.int .u16 c4)).setCell ⟨w.heap.size + 1, 1, none⟩ (.int .u8 0)).setCell ⟨w.heap.size + 1, 2, none⟩ (.int .u8 0)).setCell ⟨w.heap.size + 1, 3, none⟩ (.int .u8 0)).setCell ⟨w.heap.size + 1, 4, none⟩ (.bool false)) = w3 at *
  have b0 := hB3.cell 0
  have b1 := hB3.cell 1
  have b2 := hB3.cell 2
  have b3 := hB3.cell 3
  have b4 := hB3.cell 4
  simp at b0 b1 b2 b3 b4
  simp [results, Tryz.results148, go_sem, b0, b1, b2, b3, b4]
end Go.Proofs.YtglklbcohbeacaaGreat
