/- A board's tick at a beat's end. -/
import Derived.Test.YtacbdapgdgliiaaTickA
namespace Go.Proofs.Ytacbdapgdgliiaa
open Go.RowKit
set_option linter.unusedSimpArgs false
set_option linter.unusedVariables false

set_option maxRecDepth 20000 in
set_option maxHeartbeats 2000000 in
theorem beat_0 (b : Bd) (hb : b.Ok) (hon : b.on = true) (hd : ¬ b.div + 1 < 2048) (hst : b.step = 0) (w : World) : Calls Try.prog 11 #[.agg (enc b)] w (Ret (.agg (enc (beatB b))) w) := by
  have HO := hid_ hb
  have HN := hid_ hon
  obtain ⟨D, hD⟩ : ∃ D, b.div = D := ⟨_, rfl⟩
  have d1 := hb.div1
  have HD0 := hid_ (div_ok hb 0 (by omega) (by omega))
  have HZ := hid_ (enc_size zeroB rfl)
  have hR := (step_ok (stepB_ok (even_ok HD0.out)) ((b.step + 1) % 8) (by omega) (by omega))
  have HS : Hid ((enc (beatB b)).size = 70) := enc_size _ hR.regs
  have H1 := hid_ (enc_one (beatB b))
  have HD := hid_ hD
  rw [hD] at hd d1
  obtain rfl : D = 2047 := by omega
  have HT := hid_ hst
  clear hR hb hon hD hd d1 hst
  go_enter Try.func11, Try.ntmps11
  go_wp2_with (first
      | (with_reducible refine wpList_alloc29 (op := ⟨some 2, .alloc 29, _, _, _, _⟩) rfl rfl b w rfl ?_; intro w1 HB1 HB2 HW1 hg1; have c48 := HB1.out.a48 HO.out.regs; rw [HN.out] at c48; have c49 := HB1.out.a49 HO.out.regs; rw [HD.out] at c49; have f49 := HB1.out.frozen 49; have hg0 := HB1.out.lt; have c50 := HB1.out.a50 HO.out.regs; have f50 := HB1.out.frozen 50; rw [HT.out] at c50))
  refine (lengths_any { b with div := 0 } (HD0.out) w.heap.size _ ((HB1.out.s49 HO.out.regs 2048).s49 HO.out.regs 0)).mono ?_
  rintro e wk0 ⟨rfl, hBk, hOk⟩
  have HK0 := hid_ hBk
  have HZk0 := hid_ (hOk.blk (by omega) ((HB2.out.far (p := ⟨w.heap.size, 49, none⟩) (by simp) (.int .i64 2048)).far (p := ⟨w.heap.size, 49, none⟩) (by simp) (.int .i64 0)))
  have HWk0 := hid_ (hOk.below ((HW1.out.setCell (p := ⟨w.heap.size, 49, none⟩) (by simp) (.int .i64 2048)).setCell (p := ⟨w.heap.size, 49, none⟩) (by simp) (.int .i64 0)) (Nat.le_refl _) (Nat.le_of_lt (by simp; omega)))
  clear hBk hOk HB1 HB2 HW1 c48 c49 c50 f49 f50 hg0
  have HOk0 := hid_ (lengths_ok (HD0.out))
  have hst0 := HT.out
  have hE : evenB { b with div := 0 } = (lengthsB { b with div := 0 }) := by unfold evenB; exact if_pos (show b.step % 2 = 0 by omega)
  have hS : stepB (lengthsB { b with div := 0 }) = (lengthsB { b with div := 0 }) := by unfold stepB; exact (if_neg (show ¬ (b.step = 2 ∨ b.step = 6) by omega)).trans (if_neg (show ¬ b.step = 7 by omega))
  have HQ := hid_ (show beatB b = { (lengthsB { b with div := 0 }) with step := 1 } by unfold beatB; rw [hE, hS, hst0]; rfl)
  clear hE hS hst0
  have hst1 : Bd.step (lengthsB { b with div := 0 }) = 0 := by first | exact HT.out | (rw [slide_step]; exact HT.out)
  have c50 := HK0.out.a50 HOk0.out.regs
  rw [hst1] at c50
  have f50 := HK0.out.frozen 50
  have hg0 := HK0.out.lt
  rw [HQ.out] at HS H1 ⊢
  go_wp2_with (first
      | (with_reducible refine wpList_load29 (op := ⟨some 35, _, _, _, _, _⟩) rfl (.tmp 1) rfl w.heap.size (by with_unfolding_all rfl) (enc { (lengthsB { b with div := 0 }) with step := 1 }) (HK0.out.s50 HOk0.out.regs 1) HS.out ?_)
      | (with_reducible refine wpList_store29 (op := ⟨none, .store 29 (.tmp 2) (.tmp 35), _, _, _, _⟩) rfl (.tmp 2) (.tmp 35) rfl (w.heap.size + 1) (enc zeroB) (enc { (lengthsB { b with div := 0 }) with step := 1 }) (by with_unfolding_all rfl) (by with_unfolding_all rfl) (HZk0.out.far (by simp) _) HZ.out HS.out H1.out ?_))
  refine bodyPost_ret (v := .agg (enc { (lengthsB { b with div := 0 }) with step := 1 })) (results_board Try.results11 rfl ((HZk0.out.far (p := ⟨w.heap.size, 50, none⟩) (by simp) (.int .i64 1)).setRow _) HS.out) rfl (.of ?_ (below_setRow (HWk0.out.setCell (p := ⟨w.heap.size, 50, none⟩) (by simp) (.int .i64 1)) (by omega) _))
  first | rfl | rw [HQ.out]
set_option maxRecDepth 20000 in
set_option maxHeartbeats 2000000 in
theorem beat_1 (b : Bd) (hb : b.Ok) (hon : b.on = true) (hd : ¬ b.div + 1 < 2048) (hst : b.step = 1) (w : World) : Calls Try.prog 11 #[.agg (enc b)] w (Ret (.agg (enc (beatB b))) w) := by
  have HO := hid_ hb
  have HN := hid_ hon
  obtain ⟨D, hD⟩ : ∃ D, b.div = D := ⟨_, rfl⟩
  have d1 := hb.div1
  have HD0 := hid_ (div_ok hb 0 (by omega) (by omega))
  have HZ := hid_ (enc_size zeroB rfl)
  have hR := (step_ok (stepB_ok (even_ok HD0.out)) ((b.step + 1) % 8) (by omega) (by omega))
  have HS : Hid ((enc (beatB b)).size = 70) := enc_size _ hR.regs
  have H1 := hid_ (enc_one (beatB b))
  have HD := hid_ hD
  rw [hD] at hd d1
  obtain rfl : D = 2047 := by omega
  have HT := hid_ hst
  clear hR hb hon hD hd d1 hst
  go_enter Try.func11, Try.ntmps11
  have HQ := hid_ (show beatB b = { b with div := 0, step := 2 } by unfold beatB evenB stepB; simp [HT.out])
  rw [HQ.out] at HS H1 ⊢
  go_wp2_with (first
      | (with_reducible refine wpList_alloc29 (op := ⟨some 2, .alloc 29, _, _, _, _⟩) rfl rfl b w rfl ?_; intro w1 HB1 HB2 HW1 hg1; have c48 := HB1.out.a48 HO.out.regs; rw [HN.out] at c48; have c49 := HB1.out.a49 HO.out.regs; rw [HD.out] at c49; have f49 := HB1.out.frozen 49; have hg0 := HB1.out.lt; have c50 := HB1.out.a50 HO.out.regs; have f50 := HB1.out.frozen 50; rw [HT.out] at c50)
      | (with_reducible refine wpList_load29 (op := ⟨some 35, _, _, _, _, _⟩) rfl (.tmp 1) rfl w.heap.size (by with_unfolding_all rfl) (enc { b with div := 0, step := 2 }) (((HB1.out.s49 HO.out.regs 2048).s49 HO.out.regs 0).s50 HO.out.regs 2) HS.out ?_)
      | (with_reducible refine wpList_store29 (op := ⟨none, .store 29 (.tmp 2) (.tmp 35), _, _, _, _⟩) rfl (.tmp 2) (.tmp 35) rfl (w.heap.size + 1) (enc zeroB) (enc { b with div := 0, step := 2 }) (by with_unfolding_all rfl) (by with_unfolding_all rfl) (((HB2.out.far (p := ⟨w.heap.size, 49, none⟩) (by simp) (.int .i64 2048)).far (p := ⟨w.heap.size, 49, none⟩) (by simp) (.int .i64 0)).far (p := ⟨w.heap.size, 50, none⟩) (by simp) (.int .i64 2)) HZ.out HS.out H1.out ?_))
  refine bodyPost_ret (v := .agg (enc { b with div := 0, step := 2 })) (results_board Try.results11 rfl ((((HB2.out.far (p := ⟨w.heap.size, 49, none⟩) (by simp) (.int .i64 2048)).far (p := ⟨w.heap.size, 49, none⟩) (by simp) (.int .i64 0)).far (p := ⟨w.heap.size, 50, none⟩) (by simp) (.int .i64 2)).setRow _) HS.out) rfl (.of ?_ (below_setRow (((HW1.out.setCell (p := ⟨w.heap.size, 49, none⟩) (by simp) (.int .i64 2048)).setCell (p := ⟨w.heap.size, 49, none⟩) (by simp) (.int .i64 0)).setCell (p := ⟨w.heap.size, 50, none⟩) (by simp) (.int .i64 2)) (by omega) _))
  first | rfl | rw [HQ.out]
set_option maxRecDepth 20000 in
set_option maxHeartbeats 2000000 in
theorem beat_2 (b : Bd) (hb : b.Ok) (hon : b.on = true) (hd : ¬ b.div + 1 < 2048) (hst : b.step = 2) (w : World) : Calls Try.prog 11 #[.agg (enc b)] w (Ret (.agg (enc (beatB b))) w) := by
  have HO := hid_ hb
  have HN := hid_ hon
  obtain ⟨D, hD⟩ : ∃ D, b.div = D := ⟨_, rfl⟩
  have d1 := hb.div1
  have HD0 := hid_ (div_ok hb 0 (by omega) (by omega))
  have HZ := hid_ (enc_size zeroB rfl)
  have hR := (step_ok (stepB_ok (even_ok HD0.out)) ((b.step + 1) % 8) (by omega) (by omega))
  have HS : Hid ((enc (beatB b)).size = 70) := enc_size _ hR.regs
  have H1 := hid_ (enc_one (beatB b))
  have HD := hid_ hD
  rw [hD] at hd d1
  obtain rfl : D = 2047 := by omega
  have HT := hid_ hst
  clear hR hb hon hD hd d1 hst
  go_enter Try.func11, Try.ntmps11
  go_wp2_with (first
      | (with_reducible refine wpList_alloc29 (op := ⟨some 2, .alloc 29, _, _, _, _⟩) rfl rfl b w rfl ?_; intro w1 HB1 HB2 HW1 hg1; have c48 := HB1.out.a48 HO.out.regs; rw [HN.out] at c48; have c49 := HB1.out.a49 HO.out.regs; rw [HD.out] at c49; have f49 := HB1.out.frozen 49; have hg0 := HB1.out.lt; have c50 := HB1.out.a50 HO.out.regs; have f50 := HB1.out.frozen 50; rw [HT.out] at c50))
  refine (lengths_any { b with div := 0 } (HD0.out) w.heap.size _ ((HB1.out.s49 HO.out.regs 2048).s49 HO.out.regs 0)).mono ?_
  rintro e wk0 ⟨rfl, hBk, hOk⟩
  have HK0 := hid_ hBk
  have HZk0 := hid_ (hOk.blk (by omega) ((HB2.out.far (p := ⟨w.heap.size, 49, none⟩) (by simp) (.int .i64 2048)).far (p := ⟨w.heap.size, 49, none⟩) (by simp) (.int .i64 0)))
  have HWk0 := hid_ (hOk.below ((HW1.out.setCell (p := ⟨w.heap.size, 49, none⟩) (by simp) (.int .i64 2048)).setCell (p := ⟨w.heap.size, 49, none⟩) (by simp) (.int .i64 0)) (Nat.le_refl _) (Nat.le_of_lt (by simp; omega)))
  clear hBk hOk HB1 HB2 HW1 c48 c49 c50 f49 f50 hg0
  have HOk0 := hid_ (lengths_ok (HD0.out))
  have c50 := HK0.out.a50 HOk0.out.regs
  rw [show Bd.step (lengthsB { b with div := 0 }) = 2 from HT.out] at c50
  have hg0 := HK0.out.lt
  go_wp2_with fail
  clear c50 hg0
  refine (slide_any (lengthsB { b with div := 0 }) (HOk0.out) w.heap.size _ HK0.out).mono ?_
  rintro e wk1 ⟨rfl, hBk, hOk⟩
  have HK1 := hid_ hBk
  have HZk1 := hid_ (hOk.blk (by omega) HZk0.out)
  have HWk1 := hid_ (hOk.below HWk0.out (Nat.le_refl _) (Nat.le_of_lt (by have := HZk0.out.lt; omega)))
  clear hBk hOk
  have HOk1 := hid_ (slide_ok (HOk0.out))
  have hst0 := HT.out
  have hE : evenB { b with div := 0 } = (lengthsB { b with div := 0 }) := by unfold evenB; exact if_pos (show b.step % 2 = 0 by omega)
  have hS : stepB (lengthsB { b with div := 0 }) = (slideB (lengthsB { b with div := 0 })) := by unfold stepB; exact if_pos (show b.step = 2 ∨ b.step = 6 by omega)
  have HQ := hid_ (show beatB b = { (slideB (lengthsB { b with div := 0 })) with step := 3 } by unfold beatB; rw [hE, hS, hst0]; rfl)
  clear hE hS hst0
  have hst1 : Bd.step (slideB (lengthsB { b with div := 0 })) = 2 := by first | exact HT.out | (rw [slide_step]; exact HT.out)
  have c50 := HK1.out.a50 HOk1.out.regs
  rw [hst1] at c50
  have f50 := HK1.out.frozen 50
  have hg0 := HK1.out.lt
  rw [HQ.out] at HS H1 ⊢
  go_wp2_with (first
      | (with_reducible refine wpList_load29 (op := ⟨some 35, _, _, _, _, _⟩) rfl (.tmp 1) rfl w.heap.size (by with_unfolding_all rfl) (enc { (slideB (lengthsB { b with div := 0 })) with step := 3 }) (HK1.out.s50 HOk1.out.regs 3) HS.out ?_)
      | (with_reducible refine wpList_store29 (op := ⟨none, .store 29 (.tmp 2) (.tmp 35), _, _, _, _⟩) rfl (.tmp 2) (.tmp 35) rfl (w.heap.size + 1) (enc zeroB) (enc { (slideB (lengthsB { b with div := 0 })) with step := 3 }) (by with_unfolding_all rfl) (by with_unfolding_all rfl) (HZk1.out.far (by simp) _) HZ.out HS.out H1.out ?_))
  refine bodyPost_ret (v := .agg (enc { (slideB (lengthsB { b with div := 0 })) with step := 3 })) (results_board Try.results11 rfl ((HZk1.out.far (p := ⟨w.heap.size, 50, none⟩) (by simp) (.int .i64 3)).setRow _) HS.out) rfl (.of ?_ (below_setRow (HWk1.out.setCell (p := ⟨w.heap.size, 50, none⟩) (by simp) (.int .i64 3)) (by omega) _))
  first | rfl | rw [HQ.out]
set_option maxRecDepth 20000 in
set_option maxHeartbeats 2000000 in
theorem beat_3 (b : Bd) (hb : b.Ok) (hon : b.on = true) (hd : ¬ b.div + 1 < 2048) (hst : b.step = 3) (w : World) : Calls Try.prog 11 #[.agg (enc b)] w (Ret (.agg (enc (beatB b))) w) := by
  have HO := hid_ hb
  have HN := hid_ hon
  obtain ⟨D, hD⟩ : ∃ D, b.div = D := ⟨_, rfl⟩
  have d1 := hb.div1
  have HD0 := hid_ (div_ok hb 0 (by omega) (by omega))
  have HZ := hid_ (enc_size zeroB rfl)
  have hR := (step_ok (stepB_ok (even_ok HD0.out)) ((b.step + 1) % 8) (by omega) (by omega))
  have HS : Hid ((enc (beatB b)).size = 70) := enc_size _ hR.regs
  have H1 := hid_ (enc_one (beatB b))
  have HD := hid_ hD
  rw [hD] at hd d1
  obtain rfl : D = 2047 := by omega
  have HT := hid_ hst
  clear hR hb hon hD hd d1 hst
  go_enter Try.func11, Try.ntmps11
  have HQ := hid_ (show beatB b = { b with div := 0, step := 4 } by unfold beatB evenB stepB; simp [HT.out])
  rw [HQ.out] at HS H1 ⊢
  go_wp2_with (first
      | (with_reducible refine wpList_alloc29 (op := ⟨some 2, .alloc 29, _, _, _, _⟩) rfl rfl b w rfl ?_; intro w1 HB1 HB2 HW1 hg1; have c48 := HB1.out.a48 HO.out.regs; rw [HN.out] at c48; have c49 := HB1.out.a49 HO.out.regs; rw [HD.out] at c49; have f49 := HB1.out.frozen 49; have hg0 := HB1.out.lt; have c50 := HB1.out.a50 HO.out.regs; have f50 := HB1.out.frozen 50; rw [HT.out] at c50)
      | (with_reducible refine wpList_load29 (op := ⟨some 35, _, _, _, _, _⟩) rfl (.tmp 1) rfl w.heap.size (by with_unfolding_all rfl) (enc { b with div := 0, step := 4 }) (((HB1.out.s49 HO.out.regs 2048).s49 HO.out.regs 0).s50 HO.out.regs 4) HS.out ?_)
      | (with_reducible refine wpList_store29 (op := ⟨none, .store 29 (.tmp 2) (.tmp 35), _, _, _, _⟩) rfl (.tmp 2) (.tmp 35) rfl (w.heap.size + 1) (enc zeroB) (enc { b with div := 0, step := 4 }) (by with_unfolding_all rfl) (by with_unfolding_all rfl) (((HB2.out.far (p := ⟨w.heap.size, 49, none⟩) (by simp) (.int .i64 2048)).far (p := ⟨w.heap.size, 49, none⟩) (by simp) (.int .i64 0)).far (p := ⟨w.heap.size, 50, none⟩) (by simp) (.int .i64 4)) HZ.out HS.out H1.out ?_))
  refine bodyPost_ret (v := .agg (enc { b with div := 0, step := 4 })) (results_board Try.results11 rfl ((((HB2.out.far (p := ⟨w.heap.size, 49, none⟩) (by simp) (.int .i64 2048)).far (p := ⟨w.heap.size, 49, none⟩) (by simp) (.int .i64 0)).far (p := ⟨w.heap.size, 50, none⟩) (by simp) (.int .i64 4)).setRow _) HS.out) rfl (.of ?_ (below_setRow (((HW1.out.setCell (p := ⟨w.heap.size, 49, none⟩) (by simp) (.int .i64 2048)).setCell (p := ⟨w.heap.size, 49, none⟩) (by simp) (.int .i64 0)).setCell (p := ⟨w.heap.size, 50, none⟩) (by simp) (.int .i64 4)) (by omega) _))
  first | rfl | rw [HQ.out]
set_option maxRecDepth 20000 in
set_option maxHeartbeats 2000000 in
theorem beat_4 (b : Bd) (hb : b.Ok) (hon : b.on = true) (hd : ¬ b.div + 1 < 2048) (hst : b.step = 4) (w : World) : Calls Try.prog 11 #[.agg (enc b)] w (Ret (.agg (enc (beatB b))) w) := by
  have HO := hid_ hb
  have HN := hid_ hon
  obtain ⟨D, hD⟩ : ∃ D, b.div = D := ⟨_, rfl⟩
  have d1 := hb.div1
  have HD0 := hid_ (div_ok hb 0 (by omega) (by omega))
  have HZ := hid_ (enc_size zeroB rfl)
  have hR := (step_ok (stepB_ok (even_ok HD0.out)) ((b.step + 1) % 8) (by omega) (by omega))
  have HS : Hid ((enc (beatB b)).size = 70) := enc_size _ hR.regs
  have H1 := hid_ (enc_one (beatB b))
  have HD := hid_ hD
  rw [hD] at hd d1
  obtain rfl : D = 2047 := by omega
  have HT := hid_ hst
  clear hR hb hon hD hd d1 hst
  go_enter Try.func11, Try.ntmps11
  go_wp2_with (first
      | (with_reducible refine wpList_alloc29 (op := ⟨some 2, .alloc 29, _, _, _, _⟩) rfl rfl b w rfl ?_; intro w1 HB1 HB2 HW1 hg1; have c48 := HB1.out.a48 HO.out.regs; rw [HN.out] at c48; have c49 := HB1.out.a49 HO.out.regs; rw [HD.out] at c49; have f49 := HB1.out.frozen 49; have hg0 := HB1.out.lt; have c50 := HB1.out.a50 HO.out.regs; have f50 := HB1.out.frozen 50; rw [HT.out] at c50))
  refine (lengths_any { b with div := 0 } (HD0.out) w.heap.size _ ((HB1.out.s49 HO.out.regs 2048).s49 HO.out.regs 0)).mono ?_
  rintro e wk0 ⟨rfl, hBk, hOk⟩
  have HK0 := hid_ hBk
  have HZk0 := hid_ (hOk.blk (by omega) ((HB2.out.far (p := ⟨w.heap.size, 49, none⟩) (by simp) (.int .i64 2048)).far (p := ⟨w.heap.size, 49, none⟩) (by simp) (.int .i64 0)))
  have HWk0 := hid_ (hOk.below ((HW1.out.setCell (p := ⟨w.heap.size, 49, none⟩) (by simp) (.int .i64 2048)).setCell (p := ⟨w.heap.size, 49, none⟩) (by simp) (.int .i64 0)) (Nat.le_refl _) (Nat.le_of_lt (by simp; omega)))
  clear hBk hOk HB1 HB2 HW1 c48 c49 c50 f49 f50 hg0
  have HOk0 := hid_ (lengths_ok (HD0.out))
  have hst0 := HT.out
  have hE : evenB { b with div := 0 } = (lengthsB { b with div := 0 }) := by unfold evenB; exact if_pos (show b.step % 2 = 0 by omega)
  have hS : stepB (lengthsB { b with div := 0 }) = (lengthsB { b with div := 0 }) := by unfold stepB; exact (if_neg (show ¬ (b.step = 2 ∨ b.step = 6) by omega)).trans (if_neg (show ¬ b.step = 7 by omega))
  have HQ := hid_ (show beatB b = { (lengthsB { b with div := 0 }) with step := 5 } by unfold beatB; rw [hE, hS, hst0]; rfl)
  clear hE hS hst0
  have hst1 : Bd.step (lengthsB { b with div := 0 }) = 4 := by first | exact HT.out | (rw [slide_step]; exact HT.out)
  have c50 := HK0.out.a50 HOk0.out.regs
  rw [hst1] at c50
  have f50 := HK0.out.frozen 50
  have hg0 := HK0.out.lt
  rw [HQ.out] at HS H1 ⊢
  go_wp2_with (first
      | (with_reducible refine wpList_load29 (op := ⟨some 35, _, _, _, _, _⟩) rfl (.tmp 1) rfl w.heap.size (by with_unfolding_all rfl) (enc { (lengthsB { b with div := 0 }) with step := 5 }) (HK0.out.s50 HOk0.out.regs 5) HS.out ?_)
      | (with_reducible refine wpList_store29 (op := ⟨none, .store 29 (.tmp 2) (.tmp 35), _, _, _, _⟩) rfl (.tmp 2) (.tmp 35) rfl (w.heap.size + 1) (enc zeroB) (enc { (lengthsB { b with div := 0 }) with step := 5 }) (by with_unfolding_all rfl) (by with_unfolding_all rfl) (HZk0.out.far (by simp) _) HZ.out HS.out H1.out ?_))
  refine bodyPost_ret (v := .agg (enc { (lengthsB { b with div := 0 }) with step := 5 })) (results_board Try.results11 rfl ((HZk0.out.far (p := ⟨w.heap.size, 50, none⟩) (by simp) (.int .i64 5)).setRow _) HS.out) rfl (.of ?_ (below_setRow (HWk0.out.setCell (p := ⟨w.heap.size, 50, none⟩) (by simp) (.int .i64 5)) (by omega) _))
  first | rfl | rw [HQ.out]
set_option maxRecDepth 20000 in
set_option maxHeartbeats 2000000 in
theorem beat_5 (b : Bd) (hb : b.Ok) (hon : b.on = true) (hd : ¬ b.div + 1 < 2048) (hst : b.step = 5) (w : World) : Calls Try.prog 11 #[.agg (enc b)] w (Ret (.agg (enc (beatB b))) w) := by
  have HO := hid_ hb
  have HN := hid_ hon
  obtain ⟨D, hD⟩ : ∃ D, b.div = D := ⟨_, rfl⟩
  have d1 := hb.div1
  have HD0 := hid_ (div_ok hb 0 (by omega) (by omega))
  have HZ := hid_ (enc_size zeroB rfl)
  have hR := (step_ok (stepB_ok (even_ok HD0.out)) ((b.step + 1) % 8) (by omega) (by omega))
  have HS : Hid ((enc (beatB b)).size = 70) := enc_size _ hR.regs
  have H1 := hid_ (enc_one (beatB b))
  have HD := hid_ hD
  rw [hD] at hd d1
  obtain rfl : D = 2047 := by omega
  have HT := hid_ hst
  clear hR hb hon hD hd d1 hst
  go_enter Try.func11, Try.ntmps11
  have HQ := hid_ (show beatB b = { b with div := 0, step := 6 } by unfold beatB evenB stepB; simp [HT.out])
  rw [HQ.out] at HS H1 ⊢
  go_wp2_with (first
      | (with_reducible refine wpList_alloc29 (op := ⟨some 2, .alloc 29, _, _, _, _⟩) rfl rfl b w rfl ?_; intro w1 HB1 HB2 HW1 hg1; have c48 := HB1.out.a48 HO.out.regs; rw [HN.out] at c48; have c49 := HB1.out.a49 HO.out.regs; rw [HD.out] at c49; have f49 := HB1.out.frozen 49; have hg0 := HB1.out.lt; have c50 := HB1.out.a50 HO.out.regs; have f50 := HB1.out.frozen 50; rw [HT.out] at c50)
      | (with_reducible refine wpList_load29 (op := ⟨some 35, _, _, _, _, _⟩) rfl (.tmp 1) rfl w.heap.size (by with_unfolding_all rfl) (enc { b with div := 0, step := 6 }) (((HB1.out.s49 HO.out.regs 2048).s49 HO.out.regs 0).s50 HO.out.regs 6) HS.out ?_)
      | (with_reducible refine wpList_store29 (op := ⟨none, .store 29 (.tmp 2) (.tmp 35), _, _, _, _⟩) rfl (.tmp 2) (.tmp 35) rfl (w.heap.size + 1) (enc zeroB) (enc { b with div := 0, step := 6 }) (by with_unfolding_all rfl) (by with_unfolding_all rfl) (((HB2.out.far (p := ⟨w.heap.size, 49, none⟩) (by simp) (.int .i64 2048)).far (p := ⟨w.heap.size, 49, none⟩) (by simp) (.int .i64 0)).far (p := ⟨w.heap.size, 50, none⟩) (by simp) (.int .i64 6)) HZ.out HS.out H1.out ?_))
  refine bodyPost_ret (v := .agg (enc { b with div := 0, step := 6 })) (results_board Try.results11 rfl ((((HB2.out.far (p := ⟨w.heap.size, 49, none⟩) (by simp) (.int .i64 2048)).far (p := ⟨w.heap.size, 49, none⟩) (by simp) (.int .i64 0)).far (p := ⟨w.heap.size, 50, none⟩) (by simp) (.int .i64 6)).setRow _) HS.out) rfl (.of ?_ (below_setRow (((HW1.out.setCell (p := ⟨w.heap.size, 49, none⟩) (by simp) (.int .i64 2048)).setCell (p := ⟨w.heap.size, 49, none⟩) (by simp) (.int .i64 0)).setCell (p := ⟨w.heap.size, 50, none⟩) (by simp) (.int .i64 6)) (by omega) _))
  first | rfl | rw [HQ.out]
set_option maxRecDepth 20000 in
set_option maxHeartbeats 2000000 in
theorem beat_6 (b : Bd) (hb : b.Ok) (hon : b.on = true) (hd : ¬ b.div + 1 < 2048) (hst : b.step = 6) (w : World) : Calls Try.prog 11 #[.agg (enc b)] w (Ret (.agg (enc (beatB b))) w) := by
  have HO := hid_ hb
  have HN := hid_ hon
  obtain ⟨D, hD⟩ : ∃ D, b.div = D := ⟨_, rfl⟩
  have d1 := hb.div1
  have HD0 := hid_ (div_ok hb 0 (by omega) (by omega))
  have HZ := hid_ (enc_size zeroB rfl)
  have hR := (step_ok (stepB_ok (even_ok HD0.out)) ((b.step + 1) % 8) (by omega) (by omega))
  have HS : Hid ((enc (beatB b)).size = 70) := enc_size _ hR.regs
  have H1 := hid_ (enc_one (beatB b))
  have HD := hid_ hD
  rw [hD] at hd d1
  obtain rfl : D = 2047 := by omega
  have HT := hid_ hst
  clear hR hb hon hD hd d1 hst
  go_enter Try.func11, Try.ntmps11
  go_wp2_with (first
      | (with_reducible refine wpList_alloc29 (op := ⟨some 2, .alloc 29, _, _, _, _⟩) rfl rfl b w rfl ?_; intro w1 HB1 HB2 HW1 hg1; have c48 := HB1.out.a48 HO.out.regs; rw [HN.out] at c48; have c49 := HB1.out.a49 HO.out.regs; rw [HD.out] at c49; have f49 := HB1.out.frozen 49; have hg0 := HB1.out.lt; have c50 := HB1.out.a50 HO.out.regs; have f50 := HB1.out.frozen 50; rw [HT.out] at c50))
  refine (lengths_any { b with div := 0 } (HD0.out) w.heap.size _ ((HB1.out.s49 HO.out.regs 2048).s49 HO.out.regs 0)).mono ?_
  rintro e wk0 ⟨rfl, hBk, hOk⟩
  have HK0 := hid_ hBk
  have HZk0 := hid_ (hOk.blk (by omega) ((HB2.out.far (p := ⟨w.heap.size, 49, none⟩) (by simp) (.int .i64 2048)).far (p := ⟨w.heap.size, 49, none⟩) (by simp) (.int .i64 0)))
  have HWk0 := hid_ (hOk.below ((HW1.out.setCell (p := ⟨w.heap.size, 49, none⟩) (by simp) (.int .i64 2048)).setCell (p := ⟨w.heap.size, 49, none⟩) (by simp) (.int .i64 0)) (Nat.le_refl _) (Nat.le_of_lt (by simp; omega)))
  clear hBk hOk HB1 HB2 HW1 c48 c49 c50 f49 f50 hg0
  have HOk0 := hid_ (lengths_ok (HD0.out))
  have c50 := HK0.out.a50 HOk0.out.regs
  rw [show Bd.step (lengthsB { b with div := 0 }) = 6 from HT.out] at c50
  have hg0 := HK0.out.lt
  go_wp2_with fail
  clear c50 hg0
  refine (slide_any (lengthsB { b with div := 0 }) (HOk0.out) w.heap.size _ HK0.out).mono ?_
  rintro e wk1 ⟨rfl, hBk, hOk⟩
  have HK1 := hid_ hBk
  have HZk1 := hid_ (hOk.blk (by omega) HZk0.out)
  have HWk1 := hid_ (hOk.below HWk0.out (Nat.le_refl _) (Nat.le_of_lt (by have := HZk0.out.lt; omega)))
  clear hBk hOk
  have HOk1 := hid_ (slide_ok (HOk0.out))
  have hst0 := HT.out
  have hE : evenB { b with div := 0 } = (lengthsB { b with div := 0 }) := by unfold evenB; exact if_pos (show b.step % 2 = 0 by omega)
  have hS : stepB (lengthsB { b with div := 0 }) = (slideB (lengthsB { b with div := 0 })) := by unfold stepB; exact if_pos (show b.step = 2 ∨ b.step = 6 by omega)
  have HQ := hid_ (show beatB b = { (slideB (lengthsB { b with div := 0 })) with step := 7 } by unfold beatB; rw [hE, hS, hst0]; rfl)
  clear hE hS hst0
  have hst1 : Bd.step (slideB (lengthsB { b with div := 0 })) = 6 := by first | exact HT.out | (rw [slide_step]; exact HT.out)
  have c50 := HK1.out.a50 HOk1.out.regs
  rw [hst1] at c50
  have f50 := HK1.out.frozen 50
  have hg0 := HK1.out.lt
  rw [HQ.out] at HS H1 ⊢
  go_wp2_with (first
      | (with_reducible refine wpList_load29 (op := ⟨some 35, _, _, _, _, _⟩) rfl (.tmp 1) rfl w.heap.size (by with_unfolding_all rfl) (enc { (slideB (lengthsB { b with div := 0 })) with step := 7 }) (HK1.out.s50 HOk1.out.regs 7) HS.out ?_)
      | (with_reducible refine wpList_store29 (op := ⟨none, .store 29 (.tmp 2) (.tmp 35), _, _, _, _⟩) rfl (.tmp 2) (.tmp 35) rfl (w.heap.size + 1) (enc zeroB) (enc { (slideB (lengthsB { b with div := 0 })) with step := 7 }) (by with_unfolding_all rfl) (by with_unfolding_all rfl) (HZk1.out.far (by simp) _) HZ.out HS.out H1.out ?_))
  refine bodyPost_ret (v := .agg (enc { (slideB (lengthsB { b with div := 0 })) with step := 7 })) (results_board Try.results11 rfl ((HZk1.out.far (p := ⟨w.heap.size, 50, none⟩) (by simp) (.int .i64 7)).setRow _) HS.out) rfl (.of ?_ (below_setRow (HWk1.out.setCell (p := ⟨w.heap.size, 50, none⟩) (by simp) (.int .i64 7)) (by omega) _))
  first | rfl | rw [HQ.out]
set_option maxRecDepth 20000 in
set_option maxHeartbeats 2000000 in
theorem beat_7 (b : Bd) (hb : b.Ok) (hon : b.on = true) (hd : ¬ b.div + 1 < 2048) (hst : b.step = 7) (w : World) : Calls Try.prog 11 #[.agg (enc b)] w (Ret (.agg (enc (beatB b))) w) := by
  have HO := hid_ hb
  have HN := hid_ hon
  obtain ⟨D, hD⟩ : ∃ D, b.div = D := ⟨_, rfl⟩
  have d1 := hb.div1
  have HD0 := hid_ (div_ok hb 0 (by omega) (by omega))
  have HZ := hid_ (enc_size zeroB rfl)
  have hR := (step_ok (stepB_ok (even_ok HD0.out)) ((b.step + 1) % 8) (by omega) (by omega))
  have HS : Hid ((enc (beatB b)).size = 70) := enc_size _ hR.regs
  have H1 := hid_ (enc_one (beatB b))
  have HD := hid_ hD
  rw [hD] at hd d1
  obtain rfl : D = 2047 := by omega
  have HT := hid_ hst
  clear hR hb hon hD hd d1 hst
  go_enter Try.func11, Try.ntmps11
  go_wp2_with (first
      | (with_reducible refine wpList_alloc29 (op := ⟨some 2, .alloc 29, _, _, _, _⟩) rfl rfl b w rfl ?_; intro w1 HB1 HB2 HW1 hg1; have c48 := HB1.out.a48 HO.out.regs; rw [HN.out] at c48; have c49 := HB1.out.a49 HO.out.regs; rw [HD.out] at c49; have f49 := HB1.out.frozen 49; have hg0 := HB1.out.lt; have c50 := HB1.out.a50 HO.out.regs; have f50 := HB1.out.frozen 50; rw [HT.out] at c50))
  refine (levels_any { b with div := 0 } (HD0.out) w.heap.size _ ((HB1.out.s49 HO.out.regs 2048).s49 HO.out.regs 0)).mono ?_
  rintro e wk0 ⟨rfl, hBk, hOk⟩
  have HK0 := hid_ hBk
  have HZk0 := hid_ (hOk.blk (by omega) ((HB2.out.far (p := ⟨w.heap.size, 49, none⟩) (by simp) (.int .i64 2048)).far (p := ⟨w.heap.size, 49, none⟩) (by simp) (.int .i64 0)))
  have HWk0 := hid_ (hOk.below ((HW1.out.setCell (p := ⟨w.heap.size, 49, none⟩) (by simp) (.int .i64 2048)).setCell (p := ⟨w.heap.size, 49, none⟩) (by simp) (.int .i64 0)) (Nat.le_refl _) (Nat.le_of_lt (by simp; omega)))
  clear hBk hOk HB1 HB2 HW1 c48 c49 c50 f49 f50 hg0
  have HOk0 := hid_ (levels_ok (HD0.out))
  have hst0 := HT.out
  have hE : evenB { b with div := 0 } = { b with div := 0 } := by unfold evenB; exact if_neg (show ¬ b.step % 2 = 0 by omega)
  have hS : stepB { b with div := 0 } = (levelsB { b with div := 0 }) := by unfold stepB; exact (if_neg (show ¬ (b.step = 2 ∨ b.step = 6) by omega)).trans (if_pos (show b.step = 7 by omega))
  have HQ := hid_ (show beatB b = { (levelsB { b with div := 0 }) with step := 0 } by unfold beatB; rw [hE, hS, hst0]; rfl)
  clear hE hS hst0
  have hst1 : Bd.step (levelsB { b with div := 0 }) = 7 := by first | exact HT.out | (rw [slide_step]; exact HT.out)
  have c50 := HK0.out.a50 HOk0.out.regs
  rw [hst1] at c50
  have f50 := HK0.out.frozen 50
  have hg0 := HK0.out.lt
  rw [HQ.out] at HS H1 ⊢
  go_wp2_with (first
      | (with_reducible refine wpList_load29 (op := ⟨some 35, _, _, _, _, _⟩) rfl (.tmp 1) rfl w.heap.size (by with_unfolding_all rfl) (enc { (levelsB { b with div := 0 }) with step := 0 }) (HK0.out.s50 HOk0.out.regs 0) HS.out ?_)
      | (with_reducible refine wpList_store29 (op := ⟨none, .store 29 (.tmp 2) (.tmp 35), _, _, _, _⟩) rfl (.tmp 2) (.tmp 35) rfl (w.heap.size + 1) (enc zeroB) (enc { (levelsB { b with div := 0 }) with step := 0 }) (by with_unfolding_all rfl) (by with_unfolding_all rfl) (HZk0.out.far (by simp) _) HZ.out HS.out H1.out ?_))
  refine bodyPost_ret (v := .agg (enc { (levelsB { b with div := 0 }) with step := 0 })) (results_board Try.results11 rfl ((HZk0.out.far (p := ⟨w.heap.size, 50, none⟩) (by simp) (.int .i64 0)).setRow _) HS.out) rfl (.of ?_ (below_setRow (HWk0.out.setCell (p := ⟨w.heap.size, 50, none⟩) (by simp) (.int .i64 0)) (by omega) _))
  first | rfl | rw [HQ.out]
/-- A tick's contract: of any board that is as it always is. -/
theorem tick_any (b : Bd) (hb : b.Ok) (w : World) : Calls Try.prog 11 #[.agg (enc b)] w (Ret (.agg (enc (tickB b))) w) := by
  unfold tickB
  by_cases hon0 : b.on = false
  · rw [if_pos hon0]; exact tick_off b hb.toOkR hon0 w
  · have hon : b.on = true := by simpa using hon0
    rw [if_neg hon0]
    by_cases hd : b.div + 1 < 2048
    · rw [if_pos hd]; exact tick_few b hb hon hd w
    · rw [if_neg hd]
      have s0 := hb.step0
      have s1 := hb.step1
      obtain hst | hst | hst | hst | hst | hst | hst | hst : b.step = 0 ∨ b.step = 1 ∨ b.step = 2 ∨ b.step = 3 ∨ b.step = 4 ∨ b.step = 5 ∨ b.step = 6 ∨ b.step = 7 := by omega
      · exact beat_0 b hb hon hd hst w
      · exact beat_1 b hb hon hd hst w
      · exact beat_2 b hb hon hd hst w
      · exact beat_3 b hb hon hd hst w
      · exact beat_4 b hb hon hd hst w
      · exact beat_5 b hb hon hd hst w
      · exact beat_6 b hb hon hd hst w
      · exact beat_7 b hb hon hd hst w
end Go.Proofs.Ytacbdapgdgliiaa
