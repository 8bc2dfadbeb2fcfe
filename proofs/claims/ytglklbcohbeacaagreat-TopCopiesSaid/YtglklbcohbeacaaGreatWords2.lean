/- Contracts of orders that take cycles of the bus. -/
import Derived.Test.YtglklbcohbeacaaGreatWords
namespace Go.Proofs.YtglklbcohbeacaaGreat
open Go.RowKit
set_option linter.unusedSimpArgs false
set_option linter.unusedVariables false

section
variable {S : St} {A A' : Option Nat} {w w' : World} {r : Nat} {M : Mc}
theorem Chg.ofR (hs : Step (· = r) w w') : Chg S (· = r) A w w' A := Chg.ofStep hs (fun k hk => .inr (.inr (.inr hk)))
theorem Chg.more {X : Nat → Prop} (h : Chg S (fun _ => False) A w w' A') : Chg S X A w w' A' := h.mono (fun _ _ => False.elim)
end
set_option maxRecDepth 100000 in
set_option maxHeartbeats 2000000 in
theorem words_inc_de (S : St) (M : Mc) (A : Option Nat) (R : Rg) (hR : R.ok) (r : Nat) (hm0 : M.n ≤ 1000) (hc0 : 0 ≤ M.cyc) (hc1 : M.cyc ≤ 1000000) (y sz n : Int) (w : World) (hM : Mach w S M A) (hF : Free S A r) (h : Blk w r 148 (rl S R).toArray) :
    Calls Tryz.prog 66 #[.pointer (some ⟨r, 0, none⟩), .agg #[.int .i64 14, .int .i64 1, .int .i64 y, .int .i64 sz, .int .u16 n]] w (RBus r S M.bus A R.deUp (.bool true) w) := by
  have h := hid_ h
  have hM := hid_ hM
  have hFr := hid_ hF
  obtain ⟨b0, b1⟩ := de_bd R hR
  have ew := wrap_u16 (R.de + 1)
  go_enter Tryz.func66, Tryz.ntmps66
  go_wp2_with (first
    | ((with_reducible refine wpList_boxA (op := ⟨some 3, _, _, _, _, _⟩) rfl 46 (.tmp 1) rfl #[.int .i64 14, .int .i64 1, .int .i64 y, .int .i64 sz, .int .u16 n] rfl ?_); intro w1 HB1 HW1 hz1; have H1 := hid_ (h.out.below HW1.out h.out.lt); have HM1 := hid_ (hM.out.below HW1.out (Nat.le_refl _)); have C1 : Hid (Chg S (· = r) A w w1 A) := Chg.of HW1.out; have g4 := HB1.out.cell 4; have g0 := HB1.out.cell 0; have g1 := HB1.out.cell 1; have g2 := HB1.out.cell 2; simp at g0 g1 g2 g4; have hr := h.out.lt; have hFg := hid_ (hM.out.free (Nat.le_refl w.heap.size))))
  refine wp_region_tail (S := (fun W => Blk W r 148 (rl S R).toArray ∧ Blk W w.heap.size 46 #[.int .i64 14, .int .i64 1, .int .i64 y, .int .i64 sz, .int .u16 n])) (tail := (fun j => decide (8 ≤ j))) (by kernel_rfl) ?hS1 (fun hHeld => ?rest1)
  case hS1 => (exact ⟨H1.out.drew, HB1.out.drew⟩)
  refine wpAnyT_take (i := 0) (v := ?v2) rfl (by kernel_rfl) (by kernel_rfl) (by kernel_rfl) (by kernel_rfl) (by kernel_rfl) (fun _ _ _ h => h) (Or.inl ⟨by rfl, ?hy2⟩) (by assumption) ?rest2
  case hy2 => (intro w hSw; (try simp only [List.getElem_toArray, List.getElem_cons_succ, List.getElem_cons_zero]); (try dsimp only at hSw); go_simp; all_goals (with_reducible rfl))
  (try simp only [Act.put, List.getElem_toArray, List.getElem_cons_succ, List.getElem_cons_zero, List.setIfInBounds_toArray, List.set_cons_zero, List.set_cons_succ])
  refine wpAnyT_take (i := 1) (v := ?v3) rfl (by kernel_rfl) (by kernel_rfl) (by kernel_rfl) (by kernel_rfl) (by kernel_rfl) (fun _ _ _ h => h) (Or.inl ⟨by rfl, ?hy3⟩) (by assumption) ?rest3
  case hy3 => (intro w hSw; (try simp only [List.getElem_toArray, List.getElem_cons_succ, List.getElem_cons_zero]); (try dsimp only at hSw); go_simp; all_goals (with_reducible rfl))
  (try simp only [Act.put, List.getElem_toArray, List.getElem_cons_succ, List.getElem_cons_zero, List.setIfInBounds_toArray, List.set_cons_zero, List.set_cons_succ])
  refine wpAnyT_take (i := 2) (v := ?v4) rfl (by kernel_rfl) (by kernel_rfl) (by kernel_rfl) (by kernel_rfl) (by kernel_rfl) (fun _ _ _ h => h) (Or.inl ⟨by rfl, ?hy4⟩) (by assumption) ?rest4
  case hy4 => (intro W hW; have c := hW.2.cell 1; simp at c; (try simp only [List.getElem_toArray, List.getElem_cons_succ, List.getElem_cons_zero]); go_simp; all_goals (with_reducible rfl))
  (try simp only [Act.put, List.getElem_toArray, List.getElem_cons_succ, List.getElem_cons_zero, List.setIfInBounds_toArray, List.set_cons_zero, List.set_cons_succ])
  refine wpAnyT_take (i := 3) (v := ?v5) rfl (by kernel_rfl) (by kernel_rfl) (by kernel_rfl) (by kernel_rfl) (by kernel_rfl) (fun _ _ _ h => h) (Or.inl ⟨by rfl, ?hy5⟩) (by assumption) ?rest5
  case hy5 => (intro w hSw; (try simp only [List.getElem_toArray, List.getElem_cons_succ, List.getElem_cons_zero]); (try dsimp only at hSw); go_simp; all_goals (with_reducible rfl))
  (try simp only [Act.put, List.getElem_toArray, List.getElem_cons_succ, List.getElem_cons_zero, List.setIfInBounds_toArray, List.set_cons_zero, List.set_cons_succ])
  refine wpAnyT_take (i := 4) (v := ?v6) rfl (by kernel_rfl) (by kernel_rfl) (by kernel_rfl) (by kernel_rfl) (by kernel_rfl) (fun _ _ _ h => h) (Or.inl ⟨by rfl, ?hy6⟩) (by assumption) ?rest6
  case hy6 => (intro w hSw; (try simp only [List.getElem_toArray, List.getElem_cons_succ, List.getElem_cons_zero]); (try dsimp only at hSw); go_simp; all_goals (with_reducible rfl))
  (try simp only [Act.put, List.getElem_toArray, List.getElem_cons_succ, List.getElem_cons_zero, List.setIfInBounds_toArray, List.set_cons_zero, List.set_cons_succ])
  refine wpAnyT_take (i := 5) (v := ?v7) rfl (by kernel_rfl) (by kernel_rfl) (by kernel_rfl) (by kernel_rfl) (by kernel_rfl) (fun _ _ _ h => h) (Or.inl ⟨by rfl, ?hy7⟩) (by assumption) ?rest7
  case hy7 => (intro W hW; have c := hW.2.cell 1; simp at c; (try simp only [List.getElem_toArray, List.getElem_cons_succ, List.getElem_cons_zero]); go_simp; all_goals (with_reducible rfl))
  (try simp only [Act.put, List.getElem_toArray, List.getElem_cons_succ, List.getElem_cons_zero, List.setIfInBounds_toArray, List.set_cons_zero, List.set_cons_succ])
  refine wpAnyT_one (i := 6) rfl (by kernel_rfl) (fun K hK => ?_)
  (try simp only [List.getElem_toArray, List.getElem_cons_succ, List.getElem_cons_zero])
  go_simp
  refine (pair_de S R hR r _ H1.out.drew).mono ?_
  rintro e w2 ⟨rfl, hc, hf, hz, hb⟩
  clear hc hf hz hHeld
  have H2 := hid_ (H1.out.drew.below hb H1.out.drew.lt)
  have HB2 := hid_ (HB1.out.drew.below hb HB1.out.drew.lt)
  have HM2 := hid_ (Mach.below (HM1.out.below (Below.refl w1.heap.size w1).drew (Nat.le_refl _)) hb (Nat.le_refl _))
  have C2 := hid_ ((C1.out.trans (Chg.of (Below.refl _ w1).drew)).trans (Chg.of hb))
  have hHeld := And.intro H2.out HB2.out
  clear hb
  (try go_wp2_with fail)
  refine hK.out _ _ ?hS8 ?rest8
  case hS8 => (exact hHeld)
  clear hK K
  (try simp only [Act.put, List.getElem_toArray, List.getElem_cons_succ, List.getElem_cons_zero, List.setIfInBounds_toArray, List.set_cons_zero, List.set_cons_succ])
  refine wpAnyT_take (i := 7) (v := ?v9) rfl (by kernel_rfl) (by kernel_rfl) (by kernel_rfl) (by kernel_rfl) (by kernel_rfl) (fun _ _ _ h => h) (Or.inl ⟨by rfl, ?hy9⟩) (by assumption) ?rest9
  case hy9 => (intro w hSw; (try simp only [List.getElem_toArray, List.getElem_cons_succ, List.getElem_cons_zero]); (try dsimp only at hSw); go_simp; all_goals (with_reducible rfl))
  (try simp only [Act.put, List.getElem_toArray, List.getElem_cons_succ, List.getElem_cons_zero, List.setIfInBounds_toArray, List.set_cons_zero, List.set_cons_succ])
  refine wpAnyT_last (i := 8) rfl (by kernel_rfl) rfl (fun K hK => ?_)
  (try simp only [List.getElem_toArray, List.getElem_cons_succ, List.getElem_cons_zero])
  go_simp
  refine (setpair_de S R r ((R.de + 1) % 65536) (by omega) (by omega) _ H2.out).mono ?_
  rintro e w3 ⟨rfl, hb, hs⟩
  have H3 := hid_ hb
  have HM3 := hid_ (HM2.out.far hs hFr.out)
  have C3 := hid_ (C2.out.trans (Chg.ofR hs))
  clear hb hs
  (try go_wp2_with fail)
  refine hK.out _ _ ?_
  clear hK K
  (try simp only [Act.put, List.getElem_toArray, List.getElem_cons_succ, List.getElem_cons_zero, List.setIfInBounds_toArray, List.set_cons_zero, List.set_cons_succ])
  refine wpAnyT_done (by kernel_rfl) ?_ _
  go_wp2_with (first
    | (go_at_call 53; refine (run_idle S M A R.deUp r hm0 hc0 hc1 _ HM3.out H3.out).mono ?_; rintro e w4 ⟨rfl, A4, hM4, hC⟩))
  go_ret
  exact ⟨rfl, A4, hM4, hC.blk H3.out hFr.out id, C3.out.trans hC.more⟩
set_option maxRecDepth 100000 in
set_option maxHeartbeats 2000000 in
theorem places_load_hl (S : St) (M : Mc) (A : Option Nat) (R : Rg) (hR : R.ok) (r : Nat) (hm0 : M.n ≤ 1000) (hc0 : 0 ≤ M.cyc) (hc1 : M.cyc ≤ 1000000) (y sz n : Int) (i : Nat) (hi : R.hl = i) (hi2 : i < 16384) (w : World) (hM : Mach w S M A) (hF : Free S A r) (h : Blk w r 148 (rl S R).toArray) :
    Calls Tryz.prog 67 #[.pointer (some ⟨r, 0, none⟩), .agg #[.int .i64 32, .int .i64 2, .int .i64 y, .int .i64 sz, .int .u16 n]] w (RBus r S M.bus A { R.hlUp with a := S.zs.getD i 0 } (.bool true) w) := by
  have h := hid_ h
  have hM := hid_ hM
  have hFr := hid_ hF
  have HI := hid_ hi
  clear hi
  have m1 := meth_read
  have m2 := nil_read
  go_enter Tryz.func67, Tryz.ntmps67
  go_wp2_with (first
    | ((with_reducible refine wpList_boxA (op := ⟨some 3, _, _, _, _, _⟩) rfl 46 (.tmp 1) rfl #[.int .i64 32, .int .i64 2, .int .i64 y, .int .i64 sz, .int .u16 n] rfl ?_); intro w1 HB1 HW1 hz1; have H1 := hid_ (h.out.below HW1.out h.out.lt); have HM1 := hid_ (hM.out.below HW1.out (Nat.le_refl _)); have C1 : Hid (Chg S (· = r) A w w1 A) := Chg.of HW1.out; have g4 := HB1.out.cell 4; have g0 := HB1.out.cell 0; have g1 := HB1.out.cell 1; have g2 := HB1.out.cell 2; simp at g0 g1 g2 g4; have hr := h.out.lt; have hFg := hid_ (hM.out.free (Nat.le_refl w.heap.size))))
  go_wp2_with (first
    | (go_at_call 87; have HP := place_hl S R hR r w1 H1.out; rw [HI.out] at HP; refine HP.mono ?_; rintro e w2 ⟨rfl, hb, hs⟩; have H2 := hid_ hb; have HB2 := hid_ (HB1.out.step hs (by omega)); have HM2 := hid_ (HM1.out.far hs hFr.out); have C2 := hid_ (C1.out.trans (Chg.ofR hs)); have g02 := HB2.out.cell 0; simp at g02; have c14 := (H2.out.cell 14).trans (rl_bus S _); clear HP hb hs g0 g1 g2 g4)
    | (go_at_call 174; refine (read_rom S M A i hi2 hm0 hc0 hc1 _ HM2.out).mono ?_; rintro e w3 ⟨rfl, A3, hM3, hC⟩; have H3 := hid_ (hC.blk H2.out hFr.out id); have hF3 := hid_ (hC.free hFr.out H2.out.lt); have C3 := hid_ (C2.out.trans hC.more); have HM3 := hid_ hM3; clear hM3 hC g02 c14)
    | ((with_reducible refine wpList_storeC (op := ⟨none, .store 5 (.tmp 68) (.tmp 64), _, _, _, _⟩) rfl 5 (.tmp 68) (.tmp 64) rfl r 0 (by with_unfolding_all rfl) _ _ H3.out (.int .u8 (S.zs.getD i 0)) (by with_unfolding_all rfl) rfl size5 rfl (by rw [rl_size]; omega) (rl S { R.hlUp with a := S.zs.getD i 0 }).toArray (rl_set0 S _ _) ?_); intro w4 H4 s4))
  go_ret
  exact ⟨rfl, A3, HM3.out.far s4.out hF3.out, H4.out, C3.out.trans (Chg.ofR s4.out)⟩
set_option maxRecDepth 100000 in
set_option maxHeartbeats 2000000 in
theorem places_store_de (S : St) (M : Mc) (A : Option Nat) (R : Rg) (hR : R.ok) (r : Nat) (hm0 : M.n ≤ 1000) (hc0 : 0 ≤ M.cyc) (hc1 : M.cyc ≤ 1000000) (y sz n : Int) (j : Nat) (hi : R.de = 49152 + (j : Int)) (hj : j < 8192) (w : World) (hM : Mach w S M A) (hF : Free S A r) (h : Blk w r 148 (rl S R).toArray) :
    Calls Tryz.prog 67 #[.pointer (some ⟨r, 0, none⟩), .agg #[.int .i64 33, .int .i64 1, .int .i64 y, .int .i64 sz, .int .u16 n]] w (RBus r S (M.tick.put j R.a).log A R (.bool true) w) := by
  have h := hid_ h
  have hM := hid_ hM
  have hFr := hid_ hF
  have HI := hid_ hi
  clear hi
  have m1 := meth_write
  have m2 := nil_write
  go_enter Tryz.func67, Tryz.ntmps67
  go_wp2_with (first
    | ((with_reducible refine wpList_boxA (op := ⟨some 3, _, _, _, _, _⟩) rfl 46 (.tmp 1) rfl #[.int .i64 33, .int .i64 1, .int .i64 y, .int .i64 sz, .int .u16 n] rfl ?_); intro w1 HB1 HW1 hz1; have H1 := hid_ (h.out.below HW1.out h.out.lt); have HM1 := hid_ (hM.out.below HW1.out (Nat.le_refl _)); have C1 : Hid (Chg S (· = r) A w w1 A) := Chg.of HW1.out; have g4 := HB1.out.cell 4; have g0 := HB1.out.cell 0; have g1 := HB1.out.cell 1; have g2 := HB1.out.cell 2; simp at g0 g1 g2 g4; have hr := h.out.lt; have hFg := hid_ (hM.out.free (Nat.le_refl w.heap.size))))
  go_wp2_with (first
    | (go_at_call 87; have HP := place_de S R hR r w1 H1.out; rw [HI.out] at HP; refine HP.mono ?_; rintro e w2 ⟨rfl, hc, hf, hz, hb⟩; have H2 := hid_ (H1.out.below hb H1.out.lt); have HB2 := hid_ (HB1.out.below hb HB1.out.lt); have HM2 := hid_ (HM1.out.below hb (Nat.le_refl _)); have C2 := hid_ (C1.out.trans (Chg.of hb)); have g02 := HB2.out.cell 0; simp at g02; clear HP hb hc hf hz g0 g1 g2 g4))
  have H3 : Hid (Blk w2.drew r 148 (rl S R).toArray) := H2.out.drew
  have HM3 : Hid (Mach w2.drew S M A) := HM2.out.below (Below.refl w2.heap.size w2).drew (Nat.le_refl _)
  have C3 : Hid (Chg S (· = r) A w w2.drew A) := C2.out.trans (Chg.of (Below.refl _ w2).drew)
  refine wp_region_tail (S := (fun W => Blk W r 148 (rl S R).toArray)) (tail := (fun _ => false)) (by kernel_rfl) ?hS10 (fun hHeld => ?rest10)
  case hS10 => (exact H3.out)
  refine wpAnyT_take (i := 0) (v := ?v11) rfl (by kernel_rfl) (by kernel_rfl) (by kernel_rfl) (by kernel_rfl) (by kernel_rfl) (fun _ _ _ h => h) (Or.inl ⟨by rfl, ?hy11⟩) (by assumption) ?rest11
  case hy11 => (intro w hSw; (try simp only [List.getElem_toArray, List.getElem_cons_succ, List.getElem_cons_zero]); (try dsimp only at hSw); go_simp; all_goals (with_reducible rfl))
  (try simp only [Act.put, List.getElem_toArray, List.getElem_cons_succ, List.getElem_cons_zero, List.setIfInBounds_toArray, List.set_cons_zero, List.set_cons_succ])
  refine wpAnyT_take (i := 1) (v := ?v12) rfl (by kernel_rfl) (by kernel_rfl) (by kernel_rfl) (by kernel_rfl) (by kernel_rfl) (fun _ _ _ h => h) (Or.inl ⟨by rfl, ?hy12⟩) (by assumption) ?rest12
  case hy12 => (intro w hSw; (try simp only [List.getElem_toArray, List.getElem_cons_succ, List.getElem_cons_zero]); (try dsimp only at hSw); go_simp; all_goals (with_reducible rfl))
  (try simp only [Act.put, List.getElem_toArray, List.getElem_cons_succ, List.getElem_cons_zero, List.setIfInBounds_toArray, List.set_cons_zero, List.set_cons_succ])
  refine wpAnyT_take (i := 2) (v := ?v13) rfl (by kernel_rfl) (by kernel_rfl) (by kernel_rfl) (by kernel_rfl) (by kernel_rfl) (fun _ _ _ h => h) (Or.inl ⟨by rfl, ?hy13⟩) (by assumption) ?rest13
  case hy13 => (intro w hSw; (try simp only [List.getElem_toArray, List.getElem_cons_succ, List.getElem_cons_zero]); (try dsimp only at hSw); go_simp; all_goals (with_reducible rfl))
  (try simp only [Act.put, List.getElem_toArray, List.getElem_cons_succ, List.getElem_cons_zero, List.setIfInBounds_toArray, List.set_cons_zero, List.set_cons_succ])
  refine wpAnyT_take (i := 3) (v := ?v14) rfl (by kernel_rfl) (by kernel_rfl) (by kernel_rfl) (by kernel_rfl) (by kernel_rfl) (fun _ _ _ h => h) (Or.inl ⟨by rfl, ?hy14⟩) (by assumption) ?rest14
  case hy14 => (intro W hW; have c := (hW.cell 14).trans (rl_bus S R); (try simp only [List.getElem_toArray, List.getElem_cons_succ, List.getElem_cons_zero]); go_simp; all_goals (with_reducible rfl))
  (try simp only [Act.put, List.getElem_toArray, List.getElem_cons_succ, List.getElem_cons_zero, List.setIfInBounds_toArray, List.set_cons_zero, List.set_cons_succ])
  refine wpAnyT_take (i := 4) (v := ?v15) rfl (by kernel_rfl) (by kernel_rfl) (by kernel_rfl) (by kernel_rfl) (by kernel_rfl) (fun _ _ _ h => h) (Or.inl ⟨by rfl, ?hy15⟩) (by assumption) ?rest15
  case hy15 => (intro w hSw; (try simp only [List.getElem_toArray, List.getElem_cons_succ, List.getElem_cons_zero]); (try dsimp only at hSw); go_simp; all_goals (with_reducible rfl))
  (try simp only [Act.put, List.getElem_toArray, List.getElem_cons_succ, List.getElem_cons_zero, List.setIfInBounds_toArray, List.set_cons_zero, List.set_cons_succ])
  refine wpAnyT_take (i := 5) (v := ?v16) rfl (by kernel_rfl) (by kernel_rfl) (by kernel_rfl) (by kernel_rfl) (by kernel_rfl) (fun _ _ _ h => h) (Or.inl ⟨by rfl, ?hy16⟩) (by assumption) ?rest16
  case hy16 => (intro w hSw; (try simp only [List.getElem_toArray, List.getElem_cons_succ, List.getElem_cons_zero]); (try dsimp only at hSw); go_simp; all_goals (with_reducible rfl))
  (try simp only [Act.put, List.getElem_toArray, List.getElem_cons_succ, List.getElem_cons_zero, List.setIfInBounds_toArray, List.set_cons_zero, List.set_cons_succ])
  refine wpAnyT_take (i := 6) (v := ?v17) rfl (by kernel_rfl) (by kernel_rfl) (by kernel_rfl) (by kernel_rfl) (by kernel_rfl) (fun _ _ _ h => h) (Or.inl ⟨by rfl, ?hy17⟩) (by assumption) ?rest17
  case hy17 => (intro w hSw; (try simp only [List.getElem_toArray, List.getElem_cons_succ, List.getElem_cons_zero]); (try dsimp only at hSw); go_simp; all_goals (with_reducible rfl))
  (try simp only [Act.put, List.getElem_toArray, List.getElem_cons_succ, List.getElem_cons_zero, List.setIfInBounds_toArray, List.set_cons_zero, List.set_cons_succ])
  refine wpAnyT_take (i := 7) (v := ?v18) rfl (by kernel_rfl) (by kernel_rfl) (by kernel_rfl) (by kernel_rfl) (by kernel_rfl) (fun _ _ _ h => h) (Or.inl ⟨by rfl, ?hy18⟩) (by assumption) ?rest18
  case hy18 => (intro w hSw; (try simp only [List.getElem_toArray, List.getElem_cons_succ, List.getElem_cons_zero]); (try dsimp only at hSw); go_simp; all_goals (with_reducible rfl))
  (try simp only [Act.put, List.getElem_toArray, List.getElem_cons_succ, List.getElem_cons_zero, List.setIfInBounds_toArray, List.set_cons_zero, List.set_cons_succ])
  refine wpAnyT_take (i := 8) (v := ?v19) rfl (by kernel_rfl) (by kernel_rfl) (by kernel_rfl) (by kernel_rfl) (by kernel_rfl) (fun _ _ _ h => h) (Or.inl ⟨by rfl, ?hy19⟩) (by assumption) ?rest19
  case hy19 => (intro w hSw; (try simp only [List.getElem_toArray, List.getElem_cons_succ, List.getElem_cons_zero]); (try dsimp only at hSw); go_simp; all_goals (with_reducible rfl))
  (try simp only [Act.put, List.getElem_toArray, List.getElem_cons_succ, List.getElem_cons_zero, List.setIfInBounds_toArray, List.set_cons_zero, List.set_cons_succ])
  refine wpAnyT_take (i := 9) (v := ?v20) rfl (by kernel_rfl) (by kernel_rfl) (by kernel_rfl) (by kernel_rfl) (by kernel_rfl) (fun _ _ _ h => h) (Or.inl ⟨by rfl, ?hy20⟩) (by assumption) ?rest20
  case hy20 => (intro w hSw; (try simp only [List.getElem_toArray, List.getElem_cons_succ, List.getElem_cons_zero]); (try dsimp only at hSw); go_simp; all_goals (with_reducible rfl))
  (try simp only [Act.put, List.getElem_toArray, List.getElem_cons_succ, List.getElem_cons_zero, List.setIfInBounds_toArray, List.set_cons_zero, List.set_cons_succ])
  refine wpAnyT_take (i := 10) (v := ?v21) rfl (by kernel_rfl) (by kernel_rfl) (by kernel_rfl) (by kernel_rfl) (by kernel_rfl) (fun _ _ _ h => h) (Or.inl ⟨by rfl, ?hy21⟩) (by assumption) ?rest21
  case hy21 => (intro W hW; have c := (hW.cell 0).trans (rl_a S R); (try simp only [List.getElem_toArray, List.getElem_cons_succ, List.getElem_cons_zero]); go_simp; all_goals (with_reducible rfl))
  (try simp only [Act.put, List.getElem_toArray, List.getElem_cons_succ, List.getElem_cons_zero, List.setIfInBounds_toArray, List.set_cons_zero, List.set_cons_succ])
  refine wpAnyT_take (i := 11) (v := ?v22) rfl (by kernel_rfl) (by kernel_rfl) (by kernel_rfl) (by kernel_rfl) (by kernel_rfl) (fun _ _ _ h => h) (Or.inl ⟨by rfl, ?hy22⟩) (by assumption) ?rest22
  case hy22 => (intro w hSw; (try simp only [List.getElem_toArray, List.getElem_cons_succ, List.getElem_cons_zero]); (try dsimp only at hSw); go_simp; all_goals (with_reducible rfl))
  (try simp only [Act.put, List.getElem_toArray, List.getElem_cons_succ, List.getElem_cons_zero, List.setIfInBounds_toArray, List.set_cons_zero, List.set_cons_succ])
  refine wpAnyT_take (i := 12) (v := ?v23) rfl (by kernel_rfl) (by kernel_rfl) (by kernel_rfl) (by kernel_rfl) (by kernel_rfl) (fun _ _ _ h => h) (Or.inl ⟨by rfl, ?hy23⟩) (by assumption) ?rest23
  case hy23 => (intro w hSw; (try simp only [List.getElem_toArray, List.getElem_cons_succ, List.getElem_cons_zero]); (try dsimp only at hSw); go_simp; all_goals (with_reducible rfl))
  (try simp only [Act.put, List.getElem_toArray, List.getElem_cons_succ, List.getElem_cons_zero, List.setIfInBounds_toArray, List.set_cons_zero, List.set_cons_succ])
  refine wpAnyT_one (i := 13) rfl (by kernel_rfl) (fun K hK => ?_)
  (try simp only [List.getElem_toArray, List.getElem_cons_succ, List.getElem_cons_zero])
  go_simp
  refine (write_work S M A j hj R.a hm0 hc0 hc1 _ HM3.out).mono ?_
  rintro e w4 ⟨rfl, A4, hM4, hC⟩
  have H4 := hid_ (hC.blk H3.out hFr.out id)
  have C4 := hid_ (C3.out.trans hC.more)
  have HM4 := hid_ hM4
  clear hM4 hC
  (try go_wp2_with fail)
  refine hK.out _ _ ?hS24 ?rest24
  case hS24 => (exact H4.out)
  clear hK K
  (try simp only [Act.put, List.getElem_toArray, List.getElem_cons_succ, List.getElem_cons_zero, List.setIfInBounds_toArray, List.set_cons_zero, List.set_cons_succ])
  refine wpAnyT_done (by kernel_rfl) ?_ _
  go_wp2_with fail
  go_ret
  exact ⟨rfl, A4, HM4.out, H4.out, C4.out⟩
set_option maxRecDepth 100000 in
set_option maxHeartbeats 2000000 in
theorem bytes_dec_b (S : St) (R : Rg) (hR : R.ok) (r : Nat) (y sz n : Int) (hn0 : 0 ≤ n) (hn1 : n ≤ 65535) (w : World) (h : Blk w r 148 (rl S R).toArray) :
    Calls Tryz.prog 65 #[.pointer (some ⟨r, 0, none⟩), .agg #[.int .i64 13, .int .i64 0, .int .i64 y, .int .i64 sz, .int .u16 n]] w (RRet r S { R with b := (R.b - 1) % 256, f := decF R.b R.f } (.bool true) w) := by
  have h := hid_ h
  have e8 := wrap8 n
  go_enter Tryz.func65, Tryz.ntmps65
  go_wp2_with (first
    | ((with_reducible refine wpList_boxA (op := ⟨some 3, _, _, _, _, _⟩) rfl 46 (.tmp 1) rfl #[.int .i64 13, .int .i64 0, .int .i64 y, .int .i64 sz, .int .u16 n] rfl ?_); intro w1 HB1 HW1 hz1; have H1 := hid_ (h.out.below HW1.out h.out.lt); have g4 := HB1.out.cell 4; have g0 := HB1.out.cell 0; have g1 := HB1.out.cell 1; simp at g0 g1 g4; have hr := h.out.lt))
  refine wp_region_tail (S := (fun W => Blk W r 148 (rl S R).toArray ∧ Blk W w.heap.size 46 #[.int .i64 13, .int .i64 0, .int .i64 y, .int .i64 sz, .int .u16 n])) (tail := (fun _ => false)) (by kernel_rfl) ?hS25 (fun hHeld => ?rest25)
  case hS25 => (exact ⟨H1.out.drew, HB1.out.drew⟩)
  refine wpAnyT_take (i := 0) (v := ?v26) rfl (by kernel_rfl) (by kernel_rfl) (by kernel_rfl) (by kernel_rfl) (by kernel_rfl) (fun _ _ _ h => h) (Or.inl ⟨by rfl, ?hy26⟩) (by assumption) ?rest26
  case hy26 => (intro w hSw; (try simp only [List.getElem_toArray, List.getElem_cons_succ, List.getElem_cons_zero]); (try dsimp only at hSw); go_simp; all_goals (with_reducible rfl))
  (try simp only [Act.put, List.getElem_toArray, List.getElem_cons_succ, List.getElem_cons_zero, List.setIfInBounds_toArray, List.set_cons_zero, List.set_cons_succ])
  refine wpAnyT_take (i := 1) (v := ?v27) rfl (by kernel_rfl) (by kernel_rfl) (by kernel_rfl) (by kernel_rfl) (by kernel_rfl) (fun _ _ _ h => h) (Or.inl ⟨by rfl, ?hy27⟩) (by assumption) ?rest27
  case hy27 => (intro w hSw; (try simp only [List.getElem_toArray, List.getElem_cons_succ, List.getElem_cons_zero]); (try dsimp only at hSw); go_simp; all_goals (with_reducible rfl))
  (try simp only [Act.put, List.getElem_toArray, List.getElem_cons_succ, List.getElem_cons_zero, List.setIfInBounds_toArray, List.set_cons_zero, List.set_cons_succ])
  refine wpAnyT_take (i := 2) (v := ?v28) rfl (by kernel_rfl) (by kernel_rfl) (by kernel_rfl) (by kernel_rfl) (by kernel_rfl) (fun _ _ _ h => h) (Or.inl ⟨by rfl, ?hy28⟩) (by assumption) ?rest28
  case hy28 => (intro w hSw; (try simp only [List.getElem_toArray, List.getElem_cons_succ, List.getElem_cons_zero]); (try dsimp only at hSw); go_simp; all_goals (with_reducible rfl))
  (try simp only [Act.put, List.getElem_toArray, List.getElem_cons_succ, List.getElem_cons_zero, List.setIfInBounds_toArray, List.set_cons_zero, List.set_cons_succ])
  refine wpAnyT_take (i := 3) (v := ?v29) rfl (by kernel_rfl) (by kernel_rfl) (by kernel_rfl) (by kernel_rfl) (by kernel_rfl) (fun _ _ _ h => h) (Or.inl ⟨by rfl, ?hy29⟩) (by assumption) ?rest29
  case hy29 => (intro w hSw; (try simp only [List.getElem_toArray, List.getElem_cons_succ, List.getElem_cons_zero]); (try dsimp only at hSw); go_simp; all_goals (with_reducible rfl))
  (try simp only [Act.put, List.getElem_toArray, List.getElem_cons_succ, List.getElem_cons_zero, List.setIfInBounds_toArray, List.set_cons_zero, List.set_cons_succ])
  refine wpAnyT_take (i := 4) (v := ?v30) rfl (by kernel_rfl) (by kernel_rfl) (by kernel_rfl) (by kernel_rfl) (by kernel_rfl) (fun _ _ _ h => h) (Or.inl ⟨by rfl, ?hy30⟩) (by assumption) ?rest30
  case hy30 => (intro w hSw; (try simp only [List.getElem_toArray, List.getElem_cons_succ, List.getElem_cons_zero]); (try dsimp only at hSw); go_simp; all_goals (with_reducible rfl))
  (try simp only [Act.put, List.getElem_toArray, List.getElem_cons_succ, List.getElem_cons_zero, List.setIfInBounds_toArray, List.set_cons_zero, List.set_cons_succ])
  refine wpAnyT_take (i := 5) (v := ?v31) rfl (by kernel_rfl) (by kernel_rfl) (by kernel_rfl) (by kernel_rfl) (by kernel_rfl) (fun _ _ _ h => h) (Or.inl ⟨by rfl, ?hy31⟩) (by assumption) ?rest31
  case hy31 => (intro W hW; have c := (hW.1.cell 1).trans (rl_f S R); (try simp only [List.getElem_toArray, List.getElem_cons_succ, List.getElem_cons_zero]); go_simp; all_goals (with_reducible rfl))
  (try simp only [Act.put, List.getElem_toArray, List.getElem_cons_succ, List.getElem_cons_zero, List.setIfInBounds_toArray, List.set_cons_zero, List.set_cons_succ])
  refine wpAnyT_take (i := 6) (v := ?v32) rfl (by kernel_rfl) (by kernel_rfl) (by kernel_rfl) (by kernel_rfl) (by kernel_rfl) (fun _ _ _ h => h) (Or.inl ⟨by rfl, ?hy32⟩) (by assumption) ?rest32
  case hy32 => (intro w hSw; (try simp only [List.getElem_toArray, List.getElem_cons_succ, List.getElem_cons_zero]); (try dsimp only at hSw); go_simp; all_goals (with_reducible rfl))
  (try simp only [Act.put, List.getElem_toArray, List.getElem_cons_succ, List.getElem_cons_zero, List.setIfInBounds_toArray, List.set_cons_zero, List.set_cons_succ])
  refine wpAnyT_take (i := 7) (v := ?v33) rfl (by kernel_rfl) (by kernel_rfl) (by kernel_rfl) (by kernel_rfl) (by kernel_rfl) (fun _ _ _ h => h) (Or.inl ⟨by rfl, ?hy33⟩) (by assumption) ?rest33
  case hy33 => (intro W hW; have c := hW.2.cell 4; simp at c; (try simp only [List.getElem_toArray, List.getElem_cons_succ, List.getElem_cons_zero]); go_simp; all_goals (with_reducible rfl))
  (try simp only [Act.put, List.getElem_toArray, List.getElem_cons_succ, List.getElem_cons_zero, List.setIfInBounds_toArray, List.set_cons_zero, List.set_cons_succ])
  refine wpAnyT_take (i := 8) (v := ?v34) rfl (by kernel_rfl) (by kernel_rfl) (by kernel_rfl) (by kernel_rfl) (by kernel_rfl) (fun _ _ _ h => h) (Or.inl ⟨by rfl, ?hy34⟩) (by assumption) ?rest34
  case hy34 => (intro w hSw; (try simp only [List.getElem_toArray, List.getElem_cons_succ, List.getElem_cons_zero]); (try dsimp only at hSw); go_simp; all_goals (with_reducible rfl))
  (try simp only [Act.put, List.getElem_toArray, List.getElem_cons_succ, List.getElem_cons_zero, List.setIfInBounds_toArray, List.set_cons_zero, List.set_cons_succ])
  refine wpAnyT_one (i := 9) rfl (by kernel_rfl) (fun K hK => ?_)
  (try simp only [List.getElem_toArray, List.getElem_cons_succ, List.getElem_cons_zero])
  go_simp
  refine hK.out _ _ ?hS35 ?rest35
  case hS35 => (exact ⟨H1.out.drew, HB1.out.drew⟩)
  clear hK K
  (try simp only [Act.put, List.getElem_toArray, List.getElem_cons_succ, List.getElem_cons_zero, List.setIfInBounds_toArray, List.set_cons_zero, List.set_cons_succ])
  refine wpAnyT_one (i := 10) rfl (by kernel_rfl) (fun K hK => ?_)
  (try simp only [List.getElem_toArray, List.getElem_cons_succ, List.getElem_cons_zero])
  go_simp
  refine hK.out _ _ ?hS36 ?rest36
  case hS36 => (exact ⟨H1.out.drew, HB1.out.drew⟩)
  clear hK K
  (try simp only [Act.put, List.getElem_toArray, List.getElem_cons_succ, List.getElem_cons_zero, List.setIfInBounds_toArray, List.set_cons_zero, List.set_cons_succ])
  refine wpAnyT_done (by kernel_rfl) ?_ _
  have H2 : Hid (Blk w1.drew r 148 (rl S R).toArray) := H1.out.drew
  go_wp2_with (first
    | (go_at_call 75; refine (change_b S R r hR.b0 hR.b1 hR.f0 hR.f1 _ H2.out).mono ?_; rintro e w2 ⟨rfl, hb, hs⟩))
  go_ret
  exact ⟨rfl, hb, (Step.of HW1.out.drew (Nat.le_refl _)).trans hs⟩
end Go.Proofs.YtglklbcohbeacaaGreat
