/- Contracts of jumps by so many bytes. -/
import Derived.Test.YtglklbcohbeacaaGreatWords2
namespace Go.Proofs.YtglklbcohbeacaaGreat
open Go.RowKit
set_option linter.unusedSimpArgs false
set_option linter.unusedVariables false
theorem size29 : (Tryz.prog.info? 29).map (·.size) = some 1 := by kernel_rfl
theorem rl_set9 (S : St) (R : Rg) (x : Int) : (rl S R).toArray.toList.set 9 (.int .u16 x) = (rl S { R with pc := x }).toArray.toList := rfl
set_option maxRecDepth 100000 in
set_option maxHeartbeats 2000000 in
theorem jr_always (S : St) (M : Mc) (A : Option Nat) (R : Rg) (hR : R.ok) (r : Nat) (hm0 : M.n ≤ 1000) (hc0 : 0 ≤ M.cyc) (hc1 : M.cyc ≤ 1000000) (y sz : Int) (w : World) (hM : Mach w S M A) (hF : Free S A r) (h : Blk w r 148 (rl S R).toArray) :
    Calls Tryz.prog 68 #[.pointer (some ⟨r, 0, none⟩), .agg #[.int .i64 23, .int .i64 4, .int .i64 y, .int .i64 sz, .int .u16 78]] w (RBus r S M.bus A { R with pc := (R.pc + 78) % 65536 } (.bool true) w) := by
  have h := hid_ h
  have hM := hid_ hM
  have hFr := hid_ hF
  have p0 := hR.pc0
  have p1 := hR.pc1
  have ew := wrap_u16 (R.pc + 78)
  have ec1 : IntKind.i8.wrap 78 = 78 := by decide
  have ec2 : IntKind.u16.wrap (78) = 78 := by decide
  go_enter Tryz.func68, Tryz.ntmps68
  go_wp2_with (first
    | ((with_reducible refine wpList_boxA (op := ⟨some 3, _, _, _, _, _⟩) rfl 46 (.tmp 1) rfl #[.int .i64 23, .int .i64 4, .int .i64 y, .int .i64 sz, .int .u16 78] rfl ?_); intro w1 HB1 HW1 hz1; have H1 := hid_ (h.out.below HW1.out h.out.lt); have HM1 := hid_ (hM.out.below HW1.out (Nat.le_refl _)); have C1 : Hid (Chg S (· = r) A w w1 A) := Chg.of HW1.out; have hr := h.out.lt; have hFg := hid_ (hM.out.free (Nat.le_refl w.heap.size))))
  refine wp_region_tail (S := (fun W => Blk W r 148 (rl S R).toArray ∧ Blk W w.heap.size 46 #[.int .i64 23, .int .i64 4, .int .i64 y, .int .i64 sz, .int .u16 78])) (tail := (fun _ => false)) (by kernel_rfl) ?hS1 (fun hHeld => ?rest1)
  case hS1 => (exact ⟨H1.out.drew, HB1.out.drew⟩)
  refine wpAnyT_take (i := 0) (v := ?v2) rfl (by kernel_rfl) (by kernel_rfl) (by kernel_rfl) (by kernel_rfl) (by kernel_rfl) (fun _ _ _ h => h) (Or.inl ⟨by rfl, ?hy2⟩) (by assumption) ?rest2
  case hy2 => (intro w hSw; (try simp only [List.getElem_toArray, List.getElem_cons_succ, List.getElem_cons_zero]); (try dsimp only at hSw); go_simp; all_goals (with_reducible rfl))
  (try simp only [Act.put, List.getElem_toArray, List.getElem_cons_succ, List.getElem_cons_zero, List.setIfInBounds_toArray, List.set_cons_zero, List.set_cons_succ])
  refine wpAnyT_take (i := 1) (v := ?v3) rfl (by kernel_rfl) (by kernel_rfl) (by kernel_rfl) (by kernel_rfl) (by kernel_rfl) (fun _ _ _ h => h) (Or.inl ⟨by rfl, ?hy3⟩) (by assumption) ?rest3
  case hy3 => (intro w hSw; (try simp only [List.getElem_toArray, List.getElem_cons_succ, List.getElem_cons_zero]); (try dsimp only at hSw); go_simp; all_goals (with_reducible rfl))
  (try simp only [Act.put, List.getElem_toArray, List.getElem_cons_succ, List.getElem_cons_zero, List.setIfInBounds_toArray, List.set_cons_zero, List.set_cons_succ])
  refine wpAnyT_take (i := 2) (v := ?v4) rfl (by kernel_rfl) (by kernel_rfl) (by kernel_rfl) (by kernel_rfl) (by kernel_rfl) (fun _ _ _ h => h) (Or.inl ⟨by rfl, ?hy4⟩) (by assumption) ?rest4
  case hy4 => (intro w hSw; (try simp only [List.getElem_toArray, List.getElem_cons_succ, List.getElem_cons_zero]); (try dsimp only at hSw); go_simp; all_goals (with_reducible rfl))
  (try simp only [Act.put, List.getElem_toArray, List.getElem_cons_succ, List.getElem_cons_zero, List.setIfInBounds_toArray, List.set_cons_zero, List.set_cons_succ])
  refine wpAnyT_take (i := 3) (v := ?v5) rfl (by kernel_rfl) (by kernel_rfl) (by kernel_rfl) (by kernel_rfl) (by kernel_rfl) (fun _ _ _ h => h) (Or.inl ⟨by rfl, ?hy5⟩) (by assumption) ?rest5
  case hy5 => (intro w hSw; (try simp only [List.getElem_toArray, List.getElem_cons_succ, List.getElem_cons_zero]); (try dsimp only at hSw); go_simp; all_goals (with_reducible rfl))
  (try simp only [Act.put, List.getElem_toArray, List.getElem_cons_succ, List.getElem_cons_zero, List.setIfInBounds_toArray, List.set_cons_zero, List.set_cons_succ])
  refine wpAnyT_take (i := 4) (v := _) rfl (by kernel_rfl) (by kernel_rfl) (by kernel_rfl) (by kernel_rfl) (by kernel_rfl) (fun _ _ _ h => h) (yieldsIf_load_mid (by rfl) 31 (.tmp 9) rfl r 0 (by rfl) R.list _ (fun w hw => toArray_range hw.1 (rl_R S R)) Tryz.underlying31 rfl (by with_unfolding_all exact size31)) (by assumption) ?rest6
  (try simp only [Act.put, List.getElem_toArray, List.getElem_cons_succ, List.getElem_cons_zero, List.setIfInBounds_toArray, List.set_cons_zero, List.set_cons_succ])
  refine wpAnyT_take (i := 5) (v := ?v7) rfl (by kernel_rfl) (by kernel_rfl) (by kernel_rfl) (by kernel_rfl) (by kernel_rfl) (fun _ _ _ h => h) (Or.inl ⟨by rfl, ?hy7⟩) (by assumption) ?rest7
  case hy7 => (intro w hSw; (try simp only [List.getElem_toArray, List.getElem_cons_succ, List.getElem_cons_zero]); (try dsimp only at hSw); go_simp; all_goals (with_reducible rfl))
  (try simp only [Act.put, List.getElem_toArray, List.getElem_cons_succ, List.getElem_cons_zero, List.setIfInBounds_toArray, List.set_cons_zero, List.set_cons_succ])
  refine wpAnyT_take (i := 6) (v := ?v8) rfl (by kernel_rfl) (by kernel_rfl) (by kernel_rfl) (by kernel_rfl) (by kernel_rfl) (fun _ _ _ h => h) (Or.inl ⟨by rfl, ?hy8⟩) (by assumption) ?rest8
  case hy8 => (intro W hW; have c := hW.2.cell 1; simp at c; (try simp only [List.getElem_toArray, List.getElem_cons_succ, List.getElem_cons_zero]); go_simp; all_goals (with_reducible rfl))
  (try simp only [Act.put, List.getElem_toArray, List.getElem_cons_succ, List.getElem_cons_zero, List.setIfInBounds_toArray, List.set_cons_zero, List.set_cons_succ])
  refine wpAnyT_one (i := 7) rfl (by kernel_rfl) (fun K hK => ?_)
  (try simp only [List.getElem_toArray, List.getElem_cons_succ, List.getElem_cons_zero])
  go_simp
  refine (is_always R _).mono ?_
  rintro e w2 ⟨rfl, hc, hf, hz, hb⟩
  clear hc hf hz hHeld
  have H2 := hid_ (H1.out.drew.below hb H1.out.drew.lt)
  have HB2 := hid_ (HB1.out.drew.below hb HB1.out.drew.lt)
  have HM2 := hid_ (Mach.below (HM1.out.below (Below.refl w1.heap.size w1).drew (Nat.le_refl _)) hb (Nat.le_refl _))
  have C2 := hid_ ((C1.out.trans (Chg.of (Below.refl _ w1).drew)).trans (Chg.of hb))
  have hHeld := And.intro H2.out HB2.out
  clear hb
  (try go_wp2_with fail)
  refine hK.out _ _ ?hS9 ?rest9
  case hS9 => (exact hHeld)
  clear hK K
  (try simp only [Act.put, List.getElem_toArray, List.getElem_cons_succ, List.getElem_cons_zero, List.setIfInBounds_toArray, List.set_cons_zero, List.set_cons_succ])
  refine wpAnyT_one (i := 8) rfl (by kernel_rfl) (fun K hK => ?_)
  (try simp only [List.getElem_toArray, List.getElem_cons_succ, List.getElem_cons_zero])
  go_simp
  refine hK.out _ _ ?hS10 ?rest10
  case hS10 => (exact hHeld)
  clear hK K
  (try simp only [Act.put, List.getElem_toArray, List.getElem_cons_succ, List.getElem_cons_zero, List.setIfInBounds_toArray, List.set_cons_zero, List.set_cons_succ])
  refine wpAnyT_done (by kernel_rfl) ?_ _
  have g0 := HB2.out.cell 0
  have g1 := HB2.out.cell 1
  simp at g0 g1
  go_wp2_with (first
    | (go_at_call 53; refine (run_idle S M A R r hm0 hc0 hc1 _ HM2.out H2.out).mono ?_; rintro e w4 ⟨rfl, A4, hM4, hC⟩; have H4 := hid_ (hC.blk H2.out hFr.out id); have HB4 := hid_ (hC.blk HB2.out hFg.out id); have hF4 := hid_ (hC.free hFr.out H2.out.lt); have C4 := hid_ (C2.out.trans hC.more); have HM4 := hid_ hM4; clear hM4 hC g0 g1))
  have H5 : Hid (Blk w4.drew r 148 (rl S R).toArray) := H4.out.drew
  refine wp_region_tail (S := (fun W => Blk W r 148 (rl S R).toArray ∧ Blk W w.heap.size 46 #[.int .i64 23, .int .i64 4, .int .i64 y, .int .i64 sz, .int .u16 78])) (tail := (fun j => decide (15 ≤ j))) (by kernel_rfl) ?hS11 (fun hHeld => ?rest11)
  case hS11 => (exact ⟨H4.out.drew, HB4.out.drew⟩)
  refine wpAnyT_take (i := 0) (v := ?v12) rfl (by kernel_rfl) (by kernel_rfl) (by kernel_rfl) (by kernel_rfl) (by kernel_rfl) (fun _ _ _ h => h) (Or.inl ⟨by rfl, ?hy12⟩) (by assumption) ?rest12
  case hy12 => (intro w hSw; (try simp only [List.getElem_toArray, List.getElem_cons_succ, List.getElem_cons_zero]); (try dsimp only at hSw); go_simp; all_goals (with_reducible rfl))
  (try simp only [Act.put, List.getElem_toArray, List.getElem_cons_succ, List.getElem_cons_zero, List.setIfInBounds_toArray, List.set_cons_zero, List.set_cons_succ])
  refine wpAnyT_take (i := 1) (v := ?v13) rfl (by kernel_rfl) (by kernel_rfl) (by kernel_rfl) (by kernel_rfl) (by kernel_rfl) (fun _ _ _ h => h) (Or.inl ⟨by rfl, ?hy13⟩) (by assumption) ?rest13
  case hy13 => (intro w hSw; (try simp only [List.getElem_toArray, List.getElem_cons_succ, List.getElem_cons_zero]); (try dsimp only at hSw); go_simp; all_goals (with_reducible rfl))
  (try simp only [Act.put, List.getElem_toArray, List.getElem_cons_succ, List.getElem_cons_zero, List.setIfInBounds_toArray, List.set_cons_zero, List.set_cons_succ])
  refine wpAnyT_take (i := 2) (v := ?v14) rfl (by kernel_rfl) (by kernel_rfl) (by kernel_rfl) (by kernel_rfl) (by kernel_rfl) (fun _ _ _ h => h) (Or.inl ⟨by rfl, ?hy14⟩) (by assumption) ?rest14
  case hy14 => (intro w hSw; (try simp only [List.getElem_toArray, List.getElem_cons_succ, List.getElem_cons_zero]); (try dsimp only at hSw); go_simp; all_goals (with_reducible rfl))
  (try simp only [Act.put, List.getElem_toArray, List.getElem_cons_succ, List.getElem_cons_zero, List.setIfInBounds_toArray, List.set_cons_zero, List.set_cons_succ])
  refine wpAnyT_take (i := 3) (v := ?v15) rfl (by kernel_rfl) (by kernel_rfl) (by kernel_rfl) (by kernel_rfl) (by kernel_rfl) (fun _ _ _ h => h) (Or.inl ⟨by rfl, ?hy15⟩) (by assumption) ?rest15
  case hy15 => (intro w hSw; (try simp only [List.getElem_toArray, List.getElem_cons_succ, List.getElem_cons_zero]); (try dsimp only at hSw); go_simp; all_goals (with_reducible rfl))
  (try simp only [Act.put, List.getElem_toArray, List.getElem_cons_succ, List.getElem_cons_zero, List.setIfInBounds_toArray, List.set_cons_zero, List.set_cons_succ])
  refine wpAnyT_take (i := 4) (v := ?v16) rfl (by kernel_rfl) (by kernel_rfl) (by kernel_rfl) (by kernel_rfl) (by kernel_rfl) (fun _ _ _ h => h) (Or.inl ⟨by rfl, ?hy16⟩) (by assumption) ?rest16
  case hy16 => (intro w hSw; (try simp only [List.getElem_toArray, List.getElem_cons_succ, List.getElem_cons_zero]); (try dsimp only at hSw); go_simp; all_goals (with_reducible rfl))
  (try simp only [Act.put, List.getElem_toArray, List.getElem_cons_succ, List.getElem_cons_zero, List.setIfInBounds_toArray, List.set_cons_zero, List.set_cons_succ])
  refine wpAnyT_take (i := 5) (v := ?v17) rfl (by kernel_rfl) (by kernel_rfl) (by kernel_rfl) (by kernel_rfl) (by kernel_rfl) (fun _ _ _ h => h) (Or.inl ⟨by rfl, ?hy17⟩) (by assumption) ?rest17
  case hy17 => (intro W hW; have c := (hW.1.cell 9).trans (rl_pc S R); (try simp only [List.getElem_toArray, List.getElem_cons_succ, List.getElem_cons_zero]); go_simp; all_goals (with_reducible rfl))
  (try simp only [Act.put, List.getElem_toArray, List.getElem_cons_succ, List.getElem_cons_zero, List.setIfInBounds_toArray, List.set_cons_zero, List.set_cons_succ])
  refine wpAnyT_take (i := 6) (v := ?v18) rfl (by kernel_rfl) (by kernel_rfl) (by kernel_rfl) (by kernel_rfl) (by kernel_rfl) (fun _ _ _ h => h) (Or.inl ⟨by rfl, ?hy18⟩) (by assumption) ?rest18
  case hy18 => (intro w hSw; (try simp only [List.getElem_toArray, List.getElem_cons_succ, List.getElem_cons_zero]); (try dsimp only at hSw); go_simp; all_goals (with_reducible rfl))
  (try simp only [Act.put, List.getElem_toArray, List.getElem_cons_succ, List.getElem_cons_zero, List.setIfInBounds_toArray, List.set_cons_zero, List.set_cons_succ])
  refine wpAnyT_take (i := 7) (v := ?v19) rfl (by kernel_rfl) (by kernel_rfl) (by kernel_rfl) (by kernel_rfl) (by kernel_rfl) (fun _ _ _ h => h) (Or.inl ⟨by rfl, ?hy19⟩) (by assumption) ?rest19
  case hy19 => (intro W hW; have c := hW.2.cell 4; simp at c; (try simp only [List.getElem_toArray, List.getElem_cons_succ, List.getElem_cons_zero]); go_simp; all_goals (with_reducible rfl))
  (try simp only [Act.put, List.getElem_toArray, List.getElem_cons_succ, List.getElem_cons_zero, List.setIfInBounds_toArray, List.set_cons_zero, List.set_cons_succ])
  refine wpAnyT_take (i := 8) (v := ?v20) rfl (by kernel_rfl) (by kernel_rfl) (by kernel_rfl) (by kernel_rfl) (by kernel_rfl) (fun _ _ _ h => h) (Or.inl ⟨by rfl, ?hy20⟩) (by assumption) ?rest20
  case hy20 => (intro w hSw; (try simp only [List.getElem_toArray, List.getElem_cons_succ, List.getElem_cons_zero]); (try dsimp only at hSw); go_simp; all_goals (with_reducible rfl))
  (try simp only [Act.put, List.getElem_toArray, List.getElem_cons_succ, List.getElem_cons_zero, List.setIfInBounds_toArray, List.set_cons_zero, List.set_cons_succ])
  refine wpAnyT_take (i := 9) (v := ?v21) rfl (by kernel_rfl) (by kernel_rfl) (by kernel_rfl) (by kernel_rfl) (by kernel_rfl) (fun _ _ _ h => h) (Or.inl ⟨by rfl, ?hy21⟩) (by assumption) ?rest21
  case hy21 => (intro w hSw; (try simp only [List.getElem_toArray, List.getElem_cons_succ, List.getElem_cons_zero]); (try dsimp only at hSw); go_simp; all_goals (with_reducible rfl))
  (try simp only [Act.put, List.getElem_toArray, List.getElem_cons_succ, List.getElem_cons_zero, List.setIfInBounds_toArray, List.set_cons_zero, List.set_cons_succ])
  refine wpAnyT_take (i := 10) (v := ?v22) rfl (by kernel_rfl) (by kernel_rfl) (by kernel_rfl) (by kernel_rfl) (by kernel_rfl) (fun _ _ _ h => h) (Or.inl ⟨by rfl, ?hy22⟩) (by assumption) ?rest22
  case hy22 => (intro w hSw; (try simp only [List.getElem_toArray, List.getElem_cons_succ, List.getElem_cons_zero]); (try dsimp only at hSw); go_simp; all_goals (with_reducible rfl))
  (try simp only [Act.put, List.getElem_toArray, List.getElem_cons_succ, List.getElem_cons_zero, List.setIfInBounds_toArray, List.set_cons_zero, List.set_cons_succ])
  refine wpAnyT_take (i := 11) (v := ?v23) rfl (by kernel_rfl) (by kernel_rfl) (by kernel_rfl) (by kernel_rfl) (by kernel_rfl) (fun _ _ _ h => h) (Or.inl ⟨by rfl, ?hy23⟩) (by assumption) ?rest23
  case hy23 => (intro w hSw; (try simp only [List.getElem_toArray, List.getElem_cons_succ, List.getElem_cons_zero]); (try dsimp only at hSw); go_simp; all_goals (with_reducible rfl))
  (try simp only [Act.put, List.getElem_toArray, List.getElem_cons_succ, List.getElem_cons_zero, List.setIfInBounds_toArray, List.set_cons_zero, List.set_cons_succ])
  refine wpAnyT_take (i := 12) (v := ?v24) rfl (by kernel_rfl) (by kernel_rfl) (by kernel_rfl) (by kernel_rfl) (by kernel_rfl) (fun _ _ _ h => h) (Or.inl ⟨by rfl, ?hy24⟩) (by assumption) ?rest24
  case hy24 => (intro w hSw; (try simp only [List.getElem_toArray, List.getElem_cons_succ, List.getElem_cons_zero]); (try dsimp only at hSw); go_simp; all_goals (with_reducible rfl))
  (try simp only [Act.put, List.getElem_toArray, List.getElem_cons_succ, List.getElem_cons_zero, List.setIfInBounds_toArray, List.set_cons_zero, List.set_cons_succ])
  refine wpAnyT_take (i := 13) (v := ?v25) rfl (by kernel_rfl) (by kernel_rfl) (by kernel_rfl) (by kernel_rfl) (by kernel_rfl) (fun _ _ _ h => h) (Or.inl ⟨by rfl, ?hy25⟩) (by assumption) ?rest25
  case hy25 => (intro w hSw; (try simp only [List.getElem_toArray, List.getElem_cons_succ, List.getElem_cons_zero]); (try dsimp only at hSw); go_simp; all_goals (with_reducible rfl))
  (try simp only [Act.put, List.getElem_toArray, List.getElem_cons_succ, List.getElem_cons_zero, List.setIfInBounds_toArray, List.set_cons_zero, List.set_cons_succ])
  refine wpAnyT_take (i := 14) (v := ?v26) rfl (by kernel_rfl) (by kernel_rfl) (by kernel_rfl) (by kernel_rfl) (by kernel_rfl) (fun _ _ _ h => h) (Or.inl ⟨by rfl, ?hy26⟩) (by assumption) ?rest26
  case hy26 => (intro w hSw; (try simp only [List.getElem_toArray, List.getElem_cons_succ, List.getElem_cons_zero]); (try dsimp only at hSw); go_simp; all_goals (with_reducible rfl))
  (try simp only [Act.put, List.getElem_toArray, List.getElem_cons_succ, List.getElem_cons_zero, List.setIfInBounds_toArray, List.set_cons_zero, List.set_cons_succ])
  refine wpAnyT_last (i := 15) rfl (by kernel_rfl) rfl (fun K hK => ?_)
  (try simp only [List.getElem_toArray, List.getElem_cons_succ, List.getElem_cons_zero])
  refine want rfl ?_
  refine wp_storeC 29 (.tmp 64) (.tmp 60) rfl r 9 (by with_unfolding_all rfl) 148 _ H5.out (.int .u16 ((R.pc + 78) % 65536)) (by with_unfolding_all rfl) rfl size29 rfl (by rw [rl_size]; omega) (rl S { R with pc := (R.pc + 78) % 65536 }).toArray (rl_set9 S _ _) ?_
  intro w6 H6 s6
  refine hK.out _ _ ?_
  clear hK K
  (try simp only [Act.put, List.getElem_toArray, List.getElem_cons_succ, List.getElem_cons_zero, List.setIfInBounds_toArray, List.set_cons_zero, List.set_cons_succ])
  refine wpAnyT_done (by kernel_rfl) ?_ _
  go_wp2_with fail
  go_ret
  exact ⟨rfl, A4, (HM4.out.below (Below.refl w4.heap.size w4).drew (Nat.le_refl _)).far s6.out hF4.out, H6.out, (C4.out.trans (Chg.of (Below.refl _ w4).drew)).trans (Chg.ofR s6.out)⟩
set_option maxRecDepth 100000 in
set_option maxHeartbeats 2000000 in
theorem jr_nz (S : St) (M : Mc) (A : Option Nat) (R : Rg) (hR : R.ok) (r : Nat) (hm0 : M.n ≤ 1000) (hc0 : 0 ≤ M.cyc) (hc1 : M.cyc ≤ 1000000) (hz : (bits .and .u8 R.f 128 != 0) = false) (y sz : Int) (w : World) (hM : Mach w S M A) (hF : Free S A r) (h : Blk w r 148 (rl S R).toArray) :
    Calls Tryz.prog 68 #[.pointer (some ⟨r, 0, none⟩), .agg #[.int .i64 23, .int .i64 0, .int .i64 y, .int .i64 sz, .int .u16 250]] w (RBus r S M.bus A { R with pc := (R.pc + 65530) % 65536 } (.bool true) w) := by
  have h := hid_ h
  have hM := hid_ hM
  have hFr := hid_ hF
  have p0 := hR.pc0
  have p1 := hR.pc1
  have ew := wrap_u16 (R.pc + 65530)
  have ec1 : IntKind.i8.wrap 250 = -6 := by decide
  have ec2 : IntKind.u16.wrap (-6) = 65530 := by decide
  go_enter Tryz.func68, Tryz.ntmps68
  go_wp2_with (first
    | ((with_reducible refine wpList_boxA (op := ⟨some 3, _, _, _, _, _⟩) rfl 46 (.tmp 1) rfl #[.int .i64 23, .int .i64 0, .int .i64 y, .int .i64 sz, .int .u16 250] rfl ?_); intro w1 HB1 HW1 hz1; have H1 := hid_ (h.out.below HW1.out h.out.lt); have HM1 := hid_ (hM.out.below HW1.out (Nat.le_refl _)); have C1 : Hid (Chg S (· = r) A w w1 A) := Chg.of HW1.out; have hr := h.out.lt; have hFg := hid_ (hM.out.free (Nat.le_refl w.heap.size))))
  refine wp_region_tail (S := (fun W => Blk W r 148 (rl S R).toArray ∧ Blk W w.heap.size 46 #[.int .i64 23, .int .i64 0, .int .i64 y, .int .i64 sz, .int .u16 250])) (tail := (fun _ => false)) (by kernel_rfl) ?hS27 (fun hHeld => ?rest27)
  case hS27 => (exact ⟨H1.out.drew, HB1.out.drew⟩)
  refine wpAnyT_take (i := 0) (v := ?v28) rfl (by kernel_rfl) (by kernel_rfl) (by kernel_rfl) (by kernel_rfl) (by kernel_rfl) (fun _ _ _ h => h) (Or.inl ⟨by rfl, ?hy28⟩) (by assumption) ?rest28
  case hy28 => (intro w hSw; (try simp only [List.getElem_toArray, List.getElem_cons_succ, List.getElem_cons_zero]); (try dsimp only at hSw); go_simp; all_goals (with_reducible rfl))
  (try simp only [Act.put, List.getElem_toArray, List.getElem_cons_succ, List.getElem_cons_zero, List.setIfInBounds_toArray, List.set_cons_zero, List.set_cons_succ])
  refine wpAnyT_take (i := 1) (v := ?v29) rfl (by kernel_rfl) (by kernel_rfl) (by kernel_rfl) (by kernel_rfl) (by kernel_rfl) (fun _ _ _ h => h) (Or.inl ⟨by rfl, ?hy29⟩) (by assumption) ?rest29
  case hy29 => (intro w hSw; (try simp only [List.getElem_toArray, List.getElem_cons_succ, List.getElem_cons_zero]); (try dsimp only at hSw); go_simp; all_goals (with_reducible rfl))
  (try simp only [Act.put, List.getElem_toArray, List.getElem_cons_succ, List.getElem_cons_zero, List.setIfInBounds_toArray, List.set_cons_zero, List.set_cons_succ])
  refine wpAnyT_take (i := 2) (v := ?v30) rfl (by kernel_rfl) (by kernel_rfl) (by kernel_rfl) (by kernel_rfl) (by kernel_rfl) (fun _ _ _ h => h) (Or.inl ⟨by rfl, ?hy30⟩) (by assumption) ?rest30
  case hy30 => (intro w hSw; (try simp only [List.getElem_toArray, List.getElem_cons_succ, List.getElem_cons_zero]); (try dsimp only at hSw); go_simp; all_goals (with_reducible rfl))
  (try simp only [Act.put, List.getElem_toArray, List.getElem_cons_succ, List.getElem_cons_zero, List.setIfInBounds_toArray, List.set_cons_zero, List.set_cons_succ])
  refine wpAnyT_take (i := 3) (v := ?v31) rfl (by kernel_rfl) (by kernel_rfl) (by kernel_rfl) (by kernel_rfl) (by kernel_rfl) (fun _ _ _ h => h) (Or.inl ⟨by rfl, ?hy31⟩) (by assumption) ?rest31
  case hy31 => (intro w hSw; (try simp only [List.getElem_toArray, List.getElem_cons_succ, List.getElem_cons_zero]); (try dsimp only at hSw); go_simp; all_goals (with_reducible rfl))
  (try simp only [Act.put, List.getElem_toArray, List.getElem_cons_succ, List.getElem_cons_zero, List.setIfInBounds_toArray, List.set_cons_zero, List.set_cons_succ])
  refine wpAnyT_take (i := 4) (v := _) rfl (by kernel_rfl) (by kernel_rfl) (by kernel_rfl) (by kernel_rfl) (by kernel_rfl) (fun _ _ _ h => h) (yieldsIf_load_mid (by rfl) 31 (.tmp 9) rfl r 0 (by rfl) R.list _ (fun w hw => toArray_range hw.1 (rl_R S R)) Tryz.underlying31 rfl (by with_unfolding_all exact size31)) (by assumption) ?rest32
  (try simp only [Act.put, List.getElem_toArray, List.getElem_cons_succ, List.getElem_cons_zero, List.setIfInBounds_toArray, List.set_cons_zero, List.set_cons_succ])
  refine wpAnyT_take (i := 5) (v := ?v33) rfl (by kernel_rfl) (by kernel_rfl) (by kernel_rfl) (by kernel_rfl) (by kernel_rfl) (fun _ _ _ h => h) (Or.inl ⟨by rfl, ?hy33⟩) (by assumption) ?rest33
  case hy33 => (intro w hSw; (try simp only [List.getElem_toArray, List.getElem_cons_succ, List.getElem_cons_zero]); (try dsimp only at hSw); go_simp; all_goals (with_reducible rfl))
  (try simp only [Act.put, List.getElem_toArray, List.getElem_cons_succ, List.getElem_cons_zero, List.setIfInBounds_toArray, List.set_cons_zero, List.set_cons_succ])
  refine wpAnyT_take (i := 6) (v := ?v34) rfl (by kernel_rfl) (by kernel_rfl) (by kernel_rfl) (by kernel_rfl) (by kernel_rfl) (fun _ _ _ h => h) (Or.inl ⟨by rfl, ?hy34⟩) (by assumption) ?rest34
  case hy34 => (intro W hW; have c := hW.2.cell 1; simp at c; (try simp only [List.getElem_toArray, List.getElem_cons_succ, List.getElem_cons_zero]); go_simp; all_goals (with_reducible rfl))
  (try simp only [Act.put, List.getElem_toArray, List.getElem_cons_succ, List.getElem_cons_zero, List.setIfInBounds_toArray, List.set_cons_zero, List.set_cons_succ])
  refine wpAnyT_one (i := 7) rfl (by kernel_rfl) (fun K hK => ?_)
  (try simp only [List.getElem_toArray, List.getElem_cons_succ, List.getElem_cons_zero])
  go_simp
  refine (is_nz R true hz _).mono ?_
  rintro e w2 ⟨rfl, hc, hf, hz, hb⟩
  clear hc hf hz hHeld
  have H2 := hid_ (H1.out.drew.below hb H1.out.drew.lt)
  have HB2 := hid_ (HB1.out.drew.below hb HB1.out.drew.lt)
  have HM2 := hid_ (Mach.below (HM1.out.below (Below.refl w1.heap.size w1).drew (Nat.le_refl _)) hb (Nat.le_refl _))
  have C2 := hid_ ((C1.out.trans (Chg.of (Below.refl _ w1).drew)).trans (Chg.of hb))
  have hHeld := And.intro H2.out HB2.out
  clear hb
  (try go_wp2_with fail)
  refine hK.out _ _ ?hS35 ?rest35
  case hS35 => (exact hHeld)
  clear hK K
  (try simp only [Act.put, List.getElem_toArray, List.getElem_cons_succ, List.getElem_cons_zero, List.setIfInBounds_toArray, List.set_cons_zero, List.set_cons_succ])
  refine wpAnyT_one (i := 8) rfl (by kernel_rfl) (fun K hK => ?_)
  (try simp only [List.getElem_toArray, List.getElem_cons_succ, List.getElem_cons_zero])
  go_simp
  refine hK.out _ _ ?hS36 ?rest36
  case hS36 => (exact hHeld)
  clear hK K
  (try simp only [Act.put, List.getElem_toArray, List.getElem_cons_succ, List.getElem_cons_zero, List.setIfInBounds_toArray, List.set_cons_zero, List.set_cons_succ])
  refine wpAnyT_done (by kernel_rfl) ?_ _
  have g0 := HB2.out.cell 0
  have g1 := HB2.out.cell 1
  simp at g0 g1
  go_wp2_with (first
    | (go_at_call 53; refine (run_idle S M A R r hm0 hc0 hc1 _ HM2.out H2.out).mono ?_; rintro e w4 ⟨rfl, A4, hM4, hC⟩; have H4 := hid_ (hC.blk H2.out hFr.out id); have HB4 := hid_ (hC.blk HB2.out hFg.out id); have hF4 := hid_ (hC.free hFr.out H2.out.lt); have C4 := hid_ (C2.out.trans hC.more); have HM4 := hid_ hM4; clear hM4 hC g0 g1))
  have H5 : Hid (Blk w4.drew r 148 (rl S R).toArray) := H4.out.drew
  refine wp_region_tail (S := (fun W => Blk W r 148 (rl S R).toArray ∧ Blk W w.heap.size 46 #[.int .i64 23, .int .i64 0, .int .i64 y, .int .i64 sz, .int .u16 250])) (tail := (fun j => decide (15 ≤ j))) (by kernel_rfl) ?hS37 (fun hHeld => ?rest37)
  case hS37 => (exact ⟨H4.out.drew, HB4.out.drew⟩)
  refine wpAnyT_take (i := 0) (v := ?v38) rfl (by kernel_rfl) (by kernel_rfl) (by kernel_rfl) (by kernel_rfl) (by kernel_rfl) (fun _ _ _ h => h) (Or.inl ⟨by rfl, ?hy38⟩) (by assumption) ?rest38
  case hy38 => (intro w hSw; (try simp only [List.getElem_toArray, List.getElem_cons_succ, List.getElem_cons_zero]); (try dsimp only at hSw); go_simp; all_goals (with_reducible rfl))
  (try simp only [Act.put, List.getElem_toArray, List.getElem_cons_succ, List.getElem_cons_zero, List.setIfInBounds_toArray, List.set_cons_zero, List.set_cons_succ])
  refine wpAnyT_take (i := 1) (v := ?v39) rfl (by kernel_rfl) (by kernel_rfl) (by kernel_rfl) (by kernel_rfl) (by kernel_rfl) (fun _ _ _ h => h) (Or.inl ⟨by rfl, ?hy39⟩) (by assumption) ?rest39
  case hy39 => (intro w hSw; (try simp only [List.getElem_toArray, List.getElem_cons_succ, List.getElem_cons_zero]); (try dsimp only at hSw); go_simp; all_goals (with_reducible rfl))
  (try simp only [Act.put, List.getElem_toArray, List.getElem_cons_succ, List.getElem_cons_zero, List.setIfInBounds_toArray, List.set_cons_zero, List.set_cons_succ])
  refine wpAnyT_take (i := 2) (v := ?v40) rfl (by kernel_rfl) (by kernel_rfl) (by kernel_rfl) (by kernel_rfl) (by kernel_rfl) (fun _ _ _ h => h) (Or.inl ⟨by rfl, ?hy40⟩) (by assumption) ?rest40
  case hy40 => (intro w hSw; (try simp only [List.getElem_toArray, List.getElem_cons_succ, List.getElem_cons_zero]); (try dsimp only at hSw); go_simp; all_goals (with_reducible rfl))
  (try simp only [Act.put, List.getElem_toArray, List.getElem_cons_succ, List.getElem_cons_zero, List.setIfInBounds_toArray, List.set_cons_zero, List.set_cons_succ])
  refine wpAnyT_take (i := 3) (v := ?v41) rfl (by kernel_rfl) (by kernel_rfl) (by kernel_rfl) (by kernel_rfl) (by kernel_rfl) (fun _ _ _ h => h) (Or.inl ⟨by rfl, ?hy41⟩) (by assumption) ?rest41
  case hy41 => (intro w hSw; (try simp only [List.getElem_toArray, List.getElem_cons_succ, List.getElem_cons_zero]); (try dsimp only at hSw); go_simp; all_goals (with_reducible rfl))
  (try simp only [Act.put, List.getElem_toArray, List.getElem_cons_succ, List.getElem_cons_zero, List.setIfInBounds_toArray, List.set_cons_zero, List.set_cons_succ])
  refine wpAnyT_take (i := 4) (v := ?v42) rfl (by kernel_rfl) (by kernel_rfl) (by kernel_rfl) (by kernel_rfl) (by kernel_rfl) (fun _ _ _ h => h) (Or.inl ⟨by rfl, ?hy42⟩) (by assumption) ?rest42
  case hy42 => (intro w hSw; (try simp only [List.getElem_toArray, List.getElem_cons_succ, List.getElem_cons_zero]); (try dsimp only at hSw); go_simp; all_goals (with_reducible rfl))
  (try simp only [Act.put, List.getElem_toArray, List.getElem_cons_succ, List.getElem_cons_zero, List.setIfInBounds_toArray, List.set_cons_zero, List.set_cons_succ])
  refine wpAnyT_take (i := 5) (v := ?v43) rfl (by kernel_rfl) (by kernel_rfl) (by kernel_rfl) (by kernel_rfl) (by kernel_rfl) (fun _ _ _ h => h) (Or.inl ⟨by rfl, ?hy43⟩) (by assumption) ?rest43
  case hy43 => (intro W hW; have c := (hW.1.cell 9).trans (rl_pc S R); (try simp only [List.getElem_toArray, List.getElem_cons_succ, List.getElem_cons_zero]); go_simp; all_goals (with_reducible rfl))
  (try simp only [Act.put, List.getElem_toArray, List.getElem_cons_succ, List.getElem_cons_zero, List.setIfInBounds_toArray, List.set_cons_zero, List.set_cons_succ])
  refine wpAnyT_take (i := 6) (v := ?v44) rfl (by kernel_rfl) (by kernel_rfl) (by kernel_rfl) (by kernel_rfl) (by kernel_rfl) (fun _ _ _ h => h) (Or.inl ⟨by rfl, ?hy44⟩) (by assumption) ?rest44
  case hy44 => (intro w hSw; (try simp only [List.getElem_toArray, List.getElem_cons_succ, List.getElem_cons_zero]); (try dsimp only at hSw); go_simp; all_goals (with_reducible rfl))
  (try simp only [Act.put, List.getElem_toArray, List.getElem_cons_succ, List.getElem_cons_zero, List.setIfInBounds_toArray, List.set_cons_zero, List.set_cons_succ])
  refine wpAnyT_take (i := 7) (v := ?v45) rfl (by kernel_rfl) (by kernel_rfl) (by kernel_rfl) (by kernel_rfl) (by kernel_rfl) (fun _ _ _ h => h) (Or.inl ⟨by rfl, ?hy45⟩) (by assumption) ?rest45
  case hy45 => (intro W hW; have c := hW.2.cell 4; simp at c; (try simp only [List.getElem_toArray, List.getElem_cons_succ, List.getElem_cons_zero]); go_simp; all_goals (with_reducible rfl))
  (try simp only [Act.put, List.getElem_toArray, List.getElem_cons_succ, List.getElem_cons_zero, List.setIfInBounds_toArray, List.set_cons_zero, List.set_cons_succ])
  refine wpAnyT_take (i := 8) (v := ?v46) rfl (by kernel_rfl) (by kernel_rfl) (by kernel_rfl) (by kernel_rfl) (by kernel_rfl) (fun _ _ _ h => h) (Or.inl ⟨by rfl, ?hy46⟩) (by assumption) ?rest46
  case hy46 => (intro w hSw; (try simp only [List.getElem_toArray, List.getElem_cons_succ, List.getElem_cons_zero]); (try dsimp only at hSw); go_simp; all_goals (with_reducible rfl))
  (try simp only [Act.put, List.getElem_toArray, List.getElem_cons_succ, List.getElem_cons_zero, List.setIfInBounds_toArray, List.set_cons_zero, List.set_cons_succ])
  refine wpAnyT_take (i := 9) (v := ?v47) rfl (by kernel_rfl) (by kernel_rfl) (by kernel_rfl) (by kernel_rfl) (by kernel_rfl) (fun _ _ _ h => h) (Or.inl ⟨by rfl, ?hy47⟩) (by assumption) ?rest47
  case hy47 => (intro w hSw; (try simp only [List.getElem_toArray, List.getElem_cons_succ, List.getElem_cons_zero]); (try dsimp only at hSw); go_simp; all_goals (with_reducible rfl))
  (try simp only [Act.put, List.getElem_toArray, List.getElem_cons_succ, List.getElem_cons_zero, List.setIfInBounds_toArray, List.set_cons_zero, List.set_cons_succ])
  refine wpAnyT_take (i := 10) (v := ?v48) rfl (by kernel_rfl) (by kernel_rfl) (by kernel_rfl) (by kernel_rfl) (by kernel_rfl) (fun _ _ _ h => h) (Or.inl ⟨by rfl, ?hy48⟩) (by assumption) ?rest48
  case hy48 => (intro w hSw; (try simp only [List.getElem_toArray, List.getElem_cons_succ, List.getElem_cons_zero]); (try dsimp only at hSw); go_simp; all_goals (with_reducible rfl))
  (try simp only [Act.put, List.getElem_toArray, List.getElem_cons_succ, List.getElem_cons_zero, List.setIfInBounds_toArray, List.set_cons_zero, List.set_cons_succ])
  refine wpAnyT_take (i := 11) (v := ?v49) rfl (by kernel_rfl) (by kernel_rfl) (by kernel_rfl) (by kernel_rfl) (by kernel_rfl) (fun _ _ _ h => h) (Or.inl ⟨by rfl, ?hy49⟩) (by assumption) ?rest49
  case hy49 => (intro w hSw; (try simp only [List.getElem_toArray, List.getElem_cons_succ, List.getElem_cons_zero]); (try dsimp only at hSw); go_simp; all_goals (with_reducible rfl))
  (try simp only [Act.put, List.getElem_toArray, List.getElem_cons_succ, List.getElem_cons_zero, List.setIfInBounds_toArray, List.set_cons_zero, List.set_cons_succ])
  refine wpAnyT_take (i := 12) (v := ?v50) rfl (by kernel_rfl) (by kernel_rfl) (by kernel_rfl) (by kernel_rfl) (by kernel_rfl) (fun _ _ _ h => h) (Or.inl ⟨by rfl, ?hy50⟩) (by assumption) ?rest50
  case hy50 => (intro w hSw; (try simp only [List.getElem_toArray, List.getElem_cons_succ, List.getElem_cons_zero]); (try dsimp only at hSw); go_simp; all_goals (with_reducible rfl))
  (try simp only [Act.put, List.getElem_toArray, List.getElem_cons_succ, List.getElem_cons_zero, List.setIfInBounds_toArray, List.set_cons_zero, List.set_cons_succ])
  refine wpAnyT_take (i := 13) (v := ?v51) rfl (by kernel_rfl) (by kernel_rfl) (by kernel_rfl) (by kernel_rfl) (by kernel_rfl) (fun _ _ _ h => h) (Or.inl ⟨by rfl, ?hy51⟩) (by assumption) ?rest51
  case hy51 => (intro w hSw; (try simp only [List.getElem_toArray, List.getElem_cons_succ, List.getElem_cons_zero]); (try dsimp only at hSw); go_simp; all_goals (with_reducible rfl))
  (try simp only [Act.put, List.getElem_toArray, List.getElem_cons_succ, List.getElem_cons_zero, List.setIfInBounds_toArray, List.set_cons_zero, List.set_cons_succ])
  refine wpAnyT_take (i := 14) (v := ?v52) rfl (by kernel_rfl) (by kernel_rfl) (by kernel_rfl) (by kernel_rfl) (by kernel_rfl) (fun _ _ _ h => h) (Or.inl ⟨by rfl, ?hy52⟩) (by assumption) ?rest52
  case hy52 => (intro w hSw; (try simp only [List.getElem_toArray, List.getElem_cons_succ, List.getElem_cons_zero]); (try dsimp only at hSw); go_simp; all_goals (with_reducible rfl))
  (try simp only [Act.put, List.getElem_toArray, List.getElem_cons_succ, List.getElem_cons_zero, List.setIfInBounds_toArray, List.set_cons_zero, List.set_cons_succ])
  refine wpAnyT_last (i := 15) rfl (by kernel_rfl) rfl (fun K hK => ?_)
  (try simp only [List.getElem_toArray, List.getElem_cons_succ, List.getElem_cons_zero])
  refine want rfl ?_
  refine wp_storeC 29 (.tmp 64) (.tmp 60) rfl r 9 (by with_unfolding_all rfl) 148 _ H5.out (.int .u16 ((R.pc + 65530) % 65536)) (by with_unfolding_all rfl) rfl size29 rfl (by rw [rl_size]; omega) (rl S { R with pc := (R.pc + 65530) % 65536 }).toArray (rl_set9 S _ _) ?_
  intro w6 H6 s6
  refine hK.out _ _ ?_
  clear hK K
  (try simp only [Act.put, List.getElem_toArray, List.getElem_cons_succ, List.getElem_cons_zero, List.setIfInBounds_toArray, List.set_cons_zero, List.set_cons_succ])
  refine wpAnyT_done (by kernel_rfl) ?_ _
  go_wp2_with fail
  go_ret
  exact ⟨rfl, A4, (HM4.out.below (Below.refl w4.heap.size w4).drew (Nat.le_refl _)).far s6.out hF4.out, H6.out, (C4.out.trans (Chg.of (Below.refl _ w4).drew)).trans (Chg.ofR s6.out)⟩
set_option maxRecDepth 100000 in
set_option maxHeartbeats 2000000 in
theorem jr_nz_no (S : St) (M : Mc) (A : Option Nat) (R : Rg) (hR : R.ok) (r : Nat) (hm0 : M.n ≤ 1000) (hc0 : 0 ≤ M.cyc) (hc1 : M.cyc ≤ 1000000) (hz : (bits .and .u8 R.f 128 != 0) = true) (y sz n : Int) (w : World) (hM : Mach w S M A) (hF : Free S A r) (h : Blk w r 148 (rl S R).toArray) :
    Calls Tryz.prog 68 #[.pointer (some ⟨r, 0, none⟩), .agg #[.int .i64 23, .int .i64 0, .int .i64 y, .int .i64 sz, .int .u16 n]] w (RBus r S M A R (.bool false) w) := by
  have h := hid_ h
  have hM := hid_ hM
  have hFr := hid_ hF
  go_enter Tryz.func68, Tryz.ntmps68
  go_wp2_with (first
    | ((with_reducible refine wpList_boxA (op := ⟨some 3, _, _, _, _, _⟩) rfl 46 (.tmp 1) rfl #[.int .i64 23, .int .i64 0, .int .i64 y, .int .i64 sz, .int .u16 n] rfl ?_); intro w1 HB1 HW1 hz1; have H1 := hid_ (h.out.below HW1.out h.out.lt); have HM1 := hid_ (hM.out.below HW1.out (Nat.le_refl _)); have C1 : Hid (Chg S (· = r) A w w1 A) := Chg.of HW1.out; have hr := h.out.lt; have hFg := hid_ (hM.out.free (Nat.le_refl w.heap.size))))
  refine wp_region_tail (S := (fun W => Blk W r 148 (rl S R).toArray ∧ Blk W w.heap.size 46 #[.int .i64 23, .int .i64 0, .int .i64 y, .int .i64 sz, .int .u16 n])) (tail := (fun _ => false)) (by kernel_rfl) ?hS53 (fun hHeld => ?rest53)
  case hS53 => (exact ⟨H1.out.drew, HB1.out.drew⟩)
  refine wpAnyT_take (i := 0) (v := ?v54) rfl (by kernel_rfl) (by kernel_rfl) (by kernel_rfl) (by kernel_rfl) (by kernel_rfl) (fun _ _ _ h => h) (Or.inl ⟨by rfl, ?hy54⟩) (by assumption) ?rest54
  case hy54 => (intro w hSw; (try simp only [List.getElem_toArray, List.getElem_cons_succ, List.getElem_cons_zero]); (try dsimp only at hSw); go_simp; all_goals (with_reducible rfl))
  (try simp only [Act.put, List.getElem_toArray, List.getElem_cons_succ, List.getElem_cons_zero, List.setIfInBounds_toArray, List.set_cons_zero, List.set_cons_succ])
  refine wpAnyT_take (i := 1) (v := ?v55) rfl (by kernel_rfl) (by kernel_rfl) (by kernel_rfl) (by kernel_rfl) (by kernel_rfl) (fun _ _ _ h => h) (Or.inl ⟨by rfl, ?hy55⟩) (by assumption) ?rest55
  case hy55 => (intro w hSw; (try simp only [List.getElem_toArray, List.getElem_cons_succ, List.getElem_cons_zero]); (try dsimp only at hSw); go_simp; all_goals (with_reducible rfl))
  (try simp only [Act.put, List.getElem_toArray, List.getElem_cons_succ, List.getElem_cons_zero, List.setIfInBounds_toArray, List.set_cons_zero, List.set_cons_succ])
  refine wpAnyT_take (i := 2) (v := ?v56) rfl (by kernel_rfl) (by kernel_rfl) (by kernel_rfl) (by kernel_rfl) (by kernel_rfl) (fun _ _ _ h => h) (Or.inl ⟨by rfl, ?hy56⟩) (by assumption) ?rest56
  case hy56 => (intro w hSw; (try simp only [List.getElem_toArray, List.getElem_cons_succ, List.getElem_cons_zero]); (try dsimp only at hSw); go_simp; all_goals (with_reducible rfl))
  (try simp only [Act.put, List.getElem_toArray, List.getElem_cons_succ, List.getElem_cons_zero, List.setIfInBounds_toArray, List.set_cons_zero, List.set_cons_succ])
  refine wpAnyT_take (i := 3) (v := ?v57) rfl (by kernel_rfl) (by kernel_rfl) (by kernel_rfl) (by kernel_rfl) (by kernel_rfl) (fun _ _ _ h => h) (Or.inl ⟨by rfl, ?hy57⟩) (by assumption) ?rest57
  case hy57 => (intro w hSw; (try simp only [List.getElem_toArray, List.getElem_cons_succ, List.getElem_cons_zero]); (try dsimp only at hSw); go_simp; all_goals (with_reducible rfl))
  (try simp only [Act.put, List.getElem_toArray, List.getElem_cons_succ, List.getElem_cons_zero, List.setIfInBounds_toArray, List.set_cons_zero, List.set_cons_succ])
  refine wpAnyT_take (i := 4) (v := _) rfl (by kernel_rfl) (by kernel_rfl) (by kernel_rfl) (by kernel_rfl) (by kernel_rfl) (fun _ _ _ h => h) (yieldsIf_load_mid (by rfl) 31 (.tmp 9) rfl r 0 (by rfl) R.list _ (fun w hw => toArray_range hw.1 (rl_R S R)) Tryz.underlying31 rfl (by with_unfolding_all exact size31)) (by assumption) ?rest58
  (try simp only [Act.put, List.getElem_toArray, List.getElem_cons_succ, List.getElem_cons_zero, List.setIfInBounds_toArray, List.set_cons_zero, List.set_cons_succ])
  refine wpAnyT_take (i := 5) (v := ?v59) rfl (by kernel_rfl) (by kernel_rfl) (by kernel_rfl) (by kernel_rfl) (by kernel_rfl) (fun _ _ _ h => h) (Or.inl ⟨by rfl, ?hy59⟩) (by assumption) ?rest59
  case hy59 => (intro w hSw; (try simp only [List.getElem_toArray, List.getElem_cons_succ, List.getElem_cons_zero]); (try dsimp only at hSw); go_simp; all_goals (with_reducible rfl))
  (try simp only [Act.put, List.getElem_toArray, List.getElem_cons_succ, List.getElem_cons_zero, List.setIfInBounds_toArray, List.set_cons_zero, List.set_cons_succ])
  refine wpAnyT_take (i := 6) (v := ?v60) rfl (by kernel_rfl) (by kernel_rfl) (by kernel_rfl) (by kernel_rfl) (by kernel_rfl) (fun _ _ _ h => h) (Or.inl ⟨by rfl, ?hy60⟩) (by assumption) ?rest60
  case hy60 => (intro W hW; have c := hW.2.cell 1; simp at c; (try simp only [List.getElem_toArray, List.getElem_cons_succ, List.getElem_cons_zero]); go_simp; all_goals (with_reducible rfl))
  (try simp only [Act.put, List.getElem_toArray, List.getElem_cons_succ, List.getElem_cons_zero, List.setIfInBounds_toArray, List.set_cons_zero, List.set_cons_succ])
  refine wpAnyT_one (i := 7) rfl (by kernel_rfl) (fun K hK => ?_)
  (try simp only [List.getElem_toArray, List.getElem_cons_succ, List.getElem_cons_zero])
  go_simp
  refine (is_nz R false hz _).mono ?_
  rintro e w2 ⟨rfl, hc, hf, hz, hb⟩
  clear hc hf hz hHeld
  have H2 := hid_ (H1.out.drew.below hb H1.out.drew.lt)
  have HB2 := hid_ (HB1.out.drew.below hb HB1.out.drew.lt)
  have HM2 := hid_ (Mach.below (HM1.out.below (Below.refl w1.heap.size w1).drew (Nat.le_refl _)) hb (Nat.le_refl _))
  have C2 := hid_ ((C1.out.trans (Chg.of (Below.refl _ w1).drew)).trans (Chg.of hb))
  have hHeld := And.intro H2.out HB2.out
  clear hb
  (try go_wp2_with fail)
  refine hK.out _ _ ?hS61 ?rest61
  case hS61 => (exact hHeld)
  clear hK K
  (try simp only [Act.put, List.getElem_toArray, List.getElem_cons_succ, List.getElem_cons_zero, List.setIfInBounds_toArray, List.set_cons_zero, List.set_cons_succ])
  refine wpAnyT_one (i := 8) rfl (by kernel_rfl) (fun K hK => ?_)
  (try simp only [List.getElem_toArray, List.getElem_cons_succ, List.getElem_cons_zero])
  go_simp
  refine hK.out _ _ ?hS62 ?rest62
  case hS62 => (exact hHeld)
  clear hK K
  (try simp only [Act.put, List.getElem_toArray, List.getElem_cons_succ, List.getElem_cons_zero, List.setIfInBounds_toArray, List.set_cons_zero, List.set_cons_succ])
  refine wpAnyT_done (by kernel_rfl) ?_ _
  have g0 := HB2.out.cell 0
  have g1 := HB2.out.cell 1
  simp at g0 g1
  go_wp2_with fail
  go_ret
  exact ⟨rfl, A, HM2.out, H2.out, C2.out⟩
end Go.Proofs.YtglklbcohbeacaaGreat
