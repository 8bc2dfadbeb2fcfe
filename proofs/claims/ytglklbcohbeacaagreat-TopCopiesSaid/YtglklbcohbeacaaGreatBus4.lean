/- Contracts of a bus: a byte is fetched, is read. -/
import Derived.Test.YtglklbcohbeacaaGreatBus3
namespace Go.Proofs.YtglklbcohbeacaaGreat
open Go.RowKit
set_option linter.unusedSimpArgs false
set_option linter.unusedVariables false
set_option maxRecDepth 100000 in
set_option maxHeartbeats 2000000 in
theorem fetch_rom (S : St) (M : Mc) (A : Option Nat) (i : Nat) (hi : i < 16384) (hn0 : M.n ≤ 1000) (hc0 : 0 ≤ M.cyc) (hc1 : M.cyc ≤ 1000000) (w : World) (h : Mach w S M A) :
    Calls Tryz.prog 171 #[.agg #[.pointer (some ⟨S.m, 0, none⟩)], .int .u16 i] w (Busy S (fun _ => False) M.tick.log A w (.int .u8 (S.zs.getD i 0))) := by
  have h := hid_ h
  go_enter Tryz.func171, Tryz.ntmps171
  go_wp2_with (first
    | ((with_reducible refine wpList_boxA (op := ⟨some 2, _, _, _, _, _⟩) rfl 102 (.tmp 0) rfl #[.pointer (some ⟨S.m, 0, none⟩)] rfl ?_); intro w1 HB1 hb hz; have H1 := hid_ (Mach.below h.out hb.out (Nat.le_refl _)); have hF1 := hid_ (Mach.free h.out (Nat.le_refl w.heap.size)); have C1 : Hid (Chg S (fun _ => False) A w w1 A) := Chg.of hb.out; clear hb))
  have H1d : Hid (Mach w1.drew S M A) := Mach.below (B := w1.heap.size) H1.out (Below.refl _ _).drew (Nat.le_refl _)
  have C1d : Hid (Chg S (fun _ => False) A w w1.drew A) := C1.out.trans (Chg.of (Below.refl _ _).drew)
  refine wp_region_tail (S := (fun W => Blk W w.heap.size 102 #[.pointer (some ⟨S.m, 0, none⟩)])) (tail := (fun _ => false)) (by kernel_rfl) ?hS1 (fun hHeld => ?rest1)
  case hS1 => (exact HB1.out.drew)
  refine wpAnyT_take (i := 0) (v := _) rfl (by kernel_rfl) (by kernel_rfl) (by kernel_rfl) (by kernel_rfl) (by kernel_rfl) (fun _ _ _ h => h) (yieldsIf_load_mid (by rfl) 102 (.tmp 2) rfl w.heap.size 0 (by rfl) [.pointer (some ⟨S.m, 0, none⟩)] _ (fun w hw => toArray_range hw (by with_unfolding_all rfl)) Tryz.underlying102 rfl (by with_unfolding_all exact size102)) (by assumption) ?rest2
  (try simp only [Act.put, List.getElem_toArray, List.getElem_cons_succ, List.getElem_cons_zero, List.setIfInBounds_toArray, List.set_cons_zero, List.set_cons_succ])
  refine wpAnyT_take (i := 1) (v := ?v3) rfl (by kernel_rfl) (by kernel_rfl) (by kernel_rfl) (by kernel_rfl) (by kernel_rfl) (fun _ _ _ h => h) (Or.inl ⟨by rfl, ?hy3⟩) (by assumption) ?rest3
  case hy3 => (intro w hSw; (try simp only [List.getElem_toArray, List.getElem_cons_succ, List.getElem_cons_zero]); (try dsimp only at hSw); go_simp; all_goals (with_reducible rfl))
  (try simp only [Act.put, List.getElem_toArray, List.getElem_cons_succ, List.getElem_cons_zero, List.setIfInBounds_toArray, List.set_cons_zero, List.set_cons_succ])
  refine wpAnyT_take (i := 2) (v := _) rfl (by kernel_rfl) (by kernel_rfl) (by kernel_rfl) (by kernel_rfl) (by kernel_rfl) (fun _ _ _ h => h) (yieldsIf_load_mid (by rfl) 102 (.tmp 2) rfl w.heap.size 0 (by rfl) [.pointer (some ⟨S.m, 0, none⟩)] _ (fun w hw => toArray_range hw (by with_unfolding_all rfl)) Tryz.underlying102 rfl (by with_unfolding_all exact size102)) (by assumption) ?rest4
  (try simp only [Act.put, List.getElem_toArray, List.getElem_cons_succ, List.getElem_cons_zero, List.setIfInBounds_toArray, List.set_cons_zero, List.set_cons_succ])
  refine wpAnyT_take (i := 3) (v := ?v5) rfl (by kernel_rfl) (by kernel_rfl) (by kernel_rfl) (by kernel_rfl) (by kernel_rfl) (fun _ _ _ h => h) (Or.inl ⟨by rfl, ?hy5⟩) (by assumption) ?rest5
  case hy5 => (intro w hSw; (try simp only [List.getElem_toArray, List.getElem_cons_succ, List.getElem_cons_zero]); (try dsimp only at hSw); go_simp; all_goals (with_reducible rfl))
  (try simp only [Act.put, List.getElem_toArray, List.getElem_cons_succ, List.getElem_cons_zero, List.setIfInBounds_toArray, List.set_cons_zero, List.set_cons_succ])
  refine wpAnyT_one (i := 4) rfl (by kernel_rfl) (fun K hK => ?_)
  (try simp only [List.getElem_toArray, List.getElem_cons_succ, List.getElem_cons_zero])
  go_simp
  refine (seen_rom S M _ i hi hc0 hc1 _ H1d.out).mono ?_
  rintro e w2 ⟨rfl, A2, hM, hC⟩
  have HB2 := hid_ (hC.blk HB1.out.drew hF1.out (fun h => h))
  have hF2 := hid_ (hC.free hF1.out HB1.out.drew.lt)
  have C2 := hid_ (C1d.out.trans hC)
  have H2 := hid_ hM
  clear hM hC hHeld
  (try go_wp2_with fail)
  refine hK.out _ _ ?hS6 ?rest6
  case hS6 => (exact HB2.out)
  clear hK K
  (try simp only [Act.put, List.getElem_toArray, List.getElem_cons_succ, List.getElem_cons_zero, List.setIfInBounds_toArray, List.set_cons_zero, List.set_cons_succ])
  refine wpAnyT_one (i := 5) rfl (by kernel_rfl) (fun K hK => ?_)
  (try simp only [List.getElem_toArray, List.getElem_cons_succ, List.getElem_cons_zero])
  go_simp
  refine (note_any S M.tick _ _ _ _ hn0 _ H2.out).mono ?_
  rintro e w3 ⟨rfl, A3, hM, hC⟩
  have HB3 := hid_ (hC.blk HB2.out hF2.out (fun h => h))
  have C3 := hid_ (C2.out.trans hC)
  have H3 := hid_ hM
  clear hM hC
  (try go_wp2_with fail)
  refine hK.out _ _ ?hS7 ?rest7
  case hS7 => (exact HB3.out)
  clear hK K
  (try simp only [Act.put, List.getElem_toArray, List.getElem_cons_succ, List.getElem_cons_zero, List.setIfInBounds_toArray, List.set_cons_zero, List.set_cons_succ])
  refine wpAnyT_one (i := 6) rfl (by kernel_rfl) (fun K hK => ?_)
  (try simp only [List.getElem_toArray, List.getElem_cons_succ, List.getElem_cons_zero])
  go_simp
  refine hK.out _ _ ?hS8 ?rest8
  case hS8 => (exact HB3.out)
  clear hK K
  (try simp only [Act.put, List.getElem_toArray, List.getElem_cons_succ, List.getElem_cons_zero, List.setIfInBounds_toArray, List.set_cons_zero, List.set_cons_succ])
  refine wpAnyT_done (by kernel_rfl) ?_ _
  go_wp2_with fail
  go_ret
  exact ⟨rfl, A3, H3.out, C3.out⟩
set_option maxRecDepth 100000 in
set_option maxHeartbeats 2000000 in
theorem read_rom (S : St) (M : Mc) (A : Option Nat) (i : Nat) (hi : i < 16384) (hn0 : M.n ≤ 1000) (hc0 : 0 ≤ M.cyc) (hc1 : M.cyc ≤ 1000000) (w : World) (h : Mach w S M A) :
    Calls Tryz.prog 174 #[.agg #[.pointer (some ⟨S.m, 0, none⟩)], .int .u16 i] w (Busy S (fun _ => False) M.tick.log A w (.int .u8 (S.zs.getD i 0))) := by
  have h := hid_ h
  go_enter Tryz.func174, Tryz.ntmps174
  go_wp2_with (first
    | ((with_reducible refine wpList_boxA (op := ⟨some 2, _, _, _, _, _⟩) rfl 102 (.tmp 0) rfl #[.pointer (some ⟨S.m, 0, none⟩)] rfl ?_); intro w1 HB1 hb hz; have H1 := hid_ (Mach.below h.out hb.out (Nat.le_refl _)); have hF1 := hid_ (Mach.free h.out (Nat.le_refl w.heap.size)); have C1 : Hid (Chg S (fun _ => False) A w w1 A) := Chg.of hb.out; clear hb))
  have H1d : Hid (Mach w1.drew S M A) := Mach.below (B := w1.heap.size) H1.out (Below.refl _ _).drew (Nat.le_refl _)
  have C1d : Hid (Chg S (fun _ => False) A w w1.drew A) := C1.out.trans (Chg.of (Below.refl _ _).drew)
  refine wp_region_tail (S := (fun W => Blk W w.heap.size 102 #[.pointer (some ⟨S.m, 0, none⟩)])) (tail := (fun _ => false)) (by kernel_rfl) ?hS9 (fun hHeld => ?rest9)
  case hS9 => (exact HB1.out.drew)
  refine wpAnyT_take (i := 0) (v := _) rfl (by kernel_rfl) (by kernel_rfl) (by kernel_rfl) (by kernel_rfl) (by kernel_rfl) (fun _ _ _ h => h) (yieldsIf_load_mid (by rfl) 102 (.tmp 2) rfl w.heap.size 0 (by rfl) [.pointer (some ⟨S.m, 0, none⟩)] _ (fun w hw => toArray_range hw (by with_unfolding_all rfl)) Tryz.underlying102 rfl (by with_unfolding_all exact size102)) (by assumption) ?rest10
  (try simp only [Act.put, List.getElem_toArray, List.getElem_cons_succ, List.getElem_cons_zero, List.setIfInBounds_toArray, List.set_cons_zero, List.set_cons_succ])
  refine wpAnyT_take (i := 1) (v := ?v11) rfl (by kernel_rfl) (by kernel_rfl) (by kernel_rfl) (by kernel_rfl) (by kernel_rfl) (fun _ _ _ h => h) (Or.inl ⟨by rfl, ?hy11⟩) (by assumption) ?rest11
  case hy11 => (intro w hSw; (try simp only [List.getElem_toArray, List.getElem_cons_succ, List.getElem_cons_zero]); (try dsimp only at hSw); go_simp; all_goals (with_reducible rfl))
  (try simp only [Act.put, List.getElem_toArray, List.getElem_cons_succ, List.getElem_cons_zero, List.setIfInBounds_toArray, List.set_cons_zero, List.set_cons_succ])
  refine wpAnyT_take (i := 2) (v := _) rfl (by kernel_rfl) (by kernel_rfl) (by kernel_rfl) (by kernel_rfl) (by kernel_rfl) (fun _ _ _ h => h) (yieldsIf_load_mid (by rfl) 102 (.tmp 2) rfl w.heap.size 0 (by rfl) [.pointer (some ⟨S.m, 0, none⟩)] _ (fun w hw => toArray_range hw (by with_unfolding_all rfl)) Tryz.underlying102 rfl (by with_unfolding_all exact size102)) (by assumption) ?rest12
  (try simp only [Act.put, List.getElem_toArray, List.getElem_cons_succ, List.getElem_cons_zero, List.setIfInBounds_toArray, List.set_cons_zero, List.set_cons_succ])
  refine wpAnyT_take (i := 3) (v := ?v13) rfl (by kernel_rfl) (by kernel_rfl) (by kernel_rfl) (by kernel_rfl) (by kernel_rfl) (fun _ _ _ h => h) (Or.inl ⟨by rfl, ?hy13⟩) (by assumption) ?rest13
  case hy13 => (intro w hSw; (try simp only [List.getElem_toArray, List.getElem_cons_succ, List.getElem_cons_zero]); (try dsimp only at hSw); go_simp; all_goals (with_reducible rfl))
  (try simp only [Act.put, List.getElem_toArray, List.getElem_cons_succ, List.getElem_cons_zero, List.setIfInBounds_toArray, List.set_cons_zero, List.set_cons_succ])
  refine wpAnyT_one (i := 4) rfl (by kernel_rfl) (fun K hK => ?_)
  (try simp only [List.getElem_toArray, List.getElem_cons_succ, List.getElem_cons_zero])
  go_simp
  refine (seen_rom S M _ i hi hc0 hc1 _ H1d.out).mono ?_
  rintro e w2 ⟨rfl, A2, hM, hC⟩
  have HB2 := hid_ (hC.blk HB1.out.drew hF1.out (fun h => h))
  have hF2 := hid_ (hC.free hF1.out HB1.out.drew.lt)
  have C2 := hid_ (C1d.out.trans hC)
  have H2 := hid_ hM
  clear hM hC hHeld
  (try go_wp2_with fail)
  refine hK.out _ _ ?hS14 ?rest14
  case hS14 => (exact HB2.out)
  clear hK K
  (try simp only [Act.put, List.getElem_toArray, List.getElem_cons_succ, List.getElem_cons_zero, List.setIfInBounds_toArray, List.set_cons_zero, List.set_cons_succ])
  refine wpAnyT_one (i := 5) rfl (by kernel_rfl) (fun K hK => ?_)
  (try simp only [List.getElem_toArray, List.getElem_cons_succ, List.getElem_cons_zero])
  go_simp
  refine (note_any S M.tick _ _ _ _ hn0 _ H2.out).mono ?_
  rintro e w3 ⟨rfl, A3, hM, hC⟩
  have HB3 := hid_ (hC.blk HB2.out hF2.out (fun h => h))
  have C3 := hid_ (C2.out.trans hC)
  have H3 := hid_ hM
  clear hM hC
  (try go_wp2_with fail)
  refine hK.out _ _ ?hS15 ?rest15
  case hS15 => (exact HB3.out)
  clear hK K
  (try simp only [Act.put, List.getElem_toArray, List.getElem_cons_succ, List.getElem_cons_zero, List.setIfInBounds_toArray, List.set_cons_zero, List.set_cons_succ])
  refine wpAnyT_one (i := 6) rfl (by kernel_rfl) (fun K hK => ?_)
  (try simp only [List.getElem_toArray, List.getElem_cons_succ, List.getElem_cons_zero])
  go_simp
  refine hK.out _ _ ?hS16 ?rest16
  case hS16 => (exact HB3.out)
  clear hK K
  (try simp only [Act.put, List.getElem_toArray, List.getElem_cons_succ, List.getElem_cons_zero, List.setIfInBounds_toArray, List.set_cons_zero, List.set_cons_succ])
  refine wpAnyT_done (by kernel_rfl) ?_ _
  go_wp2_with fail
  go_ret
  exact ⟨rfl, A3, H3.out, C3.out⟩
end Go.Proofs.YtglklbcohbeacaaGreat
