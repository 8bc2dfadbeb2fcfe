/- Contract of a processor's step. -/
import Derived.Test.YtglklbcohbeacaaGreatNext
namespace Go.Proofs.YtglklbcohbeacaaGreat
open Go.RowKit
set_option linter.unusedSimpArgs false
set_option linter.unusedVariables false
def stL (R : Rg) : List Value := [.int .u8 R.a, .int .u8 R.f, .int .u8 R.b, .int .u8 R.c, .int .u8 R.d, .int .u8 R.e, .int .u8 R.h, .int .u8 R.l, .int .u16 R.sp, .int .u16 R.pc, .bool false, .bool false, .bool false, .bool false]
def didL (k pc : Int) (o : OpV) (t : Bool) : List Value := [.int .i64 k, .int .i64 0, .int .u16 pc, .int .i64 o.kind, .int .i64 o.x, .int .i64 o.y, .int .i64 o.size, .int .u16 o.n, .bool t]
def Orders (S : St) (M1 : Mc) (R1 : Rg) (o : OpV) (p : Int) (M2 : Mc) (R2 : Rg) (t : Bool) : Prop := ∀ (A : Option Nat) (r : Nat) (w : World), Mach w S M1 A → Free S A r → Blk w r 148 (rl S R1).toArray →
  Calls Tryz.prog 56 #[.pointer (some ⟨r, 0, none⟩), .agg o.list.toArray, .int .u16 p] w (RBus r S M2 A R2 (.bool t) w)
theorem Chg.wide {S : St} {A A' : Option Nat} {w w' : World} {r N : Nat} (h : Chg S (· = r) A w w' A') (hr : N ≤ r) : Chg S (fun k => N ≤ k) A w w' A' := h.mono (fun k _ e => by rw [e]; exact hr)
theorem Chg.narrow {S : St} {A A' : Option Nat} {w w' : World} (h : Chg S (fun k => w.heap.size ≤ k) A w w' A') : Chg S (fun _ => False) A w w' A' := h.mono (fun k hk e => by omega)
theorem size33 : (Tryz.prog.info? 33).map (·.size) = some 14 := by kernel_rfl
theorem size48 : (Tryz.prog.info? 48).map (·.size) = some 9 := by kernel_rfl
theorem size4 : (Tryz.prog.info? 4).map (·.size) = some 1 := by kernel_rfl
theorem size3s : (Tryz.prog.info? 3).map (·.size) = some 1 := by kernel_rfl
theorem stL_one (R : Rg) : ∀ v ∈ stL R, v.oneCell' = true := by intro v hv; simp [stL] at hv; rcases hv with rfl | rfl | rfl | rfl | rfl | rfl | rfl | rfl | rfl | rfl | rfl <;> rfl
theorem didL_one (k pc : Int) (o : OpV) (t : Bool) : ∀ v ∈ didL k pc o t, v.oneCell' = true := by intro v hv; simp [didL] at hv; rcases hv with rfl | rfl | rfl | rfl | rfl | rfl | rfl | rfl | rfl <;> rfl
theorem zero33 (W : World) : (zeroValue 33).run Tryz.prog W = .ok (.agg #[.int .u8 0, .int .u8 0, .int .u8 0, .int .u8 0, .int .u8 0, .int .u8 0, .int .u8 0, .int .u8 0, .int .u16 0, .int .u16 0, .bool false, .bool false, .bool false, .bool false]) W := by kernel_rfl
theorem zero48 (W : World) : (zeroValue 48).run Tryz.prog W = .ok (.agg #[.int .i64 0, .int .i64 0, .int .u16 0, .int .i64 0, .int .i64 0, .int .i64 0, .int .i64 0, .int .u16 0, .bool false]) W := by kernel_rfl
theorem rl_b (S : St) (R : Rg) (k : Nat) (hk : k = 10 ∨ k = 11 ∨ k = 12 ∨ k = 13) : (rl S R).toArray[k]? = some (.bool false) := by rcases hk with rfl | rfl | rfl | rfl <;> rfl
theorem rl_setb (S : St) (R : Rg) (k : Nat) (hk : k = 10 ∨ k = 11 ∨ k = 12 ∨ k = 13) : (rl S R).toArray.toList.set k (.bool false) = (rl S R).toArray.toList := by rcases hk with rfl | rfl | rfl | rfl <;> rfl
/-- How the blocks lie: the processor's (r), of the answer's two parts (6, 7), of what was done (8). -/
theorem nums {a0 a1 a2 a3 a4 a5 : Nat} (h1 : a0 < a1) (h2 : a1 < a2) (h3 : a2 < a3) (h4 : a3 < a4) (h5 : a4 ≤ a5) :
    a0 ≤ a5 ∧ a0 ≤ a1 ∧ a0 ≤ a2 ∧ a0 ≤ a3 ∧ ¬ a1 = a5 ∧ ¬ a2 = a5 ∧ ¬ a3 = a5 ∧ ¬ a1 = a3 ∧ ¬ a2 = a3 ∧ ¬ a1 = a2 := by omega
set_option maxRecDepth 100000 in
set_option maxHeartbeats 4000000 in
theorem step_any (hfill : Fills) (S : St) (M : Mc) (A : Option Nat) (R : Rg) (i : Nat) (kd x y : Int) (sz : Nat) (a : Nat) (hsz : sz = 1 ∨ sz = 2 ∨ sz = 3) (hi : i + 4 ≤ 16384) (hpc : R.pc = i) (hza : S.zs.getD i 0 = a) (ha : a < 256) (hcb : a ≠ 203) (ho : plainL[a]? = some ⟨kd, x, y, sz, 0⟩)
    (hm0 : M.n ≤ 900) (hc0 : 0 ≤ M.cyc) (hc1 : M.cyc ≤ 900000) (M2 : Mc) (R2 : Rg) (t : Bool) (hord : Orders S (M.fetches sz) { R with pc := ((i + sz : Nat) : Int) } (⟨kd, x, y, sz, nOf sz (S.zs.getD (i + 1) 0) (S.zs.getD (i + 2) 0)⟩ : OpV) i M2 R2 t) (w : World) (hM : Mach w S M A) :
    Calls Tryz.prog 35 #[.pointer (some ⟨S.tb, 0, none⟩), .agg (stL R).toArray, .iface 102 (.agg #[.pointer (some ⟨S.m, 0, none⟩)])] w
      (Busy S (fun _ => False) M2 A w (.tuple #[.agg (stL R2).toArray, .agg (didL 1 (i : Int) (⟨kd, x, y, sz, nOf sz (S.zs.getD (i + 1) 0) (S.zs.getD (i + 2) 0)⟩ : OpV) t).toArray])) := by
  have hM := hid_ hM
  have HO := hid_ ho
  have HPC := hid_ hpc
  have HORD := hid_ hord
  have HFn : Hid (∀ g, w.heap.size ≤ g → Free S A g) := hid_ (fun g hg => hM.out.free hg)
  have m1 := meth_pending
  have m2 := nil_pending
  clear ho hpc hord
  go_enter Tryz.func35, Tryz.ntmps35
  go_wp2_with (first
    | ((with_reducible refine wpList_boxA (op := ⟨some 4, _, _, _, _, _⟩) rfl 33 (.tmp 1) rfl (stL R).toArray rfl ?_); intro w1 HB4 HW1 hz1; have HM1 := hid_ (hM.out.below HW1.out (Nat.le_refl _)); have c9 := HB4.out.cell 9; have cc : (stL R).toArray[9]? = some (.int .u16 R.pc) := rfl; rw [cc, HPC.out] at c9; clear cc)
    | ((with_reducible refine wpList_allocA (op := ⟨some 6, _, _, _, _, _⟩) rfl 33 rfl #[.int .u8 0, .int .u8 0, .int .u8 0, .int .u8 0, .int .u8 0, .int .u8 0, .int .u8 0, .int .u8 0, .int .u16 0, .int .u16 0, .bool false, .bool false, .bool false, .bool false] zero33 ?_); intro w2 HB6 HW2 hz2; have HM2 := hid_ (HM1.out.below HW2.out (Nat.le_refl _)); have HB4b := hid_ (HB4.out.below HW2.out HB4.out.lt))
    | ((with_reducible refine wpList_allocA (op := ⟨some 7, _, _, _, _, _⟩) rfl 48 rfl #[.int .i64 0, .int .i64 0, .int .u16 0, .int .i64 0, .int .i64 0, .int .i64 0, .int .i64 0, .int .u16 0, .bool false] zero48 ?_); intro w3 HB7 HW3 hz3; have HM3 := hid_ (HM2.out.below HW3.out (Nat.le_refl _)); have HB4c := hid_ (HB4b.out.below HW3.out HB4b.out.lt); have HB6c := hid_ (HB6.out.below HW3.out HB6.out.lt); have c9 := HB4c.out.cell 9; have cc : (stL R).toArray[9]? = some (.int .u16 R.pc) := rfl; rw [cc, HPC.out] at c9; clear cc)
    | ((with_reducible refine wpList_allocA (op := ⟨some 8, _, _, _, _, _⟩) rfl 48 rfl #[.int .i64 0, .int .i64 0, .int .u16 0, .int .i64 0, .int .i64 0, .int .i64 0, .int .i64 0, .int .u16 0, .bool false] zero48 ?_); intro w4 HB8 HW4 hz4; have HM4 := hid_ (HM3.out.below HW4.out (Nat.le_refl _)); have HB4d := hid_ (HB4c.out.below HW4.out HB4c.out.lt); have HB6d := hid_ (HB6c.out.below HW4.out HB6c.out.lt); have HB7d := hid_ (HB7.out.below HW4.out HB7.out.lt); clear c9 HB4 HB4b HB4c HB6 HB6c HB7 HM1 HM2 HM3; have hzz := hid_ (And.intro hz1 (And.intro hz2 (And.intro hz3 hz4))); have CW := hid_ (HW1.out.trans ((HW2.out.mono (by omega)).trans ((HW3.out.mono (by omega)).trans (HW4.out.mono (by omega))))))
    | ((with_reducible refine wpList_storeM (op := ⟨none, .store 48 (.tmp 8) (.tmp 15), _, _, _, _⟩) rfl 48 (.tmp 8) (.tmp 15) rfl w3.heap.size 0 (by with_unfolding_all rfl) _ _ HB8.out (didL 0 (i : Int) ⟨0, 0, 0, 0, 0⟩ false) (by with_unfolding_all rfl) (by with_unfolding_all exact size48) (hid_ (didL_one _ _ _ _)).out (by with_unfolding_all exact Nat.le_refl 9) (didL 0 (i : Int) ⟨0, 0, 0, 0, 0⟩ false).toArray (by with_unfolding_all rfl) ?_); intro w5 H8a s5; have hle := s5.out.size; have H4a := hid_ (HB4d.out.step s5.out (by omega)); have H6a := hid_ (HB6d.out.step s5.out (by omega)); have H7a := hid_ (HB7d.out.step s5.out (by omega)); have HM5 := hid_ (HM4.out.far s5.out (HFn.out _ (by omega))); have C5 : Hid (Chg S (fun k => w.heap.size ≤ k) A w w5 A) := hid_ ((Chg.of CW.out).own s5.out (by omega)); clear HB4d HB6d HB7d HM4 HB8 CW s5)
    | (with_reducible refine wpList_loadM (op := ⟨some 24, _, _, _, _, _⟩) rfl 33 (.tmp 4) rfl w.heap.size 0 (by with_unfolding_all rfl) _ _ H4a.out [.int .u8 R.a, .int .u8 R.f, .int .u8 R.b, .int .u8 R.c, .int .u8 R.d, .int .u8 R.e, .int .u8 R.h, .int .u8 R.l, .int .u16 R.sp, .int .u16 R.pc, .bool false, .bool false, .bool false, .bool false] (by with_unfolding_all rfl) _ Tryz.underlying33 rfl (by with_unfolding_all exact size33) ?_)
    | ((with_reducible refine wpList_boxA (op := ⟨some 27, _, _, _, _, _⟩) rfl 148 (.tmp 26) rfl (rl S R).toArray rfl ?_); intro w6 Hr6 HW6 hz6; have H66 := hid_ (H6a.out.below HW6.out H6a.out.lt); have H76 := hid_ (H7a.out.below HW6.out H7a.out.lt); have H86 := hid_ (H8a.out.below HW6.out H8a.out.lt); have HM6 := hid_ (HM5.out.below HW6.out (Nat.le_refl _)); have C6 := hid_ (C5.out.trans (Chg.of HW6.out)); have N := hid_ (nums hz1 hz2 hz3 hz4 hle); clear H4a H6a H7a H8a HM5 C5; have Fr := hid_ (HFn.out _ N.out.1); have F6 := hid_ (HFn.out _ N.out.2.1); have F7 := hid_ (HFn.out _ N.out.2.2.1); have F8 := hid_ (HFn.out _ N.out.2.2.2.1); have c13 := (Hr6.out.cell 13).trans (rl_b S _ 13 (by decide)))
    | (go_at_call 173; refine (pending_none S M A _ HM6.out).mono ?_; rintro e w7 ⟨rfl, A7, hM7, hC⟩; have HM7 := hid_ hM7; have Hr7 := hid_ (hC.blk Hr6.out Fr.out id); have H67 := hid_ (hC.blk H66.out F6.out id); have H77 := hid_ (hC.blk H76.out F7.out id); have H87 := hid_ (hC.blk H86.out F8.out id); have Fr7 := hid_ (hC.free Fr.out Hr6.out.lt); have F67 := hid_ (hC.free F6.out H66.out.lt); have F77 := hid_ (hC.free F7.out H76.out.lt); have F87 := hid_ (hC.free F8.out H86.out.lt); have C7 := hid_ (C6.out.trans hC.more); clear hM7 hC c13 HM6 Hr6 H66 H76 H86 C6; have c10 := (Hr7.out.cell 10).trans (rl_b S _ 10 (by decide)); have c11 := (Hr7.out.cell 11).trans (rl_b S _ 11 (by decide)); have c12 := (Hr7.out.cell 12).trans (rl_b S _ 12 (by decide)); have c13 := (Hr7.out.cell 13).trans (rl_b S _ 13 (by decide)))
    | ((with_reducible refine wpList_storeC (op := ⟨none, .store 4 (.tmp 69) (.const (.bool false)), _, _, _, _⟩) rfl 4 (.tmp 69) (.const (.bool false)) rfl w5.heap.size 12 (by with_unfolding_all rfl) _ _ Hr7.out (.bool false) (by with_unfolding_all rfl) rfl size4 rfl (by rw [rl_size]; omega) (rl S R).toArray (rl_setb S R 12 (by decide)) ?_); intro w8 Hr8 s8; have H68 := hid_ (H67.out.step s8.out N.out.2.2.2.2.1); have H78 := hid_ (H77.out.step s8.out N.out.2.2.2.2.2.1); have H88 := hid_ (H87.out.step s8.out N.out.2.2.2.2.2.2.1); have HM8 := hid_ (HM7.out.far s8.out Fr7.out); have C8 := hid_ (C7.out.own s8.out N.out.1); clear c10 c11 c12 c13 Hr7 H67 H77 H87 HM7 C7; have c10 := (Hr8.out.cell 10).trans (rl_b S _ 10 (by decide)); have c11 := (Hr8.out.cell 11).trans (rl_b S _ 11 (by decide)))
    | ((with_reducible refine wpList_storeC (op := ⟨none, .store 4 (.tmp 97) (.const (.bool false)), _, _, _, _⟩) rfl 4 (.tmp 97) (.const (.bool false)) rfl w5.heap.size 11 (by with_unfolding_all rfl) _ _ Hr8.out (.bool false) (by with_unfolding_all rfl) rfl size4 rfl (by rw [rl_size]; omega) (rl S R).toArray (rl_setb S R 11 (by decide)) ?_); intro w9 Hr9 s9; have H69 := hid_ (H68.out.step s9.out N.out.2.2.2.2.1); have H79 := hid_ (H78.out.step s9.out N.out.2.2.2.2.2.1); have H89 := hid_ (H88.out.step s9.out N.out.2.2.2.2.2.2.1); have HM9 := hid_ (HM8.out.far s9.out Fr7.out); have C9 := hid_ (C8.out.own s9.out N.out.1); clear c10 c11 Hr8 H68 H78 H88 HM8 C8)
    | (go_at_call 55; refine (next_any hfill S M A7 R w5.heap.size i kd x y sz a hsz hi HPC.out hza ha hcb HO.out hm0 hc0 hc1 _ HM9.out Fr7.out Hr9.out).mono ?_; rintro e w10 ⟨rfl, A10, hM10, hr10, hC⟩; have HM10 := hid_ hM10; have Hr10 := hid_ hr10; have H610 := hid_ (hC.blk H69.out F67.out N.out.2.2.2.2.1); have H710 := hid_ (hC.blk H79.out F77.out N.out.2.2.2.2.2.1); have H810 := hid_ (hC.blk H89.out F87.out N.out.2.2.2.2.2.2.1); have Fr10 := hid_ (hC.free Fr7.out Hr9.out.lt); have F610 := hid_ (hC.free F67.out H69.out.lt); have F710 := hid_ (hC.free F77.out H79.out.lt); have F810 := hid_ (hC.free F87.out H89.out.lt); have C10 := hid_ (C9.out.trans (hC.wide N.out.1)); clear hM10 hr10 hC HM9 Hr9 H69 H79 H89 C9)
    | ((with_reducible refine wpList_storeC (op := ⟨none, .store 3 (.tmp 101) (.const (.int .i64 1)), _, _, _, _⟩) rfl 3 (.tmp 101) (.const (.int .i64 1)) rfl w3.heap.size 0 (by with_unfolding_all rfl) _ _ H810.out (.int .i64 1) (by with_unfolding_all rfl) rfl size3s rfl (by with_unfolding_all exact (by decide : 0 < 9)) (didL 1 (i : Int) ⟨0, 0, 0, 0, 0⟩ false).toArray (by with_unfolding_all rfl) ?_); intro w11 H811 s11; have Hr11 := hid_ (Hr10.out.step s11.out (fun e => N.out.2.2.2.2.2.2.1 e.symm)); have H611 := hid_ (H610.out.step s11.out N.out.2.2.2.2.2.2.2.1); have H711 := hid_ (H710.out.step s11.out N.out.2.2.2.2.2.2.2.2.1); have HM11 := hid_ (HM10.out.far s11.out F810.out); have C11 := hid_ (C10.out.own s11.out N.out.2.2.2.1); clear HM10 Hr10 H610 H710 H810 C10)
    | ((with_reducible refine wpList_storeM (op := ⟨none, .store 46 (.tmp 102) (.tmp 100), _, _, _, _⟩) rfl 46 (.tmp 102) (.tmp 100) rfl w3.heap.size 3 (by with_unfolding_all rfl) _ _ H811.out (⟨kd, x, y, sz, nOf sz (S.zs.getD (i + 1) 0) (S.zs.getD (i + 2) 0)⟩ : OpV).list (by with_unfolding_all rfl) (by with_unfolding_all exact size46) (hid_ (OpV.list_one _)).out (by with_unfolding_all exact (by decide : 3 + 5 ≤ 9)) (didL 1 (i : Int) (⟨kd, x, y, sz, nOf sz (S.zs.getD (i + 1) 0) (S.zs.getD (i + 2) 0)⟩ : OpV) false).toArray (by with_unfolding_all rfl) ?_); intro w12 H812 s12; have Hr12 := hid_ (Hr11.out.step s12.out (fun e => N.out.2.2.2.2.2.2.1 e.symm)); have H612 := hid_ (H611.out.step s12.out N.out.2.2.2.2.2.2.2.1); have H712 := hid_ (H711.out.step s12.out N.out.2.2.2.2.2.2.2.2.1); have HM12 := hid_ (HM11.out.far s12.out F810.out); have C12 := hid_ (C11.out.own s12.out N.out.2.2.2.1); clear HM11 Hr11 H611 H711 H811 C11; have c2 := H812.out.cell 2; have cc : (didL 1 (i : Int) (⟨kd, x, y, sz, nOf sz (S.zs.getD (i + 1) 0) (S.zs.getD (i + 2) 0)⟩ : OpV) false).toArray[2]? = some (.int .u16 (i : Int)) := rfl; rw [cc] at c2; clear cc)
    | (with_reducible refine wpList_loadM (op := ⟨some 105, _, _, _, _, _⟩) rfl 46 (.tmp 104) rfl w3.heap.size 3 (by with_unfolding_all rfl) _ _ H812.out (⟨kd, x, y, sz, nOf sz (S.zs.getD (i + 1) 0) (S.zs.getD (i + 2) 0)⟩ : OpV).list (by with_unfolding_all rfl) _ Tryz.underlying46 rfl (by with_unfolding_all exact size46) ?_)
    | (go_at_call 56; refine (HORD.out A10 w5.heap.size w12 HM12.out Fr10.out Hr12.out).mono ?_; rintro e w13 ⟨rfl, A13, hM13, hr13, hC⟩; have HM13 := hid_ hM13; have Hr13 := hid_ hr13; have H613 := hid_ (hC.blk H612.out F610.out N.out.2.2.2.2.1); have H713 := hid_ (hC.blk H712.out F710.out N.out.2.2.2.2.2.1); have H813 := hid_ (hC.blk H812.out F810.out N.out.2.2.2.2.2.2.1); have Fr13 := hid_ (hC.free Fr10.out Hr12.out.lt); have F613 := hid_ (hC.free F610.out H612.out.lt); have F713 := hid_ (hC.free F710.out H712.out.lt); have F813 := hid_ (hC.free F810.out H812.out.lt); have C13 := hid_ (C12.out.trans (hC.wide N.out.1)); clear hM13 hr13 hC c2 HM12 Hr12 H612 H712 H812 C12)
    | ((with_reducible refine wpList_storeC (op := ⟨none, .store 4 (.tmp 109) (.tmp 108), _, _, _, _⟩) rfl 4 (.tmp 109) (.tmp 108) rfl w3.heap.size 8 (by with_unfolding_all rfl) _ _ H813.out (.bool t) (by with_unfolding_all rfl) rfl size4 rfl (by with_unfolding_all exact (by decide : 8 < 9)) (didL 1 (i : Int) (⟨kd, x, y, sz, nOf sz (S.zs.getD (i + 1) 0) (S.zs.getD (i + 2) 0)⟩ : OpV) t).toArray (by with_unfolding_all rfl) ?_); intro w14 H814 s14; have Hr14 := hid_ (Hr13.out.step s14.out (fun e => N.out.2.2.2.2.2.2.1 e.symm)); have H614 := hid_ (H613.out.step s14.out N.out.2.2.2.2.2.2.2.1); have H714 := hid_ (H713.out.step s14.out N.out.2.2.2.2.2.2.2.2.1); have HM14 := hid_ (HM13.out.far s14.out F813.out); have C14 := hid_ (C13.out.own s14.out N.out.2.2.2.1); clear HM13 Hr13 H613 H713 H813 C13))
  have Hrd := hid_ Hr14.out.drew
  have H6d := hid_ H614.out.drew
  have H7d := hid_ H714.out.drew
  have H8d := hid_ H814.out.drew
  have HMd : Hid (Mach w14.drew S M2 A13) := hid_ (Mach.below HM14.out (Below.refl w14.heap.size w14).drew (Nat.le_refl _))
  have Cd := hid_ (C14.out.trans (Chg.of (Below.refl _ w14).drew))
  refine wp_region_tail (S := (fun W => Blk W w5.heap.size 148 (rl S R2).toArray ∧ Blk W w3.heap.size 48 (didL 1 (i : Int) (⟨kd, x, y, sz, nOf sz (S.zs.getD (i + 1) 0) (S.zs.getD (i + 2) 0)⟩ : OpV) t).toArray)) (tail := (fun _ => false)) (by kernel_rfl) ?hS1 (fun hHeld => ?rest1)
  case hS1 => (exact ⟨Hrd.out, H8d.out⟩)
  refine wpAnyT_take (i := 0) (v := ?v2) rfl (by kernel_rfl) (by kernel_rfl) (by kernel_rfl) (by kernel_rfl) (by kernel_rfl) (fun _ _ _ h => h) (Or.inl ⟨by rfl, ?hy2⟩) (by assumption) ?rest2
  case hy2 => (intro w hSw; (try simp only [List.getElem_toArray, List.getElem_cons_succ, List.getElem_cons_zero]); (try dsimp only at hSw); go_simp; all_goals (with_reducible rfl))
  (try simp only [Act.put, List.getElem_toArray, List.getElem_cons_succ, List.getElem_cons_zero, List.setIfInBounds_toArray, List.set_cons_zero, List.set_cons_succ])
  refine wpAnyT_take (i := 1) (v := ?v3) rfl (by kernel_rfl) (by kernel_rfl) (by kernel_rfl) (by kernel_rfl) (by kernel_rfl) (fun _ _ _ h => h) (Or.inl ⟨by rfl, ?hy3⟩) (by assumption) ?rest3
  case hy3 => (intro w hSw; (try simp only [List.getElem_toArray, List.getElem_cons_succ, List.getElem_cons_zero]); (try dsimp only at hSw); go_simp; all_goals (with_reducible rfl))
  (try simp only [Act.put, List.getElem_toArray, List.getElem_cons_succ, List.getElem_cons_zero, List.setIfInBounds_toArray, List.set_cons_zero, List.set_cons_succ])
  refine wpAnyT_take (i := 2) (v := ?v4) rfl (by kernel_rfl) (by kernel_rfl) (by kernel_rfl) (by kernel_rfl) (by kernel_rfl) (fun _ _ _ h => h) (Or.inl ⟨by rfl, ?hy4⟩) (by assumption) ?rest4
  case hy4 => (intro w hSw; (try simp only [List.getElem_toArray, List.getElem_cons_succ, List.getElem_cons_zero]); (try dsimp only at hSw); go_simp; all_goals (with_reducible rfl))
  (try simp only [Act.put, List.getElem_toArray, List.getElem_cons_succ, List.getElem_cons_zero, List.setIfInBounds_toArray, List.set_cons_zero, List.set_cons_succ])
  refine wpAnyT_take (i := 3) (v := _) rfl (by kernel_rfl) (by kernel_rfl) (by kernel_rfl) (by kernel_rfl) (by kernel_rfl) (fun _ _ _ h => h) (yieldsIf_load_mid (by rfl) 33 (.tmp 123) rfl w5.heap.size 0 (by rfl) (stL R2) _ (fun w hw => toArray_range hw.1 (by with_unfolding_all rfl)) Tryz.underlying33 rfl (by with_unfolding_all exact size33)) (by assumption) ?rest5
  (try simp only [Act.put, List.getElem_toArray, List.getElem_cons_succ, List.getElem_cons_zero, List.setIfInBounds_toArray, List.set_cons_zero, List.set_cons_succ])
  refine wpAnyT_take (i := 4) (v := _) rfl (by kernel_rfl) (by kernel_rfl) (by kernel_rfl) (by kernel_rfl) (by kernel_rfl) (fun _ _ _ h => h) (yieldsIf_load_mid (by rfl) 48 (.tmp 8) rfl w3.heap.size 0 (by rfl) (didL 1 (i : Int) (⟨kd, x, y, sz, nOf sz (S.zs.getD (i + 1) 0) (S.zs.getD (i + 2) 0)⟩ : OpV) t) _ (fun w hw => toArray_range hw.2 (by with_unfolding_all rfl)) Tryz.underlying48 rfl (by with_unfolding_all exact size48)) (by assumption) ?rest6
  (try simp only [Act.put, List.getElem_toArray, List.getElem_cons_succ, List.getElem_cons_zero, List.setIfInBounds_toArray, List.set_cons_zero, List.set_cons_succ])
  refine wpAnyT_one (i := 5) rfl (by kernel_rfl) (fun K hK => ?_)
  (try simp only [List.getElem_toArray, List.getElem_cons_succ, List.getElem_cons_zero])
  refine want rfl ?_
  refine wp_storeM 33 (.tmp 6) (.tmp 124) rfl w1.heap.size 0 (by with_unfolding_all rfl) 33 _ H6d.out (stL R2) (by with_unfolding_all rfl) (by with_unfolding_all exact size33) (stL_one _) (by with_unfolding_all exact Nat.le_refl 14) (stL R2).toArray (by with_unfolding_all rfl) ?_
  intro w15 H615 s15
  have Hr15 := hid_ (Hrd.out.step s15.out (fun e => N.out.2.2.2.2.1 e.symm))
  have H815 := hid_ (H8d.out.step s15.out (fun e => N.out.2.2.2.2.2.2.2.1 e.symm))
  have H715 := hid_ (H7d.out.step s15.out (fun e => N.out.2.2.2.2.2.2.2.2.2 e.symm))
  have HM15 := hid_ (HMd.out.far s15.out F613.out)
  have C15 := hid_ (Cd.out.own s15.out N.out.2.1)
  clear hHeld
  have hHeld := And.intro Hr15.out H815.out
  refine hK.out _ _ ?hS7 ?rest7
  case hS7 => (exact hHeld)
  clear hK K
  (try simp only [Act.put, List.getElem_toArray, List.getElem_cons_succ, List.getElem_cons_zero, List.setIfInBounds_toArray, List.set_cons_zero, List.set_cons_succ])
  refine wpAnyT_one (i := 6) rfl (by kernel_rfl) (fun K hK => ?_)
  (try simp only [List.getElem_toArray, List.getElem_cons_succ, List.getElem_cons_zero])
  refine want rfl ?_
  refine wp_storeM 48 (.tmp 7) (.tmp 125) rfl w2.heap.size 0 (by with_unfolding_all rfl) 48 _ H715.out (didL 1 (i : Int) (⟨kd, x, y, sz, nOf sz (S.zs.getD (i + 1) 0) (S.zs.getD (i + 2) 0)⟩ : OpV) t) (by with_unfolding_all rfl) (by with_unfolding_all exact size48) (didL_one _ _ _ _) (by with_unfolding_all exact Nat.le_refl 9) (didL 1 (i : Int) (⟨kd, x, y, sz, nOf sz (S.zs.getD (i + 1) 0) (S.zs.getD (i + 2) 0)⟩ : OpV) t).toArray (by with_unfolding_all rfl) ?_
  intro w16 H716 s16
  have Hr16 := hid_ (Hr15.out.step s16.out (fun e => N.out.2.2.2.2.2.1 e.symm))
  have H816 := hid_ (H815.out.step s16.out (fun e => N.out.2.2.2.2.2.2.2.2.1 e.symm))
  have H616 := hid_ (H615.out.step s16.out N.out.2.2.2.2.2.2.2.2.2)
  have HM16 := hid_ (HM15.out.far s16.out F713.out)
  have C16 := hid_ (C15.out.own s16.out N.out.2.2.1)
  clear hHeld
  have hHeld := And.intro Hr16.out H816.out
  refine hK.out _ _ ?hS8 ?rest8
  case hS8 => (exact hHeld)
  clear hK K
  (try simp only [Act.put, List.getElem_toArray, List.getElem_cons_succ, List.getElem_cons_zero, List.setIfInBounds_toArray, List.set_cons_zero, List.set_cons_succ])
  refine wpAnyT_done (by kernel_rfl) ?_ _
  go_wp2_with fail
  refine bodyPost_ret (v := .tuple #[.agg (stL R2).toArray, .agg (didL 1 (i : Int) (⟨kd, x, y, sz, nOf sz (S.zs.getD (i + 1) 0) (S.zs.getD (i + 2) 0)⟩ : OpV) t).toArray]) (results_cells Tryz.results35 rfl rfl (load_row H616.out 33 _ Tryz.underlying33 rfl (by with_unfolding_all exact size33)) (load_row H716.out 48 _ Tryz.underlying48 rfl (by with_unfolding_all exact size48))) rfl ⟨rfl, A13, HM16.out, C16.out.narrow⟩
end Go.Proofs.YtglklbcohbeacaaGreat
