/- Contracts: B is one less; where A goes to, or comes from. -/
import Derived.Test.YtglklbcohbeacaaGreatBytes
namespace Go.Proofs.YtglklbcohbeacaaGreat
open Go.RowKit
set_option linter.unusedSimpArgs false
set_option linter.unusedVariables false

def decF (b f : Int) : Int := fl (decide ((b - 1) % 256 = 0)) true (b % 16 == 0) (cB f)
set_option maxRecDepth 100000 in
set_option maxHeartbeats 2000000 in
theorem change_b (S : St) (R : Rg) (r : Nat) (hb0 : 0 ≤ R.b) (hb1' : R.b ≤ 255) (hf0 : 0 ≤ R.f) (hf1 : R.f ≤ 255) (w : World) (h : Blk w r 148 (rl S R).toArray) :
    Calls Tryz.prog 75 #[.pointer (some ⟨r, 0, none⟩), .int .i64 0, .func (.func 77) #[] #[]] w (RStep r S { R with b := (R.b - 1) % 256, f := decF R.b R.f } w) := by
  have h := hid_ h
  go_enter Tryz.func75, Tryz.ntmps75
  go_wp2_with fail
  refine wp_region_tail (S := (fun W => Blk W r 148 (rl S R).toArray)) (tail := (fun _ => false)) (by kernel_rfl) ?hS1 (fun hHeld => ?rest1)
  case hS1 => (exact h.out.drew)
  refine wpAnyT_take (i := 0) (v := ?v2) rfl (by kernel_rfl) (by kernel_rfl) (by kernel_rfl) (by kernel_rfl) (by kernel_rfl) (fun _ _ _ h => h) (Or.inl ⟨by rfl, ?hy2⟩) (by assumption) ?rest2
  case hy2 => (intro w hSw; (try simp only [List.getElem_toArray, List.getElem_cons_succ, List.getElem_cons_zero]); (try dsimp only at hSw); go_simp; all_goals (with_reducible rfl))
  (try simp only [Act.put, List.getElem_toArray, List.getElem_cons_succ, List.getElem_cons_zero, List.setIfInBounds_toArray, List.set_cons_zero, List.set_cons_succ])
  refine wpAnyT_take (i := 1) (v := ?v3) rfl (by kernel_rfl) (by kernel_rfl) (by kernel_rfl) (by kernel_rfl) (by kernel_rfl) (fun _ _ _ h => h) (Or.inl ⟨by rfl, ?hy3⟩) (by assumption) ?rest3
  case hy3 => (intro w hSw; (try simp only [List.getElem_toArray, List.getElem_cons_succ, List.getElem_cons_zero]); (try dsimp only at hSw); go_simp; all_goals (with_reducible rfl))
  (try simp only [Act.put, List.getElem_toArray, List.getElem_cons_succ, List.getElem_cons_zero, List.setIfInBounds_toArray, List.set_cons_zero, List.set_cons_succ])
  refine wpAnyT_take (i := 2) (v := ?v4) rfl (by kernel_rfl) (by kernel_rfl) (by kernel_rfl) (by kernel_rfl) (by kernel_rfl) (fun _ _ _ h => h) (Or.inl ⟨by rfl, ?hy4⟩) (by assumption) ?rest4
  case hy4 => (intro w hSw; (try simp only [List.getElem_toArray, List.getElem_cons_succ, List.getElem_cons_zero]); (try dsimp only at hSw); go_simp; all_goals (with_reducible rfl))
  (try simp only [Act.put, List.getElem_toArray, List.getElem_cons_succ, List.getElem_cons_zero, List.setIfInBounds_toArray, List.set_cons_zero, List.set_cons_succ])
  refine wpAnyT_take (i := 4) (v := ?v5) rfl (by kernel_rfl) (by kernel_rfl) (by kernel_rfl) (by kernel_rfl) (by kernel_rfl) (fun _ _ _ h => h) (Or.inl ⟨by rfl, ?hy5⟩) (by assumption) ?rest5
  case hy5 => (intro w hSw; (try simp only [List.getElem_toArray, List.getElem_cons_succ, List.getElem_cons_zero]); (try dsimp only at hSw); go_simp; all_goals (with_reducible rfl))
  (try simp only [Act.put, List.getElem_toArray, List.getElem_cons_succ, List.getElem_cons_zero, List.setIfInBounds_toArray, List.set_cons_zero, List.set_cons_succ])
  refine wpAnyT_take (i := 5) (v := ?v6) rfl (by kernel_rfl) (by kernel_rfl) (by kernel_rfl) (by kernel_rfl) (by kernel_rfl) (fun _ _ _ h => h) (Or.inl ⟨by rfl, ?hy6⟩) (by assumption) ?rest6
  case hy6 => (intro w hSw; (try simp only [List.getElem_toArray, List.getElem_cons_succ, List.getElem_cons_zero]); (try dsimp only at hSw); go_simp; all_goals (with_reducible rfl))
  (try simp only [Act.put, List.getElem_toArray, List.getElem_cons_succ, List.getElem_cons_zero, List.setIfInBounds_toArray, List.set_cons_zero, List.set_cons_succ])
  refine wpAnyT_take (i := 6) (v := ?v7) rfl (by kernel_rfl) (by kernel_rfl) (by kernel_rfl) (by kernel_rfl) (by kernel_rfl) (fun _ _ _ h => h) (Or.inl ⟨by rfl, ?hy7⟩) (by assumption) ?rest7
  case hy7 => (intro w hSw; (try simp only [List.getElem_toArray, List.getElem_cons_succ, List.getElem_cons_zero]); (try dsimp only at hSw); go_simp; all_goals (with_reducible rfl))
  (try simp only [Act.put, List.getElem_toArray, List.getElem_cons_succ, List.getElem_cons_zero, List.setIfInBounds_toArray, List.set_cons_zero, List.set_cons_succ])
  refine wpAnyT_take (i := 7) (v := ?v8) rfl (by kernel_rfl) (by kernel_rfl) (by kernel_rfl) (by kernel_rfl) (by kernel_rfl) (fun _ _ _ h => h) (Or.inl ⟨by rfl, ?hy8⟩) (by assumption) ?rest8
  case hy8 => (intro w hSw; (try simp only [List.getElem_toArray, List.getElem_cons_succ, List.getElem_cons_zero]); (try dsimp only at hSw); go_simp; all_goals (with_reducible rfl))
  (try simp only [Act.put, List.getElem_toArray, List.getElem_cons_succ, List.getElem_cons_zero, List.setIfInBounds_toArray, List.set_cons_zero, List.set_cons_succ])
  refine wpAnyT_take (i := 8) (v := ?v9) rfl (by kernel_rfl) (by kernel_rfl) (by kernel_rfl) (by kernel_rfl) (by kernel_rfl) (fun _ _ _ h => h) (Or.inl ⟨by rfl, ?hy9⟩) (by assumption) ?rest9
  case hy9 => (intro w hSw; (try simp only [List.getElem_toArray, List.getElem_cons_succ, List.getElem_cons_zero]); (try dsimp only at hSw); go_simp; all_goals (with_reducible rfl))
  (try simp only [Act.put, List.getElem_toArray, List.getElem_cons_succ, List.getElem_cons_zero, List.setIfInBounds_toArray, List.set_cons_zero, List.set_cons_succ])
  refine wpAnyT_take (i := 9) (v := ?v10) rfl (by kernel_rfl) (by kernel_rfl) (by kernel_rfl) (by kernel_rfl) (by kernel_rfl) (fun _ _ _ h => h) (Or.inl ⟨by rfl, ?hy10⟩) (by assumption) ?rest10
  case hy10 => (intro W hW; have c := (hW.cell 1).trans (rl_f S R); (try simp only [List.getElem_toArray, List.getElem_cons_succ, List.getElem_cons_zero]); go_simp; all_goals (with_reducible rfl))
  (try simp only [Act.put, List.getElem_toArray, List.getElem_cons_succ, List.getElem_cons_zero, List.setIfInBounds_toArray, List.set_cons_zero, List.set_cons_succ])
  refine wpAnyT_one (i := 3) rfl (by kernel_rfl) (fun K hK => ?_)
  (try simp only [List.getElem_toArray, List.getElem_cons_succ, List.getElem_cons_zero])
  go_simp
  refine (get_b S R r _ h.out.drew).mono ?_
  rintro e w1 ⟨rfl, hc, hf, hz, hb1⟩
  clear hc hf hz hHeld
  have hHeld := h.out.drew.below hb1 h.out.drew.lt
  have H1 := hid_ hHeld
  (try go_wp2_with fail)
  refine hK.out _ _ ?hS11 ?rest11
  case hS11 => (exact hHeld)
  clear hK K
  (try simp only [Act.put, List.getElem_toArray, List.getElem_cons_succ, List.getElem_cons_zero, List.setIfInBounds_toArray, List.set_cons_zero, List.set_cons_succ])
  refine wpAnyT_one (i := 10) rfl (by kernel_rfl) (fun K hK => ?_)
  (try simp only [List.getElem_toArray, List.getElem_cons_succ, List.getElem_cons_zero])
  go_simp
  refine (dec_any R.b R.f hb0 hb1' hf0 hf1 _).mono ?_
  rintro e wx ⟨rfl, rfl⟩
  (try go_wp2_with fail)
  refine hK.out _ _ ?hS12 ?rest12
  case hS12 => (exact hHeld)
  clear hK K
  (try simp only [Act.put, List.getElem_toArray, List.getElem_cons_succ, List.getElem_cons_zero, List.setIfInBounds_toArray, List.set_cons_zero, List.set_cons_succ])
  refine wpAnyT_take (i := 11) (v := ?v13) rfl (by kernel_rfl) (by kernel_rfl) (by kernel_rfl) (by kernel_rfl) (by kernel_rfl) (fun _ _ _ h => h) (Or.inl ⟨by rfl, ?hy13⟩) (by assumption) ?rest13
  case hy13 => (intro w hSw; (try simp only [List.getElem_toArray, List.getElem_cons_succ, List.getElem_cons_zero]); (try dsimp only at hSw); go_simp; all_goals (with_reducible rfl))
  (try simp only [Act.put, List.getElem_toArray, List.getElem_cons_succ, List.getElem_cons_zero, List.setIfInBounds_toArray, List.set_cons_zero, List.set_cons_succ])
  refine wpAnyT_take (i := 12) (v := ?v14) rfl (by kernel_rfl) (by kernel_rfl) (by kernel_rfl) (by kernel_rfl) (by kernel_rfl) (fun _ _ _ h => h) (Or.inl ⟨by rfl, ?hy14⟩) (by assumption) ?rest14
  case hy14 => (intro w hSw; (try simp only [List.getElem_toArray, List.getElem_cons_succ, List.getElem_cons_zero]); (try dsimp only at hSw); go_simp; all_goals (with_reducible rfl))
  (try simp only [Act.put, List.getElem_toArray, List.getElem_cons_succ, List.getElem_cons_zero, List.setIfInBounds_toArray, List.set_cons_zero, List.set_cons_succ])
  refine wpAnyT_take (i := 13) (v := ?v15) rfl (by kernel_rfl) (by kernel_rfl) (by kernel_rfl) (by kernel_rfl) (by kernel_rfl) (fun _ _ _ h => h) (Or.inl ⟨by rfl, ?hy15⟩) (by assumption) ?rest15
  case hy15 => (intro w hSw; (try simp only [List.getElem_toArray, List.getElem_cons_succ, List.getElem_cons_zero]); (try dsimp only at hSw); go_simp; all_goals (with_reducible rfl))
  (try simp only [Act.put, List.getElem_toArray, List.getElem_cons_succ, List.getElem_cons_zero, List.setIfInBounds_toArray, List.set_cons_zero, List.set_cons_succ])
  refine wpAnyT_one (i := 14) rfl (by kernel_rfl) (fun K hK => ?_)
  (try simp only [List.getElem_toArray, List.getElem_cons_succ, List.getElem_cons_zero])
  go_simp
  refine hK.out _ _ ?hS16 ?rest16
  case hS16 => (exact hHeld)
  clear hK K
  (try simp only [Act.put, List.getElem_toArray, List.getElem_cons_succ, List.getElem_cons_zero, List.setIfInBounds_toArray, List.set_cons_zero, List.set_cons_succ])
  refine wpAnyT_one (i := 15) rfl (by kernel_rfl) (fun K hK => ?_)
  (try simp only [List.getElem_toArray, List.getElem_cons_succ, List.getElem_cons_zero])
  go_simp
  refine hK.out _ _ ?hS17 ?rest17
  case hS17 => (exact hHeld)
  clear hK K
  (try simp only [Act.put, List.getElem_toArray, List.getElem_cons_succ, List.getElem_cons_zero, List.setIfInBounds_toArray, List.set_cons_zero, List.set_cons_succ])
  refine wpAnyT_done (by kernel_rfl) ?_ _
  go_wp2_with (first
    | (go_at_call 72; refine (set_b S R r _ _ H1.out).mono ?_; rintro e w2 ⟨rfl, hb2, hs2⟩; have H2 := hid_ hb2; clear hb2)
    | ((with_reducible refine wpList_storeC (op := ⟨none, .store 5 (.tmp 31) (.tmp 27), _, _, _, _⟩) rfl 5 (.tmp 31) (.tmp 27) rfl r 1 (by with_unfolding_all rfl) _ _ H2.out (.int .u8 (decF R.b R.f)) (by with_unfolding_all rfl) rfl size5 rfl (by rw [rl_size]; omega) (rl S { R with b := (R.b - 1) % 256, f := decF R.b R.f }).toArray (rl_set1 S _ _) ?_); intro w3 H3 s3; clear H2))
  go_end0
  exact ⟨rfl, H3.out, ((Step.refl _ w).drew.trans (Step.of hb1 (Nat.le_refl _))).trans (hs2.trans s3.out)⟩
/-- Pairs. -/
def Rg.hl (R : Rg) : Int := R.h * 256 + R.l
def Rg.de (R : Rg) : Int := R.d * 256 + R.e
theorem pair_hl (S : St) (R : Rg) (hR : R.ok) (r : Nat) (w : World) (h : Blk w r 148 (rl S R).toArray) : Calls Tryz.prog 83 #[.pointer (some ⟨r, 0, none⟩), .int .i64 2] w (Ret (.int .u16 R.hl) w) :=
  run_pair S R r 2 R.hl (fun w => pair_any R 2 6 7 both_2 (by omega) (by omega) (by omega) (by omega) (by omega) R.h R.l rfl rfl hR.h0 hR.h1 hR.l0 hR.l1 w) w h
theorem pair_de (S : St) (R : Rg) (hR : R.ok) (r : Nat) (w : World) (h : Blk w r 148 (rl S R).toArray) : Calls Tryz.prog 83 #[.pointer (some ⟨r, 0, none⟩), .int .i64 1] w (Ret (.int .u16 R.de) w) :=
  run_pair S R r 1 R.de (fun w => pair_any R 1 4 5 both_1 (by omega) (by omega) (by omega) (by omega) (by omega) R.d R.e rfl rfl hR.d0 hR.d1 hR.e0 hR.e1 w) w h
theorem setpair_hl (S : St) (R : Rg) (r : Nat) (x : Int) (hx0 : 0 ≤ x) (hx1 : x ≤ 65535) (w : World) (h : Blk w r 148 (rl S R).toArray) : Calls Tryz.prog 82 #[.pointer (some ⟨r, 0, none⟩), .int .i64 2, .int .u16 x] w (RStep r S { R with h := x / 256, l := x % 256 } w) :=
  run_setpair S R _ r 2 x (fun w => setpair_any R { R with h := x / 256, l := x % 256 } 2 6 7 both_2 (by omega) (by omega) (by omega) (by omega) x hx0 hx1 rfl w) w h
theorem setpair_de (S : St) (R : Rg) (r : Nat) (x : Int) (hx0 : 0 ≤ x) (hx1 : x ≤ 65535) (w : World) (h : Blk w r 148 (rl S R).toArray) : Calls Tryz.prog 82 #[.pointer (some ⟨r, 0, none⟩), .int .i64 1, .int .u16 x] w (RStep r S { R with d := x / 256, e := x % 256 } w) :=
  run_setpair S R _ r 1 x (fun w => setpair_any R { R with d := x / 256, e := x % 256 } 1 4 5 both_1 (by omega) (by omega) (by omega) (by omega) x hx0 hx1 rfl w) w h
theorem hl_bd (R : Rg) (hR : R.ok) : 0 ≤ R.hl ∧ R.hl ≤ 65535 := by have := hR.h0; have := hR.h1; have := hR.l0; have := hR.l1; unfold Rg.hl; omega
theorem de_bd (R : Rg) (hR : R.ok) : 0 ≤ R.de ∧ R.de ≤ 65535 := by have := hR.d0; have := hR.d1; have := hR.e0; have := hR.e1; unfold Rg.de; omega
def Rg.hlUp (R : Rg) : Rg := { R with h := (R.hl + 1) % 65536 / 256, l := (R.hl + 1) % 65536 % 256 }
def Rg.deUp (R : Rg) : Rg := { R with d := (R.de + 1) % 65536 / 256, e := (R.de + 1) % 65536 % 256 }
theorem place_hl (S : St) (R : Rg) (hR : R.ok) (r : Nat) (w : World) (h : Blk w r 148 (rl S R).toArray) : Calls Tryz.prog 87 #[.pointer (some ⟨r, 0, none⟩), .int .i64 2] w (RRet r S R.hlUp (.int .u16 R.hl) w) := by
  obtain ⟨b0, b1⟩ := hl_bd R hR
  have h := hid_ h
  have ew := wrap_u16 (R.hl + 1)
  go_enter Tryz.func87, Tryz.ntmps87
  go_wp2_with (first
    | (go_at_call 83; refine (pair_hl S R hR r _ h.out).mono ?_; rintro e w1 ⟨rfl, hc, hf, hz, hb1⟩; clear hc hf hz; have H1 := hid_ (h.out.below hb1 h.out.lt))
    | (go_at_call 82; refine (setpair_hl S R r ((R.hl + 1) % 65536) (by omega) (by omega) _ H1.out).mono ?_; rintro e w2 ⟨rfl, hb2, hs2⟩))
  go_ret
  exact ⟨rfl, hb2, (Step.of hb1 (Nat.le_refl _)).trans hs2⟩
theorem place_de (S : St) (R : Rg) (hR : R.ok) (r : Nat) (w : World) (h : Blk w r 148 (rl S R).toArray) : Calls Tryz.prog 87 #[.pointer (some ⟨r, 0, none⟩), .int .i64 1] w (Ret (.int .u16 R.de) w) := by
  have h := hid_ h
  go_enter Tryz.func87, Tryz.ntmps87
  go_wp2_with (first
    | (go_at_call 83; refine (pair_de S R hR r _ h.out).mono ?_; rintro e w1 ⟨rfl, hc, hf, hz, hb1⟩; clear hc hf hz))
  go_ret
  exact .of rfl hb1
end Go.Proofs.YtglklbcohbeacaaGreat
