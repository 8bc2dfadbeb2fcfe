/- Contract of a machine's step. -/
import Derived.Test.YtglklbcohbeacaaGreatStep
import Derived.Test.YtglklbcohbeacaaGreatTail3
namespace Go.Proofs.YtglklbcohbeacaaGreat
open Go.RowKit
set_option linter.unusedSimpArgs false
set_option linter.unusedVariables false
/-- A machine all of whose blocks are new. -/
structure MInv (B : Nat) (w : World) (S : St) (A : Option Nat) : Prop where
  le : B ≤ w.heap.size
  m : B ≤ S.m
  t : B ≤ S.tb
  a : ∀ k, A = some k → B ≤ k
theorem size64 : (Tryz.prog.info? 64).map (·.size) = some 2 := by kernel_rfl
theorem size78 : (Tryz.prog.info? 78).map (·.size) = some 1 := by kernel_rfl
theorem cellM {W : World} {S : St} {M : Mc} {cnt : Int} {acc : Value} (h : Blk W S.m 86 (mlist S M cnt acc).toArray) (k : Nat) (hk : k < 135) (v : Value) (hv : (hd S M cnt)[k]? = some v) : W.cell? ⟨S.m, k, none⟩ = some v :=
  (h.cell k).trans (by rw [List.getElem?_toArray, mlist_front S M cnt acc k hk, hv])
theorem MachP.clear {w w' : World} {S : St} {M : Mc} {A : Option Nat} {cnt : Int} {acc : Value} {xs : List Value} (h : MachP w S M A cnt acc xs) (hs : Step (· = S.m) w w') (hb : Blk w' S.m 86 (mlist S M cnt (.slice none 0 0)).toArray) : MachP w' S { M with n := 0 } none cnt (.slice none 0 0) [] :=
  ⟨hb, h.cnt0, h.cnt1, ⟨rfl, .inl ⟨rfl, rfl⟩⟩, rfl, h.work, ⟨h.rom.1.step hs (fun e => h.mr e.symm), h.rom.2⟩, h.romlen, (World.cell?_of_block (hs.block S.u h.ult (fun e => h.mu e.symm))).trans h.unit, h.tab.step hs (fun e => h.mt e.symm), h.mu, h.mr, h.mt, h.ur, h.ut, h.rt, (by simp), (by simp), (by simp), (by simp)⟩
theorem MachP.free' {w : World} {S : St} {M : Mc} {A : Option Nat} {cnt : Int} {acc : Value} {xs : List Value} (h : MachP w S M A cnt acc xs) {g : Nat} (hg : g ≠ S.m ∧ g ≠ S.u ∧ g ≠ S.rb ∧ g ≠ S.tb ∧ A ≠ some g) : Free S A g := ⟨hg.1, hg.2.1, hg.2.2.1, hg.2.2.2.1, hg.2.2.2.2⟩
set_option maxRecDepth 100000 in
set_option maxHeartbeats 8000000 in
theorem mstep_any (hfill : Fills) (S : St) (M : Mc) (A : Option Nat) (i : Nat) (kd x y : Int) (sz : Nat) (a : Nat) (hsz : sz = 1 ∨ sz = 2 ∨ sz = 3) (hi : i + 4 ≤ 16384) (hpc : M.R.pc = i) (hza : S.zs.getD i 0 = a) (ha : a < 256) (hcb : a ≠ 203) (ho : plainL[a]? = some ⟨kd, x, y, sz, 0⟩)
    (hc0 : 0 ≤ M.cyc) (hc1 : M.cyc ≤ 900000) (M2 : Mc) (R2 : Rg) (t : Bool) (hs0 : 0 ≤ M2.steps) (hs1 : M2.steps ≤ 900000) (hord : Orders S ({ M with n := 0 }.fetches sz) { M.R with pc := ((i + sz : Nat) : Int) } (⟨kd, x, y, sz, nOf sz (S.zs.getD (i + 1) 0) (S.zs.getD (i + 2) 0)⟩ : OpV) i M2 R2 t)
    (B : Nat) (w : World) (hI : MInv B w S A) (hM : Mach w S M A) :
    Calls Tryz.prog 17 #[.pointer (some ⟨S.m, 0, none⟩)] w (fun e w' => ∃ A' cnt acc xs, e = .returned (.tuple #[.agg (didL 1 (i : Int) (⟨kd, x, y, sz, nOf sz (S.zs.getD (i + 1) 0) (S.zs.getD (i + 2) 0)⟩ : OpV) t).toArray, acc]) ∧ MachP w' S { M2 with R := R2, steps := M2.steps + 1 } A' cnt acc xs ∧ MInv B w' S A' ∧ Below B w w') := by
  obtain ⟨cnt, acc, xs, h0⟩ := hM
  have H0 := hid_ h0
  have HO := hid_ ho
  have HPC := hid_ hpc
  have HORD := hid_ hord
  have HI := hid_ hI
  have nD : ¬ w.heap.size = S.m := (h0.free (Nat.le_refl _)).m
  have HFw := hid_ (h0.free (Nat.le_refl w.heap.size))
  have ews : IntKind.u64.wrap (M2.steps + 1) = M2.steps + 1 := by simp [IntKind.wrap, IntKind.signed, IntKind.bits]; omega
  clear ho hpc hord hI h0
  go_enter Tryz.func17, Tryz.ntmps17
  go_wp2_with (first
    | ((with_reducible refine wpList_allocA (op := ⟨some 2, _, _, _, _, _⟩) rfl 48 rfl #[.int .i64 0, .int .i64 0, .int .u16 0, .int .i64 0, .int .i64 0, .int .i64 0, .int .i64 0, .int .u16 0, .bool false] zero48 ?_); intro w1 HD1 HW1 hz1; have H1 := hid_ (H0.out.below HW1.out (Nat.le_refl _))))
  have H1d := hid_ (H1.out.below (Below.refl w1.heap.size w1).drew (Nat.le_refl _))
  have HDd := hid_ HD1.out.drew
  have K1d : Hid (Below w.heap.size w w1.drew) := hid_ HW1.out.drew
  refine wp_region_tail (S := (fun W => Blk W S.m 86 (mlist S M cnt acc).toArray)) (tail := (fun _ => false)) (by kernel_rfl) ?hS1 (fun hHeld => ?rest1)
  case hS1 => (exact H1d.out.blk)
  refine wpAnyT_take (i := 0) (v := ?v2) rfl (by kernel_rfl) (by kernel_rfl) (by kernel_rfl) (by kernel_rfl) (by kernel_rfl) (fun _ _ _ h => h) (Or.inl ⟨by rfl, ?hy2⟩) (by assumption) ?rest2
  case hy2 => (intro w hSw; (try simp only [List.getElem_toArray, List.getElem_cons_succ, List.getElem_cons_zero]); (try dsimp only at hSw); go_simp; all_goals (with_reducible rfl))
  (try simp only [Act.put, List.getElem_toArray, List.getElem_cons_succ, List.getElem_cons_zero, List.setIfInBounds_toArray, List.set_cons_zero, List.set_cons_succ])
  refine wpAnyT_take (i := 1) (v := ?v3) rfl (by kernel_rfl) (by kernel_rfl) (by kernel_rfl) (by kernel_rfl) (by kernel_rfl) (fun _ _ _ h => h) (Or.inl ⟨by rfl, ?hy3⟩) (by assumption) ?rest3
  case hy3 => (intro w hSw; (try simp only [List.getElem_toArray, List.getElem_cons_succ, List.getElem_cons_zero]); (try dsimp only at hSw); go_simp; all_goals (with_reducible rfl))
  (try simp only [Act.put, List.getElem_toArray, List.getElem_cons_succ, List.getElem_cons_zero, List.setIfInBounds_toArray, List.set_cons_zero, List.set_cons_succ])
  refine wpAnyT_take (i := 2) (v := ?v4) rfl (by kernel_rfl) (by kernel_rfl) (by kernel_rfl) (by kernel_rfl) (by kernel_rfl) (fun _ _ _ h => h) (Or.inl ⟨by rfl, ?hy4⟩) (by assumption) ?rest4
  case hy4 => (intro w hSw; (try simp only [List.getElem_toArray, List.getElem_cons_succ, List.getElem_cons_zero]); (try dsimp only at hSw); go_simp; all_goals (with_reducible rfl))
  (try simp only [Act.put, List.getElem_toArray, List.getElem_cons_succ, List.getElem_cons_zero, List.setIfInBounds_toArray, List.set_cons_zero, List.set_cons_succ])
  refine wpAnyT_take (i := 3) (v := ?v5) rfl (by kernel_rfl) (by kernel_rfl) (by kernel_rfl) (by kernel_rfl) (by kernel_rfl) (fun _ _ _ h => h) (Or.inl ⟨by rfl, ?hy5⟩) (by assumption) ?rest5
  case hy5 => (intro w hSw; (try simp only [List.getElem_toArray, List.getElem_cons_succ, List.getElem_cons_zero]); (try dsimp only at hSw); go_simp; all_goals (with_reducible rfl))
  (try simp only [Act.put, List.getElem_toArray, List.getElem_cons_succ, List.getElem_cons_zero, List.setIfInBounds_toArray, List.set_cons_zero, List.set_cons_succ])
  refine wpAnyT_take (i := 4) (v := ?v6) rfl (by kernel_rfl) (by kernel_rfl) (by kernel_rfl) (by kernel_rfl) (by kernel_rfl) (fun _ _ _ h => h) (Or.inl ⟨by rfl, ?hy6⟩) (by assumption) ?rest6
  case hy6 => (intro w hSw; (try simp only [List.getElem_toArray, List.getElem_cons_succ, List.getElem_cons_zero]); (try dsimp only at hSw); go_simp; all_goals (with_reducible rfl))
  (try simp only [Act.put, List.getElem_toArray, List.getElem_cons_succ, List.getElem_cons_zero, List.setIfInBounds_toArray, List.set_cons_zero, List.set_cons_succ])
  refine wpAnyT_take (i := 5) (v := _) rfl (by kernel_rfl) (by kernel_rfl) (by kernel_rfl) (by kernel_rfl) (by kernel_rfl) (fun _ _ _ h => h) (yieldsIf_load_mid (by rfl) 64 (.tmp 14) rfl S.m 39 (by rfl) [.int .u8 0, .int .u8 0] _ (fun w hw => toArray_range hw (by with_unfolding_all rfl)) Tryz.underlying64 rfl (by with_unfolding_all exact size64)) (by assumption) ?rest7
  (try simp only [Act.put, List.getElem_toArray, List.getElem_cons_succ, List.getElem_cons_zero, List.setIfInBounds_toArray, List.set_cons_zero, List.set_cons_succ])
  refine wpAnyT_take (i := 6) (v := ?v8) rfl (by kernel_rfl) (by kernel_rfl) (by kernel_rfl) (by kernel_rfl) (by kernel_rfl) (fun _ _ _ h => h) (Or.inl ⟨by rfl, ?hy8⟩) (by assumption) ?rest8
  case hy8 => (intro w hSw; (try simp only [List.getElem_toArray, List.getElem_cons_succ, List.getElem_cons_zero]); (try dsimp only at hSw); go_simp; all_goals (with_reducible rfl))
  (try simp only [Act.put, List.getElem_toArray, List.getElem_cons_succ, List.getElem_cons_zero, List.setIfInBounds_toArray, List.set_cons_zero, List.set_cons_succ])
  refine wpAnyT_take (i := 7) (v := ?v9) rfl (by kernel_rfl) (by kernel_rfl) (by kernel_rfl) (by kernel_rfl) (by kernel_rfl) (fun _ _ _ h => h) (Or.inl ⟨by rfl, ?hy9⟩) (by assumption) ?rest9
  case hy9 => (intro w hSw; (try simp only [List.getElem_toArray, List.getElem_cons_succ, List.getElem_cons_zero]); (try dsimp only at hSw); go_simp; all_goals (with_reducible rfl))
  (try simp only [Act.put, List.getElem_toArray, List.getElem_cons_succ, List.getElem_cons_zero, List.setIfInBounds_toArray, List.set_cons_zero, List.set_cons_succ])
  refine wpAnyT_take (i := 8) (v := ?v10) rfl (by kernel_rfl) (by kernel_rfl) (by kernel_rfl) (by kernel_rfl) (by kernel_rfl) (fun _ _ _ h => h) (Or.inl ⟨by rfl, ?hy10⟩) (by assumption) ?rest10
  case hy10 => (intro w hSw; (try simp only [List.getElem_toArray, List.getElem_cons_succ, List.getElem_cons_zero]); (try dsimp only at hSw); go_simp; all_goals (with_reducible rfl))
  (try simp only [Act.put, List.getElem_toArray, List.getElem_cons_succ, List.getElem_cons_zero, List.setIfInBounds_toArray, List.set_cons_zero, List.set_cons_succ])
  refine wpAnyT_take (i := 9) (v := ?v11) rfl (by kernel_rfl) (by kernel_rfl) (by kernel_rfl) (by kernel_rfl) (by kernel_rfl) (fun _ _ _ h => h) (Or.inl ⟨by rfl, ?hy11⟩) (by assumption) ?rest11
  case hy11 => (intro W hW; have c := cellM hW 124 (by omega) _ rfl; (try simp only [List.getElem_toArray, List.getElem_cons_succ, List.getElem_cons_zero]); go_simp; all_goals (with_reducible rfl))
  (try simp only [Act.put, List.getElem_toArray, List.getElem_cons_succ, List.getElem_cons_zero, List.setIfInBounds_toArray, List.set_cons_zero, List.set_cons_succ])
  refine wpAnyT_take (i := 10) (v := ?v12) rfl (by kernel_rfl) (by kernel_rfl) (by kernel_rfl) (by kernel_rfl) (by kernel_rfl) (fun _ _ _ h => h) (Or.inl ⟨by rfl, ?hy12⟩) (by assumption) ?rest12
  case hy12 => (intro w hSw; (try simp only [List.getElem_toArray, List.getElem_cons_succ, List.getElem_cons_zero]); (try dsimp only at hSw); go_simp; all_goals (with_reducible rfl))
  (try simp only [Act.put, List.getElem_toArray, List.getElem_cons_succ, List.getElem_cons_zero, List.setIfInBounds_toArray, List.set_cons_zero, List.set_cons_succ])
  refine wpAnyT_take (i := 11) (v := ?v13) rfl (by kernel_rfl) (by kernel_rfl) (by kernel_rfl) (by kernel_rfl) (by kernel_rfl) (fun _ _ _ h => h) (Or.inl ⟨by rfl, ?hy13⟩) (by assumption) ?rest13
  case hy13 => (intro w hSw; (try simp only [List.getElem_toArray, List.getElem_cons_succ, List.getElem_cons_zero]); (try dsimp only at hSw); go_simp; all_goals (with_reducible rfl))
  (try simp only [Act.put, List.getElem_toArray, List.getElem_cons_succ, List.getElem_cons_zero, List.setIfInBounds_toArray, List.set_cons_zero, List.set_cons_succ])
  refine wpAnyT_take (i := 12) (v := ?v14) rfl (by kernel_rfl) (by kernel_rfl) (by kernel_rfl) (by kernel_rfl) (by kernel_rfl) (fun _ _ _ h => h) (Or.inl ⟨by rfl, ?hy14⟩) (by assumption) ?rest14
  case hy14 => (intro w hSw; (try simp only [List.getElem_toArray, List.getElem_cons_succ, List.getElem_cons_zero]); (try dsimp only at hSw); go_simp; all_goals (with_reducible rfl))
  (try simp only [Act.put, List.getElem_toArray, List.getElem_cons_succ, List.getElem_cons_zero, List.setIfInBounds_toArray, List.set_cons_zero, List.set_cons_succ])
  refine wpAnyT_take (i := 13) (v := ?v15) rfl (by kernel_rfl) (by kernel_rfl) (by kernel_rfl) (by kernel_rfl) (by kernel_rfl) (fun _ _ _ h => h) (Or.inl ⟨by rfl, ?hy15⟩) (by assumption) ?rest15
  case hy15 => (intro w hSw; (try simp only [List.getElem_toArray, List.getElem_cons_succ, List.getElem_cons_zero]); (try dsimp only at hSw); go_simp; all_goals (with_reducible rfl))
  (try simp only [Act.put, List.getElem_toArray, List.getElem_cons_succ, List.getElem_cons_zero, List.setIfInBounds_toArray, List.set_cons_zero, List.set_cons_succ])
  refine wpAnyT_take (i := 14) (v := ?v16) rfl (by kernel_rfl) (by kernel_rfl) (by kernel_rfl) (by kernel_rfl) (by kernel_rfl) (fun _ _ _ h => h) (Or.inl ⟨by rfl, ?hy16⟩) (by assumption) ?rest16
  case hy16 => (intro W hW; have c := cellM hW 121 (by omega) _ rfl; (try simp only [List.getElem_toArray, List.getElem_cons_succ, List.getElem_cons_zero]); go_simp; all_goals (with_reducible rfl))
  (try simp only [Act.put, List.getElem_toArray, List.getElem_cons_succ, List.getElem_cons_zero, List.setIfInBounds_toArray, List.set_cons_zero, List.set_cons_succ])
  refine wpAnyT_one (i := 15) rfl (by kernel_rfl) (fun K hK => ?_)
  (try simp only [List.getElem_toArray, List.getElem_cons_succ, List.getElem_cons_zero])
  go_simp
  refine (plan_none _ _).mono ?_
  rintro e w2 ⟨rfl, rfl⟩
  (try go_wp2_with fail)
  refine hK.out _ _ ?hS17 ?rest17
  case hS17 => (exact H1d.out.blk)
  clear hK K
  (try simp only [Act.put, List.getElem_toArray, List.getElem_cons_succ, List.getElem_cons_zero, List.setIfInBounds_toArray, List.set_cons_zero, List.set_cons_succ])
  refine wpAnyT_one (i := 16) rfl (by kernel_rfl) (fun K hK => ?_)
  (try simp only [List.getElem_toArray, List.getElem_cons_succ, List.getElem_cons_zero])
  go_simp
  refine (press_zero _).mono ?_
  rintro e w3 ⟨rfl, hc, hf, hz, hb⟩
  clear hc hf hz hHeld
  have H3 := hid_ (H1d.out.below hb (Nat.le_refl _))
  have HD3 := hid_ (HDd.out.below hb HDd.out.lt)
  have K3 := hid_ (K1d.out.trans (hb.mono K1d.out.size))
  have hHeld := H3.out.blk
  clear hb
  (try go_wp2_with fail)
  refine hK.out _ _ ?hS18 ?rest18
  case hS18 => (exact hHeld)
  clear hK K
  (try simp only [Act.put, List.getElem_toArray, List.getElem_cons_succ, List.getElem_cons_zero, List.setIfInBounds_toArray, List.set_cons_zero, List.set_cons_succ])
  refine wpAnyT_take (i := 17) (v := ?v19) rfl (by kernel_rfl) (by kernel_rfl) (by kernel_rfl) (by kernel_rfl) (by kernel_rfl) (fun _ _ _ h => h) (Or.inl ⟨by rfl, ?hy19⟩) (by assumption) ?rest19
  case hy19 => (intro w hSw; (try simp only [List.getElem_toArray, List.getElem_cons_succ, List.getElem_cons_zero]); (try dsimp only at hSw); go_simp; all_goals (with_reducible rfl))
  (try simp only [Act.put, List.getElem_toArray, List.getElem_cons_succ, List.getElem_cons_zero, List.setIfInBounds_toArray, List.set_cons_zero, List.set_cons_succ])
  refine wpAnyT_take (i := 18) (v := ?v20) rfl (by kernel_rfl) (by kernel_rfl) (by kernel_rfl) (by kernel_rfl) (by kernel_rfl) (fun _ _ _ h => h) (Or.inl ⟨by rfl, ?hy20⟩) (by assumption) ?rest20
  case hy20 => (intro w hSw; (try simp only [List.getElem_toArray, List.getElem_cons_succ, List.getElem_cons_zero]); (try dsimp only at hSw); go_simp; all_goals (with_reducible rfl))
  (try simp only [Act.put, List.getElem_toArray, List.getElem_cons_succ, List.getElem_cons_zero, List.setIfInBounds_toArray, List.set_cons_zero, List.set_cons_succ])
  refine wpAnyT_take (i := 19) (v := ?v21) rfl (by kernel_rfl) (by kernel_rfl) (by kernel_rfl) (by kernel_rfl) (by kernel_rfl) (fun _ _ _ h => h) (Or.inl ⟨by rfl, ?hy21⟩) (by assumption) ?rest21
  case hy21 => (intro w hSw; (try simp only [List.getElem_toArray, List.getElem_cons_succ, List.getElem_cons_zero]); (try dsimp only at hSw); go_simp; all_goals (with_reducible rfl))
  (try simp only [Act.put, List.getElem_toArray, List.getElem_cons_succ, List.getElem_cons_zero, List.setIfInBounds_toArray, List.set_cons_zero, List.set_cons_succ])
  refine wpAnyT_take (i := 20) (v := ?v22) rfl (by kernel_rfl) (by kernel_rfl) (by kernel_rfl) (by kernel_rfl) (by kernel_rfl) (fun _ _ _ h => h) (Or.inl ⟨by rfl, ?hy22⟩) (by assumption) ?rest22
  case hy22 => (intro w hSw; (try simp only [List.getElem_toArray, List.getElem_cons_succ, List.getElem_cons_zero]); (try dsimp only at hSw); go_simp; all_goals (with_reducible rfl))
  (try simp only [Act.put, List.getElem_toArray, List.getElem_cons_succ, List.getElem_cons_zero, List.setIfInBounds_toArray, List.set_cons_zero, List.set_cons_succ])
  refine wpAnyT_take (i := 21) (v := ?v23) rfl (by kernel_rfl) (by kernel_rfl) (by kernel_rfl) (by kernel_rfl) (by kernel_rfl) (fun _ _ _ h => h) (Or.inl ⟨by rfl, ?hy23⟩) (by assumption) ?rest23
  case hy23 => (intro w hSw; (try simp only [List.getElem_toArray, List.getElem_cons_succ, List.getElem_cons_zero]); (try dsimp only at hSw); go_simp; all_goals (with_reducible rfl))
  (try simp only [Act.put, List.getElem_toArray, List.getElem_cons_succ, List.getElem_cons_zero, List.setIfInBounds_toArray, List.set_cons_zero, List.set_cons_succ])
  refine wpAnyT_take (i := 22) (v := ?v24) rfl (by kernel_rfl) (by kernel_rfl) (by kernel_rfl) (by kernel_rfl) (by kernel_rfl) (fun _ _ _ h => h) (Or.inl ⟨by rfl, ?hy24⟩) (by assumption) ?rest24
  case hy24 => (intro w hSw; (try simp only [List.getElem_toArray, List.getElem_cons_succ, List.getElem_cons_zero]); (try dsimp only at hSw); go_simp; all_goals (with_reducible rfl))
  (try simp only [Act.put, List.getElem_toArray, List.getElem_cons_succ, List.getElem_cons_zero, List.setIfInBounds_toArray, List.set_cons_zero, List.set_cons_succ])
  refine wpAnyT_one (i := 23) rfl (by kernel_rfl) (fun K hK => ?_)
  (try simp only [List.getElem_toArray, List.getElem_cons_succ, List.getElem_cons_zero])
  refine want rfl ?_
  refine wp_storeM 64 (.tmp 31) (.tmp 27) rfl S.m 39 (by with_unfolding_all rfl) 86 _ H3.out.blk [.int .u8 0, .int .u8 0] (by with_unfolding_all rfl) (by with_unfolding_all exact size64) (by intro v hv; simp at hv; rw [hv]; rfl) (by rw [H3.out.size]; simp) (mlist S M cnt acc).toArray (by with_unfolding_all rfl) ?_
  intro w4 HB4 s4
  have H4 := hid_ (H3.out.store s4.out HB4.out H3.out.cnt0 H3.out.cnt1 rfl H3.out.work rfl)
  have HD4 := hid_ (HD3.out.step s4.out nD)
  have K4 : Hid (Step (· = S.m) w w4) := hid_ ((Step.of K3.out (Nat.le_refl _)).trans s4.out)
  clear hHeld
  have hHeld := H4.out.blk
  refine hK.out _ _ ?hS25 ?rest25
  case hS25 => (exact hHeld)
  clear hK K
  (try simp only [Act.put, List.getElem_toArray, List.getElem_cons_succ, List.getElem_cons_zero, List.setIfInBounds_toArray, List.set_cons_zero, List.set_cons_succ])
  refine wpAnyT_one (i := 24) rfl (by kernel_rfl) (fun K hK => ?_)
  (try simp only [List.getElem_toArray, List.getElem_cons_succ, List.getElem_cons_zero])
  go_simp
  refine hK.out _ _ ?hS26 ?rest26
  case hS26 => (exact hHeld)
  clear hK K
  (try simp only [Act.put, List.getElem_toArray, List.getElem_cons_succ, List.getElem_cons_zero, List.setIfInBounds_toArray, List.set_cons_zero, List.set_cons_succ])
  refine wpAnyT_done (by kernel_rfl) ?_ _
  clear H1d HDd K1d H3 HD3 K3 HD1 H1
  go_wp2_with (first
    | (go_at_call 34; refine (ask_no _ _ _).mono ?_; rintro e w5 ⟨rfl, rfl⟩)
    | ((with_reducible refine wpList_storeC (op := ⟨none, .store 49 (.tmp 37) (.const (.slice none 0 0)), _, _, _, _⟩) rfl 49 (.tmp 37) (.const (.slice none 0 0)) rfl S.m 8454 (by with_unfolding_all rfl) _ _ H4.out.blk (.slice none 0 0) (by with_unfolding_all rfl) rfl (by with_unfolding_all exact size49) rfl (by rw [H4.out.size]; decide) (mlist S M cnt (.slice none 0 0)).toArray (by simpa using mlist_setacc S M cnt acc (.slice none 0 0) H4.out.work) ?_); intro w6 HB6 s6; have H6 := hid_ (H4.out.clear s6.out HB6.out); have HD6 := hid_ (HD4.out.step s6.out nD); have K6 := hid_ (K4.out.trans s6.out))
    | ((with_reducible refine wpList_allocA (op := ⟨some 5, _, _, _, _, _⟩) rfl 48 rfl #[.int .i64 0, .int .i64 0, .int .u16 0, .int .i64 0, .int .i64 0, .int .i64 0, .int .i64 0, .int .u16 0, .bool false] zero48 ?_); intro w7 HE7 HW7 hz7; have H7 := hid_ (H6.out.below HW7.out (Nat.le_refl _)); have HD7 := hid_ (HD6.out.below HW7.out HD6.out.lt); have K7 := hid_ (K6.out.trans (Step.of HW7.out (Nat.le_refl _)))))
  have nE : ¬ w6.heap.size = S.m := (H6.out.free (Nat.le_refl _)).m
  have hz06 : w.heap.size < w6.heap.size := HD6.out.lt
  have nDE : ¬ w.heap.size = w6.heap.size := Nat.ne_of_lt hz06
  have HN7 : Hid (w.heap.size ≠ S.m ∧ w.heap.size ≠ S.u ∧ w.heap.size ≠ S.rb ∧ w.heap.size ≠ S.tb ∧ (none : Option Nat) ≠ some w.heap.size) := hid_ ⟨HFw.out.m, HFw.out.u, HFw.out.r, HFw.out.t, by simp⟩
  have HFe := H6.out.free (Nat.le_refl w6.heap.size)
  have HN7e : Hid (w6.heap.size ≠ S.m ∧ w6.heap.size ≠ S.u ∧ w6.heap.size ≠ S.rb ∧ w6.heap.size ≠ S.tb ∧ (none : Option Nat) ≠ some w6.heap.size) := hid_ ⟨HFe.m, HFe.u, HFe.r, HFe.t, by simp⟩
  have H7d := hid_ (H7.out.below (Below.refl w7.heap.size w7).drew (Nat.le_refl _))
  have H7m : Hid (Mach w7.drew S { M with n := 0 } none) := hid_ ⟨_, _, _, H7d.out⟩
  have HD7d := hid_ HD7.out.drew
  have HE7d := hid_ HE7.out.drew
  have K7d := hid_ K7.out.drew
  clear H4 HD4 K4 H6 HD6 K6 HFe H7 HD7 HE7 K7 HB4 HB6 s4 s6 hHeld
  refine wp_region_tail (S := fun _ => True) (tail := fun _ => true) (by kernel_rfl) ?hS27 (fun hTrue => ?rest27)
  case hS27 => exact trivial
  refine wpAnyT_takeP (i := 0) (v := ?v30) rfl (by kernel_rfl) (by kernel_rfl) (by kernel_rfl) rfl (fun _ _ _ h => h) (Or.inl ⟨by rfl, ?hy30⟩) ?rest30
  case hy30 => (intro w hSw; (try simp only [List.getElem_toArray, List.getElem_cons_succ, List.getElem_cons_zero]); go_simp; all_goals (with_reducible rfl))
  (try simp only [Act.put, List.getElem_toArray, List.getElem_cons_succ, List.getElem_cons_zero, List.setIfInBounds_toArray, List.set_cons_zero, List.set_cons_succ])
  refine wpAnyT_switch (S2 := (fun W => Blk W S.m 86 (mlist S { M with n := 0 } cnt (.slice none 0 0)).toArray)) (tail2 := fun j => decide (13 ≤ j)) _ _ _ _ (fun _ _ => rfl) ?_
  have hHeld : (fun W => Blk W S.m 86 (mlist S { M with n := 0 } cnt (.slice none 0 0)).toArray) w7.drew := H7d.out.blk
  refine wpAnyT_take (i := 1) (v := ?v31) rfl (by kernel_rfl) (by kernel_rfl) (by kernel_rfl) (by kernel_rfl) (by kernel_rfl) (fun _ _ _ h => h) (Or.inl ⟨by rfl, ?hy31⟩) (by assumption) ?rest31
  case hy31 => (intro w hSw; (try simp only [List.getElem_toArray, List.getElem_cons_succ, List.getElem_cons_zero]); (try dsimp only at hSw); go_simp; all_goals (with_reducible rfl))
  (try simp only [Act.put, List.getElem_toArray, List.getElem_cons_succ, List.getElem_cons_zero, List.setIfInBounds_toArray, List.set_cons_zero, List.set_cons_succ])
  refine wpAnyT_take (i := 2) (v := ?v32) rfl (by kernel_rfl) (by kernel_rfl) (by kernel_rfl) (by kernel_rfl) (by kernel_rfl) (fun _ _ _ h => h) (Or.inl ⟨by rfl, ?hy32⟩) (by assumption) ?rest32
  case hy32 => (intro w hSw; (try simp only [List.getElem_toArray, List.getElem_cons_succ, List.getElem_cons_zero]); (try dsimp only at hSw); go_simp; all_goals (with_reducible rfl))
  (try simp only [Act.put, List.getElem_toArray, List.getElem_cons_succ, List.getElem_cons_zero, List.setIfInBounds_toArray, List.set_cons_zero, List.set_cons_succ])
  refine wpAnyT_take (i := 3) (v := ?v33) rfl (by kernel_rfl) (by kernel_rfl) (by kernel_rfl) (by kernel_rfl) (by kernel_rfl) (fun _ _ _ h => h) (Or.inl ⟨by rfl, ?hy33⟩) (by assumption) ?rest33
  case hy33 => (intro w hSw; (try simp only [List.getElem_toArray, List.getElem_cons_succ, List.getElem_cons_zero]); (try dsimp only at hSw); go_simp; all_goals (with_reducible rfl))
  (try simp only [Act.put, List.getElem_toArray, List.getElem_cons_succ, List.getElem_cons_zero, List.setIfInBounds_toArray, List.set_cons_zero, List.set_cons_succ])
  refine wpAnyT_take (i := 4) (v := ?v34) rfl (by kernel_rfl) (by kernel_rfl) (by kernel_rfl) (by kernel_rfl) (by kernel_rfl) (fun _ _ _ h => h) (Or.inl ⟨by rfl, ?hy34⟩) (by assumption) ?rest34
  case hy34 => (intro W hW; have c := cellM hW 132 (by omega) _ rfl; (try simp only [List.getElem_toArray, List.getElem_cons_succ, List.getElem_cons_zero]); go_simp; all_goals (with_reducible rfl))
  (try simp only [Act.put, List.getElem_toArray, List.getElem_cons_succ, List.getElem_cons_zero, List.setIfInBounds_toArray, List.set_cons_zero, List.set_cons_succ])
  refine wpAnyT_take (i := 5) (v := ?v35) rfl (by kernel_rfl) (by kernel_rfl) (by kernel_rfl) (by kernel_rfl) (by kernel_rfl) (fun _ _ _ h => h) (Or.inl ⟨by rfl, ?hy35⟩) (by assumption) ?rest35
  case hy35 => (intro w hSw; (try simp only [List.getElem_toArray, List.getElem_cons_succ, List.getElem_cons_zero]); (try dsimp only at hSw); go_simp; all_goals (with_reducible rfl))
  (try simp only [Act.put, List.getElem_toArray, List.getElem_cons_succ, List.getElem_cons_zero, List.setIfInBounds_toArray, List.set_cons_zero, List.set_cons_succ])
  refine wpAnyT_take (i := 6) (v := ?v36) rfl (by kernel_rfl) (by kernel_rfl) (by kernel_rfl) (by kernel_rfl) (by kernel_rfl) (fun _ _ _ h => h) (Or.inl ⟨by rfl, ?hy36⟩) (by assumption) ?rest36
  case hy36 => (intro w hSw; (try simp only [List.getElem_toArray, List.getElem_cons_succ, List.getElem_cons_zero]); (try dsimp only at hSw); go_simp; all_goals (with_reducible rfl))
  (try simp only [Act.put, List.getElem_toArray, List.getElem_cons_succ, List.getElem_cons_zero, List.setIfInBounds_toArray, List.set_cons_zero, List.set_cons_succ])
  refine wpAnyT_take (i := 7) (v := ?v37) rfl (by kernel_rfl) (by kernel_rfl) (by kernel_rfl) (by kernel_rfl) (by kernel_rfl) (fun _ _ _ h => h) (Or.inl ⟨by rfl, ?hy37⟩) (by assumption) ?rest37
  case hy37 => (intro w hSw; (try simp only [List.getElem_toArray, List.getElem_cons_succ, List.getElem_cons_zero]); (try dsimp only at hSw); go_simp; all_goals (with_reducible rfl))
  (try simp only [Act.put, List.getElem_toArray, List.getElem_cons_succ, List.getElem_cons_zero, List.setIfInBounds_toArray, List.set_cons_zero, List.set_cons_succ])
  refine wpAnyT_take (i := 8) (v := ?v38) rfl (by kernel_rfl) (by kernel_rfl) (by kernel_rfl) (by kernel_rfl) (by kernel_rfl) (fun _ _ _ h => h) (Or.inl ⟨by rfl, ?hy38⟩) (by assumption) ?rest38
  case hy38 => (intro w hSw; (try simp only [List.getElem_toArray, List.getElem_cons_succ, List.getElem_cons_zero]); (try dsimp only at hSw); go_simp; all_goals (with_reducible rfl))
  (try simp only [Act.put, List.getElem_toArray, List.getElem_cons_succ, List.getElem_cons_zero, List.setIfInBounds_toArray, List.set_cons_zero, List.set_cons_succ])
  refine wpAnyT_take (i := 9) (v := _) rfl (by kernel_rfl) (by kernel_rfl) (by kernel_rfl) (by kernel_rfl) (by kernel_rfl) (fun _ _ _ h => h) (yieldsIf_load_mid (by rfl) 33 (.tmp 47) rfl S.m 0 (by rfl) (stL M.R) _ (fun w hw => toArray_range hw (by with_unfolding_all rfl)) Tryz.underlying33 rfl (by with_unfolding_all exact size33)) (by assumption) ?rest39
  (try simp only [Act.put, List.getElem_toArray, List.getElem_cons_succ, List.getElem_cons_zero, List.setIfInBounds_toArray, List.set_cons_zero, List.set_cons_succ])
  refine wpAnyT_take (i := 10) (v := ?v40) rfl (by kernel_rfl) (by kernel_rfl) (by kernel_rfl) (by kernel_rfl) (by kernel_rfl) (fun _ _ _ h => h) (Or.inl ⟨by rfl, ?hy40⟩) (by assumption) ?rest40
  case hy40 => (intro w hSw; (try simp only [List.getElem_toArray, List.getElem_cons_succ, List.getElem_cons_zero]); (try dsimp only at hSw); go_simp; all_goals (with_reducible rfl))
  (try simp only [Act.put, List.getElem_toArray, List.getElem_cons_succ, List.getElem_cons_zero, List.setIfInBounds_toArray, List.set_cons_zero, List.set_cons_succ])
  refine wpAnyT_take (i := 11) (v := ?v41) rfl (by kernel_rfl) (by kernel_rfl) (by kernel_rfl) (by kernel_rfl) (by kernel_rfl) (fun _ _ _ h => h) (Or.inl ⟨by rfl, ?hy41⟩) (by assumption) ?rest41
  case hy41 => (intro w hSw; (try simp only [List.getElem_toArray, List.getElem_cons_succ, List.getElem_cons_zero]); (try dsimp only at hSw); go_simp; all_goals (with_reducible rfl))
  (try simp only [Act.put, List.getElem_toArray, List.getElem_cons_succ, List.getElem_cons_zero, List.setIfInBounds_toArray, List.set_cons_zero, List.set_cons_succ])
  refine wpAnyT_take (i := 12) (v := ?v42) rfl (by kernel_rfl) (by kernel_rfl) (by kernel_rfl) (by kernel_rfl) (by kernel_rfl) (fun _ _ _ h => h) (Or.inl ⟨by rfl, ?hy42⟩) (by assumption) ?rest42
  case hy42 => (intro w hSw; (try simp only [List.getElem_toArray, List.getElem_cons_succ, List.getElem_cons_zero]); (try dsimp only at hSw); go_simp; all_goals (with_reducible rfl))
  (try simp only [Act.put, List.getElem_toArray, List.getElem_cons_succ, List.getElem_cons_zero, List.setIfInBounds_toArray, List.set_cons_zero, List.set_cons_succ])
  refine wpAnyT_last (i := 13) rfl (by kernel_rfl) rfl (fun K hK => ?_)
  (try simp only [List.getElem_toArray, List.getElem_cons_succ, List.getElem_cons_zero])
  go_simp
  refine (step_any hfill S { M with n := 0 } none M.R i kd x y sz a hsz hi HPC.out hza ha hcb HO.out (by simp) hc0 hc1 M2 R2 t HORD.out _ H7m.out).mono ?_
  rintro e w8 ⟨rfl, A8, hM8, hC⟩
  have HD8 := hid_ (hC.blk HD7d.out (H7d.out.free' HN7.out) id)
  have HE8 := hid_ (hC.blk HE7d.out (H7d.out.free' HN7e.out) id)
  have F8 := hid_ (hC.free (H7d.out.free' HN7.out) HD7d.out.lt)
  have F8e := hid_ (hC.free (H7d.out.free' HN7e.out) HE7d.out.lt)
  obtain ⟨cnt8, acc8, xs8, hP8⟩ := hM8
  have H8 := hid_ hP8
  have C8 := hid_ hC
  clear hP8 hC hHeld
  (try go_wp2_with fail)
  refine hK.out _ _ ?_
  clear hK K
  (try simp only [Act.put, List.getElem_toArray, List.getElem_cons_succ, List.getElem_cons_zero, List.setIfInBounds_toArray, List.set_cons_zero, List.set_cons_succ])
  refine wpAnyT_switch (S2 := fun _ => True) (tail2 := fun _ => true) _ _ _ _ (switch_all (by kernel_rfl)) ?_
  refine wpAnyT_takeP (i := 14) (v := ?v43) rfl (by kernel_rfl) (by kernel_rfl) (by kernel_rfl) rfl (fun _ _ _ h => h) (Or.inl ⟨by rfl, ?hy43⟩) ?rest43
  case hy43 => (intro w hSw; (try simp only [List.getElem_toArray, List.getElem_cons_succ, List.getElem_cons_zero]); go_simp; all_goals (with_reducible rfl))
  (try simp only [Act.put, List.getElem_toArray, List.getElem_cons_succ, List.getElem_cons_zero, List.setIfInBounds_toArray, List.set_cons_zero, List.set_cons_succ])
  refine wpAnyT_takeP (i := 15) (v := ?v44) rfl (by kernel_rfl) (by kernel_rfl) (by kernel_rfl) rfl (fun _ _ _ h => h) (Or.inl ⟨by rfl, ?hy44⟩) ?rest44
  case hy44 => (intro w hSw; (try simp only [List.getElem_toArray, List.getElem_cons_succ, List.getElem_cons_zero]); go_simp; all_goals (with_reducible rfl))
  (try simp only [Act.put, List.getElem_toArray, List.getElem_cons_succ, List.getElem_cons_zero, List.setIfInBounds_toArray, List.set_cons_zero, List.set_cons_succ])
  refine wpAnyT_takeP (i := 16) (v := ?v45) rfl (by kernel_rfl) (by kernel_rfl) (by kernel_rfl) rfl (fun _ _ _ h => h) (Or.inl ⟨by rfl, ?hy45⟩) ?rest45
  case hy45 => (intro w hSw; (try simp only [List.getElem_toArray, List.getElem_cons_succ, List.getElem_cons_zero]); go_simp; all_goals (with_reducible rfl))
  (try simp only [Act.put, List.getElem_toArray, List.getElem_cons_succ, List.getElem_cons_zero, List.setIfInBounds_toArray, List.set_cons_zero, List.set_cons_succ])
  refine wpAnyT_takeP (i := 17) (v := ?v46) rfl (by kernel_rfl) (by kernel_rfl) (by kernel_rfl) rfl (fun _ _ _ h => h) (Or.inl ⟨by rfl, ?hy46⟩) ?rest46
  case hy46 => (intro w hSw; (try simp only [List.getElem_toArray, List.getElem_cons_succ, List.getElem_cons_zero]); go_simp; all_goals (with_reducible rfl))
  (try simp only [Act.put, List.getElem_toArray, List.getElem_cons_succ, List.getElem_cons_zero, List.setIfInBounds_toArray, List.set_cons_zero, List.set_cons_succ])
  refine wpAnyT_takeP (i := 18) (v := ?v47) rfl (by kernel_rfl) (by kernel_rfl) (by kernel_rfl) rfl (fun _ _ _ h => h) (Or.inl ⟨by rfl, ?hy47⟩) ?rest47
  case hy47 => (intro w hSw; (try simp only [List.getElem_toArray, List.getElem_cons_succ, List.getElem_cons_zero]); go_simp; all_goals (with_reducible rfl))
  (try simp only [Act.put, List.getElem_toArray, List.getElem_cons_succ, List.getElem_cons_zero, List.setIfInBounds_toArray, List.set_cons_zero, List.set_cons_succ])
  refine wpAnyT_takeP (i := 19) (v := ?v48) rfl (by kernel_rfl) (by kernel_rfl) (by kernel_rfl) rfl (fun _ _ _ h => h) (Or.inl ⟨by rfl, ?hy48⟩) ?rest48
  case hy48 => (intro w hSw; (try simp only [List.getElem_toArray, List.getElem_cons_succ, List.getElem_cons_zero]); go_simp; all_goals (with_reducible rfl))
  (try simp only [Act.put, List.getElem_toArray, List.getElem_cons_succ, List.getElem_cons_zero, List.setIfInBounds_toArray, List.set_cons_zero, List.set_cons_succ])
  refine wpAnyT_last (i := 20) rfl (by kernel_rfl) rfl (fun K hK => ?_)
  (try simp only [List.getElem_toArray, List.getElem_cons_succ, List.getElem_cons_zero])
  refine want rfl ?_
  refine wp_storeM 33 (.tmp 57) (.tmp 53) rfl S.m 0 (by with_unfolding_all rfl) 86 _ H8.out.blk (stL R2) (by with_unfolding_all rfl) (by with_unfolding_all exact size33) (stL_one _) (by rw [H8.out.size]; simp [stL]) (mlist S { M2 with R := R2 } cnt8 acc8).toArray (by with_unfolding_all rfl) ?_
  intro w9 HB9 s9
  have H9 := hid_ (H8.out.store (M' := { M2 with R := R2 }) s9.out HB9.out H8.out.cnt0 H8.out.cnt1 rfl H8.out.work rfl)
  have HD9 := hid_ (HD8.out.step s9.out nD)
  have HE9 := hid_ (HE8.out.step s9.out nE)
  refine hK.out _ _ ?_
  clear hK K
  (try simp only [Act.put, List.getElem_toArray, List.getElem_cons_succ, List.getElem_cons_zero, List.setIfInBounds_toArray, List.set_cons_zero, List.set_cons_succ])
  refine wpAnyT_last (i := 21) rfl (by kernel_rfl) rfl (fun K hK => ?_)
  (try simp only [List.getElem_toArray, List.getElem_cons_succ, List.getElem_cons_zero])
  refine want rfl ?_
  refine wp_storeM 48 (.tmp 5) (.tmp 54) rfl w6.heap.size 0 (by with_unfolding_all rfl) 48 _ HE9.out (didL 1 (i : Int) (⟨kd, x, y, sz, nOf sz (S.zs.getD (i + 1) 0) (S.zs.getD (i + 2) 0)⟩ : OpV) t) (by with_unfolding_all rfl) (by with_unfolding_all exact size48) (didL_one _ _ _ _) (by with_unfolding_all exact Nat.le_refl 9) (didL 1 (i : Int) (⟨kd, x, y, sz, nOf sz (S.zs.getD (i + 1) 0) (S.zs.getD (i + 2) 0)⟩ : OpV) t).toArray (by with_unfolding_all rfl) ?_
  intro w10 HE10 s10
  have H10 := hid_ (H9.out.far s10.out F8e.out)
  have HD10 := hid_ (HD9.out.step s10.out nDE)
  refine hK.out _ _ ?_
  clear hK K
  (try simp only [Act.put, List.getElem_toArray, List.getElem_cons_succ, List.getElem_cons_zero, List.setIfInBounds_toArray, List.set_cons_zero, List.set_cons_succ])
  refine wpAnyT_done (by kernel_rfl) ?_ _
  have c121 := cellM H10.out.blk 121 (by omega) _ rfl
  go_wp2_with (first
    | ((with_reducible refine wpList_storeMach1 (op := ⟨none, .store 35 (.tmp 66) (.tmp 63), _, _, _, _⟩) rfl 35 (.tmp 66) (.tmp 63) rfl 121 (by with_unfolding_all rfl) H10.out (.int .u64 (M2.steps + 1)) (by with_unfolding_all rfl) rfl (by with_unfolding_all exact size35) rfl (by decide) { M2 with R := R2, steps := M2.steps + 1 } cnt8 (by with_unfolding_all rfl) H10.out.cnt0 H10.out.cnt1 rfl H10.out.work rfl ?_); intro w11 H11 s11; have HD11 := hid_ (HD10.out.step s11.out nD); have HE11 := hid_ (HE10.out.step s11.out nE); clear c121))
  have Hd1 := hid_ (H11.out.below (Below.refl w11.heap.size w11).drew (Nat.le_refl _))
  have HDd1 := hid_ HD11.out.drew
  have HEd1 := hid_ HE11.out.drew
  refine wp_region_tail (S := (fun W => Blk W w6.heap.size 48 (didL 1 (i : Int) (⟨kd, x, y, sz, nOf sz (S.zs.getD (i + 1) 0) (S.zs.getD (i + 2) 0)⟩ : OpV) t).toArray ∧ Blk W S.m 86 (mlist S { M2 with R := R2, steps := M2.steps + 1 } cnt8 acc8).toArray)) (tail := (fun _ => false)) (by kernel_rfl) ?hS49 (fun hHeld => ?rest49)
  case hS49 => (exact ⟨HEd1.out, Hd1.out.blk⟩)
  refine wpAnyT_take (i := 0) (v := _) rfl (by kernel_rfl) (by kernel_rfl) (by kernel_rfl) (by kernel_rfl) (by kernel_rfl) (fun _ _ _ h => h) (yieldsIf_load_mid (by rfl) 48 (.tmp 5) rfl w6.heap.size 0 (by rfl) (didL 1 (i : Int) (⟨kd, x, y, sz, nOf sz (S.zs.getD (i + 1) 0) (S.zs.getD (i + 2) 0)⟩ : OpV) t) _ (fun w hw => toArray_range hw.1 (by with_unfolding_all rfl)) Tryz.underlying48 rfl (by with_unfolding_all exact size48)) (by assumption) ?rest50
  (try simp only [Act.put, List.getElem_toArray, List.getElem_cons_succ, List.getElem_cons_zero, List.setIfInBounds_toArray, List.set_cons_zero, List.set_cons_succ])
  refine wpAnyT_take (i := 1) (v := ?v51) rfl (by kernel_rfl) (by kernel_rfl) (by kernel_rfl) (by kernel_rfl) (by kernel_rfl) (fun _ _ _ h => h) (Or.inl ⟨by rfl, ?hy51⟩) (by assumption) ?rest51
  case hy51 => (intro w hSw; (try simp only [List.getElem_toArray, List.getElem_cons_succ, List.getElem_cons_zero]); (try dsimp only at hSw); go_simp; all_goals (with_reducible rfl))
  (try simp only [Act.put, List.getElem_toArray, List.getElem_cons_succ, List.getElem_cons_zero, List.setIfInBounds_toArray, List.set_cons_zero, List.set_cons_succ])
  refine wpAnyT_take (i := 2) (v := ?v52) rfl (by kernel_rfl) (by kernel_rfl) (by kernel_rfl) (by kernel_rfl) (by kernel_rfl) (fun _ _ _ h => h) (Or.inl ⟨by rfl, ?hy52⟩) (by assumption) ?rest52
  case hy52 => (intro w hSw; (try simp only [List.getElem_toArray, List.getElem_cons_succ, List.getElem_cons_zero]); (try dsimp only at hSw); go_simp; all_goals (with_reducible rfl))
  (try simp only [Act.put, List.getElem_toArray, List.getElem_cons_succ, List.getElem_cons_zero, List.setIfInBounds_toArray, List.set_cons_zero, List.set_cons_succ])
  refine wpAnyT_take (i := 3) (v := ?v53) rfl (by kernel_rfl) (by kernel_rfl) (by kernel_rfl) (by kernel_rfl) (by kernel_rfl) (fun _ _ _ h => h) (Or.inl ⟨by rfl, ?hy53⟩) (by assumption) ?rest53
  case hy53 => (intro w hSw; (try simp only [List.getElem_toArray, List.getElem_cons_succ, List.getElem_cons_zero]); (try dsimp only at hSw); go_simp; all_goals (with_reducible rfl))
  (try simp only [Act.put, List.getElem_toArray, List.getElem_cons_succ, List.getElem_cons_zero, List.setIfInBounds_toArray, List.set_cons_zero, List.set_cons_succ])
  refine wpAnyT_take (i := 4) (v := ?v54) rfl (by kernel_rfl) (by kernel_rfl) (by kernel_rfl) (by kernel_rfl) (by kernel_rfl) (fun _ _ _ h => h) (Or.inl ⟨by rfl, ?hy54⟩) (by assumption) ?rest54
  case hy54 => (intro W hW; have c := (hW.2.cell 8454).trans (hd_acc S _ cnt8 acc8 H11.out.work); (try simp only [List.getElem_toArray, List.getElem_cons_succ, List.getElem_cons_zero]); go_simp; all_goals (with_reducible rfl))
  (try simp only [Act.put, List.getElem_toArray, List.getElem_cons_succ, List.getElem_cons_zero, List.setIfInBounds_toArray, List.set_cons_zero, List.set_cons_succ])
  refine wpAnyT_one (i := 5) rfl (by kernel_rfl) (fun K hK => ?_)
  (try simp only [List.getElem_toArray, List.getElem_cons_succ, List.getElem_cons_zero])
  refine want rfl ?_
  refine wp_storeM 48 (.tmp 2) (.tmp 67) rfl w.heap.size 0 (by with_unfolding_all rfl) 48 _ HDd1.out (didL 1 (i : Int) (⟨kd, x, y, sz, nOf sz (S.zs.getD (i + 1) 0) (S.zs.getD (i + 2) 0)⟩ : OpV) t) (by with_unfolding_all rfl) (by with_unfolding_all exact size48) (didL_one _ _ _ _) (by with_unfolding_all exact Nat.le_refl 9) (didL 1 (i : Int) (⟨kd, x, y, sz, nOf sz (S.zs.getD (i + 1) 0) (S.zs.getD (i + 2) 0)⟩ : OpV) t).toArray (by with_unfolding_all rfl) ?_
  intro w12 HD12 s12
  have H12 := hid_ (Hd1.out.far s12.out F8.out)
  have HE12 := hid_ (HEd1.out.step s12.out (fun e => nDE e.symm))
  clear hHeld
  have hHeld := And.intro HE12.out H12.out.blk
  refine hK.out _ _ ?hS55 ?rest55
  case hS55 => (exact hHeld)
  clear hK K
  (try simp only [Act.put, List.getElem_toArray, List.getElem_cons_succ, List.getElem_cons_zero, List.setIfInBounds_toArray, List.set_cons_zero, List.set_cons_succ])
  refine wpAnyT_one (i := 6) rfl (by kernel_rfl) (fun K hK => ?_)
  (try simp only [List.getElem_toArray, List.getElem_cons_succ, List.getElem_cons_zero])
  go_simp
  refine hK.out _ _ ?hS56 ?rest56
  case hS56 => (exact hHeld)
  clear hK K
  (try simp only [Act.put, List.getElem_toArray, List.getElem_cons_succ, List.getElem_cons_zero, List.setIfInBounds_toArray, List.set_cons_zero, List.set_cons_succ])
  refine wpAnyT_done (by kernel_rfl) ?_ _
  go_wp2_with fail
  have hA8 : ∀ k, A8 = some k → B ≤ k := by
    intro k hk
    rcases C8.out.new with hn | ⟨j, hj, hlt⟩
    · rw [hk] at hn; cases hn
    · rw [hk] at hj
      obtain rfl := Option.some.inj hj
      have := K7d.out.size
      have := HI.out.le
      omega
  have hX : ∀ k, (k = S.m ∨ k = S.tb ∨ w.heap.size ≤ k) → B ≤ k := by
    have h1 := HI.out.le
    have h2 := HI.out.m
    have h3 := HI.out.t
    rintro k (rfl | rfl | h) <;> omega
  have k8 : Step (fun k => k = S.m ∨ k = S.tb ∨ w.heap.size ≤ k) w w8 := (K7d.out.mono (fun k h => .inl h)).trans' C8.out.step (by
    rintro k hk (h | h | h | h)
    · exact .inl h
    · exact .inr (.inl h)
    · cases h
    · exact h.elim)
  have k12 : Step (fun k => k = S.m ∨ k = S.tb ∨ w.heap.size ≤ k) w w12 := ((((k8.trans' s9.out (fun k _ e => .inl e)).trans' s10.out (fun k _ e => .inr (.inr (by omega)))).trans' s11.out (fun k _ e => .inl e)).drew).trans' s12.out (fun k _ e => .inr (.inr (by omega)))
  have kb := k12.below HI.out.le hX
  have hbz := kb.size
  refine bodyPost_ret (v := .tuple #[.agg (didL 1 (i : Int) (⟨kd, x, y, sz, nOf sz (S.zs.getD (i + 1) 0) (S.zs.getD (i + 2) 0)⟩ : OpV) t).toArray, acc8]) (results_cell_tmp Tryz.results17 rfl rfl (load_row HD12.out 48 _ Tryz.underlying48 rfl (by with_unfolding_all exact size48))) rfl ⟨A8, cnt8, acc8, xs8, rfl, H12.out, ⟨Nat.le_trans HI.out.le k12.size, HI.out.m, HI.out.t, hA8⟩, kb⟩
end Go.Proofs.YtglklbcohbeacaaGreat
