/- Contract of a table's filling. -/
import Derived.Test.YtglklbcohbeacaaGreatFill
import Derived.IntWalk
namespace Go.Proofs.YtglklbcohbeacaaGreat
open Go.RowKit
set_option linter.unusedSimpArgs false
set_option linter.unusedVariables false
theorem planOk : ∀ p ∈ plansL, p.many ≤ 8 ∧ p.by_ ≤ 16 ∧ p.at_ < 256 ∧ (∀ i < p.many, p.at_ + p.by_ * i < 256) ∧ (p.x = [] ∨ p.x.length = p.many) := by decide +kernel
def P0 : List OpV := ((List.range 256).map first).set 118 ⟨3, 0, 0, 1, 0⟩
def PJ (j : Nat) : List OpV := (plansL.take j).foldl layP P0
theorem PJ_succ (j : Nat) (p : Pl) (h : plansL[j]? = some p) : PJ (j + 1) = layP (PJ j) p := by
  have hj : j < plansL.length := (List.getElem?_eq_some_iff.1 h).1
  unfold PJ
  rw [List.take_succ_eq_append_getElem hj, List.foldl_append, (List.getElem?_eq_some_iff.1 h).2]
  rfl
theorem lay1_length (p : Pl) (l : List OpV) : ∀ k, (lay1 p l k).length = l.length
  | 0 => rfl
  | k + 1 => by rw [lay1, List.length_set, lay1_length p l k]
theorem rowP_one {w : World} {q : Pl × Value} (h : RowOk w q) : ∀ v ∈ rowP q, v.oneCell' = true := by
  intro v hv
  have h2 : q.2.oneCell' = true := by rcases h with ⟨_, h⟩ | ⟨_, b, h, _⟩ <;> rw [h] <;> rfl
  simp [rowP] at hv
  rcases hv with rfl | rfl | rfl | rfl | rfl | rfl
  all_goals first | rfl | exact h2
theorem RowOk.step {g : Nat} {d s : Int} {P B : List OpV} {w w' : World} {q : Pl × Value} (h : RowOk w q) (hT : TabIs w g d s P B) (hs : Step (· = g) w w') : RowOk w' q := by
  rcases h with h | ⟨h1, b, h2, h3⟩
  · exact .inl h
  · refine .inr ⟨h1, b, h2, h3.step hs ?_⟩
    rintro rfl
    have h4 := hT.1
    unfold Blk at h4 h3
    have := congrArg (fun o => match o with | some (Obj.cells _ t _) => t | _ => 0) (h3.symm.trans h4)
    simp at this
theorem TabIs.ne {g k : Nat} {d s : Int} {P B : List OpV} {w : World} {t : TypeId} {cs : Array Value} (h : TabIs w g d s P B) (h2 : Blk w k t cs) (ht : t ≠ 139) : k ≠ g := by
  rintro rfl
  have h1 := h.1
  unfold Blk at h1 h2
  have := congrArg (fun o => match o with | some (Obj.cells _ t _) => t | _ => 0) (h2.symm.trans h1)
  exact ht (by simpa using this)
theorem RowOk.below {N : Nat} {w w' : World} {q : Pl × Value} (h : RowOk w q) (hb : Below N w w') (hN : w.heap.size ≤ N) : RowOk w' q := by
  rcases h with h | ⟨h1, b, h2, h3⟩
  · exact .inl h
  · exact .inr ⟨h1, b, h2, h3.below hb (Nat.lt_of_lt_of_le h3.lt hN)⟩
theorem size187 : (Tryz.prog.info? 187).map (·.size) = some 6 := by kernel_rfl
theorem size3 : (Tryz.prog.info? 3).map (·.size) = some 1 := by kernel_rfl
theorem zero187 (W : World) : (zeroValue 187).run Tryz.prog W = .ok (.agg #[.int .i64 0, .int .i64 0, .int .i64 0, .int .i64 0, .int .i64 0, .slice none 0 0]) W := by kernel_rfl
theorem zero46 (W : World) : (zeroValue 46).run Tryz.prog W = .ok (.agg #[.int .i64 0, .int .i64 0, .int .i64 0, .int .i64 0, .int .u16 0]) W := by kernel_rfl
theorem zip_at (vs : List Value) (hv : vs.length = 41) (j : Nat) (hj : j < 41) : ∃ p v, plansL[j]? = some p ∧ (plansL.zip vs)[j]? = some (p, v) := by
  have h1 : j < plansL.length := hj
  have h2 : j < vs.length := by omega
  exact ⟨plansL[j], vs[j], by simp [h1], by rw [List.getElem?_eq_getElem (by simp; omega)]; simp⟩
set_option maxRecDepth 100000 in
set_option maxHeartbeats 8000000 in
theorem fill_any (g : Nat) (d s : Int) (w : World) (h : TabIs w g d s (List.replicate 256 zo) (List.replicate 256 zo)) :
    Calls Tryz.prog 71 #[.pointer (some ⟨g, 0, none⟩)] w (fun e w' => e = .returned (.tuple #[]) ∧ TabIs w' g d s plainL behindL ∧ Step (· = g) w w') := by
  have h := hid_ h
  obtain ⟨i3, hi3, hz3, hs3, _⟩ := info_parts info3
  go_enter Tryz.func71, Tryz.ntmps71
  go_wp2_with fail
  go_loopw [10] (fun i wr => ∃ k : Nat, k ≤ 256 ∧ i = .int .i64 k ∧ Hid (TabIs wr g d s (upF first k) (upF behind k)) ∧ Hid (Step (· = g) w wr)) (fun i _ => 256 - (intOf i).toNat)
  case atStart => exact ⟨0, by omega, rfl, by rw [upF_zero, upF_zero]; exact h, Step.refl _ _⟩
  case round =>
    obtain ⟨k, hk, rfl, H0, K0⟩ := hrel
    by_cases hlt : k < 256
    · have i0 : (0 : Int) ≤ (k : Int) := by omega
      have i1 : (k : Int) < 256 := by omega
      obtain ⟨e1, e2⟩ := and7s k hlt
      obtain hq | hq | hq | hq : k / 64 = 0 ∨ k / 64 = 1 ∨ k / 64 = 2 ∨ k / 64 = 3 := by omega
      · have e64 : (k : Int) / 64 = 0 := by omega
        have hb : behind k = (⟨17, (k / 8 % 8 : Nat), (k % 8 : Nat), 2, 0⟩ : OpV) := by unfold behind; rw [hq]; rfl
        have hfo : first k = ⟨4, 0, 0, 1, 0⟩ := by unfold first; rw [hq]; rfl
        have HB := hid_ hb
        have HO := hid_ hfo
        clear hb hfo
        go_wp2_with (first
          | ((with_reducible refine wpList_storePl (op := ⟨none, .store 46 (.tmp 18) (.tmp 15), _, _, _, _⟩) rfl (.tmp 18) (.tmp 15) rfl _ k (by omega : 3 + k * 5 = 3 + 5 * k) hlt (by with_unfolding_all rfl) H0.out ⟨4, 0, 0, 1, 0⟩ (by with_unfolding_all rfl) ?_); intro w1 H1 s1; have K1 := hid_ (K0.out.trans s1.out); clear H0 K0 s1))
        have H1d : Hid (TabIs w1.drew g d s ((upF first k).set k ⟨4, 0, 0, 1, 0⟩) (upF behind k)) := ⟨H1.out.1.drew, H1.out.2⟩
        have K1d : Hid (Step (· = g) w w1.drew) := K1.out.drew
        refine wp_region_tail (S := (fun W => TabIs W g d s ((upF first k).set k ⟨4, 0, 0, 1, 0⟩) (upF behind k))) (tail := (fun j => decide (13 ≤ j))) (by kernel_rfl) ?hS27 (fun hHeld => ?rest27)
        case hS27 => (exact H1d.out)
        refine wpAnyT_take (i := 0) (v := ?v28) rfl (by kernel_rfl) (by kernel_rfl) (by kernel_rfl) (by kernel_rfl) (by kernel_rfl) (fun _ _ _ h => h) (Or.inl ⟨by rfl, ?hy28⟩) (by assumption) ?rest28
        case hy28 => (intro w hSw; (try simp only [List.getElem_toArray, List.getElem_cons_succ, List.getElem_cons_zero]); (try dsimp only at hSw); go_simp; all_goals (with_reducible rfl))
        (try simp only [Act.put, List.getElem_toArray, List.getElem_cons_succ, List.getElem_cons_zero, List.setIfInBounds_toArray, List.set_cons_zero, List.set_cons_succ])
        refine wpAnyT_take (i := 1) (v := ?v29) rfl (by kernel_rfl) (by kernel_rfl) (by kernel_rfl) (by kernel_rfl) (by kernel_rfl) (fun _ _ _ h => h) (Or.inl ⟨by rfl, ?hy29⟩) (by assumption) ?rest29
        case hy29 => (intro w hSw; (try simp only [List.getElem_toArray, List.getElem_cons_succ, List.getElem_cons_zero]); (try dsimp only at hSw); go_simp; all_goals (with_reducible rfl))
        (try simp only [Act.put, List.getElem_toArray, List.getElem_cons_succ, List.getElem_cons_zero, List.setIfInBounds_toArray, List.set_cons_zero, List.set_cons_succ])
        refine wpAnyT_take (i := 3) (v := ?v30) rfl (by kernel_rfl) (by kernel_rfl) (by kernel_rfl) (by kernel_rfl) (by kernel_rfl) (fun _ _ _ h => h) (Or.inl ⟨by rfl, ?hy30⟩) (by assumption) ?rest30
        case hy30 => (intro w hSw; (try simp only [List.getElem_toArray, List.getElem_cons_succ, List.getElem_cons_zero]); (try dsimp only at hSw); go_simp; all_goals (with_reducible rfl))
        (try simp only [Act.put, List.getElem_toArray, List.getElem_cons_succ, List.getElem_cons_zero, List.setIfInBounds_toArray, List.set_cons_zero, List.set_cons_succ])
        refine wpAnyT_take (i := 4) (v := ?v31) rfl (by kernel_rfl) (by kernel_rfl) (by kernel_rfl) (by kernel_rfl) (by kernel_rfl) (fun _ _ _ h => h) (Or.inl ⟨by rfl, ?hy31⟩) (by assumption) ?rest31
        case hy31 => (intro w hSw; (try simp only [List.getElem_toArray, List.getElem_cons_succ, List.getElem_cons_zero]); (try dsimp only at hSw); go_simp; all_goals (with_reducible rfl))
        (try simp only [Act.put, List.getElem_toArray, List.getElem_cons_succ, List.getElem_cons_zero, List.setIfInBounds_toArray, List.set_cons_zero, List.set_cons_succ])
        refine wpAnyT_take (i := 7) (v := ?v32) rfl (by kernel_rfl) (by kernel_rfl) (by kernel_rfl) (by kernel_rfl) (by kernel_rfl) (fun _ _ _ h => h) (Or.inl ⟨by rfl, ?hy32⟩) (by assumption) ?rest32
        case hy32 => (intro w hSw; (try simp only [List.getElem_toArray, List.getElem_cons_succ, List.getElem_cons_zero]); (try dsimp only at hSw); go_simp; all_goals (with_reducible rfl))
        (try simp only [Act.put, List.getElem_toArray, List.getElem_cons_succ, List.getElem_cons_zero, List.setIfInBounds_toArray, List.set_cons_zero, List.set_cons_succ])
        refine wpAnyT_take (i := 8) (v := ?v33) rfl (by kernel_rfl) (by kernel_rfl) (by kernel_rfl) (by kernel_rfl) (by kernel_rfl) (fun _ _ _ h => h) (Or.inl ⟨by rfl, ?hy33⟩) (by assumption) ?rest33
        case hy33 => (intro w hSw; (try simp only [List.getElem_toArray, List.getElem_cons_succ, List.getElem_cons_zero]); (try dsimp only at hSw); go_simp; all_goals (with_reducible rfl))
        (try simp only [Act.put, List.getElem_toArray, List.getElem_cons_succ, List.getElem_cons_zero, List.setIfInBounds_toArray, List.set_cons_zero, List.set_cons_succ])
        refine wpAnyT_take (i := 10) (v := ?v34) rfl (by kernel_rfl) (by kernel_rfl) (by kernel_rfl) (by kernel_rfl) (by kernel_rfl) (fun _ _ _ h => h) (Or.inl ⟨by rfl, ?hy34⟩) (by assumption) ?rest34
        case hy34 => (intro w hSw; (try simp only [List.getElem_toArray, List.getElem_cons_succ, List.getElem_cons_zero]); (try dsimp only at hSw); go_simp; all_goals (with_reducible rfl))
        (try simp only [Act.put, List.getElem_toArray, List.getElem_cons_succ, List.getElem_cons_zero, List.setIfInBounds_toArray, List.set_cons_zero, List.set_cons_succ])
        refine wpAnyT_take (i := 11) (v := ?v35) rfl (by kernel_rfl) (by kernel_rfl) (by kernel_rfl) (by kernel_rfl) (by kernel_rfl) (fun _ _ _ h => h) (Or.inl ⟨by rfl, ?hy35⟩) (by assumption) ?rest35
        case hy35 => (intro w hSw; (try simp only [List.getElem_toArray, List.getElem_cons_succ, List.getElem_cons_zero]); (try dsimp only at hSw); go_simp; all_goals (with_reducible rfl))
        (try simp only [Act.put, List.getElem_toArray, List.getElem_cons_succ, List.getElem_cons_zero, List.setIfInBounds_toArray, List.set_cons_zero, List.set_cons_succ])
        refine wpAnyT_one (i := 2) rfl (by kernel_rfl) (fun K hK => ?_)
        (try simp only [List.getElem_toArray, List.getElem_cons_succ, List.getElem_cons_zero])
        refine want rfl ?_
        refine wp_bslice 183 3 4 _ rfl #[.int .i64 17, .int .i64 44, .int .i64 45, .int .i64 46] i3 _ Tryz.underlying183 hi3 hz3 1 hs3 (by decide) (by decide) (by kernel_rfl) ?_
        intro w2 HB2 HW2 hq2
        have H2 := hid_ (TabIs.below (H1d.out) HW2.out H1d.out.lt)
        have K2 := hid_ (K1d.out.trans (Step.of HW2.out (Nat.le_refl _)))
        have c2 := HB2.out.cell 0
        simp at c2
        clear hHeld
        have hHeld := H2.out
        refine hK.out _ _ ?hS36 ?rest36
        case hS36 => (exact hHeld)
        clear hK K
        (try simp only [Act.put, List.getElem_toArray, List.getElem_cons_succ, List.getElem_cons_zero, List.setIfInBounds_toArray, List.set_cons_zero, List.set_cons_succ])
        refine wpAnyT_take (i := 5) (v := ?v37) rfl (by kernel_rfl) (by kernel_rfl) (by kernel_rfl) (by kernel_rfl) (by kernel_rfl) (fun _ _ _ h => h) (Or.inl ⟨by rfl, ?hy37⟩) (by assumption) ?rest37
        case hy37 => (intro w hSw; (try simp only [List.getElem_toArray, List.getElem_cons_succ, List.getElem_cons_zero]); (try dsimp only at hSw); go_simp; all_goals (with_reducible rfl))
        (try simp only [Act.put, List.getElem_toArray, List.getElem_cons_succ, List.getElem_cons_zero, List.setIfInBounds_toArray, List.set_cons_zero, List.set_cons_succ])
        refine wpAnyT_one (i := 6) rfl (by kernel_rfl) (fun K hK => ?_)
        (try simp only [List.getElem_toArray, List.getElem_cons_succ, List.getElem_cons_zero])
        go_simp
        refine hK.out _ _ ?hS38 ?rest38
        case hS38 => (exact hHeld)
        clear hK K
        (try simp only [Act.put, List.getElem_toArray, List.getElem_cons_succ, List.getElem_cons_zero, List.setIfInBounds_toArray, List.set_cons_zero, List.set_cons_succ])
        refine wpAnyT_take (i := 9) (v := ?v39) rfl (by kernel_rfl) (by kernel_rfl) (by kernel_rfl) (by kernel_rfl) (by kernel_rfl) (fun _ _ _ h => h) (Or.inl ⟨by rfl, ?hy39⟩) (by assumption) ?rest39
        case hy39 => (intro w hSw; (try simp only [List.getElem_toArray, List.getElem_cons_succ, List.getElem_cons_zero]); (try dsimp only at hSw); go_simp; all_goals (with_reducible rfl))
        (try simp only [Act.put, List.getElem_toArray, List.getElem_cons_succ, List.getElem_cons_zero, List.setIfInBounds_toArray, List.set_cons_zero, List.set_cons_succ])
        refine wpAnyT_take (i := 12) (v := ?v40) rfl (by kernel_rfl) (by kernel_rfl) (by kernel_rfl) (by kernel_rfl) (by kernel_rfl) (fun _ _ _ h => h) (Or.inl ⟨by rfl, ?hy40⟩) (by assumption) ?rest40
        case hy40 => (intro w hSw; (try simp only [List.getElem_toArray, List.getElem_cons_succ, List.getElem_cons_zero]); (try dsimp only at hSw); go_simp; all_goals (with_reducible rfl))
        (try simp only [Act.put, List.getElem_toArray, List.getElem_cons_succ, List.getElem_cons_zero, List.setIfInBounds_toArray, List.set_cons_zero, List.set_cons_succ])
        refine wpAnyT_last (i := 13) rfl (by kernel_rfl) rfl (fun K hK => ?_)
        (try simp only [List.getElem_toArray, List.getElem_cons_succ, List.getElem_cons_zero])
        refine want rfl ?_
        refine wp_storeBh (.tmp 36) (.tmp 33) rfl _ k (by omega : 1283 + k * 5 = 1283 + 5 * k) hlt (by with_unfolding_all rfl) H2.out (⟨17, (k / 8 % 8 : Nat), (k % 8 : Nat), 2, 0⟩ : OpV) (by with_unfolding_all rfl) ?_
        intro w3 H3 K3
        have K4 := hid_ (K2.out.trans K3.out)
        clear H2 K2 K3 c2
        refine hK.out _ _ ?_
        clear hK K
        (try simp only [Act.put, List.getElem_toArray, List.getElem_cons_succ, List.getElem_cons_zero, List.setIfInBounds_toArray, List.set_cons_zero, List.set_cons_succ])
        refine wpAnyT_done (by kernel_rfl) ?_ _
        go_wp2_with fail
        go_roundw
        case rel => exact ⟨k + 1, by omega, by go_num, by have := H3.out; rw [← HO.out, ← HB.out, upF_set _ _ hlt, upF_set _ _ hlt] at this; exact this, K4⟩
        case measure => simp [intOf]; omega
      · have e64 : (k : Int) / 64 = 1 := by omega
        have hb : behind k = (⟨44, (k / 8 % 8 : Nat), (k % 8 : Nat), 2, 0⟩ : OpV) := by unfold behind; rw [hq]; rfl
        have hfo : first k = ⟨7, (k / 8 % 8 : Nat), (k % 8 : Nat), 1, 0⟩ := by unfold first; rw [hq]; rfl
        have HB := hid_ hb
        have HO := hid_ hfo
        clear hb hfo
        go_wp2_with (first
          | ((with_reducible refine wpList_storePl (op := ⟨none, .store 46 (.tmp 18) (.tmp 15), _, _, _, _⟩) rfl (.tmp 18) (.tmp 15) rfl _ k (by omega : 3 + k * 5 = 3 + 5 * k) hlt (by with_unfolding_all rfl) H0.out ⟨4, 0, 0, 1, 0⟩ (by with_unfolding_all rfl) ?_); intro w1 H1 s1; have K1 := hid_ (K0.out.trans s1.out); clear H0 K0 s1))
        have H1d : Hid (TabIs w1.drew g d s ((upF first k).set k ⟨4, 0, 0, 1, 0⟩) (upF behind k)) := ⟨H1.out.1.drew, H1.out.2⟩
        have K1d : Hid (Step (· = g) w w1.drew) := K1.out.drew
        refine wp_region_tail (S := (fun W => TabIs W g d s ((upF first k).set k ⟨4, 0, 0, 1, 0⟩) (upF behind k))) (tail := (fun j => decide (13 ≤ j))) (by kernel_rfl) ?hS41 (fun hHeld => ?rest41)
        case hS41 => (exact H1d.out)
        refine wpAnyT_take (i := 0) (v := ?v42) rfl (by kernel_rfl) (by kernel_rfl) (by kernel_rfl) (by kernel_rfl) (by kernel_rfl) (fun _ _ _ h => h) (Or.inl ⟨by rfl, ?hy42⟩) (by assumption) ?rest42
        case hy42 => (intro w hSw; (try simp only [List.getElem_toArray, List.getElem_cons_succ, List.getElem_cons_zero]); (try dsimp only at hSw); go_simp; all_goals (with_reducible rfl))
        (try simp only [Act.put, List.getElem_toArray, List.getElem_cons_succ, List.getElem_cons_zero, List.setIfInBounds_toArray, List.set_cons_zero, List.set_cons_succ])
        refine wpAnyT_take (i := 1) (v := ?v43) rfl (by kernel_rfl) (by kernel_rfl) (by kernel_rfl) (by kernel_rfl) (by kernel_rfl) (fun _ _ _ h => h) (Or.inl ⟨by rfl, ?hy43⟩) (by assumption) ?rest43
        case hy43 => (intro w hSw; (try simp only [List.getElem_toArray, List.getElem_cons_succ, List.getElem_cons_zero]); (try dsimp only at hSw); go_simp; all_goals (with_reducible rfl))
        (try simp only [Act.put, List.getElem_toArray, List.getElem_cons_succ, List.getElem_cons_zero, List.setIfInBounds_toArray, List.set_cons_zero, List.set_cons_succ])
        refine wpAnyT_take (i := 3) (v := ?v44) rfl (by kernel_rfl) (by kernel_rfl) (by kernel_rfl) (by kernel_rfl) (by kernel_rfl) (fun _ _ _ h => h) (Or.inl ⟨by rfl, ?hy44⟩) (by assumption) ?rest44
        case hy44 => (intro w hSw; (try simp only [List.getElem_toArray, List.getElem_cons_succ, List.getElem_cons_zero]); (try dsimp only at hSw); go_simp; all_goals (with_reducible rfl))
        (try simp only [Act.put, List.getElem_toArray, List.getElem_cons_succ, List.getElem_cons_zero, List.setIfInBounds_toArray, List.set_cons_zero, List.set_cons_succ])
        refine wpAnyT_take (i := 4) (v := ?v45) rfl (by kernel_rfl) (by kernel_rfl) (by kernel_rfl) (by kernel_rfl) (by kernel_rfl) (fun _ _ _ h => h) (Or.inl ⟨by rfl, ?hy45⟩) (by assumption) ?rest45
        case hy45 => (intro w hSw; (try simp only [List.getElem_toArray, List.getElem_cons_succ, List.getElem_cons_zero]); (try dsimp only at hSw); go_simp; all_goals (with_reducible rfl))
        (try simp only [Act.put, List.getElem_toArray, List.getElem_cons_succ, List.getElem_cons_zero, List.setIfInBounds_toArray, List.set_cons_zero, List.set_cons_succ])
        refine wpAnyT_take (i := 7) (v := ?v46) rfl (by kernel_rfl) (by kernel_rfl) (by kernel_rfl) (by kernel_rfl) (by kernel_rfl) (fun _ _ _ h => h) (Or.inl ⟨by rfl, ?hy46⟩) (by assumption) ?rest46
        case hy46 => (intro w hSw; (try simp only [List.getElem_toArray, List.getElem_cons_succ, List.getElem_cons_zero]); (try dsimp only at hSw); go_simp; all_goals (with_reducible rfl))
        (try simp only [Act.put, List.getElem_toArray, List.getElem_cons_succ, List.getElem_cons_zero, List.setIfInBounds_toArray, List.set_cons_zero, List.set_cons_succ])
        refine wpAnyT_take (i := 8) (v := ?v47) rfl (by kernel_rfl) (by kernel_rfl) (by kernel_rfl) (by kernel_rfl) (by kernel_rfl) (fun _ _ _ h => h) (Or.inl ⟨by rfl, ?hy47⟩) (by assumption) ?rest47
        case hy47 => (intro w hSw; (try simp only [List.getElem_toArray, List.getElem_cons_succ, List.getElem_cons_zero]); (try dsimp only at hSw); go_simp; all_goals (with_reducible rfl))
        (try simp only [Act.put, List.getElem_toArray, List.getElem_cons_succ, List.getElem_cons_zero, List.setIfInBounds_toArray, List.set_cons_zero, List.set_cons_succ])
        refine wpAnyT_take (i := 10) (v := ?v48) rfl (by kernel_rfl) (by kernel_rfl) (by kernel_rfl) (by kernel_rfl) (by kernel_rfl) (fun _ _ _ h => h) (Or.inl ⟨by rfl, ?hy48⟩) (by assumption) ?rest48
        case hy48 => (intro w hSw; (try simp only [List.getElem_toArray, List.getElem_cons_succ, List.getElem_cons_zero]); (try dsimp only at hSw); go_simp; all_goals (with_reducible rfl))
        (try simp only [Act.put, List.getElem_toArray, List.getElem_cons_succ, List.getElem_cons_zero, List.setIfInBounds_toArray, List.set_cons_zero, List.set_cons_succ])
        refine wpAnyT_take (i := 11) (v := ?v49) rfl (by kernel_rfl) (by kernel_rfl) (by kernel_rfl) (by kernel_rfl) (by kernel_rfl) (fun _ _ _ h => h) (Or.inl ⟨by rfl, ?hy49⟩) (by assumption) ?rest49
        case hy49 => (intro w hSw; (try simp only [List.getElem_toArray, List.getElem_cons_succ, List.getElem_cons_zero]); (try dsimp only at hSw); go_simp; all_goals (with_reducible rfl))
        (try simp only [Act.put, List.getElem_toArray, List.getElem_cons_succ, List.getElem_cons_zero, List.setIfInBounds_toArray, List.set_cons_zero, List.set_cons_succ])
        refine wpAnyT_one (i := 2) rfl (by kernel_rfl) (fun K hK => ?_)
        (try simp only [List.getElem_toArray, List.getElem_cons_succ, List.getElem_cons_zero])
        refine want rfl ?_
        refine wp_bslice 183 3 4 _ rfl #[.int .i64 17, .int .i64 44, .int .i64 45, .int .i64 46] i3 _ Tryz.underlying183 hi3 hz3 1 hs3 (by decide) (by decide) (by kernel_rfl) ?_
        intro w2 HB2 HW2 hq2
        have H2 := hid_ (TabIs.below (H1d.out) HW2.out H1d.out.lt)
        have K2 := hid_ (K1d.out.trans (Step.of HW2.out (Nat.le_refl _)))
        have c2 := HB2.out.cell 1
        simp at c2
        clear hHeld
        have hHeld := H2.out
        refine hK.out _ _ ?hS50 ?rest50
        case hS50 => (exact hHeld)
        clear hK K
        (try simp only [Act.put, List.getElem_toArray, List.getElem_cons_succ, List.getElem_cons_zero, List.setIfInBounds_toArray, List.set_cons_zero, List.set_cons_succ])
        refine wpAnyT_take (i := 5) (v := ?v51) rfl (by kernel_rfl) (by kernel_rfl) (by kernel_rfl) (by kernel_rfl) (by kernel_rfl) (fun _ _ _ h => h) (Or.inl ⟨by rfl, ?hy51⟩) (by assumption) ?rest51
        case hy51 => (intro w hSw; (try simp only [List.getElem_toArray, List.getElem_cons_succ, List.getElem_cons_zero]); (try dsimp only at hSw); go_simp; all_goals (with_reducible rfl))
        (try simp only [Act.put, List.getElem_toArray, List.getElem_cons_succ, List.getElem_cons_zero, List.setIfInBounds_toArray, List.set_cons_zero, List.set_cons_succ])
        refine wpAnyT_one (i := 6) rfl (by kernel_rfl) (fun K hK => ?_)
        (try simp only [List.getElem_toArray, List.getElem_cons_succ, List.getElem_cons_zero])
        go_simp
        refine hK.out _ _ ?hS52 ?rest52
        case hS52 => (exact hHeld)
        clear hK K
        (try simp only [Act.put, List.getElem_toArray, List.getElem_cons_succ, List.getElem_cons_zero, List.setIfInBounds_toArray, List.set_cons_zero, List.set_cons_succ])
        refine wpAnyT_take (i := 9) (v := ?v53) rfl (by kernel_rfl) (by kernel_rfl) (by kernel_rfl) (by kernel_rfl) (by kernel_rfl) (fun _ _ _ h => h) (Or.inl ⟨by rfl, ?hy53⟩) (by assumption) ?rest53
        case hy53 => (intro w hSw; (try simp only [List.getElem_toArray, List.getElem_cons_succ, List.getElem_cons_zero]); (try dsimp only at hSw); go_simp; all_goals (with_reducible rfl))
        (try simp only [Act.put, List.getElem_toArray, List.getElem_cons_succ, List.getElem_cons_zero, List.setIfInBounds_toArray, List.set_cons_zero, List.set_cons_succ])
        refine wpAnyT_take (i := 12) (v := ?v54) rfl (by kernel_rfl) (by kernel_rfl) (by kernel_rfl) (by kernel_rfl) (by kernel_rfl) (fun _ _ _ h => h) (Or.inl ⟨by rfl, ?hy54⟩) (by assumption) ?rest54
        case hy54 => (intro w hSw; (try simp only [List.getElem_toArray, List.getElem_cons_succ, List.getElem_cons_zero]); (try dsimp only at hSw); go_simp; all_goals (with_reducible rfl))
        (try simp only [Act.put, List.getElem_toArray, List.getElem_cons_succ, List.getElem_cons_zero, List.setIfInBounds_toArray, List.set_cons_zero, List.set_cons_succ])
        refine wpAnyT_last (i := 13) rfl (by kernel_rfl) rfl (fun K hK => ?_)
        (try simp only [List.getElem_toArray, List.getElem_cons_succ, List.getElem_cons_zero])
        refine want rfl ?_
        refine wp_storeBh (.tmp 36) (.tmp 33) rfl _ k (by omega : 1283 + k * 5 = 1283 + 5 * k) hlt (by with_unfolding_all rfl) H2.out (⟨44, (k / 8 % 8 : Nat), (k % 8 : Nat), 2, 0⟩ : OpV) (by with_unfolding_all rfl) ?_
        intro w3 H3 K3
        have K4 := hid_ (K2.out.trans K3.out)
        clear H2 K2 K3 c2
        refine hK.out _ _ ?_
        clear hK K
        (try simp only [Act.put, List.getElem_toArray, List.getElem_cons_succ, List.getElem_cons_zero, List.setIfInBounds_toArray, List.set_cons_zero, List.set_cons_succ])
        refine wpAnyT_done (by kernel_rfl) ?_ _
        go_wp2_with (first
          | ((with_reducible refine wpList_storePl (op := ⟨none, .store 46 (.tmp 48) (.tmp 45), _, _, _, _⟩) rfl (.tmp 48) (.tmp 45) rfl _ k (by omega : 3 + k * 5 = 3 + 5 * k) hlt (by with_unfolding_all rfl) H3.out ⟨7, (k / 8 % 8 : Nat), (k % 8 : Nat), 1, 0⟩ (by with_unfolding_all rfl) ?_); intro w5 H5 s5; have K5 := hid_ (K4.out.trans s5.out); clear H3 K4 s5))
        go_roundw
        case rel => exact ⟨k + 1, by omega, by go_num, by have := H5.out; rw [List.set_set, ← HO.out, ← HB.out, upF_set _ _ hlt, upF_set _ _ hlt] at this; exact this, K5⟩
        case measure => simp [intOf]; omega
      · have e64 : (k : Int) / 64 = 2 := by omega
        have hb : behind k = (⟨45, (k / 8 % 8 : Nat), (k % 8 : Nat), 2, 0⟩ : OpV) := by unfold behind; rw [hq]; rfl
        have hfo : first k = ⟨10, (k / 8 % 8 : Nat), (k % 8 : Nat), 1, 0⟩ := by unfold first; rw [hq]; rfl
        have HB := hid_ hb
        have HO := hid_ hfo
        clear hb hfo
        go_wp2_with (first
          | ((with_reducible refine wpList_storePl (op := ⟨none, .store 46 (.tmp 18) (.tmp 15), _, _, _, _⟩) rfl (.tmp 18) (.tmp 15) rfl _ k (by omega : 3 + k * 5 = 3 + 5 * k) hlt (by with_unfolding_all rfl) H0.out ⟨4, 0, 0, 1, 0⟩ (by with_unfolding_all rfl) ?_); intro w1 H1 s1; have K1 := hid_ (K0.out.trans s1.out); clear H0 K0 s1))
        have H1d : Hid (TabIs w1.drew g d s ((upF first k).set k ⟨4, 0, 0, 1, 0⟩) (upF behind k)) := ⟨H1.out.1.drew, H1.out.2⟩
        have K1d : Hid (Step (· = g) w w1.drew) := K1.out.drew
        refine wp_region_tail (S := (fun W => TabIs W g d s ((upF first k).set k ⟨4, 0, 0, 1, 0⟩) (upF behind k))) (tail := (fun j => decide (13 ≤ j))) (by kernel_rfl) ?hS55 (fun hHeld => ?rest55)
        case hS55 => (exact H1d.out)
        refine wpAnyT_take (i := 0) (v := ?v56) rfl (by kernel_rfl) (by kernel_rfl) (by kernel_rfl) (by kernel_rfl) (by kernel_rfl) (fun _ _ _ h => h) (Or.inl ⟨by rfl, ?hy56⟩) (by assumption) ?rest56
        case hy56 => (intro w hSw; (try simp only [List.getElem_toArray, List.getElem_cons_succ, List.getElem_cons_zero]); (try dsimp only at hSw); go_simp; all_goals (with_reducible rfl))
        (try simp only [Act.put, List.getElem_toArray, List.getElem_cons_succ, List.getElem_cons_zero, List.setIfInBounds_toArray, List.set_cons_zero, List.set_cons_succ])
        refine wpAnyT_take (i := 1) (v := ?v57) rfl (by kernel_rfl) (by kernel_rfl) (by kernel_rfl) (by kernel_rfl) (by kernel_rfl) (fun _ _ _ h => h) (Or.inl ⟨by rfl, ?hy57⟩) (by assumption) ?rest57
        case hy57 => (intro w hSw; (try simp only [List.getElem_toArray, List.getElem_cons_succ, List.getElem_cons_zero]); (try dsimp only at hSw); go_simp; all_goals (with_reducible rfl))
        (try simp only [Act.put, List.getElem_toArray, List.getElem_cons_succ, List.getElem_cons_zero, List.setIfInBounds_toArray, List.set_cons_zero, List.set_cons_succ])
        refine wpAnyT_take (i := 3) (v := ?v58) rfl (by kernel_rfl) (by kernel_rfl) (by kernel_rfl) (by kernel_rfl) (by kernel_rfl) (fun _ _ _ h => h) (Or.inl ⟨by rfl, ?hy58⟩) (by assumption) ?rest58
        case hy58 => (intro w hSw; (try simp only [List.getElem_toArray, List.getElem_cons_succ, List.getElem_cons_zero]); (try dsimp only at hSw); go_simp; all_goals (with_reducible rfl))
        (try simp only [Act.put, List.getElem_toArray, List.getElem_cons_succ, List.getElem_cons_zero, List.setIfInBounds_toArray, List.set_cons_zero, List.set_cons_succ])
        refine wpAnyT_take (i := 4) (v := ?v59) rfl (by kernel_rfl) (by kernel_rfl) (by kernel_rfl) (by kernel_rfl) (by kernel_rfl) (fun _ _ _ h => h) (Or.inl ⟨by rfl, ?hy59⟩) (by assumption) ?rest59
        case hy59 => (intro w hSw; (try simp only [List.getElem_toArray, List.getElem_cons_succ, List.getElem_cons_zero]); (try dsimp only at hSw); go_simp; all_goals (with_reducible rfl))
        (try simp only [Act.put, List.getElem_toArray, List.getElem_cons_succ, List.getElem_cons_zero, List.setIfInBounds_toArray, List.set_cons_zero, List.set_cons_succ])
        refine wpAnyT_take (i := 7) (v := ?v60) rfl (by kernel_rfl) (by kernel_rfl) (by kernel_rfl) (by kernel_rfl) (by kernel_rfl) (fun _ _ _ h => h) (Or.inl ⟨by rfl, ?hy60⟩) (by assumption) ?rest60
        case hy60 => (intro w hSw; (try simp only [List.getElem_toArray, List.getElem_cons_succ, List.getElem_cons_zero]); (try dsimp only at hSw); go_simp; all_goals (with_reducible rfl))
        (try simp only [Act.put, List.getElem_toArray, List.getElem_cons_succ, List.getElem_cons_zero, List.setIfInBounds_toArray, List.set_cons_zero, List.set_cons_succ])
        refine wpAnyT_take (i := 8) (v := ?v61) rfl (by kernel_rfl) (by kernel_rfl) (by kernel_rfl) (by kernel_rfl) (by kernel_rfl) (fun _ _ _ h => h) (Or.inl ⟨by rfl, ?hy61⟩) (by assumption) ?rest61
        case hy61 => (intro w hSw; (try simp only [List.getElem_toArray, List.getElem_cons_succ, List.getElem_cons_zero]); (try dsimp only at hSw); go_simp; all_goals (with_reducible rfl))
        (try simp only [Act.put, List.getElem_toArray, List.getElem_cons_succ, List.getElem_cons_zero, List.setIfInBounds_toArray, List.set_cons_zero, List.set_cons_succ])
        refine wpAnyT_take (i := 10) (v := ?v62) rfl (by kernel_rfl) (by kernel_rfl) (by kernel_rfl) (by kernel_rfl) (by kernel_rfl) (fun _ _ _ h => h) (Or.inl ⟨by rfl, ?hy62⟩) (by assumption) ?rest62
        case hy62 => (intro w hSw; (try simp only [List.getElem_toArray, List.getElem_cons_succ, List.getElem_cons_zero]); (try dsimp only at hSw); go_simp; all_goals (with_reducible rfl))
        (try simp only [Act.put, List.getElem_toArray, List.getElem_cons_succ, List.getElem_cons_zero, List.setIfInBounds_toArray, List.set_cons_zero, List.set_cons_succ])
        refine wpAnyT_take (i := 11) (v := ?v63) rfl (by kernel_rfl) (by kernel_rfl) (by kernel_rfl) (by kernel_rfl) (by kernel_rfl) (fun _ _ _ h => h) (Or.inl ⟨by rfl, ?hy63⟩) (by assumption) ?rest63
        case hy63 => (intro w hSw; (try simp only [List.getElem_toArray, List.getElem_cons_succ, List.getElem_cons_zero]); (try dsimp only at hSw); go_simp; all_goals (with_reducible rfl))
        (try simp only [Act.put, List.getElem_toArray, List.getElem_cons_succ, List.getElem_cons_zero, List.setIfInBounds_toArray, List.set_cons_zero, List.set_cons_succ])
        refine wpAnyT_one (i := 2) rfl (by kernel_rfl) (fun K hK => ?_)
        (try simp only [List.getElem_toArray, List.getElem_cons_succ, List.getElem_cons_zero])
        refine want rfl ?_
        refine wp_bslice 183 3 4 _ rfl #[.int .i64 17, .int .i64 44, .int .i64 45, .int .i64 46] i3 _ Tryz.underlying183 hi3 hz3 1 hs3 (by decide) (by decide) (by kernel_rfl) ?_
        intro w2 HB2 HW2 hq2
        have H2 := hid_ (TabIs.below (H1d.out) HW2.out H1d.out.lt)
        have K2 := hid_ (K1d.out.trans (Step.of HW2.out (Nat.le_refl _)))
        have c2 := HB2.out.cell 2
        simp at c2
        clear hHeld
        have hHeld := H2.out
        refine hK.out _ _ ?hS64 ?rest64
        case hS64 => (exact hHeld)
        clear hK K
        (try simp only [Act.put, List.getElem_toArray, List.getElem_cons_succ, List.getElem_cons_zero, List.setIfInBounds_toArray, List.set_cons_zero, List.set_cons_succ])
        refine wpAnyT_take (i := 5) (v := ?v65) rfl (by kernel_rfl) (by kernel_rfl) (by kernel_rfl) (by kernel_rfl) (by kernel_rfl) (fun _ _ _ h => h) (Or.inl ⟨by rfl, ?hy65⟩) (by assumption) ?rest65
        case hy65 => (intro w hSw; (try simp only [List.getElem_toArray, List.getElem_cons_succ, List.getElem_cons_zero]); (try dsimp only at hSw); go_simp; all_goals (with_reducible rfl))
        (try simp only [Act.put, List.getElem_toArray, List.getElem_cons_succ, List.getElem_cons_zero, List.setIfInBounds_toArray, List.set_cons_zero, List.set_cons_succ])
        refine wpAnyT_one (i := 6) rfl (by kernel_rfl) (fun K hK => ?_)
        (try simp only [List.getElem_toArray, List.getElem_cons_succ, List.getElem_cons_zero])
        go_simp
        refine hK.out _ _ ?hS66 ?rest66
        case hS66 => (exact hHeld)
        clear hK K
        (try simp only [Act.put, List.getElem_toArray, List.getElem_cons_succ, List.getElem_cons_zero, List.setIfInBounds_toArray, List.set_cons_zero, List.set_cons_succ])
        refine wpAnyT_take (i := 9) (v := ?v67) rfl (by kernel_rfl) (by kernel_rfl) (by kernel_rfl) (by kernel_rfl) (by kernel_rfl) (fun _ _ _ h => h) (Or.inl ⟨by rfl, ?hy67⟩) (by assumption) ?rest67
        case hy67 => (intro w hSw; (try simp only [List.getElem_toArray, List.getElem_cons_succ, List.getElem_cons_zero]); (try dsimp only at hSw); go_simp; all_goals (with_reducible rfl))
        (try simp only [Act.put, List.getElem_toArray, List.getElem_cons_succ, List.getElem_cons_zero, List.setIfInBounds_toArray, List.set_cons_zero, List.set_cons_succ])
        refine wpAnyT_take (i := 12) (v := ?v68) rfl (by kernel_rfl) (by kernel_rfl) (by kernel_rfl) (by kernel_rfl) (by kernel_rfl) (fun _ _ _ h => h) (Or.inl ⟨by rfl, ?hy68⟩) (by assumption) ?rest68
        case hy68 => (intro w hSw; (try simp only [List.getElem_toArray, List.getElem_cons_succ, List.getElem_cons_zero]); (try dsimp only at hSw); go_simp; all_goals (with_reducible rfl))
        (try simp only [Act.put, List.getElem_toArray, List.getElem_cons_succ, List.getElem_cons_zero, List.setIfInBounds_toArray, List.set_cons_zero, List.set_cons_succ])
        refine wpAnyT_last (i := 13) rfl (by kernel_rfl) rfl (fun K hK => ?_)
        (try simp only [List.getElem_toArray, List.getElem_cons_succ, List.getElem_cons_zero])
        refine want rfl ?_
        refine wp_storeBh (.tmp 36) (.tmp 33) rfl _ k (by omega : 1283 + k * 5 = 1283 + 5 * k) hlt (by with_unfolding_all rfl) H2.out (⟨45, (k / 8 % 8 : Nat), (k % 8 : Nat), 2, 0⟩ : OpV) (by with_unfolding_all rfl) ?_
        intro w3 H3 K3
        have K4 := hid_ (K2.out.trans K3.out)
        clear H2 K2 K3 c2
        refine hK.out _ _ ?_
        clear hK K
        (try simp only [Act.put, List.getElem_toArray, List.getElem_cons_succ, List.getElem_cons_zero, List.setIfInBounds_toArray, List.set_cons_zero, List.set_cons_succ])
        refine wpAnyT_done (by kernel_rfl) ?_ _
        go_wp2_with (first
          | ((with_reducible refine wpList_storePl (op := ⟨none, .store 46 (.tmp 58) (.tmp 55), _, _, _, _⟩) rfl (.tmp 58) (.tmp 55) rfl _ k (by omega : 3 + k * 5 = 3 + 5 * k) hlt (by with_unfolding_all rfl) H3.out ⟨10, (k / 8 % 8 : Nat), (k % 8 : Nat), 1, 0⟩ (by with_unfolding_all rfl) ?_); intro w5 H5 s5; have K5 := hid_ (K4.out.trans s5.out); clear H3 K4 s5))
        go_roundw
        case rel => exact ⟨k + 1, by omega, by go_num, by have := H5.out; rw [List.set_set, ← HO.out, ← HB.out, upF_set _ _ hlt, upF_set _ _ hlt] at this; exact this, K5⟩
        case measure => simp [intOf]; omega
      · have e64 : (k : Int) / 64 = 3 := by omega
        have hb : behind k = (⟨46, (k / 8 % 8 : Nat), (k % 8 : Nat), 2, 0⟩ : OpV) := by unfold behind; rw [hq]; rfl
        have hfo : first k = ⟨4, 0, 0, 1, 0⟩ := by unfold first; rw [hq]; rfl
        have HB := hid_ hb
        have HO := hid_ hfo
        clear hb hfo
        go_wp2_with (first
          | ((with_reducible refine wpList_storePl (op := ⟨none, .store 46 (.tmp 18) (.tmp 15), _, _, _, _⟩) rfl (.tmp 18) (.tmp 15) rfl _ k (by omega : 3 + k * 5 = 3 + 5 * k) hlt (by with_unfolding_all rfl) H0.out ⟨4, 0, 0, 1, 0⟩ (by with_unfolding_all rfl) ?_); intro w1 H1 s1; have K1 := hid_ (K0.out.trans s1.out); clear H0 K0 s1))
        have H1d : Hid (TabIs w1.drew g d s ((upF first k).set k ⟨4, 0, 0, 1, 0⟩) (upF behind k)) := ⟨H1.out.1.drew, H1.out.2⟩
        have K1d : Hid (Step (· = g) w w1.drew) := K1.out.drew
        refine wp_region_tail (S := (fun W => TabIs W g d s ((upF first k).set k ⟨4, 0, 0, 1, 0⟩) (upF behind k))) (tail := (fun j => decide (13 ≤ j))) (by kernel_rfl) ?hS69 (fun hHeld => ?rest69)
        case hS69 => (exact H1d.out)
        refine wpAnyT_take (i := 0) (v := ?v70) rfl (by kernel_rfl) (by kernel_rfl) (by kernel_rfl) (by kernel_rfl) (by kernel_rfl) (fun _ _ _ h => h) (Or.inl ⟨by rfl, ?hy70⟩) (by assumption) ?rest70
        case hy70 => (intro w hSw; (try simp only [List.getElem_toArray, List.getElem_cons_succ, List.getElem_cons_zero]); (try dsimp only at hSw); go_simp; all_goals (with_reducible rfl))
        (try simp only [Act.put, List.getElem_toArray, List.getElem_cons_succ, List.getElem_cons_zero, List.setIfInBounds_toArray, List.set_cons_zero, List.set_cons_succ])
        refine wpAnyT_take (i := 1) (v := ?v71) rfl (by kernel_rfl) (by kernel_rfl) (by kernel_rfl) (by kernel_rfl) (by kernel_rfl) (fun _ _ _ h => h) (Or.inl ⟨by rfl, ?hy71⟩) (by assumption) ?rest71
        case hy71 => (intro w hSw; (try simp only [List.getElem_toArray, List.getElem_cons_succ, List.getElem_cons_zero]); (try dsimp only at hSw); go_simp; all_goals (with_reducible rfl))
        (try simp only [Act.put, List.getElem_toArray, List.getElem_cons_succ, List.getElem_cons_zero, List.setIfInBounds_toArray, List.set_cons_zero, List.set_cons_succ])
        refine wpAnyT_take (i := 3) (v := ?v72) rfl (by kernel_rfl) (by kernel_rfl) (by kernel_rfl) (by kernel_rfl) (by kernel_rfl) (fun _ _ _ h => h) (Or.inl ⟨by rfl, ?hy72⟩) (by assumption) ?rest72
        case hy72 => (intro w hSw; (try simp only [List.getElem_toArray, List.getElem_cons_succ, List.getElem_cons_zero]); (try dsimp only at hSw); go_simp; all_goals (with_reducible rfl))
        (try simp only [Act.put, List.getElem_toArray, List.getElem_cons_succ, List.getElem_cons_zero, List.setIfInBounds_toArray, List.set_cons_zero, List.set_cons_succ])
        refine wpAnyT_take (i := 4) (v := ?v73) rfl (by kernel_rfl) (by kernel_rfl) (by kernel_rfl) (by kernel_rfl) (by kernel_rfl) (fun _ _ _ h => h) (Or.inl ⟨by rfl, ?hy73⟩) (by assumption) ?rest73
        case hy73 => (intro w hSw; (try simp only [List.getElem_toArray, List.getElem_cons_succ, List.getElem_cons_zero]); (try dsimp only at hSw); go_simp; all_goals (with_reducible rfl))
        (try simp only [Act.put, List.getElem_toArray, List.getElem_cons_succ, List.getElem_cons_zero, List.setIfInBounds_toArray, List.set_cons_zero, List.set_cons_succ])
        refine wpAnyT_take (i := 7) (v := ?v74) rfl (by kernel_rfl) (by kernel_rfl) (by kernel_rfl) (by kernel_rfl) (by kernel_rfl) (fun _ _ _ h => h) (Or.inl ⟨by rfl, ?hy74⟩) (by assumption) ?rest74
        case hy74 => (intro w hSw; (try simp only [List.getElem_toArray, List.getElem_cons_succ, List.getElem_cons_zero]); (try dsimp only at hSw); go_simp; all_goals (with_reducible rfl))
        (try simp only [Act.put, List.getElem_toArray, List.getElem_cons_succ, List.getElem_cons_zero, List.setIfInBounds_toArray, List.set_cons_zero, List.set_cons_succ])
        refine wpAnyT_take (i := 8) (v := ?v75) rfl (by kernel_rfl) (by kernel_rfl) (by kernel_rfl) (by kernel_rfl) (by kernel_rfl) (fun _ _ _ h => h) (Or.inl ⟨by rfl, ?hy75⟩) (by assumption) ?rest75
        case hy75 => (intro w hSw; (try simp only [List.getElem_toArray, List.getElem_cons_succ, List.getElem_cons_zero]); (try dsimp only at hSw); go_simp; all_goals (with_reducible rfl))
        (try simp only [Act.put, List.getElem_toArray, List.getElem_cons_succ, List.getElem_cons_zero, List.setIfInBounds_toArray, List.set_cons_zero, List.set_cons_succ])
        refine wpAnyT_take (i := 10) (v := ?v76) rfl (by kernel_rfl) (by kernel_rfl) (by kernel_rfl) (by kernel_rfl) (by kernel_rfl) (fun _ _ _ h => h) (Or.inl ⟨by rfl, ?hy76⟩) (by assumption) ?rest76
        case hy76 => (intro w hSw; (try simp only [List.getElem_toArray, List.getElem_cons_succ, List.getElem_cons_zero]); (try dsimp only at hSw); go_simp; all_goals (with_reducible rfl))
        (try simp only [Act.put, List.getElem_toArray, List.getElem_cons_succ, List.getElem_cons_zero, List.setIfInBounds_toArray, List.set_cons_zero, List.set_cons_succ])
        refine wpAnyT_take (i := 11) (v := ?v77) rfl (by kernel_rfl) (by kernel_rfl) (by kernel_rfl) (by kernel_rfl) (by kernel_rfl) (fun _ _ _ h => h) (Or.inl ⟨by rfl, ?hy77⟩) (by assumption) ?rest77
        case hy77 => (intro w hSw; (try simp only [List.getElem_toArray, List.getElem_cons_succ, List.getElem_cons_zero]); (try dsimp only at hSw); go_simp; all_goals (with_reducible rfl))
        (try simp only [Act.put, List.getElem_toArray, List.getElem_cons_succ, List.getElem_cons_zero, List.setIfInBounds_toArray, List.set_cons_zero, List.set_cons_succ])
        refine wpAnyT_one (i := 2) rfl (by kernel_rfl) (fun K hK => ?_)
        (try simp only [List.getElem_toArray, List.getElem_cons_succ, List.getElem_cons_zero])
        refine want rfl ?_
        refine wp_bslice 183 3 4 _ rfl #[.int .i64 17, .int .i64 44, .int .i64 45, .int .i64 46] i3 _ Tryz.underlying183 hi3 hz3 1 hs3 (by decide) (by decide) (by kernel_rfl) ?_
        intro w2 HB2 HW2 hq2
        have H2 := hid_ (TabIs.below (H1d.out) HW2.out H1d.out.lt)
        have K2 := hid_ (K1d.out.trans (Step.of HW2.out (Nat.le_refl _)))
        have c2 := HB2.out.cell 3
        simp at c2
        clear hHeld
        have hHeld := H2.out
        refine hK.out _ _ ?hS78 ?rest78
        case hS78 => (exact hHeld)
        clear hK K
        (try simp only [Act.put, List.getElem_toArray, List.getElem_cons_succ, List.getElem_cons_zero, List.setIfInBounds_toArray, List.set_cons_zero, List.set_cons_succ])
        refine wpAnyT_take (i := 5) (v := ?v79) rfl (by kernel_rfl) (by kernel_rfl) (by kernel_rfl) (by kernel_rfl) (by kernel_rfl) (fun _ _ _ h => h) (Or.inl ⟨by rfl, ?hy79⟩) (by assumption) ?rest79
        case hy79 => (intro w hSw; (try simp only [List.getElem_toArray, List.getElem_cons_succ, List.getElem_cons_zero]); (try dsimp only at hSw); go_simp; all_goals (with_reducible rfl))
        (try simp only [Act.put, List.getElem_toArray, List.getElem_cons_succ, List.getElem_cons_zero, List.setIfInBounds_toArray, List.set_cons_zero, List.set_cons_succ])
        refine wpAnyT_one (i := 6) rfl (by kernel_rfl) (fun K hK => ?_)
        (try simp only [List.getElem_toArray, List.getElem_cons_succ, List.getElem_cons_zero])
        go_simp
        refine hK.out _ _ ?hS80 ?rest80
        case hS80 => (exact hHeld)
        clear hK K
        (try simp only [Act.put, List.getElem_toArray, List.getElem_cons_succ, List.getElem_cons_zero, List.setIfInBounds_toArray, List.set_cons_zero, List.set_cons_succ])
        refine wpAnyT_take (i := 9) (v := ?v81) rfl (by kernel_rfl) (by kernel_rfl) (by kernel_rfl) (by kernel_rfl) (by kernel_rfl) (fun _ _ _ h => h) (Or.inl ⟨by rfl, ?hy81⟩) (by assumption) ?rest81
        case hy81 => (intro w hSw; (try simp only [List.getElem_toArray, List.getElem_cons_succ, List.getElem_cons_zero]); (try dsimp only at hSw); go_simp; all_goals (with_reducible rfl))
        (try simp only [Act.put, List.getElem_toArray, List.getElem_cons_succ, List.getElem_cons_zero, List.setIfInBounds_toArray, List.set_cons_zero, List.set_cons_succ])
        refine wpAnyT_take (i := 12) (v := ?v82) rfl (by kernel_rfl) (by kernel_rfl) (by kernel_rfl) (by kernel_rfl) (by kernel_rfl) (fun _ _ _ h => h) (Or.inl ⟨by rfl, ?hy82⟩) (by assumption) ?rest82
        case hy82 => (intro w hSw; (try simp only [List.getElem_toArray, List.getElem_cons_succ, List.getElem_cons_zero]); (try dsimp only at hSw); go_simp; all_goals (with_reducible rfl))
        (try simp only [Act.put, List.getElem_toArray, List.getElem_cons_succ, List.getElem_cons_zero, List.setIfInBounds_toArray, List.set_cons_zero, List.set_cons_succ])
        refine wpAnyT_last (i := 13) rfl (by kernel_rfl) rfl (fun K hK => ?_)
        (try simp only [List.getElem_toArray, List.getElem_cons_succ, List.getElem_cons_zero])
        refine want rfl ?_
        refine wp_storeBh (.tmp 36) (.tmp 33) rfl _ k (by omega : 1283 + k * 5 = 1283 + 5 * k) hlt (by with_unfolding_all rfl) H2.out (⟨46, (k / 8 % 8 : Nat), (k % 8 : Nat), 2, 0⟩ : OpV) (by with_unfolding_all rfl) ?_
        intro w3 H3 K3
        have K4 := hid_ (K2.out.trans K3.out)
        clear H2 K2 K3 c2
        refine hK.out _ _ ?_
        clear hK K
        (try simp only [Act.put, List.getElem_toArray, List.getElem_cons_succ, List.getElem_cons_zero, List.setIfInBounds_toArray, List.set_cons_zero, List.set_cons_succ])
        refine wpAnyT_done (by kernel_rfl) ?_ _
        go_wp2_with fail
        go_roundw
        case rel => exact ⟨k + 1, by omega, by go_num, by have := H3.out; rw [← HO.out, ← HB.out, upF_set _ _ hlt, upF_set _ _ hlt] at this; exact this, K4⟩
        case measure => simp [intOf]; omega
    · obtain rfl : k = 256 := by omega
      rw [upF_all, upF_all] at H0
      go_wp2_with (first
        | ((with_reducible refine wpList_storePl (op := ⟨none, .store 46 (.tmp 64) (.tmp 61), _, _, _, _⟩) rfl (.tmp 64) (.tmp 61) rfl _ 118 (by omega : 593 = 3 + 5 * 118) (by omega) (by with_unfolding_all rfl) H0.out ⟨3, 0, 0, 1, 0⟩ (by with_unfolding_all rfl) ?_); intro w1 H1 s1; have K1 := hid_ (K0.out.trans s1.out); clear H0 K0 s1)
        | (go_at_call 92; refine (plans_any _).mono ?_; rintro e w2 ⟨pg, vs, rfl, hvs, hP, hrows, hbel⟩; have H2 : Hid (TabIs w2 g d s (PJ 0) behindL) := H1.out.below hbel H1.out.lt; have K2 := hid_ (K1.out.trans (Step.of hbel (Nat.le_refl _))); have HP := hid_ hP; have HR := hid_ hrows; have HV := hid_ hvs; clear hP hrows hvs hbel H1 K1))
      have HX := hid_ hlt
      clear hlt
      go_loopw [67] (fun i wr => ∃ j : Nat, j ≤ 41 ∧ i = .int .i64 j ∧ Hid (TabIs wr g d s (PJ j) behindL) ∧ Hid (Step (· = g) w2 wr)) (fun i _ => 41 - (intOf i).toNat)
      case atStart => exact ⟨0, by omega, rfl, H2, Step.refl _ _⟩
      case round =>
        obtain ⟨j, hj, rfl, H3, K3⟩ := hrel
        by_cases hjl : j < 41
        · skip
          obtain ⟨wo, rfl⟩ : ∃ wo : World, wo = wr := ⟨_, rfl⟩
          obtain ⟨p, v, hp, hq⟩ := zip_at vs HV.out j hjl
          have hpm : p ∈ plansL := List.mem_of_getElem? hp
          obtain ⟨hm8, hb16, hat, hin, hxl⟩ := planOk p hpm
          have HQ := hid_ ((HR.out (p, v) (List.mem_of_getElem? hq)).step H2.out K3.out)
          have hpg : ¬ pg = g := H2.out.ne HP.out (by decide)
          have HP3 := hid_ (HP.out.step K3.out hpg)
          have HL : Hid ((((plansL.zip vs).flatMap rowP).toArray.toList.drop (j * 6)).take 6 = rowP (p, v)) := hid_ (by rw [Nat.mul_comm]; exact chunk_at rowP 6 rowP_length _ j _ hq)
          have HPS := hid_ (PJ_succ j p hp)
          have HIN := hid_ hin
          have HXL := hid_ hxl
          have HO1 := hid_ (rowP_one HQ.out)
          have j0 : (0 : Int) ≤ (j : Int) := by omega
          have j1 : (j : Int) < 41 := by omega
          clear hp hq hin hxl hpm
          go_wp2_with (first
            | (with_reducible refine wpList_loadM (op := ⟨some 70, _, _, _, _, _⟩) rfl 187 (.tmp 69) rfl pg (j * 6) (by with_unfolding_all rfl) _ _ HP3.out (rowP (p, v)) (by with_unfolding_all exact HL.out) _ Tryz.underlying187 rfl (by with_unfolding_all exact size187) ?_)
            | ((with_reducible refine wpList_allocA (op := ⟨some 6, _, _, _, _, _⟩) rfl 187 rfl #[.int .i64 0, .int .i64 0, .int .i64 0, .int .i64 0, .int .i64 0, .slice none 0 0] zero187 ?_); intro w4 HB4 HW4 hq4; have H4 := hid_ (H3.out.below HW4.out H3.out.lt); have K4 := hid_ (K3.out.trans (Step.of HW4.out (Nat.le_refl _))); have hgp : ¬ wo.heap.size = g := Nat.ne_of_gt H3.out.lt; have hz3 := hid_ K3.out.size; clear H3 K3)
            | ((with_reducible refine wpList_storeM (op := ⟨none, .store 187 (.tmp 6) (.tmp 70), _, _, _, _⟩) rfl 187 (.tmp 6) (.tmp 70) rfl wo.heap.size 0 (by with_unfolding_all rfl) _ _ HB4.out (rowP (p, v)) (by with_unfolding_all rfl) (by with_unfolding_all exact size187) HO1.out (by with_unfolding_all exact Nat.le_refl 6) (rowP (p, v)).toArray (by with_unfolding_all rfl) ?_); intro w5 HB5 s5; have H5 := hid_ (H4.out.step s5.out (fun e => hgp e.symm)); have hb5 := hid_ (HW4.out.trans (s5.out.below (Nat.le_of_lt hq4) (fun k hk => Nat.le_of_eq hk.symm))); have HQ5 := hid_ (HQ.out.below hb5.out (Nat.le_refl _)); have K5 := hid_ (K4.out.trans' s5.out (fun k hk e => by have := hz3.out; omega)); have c2 := HB5.out.cell 2; simp [rowP] at c2; clear H4 K4 HB4 HQ))
          clear c2
          go_loopw [73] (fun i wr => ∃ n : Nat, n ≤ p.many ∧ i = .int .i64 n ∧ Hid (TabIs wr g d s (lay1 p (PJ j) n) behindL) ∧ Hid (Step (· = g) w5 wr)) (fun i _ => p.many - (intOf i).toNat)
          case atStart => exact ⟨0, by omega, rfl, H5, Step.refl _ _⟩
          case round =>
            skip
            obtain ⟨n, hn, rfl, H6, K6⟩ := hrel
            by_cases hnl : n < p.many
            · have hbb := HIN.out n hnl
              obtain ⟨t, ht⟩ : ∃ t, p.by_ * n = t := ⟨_, rfl⟩
              rw [ht] at hbb
              have em : ((p.by_ : Nat) : Int) * ((n : Nat) : Int) = (t : Int) := by rw [← ht]; push_cast; rfl
              have HT := hid_ ht
              obtain ⟨u, hu⟩ : ∃ u, p.at_ + t = u := ⟨_, rfl⟩
              rw [hu] at hbb
              have ew1 : IntKind.i64.wrap (t : Int) = (t : Int) := IntWalk.i64_in _ (by omega)
              have ew2 : IntKind.i64.wrap (((p.at_ : Nat) : Int) + (t : Int)) = (u : Int) := by rw [IntWalk.i64_in _ (by omega), ← hu]; push_cast; rfl
              have HU := hid_ hu
              have u0 : (0 : Int) ≤ (u : Int) := by omega
              have u1 : (u : Int) < 256 := by omega
              have n0 : (0 : Int) ≤ (n : Int) := by omega
              have n1 : (n : Int) < (p.many : Int) := by omega
              have n2 : (n : Int) ≤ 7 := by omega
              have HB6 := hid_ (HB5.out.step K6.out hgp)
              have HQ6 := hid_ (HQ5.out.step H5.out K6.out)
              clear ht hu
              rcases HQ6.out with ⟨hx0, hv0⟩ | ⟨hx1, bx, hv1, hbx⟩
              · subst hv0
                have ns := fun W => run_neq_slice_nil_any (P := Tryz.prog) W 183 3 none 0 0 0 0 Tryz.underlying183
                have b3 := HB6.out.cell 3
                have b4 := HB6.out.cell 4
                simp [rowP] at b3 b4
                go_wp2_with (first
                  | ((with_reducible refine wpList_allocA (op := ⟨some 8, _, _, _, _, _⟩) rfl 46 rfl #[.int .i64 0, .int .i64 0, .int .i64 0, .int .i64 0, .int .u16 0] zero46 ?_); intro w7 HO7 HW7 hq7; have H7 := hid_ (H6.out.below HW7.out H6.out.lt); have HB7 := hid_ (HB6.out.below HW7.out HB6.out.lt); have K7 := hid_ (K6.out.trans (Step.of HW7.out (Nat.le_refl _))); have hgo : ¬ wr.heap.size = g := Nat.ne_of_gt H6.out.lt; have hop : ¬ wo.heap.size = wr.heap.size := Nat.ne_of_lt HB6.out.lt; have hz6 := hid_ K6.out.size; clear H6 K6 HB6)
                  | ((with_reducible refine wpList_storeM (op := ⟨none, .store 46 (.tmp 8) (.tmp 80), _, _, _, _⟩) rfl 46 (.tmp 8) (.tmp 80) rfl wr.heap.size 0 (by with_unfolding_all rfl) _ _ HO7.out (⟨p.kind, 0, 0, p.size, 0⟩ : OpV).list (by with_unfolding_all rfl) (by with_unfolding_all exact size46) (OpV.list_one _) (by with_unfolding_all exact Nat.le_refl 5) (⟨p.kind, 0, 0, p.size, 0⟩ : OpV).list.toArray (by with_unfolding_all rfl) ?_); intro w8 HO8 s8; have H8 := hid_ (H7.out.step s8.out (fun e => hgo e.symm)); have HB8 := hid_ (HB7.out.step s8.out hop); have K8 := hid_ (K7.out.trans' s8.out (fun k hk e => by have := hz6.out; omega)); have b0 := HB8.out.cell 0; have b1 := HB8.out.cell 1; have b5 := HB8.out.cell 5; simp [rowP] at b0 b1 b5; clear H7 K7 HO7 HB7 b3 b4))
                refine wp_region_tail (S := (fun W => Blk W wo.heap.size 187 (rowP (p, .slice none 0 0)).toArray ∧ Blk W wr.heap.size 46 (⟨p.kind, 0, 0, p.size, 0⟩ : OpV).list.toArray)) (tail := (fun j => decide (12 ≤ j))) (by kernel_rfl) ?hS1 (fun hHeld => ?rest1)
                case hS1 => (exact ⟨HB8.out.drew, HO8.out.drew⟩)
                refine wpAnyT_take (i := 0) (v := ?v2) rfl (by kernel_rfl) (by kernel_rfl) (by kernel_rfl) (by kernel_rfl) (by kernel_rfl) (fun _ _ _ h => h) (Or.inl ⟨by rfl, ?hy2⟩) (by assumption) ?rest2
                case hy2 => (intro w hSw; (try simp only [List.getElem_toArray, List.getElem_cons_succ, List.getElem_cons_zero]); (try dsimp only at hSw); go_simp; all_goals (with_reducible rfl))
                (try simp only [Act.put, List.getElem_toArray, List.getElem_cons_succ, List.getElem_cons_zero, List.setIfInBounds_toArray, List.set_cons_zero, List.set_cons_succ])
                refine wpAnyT_take (i := 1) (v := ?v3) rfl (by kernel_rfl) (by kernel_rfl) (by kernel_rfl) (by kernel_rfl) (by kernel_rfl) (fun _ _ _ h => h) (Or.inl ⟨by rfl, ?hy3⟩) (by assumption) ?rest3
                case hy3 => (intro w hSw; (try simp only [List.getElem_toArray, List.getElem_cons_succ, List.getElem_cons_zero]); (try dsimp only at hSw); go_simp; all_goals (with_reducible rfl))
                (try simp only [Act.put, List.getElem_toArray, List.getElem_cons_succ, List.getElem_cons_zero, List.setIfInBounds_toArray, List.set_cons_zero, List.set_cons_succ])
                refine wpAnyT_take (i := 2) (v := ?v4) rfl (by kernel_rfl) (by kernel_rfl) (by kernel_rfl) (by kernel_rfl) (by kernel_rfl) (fun _ _ _ h => h) (Or.inl ⟨by rfl, ?hy4⟩) (by assumption) ?rest4
                case hy4 => (intro W hW; have c := hW.1.cell 0; simp [rowP] at c; (try simp only [List.getElem_toArray, List.getElem_cons_succ, List.getElem_cons_zero]); go_simp; all_goals (with_reducible rfl))
                (try simp only [Act.put, List.getElem_toArray, List.getElem_cons_succ, List.getElem_cons_zero, List.setIfInBounds_toArray, List.set_cons_zero, List.set_cons_succ])
                refine wpAnyT_take (i := 3) (v := ?v5) rfl (by kernel_rfl) (by kernel_rfl) (by kernel_rfl) (by kernel_rfl) (by kernel_rfl) (fun _ _ _ h => h) (Or.inl ⟨by rfl, ?hy5⟩) (by assumption) ?rest5
                case hy5 => (intro w hSw; (try simp only [List.getElem_toArray, List.getElem_cons_succ, List.getElem_cons_zero]); (try dsimp only at hSw); go_simp; all_goals (with_reducible rfl))
                (try simp only [Act.put, List.getElem_toArray, List.getElem_cons_succ, List.getElem_cons_zero, List.setIfInBounds_toArray, List.set_cons_zero, List.set_cons_succ])
                refine wpAnyT_take (i := 4) (v := ?v6) rfl (by kernel_rfl) (by kernel_rfl) (by kernel_rfl) (by kernel_rfl) (by kernel_rfl) (fun _ _ _ h => h) (Or.inl ⟨by rfl, ?hy6⟩) (by assumption) ?rest6
                case hy6 => (intro W hW; have c := hW.1.cell 1; simp [rowP] at c; (try simp only [List.getElem_toArray, List.getElem_cons_succ, List.getElem_cons_zero]); go_simp; all_goals (with_reducible rfl))
                (try simp only [Act.put, List.getElem_toArray, List.getElem_cons_succ, List.getElem_cons_zero, List.setIfInBounds_toArray, List.set_cons_zero, List.set_cons_succ])
                refine wpAnyT_take (i := 5) (v := ?v7) rfl (by kernel_rfl) (by kernel_rfl) (by kernel_rfl) (by kernel_rfl) (by kernel_rfl) (fun _ _ _ h => h) (Or.inl ⟨by rfl, ?hy7⟩) (by assumption) ?rest7
                case hy7 => (intro w hSw; (try simp only [List.getElem_toArray, List.getElem_cons_succ, List.getElem_cons_zero]); (try dsimp only at hSw); go_simp; all_goals (with_reducible rfl))
                (try simp only [Act.put, List.getElem_toArray, List.getElem_cons_succ, List.getElem_cons_zero, List.setIfInBounds_toArray, List.set_cons_zero, List.set_cons_succ])
                refine wpAnyT_take (i := 6) (v := ?v8) rfl (by kernel_rfl) (by kernel_rfl) (by kernel_rfl) (by kernel_rfl) (by kernel_rfl) (fun _ _ _ h => h) (Or.inl ⟨by rfl, ?hy8⟩) (by assumption) ?rest8
                case hy8 => (intro w hSw; (try simp only [List.getElem_toArray, List.getElem_cons_succ, List.getElem_cons_zero]); (try dsimp only at hSw); go_simp; all_goals (with_reducible rfl))
                (try simp only [Act.put, List.getElem_toArray, List.getElem_cons_succ, List.getElem_cons_zero, List.setIfInBounds_toArray, List.set_cons_zero, List.set_cons_succ])
                refine wpAnyT_take (i := 7) (v := ?v9) rfl (by kernel_rfl) (by kernel_rfl) (by kernel_rfl) (by kernel_rfl) (by kernel_rfl) (fun _ _ _ h => h) (Or.inl ⟨by rfl, ?hy9⟩) (by assumption) ?rest9
                case hy9 => (intro w hSw; (try simp only [List.getElem_toArray, List.getElem_cons_succ, List.getElem_cons_zero]); (try dsimp only at hSw); go_simp; all_goals (with_reducible rfl))
                (try simp only [Act.put, List.getElem_toArray, List.getElem_cons_succ, List.getElem_cons_zero, List.setIfInBounds_toArray, List.set_cons_zero, List.set_cons_succ])
                refine wpAnyT_take (i := 8) (v := _) rfl (by kernel_rfl) (by kernel_rfl) (by kernel_rfl) (by kernel_rfl) (by kernel_rfl) (fun _ _ _ h => h) (yieldsIf_load_mid (by rfl) 46 (.tmp 8) rfl wr.heap.size 0 (by rfl) (⟨p.kind, 0, 0, p.size, 0⟩ : OpV).list _ (fun w hw => toArray_range hw.2 (by with_unfolding_all rfl)) Tryz.underlying46 rfl (by with_unfolding_all exact size46)) (by assumption) ?rest10
                (try simp only [Act.put, List.getElem_toArray, List.getElem_cons_succ, List.getElem_cons_zero, List.setIfInBounds_toArray, List.set_cons_zero, List.set_cons_succ])
                refine wpAnyT_take (i := 9) (v := ?v11) rfl (by kernel_rfl) (by kernel_rfl) (by kernel_rfl) (by kernel_rfl) (by kernel_rfl) (fun _ _ _ h => h) (Or.inl ⟨by rfl, ?hy11⟩) (by assumption) ?rest11
                case hy11 => (intro w hSw; (try simp only [List.getElem_toArray, List.getElem_cons_succ, List.getElem_cons_zero]); (try dsimp only at hSw); go_simp; all_goals (with_reducible rfl))
                (try simp only [Act.put, List.getElem_toArray, List.getElem_cons_succ, List.getElem_cons_zero, List.setIfInBounds_toArray, List.set_cons_zero, List.set_cons_succ])
                refine wpAnyT_take (i := 10) (v := ?v12) rfl (by kernel_rfl) (by kernel_rfl) (by kernel_rfl) (by kernel_rfl) (by kernel_rfl) (fun _ _ _ h => h) (Or.inl ⟨by rfl, ?hy12⟩) (by assumption) ?rest12
                case hy12 => (intro w hSw; (try simp only [List.getElem_toArray, List.getElem_cons_succ, List.getElem_cons_zero]); (try dsimp only at hSw); go_simp; all_goals (with_reducible rfl))
                (try simp only [Act.put, List.getElem_toArray, List.getElem_cons_succ, List.getElem_cons_zero, List.setIfInBounds_toArray, List.set_cons_zero, List.set_cons_succ])
                refine wpAnyT_take (i := 11) (v := ?v13) rfl (by kernel_rfl) (by kernel_rfl) (by kernel_rfl) (by kernel_rfl) (by kernel_rfl) (fun _ _ _ h => h) (Or.inl ⟨by rfl, ?hy13⟩) (by assumption) ?rest13
                case hy13 => (intro w hSw; (try simp only [List.getElem_toArray, List.getElem_cons_succ, List.getElem_cons_zero]); (try dsimp only at hSw); go_simp; all_goals (with_reducible rfl))
                (try simp only [Act.put, List.getElem_toArray, List.getElem_cons_succ, List.getElem_cons_zero, List.setIfInBounds_toArray, List.set_cons_zero, List.set_cons_succ])
                refine wpAnyT_last (i := 12) rfl (by kernel_rfl) rfl (fun K hK => ?_)
                (try simp only [List.getElem_toArray, List.getElem_cons_succ, List.getElem_cons_zero])
                refine want rfl ?_
                refine wp_storePl (.tmp 101) (.tmp 98) rfl (3 + u * 5) u (by omega) hbb (by with_unfolding_all rfl) (⟨H8.out.1.drew, H8.out.2⟩ : TabIs w8.drew g d s (lay1 p (PJ j) n) behindL) (⟨p.kind, 0, 0, p.size, 0⟩ : OpV) (by with_unfolding_all rfl) ?_
                intro w10 H10 s10
                refine hK.out _ _ ?_
                clear hK K
                (try simp only [Act.put, List.getElem_toArray, List.getElem_cons_succ, List.getElem_cons_zero, List.setIfInBounds_toArray, List.set_cons_zero, List.set_cons_succ])
                refine wpAnyT_done (by kernel_rfl) ?_ _
                have K10 := hid_ (K8.out.drew.trans s10.out)
                go_wp2_with fail
                go_roundw
                case rel => exact ⟨n + 1, by omega, by go_num, hid_ (by have := H10.out; rw [← HU.out, ← HT.out] at this; rw [lay1]; rw [hx0]; exact this), K10⟩
                case measure => simp [intOf]; omega
              · have hxm : p.x.length = p.many := HXL.out.resolve_left hx1
                simp only at hv1 hbx
                subst hv1
                have hcx : (p.x.map (Value.int .i64)).toArray[n]? = some (.int .i64 (p.x.getD n 0)) := by rw [List.getElem?_toArray, List.getElem?_map, List.getD_eq_getElem?_getD, List.getElem?_eq_getElem (by omega)]; rfl
                have HCX := hid_ hcx
                have n3 : (n : Int) < (p.x.length : Int) := by omega
                have HXM := hid_ hxm
                clear hcx hxm
                have ns := fun W => run_neq_slice_nil_any (P := Tryz.prog) W 183 3 (some ⟨bx, 0, none⟩) p.x.length p.x.length 0 0 Tryz.underlying183
                have b3 := HB6.out.cell 3
                have b4 := HB6.out.cell 4
                simp [rowP] at b3 b4
                go_wp2_with (first
                  | ((with_reducible refine wpList_allocA (op := ⟨some 8, _, _, _, _, _⟩) rfl 46 rfl #[.int .i64 0, .int .i64 0, .int .i64 0, .int .i64 0, .int .u16 0] zero46 ?_); intro w7 HO7 HW7 hq7; have H7 := hid_ (H6.out.below HW7.out H6.out.lt); have HB7 := hid_ (HB6.out.below HW7.out HB6.out.lt); have K7 := hid_ (K6.out.trans (Step.of HW7.out (Nat.le_refl _))); have hgo : ¬ wr.heap.size = g := Nat.ne_of_gt H6.out.lt; have hop : ¬ wo.heap.size = wr.heap.size := Nat.ne_of_lt HB6.out.lt; have hz6 := hid_ K6.out.size; clear H6 K6 HB6)
                  | ((with_reducible refine wpList_storeM (op := ⟨none, .store 46 (.tmp 8) (.tmp 80), _, _, _, _⟩) rfl 46 (.tmp 8) (.tmp 80) rfl wr.heap.size 0 (by with_unfolding_all rfl) _ _ HO7.out (⟨p.kind, 0, 0, p.size, 0⟩ : OpV).list (by with_unfolding_all rfl) (by with_unfolding_all exact size46) (OpV.list_one _) (by with_unfolding_all exact Nat.le_refl 5) (⟨p.kind, 0, 0, p.size, 0⟩ : OpV).list.toArray (by with_unfolding_all rfl) ?_); intro w8 HO8 s8; have H8 := hid_ (H7.out.step s8.out (fun e => hgo e.symm)); have HB8 := hid_ (HB7.out.step s8.out hop); have K8 := hid_ (K7.out.trans' s8.out (fun k hk e => by have := hz6.out; omega)); have b0 := HB8.out.cell 0; have b1 := HB8.out.cell 1; have b5 := HB8.out.cell 5; simp [rowP] at b0 b1 b5; have cx := ((hbx.below HW7.out hbx.lt).step s8.out (Nat.ne_of_lt hbx.lt)).cell n; rw [HCX.out] at cx; clear H7 K7 HO7 HB7 b3 b4)
                  | ((with_reducible refine wpList_storeC (op := ⟨none, .store 3 (.tmp 89) (.tmp 88), _, _, _, _⟩) rfl 3 (.tmp 89) (.tmp 88) rfl wr.heap.size 1 (by with_unfolding_all rfl) _ _ HO8.out (.int .i64 (p.x.getD n 0)) (by with_unfolding_all rfl) rfl size3 rfl (by with_unfolding_all exact (by decide : 1 < 5)) (⟨p.kind, p.x.getD n 0, 0, p.size, 0⟩ : OpV).list.toArray (by with_unfolding_all rfl) ?_); intro w9 HO9 s9; have H9 := hid_ (H8.out.step s9.out (fun e => hgo e.symm)); have HB9 := hid_ (HB8.out.step s9.out hop); have K9 := hid_ (K8.out.trans' s9.out (fun k hk e => by have := hz6.out; omega)); clear H8 K8 HO8 HB8 b0 b1 b5 cx))
                refine wp_region_tail (S := (fun W => Blk W wo.heap.size 187 (rowP (p, .slice (some ⟨bx, 0, none⟩) p.x.length p.x.length)).toArray ∧ Blk W wr.heap.size 46 (⟨p.kind, p.x.getD n 0, 0, p.size, 0⟩ : OpV).list.toArray)) (tail := (fun j => decide (12 ≤ j))) (by kernel_rfl) ?hS14 (fun hHeld => ?rest14)
                case hS14 => (exact ⟨HB9.out.drew, HO9.out.drew⟩)
                refine wpAnyT_take (i := 0) (v := ?v15) rfl (by kernel_rfl) (by kernel_rfl) (by kernel_rfl) (by kernel_rfl) (by kernel_rfl) (fun _ _ _ h => h) (Or.inl ⟨by rfl, ?hy15⟩) (by assumption) ?rest15
                case hy15 => (intro w hSw; (try simp only [List.getElem_toArray, List.getElem_cons_succ, List.getElem_cons_zero]); (try dsimp only at hSw); go_simp; all_goals (with_reducible rfl))
                (try simp only [Act.put, List.getElem_toArray, List.getElem_cons_succ, List.getElem_cons_zero, List.setIfInBounds_toArray, List.set_cons_zero, List.set_cons_succ])
                refine wpAnyT_take (i := 1) (v := ?v16) rfl (by kernel_rfl) (by kernel_rfl) (by kernel_rfl) (by kernel_rfl) (by kernel_rfl) (fun _ _ _ h => h) (Or.inl ⟨by rfl, ?hy16⟩) (by assumption) ?rest16
                case hy16 => (intro w hSw; (try simp only [List.getElem_toArray, List.getElem_cons_succ, List.getElem_cons_zero]); (try dsimp only at hSw); go_simp; all_goals (with_reducible rfl))
                (try simp only [Act.put, List.getElem_toArray, List.getElem_cons_succ, List.getElem_cons_zero, List.setIfInBounds_toArray, List.set_cons_zero, List.set_cons_succ])
                refine wpAnyT_take (i := 2) (v := ?v17) rfl (by kernel_rfl) (by kernel_rfl) (by kernel_rfl) (by kernel_rfl) (by kernel_rfl) (fun _ _ _ h => h) (Or.inl ⟨by rfl, ?hy17⟩) (by assumption) ?rest17
                case hy17 => (intro W hW; have c := hW.1.cell 0; simp [rowP] at c; (try simp only [List.getElem_toArray, List.getElem_cons_succ, List.getElem_cons_zero]); go_simp; all_goals (with_reducible rfl))
                (try simp only [Act.put, List.getElem_toArray, List.getElem_cons_succ, List.getElem_cons_zero, List.setIfInBounds_toArray, List.set_cons_zero, List.set_cons_succ])
                refine wpAnyT_take (i := 3) (v := ?v18) rfl (by kernel_rfl) (by kernel_rfl) (by kernel_rfl) (by kernel_rfl) (by kernel_rfl) (fun _ _ _ h => h) (Or.inl ⟨by rfl, ?hy18⟩) (by assumption) ?rest18
                case hy18 => (intro w hSw; (try simp only [List.getElem_toArray, List.getElem_cons_succ, List.getElem_cons_zero]); (try dsimp only at hSw); go_simp; all_goals (with_reducible rfl))
                (try simp only [Act.put, List.getElem_toArray, List.getElem_cons_succ, List.getElem_cons_zero, List.setIfInBounds_toArray, List.set_cons_zero, List.set_cons_succ])
                refine wpAnyT_take (i := 4) (v := ?v19) rfl (by kernel_rfl) (by kernel_rfl) (by kernel_rfl) (by kernel_rfl) (by kernel_rfl) (fun _ _ _ h => h) (Or.inl ⟨by rfl, ?hy19⟩) (by assumption) ?rest19
                case hy19 => (intro W hW; have c := hW.1.cell 1; simp [rowP] at c; (try simp only [List.getElem_toArray, List.getElem_cons_succ, List.getElem_cons_zero]); go_simp; all_goals (with_reducible rfl))
                (try simp only [Act.put, List.getElem_toArray, List.getElem_cons_succ, List.getElem_cons_zero, List.setIfInBounds_toArray, List.set_cons_zero, List.set_cons_succ])
                refine wpAnyT_take (i := 5) (v := ?v20) rfl (by kernel_rfl) (by kernel_rfl) (by kernel_rfl) (by kernel_rfl) (by kernel_rfl) (fun _ _ _ h => h) (Or.inl ⟨by rfl, ?hy20⟩) (by assumption) ?rest20
                case hy20 => (intro w hSw; (try simp only [List.getElem_toArray, List.getElem_cons_succ, List.getElem_cons_zero]); (try dsimp only at hSw); go_simp; all_goals (with_reducible rfl))
                (try simp only [Act.put, List.getElem_toArray, List.getElem_cons_succ, List.getElem_cons_zero, List.setIfInBounds_toArray, List.set_cons_zero, List.set_cons_succ])
                refine wpAnyT_take (i := 6) (v := ?v21) rfl (by kernel_rfl) (by kernel_rfl) (by kernel_rfl) (by kernel_rfl) (by kernel_rfl) (fun _ _ _ h => h) (Or.inl ⟨by rfl, ?hy21⟩) (by assumption) ?rest21
                case hy21 => (intro w hSw; (try simp only [List.getElem_toArray, List.getElem_cons_succ, List.getElem_cons_zero]); (try dsimp only at hSw); go_simp; all_goals (with_reducible rfl))
                (try simp only [Act.put, List.getElem_toArray, List.getElem_cons_succ, List.getElem_cons_zero, List.setIfInBounds_toArray, List.set_cons_zero, List.set_cons_succ])
                refine wpAnyT_take (i := 7) (v := ?v22) rfl (by kernel_rfl) (by kernel_rfl) (by kernel_rfl) (by kernel_rfl) (by kernel_rfl) (fun _ _ _ h => h) (Or.inl ⟨by rfl, ?hy22⟩) (by assumption) ?rest22
                case hy22 => (intro w hSw; (try simp only [List.getElem_toArray, List.getElem_cons_succ, List.getElem_cons_zero]); (try dsimp only at hSw); go_simp; all_goals (with_reducible rfl))
                (try simp only [Act.put, List.getElem_toArray, List.getElem_cons_succ, List.getElem_cons_zero, List.setIfInBounds_toArray, List.set_cons_zero, List.set_cons_succ])
                refine wpAnyT_take (i := 8) (v := _) rfl (by kernel_rfl) (by kernel_rfl) (by kernel_rfl) (by kernel_rfl) (by kernel_rfl) (fun _ _ _ h => h) (yieldsIf_load_mid (by rfl) 46 (.tmp 8) rfl wr.heap.size 0 (by rfl) (⟨p.kind, p.x.getD n 0, 0, p.size, 0⟩ : OpV).list _ (fun w hw => toArray_range hw.2 (by with_unfolding_all rfl)) Tryz.underlying46 rfl (by with_unfolding_all exact size46)) (by assumption) ?rest23
                (try simp only [Act.put, List.getElem_toArray, List.getElem_cons_succ, List.getElem_cons_zero, List.setIfInBounds_toArray, List.set_cons_zero, List.set_cons_succ])
                refine wpAnyT_take (i := 9) (v := ?v24) rfl (by kernel_rfl) (by kernel_rfl) (by kernel_rfl) (by kernel_rfl) (by kernel_rfl) (fun _ _ _ h => h) (Or.inl ⟨by rfl, ?hy24⟩) (by assumption) ?rest24
                case hy24 => (intro w hSw; (try simp only [List.getElem_toArray, List.getElem_cons_succ, List.getElem_cons_zero]); (try dsimp only at hSw); go_simp; all_goals (with_reducible rfl))
                (try simp only [Act.put, List.getElem_toArray, List.getElem_cons_succ, List.getElem_cons_zero, List.setIfInBounds_toArray, List.set_cons_zero, List.set_cons_succ])
                refine wpAnyT_take (i := 10) (v := ?v25) rfl (by kernel_rfl) (by kernel_rfl) (by kernel_rfl) (by kernel_rfl) (by kernel_rfl) (fun _ _ _ h => h) (Or.inl ⟨by rfl, ?hy25⟩) (by assumption) ?rest25
                case hy25 => (intro w hSw; (try simp only [List.getElem_toArray, List.getElem_cons_succ, List.getElem_cons_zero]); (try dsimp only at hSw); go_simp; all_goals (with_reducible rfl))
                (try simp only [Act.put, List.getElem_toArray, List.getElem_cons_succ, List.getElem_cons_zero, List.setIfInBounds_toArray, List.set_cons_zero, List.set_cons_succ])
                refine wpAnyT_take (i := 11) (v := ?v26) rfl (by kernel_rfl) (by kernel_rfl) (by kernel_rfl) (by kernel_rfl) (by kernel_rfl) (fun _ _ _ h => h) (Or.inl ⟨by rfl, ?hy26⟩) (by assumption) ?rest26
                case hy26 => (intro w hSw; (try simp only [List.getElem_toArray, List.getElem_cons_succ, List.getElem_cons_zero]); (try dsimp only at hSw); go_simp; all_goals (with_reducible rfl))
                (try simp only [Act.put, List.getElem_toArray, List.getElem_cons_succ, List.getElem_cons_zero, List.setIfInBounds_toArray, List.set_cons_zero, List.set_cons_succ])
                refine wpAnyT_last (i := 12) rfl (by kernel_rfl) rfl (fun K hK => ?_)
                (try simp only [List.getElem_toArray, List.getElem_cons_succ, List.getElem_cons_zero])
                refine want rfl ?_
                refine wp_storePl (.tmp 101) (.tmp 98) rfl (3 + u * 5) u (by omega) hbb (by with_unfolding_all rfl) (⟨H9.out.1.drew, H9.out.2⟩ : TabIs w9.drew g d s (lay1 p (PJ j) n) behindL) (⟨p.kind, p.x.getD n 0, 0, p.size, 0⟩ : OpV) (by with_unfolding_all rfl) ?_
                intro w10 H10 s10
                refine hK.out _ _ ?_
                clear hK K
                (try simp only [Act.put, List.getElem_toArray, List.getElem_cons_succ, List.getElem_cons_zero, List.setIfInBounds_toArray, List.set_cons_zero, List.set_cons_succ])
                refine wpAnyT_done (by kernel_rfl) ?_ _
                have K10 := hid_ (K9.out.drew.trans s10.out)
                go_wp2_with fail
                go_roundw
                case rel => exact ⟨n + 1, by omega, by go_num, hid_ (by have := H10.out; rw [← HU.out, ← HT.out] at this; rw [lay1]; skip; exact this), K10⟩
                case measure => simp [intOf]; omega
            · obtain rfl : n = p.many := by omega
              go_wp2_with fail
              go_roundw
              case rel => exact ⟨j + 1, by omega, by go_num, hid_ (by rw [HPS.out]; exact H6.out), hid_ (K5.out.trans K6.out)⟩
              case measure => simp [intOf]; omega
        · obtain rfl : j = 41 := by omega
          obtain ⟨cc, hcc⟩ : ∃ cc : Int, cc = ((41 : Nat) : Int) := ⟨_, rfl⟩
          rw [← hcc]
          have hcl : ¬ cc < 41 := by omega
          clear hcc
          obtain ⟨wo, rfl⟩ : ∃ wo : World, wo = wr := ⟨_, rfl⟩
          go_wp2_with fail
          go_loopw [104] (fun i wr => ∃ k : Nat, k ≤ 8 ∧ i = .int .i64 k ∧ Hid (TabIs wr g d s (rsts (PJ 41) k) behindL) ∧ Hid (Step (· = g) w2 wr)) (fun i _ => 8 - (intOf i).toNat)
          case atStart => exact ⟨0, by omega, rfl, H3, K3⟩
          case round =>
            obtain ⟨k, hk, rfl, H6, K6⟩ := hrel
            by_cases hkl : k < 8
            · obtain ⟨t, ht⟩ : ∃ t, 8 * k = t := ⟨_, rfl⟩
              have em : (8 : Int) * ((k : Nat) : Int) = (t : Int) := by rw [← ht]; push_cast; rfl
              obtain ⟨u, hu⟩ : ∃ u, 199 + t = u := ⟨_, rfl⟩
              have ew1 : IntKind.i64.wrap (t : Int) = (t : Int) := IntWalk.i64_in _ (by omega)
              have ew2 : IntKind.i64.wrap (199 + (t : Int)) = (u : Int) := by rw [IntWalk.i64_in _ (by omega), ← hu]; push_cast; rfl
              have ew3 : IntKind.u16.wrap (t : Int) = (t : Int) := by simp [IntKind.wrap, IntKind.signed, IntKind.bits]; omega
              have u0 : (0 : Int) ≤ (u : Int) := by omega
              have u1 : (u : Int) < 256 := by omega
              have u2 : u < 256 := by omega
              have k1 : (k : Int) < 8 := by omega
              have HT := hid_ ht
              have HU := hid_ hu
              have EM := hid_ em
              clear ht hu
              go_wp2_with (first
                | ((with_reducible refine wpList_storePl (op := ⟨none, .store 46 (.tmp 117) (.tmp 114), _, _, _, _⟩) rfl (.tmp 117) (.tmp 114) rfl _ u (by omega : 3 + u * 5 = 3 + 5 * u) u2 (by with_unfolding_all rfl) H6.out ⟨28, 0, 0, 1, (t : Int)⟩ (by with_unfolding_all rfl) ?_); intro w7 H7 s7; have K7 := hid_ (K6.out.trans s7.out); clear H6 K6 s7))
              go_roundw
              case rel => exact ⟨k + 1, by omega, by go_num, hid_ (by have := H7.out; rw [← EM.out, ← HU.out, ← HT.out] at this; exact this), K7⟩
              case measure => simp [intOf]; omega
            · obtain rfl : k = 8 := by omega
              go_wp2_with fail
              go_end0
              exact ⟨rfl, H6.out, K2.out.trans K6.out⟩
end Go.Proofs.YtglklbcohbeacaaGreat
