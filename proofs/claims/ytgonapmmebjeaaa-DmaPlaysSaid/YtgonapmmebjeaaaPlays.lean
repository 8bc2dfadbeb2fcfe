/- The law DmaPlays: its walk. -/
import Derived.Test.YtgonapmmebjeaaaIn
import Derived.Test.YtgonapmmebjeaaaTail2
namespace Go.Proofs.Ytgonapmmebjeaaa
open Go.RowKit
set_option linter.unusedSimpArgs false
set_option linter.unusedVariables false
namespace dmaPlays

set_option maxRecDepth 100000 in
set_option maxHeartbeats 4000000 in
theorem walkIn (b1 o1 len cap : Nat) (zs : List Int) (a1 : Int) (h60 : len ≤ 100) (ha : 0 ≤ a1) (ha' : a1 ≤ 65535) (w : World) (hb1 : b1 < w.heap.size)
    (hc1 : ∀ i, i < len → ∃ x : Int, zs.getD i 0 = x ∧ 0 ≤ x ∧ x ≤ 65535 ∧ w.cell? ⟨b1, o1 + i, none⟩ = some (.int .u16 x)) :
    Calls Try.prog 5 #[.slice (some ⟨b1, o1, none⟩) len cap, .int .u16 a1] w (Ret (.bool true) w) := by
  have HC1 := hid_ hc1
  clear hc1
  have q1 : decide (100 < (len : Int)) = false := by simp; omega
  go_enter Try.func5, Try.ntmps5
  go_wp2_with fail
  refine (awake_any _).mono ?_
  rintro e w1 ⟨rfl, hd1, hf1, hz1, hbw1⟩
  clear hd1 hf1
  go_wp2_with fail
  have hA0 := (Blk.new w1 24 #[.int .u8 0, .int .i64 0]).alloc (.cells #[.int .u8 0, .int .i64 0] 32)
  have hB0 : Blk ((w1.alloc (.cells #[.int .u8 0, .int .i64 0] 24)).alloc (.cells #[.int .u8 0, .int .i64 0] 32)) (w1.heap.size + 1) 32 #[.int .u8 0, .int .i64 0] := by
    simpa using Blk.new (w1.alloc (.cells #[.int .u8 0, .int .i64 0] 24)) 32 #[.int .u8 0, .int .i64 0]
  have hbel0 : Below w1.heap.size w1 ((w1.alloc (.cells #[.int .u8 0, .int .i64 0] 24)).alloc (.cells #[.int .u8 0, .int .i64 0] 32)) := ((Below.refl _ _).alloc (Nat.le_refl _) _).alloc (by simp) _
  go_loopw [26] (fun i wr => ∃ (k : Nat) (p l : Int), k ≤ len ∧ i = .int .i64 k ∧ 0 ≤ p ∧ p ≤ 255 ∧ 0 ≤ l ∧ l ≤ 160 ∧ Blk wr w1.heap.size 24 #[.int .u8 p, .int .i64 l] ∧ Blk wr (w1.heap.size + 1) 32 #[.int .u8 p, .int .i64 l] ∧ Below w1.heap.size w1 wr) (fun i _ => len - (intOf i).toNat)
  case atStart => exact ⟨0, 0, 0, by omega, rfl, by omega, by omega, by omega, by omega, hA0, hB0, hbel0⟩
  case round =>
    clear hA0 hB0 hbel0
    obtain ⟨k, p, l, hk, rfl, hp0, hp1, hl0, hl1, hA, hB, hbel⟩ := hrel
    by_cases hlt : k < len
    · obtain ⟨x, hx, hx0, hx1, cx⟩ := HC1.out k hlt
      clear hx
      have CX : Hid (w1.cell? ⟨b1, o1 + k, none⟩ = some (.int .u16 x)) := (hbw1.cell (p := ⟨b1, o1 + k, none⟩) hb1).trans cx
      have cx' := (hbel.cell (p := ⟨b1, o1 + k, none⟩) (by simp; omega)).trans CX.out
      have i0 : (0 : Int) ≤ (k : Int) := by omega
      have i1 : (k : Int) < (len : Int) := by omega
      have gA := hA.lt
      have gB := hB.lt
      have g1 : b1 < wr.heap.size := by omega
      obtain ⟨M, hM⟩ := Int.eq_ofNat_of_zero_le (by omega : 0 ≤ x % 64)
      have hM2 : M < 64 := by omega
      have HM := hid_ hM
      clear cx hM
      obtain ⟨c0, c1, f0, f1⟩ := hA.two
      obtain ⟨d0, d1, e0, e1⟩ := hB.two
      obtain ⟨X, hX⟩ : ∃ X, IntKind.u8.wrap (x / 256) = X := ⟨_, rfl⟩
      have hX0 : 0 ≤ X := by rw [← hX]; simp [IntKind.wrap, IntKind.signed, IntKind.bits]; omega
      have hX1 : X ≤ 255 := by rw [← hX]; simp [IntKind.wrap, IntKind.signed, IntKind.bits]; omega
      have HX := hid_ hX
      clear hX
      by_cases hq : x % 4 = 0
      · go_wp2_with fail
        refine wp_region_tail (S := (fun W => (∀ b o, b < wr.heap.size → W.cell? ⟨b, o, none⟩ = wr.cell? ⟨b, o, none⟩) ∧ Keeps wr W)) (tail := (fun j => decide (16 ≤ j))) (by kernel_rfl) ?hS1 (fun hHeld => ?rest1)
        case hS1 => (exact ⟨fun _ _ _ => rfl, (Keeps.refl _).drew⟩)
        refine wpAnyT_take (i := 0) (v := ?v2) rfl (by kernel_rfl) (by kernel_rfl) (by kernel_rfl) (by kernel_rfl) (by kernel_rfl) (fun _ _ _ h => h) (Or.inl ⟨by rfl, ?hy2⟩) (by assumption) ?rest2
        case hy2 => (intro w hSw; (try simp only [List.getElem_toArray, List.getElem_cons_succ, List.getElem_cons_zero]); (try dsimp only at hSw); go_simp; all_goals (with_reducible rfl))
        (try simp only [Act.put, List.getElem_toArray, List.getElem_cons_succ, List.getElem_cons_zero, List.setIfInBounds_toArray, List.set_cons_zero, List.set_cons_succ])
        refine wpAnyT_take (i := 1) (v := ?v3) rfl (by kernel_rfl) (by kernel_rfl) (by kernel_rfl) (by kernel_rfl) (by kernel_rfl) (fun _ _ _ h => h) (Or.inl ⟨by rfl, ?hy3⟩) (by assumption) ?rest3
        case hy3 => (intro w hSw; (try simp only [List.getElem_toArray, List.getElem_cons_succ, List.getElem_cons_zero]); (try dsimp only at hSw); go_simp; all_goals (with_reducible rfl))
        (try simp only [Act.put, List.getElem_toArray, List.getElem_cons_succ, List.getElem_cons_zero, List.setIfInBounds_toArray, List.set_cons_zero, List.set_cons_succ])
        refine wpAnyT_take (i := 2) (v := ?v4) rfl (by kernel_rfl) (by kernel_rfl) (by kernel_rfl) (by kernel_rfl) (by kernel_rfl) (fun _ _ _ h => h) (Or.inl ⟨by rfl, ?hy4⟩) (by assumption) ?rest4
        case hy4 => (intro w hSw; (try simp only [List.getElem_toArray, List.getElem_cons_succ, List.getElem_cons_zero]); (try dsimp only at hSw); go_simp; all_goals (with_reducible rfl))
        (try simp only [Act.put, List.getElem_toArray, List.getElem_cons_succ, List.getElem_cons_zero, List.setIfInBounds_toArray, List.set_cons_zero, List.set_cons_succ])
        refine wpAnyT_take (i := 3) (v := ?v5) rfl (by kernel_rfl) (by kernel_rfl) (by kernel_rfl) (by kernel_rfl) (by kernel_rfl) (fun _ _ _ h => h) (Or.inl ⟨by rfl, ?hy5⟩) (by assumption) ?rest5
        case hy5 => (intro w hSw; (try simp only [List.getElem_toArray, List.getElem_cons_succ, List.getElem_cons_zero]); (try dsimp only at hSw); go_simp; all_goals (with_reducible rfl))
        (try simp only [Act.put, List.getElem_toArray, List.getElem_cons_succ, List.getElem_cons_zero, List.setIfInBounds_toArray, List.set_cons_zero, List.set_cons_succ])
        refine wpAnyT_take (i := 4) (v := ?v6) rfl (by kernel_rfl) (by kernel_rfl) (by kernel_rfl) (by kernel_rfl) (by kernel_rfl) (fun _ _ _ h => h) (Or.inl ⟨by rfl, ?hy6⟩) (by assumption) ?rest6
        case hy6 => (intro w hSw; (try simp only [List.getElem_toArray, List.getElem_cons_succ, List.getElem_cons_zero]); (try dsimp only at hSw); go_simp; all_goals (with_reducible rfl))
        (try simp only [Act.put, List.getElem_toArray, List.getElem_cons_succ, List.getElem_cons_zero, List.setIfInBounds_toArray, List.set_cons_zero, List.set_cons_succ])
        refine wpAnyT_take (i := 5) (v := ?v7) rfl (by kernel_rfl) (by kernel_rfl) (by kernel_rfl) (by kernel_rfl) (by kernel_rfl) (fun _ _ _ h => h) (Or.inl ⟨by rfl, ?hy7⟩) (by assumption) ?rest7
        case hy7 => (intro w hSw; (try simp only [List.getElem_toArray, List.getElem_cons_succ, List.getElem_cons_zero]); (try dsimp only at hSw); go_simp; all_goals (with_reducible rfl))
        (try simp only [Act.put, List.getElem_toArray, List.getElem_cons_succ, List.getElem_cons_zero, List.setIfInBounds_toArray, List.set_cons_zero, List.set_cons_succ])
        refine wpAnyT_take (i := 6) (v := ?v8) rfl (by kernel_rfl) (by kernel_rfl) (by kernel_rfl) (by kernel_rfl) (by kernel_rfl) (fun _ _ _ h => h) (Or.inl ⟨by rfl, ?hy8⟩) (by assumption) ?rest8
        case hy8 => (intro w hSw; (try simp only [List.getElem_toArray, List.getElem_cons_succ, List.getElem_cons_zero]); (try dsimp only at hSw); go_simp; all_goals (with_reducible rfl))
        (try simp only [Act.put, List.getElem_toArray, List.getElem_cons_succ, List.getElem_cons_zero, List.setIfInBounds_toArray, List.set_cons_zero, List.set_cons_succ])
        refine wpAnyT_take (i := 8) (v := ?v9) rfl (by kernel_rfl) (by kernel_rfl) (by kernel_rfl) (by kernel_rfl) (by kernel_rfl) (fun _ _ _ h => h) (Or.inl ⟨by rfl, ?hy9⟩) (by assumption) ?rest9
        case hy9 => (intro w hSw; (try simp only [List.getElem_toArray, List.getElem_cons_succ, List.getElem_cons_zero]); (try dsimp only at hSw); go_simp; all_goals (with_reducible rfl))
        (try simp only [Act.put, List.getElem_toArray, List.getElem_cons_succ, List.getElem_cons_zero, List.setIfInBounds_toArray, List.set_cons_zero, List.set_cons_succ])
        refine wpAnyT_take (i := 9) (v := ?v10) rfl (by kernel_rfl) (by kernel_rfl) (by kernel_rfl) (by kernel_rfl) (by kernel_rfl) (fun _ _ _ h => h) (Or.inl ⟨by rfl, ?hy10⟩) (by assumption) ?rest10
        case hy10 => (intro w hSw; (try simp only [List.getElem_toArray, List.getElem_cons_succ, List.getElem_cons_zero]); (try dsimp only at hSw); go_simp; all_goals (with_reducible rfl))
        (try simp only [Act.put, List.getElem_toArray, List.getElem_cons_succ, List.getElem_cons_zero, List.setIfInBounds_toArray, List.set_cons_zero, List.set_cons_succ])
        refine wpAnyT_take (i := 10) (v := ?v11) rfl (by kernel_rfl) (by kernel_rfl) (by kernel_rfl) (by kernel_rfl) (by kernel_rfl) (fun _ _ _ h => h) (Or.inl ⟨by rfl, ?hy11⟩) (by assumption) ?rest11
        case hy11 => (intro w hSw; (try simp only [List.getElem_toArray, List.getElem_cons_succ, List.getElem_cons_zero]); (try dsimp only at hSw); go_simp; all_goals (with_reducible rfl))
        (try simp only [Act.put, List.getElem_toArray, List.getElem_cons_succ, List.getElem_cons_zero, List.setIfInBounds_toArray, List.set_cons_zero, List.set_cons_succ])
        refine wpAnyT_take (i := 11) (v := ?v12) rfl (by kernel_rfl) (by kernel_rfl) (by kernel_rfl) (by kernel_rfl) (by kernel_rfl) (fun _ _ _ h => h) (Or.inl ⟨by rfl, ?hy12⟩) (by assumption) ?rest12
        case hy12 => (intro w hSw; (try simp only [List.getElem_toArray, List.getElem_cons_succ, List.getElem_cons_zero]); (try dsimp only at hSw); go_simp; all_goals (with_reducible rfl))
        (try simp only [Act.put, List.getElem_toArray, List.getElem_cons_succ, List.getElem_cons_zero, List.setIfInBounds_toArray, List.set_cons_zero, List.set_cons_succ])
        refine wpAnyT_take (i := 12) (v := ?v13) rfl (by kernel_rfl) (by kernel_rfl) (by kernel_rfl) (by kernel_rfl) (by kernel_rfl) (fun _ _ _ h => h) (Or.inl ⟨by rfl, ?hy13⟩) (by assumption) ?rest13
        case hy13 => (intro w hSw; (try simp only [List.getElem_toArray, List.getElem_cons_succ, List.getElem_cons_zero]); (try dsimp only at hSw); go_simp; all_goals (with_reducible rfl))
        (try simp only [Act.put, List.getElem_toArray, List.getElem_cons_succ, List.getElem_cons_zero, List.setIfInBounds_toArray, List.set_cons_zero, List.set_cons_succ])
        refine wpAnyT_take (i := 13) (v := ?v14) rfl (by kernel_rfl) (by kernel_rfl) (by kernel_rfl) (by kernel_rfl) (by kernel_rfl) (fun _ _ _ h => h) (Or.inl ⟨by rfl, ?hy14⟩) (by assumption) ?rest14
        case hy14 => (intro w hSw; (try simp only [List.getElem_toArray, List.getElem_cons_succ, List.getElem_cons_zero]); (try dsimp only at hSw); go_simp; all_goals (with_reducible rfl))
        (try simp only [Act.put, List.getElem_toArray, List.getElem_cons_succ, List.getElem_cons_zero, List.setIfInBounds_toArray, List.set_cons_zero, List.set_cons_succ])
        refine wpAnyT_take (i := 14) (v := ?v15) rfl (by kernel_rfl) (by kernel_rfl) (by kernel_rfl) (by kernel_rfl) (by kernel_rfl) (fun _ _ _ h => h) (Or.inl ⟨by rfl, ?hy15⟩) (by assumption) ?rest15
        case hy15 => (intro w hSw; (try simp only [List.getElem_toArray, List.getElem_cons_succ, List.getElem_cons_zero]); (try dsimp only at hSw); go_simp; all_goals (with_reducible rfl))
        (try simp only [Act.put, List.getElem_toArray, List.getElem_cons_succ, List.getElem_cons_zero, List.setIfInBounds_toArray, List.set_cons_zero, List.set_cons_succ])
        refine wpAnyT_one (i := 7) rfl (by kernel_rfl) (fun K hK => ?_)
        (try simp only [List.getElem_toArray, List.getElem_cons_succ, List.getElem_cons_zero])
        go_simp
        (refine (write_any p l _ _).mono ?_; rintro e w4 ⟨rfl, hc4, hf4, hz4, hb4⟩; rw [HX.out]; have hk4 := Keeps.step (wo := wr) hHeld.2 hb4; clear hc4 hf4 hz4 hb4 hHeld)
        (try go_wp2_with fail)
        refine hK.out _ _ ?hS16 ?rest16
        case hS16 => (exact ⟨fun _ _ h => Keeps.cells hk4 _ _ h, hk4⟩)
        clear hK K
        (try simp only [Act.put, List.getElem_toArray, List.getElem_cons_succ, List.getElem_cons_zero, List.setIfInBounds_toArray, List.set_cons_zero, List.set_cons_succ])
        have hHeld : (fun W => (∀ b o, b < wr.heap.size → W.cell? ⟨b, o, none⟩ = wr.cell? ⟨b, o, none⟩) ∧ Keeps wr W) w4 := ⟨fun _ _ h => Keeps.cells hk4 _ _ h, hk4⟩
        refine wpAnyT_one (i := 15) rfl (by kernel_rfl) (fun K hK => ?_)
        (try simp only [List.getElem_toArray, List.getElem_cons_succ, List.getElem_cons_zero])
        go_simp
        (refine (rwrite_any p l _ _).mono ?_; rintro e w5 ⟨rfl, hc4, hf4, hz4, hb4⟩; have hk5 := Keeps.step (wo := wr) hk4 hb4; clear hc4 hf4 hz4 hb4 hHeld hk4)
        (try go_wp2_with fail)
        refine hK.out _ _ ?hS17 ?rest17
        case hS17 => (exact ⟨fun _ _ h => Keeps.cells hk5 _ _ h, hk5⟩)
        clear hK K
        (try simp only [Act.put, List.getElem_toArray, List.getElem_cons_succ, List.getElem_cons_zero, List.setIfInBounds_toArray, List.set_cons_zero, List.set_cons_succ])
        have hA5 := Blk.below hA hk5 gA
        have hB5 := Blk.below hB hk5 gB
        have hbel5 : Below w1.heap.size w1 w5 := Below.trans hbel (Below.mono hk5 hbel.size)
        clear c0 c1 f0 f1 d0 d1 e0 e1
        obtain ⟨c0, c1, f0, f1⟩ := hA5.two
        obtain ⟨d0, d1, e0, e1⟩ := hB5.two
        refine wpAnyT_last (i := 16) rfl (by kernel_rfl) rfl (fun K hK => ?_)
        (try simp only [List.getElem_toArray, List.getElem_cons_succ, List.getElem_cons_zero])
        go_simp
        refine hK.out _ _ ?_
        clear hK K
        (try simp only [Act.put, List.getElem_toArray, List.getElem_cons_succ, List.getElem_cons_zero, List.setIfInBounds_toArray, List.set_cons_zero, List.set_cons_succ])
        have hA6 := hA5.set2 (.int .u8 X) (.int .i64 160)
        have hB6 : Blk ((w5.setCell ⟨w1.heap.size, 0, none⟩ (.int .u8 X)).setCell ⟨w1.heap.size, 1, none⟩ (.int .i64 160)) (w1.heap.size + 1) 32 #[.int .u8 p, .int .i64 l] := (hB5.far (p := ⟨w1.heap.size, 0, none⟩) (by simp) _).far (p := ⟨w1.heap.size, 1, none⟩) (by simp) _
        have hbel6 : Below w1.heap.size w1 ((w5.setCell ⟨w1.heap.size, 0, none⟩ (.int .u8 X)).setCell ⟨w1.heap.size, 1, none⟩ (.int .i64 160)) := (hbel5.setCell (by simp) _).setCell (by simp) _
        clear c0 c1 f0 f1 d0 d1 e0 e1 hA5 hB5 hbel5 hk5
        generalize ((w5.setCell ⟨w1.heap.size, 0, none⟩ (.int .u8 X)).setCell ⟨w1.heap.size, 1, none⟩ (.int .i64 160)) = w6 at *
        obtain ⟨d0, d1, e0, e1⟩ := hB6.two
        refine wpAnyT_last (i := 17) rfl (by kernel_rfl) rfl (fun K hK => ?_)
        (try simp only [List.getElem_toArray, List.getElem_cons_succ, List.getElem_cons_zero])
        go_simp
        refine hK.out _ _ ?_
        clear hK K
        (try simp only [Act.put, List.getElem_toArray, List.getElem_cons_succ, List.getElem_cons_zero, List.setIfInBounds_toArray, List.set_cons_zero, List.set_cons_succ])
        refine wpAnyT_done (by kernel_rfl) ?_ _
        have hA7 : Blk ((w6.setCell ⟨w1.heap.size + 1, 0, none⟩ (.int .u8 X)).setCell ⟨w1.heap.size + 1, 1, none⟩ (.int .i64 160)) w1.heap.size 24 #[.int .u8 X, .int .i64 160] := (hA6.far (p := ⟨w1.heap.size + 1, 0, none⟩) (by simp) _).far (p := ⟨w1.heap.size + 1, 1, none⟩) (by simp) _
        have hB7 := hB6.set2 (.int .u8 X) (.int .i64 160)
        have hbel7 : Below w1.heap.size w1 ((w6.setCell ⟨w1.heap.size + 1, 0, none⟩ (.int .u8 X)).setCell ⟨w1.heap.size + 1, 1, none⟩ (.int .i64 160)) := (hbel6.setCell (by simp) _).setCell (by simp) _
        clear d0 d1 e0 e1 hA6 hB6 hbel6
        generalize ((w6.setCell ⟨w1.heap.size + 1, 0, none⟩ (.int .u8 X)).setCell ⟨w1.heap.size + 1, 1, none⟩ (.int .i64 160)) = w7 at *
        have cx7 := (hbel7.cell (p := ⟨b1, o1 + k, none⟩) (by simp; omega)).trans CX.out
        clear hA hB hbel cx' gA gB g1
        go_wp2_with fail
        go_loopw [56] (fun i wz => ∃ (j : Nat) (p l : Int), j ≤ M ∧ i = .int .u16 j ∧ 0 ≤ p ∧ p ≤ 255 ∧ 0 ≤ l ∧ l ≤ 160 ∧ Blk wz w1.heap.size 24 #[.int .u8 p, .int .i64 l] ∧ Blk wz (w1.heap.size + 1) 32 #[.int .u8 p, .int .i64 l] ∧ Below w1.heap.size w1 wz) (fun i _ => M - (intOf i).toNat)
        case atStart => exact ⟨0, X, 160, by omega, rfl, by omega, by omega, by omega, by omega, hA7, hB7, hbel7⟩
        case round =>
          clear hA7 hB7 hbel7 cx7
          obtain ⟨j, s, t, hj, rfl, hs0, hs1, ht0, ht1, hA, hB, hbel⟩ := hrel
          have gA := hA.lt
          have gB := hB.lt
          obtain ⟨c0, c1, f0, f1⟩ := hA.two
          obtain ⟨d0, d1, e0, e1⟩ := hB.two
          by_cases hjl : j < M
          · have q5 : decide ((j : Int) < x % 64) = true := by rw [HM.out]; simp; omega
            have T0 : 0 ≤ tickL t := by unfold tickL; split <;> omega
            have T1 : tickL t ≤ 160 := by unfold tickL; split <;> omega
            go_wp2_with fail
            refine (tick_any s t _ hs0 hs1 (by omega) (by omega)).mono ?_
            rintro e w8 ⟨rfl, hd8, hf8, hz8, hb8⟩
            have hA8 := hA.below hb8 gA
            have hB8 := hB.below hb8 gB
            have hbel8 := hbel.trans (hb8.mono hbel.size)
            clear hd8 hf8 hz8 hb8 hA hB hbel gA gB c0 c1 f0 f1 d0 d1 e0 e1
            obtain ⟨c0, c1, f0, f1⟩ := hA8.two
            obtain ⟨d0, d1, e0, e1⟩ := hB8.two
            go_wp2_with fail
            have hA9 := hA8.set2 (.int .u8 s) (.int .i64 (tickL t))
            have hB9 : Blk ((w8.setCell ⟨w1.heap.size, 0, none⟩ (.int .u8 s)).setCell ⟨w1.heap.size, 1, none⟩ (.int .i64 (tickL t))) (w1.heap.size + 1) 32 #[.int .u8 s, .int .i64 t] := (hB8.far (p := ⟨w1.heap.size, 0, none⟩) (by simp) _).far (p := ⟨w1.heap.size, 1, none⟩) (by simp) _
            have hbel9 : Below w1.heap.size w1 ((w8.setCell ⟨w1.heap.size, 0, none⟩ (.int .u8 s)).setCell ⟨w1.heap.size, 1, none⟩ (.int .i64 (tickL t))) := (hbel8.setCell (by simp) _).setCell (by simp) _
            clear c0 c1 f0 f1 d0 d1 e0 e1 hA8 hB8 hbel8
            generalize ((w8.setCell ⟨w1.heap.size, 0, none⟩ (.int .u8 s)).setCell ⟨w1.heap.size, 1, none⟩ (.int .i64 (tickL t))) = w9 at *
            have gA := hA9.lt
            have gB := hB9.lt
            refine (rtick_any s t _ hs0 hs1 (by omega) (by omega)).mono ?_
            rintro e w10 ⟨rfl, hd8, hf8, hz8, hb8⟩
            have hA10 := hA9.below hb8 gA
            have hB10 := hB9.below hb8 gB
            have hbel10 := hbel9.trans (hb8.mono hbel9.size)
            clear hd8 hf8 hz8 hb8 hA9 hB9 hbel9 gA gB
            obtain ⟨c0, c1, f0, f1⟩ := hA10.two
            obtain ⟨d0, d1, e0, e1⟩ := hB10.two
            go_wp2_with fail
            first
              | exact ⟨⟨j + 1, s, tickL t, by omega, by go_num, hs0, hs1, T0, T1, (hA10.far (p := ⟨w1.heap.size + 1, 0, none⟩) (by simp) _).far (p := ⟨w1.heap.size + 1, 1, none⟩) (by simp) _,
              hB10.set2 (.int .u8 s) (.int .i64 (tickL t)), (hbel10.setCell (by simp) _).setCell (by simp) _⟩, by simp [intOf]; omega⟩
              | (go_roundw
                 case rel => exact ⟨j + 1, s, tickL t, by omega, by go_num, hs0, hs1, T0, T1, (hA10.far (p := ⟨w1.heap.size + 1, 0, none⟩) (by simp) _).far (p := ⟨w1.heap.size + 1, 1, none⟩) (by simp) _,
              hB10.set2 (.int .u8 s) (.int .i64 (tickL t)), (hbel10.setCell (by simp) _).setCell (by simp) _⟩
                 case measure => (simp [intOf]; omega))
          · obtain rfl : j = M := by omega
            have q5 : decide ((j : Int) < x % 64) = false := by rw [HM.out]; simp
            go_wp2_with fail
            generalize wr = wo at *
            go_region_held3 (fun W => (∀ b o, b < wo.heap.size → W.cell? ⟨b, o, none⟩ = wo.cell? ⟨b, o, none⟩) ∧ Keeps wo W)
              (first | exact ⟨fun _ _ _ => rfl, (Keeps.refl _).drew⟩ | exact ⟨fun _ _ h => Keeps.cells (by assumption) _ _ h, by assumption⟩)
              (first
              | (go_at_call 11; refine (busy_any _ _ _).mono ?_; rintro e w4 ⟨rfl, hc4, hf4, hz4, hb4⟩; go_split_ands; have hk4 := Keeps.step (wo := wo) (by assumption) hb4; clear hc4 hf4 hz4 hb4)
              | (go_at_call 14; refine (lets_any _ _ _ _).mono ?_; rintro e w4 ⟨rfl, hc4, hf4, hz4, hb4⟩; go_split_ands; have hk4 := Keeps.step (wo := wo) (by assumption) hb4; clear hc4 hf4 hz4 hb4)
              | (go_at_call 15; refine (rlets_any _ _ _ _ ha ha').mono ?_; rintro e w4 ⟨rfl, hc4, hf4, hz4, hb4⟩; go_split_ands; have hk4 := Keeps.step (wo := wo) (by assumption) hb4; clear hc4 hf4 hz4 hb4))
            go_wp2_with fail
            have hkk := hk4
            exact ⟨⟨k + 1, s, t, by omega, by go_num, hs0, hs1, ht0, ht1, hA.below hkk gA, hB.below hkk gB, hbel.trans (Below.mono hkk hbel.size)⟩, by simp [intOf]; omega⟩
        
      · obtain ⟨v, hv, hv1⟩ : ∃ v, x % 4 = v ∧ ¬ v = 0 := ⟨_, rfl, hq⟩
        have hv2 : (v == 0) = false := by simp [hv1]
        have hv3 : decide (v = 0) = false := by simp [hv1]
        clear hq
        have cx6 := cx'
        have hA6 := hA
        have hB6 := hB
        have hbel6 := hbel
        go_wp2_with fail
        clear hv hv1 hv2 hv3 hA hB hbel gA gB g1 c0 c1 f0 f1 d0 d1 e0 e1 cx'
        go_loopw [56] (fun i wz => ∃ (j : Nat) (p l : Int), j ≤ M ∧ i = .int .u16 j ∧ 0 ≤ p ∧ p ≤ 255 ∧ 0 ≤ l ∧ l ≤ 160 ∧ Blk wz w1.heap.size 24 #[.int .u8 p, .int .i64 l] ∧ Blk wz (w1.heap.size + 1) 32 #[.int .u8 p, .int .i64 l] ∧ Below w1.heap.size w1 wz) (fun i _ => M - (intOf i).toNat)
        case atStart => exact ⟨0, p, l, by omega, rfl, by omega, by omega, by omega, by omega, hA6, hB6, hbel6⟩
        case round =>
          clear hA6 hB6 hbel6 cx6
          obtain ⟨j, s, t, hj, rfl, hs0, hs1, ht0, ht1, hA, hB, hbel⟩ := hrel
          have gA := hA.lt
          have gB := hB.lt
          obtain ⟨c0, c1, f0, f1⟩ := hA.two
          obtain ⟨d0, d1, e0, e1⟩ := hB.two
          by_cases hjl : j < M
          · have q5 : decide ((j : Int) < x % 64) = true := by rw [HM.out]; simp; omega
            have T0 : 0 ≤ tickL t := by unfold tickL; split <;> omega
            have T1 : tickL t ≤ 160 := by unfold tickL; split <;> omega
            go_wp2_with fail
            refine (tick_any s t _ hs0 hs1 (by omega) (by omega)).mono ?_
            rintro e w8 ⟨rfl, hd8, hf8, hz8, hb8⟩
            have hA8 := hA.below hb8 gA
            have hB8 := hB.below hb8 gB
            have hbel8 := hbel.trans (hb8.mono hbel.size)
            clear hd8 hf8 hz8 hb8 hA hB hbel gA gB c0 c1 f0 f1 d0 d1 e0 e1
            obtain ⟨c0, c1, f0, f1⟩ := hA8.two
            obtain ⟨d0, d1, e0, e1⟩ := hB8.two
            go_wp2_with fail
            have hA9 := hA8.set2 (.int .u8 s) (.int .i64 (tickL t))
            have hB9 : Blk ((w8.setCell ⟨w1.heap.size, 0, none⟩ (.int .u8 s)).setCell ⟨w1.heap.size, 1, none⟩ (.int .i64 (tickL t))) (w1.heap.size + 1) 32 #[.int .u8 s, .int .i64 t] := (hB8.far (p := ⟨w1.heap.size, 0, none⟩) (by simp) _).far (p := ⟨w1.heap.size, 1, none⟩) (by simp) _
            have hbel9 : Below w1.heap.size w1 ((w8.setCell ⟨w1.heap.size, 0, none⟩ (.int .u8 s)).setCell ⟨w1.heap.size, 1, none⟩ (.int .i64 (tickL t))) := (hbel8.setCell (by simp) _).setCell (by simp) _
            clear c0 c1 f0 f1 d0 d1 e0 e1 hA8 hB8 hbel8
            generalize ((w8.setCell ⟨w1.heap.size, 0, none⟩ (.int .u8 s)).setCell ⟨w1.heap.size, 1, none⟩ (.int .i64 (tickL t))) = w9 at *
            have gA := hA9.lt
            have gB := hB9.lt
            refine (rtick_any s t _ hs0 hs1 (by omega) (by omega)).mono ?_
            rintro e w10 ⟨rfl, hd8, hf8, hz8, hb8⟩
            have hA10 := hA9.below hb8 gA
            have hB10 := hB9.below hb8 gB
            have hbel10 := hbel9.trans (hb8.mono hbel9.size)
            clear hd8 hf8 hz8 hb8 hA9 hB9 hbel9 gA gB
            obtain ⟨c0, c1, f0, f1⟩ := hA10.two
            obtain ⟨d0, d1, e0, e1⟩ := hB10.two
            go_wp2_with fail
            first
              | exact ⟨⟨j + 1, s, tickL t, by omega, by go_num, hs0, hs1, T0, T1, (hA10.far (p := ⟨w1.heap.size + 1, 0, none⟩) (by simp) _).far (p := ⟨w1.heap.size + 1, 1, none⟩) (by simp) _,
              hB10.set2 (.int .u8 s) (.int .i64 (tickL t)), (hbel10.setCell (by simp) _).setCell (by simp) _⟩, by simp [intOf]; omega⟩
              | (go_roundw
                 case rel => exact ⟨j + 1, s, tickL t, by omega, by go_num, hs0, hs1, T0, T1, (hA10.far (p := ⟨w1.heap.size + 1, 0, none⟩) (by simp) _).far (p := ⟨w1.heap.size + 1, 1, none⟩) (by simp) _,
              hB10.set2 (.int .u8 s) (.int .i64 (tickL t)), (hbel10.setCell (by simp) _).setCell (by simp) _⟩
                 case measure => (simp [intOf]; omega))
          · obtain rfl : j = M := by omega
            have q5 : decide ((j : Int) < x % 64) = false := by rw [HM.out]; simp
            go_wp2_with fail
            generalize wr = wo at *
            go_region_held3 (fun W => (∀ b o, b < wo.heap.size → W.cell? ⟨b, o, none⟩ = wo.cell? ⟨b, o, none⟩) ∧ Keeps wo W)
              (first | exact ⟨fun _ _ _ => rfl, (Keeps.refl _).drew⟩ | exact ⟨fun _ _ h => Keeps.cells (by assumption) _ _ h, by assumption⟩)
              (first
              | (go_at_call 11; refine (busy_any _ _ _).mono ?_; rintro e w4 ⟨rfl, hc4, hf4, hz4, hb4⟩; go_split_ands; have hk4 := Keeps.step (wo := wo) (by assumption) hb4; clear hc4 hf4 hz4 hb4)
              | (go_at_call 14; refine (lets_any _ _ _ _).mono ?_; rintro e w4 ⟨rfl, hc4, hf4, hz4, hb4⟩; go_split_ands; have hk4 := Keeps.step (wo := wo) (by assumption) hb4; clear hc4 hf4 hz4 hb4)
              | (go_at_call 15; refine (rlets_any _ _ _ _ ha ha').mono ?_; rintro e w4 ⟨rfl, hc4, hf4, hz4, hb4⟩; go_split_ands; have hk4 := Keeps.step (wo := wo) (by assumption) hb4; clear hc4 hf4 hz4 hb4))
            go_wp2_with fail
            have hkk := hk4
            exact ⟨⟨k + 1, s, t, by omega, by go_num, hs0, hs1, ht0, ht1, hA.below hkk gA, hB.below hkk gB, hbel.trans (Below.mono hkk hbel.size)⟩, by simp [intOf]; omega⟩
        
    · obtain rfl : k = len := by omega
      go_wp2_with fail
      go_ret
      exact .of rfl (hbw1.trans (Below.mono hbel hbw1.size))

theorem walk_zero (s0 : Option Addr) (cap : Nat) (a1 : Int) (w : World) :
    Calls Try.prog 5 #[.slice s0 0 cap, .int .u16 a1] w (Ret (.bool true) w) := by
  go_enter Try.func5, Try.ntmps5
  go_wp2_with fail
  refine (awake_any _).mono ?_
  rintro e w1 ⟨rfl, hd1, hf1, hz1, hbw1⟩
  clear hd1 hf1
  go_wp2_with fail
  go_loopw [26] (fun i wr => i = .int .i64 0 ∧ Below w1.heap.size w1 wr) (fun _ _ => 0)
  case atStart => exact ⟨rfl, ((Below.refl _ _).alloc (Nat.le_refl _) _).alloc (by simp) _⟩
  case round =>
    obtain ⟨rfl, hbel⟩ := hrel
    go_wp2_with fail
    go_ret
    exact .of rfl (hbw1.trans (Below.mono hbel hbw1.size))
theorem walk_out (s0 : Option Addr) (len cap : Nat) (a1 : Int) (h : 100 < len) (w : World) :
    Calls Try.prog 5 #[.slice s0 len cap, .int .u16 a1] w (Ret (.bool true) w) := by
  have q1 : decide (100 < (len : Int)) = true := by simp; omega
  clear h
  go_enter Try.func5, Try.ntmps5
  go_wp2_with fail
  refine (awake_any _).mono ?_
  rintro e w1 ⟨rfl, hd1, hf1, hz1, hbw1⟩
  clear hd1 hf1
  go_wp2_with fail
  refine (awake_any _).mono ?_
  rintro e w2 ⟨rfl, hd2, hf2, hz2, hbw2⟩
  clear hd2 hf2
  go_wp2_with fail
  go_ret
  exact .of rfl (hbw1.trans (hbw2.mono hbw1.size))
theorem walk (w : World) (s0 : Option Addr) (len0 cap0 : Nat) (z0 : List Int) (a1 : Int) (h0 : IsRow .u16 w s0 len0 z0) (ha : 0 ≤ a1) (ha' : a1 ≤ 65535) :
    Calls Try.prog 5 #[.slice s0 len0 cap0, .int .u16 a1] w (Ret (.bool true) w) := by
  by_cases ho : 100 < len0
  · exact walk_out s0 len0 cap0 a1 ho w
  · rcases Nat.eq_zero_or_pos len0 with hz | hz
    · subst hz; exact walk_zero s0 cap0 a1 w
    · obtain ⟨b1, o1, rfl, hb1, hc1⟩ := h0.at_ hz
      exact walkIn b1 o1 len0 cap0 z0 a1 (by omega) ha ha' w hb1 hc1
end dmaPlays
end Go.Proofs.Ytgonapmmebjeaaa
