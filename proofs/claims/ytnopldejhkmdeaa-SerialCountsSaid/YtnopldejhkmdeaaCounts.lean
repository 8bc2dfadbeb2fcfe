/- The law SerialCounts: its walk. -/
import Derived.Test.YtnopldejhkmdeaaIn
import Derived.Test.YtnopldejhkmdeaaTail
namespace Go.Proofs.Ytnopldejhkmdeaa
open Go.RowKit
set_option linter.unusedSimpArgs false
set_option linter.unusedVariables false

namespace serialCounts

set_option maxRecDepth 100000 in
set_option maxHeartbeats 4000000 in
theorem below_drewN {B : Nat} {a w : World} (h : Below B a w) (n : Nat) : Below B a (w.drewN n) := ⟨h.os, h.tape, h.output, h.size, h.block⟩
theorem tick_idle (t : St) (h : t.b = 0) : (tickS t).s = t.s ∧ (tickS t).l = t.l ∧ (tickS t).b = 0 := by
  unfold tickS; rw [if_pos (by omega)]; exact ⟨rfl, rfl, h⟩
theorem tick_run (t : St) (j : Nat) (ht : t.ok) (h : 128 * (8 - t.b) + t.n = j ∧ 7 ≤ t.b) (hj : j + 1 ≤ 255) :
    (tickS t).s = t.s ∧ (tickS t).l = t.l ∧ 128 * (8 - (tickS t).b) + (tickS t).n = j + 1 ∧ 7 ≤ (tickS t).b := by
  unfold St.ok at ht
  unfold tickS; rw [if_neg (by omega)]
  split
  · refine ⟨rfl, rfl, ?_, ?_⟩ <;> simp only <;> omega
  · rw [if_pos (by omega)]
    refine ⟨rfl, rfl, ?_, ?_⟩ <;> simp only <;> omega

set_option maxRecDepth 100000 in
set_option maxHeartbeats 4000000 in
theorem walkIn (b1 o1 b2 o2 len cap dlen dcap : Nat) (zs ys : List Int) (h60 : len ≤ 60) (hd : len ≤ dlen) (w : World) (hb1 : b1 < w.heap.size) (hb2 : b2 < w.heap.size)
    (hc1 : ∀ i, i < len → ∃ x : Int, zs.getD i 0 = x ∧ 0 ≤ x ∧ x ≤ 255 ∧ w.cell? ⟨b1, o1 + i, none⟩ = some (.int .u8 x))
    (hc2 : ∀ i, i < len → ∃ x : Int, ys.getD i 0 = x ∧ 0 ≤ x ∧ x ≤ 255 ∧ w.cell? ⟨b2, o2 + i, none⟩ = some (.int .u8 x)) :
    Calls Try.prog 7 #[.slice (some ⟨b1, o1, none⟩) len cap, .slice (some ⟨b2, o2, none⟩) dlen dcap] w (Ret (.bool true) w) := by
  have HC1 := hid_ hc1
  have HC2 := hid_ hc2
  clear hc1 hc2
  have q1 : decide (60 < (len : Int)) = false := by simp; omega
  have q2 : decide (dlen < len) = false := by simp; omega
  go_enter Try.func7, Try.ntmps7
  go_wp2_with fail
  refine (awake_any _).mono ?_
  rintro e w1 ⟨rfl, hd1, hf1, hz1, hbw1⟩
  clear hd1 hf1
  go_wp2_with fail
  go_loopw [6, 7, 27] (fun n l i wr => ∃ (k : Nat) (p : St), k ≤ len ∧ i = .int .i64 k ∧ n = .int .i64 p.s ∧ l = .int .u8 p.l ∧ p.ok ∧ p.s ≤ k ∧ Blk wr w1.heap.size 25 (cells p) ∧ Below w1.heap.size w1 wr) (fun _ _ i _ => len - (intOf i).toNat)
  case atStart => exact ⟨0, ⟨0, 0, 0, 0, 0, 0⟩, by omega, rfl, rfl, rfl, by unfold St.ok; decide, by decide, Blk.new _ _ _, (Below.refl _ _).alloc (Nat.le_refl _) _⟩
  case round =>
    obtain ⟨k, p, hk, rfl, rfl, rfl, hp, hpk, hB, hbel⟩ := hrel
    by_cases hlt : k < len
    · obtain ⟨x, hx, hx0, hx1, cx⟩ := HC1.out k hlt
      obtain ⟨y, hy, hy0, hy1, cy⟩ := HC2.out k hlt
      clear hx hy
      have cx' : wr.cell? ⟨b1, o1 + k, none⟩ = some (.int .u8 x) := by rw [hbel.cell (p := ⟨b1, o1 + k, none⟩) (by simp; omega), hbw1.cell (p := ⟨b1, o1 + k, none⟩) hb1, cx]
      have cy' : wr.cell? ⟨b2, o2 + k, none⟩ = some (.int .u8 y) := by rw [hbel.cell (p := ⟨b2, o2 + k, none⟩) (by simp; omega), hbw1.cell (p := ⟨b2, o2 + k, none⟩) hb2, cy]
      have i0 : (0 : Int) ≤ (k : Int) := by omega
      have i1 : (k : Int) < (len : Int) := by omega
      have i2 : (k : Int) < (dlen : Int) := by omega
      have hg := hB.lt
      have n1 : b1 ≠ w1.heap.size := by omega
      have n2 : b2 ≠ w1.heap.size := by omega
      have g1 : b1 < wr.heap.size := by omega
      have g2 : b2 < wr.heap.size := by omega
      obtain ⟨c0, c1, c2, c3, c4, c5, f0, f1, f2, f3, f4, f5⟩ := hB.six
      have CX : Hid (w1.cell? ⟨b1, o1 + k, none⟩ = some (.int .u8 x)) := (hbw1.cell (p := ⟨b1, o1 + k, none⟩) hb1).trans cx
      have CY : Hid (w1.cell? ⟨b2, o2 + k, none⟩ = some (.int .u8 y)) := (hbw1.cell (p := ⟨b2, o2 + k, none⟩) hb2).trans cy
      obtain ⟨q, hq⟩ : ∃ q, writeS (writeS p 0 y) 1 x = q := ⟨_, rfl⟩
      have hqok : q.ok := by rw [← hq]; exact writeS_ok _ (writeS_ok p hp 0 y hy0 hy1) 1 x hx0 hx1
      have HQ := hid_ hq
      clear cx cy hq
      go_wp2_with fail
      refine wp_region_tail (S := (fun W => (∀ b o, b < wr.heap.size → W.cell? ⟨b, o, none⟩ = wr.cell? ⟨b, o, none⟩) ∧ Keeps wr W)) (tail := (fun j => j == 11)) (by kernel_rfl) ?hS1 (fun hHeld => ?rest1)
      case hS1 => (exact ⟨fun _ _ _ => rfl, (Keeps.refl _).drew⟩)
      refine wpAnyT_take (i := 0) (v := ?v2) rfl (by kernel_rfl) (by kernel_rfl) (by kernel_rfl) (by kernel_rfl) (fun _ _ _ h => h) (Or.inl ⟨by rfl, ?hy2⟩) (by assumption) ?rest2
      case hy2 => (intro w hSw; (try simp only [List.getElem_toArray, List.getElem_cons_succ, List.getElem_cons_zero]); (try dsimp only at hSw); go_simp; all_goals (with_reducible rfl))
      (try simp only [Act.put, List.getElem_toArray, List.getElem_cons_succ, List.getElem_cons_zero, List.setIfInBounds_toArray, List.set_cons_zero, List.set_cons_succ])
      refine wpAnyT_take (i := 1) (v := ?v3) rfl (by kernel_rfl) (by kernel_rfl) (by kernel_rfl) (by kernel_rfl) (fun _ _ _ h => h) (Or.inl ⟨by rfl, ?hy3⟩) (by assumption) ?rest3
      case hy3 => (intro w hSw; (try simp only [List.getElem_toArray, List.getElem_cons_succ, List.getElem_cons_zero]); (try dsimp only at hSw); go_simp; all_goals (with_reducible rfl))
      (try simp only [Act.put, List.getElem_toArray, List.getElem_cons_succ, List.getElem_cons_zero, List.setIfInBounds_toArray, List.set_cons_zero, List.set_cons_succ])
      refine wpAnyT_take (i := 2) (v := ?v4) rfl (by kernel_rfl) (by kernel_rfl) (by kernel_rfl) (by kernel_rfl) (fun _ _ _ h => h) (Or.inl ⟨by rfl, ?hy4⟩) (by assumption) ?rest4
      case hy4 => (intro w hSw; (try simp only [List.getElem_toArray, List.getElem_cons_succ, List.getElem_cons_zero]); (try dsimp only at hSw); go_simp; all_goals (with_reducible rfl))
      (try simp only [Act.put, List.getElem_toArray, List.getElem_cons_succ, List.getElem_cons_zero, List.setIfInBounds_toArray, List.set_cons_zero, List.set_cons_succ])
      refine wpAnyT_take (i := 3) (v := ?v5) rfl (by kernel_rfl) (by kernel_rfl) (by kernel_rfl) (by kernel_rfl) (fun _ _ _ h => h) (Or.inl ⟨by rfl, ?hy5⟩) (by assumption) ?rest5
      case hy5 => (intro w hSw; (try simp only [List.getElem_toArray, List.getElem_cons_succ, List.getElem_cons_zero]); (try dsimp only at hSw); go_simp; all_goals (with_reducible rfl))
      (try simp only [Act.put, List.getElem_toArray, List.getElem_cons_succ, List.getElem_cons_zero, List.setIfInBounds_toArray, List.set_cons_zero, List.set_cons_succ])
      refine wpAnyT_take (i := 4) (v := ?v6) rfl (by kernel_rfl) (by kernel_rfl) (by kernel_rfl) (by kernel_rfl) (fun _ _ _ h => h) (Or.inl ⟨by rfl, ?hy6⟩) (by assumption) ?rest6
      case hy6 => (intro w hSw; (try simp only [List.getElem_toArray, List.getElem_cons_succ, List.getElem_cons_zero]); (try dsimp only at hSw); go_simp; all_goals (with_reducible rfl))
      (try simp only [Act.put, List.getElem_toArray, List.getElem_cons_succ, List.getElem_cons_zero, List.setIfInBounds_toArray, List.set_cons_zero, List.set_cons_succ])
      refine wpAnyT_take (i := 6) (v := ?v7) rfl (by kernel_rfl) (by kernel_rfl) (by kernel_rfl) (by kernel_rfl) (fun _ _ _ h => h) (Or.inl ⟨by rfl, ?hy7⟩) (by assumption) ?rest7
      case hy7 => (intro w hSw; (try simp only [List.getElem_toArray, List.getElem_cons_succ, List.getElem_cons_zero]); (try dsimp only at hSw); go_simp; all_goals (with_reducible rfl))
      (try simp only [Act.put, List.getElem_toArray, List.getElem_cons_succ, List.getElem_cons_zero, List.setIfInBounds_toArray, List.set_cons_zero, List.set_cons_succ])
      refine wpAnyT_take (i := 7) (v := ?v8) rfl (by kernel_rfl) (by kernel_rfl) (by kernel_rfl) (by kernel_rfl) (fun _ _ _ h => h) (Or.inl ⟨by rfl, ?hy8⟩) (by assumption) ?rest8
      case hy8 => (intro w hSw; (try simp only [List.getElem_toArray, List.getElem_cons_succ, List.getElem_cons_zero]); (try dsimp only at hSw); go_simp; all_goals (with_reducible rfl))
      (try simp only [Act.put, List.getElem_toArray, List.getElem_cons_succ, List.getElem_cons_zero, List.setIfInBounds_toArray, List.set_cons_zero, List.set_cons_succ])
      refine wpAnyT_take (i := 8) (v := ?v9) rfl (by kernel_rfl) (by kernel_rfl) (by kernel_rfl) (by kernel_rfl) (fun _ _ _ h => h) (Or.inl ⟨by rfl, ?hy9⟩) (by assumption) ?rest9
      case hy9 => (intro w hSw; (try simp only [List.getElem_toArray, List.getElem_cons_succ, List.getElem_cons_zero]); (try dsimp only at hSw); go_simp; all_goals (with_reducible rfl))
      (try simp only [Act.put, List.getElem_toArray, List.getElem_cons_succ, List.getElem_cons_zero, List.setIfInBounds_toArray, List.set_cons_zero, List.set_cons_succ])
      refine wpAnyT_take (i := 9) (v := ?v10) rfl (by kernel_rfl) (by kernel_rfl) (by kernel_rfl) (by kernel_rfl) (fun _ _ _ h => h) (Or.inl ⟨by rfl, ?hy10⟩) (by assumption) ?rest10
      case hy10 => (intro w hSw; (try simp only [List.getElem_toArray, List.getElem_cons_succ, List.getElem_cons_zero]); (try dsimp only at hSw); go_simp; all_goals (with_reducible rfl))
      (try simp only [Act.put, List.getElem_toArray, List.getElem_cons_succ, List.getElem_cons_zero, List.setIfInBounds_toArray, List.set_cons_zero, List.set_cons_succ])
      refine wpAnyT_one (i := 5) rfl (by kernel_rfl) (fun K hK => ?_)
      (try simp only [List.getElem_toArray, List.getElem_cons_succ, List.getElem_cons_zero])
      go_simp
      (refine (write_any p hp 0 y hy0 hy1 _).mono ?_; rintro e w4 ⟨rfl, hc4, hf4, hz4, hb4⟩; have hk4 := Keeps.step (wo := wr) hHeld.2 hb4; clear hc4 hf4 hz4 hb4 hHeld)
      (try go_wp2_with fail)
      refine hK.out _ _ ?hS11 ?rest11
      case hS11 => (exact ⟨fun _ _ h => Keeps.cells hk4 _ _ h, hk4⟩)
      clear hK K
      (try simp only [Act.put, List.getElem_toArray, List.getElem_cons_succ, List.getElem_cons_zero, List.setIfInBounds_toArray, List.set_cons_zero, List.set_cons_succ])
      have hHeld : (fun W => (∀ b o, b < wr.heap.size → W.cell? ⟨b, o, none⟩ = wr.cell? ⟨b, o, none⟩) ∧ Keeps wr W) w4 := ⟨fun _ _ h => Keeps.cells hk4 _ _ h, hk4⟩
      refine wpAnyT_one (i := 10) rfl (by kernel_rfl) (fun K hK => ?_)
      (try simp only [List.getElem_toArray, List.getElem_cons_succ, List.getElem_cons_zero])
      go_simp
      (refine (write_any _ (writeS_ok p hp 0 y hy0 hy1) 1 x hx0 hx1 _).mono ?_; rintro e w5 ⟨rfl, hc4, hf4, hz4, hb4⟩; rw [HQ.out]; have hk5 := Keeps.step (wo := wr) hk4 hb4; clear hc4 hf4 hz4 hb4 hHeld hk4)
      (try go_wp2_with fail)
      refine hK.out _ _ ?hS12 ?rest12
      case hS12 => (exact ⟨fun _ _ h => Keeps.cells hk5 _ _ h, hk5⟩)
      clear hK K
      (try simp only [Act.put, List.getElem_toArray, List.getElem_cons_succ, List.getElem_cons_zero, List.setIfInBounds_toArray, List.set_cons_zero, List.set_cons_succ])
      have hB5 := Blk.below hB hk5 hg
      clear c0 c1 c2 c3 c4 c5 f0 f1 f2 f3 f4 f5
      obtain ⟨c0, c1, c2, c3, c4, c5, f0, f1, f2, f3, f4, f5⟩ := hB5.six
      refine wpAnyT_last (i := 11) rfl (by kernel_rfl) rfl (fun K hK => ?_)
      (try simp only [List.getElem_toArray, List.getElem_cons_succ, List.getElem_cons_zero])
      go_simp
      refine hK.out _ _ ?_
      clear hK K
      (try simp only [Act.put, List.getElem_toArray, List.getElem_cons_succ, List.getElem_cons_zero, List.setIfInBounds_toArray, List.set_cons_zero, List.set_cons_succ])
      refine wpAnyT_done (by kernel_rfl) ?_ _
      have hB6 := hB5.set6 q
      have hbel5 : Below w1.heap.size w1 w5 := Below.trans hbel (Below.mono hk5 hbel.size)
      have hbel6 : Below w1.heap.size w1 ((((((w5.setCell ⟨w1.heap.size, 0, none⟩ (.int .u8 q.d)).setCell ⟨w1.heap.size, 1, none⟩ (.int .u8 q.c)).setCell ⟨w1.heap.size, 2, none⟩ (.int .u8 q.l)).setCell ⟨w1.heap.size, 3, none⟩ (.int .i64 q.b)).setCell ⟨w1.heap.size, 4, none⟩ (.int .i64 q.n)).setCell ⟨w1.heap.size, 5, none⟩ (.int .i64 q.s)) := (((((hbel5.setCell (by simp) _).setCell (by simp) _).setCell (by simp) _).setCell (by simp) _).setCell (by simp) _).setCell (by simp) _
      clear hB5 hbel5 c0 c1 c2 c3 c4 c5 f0 f1 f2 f3 f4 f5 hk5
      generalize ((((((w5.setCell ⟨w1.heap.size, 0, none⟩ (.int .u8 q.d)).setCell ⟨w1.heap.size, 1, none⟩ (.int .u8 q.c)).setCell ⟨w1.heap.size, 2, none⟩ (.int .u8 q.l)).setCell ⟨w1.heap.size, 3, none⟩ (.int .i64 q.b)).setCell ⟨w1.heap.size, 4, none⟩ (.int .i64 q.n)).setCell ⟨w1.heap.size, 5, none⟩ (.int .i64 q.s)) = w6 at *
      clear hB hbel hg cx' cy' g1 g2
      have cx6 := (hbel6.cell (p := ⟨b1, o1 + k, none⟩) (by simp; omega)).trans CX.out
      have cy6 := (hbel6.cell (p := ⟨b2, o2 + k, none⟩) (by simp; omega)).trans CY.out
      obtain ⟨Y, rfl⟩ := Int.eq_ofNat_of_zero_le hy0
      have ps0 : 0 ≤ p.s := by unfold St.ok at hp; omega
      cases hbg : begins x
      · obtain ⟨v, e129, hv⟩ : ∃ v, bits .and .u8 x 129 = v ∧ ¬ v = 129 := ⟨_, rfl, by rw [and129 x hx0 hx1]; unfold begins at hbg; simp at hbg ⊢; omega⟩
        have hv2 : (v == 129) = false := by simp [hv]
        have hv3 : decide (v = 129) = false := by simp [hv]
        have HQ1 : Hid (q.s = p.s) := by show _ = _; rw [← HQ.out]; unfold writeS; simp [hbg]
        have HQ2 : Hid (q.l = p.l) := by show _ = _; rw [← HQ.out]; unfold writeS; simp [hbg]
        have HQ3 : Hid (q.b = 0) := by show _ = _; rw [← HQ.out]; unfold writeS; simp [hbg]
        go_wp2_with fail
        go_loopw [58] (fun i wz => ∃ (j : Nat) (t : St), j ≤ Y ∧ i = .int .i64 j ∧ t.ok ∧ Hid (t.s = q.s ∧ t.l = q.l ∧ (t.b = 0)) ∧ Blk wz w1.heap.size 25 (cells t) ∧ Below w1.heap.size w1 wz) (fun i _ => Y - (intOf i).toNat)
        case atStart => exact ⟨0, q, by omega, rfl, hqok, ⟨rfl, rfl, HQ3.out⟩, hB6, hbel6⟩
        case round =>
          clear cx6 cy6 hB6 hbel6
          obtain ⟨j, t, hj, rfl, htok, HI, hBt, hbt⟩ := hrel
          have gt := hBt.lt
          obtain ⟨c0, c1, c2, c3, c4, c5, f0, f1, f2, f3, f4, f5⟩ := hBt.six
          by_cases hjl : j < Y
          · go_wp2_with fail
            refine (tick_any t htok _).mono ?_
            rintro e w7 ⟨rfl, hd7, hf7, hz7, hb7⟩
            have hB7 := hBt.below hb7 gt
            have hb7' : Below w1.heap.size w1 w7 := hbt.trans (hb7.mono hbt.size)
            clear hd7 hf7 c0 c1 c2 c3 c4 c5 f0 f1 f2 f3 f4 f5 hBt hbt
            obtain ⟨c0, c1, c2, c3, c4, c5, f0, f1, f2, f3, f4, f5⟩ := hB7.six
            go_wp2_with fail
            obtain ⟨hts, htl, hinv⟩ := HI.out
            have hstep := (tick_idle t hinv)
            exact ⟨⟨j + 1, tickS t, by omega, by go_num, tickS_ok t htok, ⟨by rw [hstep.1, hts], by rw [hstep.2.1, htl], by first | exact hstep.2.2 | (refine ⟨?_, hstep.2.2.2⟩; rw [hstep.2.2.1]; push_cast; rfl)⟩, hB7.set6 (tickS t), ((((((hb7'.setCell (by simp) _).setCell (by simp) _).setCell (by simp) _).setCell (by simp) _).setCell (by simp) _).setCell (by simp) _)⟩, by simp [intOf]; omega⟩
          · obtain rfl : j = Y := by omega
            have cx8 := (hbt.cell (p := ⟨b1, o1 + k, none⟩) (by simp; omega)).trans CX.out
            obtain ⟨hts, htl, hinv⟩ := HI.out
            rw [hts, HQ1.out] at c5
            rw [htl, HQ2.out] at c2
            have q3 : decide (0 < t.b) = false := by simp; omega
            have E1 : Hid (t.s = p.s) := by show _ = _; rw [hts, HQ1.out]
            have E2 : Hid (t.l = p.l) := by show _ = _; rw [htl, HQ2.out]
            clear hts htl hinv
            go_wp2_with fail
            go_quiet (fail)
            go_wp2_with fail
            exact ⟨⟨k + 1, t, by omega, by go_num, by rw [E1.out], by rw [E2.out], htok, by rw [E1.out]; omega, hBt, below_drewN hbt _⟩, by simp [intOf]; omega⟩
      · have e129 : bits .and .u8 x 129 = 129 := by rw [and129 x hx0 hx1]; unfold begins at hbg; simp at hbg ⊢; omega
        have HQ1 : Hid (q.s = p.s + 1) := by show _ = _; rw [← HQ.out]; unfold writeS; simp [hbg]; omega
        have HQ2 : Hid (q.l = (Y : Int)) := by show _ = _; rw [← HQ.out]; unfold writeS; simp [hbg]
        have HQ3 : Hid (q.b = 8) := by show _ = _; rw [← HQ.out]; unfold writeS; simp [hbg]
        have HQ4 : Hid (q.n = 0) := by show _ = _; rw [← HQ.out]; unfold writeS; simp [hbg]
        go_wp2_with fail
        go_loopw [58] (fun i wz => ∃ (j : Nat) (t : St), j ≤ Y ∧ i = .int .i64 j ∧ t.ok ∧ Hid (t.s = q.s ∧ t.l = q.l ∧ (128 * (8 - t.b) + t.n = j ∧ 7 ≤ t.b)) ∧ Blk wz w1.heap.size 25 (cells t) ∧ Below w1.heap.size w1 wz) (fun i _ => Y - (intOf i).toNat)
        case atStart => exact ⟨0, q, by omega, rfl, hqok, ⟨rfl, rfl, by rw [HQ3.out, HQ4.out]; rfl, by rw [HQ3.out]; omega⟩, hB6, hbel6⟩
        case round =>
          clear cx6 cy6 hB6 hbel6
          obtain ⟨j, t, hj, rfl, htok, HI, hBt, hbt⟩ := hrel
          have gt := hBt.lt
          obtain ⟨c0, c1, c2, c3, c4, c5, f0, f1, f2, f3, f4, f5⟩ := hBt.six
          by_cases hjl : j < Y
          · go_wp2_with fail
            refine (tick_any t htok _).mono ?_
            rintro e w7 ⟨rfl, hd7, hf7, hz7, hb7⟩
            have hB7 := hBt.below hb7 gt
            have hb7' : Below w1.heap.size w1 w7 := hbt.trans (hb7.mono hbt.size)
            clear hd7 hf7 c0 c1 c2 c3 c4 c5 f0 f1 f2 f3 f4 f5 hBt hbt
            obtain ⟨c0, c1, c2, c3, c4, c5, f0, f1, f2, f3, f4, f5⟩ := hB7.six
            go_wp2_with fail
            obtain ⟨hts, htl, hinv⟩ := HI.out
            have hstep := (tick_run t j htok hinv (by omega))
            exact ⟨⟨j + 1, tickS t, by omega, by go_num, tickS_ok t htok, ⟨by rw [hstep.1, hts], by rw [hstep.2.1, htl], by first | exact hstep.2.2 | (refine ⟨?_, hstep.2.2.2⟩; rw [hstep.2.2.1]; push_cast; rfl)⟩, hB7.set6 (tickS t), ((((((hb7'.setCell (by simp) _).setCell (by simp) _).setCell (by simp) _).setCell (by simp) _).setCell (by simp) _).setCell (by simp) _)⟩, by simp [intOf]; omega⟩
          · obtain rfl : j = Y := by omega
            have cx8 := (hbt.cell (p := ⟨b1, o1 + k, none⟩) (by simp; omega)).trans CX.out
            obtain ⟨hts, htl, hinv⟩ := HI.out
            rw [hts, HQ1.out] at c5
            rw [htl, HQ2.out] at c2
            have q3 : decide (0 < t.b) = true := by simp; omega
            have E1 : Hid (t.s = p.s + 1) := by show _ = _; rw [hts, HQ1.out]
            have E2 : Hid (t.l = (j : Int)) := by show _ = _; rw [htl, HQ2.out]
            clear hts htl hinv
            go_wp2_with fail
            go_quiet (fail)
            go_wp2_with fail
            exact ⟨⟨k + 1, t, by omega, by go_num, by rw [E1.out], by rw [E2.out], htok, by rw [E1.out]; omega, hBt, below_drewN hbt _⟩, by simp [intOf]; omega⟩
    · obtain rfl : k = len := by omega
      go_wp2_with fail
      go_ret
      exact .of rfl (hbw1.trans (Below.mono hbel hbw1.size))

theorem walk_zero (s0 s1 : Option Addr) (cap dlen dcap : Nat) (w : World) :
    Calls Try.prog 7 #[.slice s0 0 cap, .slice s1 dlen dcap] w (Ret (.bool true) w) := by
  have q2 : decide (dlen < 0) = false := by simp
  go_enter Try.func7, Try.ntmps7
  go_wp2_with fail
  refine (awake_any _).mono ?_
  rintro e w1 ⟨rfl, hd1, hf1, hz1, hbw1⟩
  clear hd1 hf1
  go_wp2_with fail
  go_loopw [27] (fun i wr => i = .int .i64 0 ∧ Below w1.heap.size w1 wr) (fun _ _ => 0)
  case atStart => exact ⟨rfl, (Below.refl _ _).alloc (Nat.le_refl _) _⟩
  case round =>
    obtain ⟨rfl, hbel⟩ := hrel
    go_wp2_with fail
    go_ret
    exact .of rfl (hbw1.trans (Below.mono hbel hbw1.size))
theorem walk_out (s0 s1 : Option Addr) (len cap dlen dcap : Nat) (h : 60 < len ∨ dlen < len) (w : World) :
    Calls Try.prog 7 #[.slice s0 len cap, .slice s1 dlen dcap] w (Ret (.bool true) w) := by
  by_cases h6 : 60 < len
  case' pos =>
    have q1 : decide (60 < (len : Int)) = true := by simp; omega
  case' neg =>
    have q1 : decide (60 < (len : Int)) = false := by simp; omega
    have q2 : decide (dlen < len) = true := by simp; omega
  all_goals
    clear h h6
    go_enter Try.func7, Try.ntmps7
    go_wp2_with fail
    refine (awake_any _).mono ?_
    rintro e w1 ⟨rfl, hd1, hf1, hz1, hbw1⟩
    clear hd1 hf1
    go_wp2_with fail
    refine (awake_any _).mono ?_
    rintro e w2 ⟨rfl, hd2, hf2, hz2, hbw2⟩
    clear hd2 hf2
    go_wp2_with fail
    go_ret
    exact .of rfl (hbw1.trans (hbw2.mono hbw1.size))
theorem walk (w : World) (s0 : Option Addr) (len0 cap0 : Nat) (z0 : List Int) (s1 : Option Addr) (len1 cap1 : Nat) (z1 : List Int) (h0 : IsRow .u8 w s0 len0 z0) (h1 : IsRow .u8 w s1 len1 z1) :
    Calls Try.prog 7 #[.slice s0 len0 cap0, .slice s1 len1 cap1] w (Ret (.bool true) w) := by
  by_cases ho : 60 < len0 ∨ len1 < len0
  · exact walk_out s0 s1 len0 cap0 len1 cap1 ho w
  · rcases Nat.eq_zero_or_pos len0 with hz | hz
    · subst hz; exact walk_zero s0 s1 cap0 len1 cap1 w
    · obtain ⟨b1, o1, rfl, hb1, hc1⟩ := h0.at_ hz
      obtain ⟨b2, o2, rfl, hb2, hc2⟩ := h1.at_ (by omega)
      exact walkIn b1 o1 b2 o2 len0 cap0 len1 cap1 z0 z1 (by omega) (by omega) w hb1 hb2 hc1 (fun i hi => hc2 i (by omega))
end serialCounts
end Go.Proofs.Ytnopldejhkmdeaa
