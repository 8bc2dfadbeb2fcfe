/- The law SerialPlays: its walk. -/
import Derived.Test.YtnopldejhkmdeaaOps
import Derived.Test.YtnopldejhkmdeaaTail2
namespace Go.Proofs.Ytnopldejhkmdeaa
open Go.RowKit
set_option linter.unusedSimpArgs false
set_option linter.unusedVariables false

theorem below_drewN {B : Nat} {a w : World} (h : Below B a w) (n : Nat) : Below B a (w.drewN n) := ⟨h.os, h.tape, h.output, h.size, h.block⟩
theorem Blk.three {w : World} {g : Nat} {t : TypeId} {v0 v1 v2 : Value} (h : Blk w g t #[v0, v1, v2]) :
    w.cell? ⟨g, 0, none⟩ = some v0 ∧ w.cell? ⟨g, 1, none⟩ = some v1 ∧ w.cell? ⟨g, 2, none⟩ = some v2 := ⟨h.cell 0, h.cell 1, h.cell 2⟩
namespace serialPlays

set_option maxRecDepth 100000 in
set_option maxHeartbeats 4000000 in
theorem walkIn (b1 o1 len cap : Nat) (h40 : len ≤ 40) (w : World) (hb1 : b1 < w.heap.size)
    (hc1 : ∀ i, i < len → ∃ K N X : Int, -9223372036854775808 ≤ N ∧ N ≤ 9223372036854775807 ∧ 0 ≤ X ∧ X ≤ 255 ∧
      w.cell? ⟨b1, o1 + i * 3, none⟩ = some (.int .i64 K) ∧ w.cell? ⟨b1, o1 + i * 3 + 1, none⟩ = some (.int .i64 N) ∧ w.cell? ⟨b1, o1 + i * 3 + 2, none⟩ = some (.int .u8 X)) :
    Calls Try.prog 3 #[.slice (some ⟨b1, o1, none⟩) len cap] w (Ret (.bool true) w) := by
  have HC1 := hid_ hc1
  clear hc1
  have q1 : decide (40 < (len : Int)) = false := by simp; omega
  go_enter Try.func3, Try.ntmps3
  go_wp2_with fail
  refine (awake_any _).mono ?_
  rintro e w1 ⟨rfl, hd1, hf1, hz1, hbw1⟩
  clear hd1 hf1
  go_wp2_with fail
  have hA0 := (Blk.new w1 25 (cells ⟨0, 0, 0, 0, 0, 0⟩)).alloc (.cells (cells ⟨0, 0, 0, 0, 0, 0⟩) 26)
  have hB0 : Blk ((w1.alloc (.cells (cells ⟨0, 0, 0, 0, 0, 0⟩) 25)).alloc (.cells (cells ⟨0, 0, 0, 0, 0, 0⟩) 26)) (w1.heap.size + 1) 26 (cells ⟨0, 0, 0, 0, 0, 0⟩) := by
    simpa using Blk.new (w1.alloc (.cells (cells ⟨0, 0, 0, 0, 0, 0⟩) 25)) 26 (cells ⟨0, 0, 0, 0, 0, 0⟩)
  have hbel0 : Below w1.heap.size w1 ((w1.alloc (.cells (cells ⟨0, 0, 0, 0, 0, 0⟩) 25)).alloc (.cells (cells ⟨0, 0, 0, 0, 0, 0⟩) 26)) := ((Below.refl _ _).alloc (Nat.le_refl _) _).alloc (by simp) _
  go_loopw [21] (fun i wr => ∃ (k : Nat) (p : St), k ≤ len ∧ i = .int .i64 k ∧ p.ok ∧ Blk wr w1.heap.size 25 (cells p) ∧ Blk wr (w1.heap.size + 1) 26 (cells p) ∧ Below w1.heap.size w1 wr) (fun i _ => len - (intOf i).toNat)
  case atStart => exact ⟨0, ⟨0, 0, 0, 0, 0, 0⟩, by omega, rfl, by unfold St.ok; decide, hA0, hB0, hbel0⟩
  case round =>
    clear hA0 hB0 hbel0
    obtain ⟨k, p, hk, rfl, hp, hA, hB, hbel⟩ := hrel
    by_cases hlt : k < len
    · obtain ⟨K, N, X, hN0, hN1, hX0, hX1, k0, k1, k2⟩ := HC1.out k hlt
      have gA := hA.lt
      have gB := hB.lt
      have g1 : b1 < wr.heap.size := by omega
      have x0 := (hbel.cell (p := ⟨b1, o1 + k * 3, none⟩) (by simp; omega)).trans ((hbw1.cell (p := ⟨b1, o1 + k * 3, none⟩) hb1).trans k0)
      have x1 := (hbel.cell (p := ⟨b1, o1 + k * 3 + 1, none⟩) (by simp; omega)).trans ((hbw1.cell (p := ⟨b1, o1 + k * 3 + 1, none⟩) hb1).trans k1)
      have x2 := (hbel.cell (p := ⟨b1, o1 + k * 3 + 2, none⟩) (by simp; omega)).trans ((hbw1.cell (p := ⟨b1, o1 + k * 3 + 2, none⟩) hb1).trans k2)
      clear k0 k1 k2
      have i0 : (0 : Int) ≤ (k : Int) := by omega
      have i1 : (k : Int) < (len : Int) := by omega
      have hG := Blk.new wr 28 #[.int .i64 K, .int .i64 N, .int .u8 X]
      have hA' := hA.alloc (.cells #[.int .i64 K, .int .i64 N, .int .u8 X] 28)
      have hB' := hB.alloc (.cells #[.int .i64 K, .int .i64 N, .int .u8 X] 28)
      have hbel' := hbel.alloc (by omega) (.cells #[.int .i64 K, .int .i64 N, .int .u8 X] 28)
      have hgG : wr.heap.size < (wr.alloc (.cells #[.int .i64 K, .int .i64 N, .int .u8 X] 28)).heap.size := by simp
      have gA0 := gA
      have nG0 : wr.heap.size ≠ w1.heap.size := by omega
      have nG1 : wr.heap.size ≠ w1.heap.size + 1 := by omega
      by_cases hK1 : K = 1
      · subst hK1
        by_cases hNa : N ≤ 0
        · have hn0 : N ≤ 0 := hNa
          have r1 : decide ((1200 : Int) < N) = false := by simp; omega
          have r2 : decide ((0 : Int) < N) = false := by simp; omega
          go_wp2_with fail
          generalize (wr.alloc (.cells #[.int .i64 1, .int .i64 N, .int .u8 X] 28)) = wq at *
          clear hA hB hbel x0 x1 x2 i0 i1 g1 gA0
          generalize wr.heap.size = g at *
          clear r1
          go_loopw [36] (fun i wz => ∃ (j : Nat) (t : St), j ≤ 0 ∧ i = .int .i64 j ∧ t.ok ∧ Blk wz w1.heap.size 25 (cells t) ∧ Blk wz (w1.heap.size + 1) 26 (cells t) ∧ Blk wz g 28 #[.int .i64 1, .int .i64 N, .int .u8 X] ∧ Below w1.heap.size w1 wz) (fun i _ => 0 - (intOf i).toNat)
          case atStart => exact ⟨0, p, by omega, rfl, hp, hA', hB', hG, hbel'⟩
          case round =>
            clear hA' hB' hG hbel'
            obtain ⟨j, t, hj, rfl, ht, hA, hB, hG, hbel⟩ := hrel
            · obtain rfl : j = 0 := by omega
              have gA' := hA.lt
              have gB' := hB.lt
              have gG' := hG.lt
              obtain ⟨c0, c1, c2, c3, c4, c5, f0, f1, f2, f3, f4, f5⟩ := hA.six
              obtain ⟨d0, d1, d2, d3, d4, d5, e0, e1, e2, e3, e4, e5⟩ := hB.six
              obtain ⟨y0, y1, y2⟩ := hG.three
              clear f0 f1 f2 f3 f4 f5 e0 e1 e2 e3 e4 e5
              go_wp2_with fail
              go_region_held3 (fun W => (∀ b o, b < wr.heap.size → W.cell? ⟨b, o, none⟩ = wr.cell? ⟨b, o, none⟩) ∧ Keeps wr W)
                (first | exact ⟨fun _ _ _ => rfl, (Keeps.refl _).drew⟩ | exact ⟨fun _ _ h => Keeps.cells (by assumption) _ _ h, by assumption⟩)
                (first
                | (go_at_call 13; refine (read_any t ht _ _).mono ?_; rintro e w4 ⟨rfl, hc4, hf4, hz4, hb4⟩; go_split_ands; have hk4 := Keeps.step (wo := wr) (by assumption) hb4; clear hc4 hf4 hz4 hb4)
                | (go_at_call 14; refine (rread_any t ht _ _).mono ?_; rintro e w4 ⟨rfl, hc4, hf4, hz4, hb4⟩; go_split_ands; have hk4 := Keeps.step (wo := wr) (by assumption) hb4; clear hc4 hf4 hz4 hb4))
              go_wp2_with fail
              exact ⟨⟨k + 1, t, by omega, by go_num, ht, hA.below hk4 gA', hB.below hk4 gB', hbel.trans (Below.mono hk4 hbel.size)⟩, by simp [intOf]; omega⟩
        · skip
          by_cases hNb : N ≤ 1200
          · obtain ⟨C, rfl⟩ := Int.eq_ofNat_of_zero_le (by omega : 0 ≤ N)
            have r1 : decide ((1200 : Int) < (C : Int)) = false := by simp; omega
            have r2 : decide ((0 : Int) < (C : Int)) = true := by simp; omega
            go_wp2_with fail
            generalize (wr.alloc (.cells #[.int .i64 1, .int .i64 (C : Int), .int .u8 X] 28)) = wq at *
            clear hA hB hbel x0 x1 x2 i0 i1 g1 gA0
            generalize wr.heap.size = g at *
            clear r1
            go_loopw [36] (fun i wz => ∃ (j : Nat) (t : St), j ≤ C ∧ i = .int .i64 j ∧ t.ok ∧ Blk wz w1.heap.size 25 (cells t) ∧ Blk wz (w1.heap.size + 1) 26 (cells t) ∧ Blk wz g 28 #[.int .i64 1, .int .i64 (C : Int), .int .u8 X] ∧ Below w1.heap.size w1 wz) (fun i _ => C - (intOf i).toNat)
            case atStart => exact ⟨0, p, by omega, rfl, hp, hA', hB', hG, hbel'⟩
            case round =>
              clear hA' hB' hG hbel'
              obtain ⟨j, t, hj, rfl, ht, hA, hB, hG, hbel⟩ := hrel
              by_cases hjl : j < C
              · have gA' := hA.lt
                have gB' := hB.lt
                have gG' := hG.lt
                obtain ⟨c0, c1, c2, c3, c4, c5, f0, f1, f2, f3, f4, f5⟩ := hA.six
                obtain ⟨d0, d1, d2, d3, d4, d5, e0, e1, e2, e3, e4, e5⟩ := hB.six
                have q5 : decide ((j : Int) < (C : Int)) = true := by simp; omega
                go_wp2_with fail
                refine (tick_any t ht _).mono ?_
                rintro e w8 ⟨rfl, hd8, hf8, hz8, hb8⟩
                have hA8 := hA.below hb8 gA'
                have hB8 := hB.below hb8 gB'
                have hG8 := hG.below hb8 gG'
                have hbel8 := hbel.trans (hb8.mono hbel.size)
                clear hd8 hf8 hz8 hb8 hA hB hG hbel gA' gB' gG' c0 c1 c2 c3 c4 c5 f0 f1 f2 f3 f4 f5 d0 d1 d2 d3 d4 d5 e0 e1 e2 e3 e4 e5
                obtain ⟨c0, c1, c2, c3, c4, c5, f0, f1, f2, f3, f4, f5⟩ := hA8.six
                obtain ⟨d0, d1, d2, d3, d4, d5, e0, e1, e2, e3, e4, e5⟩ := hB8.six
                go_wp2_with fail
                have hA9 := hA8.set6 (tickS t)
                have hB9 : Blk ((((((w8.setCell ⟨w1.heap.size, 0, none⟩ (.int .u8 (tickS t).d)).setCell ⟨w1.heap.size, 1, none⟩ (.int .u8 (tickS t).c)).setCell ⟨w1.heap.size, 2, none⟩ (.int .u8 (tickS t).l)).setCell ⟨w1.heap.size, 3, none⟩ (.int .i64 (tickS t).b)).setCell ⟨w1.heap.size, 4, none⟩ (.int .i64 (tickS t).n)).setCell ⟨w1.heap.size, 5, none⟩ (.int .i64 (tickS t).s)) (w1.heap.size + 1) 26 (cells t) := ((((((((((((hB8).far (p := ⟨w1.heap.size, 0, none⟩) (by simp) _)).far (p := ⟨w1.heap.size, 1, none⟩) (by simp) _)).far (p := ⟨w1.heap.size, 2, none⟩) (by simp) _)).far (p := ⟨w1.heap.size, 3, none⟩) (by simp) _)).far (p := ⟨w1.heap.size, 4, none⟩) (by simp) _)).far (p := ⟨w1.heap.size, 5, none⟩) (by simp) _)
                have hG9 : Blk ((((((w8.setCell ⟨w1.heap.size, 0, none⟩ (.int .u8 (tickS t).d)).setCell ⟨w1.heap.size, 1, none⟩ (.int .u8 (tickS t).c)).setCell ⟨w1.heap.size, 2, none⟩ (.int .u8 (tickS t).l)).setCell ⟨w1.heap.size, 3, none⟩ (.int .i64 (tickS t).b)).setCell ⟨w1.heap.size, 4, none⟩ (.int .i64 (tickS t).n)).setCell ⟨w1.heap.size, 5, none⟩ (.int .i64 (tickS t).s)) g 28 #[.int .i64 1, .int .i64 (C : Int), .int .u8 X] := ((((((((((((hG8).far (p := ⟨w1.heap.size, 0, none⟩) nG0 _)).far (p := ⟨w1.heap.size, 1, none⟩) nG0 _)).far (p := ⟨w1.heap.size, 2, none⟩) nG0 _)).far (p := ⟨w1.heap.size, 3, none⟩) nG0 _)).far (p := ⟨w1.heap.size, 4, none⟩) nG0 _)).far (p := ⟨w1.heap.size, 5, none⟩) nG0 _)
                have hbel9 : Below w1.heap.size w1 ((((((w8.setCell ⟨w1.heap.size, 0, none⟩ (.int .u8 (tickS t).d)).setCell ⟨w1.heap.size, 1, none⟩ (.int .u8 (tickS t).c)).setCell ⟨w1.heap.size, 2, none⟩ (.int .u8 (tickS t).l)).setCell ⟨w1.heap.size, 3, none⟩ (.int .i64 (tickS t).b)).setCell ⟨w1.heap.size, 4, none⟩ (.int .i64 (tickS t).n)).setCell ⟨w1.heap.size, 5, none⟩ (.int .i64 (tickS t).s)) := ((((((((((((hbel8).setCell (by simp) _)).setCell (by simp) _)).setCell (by simp) _)).setCell (by simp) _)).setCell (by simp) _)).setCell (by simp) _)
                clear hA8 hB8 hG8 hbel8 c0 c1 c2 c3 c4 c5 f0 f1 f2 f3 f4 f5 d0 d1 d2 d3 d4 d5 e0 e1 e2 e3 e4 e5
                generalize ((((((w8.setCell ⟨w1.heap.size, 0, none⟩ (.int .u8 (tickS t).d)).setCell ⟨w1.heap.size, 1, none⟩ (.int .u8 (tickS t).c)).setCell ⟨w1.heap.size, 2, none⟩ (.int .u8 (tickS t).l)).setCell ⟨w1.heap.size, 3, none⟩ (.int .i64 (tickS t).b)).setCell ⟨w1.heap.size, 4, none⟩ (.int .i64 (tickS t).n)).setCell ⟨w1.heap.size, 5, none⟩ (.int .i64 (tickS t).s)) = w9 at *
                have gA' := hA9.lt
                have gB' := hB9.lt
                have gG' := hG9.lt
                refine (rtick_any t ht _).mono ?_
                rintro e w10 ⟨rfl, hd8, hf8, hz8, hb8⟩
                have hA10 := hA9.below hb8 gA'
                have hB10 := hB9.below hb8 gB'
                have hG10 := hG9.below hb8 gG'
                have hbel10 := hbel9.trans (hb8.mono hbel9.size)
                clear hd8 hf8 hz8 hb8 hA9 hB9 hG9 hbel9 gA' gB' gG'
                obtain ⟨c0, c1, c2, c3, c4, c5, f0, f1, f2, f3, f4, f5⟩ := hA10.six
                obtain ⟨d0, d1, d2, d3, d4, d5, e0, e1, e2, e3, e4, e5⟩ := hB10.six
                go_wp2_with fail
                exact ⟨⟨j + 1, tickS t, by omega, by go_num, tickS_ok t ht, ((((((((((((hA10).far (p := ⟨w1.heap.size + 1, 0, none⟩) (by simp) _)).far (p := ⟨w1.heap.size + 1, 1, none⟩) (by simp) _)).far (p := ⟨w1.heap.size + 1, 2, none⟩) (by simp) _)).far (p := ⟨w1.heap.size + 1, 3, none⟩) (by simp) _)).far (p := ⟨w1.heap.size + 1, 4, none⟩) (by simp) _)).far (p := ⟨w1.heap.size + 1, 5, none⟩) (by simp) _), hB10.set6 (tickS t), ((((((((((((hG10).far (p := ⟨w1.heap.size + 1, 0, none⟩) nG1 _)).far (p := ⟨w1.heap.size + 1, 1, none⟩) nG1 _)).far (p := ⟨w1.heap.size + 1, 2, none⟩) nG1 _)).far (p := ⟨w1.heap.size + 1, 3, none⟩) nG1 _)).far (p := ⟨w1.heap.size + 1, 4, none⟩) nG1 _)).far (p := ⟨w1.heap.size + 1, 5, none⟩) nG1 _), ((((((((((((hbel10).setCell (by simp) _)).setCell (by simp) _)).setCell (by simp) _)).setCell (by simp) _)).setCell (by simp) _)).setCell (by simp) _)⟩, by simp [intOf]; omega⟩
              · obtain rfl : j = C := by omega
                have gA' := hA.lt
                have gB' := hB.lt
                have gG' := hG.lt
                obtain ⟨c0, c1, c2, c3, c4, c5, f0, f1, f2, f3, f4, f5⟩ := hA.six
                obtain ⟨d0, d1, d2, d3, d4, d5, e0, e1, e2, e3, e4, e5⟩ := hB.six
                obtain ⟨y0, y1, y2⟩ := hG.three
                clear f0 f1 f2 f3 f4 f5 e0 e1 e2 e3 e4 e5
                go_wp2_with fail
                go_region_held3 (fun W => (∀ b o, b < wr.heap.size → W.cell? ⟨b, o, none⟩ = wr.cell? ⟨b, o, none⟩) ∧ Keeps wr W)
                  (first | exact ⟨fun _ _ _ => rfl, (Keeps.refl _).drew⟩ | exact ⟨fun _ _ h => Keeps.cells (by assumption) _ _ h, by assumption⟩)
                  (first
                  | (go_at_call 13; refine (read_any t ht _ _).mono ?_; rintro e w4 ⟨rfl, hc4, hf4, hz4, hb4⟩; go_split_ands; have hk4 := Keeps.step (wo := wr) (by assumption) hb4; clear hc4 hf4 hz4 hb4)
                  | (go_at_call 14; refine (rread_any t ht _ _).mono ?_; rintro e w4 ⟨rfl, hc4, hf4, hz4, hb4⟩; go_split_ands; have hk4 := Keeps.step (wo := wr) (by assumption) hb4; clear hc4 hf4 hz4 hb4))
                go_wp2_with fail
                exact ⟨⟨k + 1, t, by omega, by go_num, ht, hA.below hk4 gA', hB.below hk4 gB', hbel.trans (Below.mono hk4 hbel.size)⟩, by simp [intOf]; omega⟩
          · have r1 : decide ((1200 : Int) < N) = true := by simp; omega
            go_wp2_with fail
            generalize (wr.alloc (.cells #[.int .i64 1, .int .i64 N, .int .u8 X] 28)) = wq at *
            clear hA hB hbel x0 x1 x2 i0 i1 g1 gA0
            generalize wr.heap.size = g at *
            clear r1
            go_loopw [36] (fun i wz => ∃ (j : Nat) (t : St), j ≤ 1200 ∧ i = .int .i64 j ∧ t.ok ∧ Blk wz w1.heap.size 25 (cells t) ∧ Blk wz (w1.heap.size + 1) 26 (cells t) ∧ Blk wz g 28 #[.int .i64 1, .int .i64 N, .int .u8 X] ∧ Below w1.heap.size w1 wz) (fun i _ => 1200 - (intOf i).toNat)
            case atStart => exact ⟨0, p, by omega, rfl, hp, hA', hB', hG, hbel'⟩
            case round =>
              clear hA' hB' hG hbel'
              obtain ⟨j, t, hj, rfl, ht, hA, hB, hG, hbel⟩ := hrel
              by_cases hjl : j < 1200
              · have gA' := hA.lt
                have gB' := hB.lt
                have gG' := hG.lt
                obtain ⟨c0, c1, c2, c3, c4, c5, f0, f1, f2, f3, f4, f5⟩ := hA.six
                obtain ⟨d0, d1, d2, d3, d4, d5, e0, e1, e2, e3, e4, e5⟩ := hB.six
                have q5 : decide ((j : Int) < 1200) = true := by simp; omega
                go_wp2_with fail
                refine (tick_any t ht _).mono ?_
                rintro e w8 ⟨rfl, hd8, hf8, hz8, hb8⟩
                have hA8 := hA.below hb8 gA'
                have hB8 := hB.below hb8 gB'
                have hG8 := hG.below hb8 gG'
                have hbel8 := hbel.trans (hb8.mono hbel.size)
                clear hd8 hf8 hz8 hb8 hA hB hG hbel gA' gB' gG' c0 c1 c2 c3 c4 c5 f0 f1 f2 f3 f4 f5 d0 d1 d2 d3 d4 d5 e0 e1 e2 e3 e4 e5
                obtain ⟨c0, c1, c2, c3, c4, c5, f0, f1, f2, f3, f4, f5⟩ := hA8.six
                obtain ⟨d0, d1, d2, d3, d4, d5, e0, e1, e2, e3, e4, e5⟩ := hB8.six
                go_wp2_with fail
                have hA9 := hA8.set6 (tickS t)
                have hB9 : Blk ((((((w8.setCell ⟨w1.heap.size, 0, none⟩ (.int .u8 (tickS t).d)).setCell ⟨w1.heap.size, 1, none⟩ (.int .u8 (tickS t).c)).setCell ⟨w1.heap.size, 2, none⟩ (.int .u8 (tickS t).l)).setCell ⟨w1.heap.size, 3, none⟩ (.int .i64 (tickS t).b)).setCell ⟨w1.heap.size, 4, none⟩ (.int .i64 (tickS t).n)).setCell ⟨w1.heap.size, 5, none⟩ (.int .i64 (tickS t).s)) (w1.heap.size + 1) 26 (cells t) := ((((((((((((hB8).far (p := ⟨w1.heap.size, 0, none⟩) (by simp) _)).far (p := ⟨w1.heap.size, 1, none⟩) (by simp) _)).far (p := ⟨w1.heap.size, 2, none⟩) (by simp) _)).far (p := ⟨w1.heap.size, 3, none⟩) (by simp) _)).far (p := ⟨w1.heap.size, 4, none⟩) (by simp) _)).far (p := ⟨w1.heap.size, 5, none⟩) (by simp) _)
                have hG9 : Blk ((((((w8.setCell ⟨w1.heap.size, 0, none⟩ (.int .u8 (tickS t).d)).setCell ⟨w1.heap.size, 1, none⟩ (.int .u8 (tickS t).c)).setCell ⟨w1.heap.size, 2, none⟩ (.int .u8 (tickS t).l)).setCell ⟨w1.heap.size, 3, none⟩ (.int .i64 (tickS t).b)).setCell ⟨w1.heap.size, 4, none⟩ (.int .i64 (tickS t).n)).setCell ⟨w1.heap.size, 5, none⟩ (.int .i64 (tickS t).s)) g 28 #[.int .i64 1, .int .i64 N, .int .u8 X] := ((((((((((((hG8).far (p := ⟨w1.heap.size, 0, none⟩) nG0 _)).far (p := ⟨w1.heap.size, 1, none⟩) nG0 _)).far (p := ⟨w1.heap.size, 2, none⟩) nG0 _)).far (p := ⟨w1.heap.size, 3, none⟩) nG0 _)).far (p := ⟨w1.heap.size, 4, none⟩) nG0 _)).far (p := ⟨w1.heap.size, 5, none⟩) nG0 _)
                have hbel9 : Below w1.heap.size w1 ((((((w8.setCell ⟨w1.heap.size, 0, none⟩ (.int .u8 (tickS t).d)).setCell ⟨w1.heap.size, 1, none⟩ (.int .u8 (tickS t).c)).setCell ⟨w1.heap.size, 2, none⟩ (.int .u8 (tickS t).l)).setCell ⟨w1.heap.size, 3, none⟩ (.int .i64 (tickS t).b)).setCell ⟨w1.heap.size, 4, none⟩ (.int .i64 (tickS t).n)).setCell ⟨w1.heap.size, 5, none⟩ (.int .i64 (tickS t).s)) := ((((((((((((hbel8).setCell (by simp) _)).setCell (by simp) _)).setCell (by simp) _)).setCell (by simp) _)).setCell (by simp) _)).setCell (by simp) _)
                clear hA8 hB8 hG8 hbel8 c0 c1 c2 c3 c4 c5 f0 f1 f2 f3 f4 f5 d0 d1 d2 d3 d4 d5 e0 e1 e2 e3 e4 e5
                generalize ((((((w8.setCell ⟨w1.heap.size, 0, none⟩ (.int .u8 (tickS t).d)).setCell ⟨w1.heap.size, 1, none⟩ (.int .u8 (tickS t).c)).setCell ⟨w1.heap.size, 2, none⟩ (.int .u8 (tickS t).l)).setCell ⟨w1.heap.size, 3, none⟩ (.int .i64 (tickS t).b)).setCell ⟨w1.heap.size, 4, none⟩ (.int .i64 (tickS t).n)).setCell ⟨w1.heap.size, 5, none⟩ (.int .i64 (tickS t).s)) = w9 at *
                have gA' := hA9.lt
                have gB' := hB9.lt
                have gG' := hG9.lt
                refine (rtick_any t ht _).mono ?_
                rintro e w10 ⟨rfl, hd8, hf8, hz8, hb8⟩
                have hA10 := hA9.below hb8 gA'
                have hB10 := hB9.below hb8 gB'
                have hG10 := hG9.below hb8 gG'
                have hbel10 := hbel9.trans (hb8.mono hbel9.size)
                clear hd8 hf8 hz8 hb8 hA9 hB9 hG9 hbel9 gA' gB' gG'
                obtain ⟨c0, c1, c2, c3, c4, c5, f0, f1, f2, f3, f4, f5⟩ := hA10.six
                obtain ⟨d0, d1, d2, d3, d4, d5, e0, e1, e2, e3, e4, e5⟩ := hB10.six
                go_wp2_with fail
                exact ⟨⟨j + 1, tickS t, by omega, by go_num, tickS_ok t ht, ((((((((((((hA10).far (p := ⟨w1.heap.size + 1, 0, none⟩) (by simp) _)).far (p := ⟨w1.heap.size + 1, 1, none⟩) (by simp) _)).far (p := ⟨w1.heap.size + 1, 2, none⟩) (by simp) _)).far (p := ⟨w1.heap.size + 1, 3, none⟩) (by simp) _)).far (p := ⟨w1.heap.size + 1, 4, none⟩) (by simp) _)).far (p := ⟨w1.heap.size + 1, 5, none⟩) (by simp) _), hB10.set6 (tickS t), ((((((((((((hG10).far (p := ⟨w1.heap.size + 1, 0, none⟩) nG1 _)).far (p := ⟨w1.heap.size + 1, 1, none⟩) nG1 _)).far (p := ⟨w1.heap.size + 1, 2, none⟩) nG1 _)).far (p := ⟨w1.heap.size + 1, 3, none⟩) nG1 _)).far (p := ⟨w1.heap.size + 1, 4, none⟩) nG1 _)).far (p := ⟨w1.heap.size + 1, 5, none⟩) nG1 _), ((((((((((((hbel10).setCell (by simp) _)).setCell (by simp) _)).setCell (by simp) _)).setCell (by simp) _)).setCell (by simp) _)).setCell (by simp) _)⟩, by simp [intOf]; omega⟩
              · obtain rfl : j = 1200 := by omega
                have e1200 : ((1200 : Nat) : Int) = 1200 := rfl
                have gA' := hA.lt
                have gB' := hB.lt
                have gG' := hG.lt
                obtain ⟨c0, c1, c2, c3, c4, c5, f0, f1, f2, f3, f4, f5⟩ := hA.six
                obtain ⟨d0, d1, d2, d3, d4, d5, e0, e1, e2, e3, e4, e5⟩ := hB.six
                obtain ⟨y0, y1, y2⟩ := hG.three
                clear f0 f1 f2 f3 f4 f5 e0 e1 e2 e3 e4 e5
                go_wp2_with fail
                go_region_held3 (fun W => (∀ b o, b < wr.heap.size → W.cell? ⟨b, o, none⟩ = wr.cell? ⟨b, o, none⟩) ∧ Keeps wr W)
                  (first | exact ⟨fun _ _ _ => rfl, (Keeps.refl _).drew⟩ | exact ⟨fun _ _ h => Keeps.cells (by assumption) _ _ h, by assumption⟩)
                  (first
                  | (go_at_call 13; refine (read_any t ht _ _).mono ?_; rintro e w4 ⟨rfl, hc4, hf4, hz4, hb4⟩; go_split_ands; have hk4 := Keeps.step (wo := wr) (by assumption) hb4; clear hc4 hf4 hz4 hb4)
                  | (go_at_call 14; refine (rread_any t ht _ _).mono ?_; rintro e w4 ⟨rfl, hc4, hf4, hz4, hb4⟩; go_split_ands; have hk4 := Keeps.step (wo := wr) (by assumption) hb4; clear hc4 hf4 hz4 hb4))
                go_wp2_with fail
                exact ⟨⟨k + 1, t, by omega, by go_num, ht, hA.below hk4 gA', hB.below hk4 gB', hbel.trans (Below.mono hk4 hbel.size)⟩, by simp [intOf]; omega⟩
      · by_cases hK2 : K = 2
        · subst hK2
          go_wp2_with fail
          generalize (wr.alloc (.cells #[.int .i64 2, .int .i64 N, .int .u8 X] 28)) = wq at *
          clear hA hB hbel x0 x1 x2 i0 i1 g1 gA0
          generalize wr.heap.size = g at *
          obtain ⟨q, hq⟩ : ∃ q, writeS p N X = q := ⟨_, rfl⟩
          have hqok : q.ok := by rw [← hq]; exact writeS_ok p hp N X hX0 hX1
          have HQ := hid_ hq
          clear hq
          have gA' := hA'.lt
          have gB' := hB'.lt
          have gG' := hG.lt
          obtain ⟨c0, c1, c2, c3, c4, c5, f0, f1, f2, f3, f4, f5⟩ := hA'.six
          obtain ⟨d0, d1, d2, d3, d4, d5, e0, e1, e2, e3, e4, e5⟩ := hB'.six
          obtain ⟨y0, y1, y2⟩ := hG.three
          refine wp_region_tail (S := (fun W => (∀ b o, b < wq.heap.size → W.cell? ⟨b, o, none⟩ = wq.cell? ⟨b, o, none⟩) ∧ Keeps wq W)) (tail := (fun j => decide (12 ≤ j))) (by kernel_rfl) ?hS1 (fun hHeld => ?rest1)
          case hS1 => (exact ⟨fun _ _ _ => rfl, (Keeps.refl _).drew⟩)
          refine wpAnyT_take (i := 0) (v := ?v2) rfl (by kernel_rfl) (by kernel_rfl) (by kernel_rfl) (by kernel_rfl) (by kernel_rfl) (fun _ _ _ h => h) (Or.inl ⟨by rfl, ?hy2⟩) (by assumption) ?rest2
          case hy2 => (intro w hSw; (try simp only [List.getElem_toArray, List.getElem_cons_succ, List.getElem_cons_zero]); (try dsimp only at hSw); go_simp; all_goals (with_reducible rfl))
          (try simp only [Act.put, List.getElem_toArray, List.getElem_cons_succ, List.getElem_cons_zero, List.setIfInBounds_toArray, List.set_cons_zero, List.set_cons_succ])
          refine wpAnyT_take (i := 1) (v := ?v3) rfl (by kernel_rfl) (by kernel_rfl) (by kernel_rfl) (by kernel_rfl) (by kernel_rfl) (fun _ _ _ h => h) (Or.inl ⟨by rfl, ?hy3⟩) (by assumption) ?rest3
          case hy3 => (intro w hSw; (try simp only [List.getElem_toArray, List.getElem_cons_succ, List.getElem_cons_zero]); (try dsimp only at hSw); go_simp; all_goals (with_reducible rfl))
          (try simp only [Act.put, List.getElem_toArray, List.getElem_cons_succ, List.getElem_cons_zero, List.setIfInBounds_toArray, List.set_cons_zero, List.set_cons_succ])
          refine wpAnyT_take (i := 2) (v := ?v4) rfl (by kernel_rfl) (by kernel_rfl) (by kernel_rfl) (by kernel_rfl) (by kernel_rfl) (fun _ _ _ h => h) (Or.inl ⟨by rfl, ?hy4⟩) (by assumption) ?rest4
          case hy4 => (intro w hSw; (try simp only [List.getElem_toArray, List.getElem_cons_succ, List.getElem_cons_zero]); (try dsimp only at hSw); go_simp; all_goals (with_reducible rfl))
          (try simp only [Act.put, List.getElem_toArray, List.getElem_cons_succ, List.getElem_cons_zero, List.setIfInBounds_toArray, List.set_cons_zero, List.set_cons_succ])
          refine wpAnyT_take (i := 3) (v := ?v5) rfl (by kernel_rfl) (by kernel_rfl) (by kernel_rfl) (by kernel_rfl) (by kernel_rfl) (fun _ _ _ h => h) (Or.inl ⟨by rfl, ?hy5⟩) (by assumption) ?rest5
          case hy5 => (intro w hSw; (try simp only [List.getElem_toArray, List.getElem_cons_succ, List.getElem_cons_zero]); (try dsimp only at hSw); go_simp; all_goals (with_reducible rfl))
          (try simp only [Act.put, List.getElem_toArray, List.getElem_cons_succ, List.getElem_cons_zero, List.setIfInBounds_toArray, List.set_cons_zero, List.set_cons_succ])
          refine wpAnyT_take (i := 4) (v := ?v6) rfl (by kernel_rfl) (by kernel_rfl) (by kernel_rfl) (by kernel_rfl) (by kernel_rfl) (fun _ _ _ h => h) (Or.inl ⟨by rfl, ?hy6⟩) (by assumption) ?rest6
          case hy6 => (intro w hSw; (try simp only [List.getElem_toArray, List.getElem_cons_succ, List.getElem_cons_zero]); (try dsimp only at hSw); go_simp; all_goals (with_reducible rfl))
          (try simp only [Act.put, List.getElem_toArray, List.getElem_cons_succ, List.getElem_cons_zero, List.setIfInBounds_toArray, List.set_cons_zero, List.set_cons_succ])
          refine wpAnyT_take (i := 6) (v := ?v7) rfl (by kernel_rfl) (by kernel_rfl) (by kernel_rfl) (by kernel_rfl) (by kernel_rfl) (fun _ _ _ h => h) (Or.inl ⟨by rfl, ?hy7⟩) (by assumption) ?rest7
          case hy7 => (intro w hSw; (try simp only [List.getElem_toArray, List.getElem_cons_succ, List.getElem_cons_zero]); (try dsimp only at hSw); go_simp; all_goals (with_reducible rfl))
          (try simp only [Act.put, List.getElem_toArray, List.getElem_cons_succ, List.getElem_cons_zero, List.setIfInBounds_toArray, List.set_cons_zero, List.set_cons_succ])
          refine wpAnyT_take (i := 7) (v := ?v8) rfl (by kernel_rfl) (by kernel_rfl) (by kernel_rfl) (by kernel_rfl) (by kernel_rfl) (fun _ _ _ h => h) (Or.inl ⟨by rfl, ?hy8⟩) (by assumption) ?rest8
          case hy8 => (intro w hSw; (try simp only [List.getElem_toArray, List.getElem_cons_succ, List.getElem_cons_zero]); (try dsimp only at hSw); go_simp; all_goals (with_reducible rfl))
          (try simp only [Act.put, List.getElem_toArray, List.getElem_cons_succ, List.getElem_cons_zero, List.setIfInBounds_toArray, List.set_cons_zero, List.set_cons_succ])
          refine wpAnyT_take (i := 8) (v := ?v9) rfl (by kernel_rfl) (by kernel_rfl) (by kernel_rfl) (by kernel_rfl) (by kernel_rfl) (fun _ _ _ h => h) (Or.inl ⟨by rfl, ?hy9⟩) (by assumption) ?rest9
          case hy9 => (intro w hSw; (try simp only [List.getElem_toArray, List.getElem_cons_succ, List.getElem_cons_zero]); (try dsimp only at hSw); go_simp; all_goals (with_reducible rfl))
          (try simp only [Act.put, List.getElem_toArray, List.getElem_cons_succ, List.getElem_cons_zero, List.setIfInBounds_toArray, List.set_cons_zero, List.set_cons_succ])
          refine wpAnyT_take (i := 9) (v := ?v10) rfl (by kernel_rfl) (by kernel_rfl) (by kernel_rfl) (by kernel_rfl) (by kernel_rfl) (fun _ _ _ h => h) (Or.inl ⟨by rfl, ?hy10⟩) (by assumption) ?rest10
          case hy10 => (intro w hSw; (try simp only [List.getElem_toArray, List.getElem_cons_succ, List.getElem_cons_zero]); (try dsimp only at hSw); go_simp; all_goals (with_reducible rfl))
          (try simp only [Act.put, List.getElem_toArray, List.getElem_cons_succ, List.getElem_cons_zero, List.setIfInBounds_toArray, List.set_cons_zero, List.set_cons_succ])
          refine wpAnyT_take (i := 10) (v := ?v11) rfl (by kernel_rfl) (by kernel_rfl) (by kernel_rfl) (by kernel_rfl) (by kernel_rfl) (fun _ _ _ h => h) (Or.inl ⟨by rfl, ?hy11⟩) (by assumption) ?rest11
          case hy11 => (intro w hSw; (try simp only [List.getElem_toArray, List.getElem_cons_succ, List.getElem_cons_zero]); (try dsimp only at hSw); go_simp; all_goals (with_reducible rfl))
          (try simp only [Act.put, List.getElem_toArray, List.getElem_cons_succ, List.getElem_cons_zero, List.setIfInBounds_toArray, List.set_cons_zero, List.set_cons_succ])
          refine wpAnyT_one (i := 5) rfl (by kernel_rfl) (fun K hK => ?_)
          (try simp only [List.getElem_toArray, List.getElem_cons_succ, List.getElem_cons_zero])
          go_simp
          (refine (write_any p hp N X hX0 hX1 _).mono ?_; rintro e w4 ⟨rfl, hc4, hf4, hz4, hb4⟩; rw [HQ.out]; have hk4 := Keeps.step (wo := wq) hHeld.2 hb4; clear hc4 hf4 hz4 hb4 hHeld)
          (try go_wp2_with fail)
          refine hK.out _ _ ?hS12 ?rest12
          case hS12 => (exact ⟨fun _ _ h => Keeps.cells hk4 _ _ h, hk4⟩)
          clear hK K
          (try simp only [Act.put, List.getElem_toArray, List.getElem_cons_succ, List.getElem_cons_zero, List.setIfInBounds_toArray, List.set_cons_zero, List.set_cons_succ])
          have hHeld : (fun W => (∀ b o, b < wq.heap.size → W.cell? ⟨b, o, none⟩ = wq.cell? ⟨b, o, none⟩) ∧ Keeps wq W) w4 := ⟨fun _ _ h => Keeps.cells hk4 _ _ h, hk4⟩
          refine wpAnyT_one (i := 11) rfl (by kernel_rfl) (fun K hK => ?_)
          (try simp only [List.getElem_toArray, List.getElem_cons_succ, List.getElem_cons_zero])
          go_simp
          (refine (rwrite_any p hp N X hX0 hX1 _).mono ?_; rintro e w5 ⟨rfl, hc4, hf4, hz4, hb4⟩; rw [HQ.out]; have hk5 := Keeps.step (wo := wq) hk4 hb4; clear hc4 hf4 hz4 hb4 hHeld hk4)
          (try go_wp2_with fail)
          refine hK.out _ _ ?hS13 ?rest13
          case hS13 => (exact ⟨fun _ _ h => Keeps.cells hk5 _ _ h, hk5⟩)
          clear hK K
          (try simp only [Act.put, List.getElem_toArray, List.getElem_cons_succ, List.getElem_cons_zero, List.setIfInBounds_toArray, List.set_cons_zero, List.set_cons_succ])
          have hA5 := hA'.below hk5 gA'
          have hB5 := hB'.below hk5 gB'
          have hG5 := hG.below hk5 gG'
          have hbel5 : Below w1.heap.size w1 w5 := Below.trans hbel' (Below.mono hk5 hbel'.size)
          clear c0 c1 c2 c3 c4 c5 f0 f1 f2 f3 f4 f5 d0 d1 d2 d3 d4 d5 e0 e1 e2 e3 e4 e5 y0 y1 y2
          obtain ⟨c0, c1, c2, c3, c4, c5, f0, f1, f2, f3, f4, f5⟩ := hA5.six
          refine wpAnyT_last (i := 12) rfl (by kernel_rfl) rfl (fun K hK => ?_)
          (try simp only [List.getElem_toArray, List.getElem_cons_succ, List.getElem_cons_zero])
          go_simp
          refine hK.out _ _ ?_
          clear hK K
          (try simp only [Act.put, List.getElem_toArray, List.getElem_cons_succ, List.getElem_cons_zero, List.setIfInBounds_toArray, List.set_cons_zero, List.set_cons_succ])
          have hA6 := hA5.set6 q
          have hB6 : Blk ((((((w5.setCell ⟨w1.heap.size, 0, none⟩ (.int .u8 (q).d)).setCell ⟨w1.heap.size, 1, none⟩ (.int .u8 (q).c)).setCell ⟨w1.heap.size, 2, none⟩ (.int .u8 (q).l)).setCell ⟨w1.heap.size, 3, none⟩ (.int .i64 (q).b)).setCell ⟨w1.heap.size, 4, none⟩ (.int .i64 (q).n)).setCell ⟨w1.heap.size, 5, none⟩ (.int .i64 (q).s)) (w1.heap.size + 1) 26 (cells p) := ((((((((((((hB5).far (p := ⟨w1.heap.size, 0, none⟩) (by simp) _)).far (p := ⟨w1.heap.size, 1, none⟩) (by simp) _)).far (p := ⟨w1.heap.size, 2, none⟩) (by simp) _)).far (p := ⟨w1.heap.size, 3, none⟩) (by simp) _)).far (p := ⟨w1.heap.size, 4, none⟩) (by simp) _)).far (p := ⟨w1.heap.size, 5, none⟩) (by simp) _)
          have hG6 : Blk ((((((w5.setCell ⟨w1.heap.size, 0, none⟩ (.int .u8 (q).d)).setCell ⟨w1.heap.size, 1, none⟩ (.int .u8 (q).c)).setCell ⟨w1.heap.size, 2, none⟩ (.int .u8 (q).l)).setCell ⟨w1.heap.size, 3, none⟩ (.int .i64 (q).b)).setCell ⟨w1.heap.size, 4, none⟩ (.int .i64 (q).n)).setCell ⟨w1.heap.size, 5, none⟩ (.int .i64 (q).s)) g 28 #[.int .i64 2, .int .i64 N, .int .u8 X] := ((((((((((((hG5).far (p := ⟨w1.heap.size, 0, none⟩) nG0 _)).far (p := ⟨w1.heap.size, 1, none⟩) nG0 _)).far (p := ⟨w1.heap.size, 2, none⟩) nG0 _)).far (p := ⟨w1.heap.size, 3, none⟩) nG0 _)).far (p := ⟨w1.heap.size, 4, none⟩) nG0 _)).far (p := ⟨w1.heap.size, 5, none⟩) nG0 _)
          have hbel6 : Below w1.heap.size w1 ((((((w5.setCell ⟨w1.heap.size, 0, none⟩ (.int .u8 (q).d)).setCell ⟨w1.heap.size, 1, none⟩ (.int .u8 (q).c)).setCell ⟨w1.heap.size, 2, none⟩ (.int .u8 (q).l)).setCell ⟨w1.heap.size, 3, none⟩ (.int .i64 (q).b)).setCell ⟨w1.heap.size, 4, none⟩ (.int .i64 (q).n)).setCell ⟨w1.heap.size, 5, none⟩ (.int .i64 (q).s)) := ((((((((((((hbel5).setCell (by simp) _)).setCell (by simp) _)).setCell (by simp) _)).setCell (by simp) _)).setCell (by simp) _)).setCell (by simp) _)
          clear c0 c1 c2 c3 c4 c5 f0 f1 f2 f3 f4 f5 hA5 hB5 hG5 hbel5 hk5
          generalize ((((((w5.setCell ⟨w1.heap.size, 0, none⟩ (.int .u8 (q).d)).setCell ⟨w1.heap.size, 1, none⟩ (.int .u8 (q).c)).setCell ⟨w1.heap.size, 2, none⟩ (.int .u8 (q).l)).setCell ⟨w1.heap.size, 3, none⟩ (.int .i64 (q).b)).setCell ⟨w1.heap.size, 4, none⟩ (.int .i64 (q).n)).setCell ⟨w1.heap.size, 5, none⟩ (.int .i64 (q).s)) = w6 at *
          obtain ⟨d0, d1, d2, d3, d4, d5, e0, e1, e2, e3, e4, e5⟩ := hB6.six
          refine wpAnyT_last (i := 13) rfl (by kernel_rfl) rfl (fun K hK => ?_)
          (try simp only [List.getElem_toArray, List.getElem_cons_succ, List.getElem_cons_zero])
          go_simp
          refine hK.out _ _ ?_
          clear hK K
          (try simp only [Act.put, List.getElem_toArray, List.getElem_cons_succ, List.getElem_cons_zero, List.setIfInBounds_toArray, List.set_cons_zero, List.set_cons_succ])
          refine wpAnyT_done (by kernel_rfl) ?_ _
          have hA7 : Blk ((((((w6.setCell ⟨w1.heap.size + 1, 0, none⟩ (.int .u8 (q).d)).setCell ⟨w1.heap.size + 1, 1, none⟩ (.int .u8 (q).c)).setCell ⟨w1.heap.size + 1, 2, none⟩ (.int .u8 (q).l)).setCell ⟨w1.heap.size + 1, 3, none⟩ (.int .i64 (q).b)).setCell ⟨w1.heap.size + 1, 4, none⟩ (.int .i64 (q).n)).setCell ⟨w1.heap.size + 1, 5, none⟩ (.int .i64 (q).s)) w1.heap.size 25 (cells q) := ((((((((((((hA6).far (p := ⟨w1.heap.size + 1, 0, none⟩) (by simp) _)).far (p := ⟨w1.heap.size + 1, 1, none⟩) (by simp) _)).far (p := ⟨w1.heap.size + 1, 2, none⟩) (by simp) _)).far (p := ⟨w1.heap.size + 1, 3, none⟩) (by simp) _)).far (p := ⟨w1.heap.size + 1, 4, none⟩) (by simp) _)).far (p := ⟨w1.heap.size + 1, 5, none⟩) (by simp) _)
          have hB7 := hB6.set6 q
          have hG7 : Blk ((((((w6.setCell ⟨w1.heap.size + 1, 0, none⟩ (.int .u8 (q).d)).setCell ⟨w1.heap.size + 1, 1, none⟩ (.int .u8 (q).c)).setCell ⟨w1.heap.size + 1, 2, none⟩ (.int .u8 (q).l)).setCell ⟨w1.heap.size + 1, 3, none⟩ (.int .i64 (q).b)).setCell ⟨w1.heap.size + 1, 4, none⟩ (.int .i64 (q).n)).setCell ⟨w1.heap.size + 1, 5, none⟩ (.int .i64 (q).s)) g 28 #[.int .i64 2, .int .i64 N, .int .u8 X] := ((((((((((((hG6).far (p := ⟨w1.heap.size + 1, 0, none⟩) nG1 _)).far (p := ⟨w1.heap.size + 1, 1, none⟩) nG1 _)).far (p := ⟨w1.heap.size + 1, 2, none⟩) nG1 _)).far (p := ⟨w1.heap.size + 1, 3, none⟩) nG1 _)).far (p := ⟨w1.heap.size + 1, 4, none⟩) nG1 _)).far (p := ⟨w1.heap.size + 1, 5, none⟩) nG1 _)
          have hbel7 : Below w1.heap.size w1 ((((((w6.setCell ⟨w1.heap.size + 1, 0, none⟩ (.int .u8 (q).d)).setCell ⟨w1.heap.size + 1, 1, none⟩ (.int .u8 (q).c)).setCell ⟨w1.heap.size + 1, 2, none⟩ (.int .u8 (q).l)).setCell ⟨w1.heap.size + 1, 3, none⟩ (.int .i64 (q).b)).setCell ⟨w1.heap.size + 1, 4, none⟩ (.int .i64 (q).n)).setCell ⟨w1.heap.size + 1, 5, none⟩ (.int .i64 (q).s)) := ((((((((((((hbel6).setCell (by simp) _)).setCell (by simp) _)).setCell (by simp) _)).setCell (by simp) _)).setCell (by simp) _)).setCell (by simp) _)
          clear d0 d1 d2 d3 d4 d5 e0 e1 e2 e3 e4 e5 hA6 hB6 hG6 hbel6
          generalize ((((((w6.setCell ⟨w1.heap.size + 1, 0, none⟩ (.int .u8 (q).d)).setCell ⟨w1.heap.size + 1, 1, none⟩ (.int .u8 (q).c)).setCell ⟨w1.heap.size + 1, 2, none⟩ (.int .u8 (q).l)).setCell ⟨w1.heap.size + 1, 3, none⟩ (.int .i64 (q).b)).setCell ⟨w1.heap.size + 1, 4, none⟩ (.int .i64 (q).n)).setCell ⟨w1.heap.size + 1, 5, none⟩ (.int .i64 (q).s)) = w7 at *
          clear hA' hB' hG hbel' gA' gB' gG'
          have gA' := hA7.lt
          have gB' := hB7.lt
          have gG' := hG7.lt
          obtain ⟨c0, c1, c2, c3, c4, c5, f0, f1, f2, f3, f4, f5⟩ := hA7.six
          obtain ⟨d0, d1, d2, d3, d4, d5, e0, e1, e2, e3, e4, e5⟩ := hB7.six
          obtain ⟨y0, y1, y2⟩ := hG7.three
          clear f0 f1 f2 f3 f4 f5 e0 e1 e2 e3 e4 e5
          go_wp2_with fail
          go_region_held3 (fun W => (∀ b o, b < w7.heap.size → W.cell? ⟨b, o, none⟩ = w7.cell? ⟨b, o, none⟩) ∧ Keeps w7 W)
            (first | exact ⟨fun _ _ _ => rfl, (Keeps.refl _).drew⟩ | exact ⟨fun _ _ h => Keeps.cells (by assumption) _ _ h, by assumption⟩)
            (first
            | (go_at_call 13; refine (read_any q hqok _ _).mono ?_; rintro e w4 ⟨rfl, hc4, hf4, hz4, hb4⟩; go_split_ands; have hk4 := Keeps.step (wo := w7) (by assumption) hb4; clear hc4 hf4 hz4 hb4)
            | (go_at_call 14; refine (rread_any q hqok _ _).mono ?_; rintro e w4 ⟨rfl, hc4, hf4, hz4, hb4⟩; go_split_ands; have hk4 := Keeps.step (wo := w7) (by assumption) hb4; clear hc4 hf4 hz4 hb4))
          go_wp2_with fail
          exact ⟨⟨k + 1, q, by omega, by go_num, hqok, hA7.below hk4 gA', hB7.below hk4 gB', hbel7.trans (Below.mono hk4 hbel7.size)⟩, by simp [intOf]; omega⟩
        · go_wp2_with fail
          generalize (wr.alloc (.cells #[.int .i64 K, .int .i64 N, .int .u8 X] 28)) = wq at *
          clear hA hB hbel x0 x1 x2 i0 i1 g1 gA0
          generalize wr.heap.size = g at *
          have gA' := hA'.lt
          have gB' := hB'.lt
          have gG' := hG.lt
          obtain ⟨c0, c1, c2, c3, c4, c5, f0, f1, f2, f3, f4, f5⟩ := hA'.six
          obtain ⟨d0, d1, d2, d3, d4, d5, e0, e1, e2, e3, e4, e5⟩ := hB'.six
          obtain ⟨y0, y1, y2⟩ := hG.three
          clear f0 f1 f2 f3 f4 f5 e0 e1 e2 e3 e4 e5
          go_wp2_with fail
          go_region_held3 (fun W => (∀ b o, b < wq.heap.size → W.cell? ⟨b, o, none⟩ = wq.cell? ⟨b, o, none⟩) ∧ Keeps wq W)
            (first | exact ⟨fun _ _ _ => rfl, (Keeps.refl _).drew⟩ | exact ⟨fun _ _ h => Keeps.cells (by assumption) _ _ h, by assumption⟩)
            (first
            | (go_at_call 13; refine (read_any p hp _ _).mono ?_; rintro e w4 ⟨rfl, hc4, hf4, hz4, hb4⟩; go_split_ands; have hk4 := Keeps.step (wo := wq) (by assumption) hb4; clear hc4 hf4 hz4 hb4)
            | (go_at_call 14; refine (rread_any p hp _ _).mono ?_; rintro e w4 ⟨rfl, hc4, hf4, hz4, hb4⟩; go_split_ands; have hk4 := Keeps.step (wo := wq) (by assumption) hb4; clear hc4 hf4 hz4 hb4))
          go_wp2_with fail
          exact ⟨⟨k + 1, p, by omega, by go_num, hp, hA'.below hk4 gA', hB'.below hk4 gB', hbel'.trans (Below.mono hk4 hbel'.size)⟩, by simp [intOf]; omega⟩
    · obtain rfl : k = len := by omega
      go_wp2_with fail
      go_ret
      exact .of rfl (hbw1.trans (Below.mono hbel hbw1.size))

theorem walk_zero (s0 : Option Addr) (cap : Nat) (w : World) :
    Calls Try.prog 3 #[.slice s0 0 cap] w (Ret (.bool true) w) := by
  go_enter Try.func3, Try.ntmps3
  go_wp2_with fail
  refine (awake_any _).mono ?_
  rintro e w1 ⟨rfl, hd1, hf1, hz1, hbw1⟩
  clear hd1 hf1
  go_wp2_with fail
  go_loopw [21] (fun i wr => i = .int .i64 0 ∧ Below w1.heap.size w1 wr) (fun _ _ => 0)
  case atStart => exact ⟨rfl, ((Below.refl _ _).alloc (Nat.le_refl _) _).alloc (by simp) _⟩
  case round =>
    obtain ⟨rfl, hbel⟩ := hrel
    go_wp2_with fail
    go_ret
    exact .of rfl (hbw1.trans (Below.mono hbel hbw1.size))
theorem walk_out (s0 : Option Addr) (len cap : Nat) (h : 40 < len) (w : World) :
    Calls Try.prog 3 #[.slice s0 len cap] w (Ret (.bool true) w) := by
  have q1 : decide (40 < (len : Int)) = true := by simp; omega
  clear h
  go_enter Try.func3, Try.ntmps3
  go_wp2_with fail
  refine (awake_any _).mono ?_
  rintro e w1 ⟨rfl, hd1, hf1, hz1, hbw1⟩
  clear hd1 hf1
  go_wp2_with fail
  refine (awake_any _).mono ?_
  rintro e w2 ⟨rfl, hd2, hf2, hz2, hbw2⟩
  clear hd2 hf2
  go_wp2_with fail
  go_ret
  exact .of rfl (hbw1.trans (hbw2.mono hbw1.size))
theorem walk (w : World) (s0 : Option Addr) (len0 cap0 : Nat) (z0 : Unit) (h0 : IsOps w s0 len0 z0) :
    Calls Try.prog 3 #[.slice s0 len0 cap0] w (Ret (.bool true) w) := by
  by_cases ho : 40 < len0
  · exact walk_out s0 len0 cap0 ho w
  · rcases Nat.eq_zero_or_pos len0 with hz | hz
    · subst hz; exact walk_zero s0 cap0 w
    · obtain ⟨b1, o1, rfl, hb1, hc1⟩ := h0 hz
      exact walkIn b1 o1 len0 cap0 (by omega) w hb1 hc1
end serialPlays
end Go.Proofs.Ytnopldejhkmdeaa
