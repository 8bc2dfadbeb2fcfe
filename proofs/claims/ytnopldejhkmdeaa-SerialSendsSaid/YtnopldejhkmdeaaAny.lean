/- The law SerialAny: its walk. -/
import Derived.Test.YtnopldejhkmdeaaWalksA
import Derived.Deep.RegionHeld3
namespace Go.Proofs.Ytnopldejhkmdeaa
open Go.RowKit
set_option linter.unusedSimpArgs false
set_option linter.unusedVariables false

theorem awake_any (w : World) : Calls Try.prog 8 #[] w (Ret (.bool true) w) := by
  go_enter Try.func8, Try.ntmps8
  go_wp2_with fail
  refine (write_any ⟨0, 0, 0, 0, 0, 0⟩ (by unfold St.ok; decide) 0 65 (by omega) (by omega) _).mono ?_
  rintro e w1 ⟨rfl, hc1, hf1, hz1, hb1⟩
  rw [show prt (writeS ⟨0, 0, 0, 0, 0, 0⟩ 0 65) = prt ⟨65, 0, 0, 0, 0, 0⟩ from rfl]
  go_wp2_with fail
  refine (write_any ⟨65, 0, 0, 0, 0, 0⟩ (by unfold St.ok; decide) 1 129 (by omega) (by omega) _).mono ?_
  rintro e w2 ⟨rfl, hc2, hf2, hz2, hb2⟩
  rw [show prt (writeS ⟨65, 0, 0, 0, 0, 0⟩ 1 129) = prt ⟨65, 129, 65, 8, 0, 1⟩ from rfl]
  clear hc1 hf1 hc2 hf2
  go_wp2_with fail
  refine (tick_any ⟨65, 129, 65, 8, 0, 1⟩ (by unfold St.ok; decide) _).mono ?_
  rintro e w3 ⟨rfl, hc3, hf3, hz3, hb3⟩
  rw [show tickI ⟨65, 129, 65, 8, 0, 1⟩ = false from rfl, show prt (tickS ⟨65, 129, 65, 8, 0, 1⟩) = prt ⟨65, 129, 65, 8, 1, 1⟩ from rfl]
  have hB3 := (Blk.new w2 25 (cells ⟨65, 129, 65, 8, 0, 1⟩)).below hb3 (by simp)
  have hg3 := hB3.lt
  obtain ⟨c0, c1, c2, c3, c4, c5, f0, f1, f2, f3, f4, f5⟩ := hB3.six
  dsimp only at c0 c1 c2 c3 c4 c5
  clear hc3 hf3
  go_wp2_with fail
  refine (read_any ⟨65, 129, 65, 8, 0, 1⟩ (by unfold St.ok; decide) 1 _).mono ?_
  rintro e w4 ⟨rfl, hc4, hf4, hz4, hb4⟩
  rw [show readS ⟨65, 129, 65, 8, 0, 1⟩ 1 = 255 from rfl]
  go_wp2_with fail
  go_ret
  simp at hz3
  exact .of rfl ((((hb1.trans (hb2.mono hz1)).alloc (by omega) _).trans (hb3.mono (by simp; omega))).alloc (by omega) _ |>.trans (hb4.mono (by simp; omega)))

theorem tickS_ok (p : St) (hp : p.ok) : (tickS p).ok := by
  obtain ⟨hd0, hd1, hc0, hc1, hl0, hl1, hb0, hb1, hn0, hn1, hs0, hs1⟩ := hp
  unfold tickS
  split
  · exact ⟨hd0, hd1, hc0, hc1, hl0, hl1, hb0, hb1, hn0, hn1, hs0, hs1⟩
  · split
    · exact ⟨hd0, hd1, hc0, hc1, hl0, hl1, hb0, hb1, by dsimp only; omega, by dsimp only; omega, hs0, hs1⟩
    · split
      · exact ⟨by dsimp only; omega, by dsimp only; omega, hc0, hc1, hl0, hl1, by dsimp only; omega, by dsimp only; omega, by dsimp only; omega, by dsimp only; omega, hs0, hs1⟩
      · exact ⟨by dsimp only; omega, by dsimp only; omega, by dsimp only; omega, by dsimp only; omega, hl0, hl1, by dsimp only; omega, by dsimp only; omega, by dsimp only; omega, by dsimp only; omega, hs0, hs1⟩
theorem writeS_ok (p : St) (hp : p.ok) (n x : Int) (hx : 0 ≤ x) (hx' : x ≤ 255) : (writeS p n x).ok := by
  obtain ⟨hd0, hd1, hc0, hc1, hl0, hl1, hb0, hb1, hn0, hn1, hs0, hs1⟩ := hp
  unfold writeS
  split
  · exact ⟨hx, hx', hc0, hc1, hl0, hl1, hb0, hb1, hn0, hn1, hs0, hs1⟩
  · split
    · split
      · exact ⟨hd0, hd1, by dsimp only; omega, by dsimp only; omega, hd0, hd1, by dsimp only; omega, by dsimp only; omega, by dsimp only; omega, by dsimp only; omega, by dsimp only; omega, by dsimp only; omega⟩
      · exact ⟨hd0, hd1, by dsimp only; omega, by dsimp only; omega, hl0, hl1, by dsimp only; omega, by dsimp only; omega, hn0, hn1, hs0, hs1⟩
    · exact ⟨hd0, hd1, hc0, hc1, hl0, hl1, hb0, hb1, hn0, hn1, hs0, hs1⟩

namespace serialAny
set_option maxRecDepth 100000 in
set_option maxHeartbeats 8000000 in
theorem walkIn (p : St) (hp : p.ok) (n x : Int) (hx : 0 ≤ x) (hx' : x ≤ 255) (w : World) :
    Calls Try.prog 4 #[prt p, .int .i64 n, .int .u8 x] w (Ret (.bool true) w) := by
  have hpp := hp
  obtain ⟨hd0, hd1, hc0, hc1, hl0, hl1, hb0, hb1, hn0, hn1, hs0, hs1⟩ := hpp
  have d1 : decide (p.s < 0) = false := by simp; omega
  have d2 : decide (65535 < p.s) = false := by simp; omega
  have d3 : decide (p.n < 0) = false := by simp; omega
  have d4 : decide (127 < p.n) = false := by simp; omega
  have d5 : decide (p.b < -1) = false := by simp; omega
  have d6 : decide (9 < p.b) = false := by simp; omega
  clear hd0 hd1 hc0 hc1 hl0 hl1 hb0 hb1 hn0 hn1 hs0 hs1
  go_enter Try.func4, Try.ntmps4
  go_wp2_with fail
  refine (awake_any _).mono ?_
  rintro e w1 ⟨rfl, hc1, hf1, hz1, hb1⟩
  have hB1 := (Blk.new w 26 (cells p)).below hb1 (by simp)
  have g1 := hB1.lt
  obtain ⟨c0, c1, c2, c3, c4, c5, _⟩ := hB1.six
  simp at hz1
  clear hc1 hf1
  go_wp2_with fail
  clear d1 d2 d3 d4 d5 d6
  refine (tick_any p hp _).mono ?_
  rintro e w2 ⟨rfl, hc2, hf2, hz2, hb2⟩
  have hB2 := (hB1.alloc (.cells (cells p) 25)).below hb2 (by simp; omega)
  have hC2 := (Blk.new w1 25 (cells p)).below hb2 (by simp)
  clear c0 c1 c2 c3 c4 c5 hc2 hf2
  have g2 := hB2.lt
  have g3 := hC2.lt
  obtain ⟨c0, c1, c2, c3, c4, c5, _⟩ := hB2.six
  obtain ⟨k0, k1, k2, k3, k4, k5, _⟩ := hC2.six
  simp at hz2
  go_wp2_with fail
  refine (rtick_any p hp _).mono ?_
  rintro e w3 ⟨rfl, hc3, hf3, hz3, hb3⟩
  obtain ⟨q, hq⟩ : ∃ q, tickS p = q := ⟨_, rfl⟩
  rw [hq] at hb3 ⊢
  have hB3 := (hB2.alloc (.cells (cells q) 25)).below hb3 (by simp; omega)
  have hC3 := (hC2.alloc (.cells (cells q) 25)).below hb3 (by simp; omega)
  have hD3 := (Blk.new w2 25 (cells q)).below hb3 (by simp)
  clear c0 c1 c2 c3 c4 c5 hc3 hf3 k0 k1 k2 k3 k4 k5
  have g2 := hB3.lt
  have g3 := hC3.lt
  have g4 := hD3.lt
  simp only [hq] at hz3
  clear hq
  simp at hz3
  go_wp2_with fail
  have hB4 := hB3.alloc (.cells (cells q) 26)
  have hC4 := hC3.alloc (.cells (cells q) 26)
  have hD4 := hD3.alloc (.cells (cells q) 26)
  have hE4 := Blk.new w3 26 (cells q)
  have hW4 : Below w.heap.size w (w3.alloc (.cells (cells q) 26)) := by
    have q1 : Below w.heap.size w w1 := ((Below.refl _ _).alloc (Nat.le_refl _) _).trans (hb1.mono (by simp))
    have q2 : Below w.heap.size w w2 := (q1.alloc (by omega) _).trans (hb2.mono (by simp; omega))
    have q3 : Below w.heap.size w w3 := (q2.alloc (by omega) _).trans (hb3.mono (by simp; omega))
    exact q3.alloc (by omega) _
  clear hB3 hC3 hD3 hB2 hC2 hB1 g1 g2 g3 g4 hb3 hb2 hb1
  generalize (w3.alloc (.cells (cells q) 26)) = wo at *
  have gB := hB4.lt
  have gC := hC4.lt
  have gD := hD4.lt
  have gE := hE4.lt
  obtain ⟨c0, c1, c2, c3, c4, c5, _⟩ := hB4.six
  obtain ⟨k0, k1, k2, k3, k4, k5, _⟩ := hC4.six
  obtain ⟨m0, m1, m2, m3, m4, m5, _⟩ := hD4.six
  obtain ⟨n0, n1, n2, n3, n4, n5, _⟩ := hE4.six
  go_region_held3 (fun W => (∀ b o, b < wo.heap.size → W.cell? ⟨b, o, none⟩ = wo.cell? ⟨b, o, none⟩) ∧ Keeps wo W)
    (first | exact ⟨fun _ _ _ => rfl, (Keeps.refl _).drew⟩ | exact ⟨fun _ _ h => Keeps.cells (by assumption) _ _ h, by assumption⟩)
    (first
    | (go_at_call 11; refine (write_any p hp _ _ hx hx' _).mono ?_; rintro e w4 ⟨rfl, hc4, hf4, hz4, hb4⟩; go_split_ands; have hk4 := Keeps.step (wo := wo) (by assumption) hb4; clear hc4 hf4 hz4 hb4)
    | (go_at_call 12; refine (rwrite_any p hp _ _ hx hx' _).mono ?_; rintro e w4 ⟨rfl, hc4, hf4, hz4, hb4⟩; go_split_ands; have hk4 := Keeps.step (wo := wo) (by assumption) hb4; clear hc4 hf4 hz4 hb4)
    | (go_at_call 13; refine (read_any p hp _ _).mono ?_; rintro e w4 ⟨rfl, hc4, hf4, hz4, hb4⟩; go_split_ands; have hk4 := Keeps.step (wo := wo) (by assumption) hb4; clear hc4 hf4 hz4 hb4)
    | (go_at_call 14; refine (rread_any p hp _ _).mono ?_; rintro e w4 ⟨rfl, hc4, hf4, hz4, hb4⟩; go_split_ands; have hk4 := Keeps.step (wo := wo) (by assumption) hb4; clear hc4 hf4 hz4 hb4))
  go_wp2_with fail
  go_ret
  exact .of rfl (hW4.trans (Below.mono hk4 hW4.size))

set_option maxRecDepth 100000 in
set_option maxHeartbeats 4000000 in
theorem walk_out (d c l b n s m x : Int) (h : s < 0 ∨ 65535 < s ∨ n < 0 ∨ 127 < n ∨ b < -1 ∨ 9 < b) (w : World) :
    Calls Try.prog 4 #[.agg #[.int .u8 d, .int .u8 c, .int .u8 l, .int .i64 b, .int .i64 n, .int .i64 s], .int .i64 m, .int .u8 x] w (Ret (.bool true) w) := by
  by_cases q0 : s < 0
  · have d0 : decide (s < 0) = true := by simp; omega
    have HH := hid_ h
    clear h
    go_enter Try.func4, Try.ntmps4
    go_wp2_with fail
    refine (awake_any _).mono ?_
    rintro e w1 ⟨rfl, hc1, hf1, hz1, hb1⟩
    have hB1 := (Blk.new w 26 (cells ⟨d, c, l, b, n, s⟩)).below hb1 (by simp)
    have g1 := hB1.lt
    obtain ⟨c0, c1, c2, c3, c4, c5, _⟩ := hB1.six
    dsimp only at c0 c1 c2 c3 c4 c5
    simp at hz1
    clear hc1 hf1
    go_wp2_with fail
    refine (awake_any _).mono ?_
    rintro e w2 ⟨rfl, hc2, hf2, hz2, hb2⟩
    clear hc2 hf2
    go_wp2_with fail
    go_ret
    exact .of rfl ((((Below.refl _ _).alloc (Nat.le_refl _) _).trans (hb1.mono (by simp))).trans (hb2.mono (by omega)))
  · have d0 : decide (s < 0) = false := by simp; omega
    by_cases q1 : 65535 < s
    · have d1 : decide (65535 < s) = true := by simp; omega
      have HH := hid_ h
      clear h
      go_enter Try.func4, Try.ntmps4
      go_wp2_with fail
      refine (awake_any _).mono ?_
      rintro e w1 ⟨rfl, hc1, hf1, hz1, hb1⟩
      have hB1 := (Blk.new w 26 (cells ⟨d, c, l, b, n, s⟩)).below hb1 (by simp)
      have g1 := hB1.lt
      obtain ⟨c0, c1, c2, c3, c4, c5, _⟩ := hB1.six
      dsimp only at c0 c1 c2 c3 c4 c5
      simp at hz1
      clear hc1 hf1
      go_wp2_with fail
      refine (awake_any _).mono ?_
      rintro e w2 ⟨rfl, hc2, hf2, hz2, hb2⟩
      clear hc2 hf2
      go_wp2_with fail
      go_ret
      exact .of rfl ((((Below.refl _ _).alloc (Nat.le_refl _) _).trans (hb1.mono (by simp))).trans (hb2.mono (by omega)))
    · have d1 : decide (65535 < s) = false := by simp; omega
      by_cases q2 : n < 0
      · have d2 : decide (n < 0) = true := by simp; omega
        have HH := hid_ h
        clear h
        go_enter Try.func4, Try.ntmps4
        go_wp2_with fail
        refine (awake_any _).mono ?_
        rintro e w1 ⟨rfl, hc1, hf1, hz1, hb1⟩
        have hB1 := (Blk.new w 26 (cells ⟨d, c, l, b, n, s⟩)).below hb1 (by simp)
        have g1 := hB1.lt
        obtain ⟨c0, c1, c2, c3, c4, c5, _⟩ := hB1.six
        dsimp only at c0 c1 c2 c3 c4 c5
        simp at hz1
        clear hc1 hf1
        go_wp2_with fail
        refine (awake_any _).mono ?_
        rintro e w2 ⟨rfl, hc2, hf2, hz2, hb2⟩
        clear hc2 hf2
        go_wp2_with fail
        go_ret
        exact .of rfl ((((Below.refl _ _).alloc (Nat.le_refl _) _).trans (hb1.mono (by simp))).trans (hb2.mono (by omega)))
      · have d2 : decide (n < 0) = false := by simp; omega
        by_cases q3 : 127 < n
        · have d3 : decide (127 < n) = true := by simp; omega
          have HH := hid_ h
          clear h
          go_enter Try.func4, Try.ntmps4
          go_wp2_with fail
          refine (awake_any _).mono ?_
          rintro e w1 ⟨rfl, hc1, hf1, hz1, hb1⟩
          have hB1 := (Blk.new w 26 (cells ⟨d, c, l, b, n, s⟩)).below hb1 (by simp)
          have g1 := hB1.lt
          obtain ⟨c0, c1, c2, c3, c4, c5, _⟩ := hB1.six
          dsimp only at c0 c1 c2 c3 c4 c5
          simp at hz1
          clear hc1 hf1
          go_wp2_with fail
          refine (awake_any _).mono ?_
          rintro e w2 ⟨rfl, hc2, hf2, hz2, hb2⟩
          clear hc2 hf2
          go_wp2_with fail
          go_ret
          exact .of rfl ((((Below.refl _ _).alloc (Nat.le_refl _) _).trans (hb1.mono (by simp))).trans (hb2.mono (by omega)))
        · have d3 : decide (127 < n) = false := by simp; omega
          by_cases q4 : b < -1
          · have d4 : decide (b < -1) = true := by simp; omega
            have HH := hid_ h
            clear h
            go_enter Try.func4, Try.ntmps4
            go_wp2_with fail
            refine (awake_any _).mono ?_
            rintro e w1 ⟨rfl, hc1, hf1, hz1, hb1⟩
            have hB1 := (Blk.new w 26 (cells ⟨d, c, l, b, n, s⟩)).below hb1 (by simp)
            have g1 := hB1.lt
            obtain ⟨c0, c1, c2, c3, c4, c5, _⟩ := hB1.six
            dsimp only at c0 c1 c2 c3 c4 c5
            simp at hz1
            clear hc1 hf1
            go_wp2_with fail
            refine (awake_any _).mono ?_
            rintro e w2 ⟨rfl, hc2, hf2, hz2, hb2⟩
            clear hc2 hf2
            go_wp2_with fail
            go_ret
            exact .of rfl ((((Below.refl _ _).alloc (Nat.le_refl _) _).trans (hb1.mono (by simp))).trans (hb2.mono (by omega)))
          · have d4 : decide (b < -1) = false := by simp; omega
            by_cases q5 : 9 < b
            · have d5 : decide (9 < b) = true := by simp; omega
              have HH := hid_ h
              clear h
              go_enter Try.func4, Try.ntmps4
              go_wp2_with fail
              refine (awake_any _).mono ?_
              rintro e w1 ⟨rfl, hc1, hf1, hz1, hb1⟩
              have hB1 := (Blk.new w 26 (cells ⟨d, c, l, b, n, s⟩)).below hb1 (by simp)
              have g1 := hB1.lt
              obtain ⟨c0, c1, c2, c3, c4, c5, _⟩ := hB1.six
              dsimp only at c0 c1 c2 c3 c4 c5
              simp at hz1
              clear hc1 hf1
              go_wp2_with fail
              refine (awake_any _).mono ?_
              rintro e w2 ⟨rfl, hc2, hf2, hz2, hb2⟩
              clear hc2 hf2
              go_wp2_with fail
              go_ret
              exact .of rfl ((((Below.refl _ _).alloc (Nat.le_refl _) _).trans (hb1.mono (by simp))).trans (hb2.mono (by omega)))
            · have d5 : decide (9 < b) = false := by simp; omega
              exfalso; omega

theorem walk (d c l b n s m x : Int) (hd0 : 0 ≤ d) (hd1 : d ≤ 255) (hc0 : 0 ≤ c) (hc1 : c ≤ 255) (hl0 : 0 ≤ l) (hl1 : l ≤ 255) (_ : -9223372036854775808 ≤ b) (_ : b ≤ 9223372036854775807)
    (_ : -9223372036854775808 ≤ n) (_ : n ≤ 9223372036854775807) (_ : -9223372036854775808 ≤ s) (_ : s ≤ 9223372036854775807) (_ : -9223372036854775808 ≤ m) (_ : m ≤ 9223372036854775807) (hx : 0 ≤ x) (hx' : x ≤ 255) (w : World) :
    Calls Try.prog 4 #[.agg #[.int .u8 d, .int .u8 c, .int .u8 l, .int .i64 b, .int .i64 n, .int .i64 s], .int .i64 m, .int .u8 x] w (Ret (.bool true) w) := by
  by_cases h : s < 0 ∨ 65535 < s ∨ n < 0 ∨ 127 < n ∨ b < -1 ∨ 9 < b
  · exact walk_out d c l b n s m x h w
  · exact walkIn ⟨d, c, l, b, n, s⟩ ⟨hd0, hd1, hc0, hc1, hl0, hl1, by dsimp only; omega, by dsimp only; omega, by dsimp only; omega, by dsimp only; omega, by dsimp only; omega, by dsimp only; omega⟩ m x hx hx' w
end serialAny
end Go.Proofs.Ytnopldejhkmdeaa
