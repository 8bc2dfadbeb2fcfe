/- The law DmaAny: its walk. -/
import Derived.Test.YtgonapmmebjeaaaWalksA
import Derived.Deep.QuietTactic
import Derived.BigQuiet
import Derived.Deep.RegionHeld3
namespace Go.Proofs.Ytgonapmmebjeaaa
open Go.RowKit
set_option linter.unusedSimpArgs false
set_option linter.unusedVariables false
namespace dmaAny

set_option maxRecDepth 100000 in
set_option maxHeartbeats 4000000 in
theorem walkIn (p l a1 a2 : Int) (h0 : 0 ≤ p) (h0' : p ≤ 255) (hl : -1000 ≤ l) (hl' : l ≤ 1000) (h1 : 0 ≤ a1) (h1' : a1 ≤ 255) (h2 : 0 ≤ a2) (h2' : a2 ≤ 65535) (w : World) :
    Calls Try.prog 7 #[cop p l, .int .u8 a1, .int .u16 a2] w (Ret (.bool true) w) := by
  have d1 : decide (l < -1000) = false := by simp; omega
  have d2 : decide (1000 < l) = false := by simp; omega
  go_enter Try.func7, Try.ntmps7
  go_wp2_with fail
  refine (awake_any _).mono ?_
  rintro e w1 ⟨rfl, hc1, hf1, hz1, hb1⟩
  have hB1 := (Blk.new w 32 #[.int .u8 p, .int .i64 l]).below hb1 (by simp)
  obtain ⟨c0, c1, f0, f1⟩ := hB1.two
  simp at hz1
  clear hc1 hf1
  go_wp2_with fail
  refine (tick_any _ _ _ h0 h0' hl hl').mono ?_
  rintro e w2 ⟨rfl, hc2, hf2, hz2, hb2⟩
  have hB2 := (hB1.alloc (.cells #[.int .u8 p, .int .i64 l] 24)).below hb2 (by simp; omega)
  have hC2 := (Blk.new w1 24 #[.int .u8 p, .int .i64 l]).below hb2 (by simp)
  clear c0 c1 f0 f1 hc2 hf2
  have g2 := hB2.lt
  have g3 := hC2.lt
  obtain ⟨c0, c1, f0, f1⟩ := hB2.two
  obtain ⟨k0, k1, l0, l1⟩ := hC2.two
  simp at hz2
  go_wp2_with fail
  refine (rtick_any _ _ _ h0 h0' hl hl').mono ?_
  rintro e w3 ⟨rfl, hc3, hf3, hz3, hb3⟩
  have hB3 := (hB2.alloc (.cells #[.int .u8 p, .int .i64 (tickL l)] 24)).below hb3 (by simp; omega)
  have hC3 := (hC2.alloc (.cells #[.int .u8 p, .int .i64 (tickL l)] 24)).below hb3 (by simp; omega)
  have hD3 := (Blk.new w2 24 #[.int .u8 p, .int .i64 (tickL l)]).below hb3 (by simp)
  clear c0 c1 f0 f1 hc3 hf3 k0 k1 l0 l1
  have g2 := hB3.lt
  have g3 := hC3.lt
  have g4 := hD3.lt
  obtain ⟨c0, c1, f0, f1⟩ := hB3.two
  obtain ⟨k0, k1, l0, l1⟩ := hC3.two
  obtain ⟨m0, m1, n0, n1⟩ := hD3.two
  simp at hz3
  go_wp2_with fail
  have hB4 := hB3.alloc (.cells #[.int .u8 p, .int .i64 (tickL l)] 32)
  have hC4 := hC3.alloc (.cells #[.int .u8 p, .int .i64 (tickL l)] 32)
  have hD4 := hD3.alloc (.cells #[.int .u8 p, .int .i64 (tickL l)] 32)
  have hE4 := Blk.new w3 32 #[.int .u8 p, .int .i64 (tickL l)]
  have hW4 : Below w.heap.size w (w3.alloc (.cells #[.int .u8 p, .int .i64 (tickL l)] 32)) := by
    have q1 : Below w.heap.size w w1 := ((Below.refl _ _).alloc (Nat.le_refl _) _).trans (hb1.mono (by simp))
    have q2 : Below w.heap.size w w2 := (q1.alloc (by omega) _).trans (hb2.mono (by simp; omega))
    have q3 : Below w.heap.size w w3 := (q2.alloc (by omega) _).trans (hb3.mono (by simp; omega))
    exact q3.alloc (by omega) _
  clear hB3 hC3 hD3 hB2 hC2 hB1 c0 c1 f0 f1 k0 k1 l0 l1 m0 m1 n0 n1 g2 g3 g4 hb3 hb2 hb1
  generalize (w3.alloc (.cells #[.int .u8 p, .int .i64 (tickL l)] 32)) = wo at *
  have gB := hB4.lt
  have gC := hC4.lt
  have gD := hD4.lt
  have gE := hE4.lt
  obtain ⟨c0, c1, _, _⟩ := hB4.two
  obtain ⟨k0, k1, _, _⟩ := hC4.two
  obtain ⟨m0, m1, _, _⟩ := hD4.two
  obtain ⟨n0, n1, _, _⟩ := hE4.two
  go_region_held3 (fun W => (∀ b o, b < wo.heap.size → W.cell? ⟨b, o, none⟩ = wo.cell? ⟨b, o, none⟩) ∧ Keeps wo W)
    (first | exact ⟨fun _ _ _ => rfl, (Keeps.refl _).drew⟩ | exact ⟨fun _ _ h => Keeps.cells (by assumption) _ _ h, by assumption⟩)
    (first
    | (go_at_call 9; refine (write_any _ _ _ _).mono ?_; rintro e w4 ⟨rfl, hc4, hf4, hz4, hb4⟩; go_split_ands; have hk4 := Keeps.step (wo := wo) (by assumption) hb4; clear hc4 hf4 hz4 hb4)
    | (go_at_call 12; refine (rwrite_any _ _ _ _).mono ?_; rintro e w4 ⟨rfl, hc4, hf4, hz4, hb4⟩; go_split_ands; have hk4 := Keeps.step (wo := wo) (by assumption) hb4; clear hc4 hf4 hz4 hb4)
    | (go_at_call 14; refine (lets_any _ _ _ _).mono ?_; rintro e w4 ⟨rfl, hc4, hf4, hz4, hb4⟩; go_split_ands; have hk4 := Keeps.step (wo := wo) (by assumption) hb4; clear hc4 hf4 hz4 hb4)
    | (go_at_call 15; refine (rlets_any _ _ _ _ h2 h2').mono ?_; rintro e w4 ⟨rfl, hc4, hf4, hz4, hb4⟩; go_split_ands; have hk4 := Keeps.step (wo := wo) (by assumption) hb4; clear hc4 hf4 hz4 hb4)
    | (go_at_call 11; refine (busy_any _ _ _).mono ?_; rintro e w4 ⟨rfl, hc4, hf4, hz4, hb4⟩; go_split_ands; have hk4 := Keeps.step (wo := wo) (by assumption) hb4; clear hc4 hf4 hz4 hb4))
  go_wp2_with fail
  go_ret
  exact .of rfl (hW4.trans (Below.mono hk4 hW4.size))

set_option maxRecDepth 100000 in
theorem walk_out (p l a1 a2 : Int) (hl : l < -1000 ∨ 1000 < l) (w : World) :
    Calls Try.prog 7 #[cop p l, .int .u8 a1, .int .u16 a2] w (Ret (.bool true) w) := by
  by_cases hx : l < -1000
  case' pos =>
    have d1 : decide (l < -1000) = true := by simp; omega
  case' neg =>
    have d1 : decide (l < -1000) = false := by simp; omega
    have d2 : decide (1000 < l) = true := by simp; omega
  all_goals
    clear hl
    go_enter Try.func7, Try.ntmps7
    go_wp2_with fail
    refine (awake_any _).mono ?_
    rintro e w1 ⟨rfl, hc1, hf1, hz1, hb1⟩
    have hB1 := (Blk.new w 32 #[.int .u8 p, .int .i64 l]).below hb1 (by simp)
    obtain ⟨c0, c1, f0, f1⟩ := hB1.two
    simp at hz1
    clear hc1 hf1
    go_wp2_with fail
    refine (awake_any _).mono ?_
    rintro e w2 ⟨rfl, hc2, hf2, hz2, hb2⟩
    clear hc2 hf2
    go_wp2_with fail
    go_ret
    exact .of rfl ((((Below.refl _ _).alloc (Nat.le_refl _) _).trans (hb1.mono (by simp))).trans (hb2.mono (by omega)))

theorem walk (p l a1 a2 : Int) (h0 : 0 ≤ p) (h0' : p ≤ 255) (hl : -9223372036854775808 ≤ l) (hl' : l ≤ 9223372036854775807) (h1 : 0 ≤ a1) (h1' : a1 ≤ 255) (h2 : 0 ≤ a2) (h2' : a2 ≤ 65535) (w : World) :
    Calls Try.prog 7 #[.agg #[.int .u8 p, .int .i64 l], .int .u8 a1, .int .u16 a2] w (Ret (.bool true) w) := by
  by_cases h : l < -1000 ∨ 1000 < l
  · exact walk_out p l a1 a2 h w
  · exact walkIn p l a1 a2 h0 h0' (by omega) (by omega) h1 h1' h2 h2' w
end dmaAny
end Go.Proofs.Ytgonapmmebjeaaa
