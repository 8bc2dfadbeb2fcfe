/- The law DmaLeft: its walk. -/
import Derived.Test.YtgonapmmebjeaaaWalksA
namespace Go.Proofs.Ytgonapmmebjeaaa
open Go.RowKit
set_option linter.unusedSimpArgs false
set_option linter.unusedVariables false
namespace dmaLeft

set_option maxRecDepth 100000 in
theorem walk (a0 a1 a2 : Int) (h0 : 0 ≤ a0) (h0' : a0 ≤ 255) (h1 : 0 ≤ a1) (h1' : a1 ≤ 65535) (h2 : 0 ≤ a2) (h2' : a2 ≤ 255) (w : World) :
    Calls Try.prog 4 #[.int .u8 a0, .int .u16 a1, .int .u8 a2] w (Ret (.bool true) w) := by
  obtain ⟨n, hn⟩ : ∃ n : Nat, a1 % 400 = n := Int.eq_ofNat_of_zero_le (by omega)
  have hn4 : n < 400 := by omega
  have HN := hid_ hn
  clear hn
  go_enter Try.func4, Try.ntmps4
  go_wp2_with fail
  refine (awake_any _).mono ?_
  rintro e w1 ⟨rfl, hc1, hf1, hz1, hb1⟩
  go_wp2_with fail
  refine (write_any _ _ _ _).mono ?_
  rintro e w2 ⟨rfl, hc2, hf2, hz2, hb2⟩
  clear hc1 hf1 hc2 hf2
  go_wp2_with fail
  rw [HN.out]
  clear HN
  go_loopw [9, 21] (fun c i wr => ∃ k : Nat, k ≤ n ∧ i = .int .i64 k ∧ c = .int .i64 (min k 160 : Nat) ∧ Blk wr w2.heap.size 24 #[.int .u8 a0, .int .i64 (max 0 (160 - (k : Int)))] ∧ Below w.heap.size w wr) (fun _ i _ => n - (intOf i).toNat)
  case atStart =>
    refine ⟨0, by omega, rfl, rfl, Blk.new _ _ _, ?_⟩
    exact ((hb1.trans (hb2.mono hz1)).alloc (by omega) _)
  case round =>
    obtain ⟨k, hk, rfl, rfl, hB, hbel⟩ := hrel
    have hg := hB.lt
    obtain ⟨c0, c1, f0, f1⟩ := hB.two
    by_cases hlt : k < n
    · go_wp2_with fail
      refine (tick_any _ _ _ h0 h0' (by omega) (by omega)).mono ?_
      rintro e w3 ⟨rfl, hc3, hf3, hz3, hb3⟩
      have hd : decide (0 < max 0 (160 - (k : Int))) = decide (k < 160) := decide_eq_decide.2 (by omega)
      rw [tickV, hd]
      have hB3 := hB.below hb3 hg
      clear hd hc3 hf3
      by_cases hk160 : k < 160
      all_goals
        have hg3 := hB3.lt
        obtain ⟨c0, c1, f0, f1⟩ := hB3.two
        have e : tickL (max 0 (160 - (k : Int))) = max 0 (160 - ((k + 1 : Nat) : Int)) := by unfold tickL; split <;> omega
        rw [e]
        clear e
        go_wp2_with fail
        refine ⟨⟨k + 1, by omega, by go_num, ?_, (hB3.set2 _ _), ?_⟩, by simp [intOf]; omega⟩
        · congr 1; omega
        · exact ((hbel.trans (hb3.mono hbel.size)).setCell (Nat.le_trans hz1 hz2) _).setCell (Nat.le_trans hz1 hz2) _
    · obtain rfl : k = n := by omega
      clear hlt
      clear c0 c1 f0 f1
      have HLAST : ∀ W : World, Below wr.heap.size wr W → Ret (.bool true) w (.returned (.bool true)) W := fun W h =>
        .of rfl (hbel.trans (h.mono hbel.size))
      have HLAST := hid_ HLAST
      by_cases hk160 : k < 160
      case' pos =>
        rw [show max 0 (160 - (k : Int)) = 160 - (k : Int) from by omega] at hB
        rw [show min k 160 = k from by omega]
      case' neg =>
        rw [show max 0 (160 - (k : Int)) = 0 from by omega] at hB
        rw [show min k 160 = 160 from by omega]
      all_goals
        obtain ⟨c0, c1, f0, f1⟩ := hB.two
        go_wp2_with fail
        refine (write_any _ _ _ _).mono ?_
        rintro e w4 ⟨rfl, hc4, hf4, hz4, hb4⟩
        have hB4 := hB.below hb4 hg
        have hg4 := hB4.lt
        obtain ⟨c0, c1, f0, f1⟩ := hB4.two
        clear hc4 hf4
        go_wp2_with fail
        go_ways
        all_goals go_ret
        all_goals exact HLAST.out _ (hb4.alloc hz4 _)
end dmaLeft
end Go.Proofs.Ytgonapmmebjeaaa
