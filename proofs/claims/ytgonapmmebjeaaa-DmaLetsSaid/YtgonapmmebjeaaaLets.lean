/- The law DmaLets: its walk. -/
import Derived.Test.YtgonapmmebjeaaaWalksA
namespace Go.Proofs.Ytgonapmmebjeaaa
open Go.RowKit
set_option linter.unusedSimpArgs false
set_option linter.unusedVariables false
namespace dmaLets

theorem walk (a0 a1 a2 : Int) (h0 : 0 ≤ a0) (h0' : a0 ≤ 255) (h1 : 0 ≤ a1) (h1' : a1 ≤ 255) (h2 : 0 ≤ a2) (h2' : a2 ≤ 65535) (w : World) :
    Calls Try.prog 6 #[.int .u8 a0, .int .u8 a1, .int .u16 a2] w (Ret (.bool true) w) := by
  obtain ⟨n, rfl⟩ := Int.eq_ofNat_of_zero_le h1
  go_enter Try.func6, Try.ntmps6
  go_wp2_with fail
  refine (awake_any _).mono ?_
  rintro e w1 ⟨rfl, hc1, hf1, hz1, hb1⟩
  go_wp2_with fail
  refine (write_any _ _ _ _).mono ?_
  rintro e w2 ⟨rfl, hc2, hf2, hz2, hb2⟩
  go_wp2_with fail
  go_loopw [14] (fun i wr => ∃ k : Nat, k ≤ n ∧ i = .int .u8 k ∧ Blk wr w2.heap.size 24 #[.int .u8 a0, .int .i64 (max 0 (160 - (k : Int)))] ∧ Below w.heap.size w wr) (fun i _ => n - (intOf i).toNat)
  case atStart =>
    refine ⟨0, by omega, rfl, Blk.new _ _ _, ?_⟩
    exact ((hb1.trans (hb2.mono hz1)).alloc (by omega) _)
  case round =>
    obtain ⟨k, hk, rfl, hB, hbel⟩ := hrel
    have hg := hB.lt
    obtain ⟨c0, c1, f0, f1⟩ := hB.two
    by_cases hlt : k < n
    · go_wp2_with fail
      refine (tick_any _ _ _ h0 h0' (by omega) (by omega)).mono ?_
      rintro e w3 ⟨rfl, hc3, hf3, hz3, hb3⟩
      go_wp2_with fail
      refine ⟨⟨k + 1, by omega, by go_num, ?_, ?_⟩, by simp [intOf]; omega⟩
      · have e : tickL (max 0 (160 - (k : Int))) = max 0 (160 - ((k + 1 : Nat) : Int)) := by unfold tickL; split <;> omega
        rw [e]
        exact (hB.below hb3 hg).set2 _ _
      · exact ((hbel.trans (hb3.mono hbel.size)).setCell (Nat.le_trans hz1 hz2) _).setCell (Nat.le_trans hz1 hz2) _
    · obtain rfl : k = n := by omega
      clear hlt
      have e0 : letsB 0 a2 = true := rfl
      obtain ⟨l, hl⟩ : ∃ l, max 0 (160 - (k : Int)) = l := ⟨_, rfl⟩
      rw [hl] at c1 hB
      obtain ⟨x, hx⟩ : ∃ x, decide (65280 ≤ a2) = x := ⟨_, rfl⟩
      have hlets : letsB l a2 = (decide ((160 : Int) ≤ k) || x) := by
        rw [letsB, hx]
        congr 1
        rw [← decide_not]
        exact decide_eq_decide.2 (by omega)
      have hbusy : decide (0 < l) = decide ((k : Int) < 160) := decide_eq_decide.2 (by omega)
      have HL := hid_ hlets
      have HB := hid_ hbusy
      clear hlets hbusy hl
      have hlast : ∀ W : World, Blk W w2.heap.size 24 #[.int .u8 a0, .int .i64 l] → Below wr.heap.size wr W → Ret (.bool true) w (.returned (.bool true)) W := fun W _ h =>
        .of rfl (hbel.trans (h.mono hbel.size))
      have HLAST := hid_ hlast
      clear hlast
      by_cases hc : k < 160
      case' pos =>
        have d2 : decide ((k : Int) < 160) = true := by simp; omega
        have d3 : decide ((160 : Int) ≤ k) = false := by simp; omega
      case' neg =>
        have d2 : decide ((k : Int) < 160) = false := by simp; omega
        have d3 : decide ((160 : Int) ≤ k) = true := by simp; omega
      all_goals
        go_wp2_with fail
        refine (busy_any _ _ _).mono ?_
        rintro e w4 ⟨rfl, hc4, hf4, hz4, hb4⟩
        rw [HB.out, d2]
        have hB4 := hB.below hb4 hg
        have hg4 := hB4.lt
        obtain ⟨c0, c1, f0, f1⟩ := hB4.two
        clear hc4 hf4
        go_wp2_with fail
        refine (lets_any _ _ _ _).mono ?_
        rintro e w5 ⟨rfl, hc5, hf5, hz5, hb5⟩
        rw [HL.out, d3]
        have hB5 := hB4.below hb5 hg4
        have hg5 := hB5.lt
        obtain ⟨c0, c1, f0, f1⟩ := hB5.two
        clear hc5 hf5
        go_wp2_with fail
        refine (lets_any _ _ _ _).mono ?_
        rintro e w6 ⟨rfl, hc6, hf6, hz6, hb6⟩
        have hB6 := hB5.below hb6 hg5
        obtain ⟨c0, c1, f0, f1⟩ := hB6.two
        clear hc6 hf6
        rw [e0]
        go_wp2_with fail
        go_ret
        exact HLAST.out _ hB6 ((hb4.trans (hb5.mono (by omega))).trans (hb6.mono (by omega)))
end dmaLets
end Go.Proofs.Ytgonapmmebjeaaa
