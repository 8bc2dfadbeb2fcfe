/- The law DmaCopies: its walk. -/
import Derived.Test.YtgonapmmebjeaaaWalksA
namespace Go.Proofs.Ytgonapmmebjeaaa
open Go.RowKit
set_option linter.unusedSimpArgs false
set_option linter.unusedVariables false
namespace dmaCopies

theorem fromI_bd (p : Int) (h : 0 ≤ p) (h' : p ≤ 255) : 0 ≤ fromI p ∧ fromI p < 57344 ∧ fromI p % 256 = 0 := by
  unfold fromI; split <;> omega
def baseI (F : Int) (k : Nat) : Int := if k = 0 then 0 else F

set_option maxRecDepth 100000 in
theorem walk (a0 a1 a2 : Int) (h0 : 0 ≤ a0) (h0' : a0 ≤ 255) (h1 : 0 ≤ a1) (h1' : a1 ≤ 255) (h2 : 0 ≤ a2) (h2' : a2 ≤ 255) (w : World) :
    Calls Try.prog 3 #[.int .u8 a0, .int .u8 a1, .int .u8 a2] w (Ret (.bool true) w) := by
  obtain ⟨n, hn⟩ : ∃ n : Nat, a1 % 161 = n := Int.eq_ofNat_of_zero_le (by omega)
  have hn4 : n < 161 := by omega
  have HN := hid_ hn
  clear hn
  go_enter Try.func3, Try.ntmps3
  go_wp2_with fail
  refine (awake_any _).mono ?_
  rintro e w1 ⟨rfl, hc1, hf1, hz1, hb1⟩
  go_wp2_with fail
  refine (write_any _ _ _ _).mono ?_
  rintro e w2 ⟨rfl, hc2, hf2, hz2, hb2⟩
  clear hc1 hf1 hc2 hf2
  go_wp2_with fail
  rw [HN.out]
  clear HN
  go_loopw [21] (fun i wr => ∃ k : Nat, k ≤ n ∧ i = .int .i64 k ∧ Blk wr w2.heap.size 24 #[.int .u8 a0, .int .i64 (max 0 (160 - (k : Int)))] ∧ Below w.heap.size w wr) (fun i _ => n - (intOf i).toNat)
  case atStart =>
    refine ⟨0, by omega, rfl, Blk.new _ _ _, ?_⟩
    exact ((hb1.trans (hb2.mono hz1)).alloc (by omega) _)
  case round =>
    obtain ⟨k, hk, rfl, hB, hbel⟩ := hrel
    have hg := hB.lt
    obtain ⟨c0, c1, f0, f1⟩ := hB.two
    by_cases hlt : k < n
    · go_wp2_with fail
      refine (tick_any _ _ _ h0 h0' (by omega) (by omega)).mono ?_
      rintro e w3 ⟨rfl, hc3, hf3, hz3, hb3⟩
      have hB3 := hB.below hb3 hg
      have hg3 := hB3.lt
      clear hc3 hf3 c0 c1 f0 f1
      obtain ⟨c0, c1, f0, f1⟩ := hB3.two
      have e : tickL (max 0 (160 - (k : Int))) = max 0 (160 - ((k + 1 : Nat) : Int)) := by unfold tickL; split <;> omega
      rw [tickV, e]
      clear e
      go_wp2_with fail
      refine ⟨⟨k + 1, by omega, by go_num, (hB3.set2 _ _), ?_⟩, by simp [intOf]; omega⟩
      exact ((hbel.trans (hb3.mono hbel.size)).setCell (Nat.le_trans hz1 hz2) _).setCell (Nat.le_trans hz1 hz2) _
    · obtain ⟨l, hl⟩ : ∃ l, max 0 (160 - (k : Int)) = l := ⟨_, rfl⟩
      rw [hl] at c1 hB
      obtain rfl : k = n := by omega
      clear hl hlt
      go_wp2_with fail
      refine (write_any _ _ _ _).mono ?_
      rintro e w4 ⟨rfl, hc4, hf4, hz4, hb4⟩
      have hB4 := hB.below hb4 hg
      have hg4 := hB4.lt
      clear hc4 hf4 c0 c1 f0 f1
      obtain ⟨c0, c1, f0, f1⟩ := hB4.two
      go_wp2_with fail
      have hbel4 := ((hbel.trans (hb4.mono hbel.size)).setCell (p := ⟨w2.heap.size, 0, none⟩) (Nat.le_trans hz1 hz2) (.int .u8 a2)).setCell (p := ⟨w2.heap.size, 1, none⟩) (Nat.le_trans hz1 hz2) (.int .i64 160)
      have hB4' := hB4.set2 (.int .u8 a2) (.int .i64 160)
      obtain ⟨F, hF⟩ : ∃ F, fromI a2 = F := ⟨_, rfl⟩
      have hFb := fromI_bd a2 h2 h2'
      rw [hF] at hFb
      obtain ⟨hF0, hF1, hF2⟩ := hFb
      have HF := hid_ hF
      clear hF hB hbel hB4 c0 c1 f0 f1 hb4 hz4 hg hg4
      have HF2 := hid_ hF2
      clear hF2
      go_loopw [8, 34] (fun b i wr => ∃ k : Nat, k ≤ 200 ∧ i = .int .i64 k ∧ b = .int .u16 (baseI F k) ∧ Blk wr w2.heap.size 24 #[.int .u8 a2, .int .i64 (max 0 (160 - (k : Int)))] ∧ Below w.heap.size w wr) (fun _ i _ => 200 - (intOf i).toNat)
      case atStart =>
        exact ⟨0, by omega, rfl, rfl, hB4', hbel4⟩
      case round =>
        clear hbel4 hB4'
        obtain ⟨k, hk, rfl, rfl, hB, hbel⟩ := hrel
        have hg := hB.lt
        obtain ⟨c0, c1, f0, f1⟩ := hB.two
        by_cases hlt : k < 200
        · go_wp2_with fail
          refine (tick_any _ _ _ h2 h2' (by omega) (by omega)).mono ?_
          rintro e w3 ⟨rfl, hc3, hf3, hz3, hb3⟩
          have hB3 := hB.below hb3 hg
          have hg3 := hB3.lt
          clear hc3 hf3 c0 c1 f0 f1
          obtain ⟨c0, c1, f0, f1⟩ := hB3.two
          have e : tickL (max 0 (160 - (k : Int))) = max 0 (160 - ((k + 1 : Nat) : Int)) := by unfold tickL; split <;> omega
          have e2 : tickF a2 (max 0 (160 - (k : Int))) = if k < 160 then F + k else 0 := by unfold tickF; rw [HF.out]; split <;> split <;> omega
          have e3 : tickN (max 0 (160 - (k : Int))) = if k < 160 then (k : Int) else 0 := by unfold tickN; split <;> split <;> omega
          have hd : decide (0 < max 0 (160 - (k : Int))) = decide (k < 160) := decide_eq_decide.2 (by omega)
          obtain ⟨l1, hl1⟩ : ∃ l1, max 0 (160 - ((k + 1 : Nat) : Int)) = l1 := ⟨_, rfl⟩
          obtain ⟨l2, hl2⟩ : ∃ l2, max 0 (160 - (k : Int)) = l2 := ⟨_, rfl⟩
          have hbusy : decide (0 < l1) = decide ((k : Int) < 159) := decide_eq_decide.2 (by omega)
          rw [tickV, e, e2, e3, hd]
          rw [hl2] at hB3 c1 hB ⊢
          rw [hl1]
          have HB := hid_ hbusy
          have HL1 := hid_ hl1
          have HBEL := ((hbel.trans (hb3.mono hbel.size)).setCell (p := ⟨w2.heap.size, 0, none⟩) (Nat.le_trans hz1 hz2) (.int .u8 a2)).setCell (p := ⟨w2.heap.size, 1, none⟩) (Nat.le_trans hz1 hz2) (.int .i64 l1)
          have hBN := hB3.set2 (.int .u8 a2) (.int .i64 l1)
          clear e e2 e3 hd hbusy hl1 hl2
          have hb1' : baseI F (k + 1) = F := rfl
          by_cases hk0 : k = 0
          case' pos =>
            subst hk0
          case' neg =>
            have hbF : baseI F k = F := by simp [baseI, hk0]
            rw [hbF]
            clear hbF
            have hke : ((k : Int) == 0) = false := by simp; omega
            by_cases hk160 : k < 160
            case' pos =>
              rw [if_pos hk160, if_pos hk160, decide_eq_true hk160]
              have hd1 : decide ((k : Int) < 160) = true := by simp; omega
            case' neg =>
              rw [if_neg hk160, if_neg hk160, decide_eq_false hk160]
              have hd1 : decide ((k : Int) < 160) = false := by simp; omega
          all_goals
            go_wp2_with fail
            refine (busy_any _ _ _).mono ?_
            rintro e w4 ⟨rfl, hc4, hf4, hz4, hb4⟩
            rw [HB.out]
            have hB4 := hBN.below hb4 hBN.lt
            clear hc4 hf4
            go_wp2_with fail
            refine ⟨⟨_, ?_, ?_, congrArg (Value.int .u16) hb1'.symm, ?_, HBEL.trans (hb4.mono HBEL.size)⟩, ?_⟩
            · first | omega | exact Nat.succ_le_of_lt hlt
            · first | rfl | go_num
            · rw [HL1.out]; exact hB4
            · simp [intOf] <;> omega
        · obtain rfl : k = 200 := by omega
          have hbF : baseI F 200 = F := rfl
          rw [hbF]
          have hand : bits .and .u16 F 255 = 0 := by
            obtain ⟨m, rfl⟩ := Int.eq_ofNat_of_zero_le hF0
            have h2 := HF2.out
            rw [show (255 : Int) = ((255 : Nat) : Int) from rfl, u16_and_nat m 255 (by omega) (by omega), nat_mask8]
            omega
          have HLAST : Ret (.bool true) w (.returned (.bool true)) wr := .of rfl hbel
          go_wp2_with fail
          all_goals go_ret
          all_goals exact HLAST
end dmaCopies
end Go.Proofs.Ytgonapmmebjeaaa
