/- The law AluOnes: its walk. -/
import Derived.Test.YtdcfljfgcnbjlaaRefU
import Derived.Test.YtdcfljfgcnbjlaaRefV
import Derived.Test.YtdcfljfgcnbjlaaLawsA
import Derived.Test.YtdcfljfgcnbjlaaWalksD
namespace Go.Proofs.Ytdcfljfgcnbjlaa
open Go.RowKit
set_option linter.unusedSimpArgs false
set_option linter.unusedVariables false

theorem turns_both (kind : Int) (a : Nat) (f : Int) (ha : a ≤ 255) (hf : 0 ≤ f) (hf' : f ≤ 255) :
    ∃ R G : Int, (∀ w, Calls Try.prog 24 #[.int .i64 kind, .int .u8 (a : Int), .int .u8 f] w (Pure (two R G) w)) ∧ (∀ w, Calls Try.prog 30 #[.int .i64 kind, .int .u8 (a : Int), .int .u8 f] w (Ret (two R G) w)) := by
  have hj : kind % 8 = 0 ∨ kind % 8 = 1 ∨ kind % 8 = 2 ∨ kind % 8 = 3 ∨ kind % 8 = 4 ∨ kind % 8 = 5 ∨ kind % 8 = 6 ∨ kind % 8 = 7 := by omega
  rcases hj with hj | hj | hj | hj | hj | hj | hj | hj
  · exact ⟨_, _, fun w => turn0 kind a f hj (by omega) (by omega) hf hf' w, fun w => rturn0 kind a f hj ha hf hf' w⟩
  · exact ⟨_, _, fun w => turn1 kind a f hj (by omega) (by omega) hf hf' w, fun w => rturn1 kind a f hj ha hf hf' w⟩
  · exact ⟨_, _, fun w => turn2 kind a f hj (by omega) (by omega) hf hf' w, fun w => rturn2 kind a f hj ha hf hf' w⟩
  · exact ⟨_, _, fun w => turn3 kind a f hj (by omega) (by omega) hf hf' w, fun w => rturn3 kind a f hj ha hf hf' w⟩
  · exact ⟨_, _, fun w => turn4 kind a f hj (by omega) (by omega) hf hf' w, fun w => rturn4 kind a f hj ha hf hf' w⟩
  · exact ⟨_, _, fun w => turn5 kind a f hj (by omega) (by omega) hf hf' w, fun w => rturn5 kind a f hj ha hf hf' w⟩
  · exact ⟨_, _, fun w => turn6 kind a f hj (by omega) (by omega) hf hf' w, fun w => rturn6 kind a f hj ha hf hf' w⟩
  · exact ⟨_, _, fun w => turn7 kind a f hj (by omega) (by omega) hf hf' w, fun w => rturn7 kind a f hj ha hf hf' w⟩

namespace aluOnes
set_option maxRecDepth 100000 in
set_option maxHeartbeats 1000000 in
theorem walk (a f kind : Int) (ha : 0 ≤ a) (ha' : a ≤ 255) (hf : 0 ≤ f) (hf' : f ≤ 255) (_ : -9223372036854775808 ≤ kind) (_ : kind ≤ 9223372036854775807) (w : World) :
    Calls Try.prog 8 #[.int .u8 a, .int .u8 f, .int .i64 kind] w (Ret (.bool true) w) := by
  obtain ⟨a, rfl⟩ := Int.eq_ofNat_of_zero_le ha
  have hn : a ≤ 255 := by omega
  obtain ⟨R, G, hT, hU⟩ := turns_both kind a f hn hf hf'
  obtain ⟨j, hj⟩ := Int.eq_ofNat_of_zero_le (by omega : 0 ≤ kind % 8)
  have hj8 : j < 8 := by omega
  obtain ⟨x1, hx1⟩ : ∃ v, ((a : Int) + 1) % 256 = v := ⟨_, rfl⟩
  obtain ⟨f1, hf1⟩ : ∃ v, fl (decide (((a : Int) + 1) % 256 = 0)) false ((a : Int) % 16 == 15) (cB f) = v := ⟨_, rfl⟩
  obtain ⟨x2, hx2⟩ : ∃ v, ((a : Int) - 1) % 256 = v := ⟨_, rfl⟩
  obtain ⟨f2, hf2⟩ : ∃ v, fl (decide (((a : Int) - 1) % 256 = 0)) true ((a : Int) % 16 == 0) (cB f) = v := ⟨_, rfl⟩
  obtain ⟨x3, hx3⟩ : ∃ v, digR a f = v := ⟨_, rfl⟩
  obtain ⟨f3, hf3⟩ : ∃ v, fl (decide (digR a f = 0)) (nB f) false (digHigh a f) = v := ⟨_, rfl⟩
  obtain ⟨x4, hx4⟩ : ∃ v, fl (decide ((a : Int) / 2 ^ j % 2 = 0)) false true (cB f) = v := ⟨_, rfl⟩
  have C1 : Hid (∀ w, Calls Try.prog 25 #[.int .u8 (a : Int), .int .u8 f] w (Pure (two x1 f1) w)) := fun w => by rw [← hf1, ← hx1]; exact inc_any a f (by omega) (by omega) hf hf' w
  have C2 : Hid (∀ w, Calls Try.prog 26 #[.int .u8 (a : Int), .int .u8 f] w (Ret (two x1 f1) w)) := fun w => by rw [← hf1, ← hx1]; exact rinc_nat a f hn hf hf' w
  have C3 : Hid (∀ w, Calls Try.prog 27 #[.int .u8 (a : Int), .int .u8 f] w (Pure (two x2 f2) w)) := fun w => by rw [← hf2, ← hx2]; exact dec_any a f (by omega) (by omega) hf hf' w
  have C4 : Hid (∀ w, Calls Try.prog 28 #[.int .u8 (a : Int), .int .u8 f] w (Ret (two x2 f2) w)) := fun w => by rw [← hf2, ← hx2]; exact rdec_nat a f hn hf hf' w
  have C5 : Hid (∀ w, Calls Try.prog 13 #[.int .u8 (a : Int), .int .u8 f] w (Pure (two x3 f3) w)) := fun w => by rw [← hf3, ← hx3]; exact daa_any a f (by omega) (by omega) hf hf' w
  have C6 : Hid (∀ w, Calls Try.prog 29 #[.int .u8 (a : Int), .int .u8 f] w (Pure (two x3 f3) w)) := fun w => by rw [← hf3, ← hx3]; exact rdaa_any a f (by omega) (by omega) hf hf' w
  have C7 : Hid (∀ w, Calls Try.prog 31 #[.int .i64 kind, .int .u8 (a : Int), .int .u8 f] w (Pure (.int .u8 x4) w)) := fun w => by rw [← hx4]; exact abit_any kind a f j hj hj8 (by omega) (by omega) hf hf' w
  have C8 : Hid (∀ w, Calls Try.prog 32 #[.int .i64 kind, .int .u8 (a : Int), .int .u8 f] w (Pure (.int .u8 x4) w)) := fun w => by rw [← hx4]; exact rbit_any kind a f j hj hj8 hn hf hf' w
  clear hx1 hf1 hx2 hf2 hx3 hf3 hx4
  have HT := hid_ hT
  have HU := hid_ hU
  have HJ := hid_ hj
  clear hT hU hj
  go_enter Try.func8, Try.ntmps8
  go_wp2_with fail
  refine (awake_any _).mono ?_
  rintro e wp ⟨rfl, rfl⟩
  go_wp2_with fail
  refine (C1.out _).mono ?_
  rintro e wp ⟨rfl, rfl⟩
  go_wp2_with fail
  refine (C2.out _).mono ?_
  rintro e w1 ⟨rfl, hd, hff, hz1, hb1⟩
  clear hd hff
  go_wp2_with fail
  refine (C3.out _).mono ?_
  rintro e wp ⟨rfl, rfl⟩
  go_wp2_with fail
  refine (C4.out _).mono ?_
  rintro e w2 ⟨rfl, hd, hff, hz2, hb2⟩
  clear hd hff
  go_wp2_with fail
  refine (C5.out _).mono ?_
  rintro e wp ⟨rfl, rfl⟩
  go_wp2_with fail
  refine (C6.out _).mono ?_
  rintro e wp ⟨rfl, rfl⟩
  go_wp2_with fail
  refine (HT.out _).mono ?_
  rintro e wp ⟨rfl, rfl⟩
  go_wp2_with fail
  refine (HU.out _).mono ?_
  rintro e w3 ⟨rfl, hd, hff, hz3, hb3⟩
  clear hd hff
  go_wp2_with fail
  refine (C7.out _).mono ?_
  rintro e wp ⟨rfl, rfl⟩
  go_wp2_with fail
  refine (C8.out _).mono ?_
  rintro e wp ⟨rfl, rfl⟩
  go_wp2_with fail
  go_ret
  exact .of rfl ((hb1.trans (hb2.mono hz1)).trans (hb3.mono (Nat.le_trans hz1 hz2)))
end aluOnes
end Go.Proofs.Ytdcfljfgcnbjlaa
