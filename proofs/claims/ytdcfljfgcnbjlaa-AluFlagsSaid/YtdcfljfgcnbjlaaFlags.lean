/- The law AluFlags: its walk. -/
import Derived.Test.YtdcfljfgcnbjlaaLawsA
import Derived.Test.YtdcfljfgcnbjlaaWalksE
import Derived.Deep.AppendLies
namespace Go.Proofs.Ytdcfljfgcnbjlaa
open Go.RowKit
set_option linter.unusedSimpArgs false
set_option linter.unusedVariables false
namespace aluFlags

def TurnPost (w : World) (e : Ending) (w' : World) : Prop := ∃ (r : Int) (z c : Bool), e = .returned (two r (fl z false false c)) ∧ w = w'
theorem turn_any (kind a f : Int) (ha : 0 ≤ a) (ha' : a ≤ 255) (hf : 0 ≤ f) (hf' : f ≤ 255) (w : World) :
    Calls Try.prog 24 #[.int .i64 kind, .int .u8 a, .int .u8 f] w (TurnPost w) := by
  have h : kind % 8 = 0 ∨ kind % 8 = 1 ∨ kind % 8 = 2 ∨ kind % 8 = 3 ∨ kind % 8 = 4 ∨ kind % 8 = 5 ∨ kind % 8 = 6 ∨ kind % 8 = 7 := by omega
  rcases h with h | h | h | h | h | h | h | h
  · exact (turn0 kind a f h ha ha' hf hf' w).mono fun _ _ ⟨he, hw⟩ => ⟨_, _, _, he, hw⟩
  · exact (turn1 kind a f h ha ha' hf hf' w).mono fun _ _ ⟨he, hw⟩ => ⟨_, _, _, he, hw⟩
  · exact (turn2 kind a f h ha ha' hf hf' w).mono fun _ _ ⟨he, hw⟩ => ⟨_, _, _, he, hw⟩
  · exact (turn3 kind a f h ha ha' hf hf' w).mono fun _ _ ⟨he, hw⟩ => ⟨_, _, _, he, hw⟩
  · exact (turn4 kind a f h ha ha' hf hf' w).mono fun _ _ ⟨he, hw⟩ => ⟨_, _, _, he, hw⟩
  · exact (turn5 kind a f h ha ha' hf hf' w).mono fun _ _ ⟨he, hw⟩ => ⟨_, _, _, he, hw⟩
  · exact (turn6 kind a f h ha ha' hf hf' w).mono fun _ _ ⟨he, hw⟩ => ⟨_, _, false, he, hw⟩
  · exact (turn7 kind a f h ha ha' hf hf' w).mono fun _ _ ⟨he, hw⟩ => ⟨_, _, _, he, hw⟩
theorem fl_15 (z n h c : Bool) : bits .and .u8 (fl z n h c) 15 = 0 := by cases z <;> cases n <;> cases h <;> cases c <;> decide
/-- A value whose lower four bits are 0. -/
def Low (u : Value) : Prop := ∃ F : Int, u = .int .u8 F ∧ bits .and .u8 F 15 = 0
theorem low_fl (z n h c : Bool) : Low (.int .u8 (fl z n h c)) := ⟨_, rfl, fl_15 z n h c⟩
theorem u8_info : (Try.prog.info? 5).map (fun i => (i.zero, i.size, i.bytes)) = some (some (.int .u8 0), 1, 1) := by kernel_rfl

set_option maxRecDepth 100000 in
set_option maxHeartbeats 1000000 in
theorem walk (a b f kind e : Int) (ha : 0 ≤ a) (ha' : a ≤ 255) (hb : 0 ≤ b) (hb' : b ≤ 255) (hf : 0 ≤ f) (hf' : f ≤ 255) (hk : -9223372036854775808 ≤ kind) (hk' : kind ≤ 9223372036854775807) (he : 0 ≤ e) (he' : e ≤ 65535) (w : World) :
    Calls Try.prog 9 #[.int .u8 a, .int .u8 b, .int .u8 f, .int .i64 kind, .int .u16 e] w (Ret (.bool true) w) := by
  clear hk hk'
  obtain ⟨i0, hi0, hz0, hz1, hz2⟩ := info_parts u8_info
  obtain ⟨j, hj⟩ : ∃ j : Nat, kind % 8 = j := Int.eq_ofNat_of_zero_le (by omega)
  have hj8 : j < 8 := by omega
  have HJ := hid_ hj
  clear hj
  go_enter Try.func9, Try.ntmps9
  go_wp2_with fail
  refine (awake_any _).mono ?_
  rintro e w1 ⟨rfl, rfl⟩
  go_wp2_with fail
  refine (add_any _ _ _ ha ha' hb hb' _).mono ?_
  rintro e w1 ⟨rfl, rfl⟩
  have l1 := low_fl (decide ((a + b + sel (decide (9 < f)) 1) % 256 = 0)) false (decide (15 < a % 16 + b % 16 + sel (decide (9 < f)) 1)) (decide (255 < a + b + sel (decide (9 < f)) 1))
  generalize fl (decide ((a + b + sel (decide (9 < f)) 1) % 256 = 0)) false (decide (15 < a % 16 + b % 16 + sel (decide (9 < f)) 1)) (decide (255 < a + b + sel (decide (9 < f)) 1)) = F1 at *
  generalize (a + b + sel (decide (9 < f)) 1) % 256 = R1 at *
  go_wp2_with fail
  refine (sub_any _ _ _ ha ha' hb hb' _).mono ?_
  rintro e w1 ⟨rfl, rfl⟩
  have l2 := low_fl (decide ((a - b - sel (decide (9 < f)) 1) % 256 = 0)) true (decide (a % 16 < b % 16 + sel (decide (9 < f)) 1)) (decide (a < b + sel (decide (9 < f)) 1))
  generalize fl (decide ((a - b - sel (decide (9 < f)) 1) % 256 = 0)) true (decide (a % 16 < b % 16 + sel (decide (9 < f)) 1)) (decide (a < b + sel (decide (9 < f)) 1)) = F2 at *
  generalize (a - b - sel (decide (9 < f)) 1) % 256 = R2 at *
  go_wp2_with fail
  refine (inc_any _ _ ha ha' hf hf' _).mono ?_
  rintro e w1 ⟨rfl, rfl⟩
  have l3 := low_fl (decide ((a + 1) % 256 = 0)) false (a % 16 == 15) (cB f)
  generalize fl (decide ((a + 1) % 256 = 0)) false (a % 16 == 15) (cB f) = F3 at *
  go_wp2_with fail
  refine (dec_any _ _ ha ha' hf hf' _).mono ?_
  rintro e w1 ⟨rfl, rfl⟩
  have l4 := low_fl (decide ((a - 1) % 256 = 0)) true (a % 16 == 0) (cB f)
  generalize fl (decide ((a - 1) % 256 = 0)) true (a % 16 == 0) (cB f) = F4 at *
  go_wp2_with (first
    | (at_builtin
       refine wpList_append_own _ rfl (.tmp 51) (.tmp 56) 38 rfl w.heap.size 5 i0 (.int .u8 0) 1 1 Try.underlying38 hi0 hz0 hz1 hz2 rfl (by decide) (.slice none 0 0) 0 [] rfl (World.ownsRow_nil _ _ _ _)
         ⟨w.heap.size, 0, none⟩ 4 4 [.int .u8 F1, .int .u8 F2, .int .u8 F3, .int .u8 F4] rfl rfl ?c1 ?c2 ?c3 ?c4 ?c5 ?_
       case c1 => exact World.news_of_block (cs := #[.int .u8 F1, .int .u8 F2, .int .u8 F3, .int .u8 F4]) (t := 5) (fr := (0, 0)) (heap_alloc_new w _)
       case c2 => simp [Value.oneCell']
       case c3 => simp only [maxLen]; omega
       case c4 => omega
       case c5 => simp
       intro v1 w1 hown1 hgrow1 _))
  simp only [Nat.zero_add, List.nil_append] at hown1
  have hb1 : Below w.heap.size w w1 := (((Below.refl _ _).alloc (Nat.le_refl _) _).grown hgrow1 (by simp) (by simp [Value.ownBlock]))
  clear hgrow1
  refine (daa_any _ _ ha ha' hf hf' _).mono ?_
  rintro e w1 ⟨rfl, rfl⟩
  have l5 := low_fl (decide (digR a f = 0)) (nB f) false (digHigh a f)
  generalize fl (decide (digR a f = 0)) (nB f) false (digHigh a f) = F5 at *
  go_wp2_with fail
  refine (turn_any _ _ _ ha ha' hf hf' _).mono ?_
  rintro e w1 ⟨R6, z6, c6, rfl, rfl⟩
  have l6 := low_fl z6 false false c6
  generalize fl z6 false false c6 = F6 at *
  go_wp2_with fail
  refine (add16_any _ _ _ he he' ha (by omega) hf hf' _).mono ?_
  rintro e w1 ⟨rfl, rfl⟩
  have l7 := low_fl (zB f) false (decide (4095 < e % 4096 + a % 4096)) (decide (65535 < e + a))
  generalize fl (zB f) false (decide (4095 < e % 4096 + a % 4096)) (decide (65535 < e + a)) = F7 at *
  go_wp2_with fail
  refine (shift16_any _ _ he he' hb hb' _).mono ?_
  rintro e w1 ⟨rfl, rfl⟩
  have l8 := low_fl false false (decide (15 < e % 16 + b % 16)) (decide (255 < e % 256 + b))
  generalize fl false false (decide (15 < e % 16 + b % 16)) (decide (255 < e % 256 + b)) = F8 at *
  go_wp2_with fail
  refine (abit_any _ _ _ j HJ.out hj8 ha ha' hf hf' _).mono ?_
  rintro e w1 ⟨rfl, rfl⟩
  have l9 := low_fl (decide (a / 2 ^ j % 2 = 0)) false true (cB f)
  generalize fl (decide (a / 2 ^ j % 2 = 0)) false true (cB f) = F9 at *
  clear he he'
  go_wp2_with (first
    | (at_builtin
       refine wpList_append_own _ rfl (.tmp 85) (.tmp 94) 38 rfl w.heap.size 5 i0 (.int .u8 0) 1 1 Try.underlying38 hi0 hz0 hz1 hz2 rfl (by decide) v1 4 [.int .u8 F1, .int .u8 F2, .int .u8 F3, .int .u8 F4] rfl (hown1.alloc _)
         ⟨w1.heap.size, 0, none⟩ 5 5 [.int .u8 F5, .int .u8 F6, .int .u8 F7, .int .u8 F8, .int .u8 F9] rfl rfl ?c1 ?c2 ?c3 ?c4 ?c5 ?_
       case c1 => exact World.news_of_block (cs := #[.int .u8 F5, .int .u8 F6, .int .u8 F7, .int .u8 F8, .int .u8 F9]) (t := 5) (fr := (0, 0)) (heap_alloc_new w1 _)
       case c2 => simp [Value.oneCell']
       case c3 => simp only [maxLen]; omega
       case c4 => omega
       case c5 => have := hb1.size; simp; omega
       intro v2 w2 hown2 hgrow2 _
       have hb2 : Below w.heap.size w w2 := (hb1.alloc hb1.size _).grown hgrow2 (by have := hb1.size; simp; omega) (fun k hk => (hown1.lt k hk).1)
       obtain ⟨g2, cap2, hv2, hg2, hlt2⟩ := hown2.form (by omega)
       rw [hv2] at hown2 ⊢
       clear hv2 hgrow2))
  have hcells : ∀ k, k < 9 → ∃ F : Int, w2.cell? ⟨g2, k, none⟩ = some (.int .u8 F) ∧ bits .and .u8 F 15 = 0 := by
    intro k hk9
    have hl : Low (([.int .u8 F1, .int .u8 F2, .int .u8 F3, .int .u8 F4] ++ [.int .u8 F5, .int .u8 F6, .int .u8 F7, .int .u8 F8, .int .u8 F9] : List Value)[k]'(by simp; omega)) := by
      match k, hk9 with
      | 0, _ => exact l1
      | 1, _ => exact l2
      | 2, _ => exact l3
      | 3, _ => exact l4
      | 4, _ => exact l5
      | 5, _ => exact l6
      | 6, _ => exact l7
      | 7, _ => exact l8
      | 8, _ => exact l9
    obtain ⟨F, hF, h15⟩ := hl
    exact ⟨F, by rw [hown2.cellAt k (by omega), List.getElem?_eq_getElem (by simp; omega), hF], h15⟩
  have HC := hid_ hcells
  clear hcells l1 l2 l3 l4 l5 l6 l7 l8 l9 hown2 hown1
  go_loop [98] (fun i => ∃ k : Nat, k ≤ 9 ∧ i = .int .i64 k) (fun i => 9 - (intOf i).toNat)
  case atStart => exact ⟨0, by omega, rfl⟩
  case round =>
    obtain ⟨k, hk9, rfl⟩ := hrel
    by_cases hlt : k < 9
    · obtain ⟨F, hF, h15⟩ := HC.out k hlt
      go_wp2_with fail
      go_round
      case rel => exact ⟨k + 1, by omega, by go_num⟩
      case measure => simp [intOf]; omega
    · obtain rfl : k = 9 := by omega
      go_wp2_with fail
      go_ret
      exact .of rfl hb2
end aluFlags
end Go.Proofs.Ytdcfljfgcnbjlaa
