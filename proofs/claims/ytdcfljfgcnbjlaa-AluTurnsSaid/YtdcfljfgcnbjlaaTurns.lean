/- The law AluTurns: its walk. -/
import Derived.Test.YtdcfljfgcnbjlaaLawsA
import Derived.Test.YtdcfljfgcnbjlaaWalksE
namespace Go.Proofs.Ytdcfljfgcnbjlaa
open Go.RowKit
set_option linter.unusedSimpArgs false
set_option linter.unusedVariables false
namespace aluTurns

def rl : Nat → Int → Int
  | 0, a => a
  | k + 1, a => rl k a * 2 % 256 + rl k a / 128
theorem rl_bd (a : Int) (h : 0 ≤ a) (h' : a ≤ 255) : ∀ k, 0 ≤ rl k a ∧ rl k a ≤ 255
  | 0 => ⟨h, h'⟩
  | k + 1 => by have := rl_bd a h h' k; simp only [rl]; omega
theorem back1 (a : Int) (h : 0 ≤ a) (h' : a ≤ 255) : (a * 2 % 256 + a / 128) / 2 + (a * 2 % 256 + a / 128) % 2 * 128 = a :=
  upto (P := fun a => (a * 2 % 256 + a / 128) / 2 + (a * 2 % 256 + a / 128) % 2 * 128 = a) (by decide +kernel) a h h'
theorem back2 (a : Int) (h : 0 ≤ a) (h' : a ≤ 255) : (a * 16 % 256 + a / 16) * 16 % 256 + (a * 16 % 256 + a / 16) / 16 = a :=
  upto (P := fun a => (a * 16 % 256 + a / 16) * 16 % 256 + (a * 16 % 256 + a / 16) / 16 = a) (by decide +kernel) a h h'
theorem half (a : Int) (h : 0 ≤ a) (h' : a ≤ 255) : sgn a / 2 % 256 = a / 2 + a / 128 * 128 :=
  upto (P := fun a => sgn a / 2 % 256 = a / 2 + a / 128 * 128) (by decide +kernel) a h h'
theorem rl_8 (a : Int) (h : 0 ≤ a) (h' : a ≤ 255) : rl 8 a = a := upto (P := fun a => rl 8 a = a) (by decide +kernel) a h h'
theorem fl_bd (z n h c : Bool) : 0 ≤ fl z n h c ∧ fl z n h c ≤ 255 := by cases z <;> cases n <;> cases h <;> cases c <;> decide
theorem cB_fl (z n h c : Bool) : cB (fl z n h c) = c := by cases z <;> cases n <;> cases h <;> cases c <;> decide
theorem dec_sel (b : Bool) (x : Int) (h : x = sel b 1) : decide (x = 1) = b := by subst h; cases b <;> decide
theorem sel_dec (a : Int) (h : 0 ≤ a) (h' : a ≤ 255) : sel (decide (a / 128 = 1)) 1 = a / 128 := by
  unfold sel; split <;> simp_all <;> omega

set_option maxRecDepth 100000 in
set_option maxHeartbeats 1000000 in
theorem walk (a f : Int) (ha : 0 ≤ a) (ha' : a ≤ 255) (hf : 0 ≤ f) (hf' : f ≤ 255) (w : World) :
    Calls Try.prog 7 #[.int .u8 a, .int .u8 f] w (Ret (.bool true) w) := by
  have k0 : 0 ≤ sel (cB f) 1 := by cases cB f <;> decide
  have k1 : sel (cB f) 1 ≤ 1 := by cases cB f <;> decide
  -- what each call gives, under short names
  obtain ⟨x, hx⟩ : ∃ x, a * 2 % 256 + a / 128 = x := ⟨_, rfl⟩
  obtain ⟨F, hF⟩ : ∃ F, fl (decide (x = 0)) false false (decide (a / 128 = 1)) = F := ⟨_, rfl⟩
  have hF0 := fl_bd (decide (x = 0)) false false (decide (a / 128 = 1))
  rw [hF] at hF0
  obtain ⟨hF0, hF1⟩ := hF0
  have hx0 : 0 ≤ x := by omega
  have hx1 : x ≤ 255 := by omega
  have hy : x / 2 + x % 2 * 128 = a := by rw [← hx]; exact back1 a ha ha'
  obtain ⟨u, hu⟩ : ∃ u, a * 2 % 256 + sel (cB f) 1 = u := ⟨_, rfl⟩
  have hu0 : 0 ≤ u := by omega
  have hu1 : u ≤ 255 := by omega
  obtain ⟨G, hG⟩ : ∃ G, fl (decide (u = 0)) false false (decide (a / 128 = 1)) = G := ⟨_, rfl⟩
  have hG0 := fl_bd (decide (u = 0)) false false (decide (a / 128 = 1))
  have hGc := cB_fl (decide (u = 0)) false false (decide (a / 128 = 1))
  rw [hG] at hG0 hGc
  obtain ⟨hG0, hG1⟩ := hG0
  have hw : u / 2 + sel (cB G) 1 * 128 = a := by rw [hGc, sel_dec a ha ha']; omega
  have hH := fl_16 (decide (a = 0)) false false (decide (u % 2 = 1))
  have hu2 : decide (u % 2 = 1) = cB f := dec_sel _ _ (by omega)
  obtain ⟨H, hHH⟩ : ∃ H, fl (decide (a = 0)) false false (decide (u % 2 = 1)) = H := ⟨_, rfl⟩
  rw [hHH, hu2] at hH
  have hf16 := andC f hf hf'
  obtain ⟨s, hs⟩ : ∃ s, a * 16 % 256 + a / 16 = s := ⟨_, rfl⟩
  have hs0 : 0 ≤ s := by omega
  have hs1 : s ≤ 255 := by omega
  have ht : s * 16 % 256 + s / 16 = a := by rw [← hs]; exact back2 a ha ha'
  obtain ⟨L, hL⟩ : ∃ L, a * 2 % 256 = L := ⟨_, rfl⟩
  have hL0 : 0 ≤ L := by omega
  have hL1 : L ≤ 255 := by omega
  obtain ⟨o, ho⟩ : ∃ o, a / 128 = o := ⟨_, rfl⟩
  have ho0 : 0 ≤ o := by omega
  have ho1 : o ≤ 1 := by omega
  have hC := fl_16 (decide (L = 0)) false false (decide (a / 128 = 1))
  obtain ⟨C, hCC⟩ : ∃ C, fl (decide (L = 0)) false false (decide (a / 128 = 1)) = C := ⟨_, rfl⟩
  have hC16 : sel (decide (a / 128 = 1)) 16 = o * 16 := by rw [ho]; unfold sel; split <;> simp_all <;> omega
  rw [hCC, hC16] at hC
  have hl : L + 256 * o = 2 * a := by omega
  have hq8 := wrap_i8 a ha ha'
  -- the tuples
  have T1 : Hid (two (a * 2 % 256 + a / 128) (fl (decide (a * 2 % 256 + a / 128 = 0)) false false (decide (a / 128 = 1))) = two x F) := by show _ = _; rw [hx, hF]
  have T2 : Hid (∀ G', two (x / 2 + x % 2 * 128) G' = two a G') := by show ∀ _, _; intro; rw [hy]
  have T3 : Hid (two (a * 2 % 256 + sel (cB f) 1) (fl (decide (a * 2 % 256 + sel (cB f) 1 = 0)) false false (decide (a / 128 = 1))) = two u G) := by show _ = _; rw [hu, hG]
  have T4 : Hid (two (u / 2 + sel (cB G) 1 * 128) (fl (decide (u / 2 + sel (cB G) 1 * 128 = 0)) false false (decide (u % 2 = 1))) = two a H) := by show _ = _; rw [hw, hHH]
  have T5 : Hid (∀ G', two (a * 16 % 256 + a / 16) G' = two s G') := by show ∀ _, _; intro; rw [hs]
  have T6 : Hid (∀ G', two (s * 16 % 256 + s / 16) G' = two a G') := by show ∀ _, _; intro; rw [ht]
  have T7 : Hid (two (a * 2 % 256) (fl (decide (a * 2 % 256 = 0)) false false (decide (a / 128 = 1))) = two L C) := by show _ = _; rw [hL, hCC]
  have hlb : (L + 256 * o == 2 * a) = true := by rw [hl]; simp
  have hq := half a ha ha'
  clear hx hF hy hu hG hGc hw hu2 hHH hs ht hL ho hCC hC16 hl
  go_enter Try.func7, Try.ntmps7
  go_wp2_with fail
  refine (awake_any _).mono ?_
  rintro e w1 ⟨rfl, rfl⟩
  go_wp2_with fail
  refine (turn0 0 _ _ rfl ha ha' hf hf' _).mono ?_
  rintro e w1 ⟨rfl, rfl⟩
  rw [T1.out]
  go_wp2_with fail
  refine (turn1 1 _ _ rfl hx0 hx1 hF0 hF1 _).mono ?_
  rintro e w1 ⟨rfl, rfl⟩
  rw [T2.out]
  go_wp2_with fail
  refine (turn2 2 _ _ rfl ha ha' hf hf' _).mono ?_
  rintro e w1 ⟨rfl, rfl⟩
  rw [T3.out]
  go_wp2_with fail
  refine (turn3 3 _ _ rfl hu0 hu1 hG0 hG1 _).mono ?_
  rintro e w1 ⟨rfl, rfl⟩
  rw [T4.out]
  go_wp2_with fail
  refine (turn6 6 _ _ rfl ha ha' hf hf' _).mono ?_
  rintro e w1 ⟨rfl, rfl⟩
  rw [T5.out]
  go_wp2_with fail
  refine (turn6 6 _ _ rfl hs0 hs1 hf hf' _).mono ?_
  rintro e w1 ⟨rfl, rfl⟩
  rw [T6.out]
  go_wp2_with fail
  go_loop [17, 63] (fun v i => ∃ k : Nat, k ≤ 8 ∧ i = .int .i64 k ∧ v = .int .u8 (rl k a)) (fun _ i => 8 - (intOf i).toNat)
  case atStart => exact ⟨0, by omega, rfl, rfl⟩
  case round =>
    obtain ⟨k, hk, rfl, rfl⟩ := hrel
    by_cases hlt : k < 8
    · have hb := rl_bd a ha ha' k
      go_wp2_with fail
      refine (turn0 0 _ _ rfl hb.1 hb.2 (by omega) (by omega) _).mono ?_
      rintro e w1 ⟨rfl, rfl⟩
      go_wp2_with fail
      go_round
      case rel => exact ⟨k + 1, by omega, by go_num, rfl⟩
      case measure => simp [intOf]; omega
    · obtain rfl : k = 8 := by omega
      rw [rl_8 a ha ha']
      go_wp2_with fail
      refine (turn4 4 _ _ rfl ha ha' hf hf' _).mono ?_
      rintro e w1 ⟨rfl, rfl⟩
      rw [T7.out]
      go_wp2_with fail
      refine (turn7 7 _ _ rfl ha ha' hf hf' _).mono ?_
      rintro e w1 ⟨rfl, rfl⟩
      go_wp2_with fail
      refine (turn5 5 _ _ rfl ha ha' hf hf' _).mono ?_
      rintro e w1 ⟨rfl, rfl⟩
      go_wp2_with fail
      go_ret
      exact .of rfl (Below.refl _ _)
end aluTurns
end Go.Proofs.Ytdcfljfgcnbjlaa
