/- The law TilesShades: its walk. -/
import Derived.Test.YtglnikjeloafiaaWalksB
namespace Go.Proofs.Ytglnikjeloafiaa
open Go.RowKit
set_option linter.unusedSimpArgs false
set_option linter.unusedVariables false
namespace tilesShades

theorem facts (p c : Int) (hp : 0 ≤ p) (hp' : p ≤ 255) (h0 : 0 ≤ c) (h1 : c ≤ 255) :
    shadeI 228 c = c % 4 ∧ shadeI p (c % 4) = shadeI p c ∧ 0 ≤ shadeI p c ∧ shadeI p c < 4 ∧ shadeI (255 - p) c = 3 - shadeI p c := by
  have hc : c % 4 = 0 ∨ c % 4 = 1 ∨ c % 4 = 2 ∨ c % 4 = 3 := by omega
  have hcc : c % 4 % 4 = c % 4 := by omega
  unfold shadeI
  rw [hcc]
  rcases hc with hc | hc | hc | hc <;> rw [hc] <;> simp <;> omega

theorem walk (p c : Int) (hp : 0 ≤ p) (hp' : p ≤ 255) (h0 : 0 ≤ c) (h1 : c ≤ 255) (w : World) :
    Calls Try.prog 4 #[.int .u8 p, .int .u8 c] w (Ret (.bool true) w) := by
  obtain ⟨f1, f2, f3, f4, f5⟩ := facts p c hp hp' h0 h1
  have e1 := and3 c h0 h1
  have EX : Hid (bits .xor .u8 IntKind.u8.max p = 255 - p) := upto (P := fun p => bits .xor .u8 IntKind.u8.max p = 255 - p) (by decide +kernel) p hp hp'
  have F1 := hid_ f1
  have F2 := hid_ f2
  have F5 := hid_ f5
  clear f1 f2 f5
  go_enter Try.func4, Try.ntmps4
  go_wp2_with fail
  refine (awake_any _).mono ?_
  rintro e w1 ⟨rfl, hc1, hf1, hz1, hb1⟩
  clear hc1 hf1
  go_wp2_with fail
  refine (shade_any p c hp hp' h0 h1 _).mono ?_
  rintro e wp ⟨rfl, rfl⟩
  go_wp2_with fail
  refine (shade_any 228 c (by omega) (by omega) h0 h1 _).mono ?_
  rintro e wp ⟨rfl, rfl⟩
  rw [F1.out]
  go_wp2_with fail
  refine (shade_any p (c % 4) hp hp' (by omega) (by omega) _).mono ?_
  rintro e wp ⟨rfl, rfl⟩
  rw [F2.out]
  go_wp2_with fail
  rw [EX.out]
  refine (shade_any (255 - p) c (by omega) (by omega) h0 h1 _).mono ?_
  rintro e wp ⟨rfl, rfl⟩
  rw [F5.out]
  go_wp2_with fail
  go_ret
  exact .of rfl hb1
end tilesShades
end Go.Proofs.Ytglnikjeloafiaa
