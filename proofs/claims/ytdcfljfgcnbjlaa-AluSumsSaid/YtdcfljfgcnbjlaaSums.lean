/- The law AluSums: its walk. -/
import Derived.Test.YtdcfljfgcnbjlaaLawsA
import Derived.Test.YtdcfljfgcnbjlaaRefC
namespace Go.Proofs.Ytdcfljfgcnbjlaa
open Go.RowKit
set_option linter.unusedSimpArgs false
set_option linter.unusedVariables false
namespace aluSums

set_option maxRecDepth 100000 in
set_option maxHeartbeats 1000000 in
theorem walk (a b : Int) (c : Bool) (ha : 0 ≤ a) (ha' : a ≤ 255) (hb : 0 ≤ b) (hb' : b ≤ 255) (w : World) :
    Calls Try.prog 6 #[.int .u8 a, .int .u8 b, .bool c] w (Ret (.bool true) w) := by
  obtain ⟨a, rfl⟩ := Int.eq_ofNat_of_zero_le ha
  obtain ⟨b, rfl⟩ := Int.eq_ofNat_of_zero_le hb
  have na : a ≤ 255 := by omega
  have nb : b ≤ 255 := by omega
  go_enter Try.func6, Try.ntmps6
  go_wp2_with fail
  refine (awake_any _).mono ?_
  rintro e wp ⟨rfl, rfl⟩
  go_wp2_with fail
  refine (add_any _ _ _ ha ha' hb hb' _).mono ?_
  rintro e wp ⟨rfl, rfl⟩
  go_wp2_with fail
  refine (radd_nat _ _ _ na nb _).mono ?_
  rintro e w1 ⟨rfl, hcw1, hfw1, hzw1, hbw1⟩
  clear hcw1 hfw1
  go_wp2_with fail
  refine (sub_any _ _ _ ha ha' hb hb' _).mono ?_
  rintro e wp ⟨rfl, rfl⟩
  go_wp2_with fail
  refine (rsub_nat _ _ _ na nb _).mono ?_
  rintro e w2 ⟨rfl, hcw2, hfw2, hzw2, hbw2⟩
  clear hcw2 hfw2
  go_wp2_with fail
  refine (and_any _ _ _).mono ?_
  rintro e wp ⟨rfl, rfl⟩
  go_wp2_with fail
  refine (rlogic0 _ _ na nb _).mono ?_
  rintro e w3 ⟨rfl, hcw3, hfw3, hzw3, hbw3⟩
  clear hcw3 hfw3
  go_wp2_with fail
  refine (or_any _ _ _).mono ?_
  rintro e wp ⟨rfl, rfl⟩
  go_wp2_with fail
  refine (rlogic1 _ _ na nb _).mono ?_
  rintro e w4 ⟨rfl, hcw4, hfw4, hzw4, hbw4⟩
  clear hcw4 hfw4
  go_wp2_with fail
  refine (xor_any _ _ _).mono ?_
  rintro e wp ⟨rfl, rfl⟩
  go_wp2_with fail
  refine (rlogic2 _ _ na nb _).mono ?_
  rintro e w5 ⟨rfl, hcw5, hfw5, hzw5, hbw5⟩
  clear hcw5 hfw5
  go_wp2_with fail
  go_ret
  exact .of rfl ((((hbw1.trans (hbw2.mono (by omega))).trans (hbw3.mono (by omega))).trans (hbw4.mono (by omega))).trans (hbw5.mono (by omega)))
end aluSums
end Go.Proofs.Ytdcfljfgcnbjlaa
