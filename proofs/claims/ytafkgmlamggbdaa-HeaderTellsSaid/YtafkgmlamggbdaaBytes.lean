/- Both parses of any bytes, of layer 5. -/
import Derived.Test.YtafkgmlamggbdaaRefQ
import Derived.Test.YtafkgmlamggbdaaAwake
import Derived.Test.YtafkgmlamggbdaaIn
namespace Go.Proofs.Ytafkgmlamggbdaa
open Go.RowKit
set_option linter.unusedSimpArgs false
set_option linter.unusedVariables false
/-- What a parse answers is seven fields and a fault. -/
theorem parse_tup (zs : List Int) (len : Nat) : ∃ T k n r c b wh e, parseV zs len = .tuple #[.agg #[.string T, .int .i64 k, .bool c, .bool b, .int .i64 n, .int .i64 r, .bool wh], .int .i64 e] := by
  unfold parseV
  split
  · exact ⟨_, _, _, _, _, _, _, _, rfl⟩
  · split
    · exact ⟨_, _, _, _, _, _, _, _, rfl⟩
    · split
      · exact ⟨_, _, _, _, _, _, _, _, rfl⟩
      · split
        · exact ⟨_, _, _, _, _, _, _, _, rfl⟩
        · split
          · exact ⟨_, _, _, _, _, _, _, _, rfl⟩
          · exact ⟨_, _, _, _, _, _, _, _, rfl⟩
set_option maxRecDepth 100000 in
set_option maxHeartbeats 2000000 in
theorem bytes_any (a : Option Addr) (len cap : Nat) (zs : List Int) (hcap : len ≤ cap) (w : World) (h : IsRow .u8 w a len zs) :
    Calls Try.prog 4 #[.slice a len cap] w (Ret (.bool true) w) := by
  have HROW := hid_ h
  clear h
  go_enter Try.func4, Try.ntmps4
  go_wp2_with fail
  refine (awake_any w).mono ?_
  rintro e w1 ⟨rfl, hc1, hf1, hz1, hbw1⟩
  clear hc1 hf1
  by_cases h60 : 70000 < len
  · have q : decide ((70000 : Int) < (len : Int)) = true := by simp; omega
    clear h60
    go_wp2_with fail
    refine (awake_any w1).mono ?_
    rintro e w2 ⟨rfl, hc2, hf2, hz2, hbw2⟩
    go_wp2_with fail
    go_ret
    exact .of rfl (hbw1.trans (Below.mono hbw2 hz1))
  · have q : decide ((70000 : Int) < (len : Int)) = false := by simp; omega
    have hl : len ≤ 70000 := by omega
    clear h60
    have HR1 := hid_ (HROW.out.below hbw1)
    obtain ⟨T, k, n, r, c, bt, wh, er, hpv⟩ := parse_tup zs len
    have HPV := hid_ hpv
    clear hpv
    go_wp2_with fail
    refine (parse_any a len cap zs (by omega) hcap w1 HR1.out).mono ?_
    rw [HPV.out]
    rintro e w2 ⟨rfl, hc2, hf2, hz2, hbw2⟩
    clear hc2 hf2
    have HR2 := hid_ (HR1.out.below hbw2)
    go_wp2_with fail
    have hh := Blk.new w2 27 #[.string T, .int .i64 k, .bool c, .bool bt, .int .i64 n, .int .i64 r, .bool wh]
    have hB3 : Below w2.heap.size w2 (w2.alloc (.cells #[.string T, .int .i64 k, .bool c, .bool bt, .int .i64 n, .int .i64 r, .bool wh] 27)) := Below.alloc (Below.refl _ _) (Nat.le_refl _) _
    have HR3 := hid_ (HR2.out.below hB3)
    have hz3 := hB3.size
    generalize (w2.alloc (.cells #[.string T, .int .i64 k, .bool c, .bool bt, .int .i64 n, .int .i64 r, .bool wh] 27)) = w3 at *
    refine (rparse_any a len cap zs (by omega) hcap w3 HR3.out).mono ?_
    rw [HPV.out]
    rintro e w4 ⟨rfl, hc4, hf4, hz4, hbw4⟩
    clear hc4 hf4
    have HR4 := hid_ (HR3.out.below hbw4)
    have hh4 := hh.below hbw4 hh.lt
    obtain ⟨⟨x0, x1, x2, x3, x4, x5, x6⟩, y0, y1, y2, y3, y4, y5, y6⟩ := hh4.seven
    have hgl := hh4.lt
    go_wp2_with fail
    have hB5 : Below w4.heap.size w4 (w4.alloc (.cells #[.string T, .int .i64 k, .bool c, .bool bt, .int .i64 n, .int .i64 r, .bool wh] 31)) := Below.alloc (Below.refl _ _) (Nat.le_refl _) _
    have HR5 := hid_ (HR4.out.below hB5)
    have HBW := hid_ (hbw1.trans (Below.mono (hbw2.trans (Below.mono (hB3.trans (Below.mono (hbw4.trans (Below.mono hB5 hz4)) (by assumption))) hz2)) hz1))
    clear x0 x1 x2 x3 x4 x5 x6 y0 y1 y2 y3 y4 y5 y6 hh hh4 hgl
    generalize (w4.alloc (.cells #[.string T, .int .i64 k, .bool c, .bool bt, .int .i64 n, .int .i64 r, .bool wh] 31)) = w5 at *
    refine (check_any a len cap zs hcap (by omega) w5 HR5.out).mono ?_
    rintro e w6 ⟨rfl, rfl⟩
    go_wp2_with fail
    refine (rcheck_any a len cap zs (by omega) w5 HR5.out).mono ?_
    rintro e w6 ⟨rfl, rfl⟩
    go_wp2_with fail
    refine (sum_any a len cap zs (by omega) w5 HR5.out).mono ?_
    rintro e w6 ⟨rfl, n6, rfl⟩
    go_wp2_with fail
    refine (rsum_any a len cap zs (by omega) _ (HR5.out.below (below_drewN (Below.refl _ _) n6))).mono ?_
    rintro e w6 ⟨rfl, rfl⟩
    go_wp2_with fail
    go_ret
    exact .of rfl (below_drewN HBW.out n6)

namespace headerBytes
theorem walk (w : World) (a : Option Addr) (len cap : Nat) (zs : List Int) (h : IsRow .u8 w a len zs) (hcap : len ≤ cap) :
    Calls Try.prog 4 #[.slice a len cap] w (Ret (.bool true) w) := bytes_any a len cap zs hcap w h
end headerBytes
end Go.Proofs.Ytafkgmlamggbdaa
