/- Any cartridge's header, check and sum, of layer 5. -/
import Derived.Test.YtafkgmlamggbdaaBytes
import Derived.Test.YtafkgmlamggbdaaCart
namespace Go.Proofs.Ytafkgmlamggbdaa
open Go.RowKit
set_option linter.unusedSimpArgs false
set_option linter.unusedVariables false
theorem IsPairs.below {w w' : World} {a : Option Addr} {len : Nat} (h : IsPairs w a len ()) (hb : Below w.heap.size w w') : IsPairs w' a len () := fun h0 => by
  obtain ⟨b, off, ha, hlt, hc⟩ := h h0
  refine ⟨b, off, ha, Nat.lt_of_lt_of_le hlt hb.size, fun i hi => ?_⟩
  obtain ⟨X, Y, x0, x1, y0, y1, c0, c1⟩ := hc i hi
  exact ⟨X, Y, x0, x1, y0, y1, (hb.cell (p := ⟨b, off + i * 2, none⟩) hlt).trans c0, (hb.cell (p := ⟨b, off + i * 2 + 1, none⟩) hlt).trans c1⟩
set_option maxRecDepth 100000 in
set_option maxHeartbeats 2000000 in
theorem tells_any (kind banks ram : Int) (pa : Option Addr) (plen pcap : Nat) (chck : Bool) (cut : Int) (hk0 : 0 ≤ kind) (hk1 : kind ≤ 255) (hb0 : 0 ≤ banks) (hb1 : banks ≤ 255) (hr0 : 0 ≤ ram) (hr1 : ram ≤ 255)
    (w : World) (hp : IsPairs w pa plen ()) :
    Calls Try.prog 3 #[.int .u8 kind, .int .u8 banks, .int .u8 ram, .slice pa plen pcap, .bool chck, .int .i64 cut] w (Ret (.bool true) w) := by
  have HP := hid_ hp
  clear hp
  go_enter Try.func3, Try.ntmps3
  go_wp2_with fail
  refine (awake_any w).mono ?_
  rintro e w0 ⟨rfl, hc1, hf1, hz0, hbw0⟩
  clear hc1 hf1
  by_cases h30 : 30 < plen
  · have q : decide ((30 : Int) < (plen : Int)) = true := by simp; omega
    clear h30
    go_wp2_with fail
    refine (awake_any w0).mono ?_
    rintro e w2 ⟨rfl, hc2, hf2, hz2, hbw2⟩
    go_wp2_with fail
    go_ret
    exact .of rfl (hbw0.trans (Below.mono hbw2 hz0))
  · have q : decide ((30 : Int) < (plen : Int)) = false := by simp; omega
    have hl30 : plen ≤ 30 := by omega
    clear h30
    have HP0 := hid_ (HP.out.below hbw0)
    go_wp2_with fail
    refine (cart_any kind banks ram pa plen pcap chck cut hk0 hk1 hb0 hb1 hr0 hr1 hl30 w0 HP0.out).mono ?_
    rintro e w1 ⟨a, len, cap, zs, rfl, hrow1, hcap, hl, hbc⟩
    have hbw1 := hbw0.trans (Below.mono hbc hz0)
    have hz1 : w.heap.size ≤ w1.heap.size := hbw1.size
    clear hbw0 hbc hz0 HP0 HP
    have HR1 := hid_ hrow1
    clear hrow1
    obtain ⟨T, k, n, r, c, bt, wh, er, hpv⟩ := parse_tup zs len
    have HPV := hid_ hpv
    clear hpv
    go_wp2_with fail
    refine (parse_any a len cap zs (by omega) hcap w1 HR1.out).mono ?_
    rw [HPV.out]
    rintro e w2 ⟨rfl, hc2, hf2, hz2, hbw2⟩
    clear hc2 hf2
    have HR2 := hid_ (HR1.out.below hbw2)
    go_wp2_with fail
    have hh := Blk.new w2 27 #[.string T, .int .i64 k, .bool c, .bool bt, .int .i64 n, .int .i64 r, .bool wh]
    have hB3 : Below w2.heap.size w2 (w2.alloc (.cells #[.string T, .int .i64 k, .bool c, .bool bt, .int .i64 n, .int .i64 r, .bool wh] 27)) := Below.alloc (Below.refl _ _) (Nat.le_refl _) _
    have HR3 := hid_ (HR2.out.below hB3)
    have hz3 := hB3.size
    generalize (w2.alloc (.cells #[.string T, .int .i64 k, .bool c, .bool bt, .int .i64 n, .int .i64 r, .bool wh] 27)) = w3 at *
    refine (rparse_any a len cap zs (by omega) hcap w3 HR3.out).mono ?_
    rw [HPV.out]
    rintro e w4 ⟨rfl, hc4, hf4, hz4, hbw4⟩
    clear hc4 hf4
    have HR4 := hid_ (HR3.out.below hbw4)
    have hh4 := hh.below hbw4 hh.lt
    obtain ⟨⟨x0, x1, x2, x3, x4, x5, x6⟩, y0, y1, y2, y3, y4, y5, y6⟩ := hh4.seven
    have hgl := hh4.lt
    go_wp2_with fail
    have hB5 : Below w4.heap.size w4 (w4.alloc (.cells #[.string T, .int .i64 k, .bool c, .bool bt, .int .i64 n, .int .i64 r, .bool wh] 31)) := Below.alloc (Below.refl _ _) (Nat.le_refl _) _
    have HR5 := hid_ (HR4.out.below hB5)
    have HBW := hid_ (hbw1.trans (Below.mono (hbw2.trans (Below.mono (hB3.trans (Below.mono (hbw4.trans (Below.mono hB5 hz4)) (by assumption))) hz2)) hz1))
    clear x0 x1 x2 x3 x4 x5 x6 y0 y1 y2 y3 y4 y5 y6 hh hh4 hgl
    generalize (w4.alloc (.cells #[.string T, .int .i64 k, .bool c, .bool bt, .int .i64 n, .int .i64 r, .bool wh] 31)) = w5 at *
    refine (check_any a len cap zs hcap (by omega) w5 HR5.out).mono ?_
    rintro e w6 ⟨rfl, rfl⟩
    go_wp2_with fail
    refine (rcheck_any a len cap zs (by omega) w5 HR5.out).mono ?_
    rintro e w6 ⟨rfl, rfl⟩
    go_wp2_with fail
    refine (sum_any a len cap zs (by omega) w5 HR5.out).mono ?_
    rintro e w6 ⟨rfl, n6, rfl⟩
    go_wp2_with fail
    refine (rsum_any a len cap zs (by omega) _ (HR5.out.below (below_drewN (Below.refl _ _) n6))).mono ?_
    rintro e w6 ⟨rfl, rfl⟩
    go_wp2_with fail
    go_ret
    exact .of rfl (below_drewN HBW.out n6)


namespace headerTells
theorem walk (w : World) (kind banks ram : Int) (pa : Option Addr) (plen pcap : Nat) (pz : Unit) (chck : Bool) (cut : Int) (hk0 : 0 ≤ kind) (hk1 : kind ≤ 255) (hb0 : 0 ≤ banks) (hb1 : banks ≤ 255) (hr0 : 0 ≤ ram) (hr1 : ram ≤ 255)
    (hp : IsPairs w pa plen pz) (_ : -9223372036854775808 ≤ cut) (_ : cut ≤ 9223372036854775807) :
    Calls Try.prog 3 #[.int .u8 kind, .int .u8 banks, .int .u8 ram, .slice pa plen pcap, .bool chck, .int .i64 cut] w (Ret (.bool true) w) :=
  tells_any kind banks ram pa plen pcap chck cut hk0 hk1 hb0 hb1 hr0 hr1 w hp
end headerTells
end Go.Proofs.Ytafkgmlamggbdaa
