/- The law SerialWaits: its walk. -/
import Derived.Test.YtnopldejhkmdeaaAny
namespace Go.Proofs.Ytnopldejhkmdeaa
open Go.RowKit
set_option linter.unusedSimpArgs false
set_option linter.unusedVariables false
namespace serialWaits

theorem tick_still (p : St) (h : p.b = 0) : tickS p = p ∧ tickI p = false := by
  unfold tickS tickI
  rw [h]
  exact ⟨rfl, rfl⟩

/-- What is behind the port's beginning: from 'q := p' on. -/
def Goal (p : St) (D : Int) : Prop := p.ok ∧ p.b = 0 ∧ p.d = D

set_option maxRecDepth 100000 in
set_option maxHeartbeats 2000000 in
theorem walk (a0 a1 a2 a3 : Int) (h0 : 0 ≤ a0) (h0' : a0 ≤ 255) (h1 : 0 ≤ a1) (h1' : a1 ≤ 255) (h2 : 0 ≤ a2) (h2' : a2 ≤ 65535) (h3 : 0 ≤ a3) (h3' : a3 ≤ 255) (w : World) :
    Calls Try.prog 6 #[.int .u8 a0, .int .u8 a1, .int .u16 a2, .int .u8 a3] w (Ret (.bool true) w) := by
  obtain ⟨n, hn⟩ : ∃ n : Nat, a2 % 2000 = n := Int.eq_ofNat_of_zero_le (by omega)
  have hn4 : n < 2000 := by omega
  have HN := hid_ hn
  clear hn
  have z0 : (St.mk 0 0 0 0 0 0).ok := by unfold St.ok; decide
  have e1 : writeS ⟨0, 0, 0, 0, 0, 0⟩ 0 a0 = ⟨a0, 0, 0, 0, 0, 0⟩ := rfl
  have z1 := writeS_ok ⟨0, 0, 0, 0, 0, 0⟩ z0 0 a0 h0 h0'
  rw [e1] at z1
  have z2 := writeS_ok ⟨a0, 0, 0, 0, 0, 0⟩ z1 1 a1 h1 h1'
  obtain ⟨p, hp⟩ : ∃ p, writeS ⟨a0, 0, 0, 0, 0, 0⟩ 1 a1 = p := ⟨_, rfl⟩
  rw [hp] at z2
  have a129 := and129 a1 h1 h1'
  have a128 := and128 a3 h3 h3'
  have E1 := hid_ e1
  clear e1
  by_cases hb : begins a1 = true
  · have hp2 : p = ⟨a0, 129, a0, 8, 0, 1⟩ := by rw [← hp, writeS, if_neg (by decide), if_pos rfl, if_pos hb]; rfl
    have hc : bits .and .u8 a1 129 = 129 := by
      rw [a129]; unfold begins at hb; simp at hb; omega
    subst hp2
    have HP := hid_ hp
    clear hp a129 hb
    have x0 : 0 ≤ a3 / 128 * 128 := by omega
    have x1 : a3 / 128 * 128 ≤ 255 := by omega
    obtain ⟨q, hq⟩ : ∃ q, writeS ⟨a0, 129, a0, 8, 0, 1⟩ 1 (a3 / 128 * 128) = q := ⟨_, rfl⟩
    have zq := writeS_ok _ z2 1 _ x0 x1
    have hq2 : q = ⟨a0, a3 / 128 * 128, a0, 0, 0, 1⟩ := by
      have hnb : ¬ begins (a3 / 128 * 128) = true := by unfold begins; simp; omega
      rw [← hq, writeS, if_neg (by decide), if_pos rfl, if_neg hnb]
      congr 1; omega
    rw [hq] at zq
    have qd : q.d = a0 := by rw [hq2]
    have qb : q.b = 0 := by rw [hq2]
    have HQ := hid_ hq
    have ht := tick_still q qb
    clear hq hq2
    have QD := hid_ qd
    have QB := hid_ qb
    have HT1 := hid_ ht.1
    have HT2 := hid_ ht.2
    clear qd qb ht
    go_enter Try.func6, Try.ntmps6
    go_wp2_with fail
    refine (awake_any _).mono ?_
    rintro e w1 ⟨rfl, hc1, hf1, hz1, hb1⟩
    clear hc1 hf1
    go_wp2_with fail
    refine (write_any ⟨0, 0, 0, 0, 0, 0⟩ z0 0 a0 h0 h0' _).mono ?_
    rintro e w2 ⟨rfl, hc2, hf2, hz2, hb2⟩
    rw [E1.out]
    clear hc2 hf2
    go_wp2_with fail
    refine (write_any ⟨a0, 0, 0, 0, 0, 0⟩ z1 1 a1 h1 h1' _).mono ?_
    rintro e w3 ⟨rfl, hc3, hf3, hz3, hb3⟩
    rw [HP.out]
    clear hc3 hf3
    go_wp2_with fail
    refine (write_any ⟨a0, 129, a0, 8, 0, 1⟩ z2 1 _ x0 x1 _).mono ?_
    rintro e w4 ⟨rfl, hc4, hf4, hz4, hb4⟩
    rw [HQ.out]
    have hB4 := (Blk.new w3 25 (cells ⟨a0, 129, a0, 8, 0, 1⟩)).below hb4 (by simp)
    have hg4 := hB4.lt
    obtain ⟨c0, c1, c2, c3, c4, c5, f0, f1, f2, f3, f4, f5⟩ := hB4.six
    dsimp only at c0 c1 c2 c3 c4 c5
    clear hc4 hf4
    go_wp2_with fail
    have hE4 := hB4.set6 q
    have hbel4 : Below w.heap.size w w4 := ((((hb1.trans (hb2.mono hz1)).trans (hb3.mono (by omega))).alloc (by omega) _).trans (hb4.mono (by simp; omega)))
    have hs3 : w.heap.size ≤ w3.heap.size := by omega
    have hbel5 := (((((hbel4.setCell (p := ⟨w3.heap.size, 0, none⟩) hs3 (.int .u8 q.d)).setCell (p := ⟨w3.heap.size, 1, none⟩) hs3 (.int .u8 q.c)).setCell (p := ⟨w3.heap.size, 2, none⟩) hs3 (.int .u8 q.l)).setCell (p := ⟨w3.heap.size, 3, none⟩) hs3 (.int .i64 q.b)).setCell (p := ⟨w3.heap.size, 4, none⟩) hs3 (.int .i64 q.n)).setCell (p := ⟨w3.heap.size, 5, none⟩) hs3 (.int .i64 q.s)
    have hsz : ((((((w4.setCell ⟨w3.heap.size, 0, none⟩ (.int .u8 q.d)).setCell ⟨w3.heap.size, 1, none⟩ (.int .u8 q.c)).setCell ⟨w3.heap.size, 2, none⟩ (.int .u8 q.l)).setCell ⟨w3.heap.size, 3, none⟩ (.int .i64 q.b)).setCell ⟨w3.heap.size, 4, none⟩ (.int .i64 q.n)).setCell ⟨w3.heap.size, 5, none⟩ (.int .i64 q.s)).heap.size = w4.heap.size := by simp
    generalize (((((w4.setCell ⟨w3.heap.size, 0, none⟩ (.int .u8 q.d)).setCell ⟨w3.heap.size, 1, none⟩ (.int .u8 q.c)).setCell ⟨w3.heap.size, 2, none⟩ (.int .u8 q.l)).setCell ⟨w3.heap.size, 3, none⟩ (.int .i64 q.b)).setCell ⟨w3.heap.size, 4, none⟩ (.int .i64 q.n)).setCell ⟨w3.heap.size, 5, none⟩ (.int .i64 q.s) = W5 at *
    have hF9 := hE4.alloc (.cells (cells q) 25)
    have hF11 := Blk.new W5 25 (cells q)
    have hbelF := hbel5.alloc hbel5.size (.cells (cells q) 25)
    rw [hsz] at hF11
    have hne : w3.heap.size ≠ w4.heap.size := by omega
    have hs4 : w.heap.size ≤ w4.heap.size := hbel4.size
    clear hE4 hbel5 hsz hbel4 hB4 hg4 c0 c1 c2 c3 c4 c5 f0 f1 f2 f3 f4 f5 hb1 hb2 hb3 hb4 hz1 hz2 hz3 hz4
    generalize (W5.alloc (.cells (cells q) 25)) = W6 at *
    generalize w3.heap.size = g9 at *
    generalize w4.heap.size = g11 at *
    clear hs3
    rw [HN.out]
    clear HN
    go_loopw [32] (fun i wr => ∃ k : Nat, k ≤ n ∧ i = .int .i64 k ∧ Blk wr g9 25 (cells q) ∧ Blk wr g11 25 (cells q) ∧ Below w.heap.size w wr) (fun i _ => n - (intOf i).toNat)
    case atStart => exact ⟨0, by omega, rfl, hF9, hF11, hbelF⟩
    case round =>
      clear hF9 hF11 hbelF
      obtain ⟨k, hk, rfl, hB, hC, hbel⟩ := hrel
      have hg := hB.lt
      have hgC := hC.lt
      by_cases hlt : k < n
      · obtain ⟨k0, k1, k2, k3, k4, k5, f0, f1, f2, f3, f4, f5⟩ := hC.six
        go_wp2_with fail
        refine (tick_any q zq _).mono ?_
        rintro e w3 ⟨rfl, hc3, hf3, hz3, hb3⟩
        rw [HT1.out, HT2.out]
        have hB3 := hB.below hb3 hg
        have hC3 := hC.below hb3 hgC
        have hg3 := hC3.lt
        clear hc3 hf3 k0 k1 k2 k3 k4 k5 f0 f1 f2 f3 f4 f5
        obtain ⟨k0, k1, k2, k3, k4, k5, f0, f1, f2, f3, f4, f5⟩ := hC3.six
        go_wp2_with fail
        refine ⟨⟨k + 1, by omega, by go_num, ?_, hC3.set6 q, ?_⟩, by simp [intOf]; omega⟩
        · exact (((((hB3.far (p := ⟨g11, 0, none⟩) hne _).far (p := ⟨g11, 1, none⟩) hne _).far (p := ⟨g11, 2, none⟩) hne _).far (p := ⟨g11, 3, none⟩) hne _).far (p := ⟨g11, 4, none⟩) hne _).far (p := ⟨g11, 5, none⟩) hne _
        · exact ((((((hbel.trans (hb3.mono hbel.size)).setCell (p := ⟨g11, 0, none⟩) hs4 _).setCell (p := ⟨g11, 1, none⟩) hs4 _).setCell (p := ⟨g11, 2, none⟩) hs4 _).setCell (p := ⟨g11, 3, none⟩) hs4 _).setCell (p := ⟨g11, 4, none⟩) hs4 _).setCell (p := ⟨g11, 5, none⟩) hs4 _
      · obtain rfl : k = n := by omega
        obtain ⟨c0, c1, c2, c3, c4, c5, _⟩ := hB.six
        obtain ⟨k0, k1, k2, k3, k4, k5, _⟩ := hC.six
        have qd := QD.out
        have qb := QB.out
        go_wp2_with fail
        all_goals go_ret
        all_goals exact .of rfl hbel
  · have hnb : begins a1 = false := by simpa using hb
    have hp2 : p = ⟨a0, a1 / 128 * 128 + a1 % 2, 0, 0, 0, 0⟩ := by rw [← hp, writeS, if_neg (by decide), if_pos rfl, if_neg hb]
    have hcc : ((a1 / 128 * 128 + a1 % 2) == 129) = false := by
      unfold begins at hnb; simp at hnb ⊢; omega
    obtain ⟨q, hq⟩ : ∃ q, p = q := ⟨_, rfl⟩
    have zq := z2
    rw [hq] at zq hp
    have qd : q.d = a0 := by rw [← hq, hp2]
    have qb : q.b = 0 := by rw [← hq, hp2]
    have ht := tick_still q qb
    have HP := hid_ hp
    clear hp hp2 hnb hb hq z2
    have QD := hid_ qd
    have QB := hid_ qb
    have HT1 := hid_ ht.1
    have HT2 := hid_ ht.2
    clear qd qb ht
    go_enter Try.func6, Try.ntmps6
    go_wp2_with fail
    refine (awake_any _).mono ?_
    rintro e w1 ⟨rfl, hc1, hf1, hz1, hb1⟩
    clear hc1 hf1
    go_wp2_with fail
    refine (write_any ⟨0, 0, 0, 0, 0, 0⟩ z0 0 a0 h0 h0' _).mono ?_
    rintro e w2 ⟨rfl, hc2, hf2, hz2, hb2⟩
    rw [E1.out]
    clear hc2 hf2
    go_wp2_with fail
    refine (write_any ⟨a0, 0, 0, 0, 0, 0⟩ z1 1 a1 h1 h1' _).mono ?_
    rintro e w3 ⟨rfl, hc3, hf3, hz3, hb3⟩
    rw [HP.out]
    clear hc3 hf3
    go_wp2_with fail
    have hbel3 : Below w.heap.size w w3 := ((hb1.trans (hb2.mono hz1)).trans (hb3.mono (by omega)))
    have hF9 := (Blk.new w3 25 (cells q)).alloc (.cells (cells q) 25)
    have hF11 := Blk.new' (w3.alloc (.cells (cells q) 25)) 25 (cells q) (g := w3.heap.size + 1) (by simp)
    have hbelF := (hbel3.alloc hbel3.size (.cells (cells q) 25)).alloc (by have := hbel3.size; simp; omega) (.cells (cells q) 25)
    have hs4 : w.heap.size ≤ w3.heap.size + 1 := by have := hbel3.size; omega
    have hne : w3.heap.size ≠ w3.heap.size + 1 := by omega
    clear hbel3 hb1 hb2 hb3 hz1 hz2 hz3
    generalize ((w3.alloc (.cells (cells q) 25)).alloc (.cells (cells q) 25)) = W6 at *
    generalize hg11 : w3.heap.size + 1 = g11 at *
    generalize w3.heap.size = g9 at *
    clear hg11
    rw [HN.out]
    clear HN
    go_loopw [32] (fun i wr => ∃ k : Nat, k ≤ n ∧ i = .int .i64 k ∧ Blk wr g9 25 (cells q) ∧ Blk wr g11 25 (cells q) ∧ Below w.heap.size w wr) (fun i _ => n - (intOf i).toNat)
    case atStart => exact ⟨0, by omega, rfl, hF9, hF11, hbelF⟩
    case round =>
      clear hF9 hF11 hbelF
      obtain ⟨k, hk, rfl, hB, hC, hbel⟩ := hrel
      have hg := hB.lt
      have hgC := hC.lt
      by_cases hlt : k < n
      · obtain ⟨k0, k1, k2, k3, k4, k5, f0, f1, f2, f3, f4, f5⟩ := hC.six
        go_wp2_with fail
        refine (tick_any q zq _).mono ?_
        rintro e w3 ⟨rfl, hc3, hf3, hz3, hb3⟩
        rw [HT1.out, HT2.out]
        have hB3 := hB.below hb3 hg
        have hC3 := hC.below hb3 hgC
        have hg3 := hC3.lt
        clear hc3 hf3 k0 k1 k2 k3 k4 k5 f0 f1 f2 f3 f4 f5
        obtain ⟨k0, k1, k2, k3, k4, k5, f0, f1, f2, f3, f4, f5⟩ := hC3.six
        go_wp2_with fail
        refine ⟨⟨k + 1, by omega, by go_num, ?_, hC3.set6 q, ?_⟩, by simp [intOf]; omega⟩
        · exact (((((hB3.far (p := ⟨g11, 0, none⟩) hne _).far (p := ⟨g11, 1, none⟩) hne _).far (p := ⟨g11, 2, none⟩) hne _).far (p := ⟨g11, 3, none⟩) hne _).far (p := ⟨g11, 4, none⟩) hne _).far (p := ⟨g11, 5, none⟩) hne _
        · exact ((((((hbel.trans (hb3.mono hbel.size)).setCell (p := ⟨g11, 0, none⟩) hs4 _).setCell (p := ⟨g11, 1, none⟩) hs4 _).setCell (p := ⟨g11, 2, none⟩) hs4 _).setCell (p := ⟨g11, 3, none⟩) hs4 _).setCell (p := ⟨g11, 4, none⟩) hs4 _).setCell (p := ⟨g11, 5, none⟩) hs4 _
      · obtain rfl : k = n := by omega
        obtain ⟨c0, c1, c2, c3, c4, c5, _⟩ := hB.six
        obtain ⟨k0, k1, k2, k3, k4, k5, _⟩ := hC.six
        have qd := QD.out
        have qb := QB.out
        go_wp2_with fail
        all_goals go_ret
        all_goals exact .of rfl hbel
end serialWaits
end Go.Proofs.Ytnopldejhkmdeaa
