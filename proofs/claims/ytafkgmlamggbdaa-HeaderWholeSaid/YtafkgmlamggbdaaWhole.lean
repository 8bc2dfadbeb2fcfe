/- A cartridge that is whole, of layer 5. -/
import Derived.Test.YtafkgmlamggbdaaKind
namespace Go.Proofs.Ytafkgmlamggbdaa
open Go.RowKit
set_option linter.unusedSimpArgs false
set_option linter.unusedVariables false

theorem sm_set (zs : List Int) (k : Nat) (v : Int) (hk : k < zs.length) : ∀ n, sm (zs.set k v) n = (sm zs n + (if k < n then v - zs.getD k 0 else 0)) % 65536
  | 0 => by simp [sm]
  | n + 1 => by
    have b := sm_bd zs n
    simp only [sm]
    rw [sm_set zs k v hk n, getD_set zs k n v hk]
    by_cases h : k < n
    · rw [if_pos h, if_neg (by omega), if_pos (by omega)]; omega
    · rw [if_neg h]
      by_cases e : n = k
      · subst e; rw [if_pos rfl, if_pos (by omega)]; omega
      · rw [if_neg (by omega), if_neg (by omega)]; omega
theorem sumV_set (zs : List Int) (s k : Nat) (v : Int) (hl : zs.length = s) (hs : 336 ≤ s) (hk : k < s) (h1 : k ≠ 334) (h2 : k ≠ 335) : sumV (zs.set k v) s = (sumV zs s + (v - zs.getD k 0)) % 65536 := by
  unfold sumV
  rw [if_neg (by omega), if_neg (by omega), sm_set zs k v (by omega), getD_set zs k _ _ (by omega), getD_set zs k _ _ (by omega), if_pos hk, if_neg (by omega), if_neg (by omega)]
  omega
theorem sumV_word (zs : List Int) (s : Nat) (a c : Int) (hl : zs.length = s) (hs : 336 ≤ s) : sumV ((zs.set 334 a).set 335 c) s = sumV zs s := by
  have b := sm_bd zs s
  unfold sumV
  rw [if_neg (by omega), if_neg (by omega), sm_set _ 335 c (by simp; omega), sm_set zs 334 a (by omega)]
  simp only [getD_set (zs.set 334 a) 335 _ c (by simp; omega), getD_set zs 334 _ a (by omega)]
  rw [if_pos (by omega), if_pos (by omega)]
  simp only [if_true, show ¬ (335 = 334) by omega, show ¬ (334 = 335) by omega, if_false]
  omega

set_option maxRecDepth 100000 in
set_option maxHeartbeats 2000000 in
theorem whole_any (kind banks ram : Int) (pa : Option Addr) (plen pcap : Nat) (pz : List Int) (at_ by_ : Int) (hk0 : 0 ≤ kind) (hk1 : kind ≤ 255) (hb0 : 0 ≤ banks) (hb1 : banks ≤ 255) (hr0 : 0 ≤ ram) (hr1 : ram ≤ 255)
    (ha0 : 0 ≤ at_) (ha1 : at_ ≤ 65535) (hy0 : 0 ≤ by_) (hy1 : by_ ≤ 255) (w : World) (hp : IsRow .u8 w pa plen pz) :
    Calls Try.prog 7 #[.int .u8 kind, .int .u8 banks, .int .u8 ram, .slice pa plen pcap, .int .u16 at_, .int .u8 by_] w (Ret (.bool true) w) := by
  go_enter Try.func7, Try.ntmps7
  go_wp2_with fail
  refine (awake_any w).mono ?_
  rintro e w1 ⟨rfl, hc1, hf1, hz1, hbw1⟩
  clear hc1 hf1
  by_cases hin : 3000 < plen ∨ by_ = 0
  · by_cases h3 : 3000 < plen
    · have q : decide ((3000 : Int) < (plen : Int)) = true := by simp; omega
      clear hin
      go_wp2_with fail
      refine (awake_any w1).mono ?_
      rintro e w2 ⟨rfl, hc2, hf2, hz2, hbw2⟩
      go_wp2_with fail
      go_ret
      exact .of rfl (hbw1.trans (Below.mono hbw2 hz1))
    · have q : decide ((3000 : Int) < (plen : Int)) = false := by simp; omega
      obtain rfl : by_ = 0 := by omega
      clear hin
      go_wp2_with fail
      refine (awake_any w1).mono ?_
      rintro e w2 ⟨rfl, hc2, hf2, hz2, hbw2⟩
      go_wp2_with fail
      go_ret
      exact .of rfl (hbw1.trans (Below.mono hbw2 hz1))
  · have q : decide ((3000 : Int) < (plen : Int)) = false := by simp; omega
    have qy : (by_ == 0) = false := by simp; omega
    have HP := hid_ hp
    clear hp
    go_wp2_with fail
    obtain ⟨b, hb, hb2⟩ : ∃ b : Nat, banks % 3 = b ∧ b ≤ 2 := ⟨(banks % 3).toNat, by omega, by omega⟩
    rw [hb]
    refine (made_any kind b ram b pa plen pcap pz (by omega) (by omega) (by omega) hk0 hk1 hr0 hr1 (by omega) w1 (HP.out.below hbw1)).mono ?_
    rintro e w2 ⟨rfl, hbw2, zs, hM, hl, hF, h33⟩
    obtain ⟨s0, s1⟩ := sizeOfB_bd b (by omega)
    obtain ⟨s, hs⟩ : ∃ s, sizeOfB b = s := ⟨_, rfl⟩
    rw [hs] at hl hF s0 s1 ⊢
    have e27 := hF 327 (by omega) (by omega)
    have e28 := hF 328 (by omega) (by omega)
    have e29 := hF 329 (by omega) (by omega)
    rw [show madeAt kind b ram pz plen 327 = kind by simp [madeAt]] at e27
    rw [show madeAt kind b ram pz plen 328 = b by simp [madeAt]] at e28
    rw [show madeAt kind b ram pz plen 329 = ram by simp [madeAt]] at e29
    clear hF
    have HFACTS := hid_ (And.intro h33 (And.intro e27 (And.intro e28 (And.intro e29 hs))))
    clear h33 e27 e28 e29 hs
    go_wp2_with fail
    have hrow := hM.row
    rw [hl] at hrow
    have HM := hid_ hM
    clear hM
    refine (sum_any _ s s zs (by omega) w2 hrow).mono ?_
    rintro e w3 ⟨rfl, n3, rfl⟩
    have hW3 : Below w.heap.size w (w2.drewN n3) := below_drewN (hbw1.trans (Below.mono hbw2 hz1)) n3
    have hM3 : Mem (w2.drewN n3) w1.heap.size zs := HM.out.below (below_drewN (Below.refl _ _) n3) HM.out.lt
    generalize w2.drewN n3 = w3 at *
    clear HM hbw1 hbw2 hrow HP
    obtain ⟨S, hS, hS0, hS1⟩ : ∃ S, sumV zs s = S ∧ 0 ≤ S ∧ S ≤ 65535 := ⟨_, rfl, by unfold sumV; split <;> omega, by unfold sumV; split <;> omega⟩
    rw [hS]
    have HSUM := hid_ hS
    clear hS
    have ck := hM3.cell 334 (by omega)
    have ck2 := hM3.cell 335 (by omega)
    have fk := hM3.frozen 334
    have fk2 := hM3.frozen 335
    have s34 : (334 : Int) < (s : Int) := by omega
    have s35 : (335 : Int) < (s : Int) := by omega
    have HM3 := hid_ hM3
    have HW3 := hid_ hW3
    clear hM3 hW3
    go_wp2_with fail
    have hM4 := (HM3.out.set_ 334 (S / 256) (by omega) (by omega)).set_ 335 (S % 256) (by omega) (by omega)
    have hW4 : Below w.heap.size w ((w3.setCell ⟨w1.heap.size, 334, none⟩ (.int .u8 (S / 256))).setCell ⟨w1.heap.size, 335, none⟩ (.int .u8 (S % 256))) := Below.setCell (Below.setCell HW3.out (by simpa using hz1) _) (by simpa using hz1) _
    generalize ((w3.setCell ⟨w1.heap.size, 334, none⟩ (.int .u8 (S / 256))).setCell ⟨w1.heap.size, 335, none⟩ (.int .u8 (S % 256))) = w4 at *
    have hl4 : ((zs.set 334 (S / 256)).set 335 (S % 256)).length = s := by simp [hl]
    have hG : ∀ i, ((zs.set 334 (S / 256)).set 335 (S % 256)).getD i 0 = if i = 335 then S % 256 else if i = 334 then S / 256 else zs.getD i 0 := fun i => by
      rw [getD_set _ 335 i _ (by simp; omega), getD_set zs 334 i _ (by omega)]
    have hsum4 : sumV ((zs.set 334 (S / 256)).set 335 (S % 256)) s = S := by rw [sumV_word zs s _ _ hl (by omega), HSUM.out]
    have hchk4 : chk ((zs.set 334 (S / 256)).set 335 (S % 256)) 25 = chk zs 25 := chk_congr 25 fun j hj => by rw [hG, if_neg (by omega), if_neg (by omega)]
    generalize ((zs.set 334 (S / 256)).set 335 (S % 256)) = zs1 at *
    obtain ⟨h33, e27, e28, e29, hs⟩ := HFACTS.out
    have g33 : zs1.getD 333 0 = chk zs1 25 := by rw [hG, if_neg (by omega), if_neg (by omega), hchk4, h33]
    have g27 : zs1.getD 327 0 = kind := by rw [hG, if_neg (by omega), if_neg (by omega), e27]
    have g28 : zs1.getD 328 0 = b := by rw [hG, if_neg (by omega), if_neg (by omega), e28]
    have g29 : zs1.getD 329 0 = ram := by rw [hG, if_neg (by omega), if_neg (by omega), e29]
    have g34 : zs1.getD 334 0 = S / 256 := by rw [hG, if_neg (by omega), if_pos rfl]
    have g35 : zs1.getD 335 0 = S % 256 := by rw [hG, if_pos rfl]
    have hwh : (zs1.getD 334 0 * 256 + zs1.getD 335 0 == sumV zs1 s) = true := by rw [g34, g35, hsum4]; simp; omega
    have hpv := parse_made zs1 b (by omega) g33 g28
    rw [hs, g27, g29] at hpv
    have hrow4 := hM4.row
    rw [hl4] at hrow4
    have HM4 := hid_ hM4
    have HW4 := hid_ hW4
    have HALL := hid_ (And.intro g33 (And.intro g27 (And.intro g28 (And.intro g29 (And.intro g34 (And.intro g35 (And.intro hsum4 hs)))))))
    clear HM3 HW3 ck ck2 fk fk2 hchk4 hG h33 e27 e28 e29 HFACTS g33 g27 g28 g29 g34 g35 hsum4 hM4 hW4 hs
    refine (parse_any _ s s zs1 (by omega) (Nat.le_refl _) w4 hrow4).mono ?_
    rintro e w5 ⟨rfl, hc5, hf5, hz5, hbw5⟩
    clear hc5 hf5 hrow4
    rw [hpv]
    clear hpv
    have hW5 := HW4.out.trans (Below.mono hbw5 HW4.out.size)
    have hM5 := HM4.out.below hbw5 HM4.out.lt
    clear HM4 HW4 hbw5 hz5
    by_cases hok : okI kind = false
    · rw [if_pos hok, noHead]
      have hrk : rkind kind = -1 := by unfold rkind; rw [if_neg (by simp [hok])]
      clear hwh
      go_wp2_with fail
      have hW6 : Below w.heap.size w (w5.alloc (.cells #[.string ⟨#[]⟩, .int .i64 0, .bool false, .bool false, .int .i64 0, .int .i64 0, .bool false] 27)) := Below.alloc hW5 hW5.size _
      generalize (w5.alloc (.cells #[.string ⟨#[]⟩, .int .i64 0, .bool false, .bool false, .int .i64 0, .int .i64 0, .bool false] 27)) = w6 at *
      refine (kind_any kind hk0 hk1 w6).mono ?_
      rintro e w7 ⟨rfl, rfl⟩
      rw [hrk]
      go_wp2_with fail
      go_ret
      exact .of rfl hW6
    · rw [if_neg hok]
      by_cases h6 : 6 ≤ ram
      · rw [if_pos h6, noHead]
        clear hwh
        have q5 : decide (5 < ram) = true := by simp; omega
        go_wp2_with fail
        have hW6 : Below w.heap.size w (w5.alloc (.cells #[.string ⟨#[]⟩, .int .i64 0, .bool false, .bool false, .int .i64 0, .int .i64 0, .bool false] 27)) := Below.alloc hW5 hW5.size _
        generalize (w5.alloc (.cells #[.string ⟨#[]⟩, .int .i64 0, .bool false, .bool false, .int .i64 0, .int .i64 0, .bool false] 27)) = w6 at *
        refine (kind_any kind hk0 hk1 w6).mono ?_
        rintro e w7 ⟨rfl, rfl⟩
        generalize rkind kind = rk
        by_cases hrk : rk < 0
        · have q6 : decide (rk < 0) = true := by simp [hrk]
          go_wp2_with fail
          go_ret
          exact .of rfl hW6
        · have q6 : decide (rk < 0) = false := by simp; omega
          go_wp2_with fail
          go_ret
          exact .of rfl hW6
      · obtain ⟨T, q1, q2, q3, q4, q5, hhd⟩ : ∃ (T : ByteArray) (k n r : Int) (c b : Bool), headV zs1 s = tup T k n r c b true 0 := ⟨_, _, _, _, _, _, by rw [headV, hwh]; rfl⟩
        rw [if_neg h6, hhd, tup]
        clear hwh hhd
        obtain ⟨k, hk⟩ : ∃ k : Nat, at_ % (s : Int) = k := ⟨(at_ % (s : Int)).toNat, by have := Int.emod_nonneg at_ (show (s : Int) ≠ 0 by omega); omega⟩
        have hks : k < s := by have := Int.emod_lt_of_pos at_ (show (0 : Int) < (s : Int) by omega); omega
        have hks' : (k : Int) < (s : Int) := by omega
        have hs0 : ((s : Int) == 0) = false := by simp; omega
        by_cases hin : 308 ≤ k ∧ k ≤ 335
        · have q6 : decide ((308 : Int) ≤ (k : Int)) = true := by simp; omega
          have q7 : decide ((k : Int) ≤ 335) = true := by simp; omega
          go_wp2_with fail
          go_ret
          exact .of rfl (Below.alloc hW5 hW5.size _)
        · have hor : k < 308 ∨ 335 < k := by omega
          have HOR := hid_ hor
          have HK := hid_ hks
          have ck := hM5.cell k (by omega)
          have fk := hM5.frozen k
          have hv := hM5.bd k
          obtain ⟨y, hy⟩ : ∃ y, zs1.getD k 0 = y := ⟨_, rfl⟩
          rw [hy] at ck hv
          have HV := hid_ hv
          have HY := hid_ hy
          have hg5 := hM5.lt
          have hn5 : ¬ w1.heap.size = w5.heap.size := by omega
          have HM5 := hid_ hM5
          have HW5 := hid_ hW5
          clear hy hv hM5 hW5
          rcases hor with hor | hor
          · have q6 : decide ((308 : Int) ≤ (k : Int)) = false := by simp; omega
            clear hin hor
            go_wp2_with fail
            have hs5 : (w5.setCell ⟨w1.heap.size, k, none⟩ (.int .u8 ((y + by_) % 256))).heap.size = w5.heap.size := by simp
            have hB6 : Blk ((w5.setCell ⟨w1.heap.size, k, none⟩ (.int .u8 ((y + by_) % 256))).alloc (.cells #[.string T, .int .i64 q1, .bool q4, .bool q5, .int .i64 q2, .int .i64 q3, .bool true] 27)) w5.heap.size 27 #[.string T, .int .i64 q1, .bool q4, .bool q5, .int .i64 q2, .int .i64 q3, .bool true] := by
              have := Blk.new (w5.setCell ⟨w1.heap.size, k, none⟩ (.int .u8 ((y + by_) % 256))) 27 #[.string T, .int .i64 q1, .bool q4, .bool q5, .int .i64 q2, .int .i64 q3, .bool true]
              rw [hs5] at this
              exact this
            have hM6 : Mem ((w5.setCell ⟨w1.heap.size, k, none⟩ (.int .u8 ((y + by_) % 256))).alloc (.cells #[.string T, .int .i64 q1, .bool q4, .bool q5, .int .i64 q2, .int .i64 q3, .bool true] 27)) w1.heap.size (zs1.set k ((y + by_) % 256)) := (HM5.out.set_ k ((y + by_) % 256) (by omega) (by omega)).alloc _
            have hW6' : Below w.heap.size w (w5.setCell ⟨w1.heap.size, k, none⟩ (.int .u8 ((y + by_) % 256))) := Below.setCell HW5.out (by simpa using hz1) _
            have hW6 : Below w.heap.size w ((w5.setCell ⟨w1.heap.size, k, none⟩ (.int .u8 ((y + by_) % 256))).alloc (.cells #[.string T, .int .i64 q1, .bool q4, .bool q5, .int .i64 q2, .int .i64 q3, .bool true] 27)) := Below.alloc hW6' hW6'.size _
            generalize ((w5.setCell ⟨w1.heap.size, k, none⟩ (.int .u8 ((y + by_) % 256))).alloc (.cells #[.string T, .int .i64 q1, .bool q4, .bool q5, .int .i64 q2, .int .i64 q3, .bool true] 27)) = w6 at *
            clear HM5 HW5 hW6' hs5 ck fk
            obtain ⟨g33, g27, g28, g29, g34, g35, hsum4, hs⟩ := HALL.out
            have hG : ∀ i, 308 ≤ i → i ≤ 335 → (zs1.set k ((y + by_) % 256)).getD i 0 = zs1.getD i 0 := fun i h1 h2 => by rw [getD_set zs1 k i _ (by omega), if_neg (by have := HOR.out; omega)]
            have f33 : (zs1.set k ((y + by_) % 256)).getD 333 0 = chk (zs1.set k ((y + by_) % 256)) 25 := by rw [hG 333 (by omega) (by omega), g33]; exact (chk_congr 25 fun j hj => hG _ (by omega) (by omega)).symm
            have f28 : (zs1.set k ((y + by_) % 256)).getD 328 0 = b := by rw [hG 328 (by omega) (by omega), g28]
            have hsum6 : sumV (zs1.set k ((y + by_) % 256)) s = (S + (((y + by_) % 256) - y)) % 65536 := by rw [sumV_set zs1 s k _ hl4 (by omega) HK.out (by have := HOR.out; omega) (by have := HOR.out; omega), hsum4, HY.out]
            have hwh6 : ((zs1.set k ((y + by_) % 256)).getD 334 0 * 256 + (zs1.set k ((y + by_) % 256)).getD 335 0 == sumV (zs1.set k ((y + by_) % 256)) s) = false := by
              rw [hG 334 (by omega) (by omega), hG 335 (by omega) (by omega), g34, g35, hsum6]
              have hv1 := HV.out.1
              have hv2 := HV.out.2
              simp
              omega
            have hpv := parse_made (zs1.set k ((y + by_) % 256)) b (by omega) f33 f28
            rw [hs, hG 327 (by omega) (by omega), g27, if_neg hok, hG 329 (by omega) (by omega), g29, if_neg (by omega)] at hpv
            have hl6 : (zs1.set k ((y + by_) % 256)).length = s := by simp [hl4]
            obtain ⟨T2, r1, r2, r3, r4, r5, hhd2⟩ : ∃ (T : ByteArray) (kk n r : Int) (c b : Bool), headV (zs1.set k ((y + by_) % 256)) s = tup T kk n r c b false 0 := ⟨_, _, _, _, _, _, by rw [headV, hwh6]; rfl⟩
            rw [hhd2, tup] at hpv
            have hrow6 := hM6.row
            rw [hl6] at hrow6
            clear hG f33 f28 hsum6 hwh6 hhd2 g33 g27 g28 g29 g34 g35 hsum4 hs hM6 hl6
            refine (parse_any _ s s (zs1.set k ((y + by_) % 256)) (by omega) (Nat.le_refl _) w6 hrow6).mono ?_
            rintro e w7 ⟨rfl, hc7, hf7, hz7, hbw7⟩
            rw [hpv]
            have hB7 := hB6.below hbw7 hB6.lt
            have hW7 := hW6.trans (Below.mono hbw7 hW6.size)
            have hg7 := hB7.lt
            have hn7 : ¬ w5.heap.size = w7.heap.size := by omega
            clear hpv hrow6 hB6 hW6 hbw7 hc7 hf7 hz7
            obtain ⟨⟨x0, x1, x2, x3, x4, x5, x6⟩, y0, y1, y2, y3, y4, y5, y6⟩ := hB7.seven
            have HB7 := hid_ hB7
            have HW7 := hid_ hW7
            clear hB7 hW7
            go_wp2_with fail
            go_ret
            exact .of rfl (Below.alloc HW7.out HW7.out.size _)
          · have q6 : decide ((308 : Int) ≤ (k : Int)) = true := by simp; omega
            have q7 : decide ((k : Int) ≤ 335) = false := by simp; omega
            clear hin hor
            go_wp2_with fail
            have hs5 : (w5.setCell ⟨w1.heap.size, k, none⟩ (.int .u8 ((y + by_) % 256))).heap.size = w5.heap.size := by simp
            have hB6 : Blk ((w5.setCell ⟨w1.heap.size, k, none⟩ (.int .u8 ((y + by_) % 256))).alloc (.cells #[.string T, .int .i64 q1, .bool q4, .bool q5, .int .i64 q2, .int .i64 q3, .bool true] 27)) w5.heap.size 27 #[.string T, .int .i64 q1, .bool q4, .bool q5, .int .i64 q2, .int .i64 q3, .bool true] := by
              have := Blk.new (w5.setCell ⟨w1.heap.size, k, none⟩ (.int .u8 ((y + by_) % 256))) 27 #[.string T, .int .i64 q1, .bool q4, .bool q5, .int .i64 q2, .int .i64 q3, .bool true]
              rw [hs5] at this
              exact this
            have hM6 : Mem ((w5.setCell ⟨w1.heap.size, k, none⟩ (.int .u8 ((y + by_) % 256))).alloc (.cells #[.string T, .int .i64 q1, .bool q4, .bool q5, .int .i64 q2, .int .i64 q3, .bool true] 27)) w1.heap.size (zs1.set k ((y + by_) % 256)) := (HM5.out.set_ k ((y + by_) % 256) (by omega) (by omega)).alloc _
            have hW6' : Below w.heap.size w (w5.setCell ⟨w1.heap.size, k, none⟩ (.int .u8 ((y + by_) % 256))) := Below.setCell HW5.out (by simpa using hz1) _
            have hW6 : Below w.heap.size w ((w5.setCell ⟨w1.heap.size, k, none⟩ (.int .u8 ((y + by_) % 256))).alloc (.cells #[.string T, .int .i64 q1, .bool q4, .bool q5, .int .i64 q2, .int .i64 q3, .bool true] 27)) := Below.alloc hW6' hW6'.size _
            generalize ((w5.setCell ⟨w1.heap.size, k, none⟩ (.int .u8 ((y + by_) % 256))).alloc (.cells #[.string T, .int .i64 q1, .bool q4, .bool q5, .int .i64 q2, .int .i64 q3, .bool true] 27)) = w6 at *
            clear HM5 HW5 hW6' hs5 ck fk
            obtain ⟨g33, g27, g28, g29, g34, g35, hsum4, hs⟩ := HALL.out
            have hG : ∀ i, 308 ≤ i → i ≤ 335 → (zs1.set k ((y + by_) % 256)).getD i 0 = zs1.getD i 0 := fun i h1 h2 => by rw [getD_set zs1 k i _ (by omega), if_neg (by have := HOR.out; omega)]
            have f33 : (zs1.set k ((y + by_) % 256)).getD 333 0 = chk (zs1.set k ((y + by_) % 256)) 25 := by rw [hG 333 (by omega) (by omega), g33]; exact (chk_congr 25 fun j hj => hG _ (by omega) (by omega)).symm
            have f28 : (zs1.set k ((y + by_) % 256)).getD 328 0 = b := by rw [hG 328 (by omega) (by omega), g28]
            have hsum6 : sumV (zs1.set k ((y + by_) % 256)) s = (S + (((y + by_) % 256) - y)) % 65536 := by rw [sumV_set zs1 s k _ hl4 (by omega) HK.out (by have := HOR.out; omega) (by have := HOR.out; omega), hsum4, HY.out]
            have hwh6 : ((zs1.set k ((y + by_) % 256)).getD 334 0 * 256 + (zs1.set k ((y + by_) % 256)).getD 335 0 == sumV (zs1.set k ((y + by_) % 256)) s) = false := by
              rw [hG 334 (by omega) (by omega), hG 335 (by omega) (by omega), g34, g35, hsum6]
              have hv1 := HV.out.1
              have hv2 := HV.out.2
              simp
              omega
            have hpv := parse_made (zs1.set k ((y + by_) % 256)) b (by omega) f33 f28
            rw [hs, hG 327 (by omega) (by omega), g27, if_neg hok, hG 329 (by omega) (by omega), g29, if_neg (by omega)] at hpv
            have hl6 : (zs1.set k ((y + by_) % 256)).length = s := by simp [hl4]
            obtain ⟨T2, r1, r2, r3, r4, r5, hhd2⟩ : ∃ (T : ByteArray) (kk n r : Int) (c b : Bool), headV (zs1.set k ((y + by_) % 256)) s = tup T kk n r c b false 0 := ⟨_, _, _, _, _, _, by rw [headV, hwh6]; rfl⟩
            rw [hhd2, tup] at hpv
            have hrow6 := hM6.row
            rw [hl6] at hrow6
            clear hG f33 f28 hsum6 hwh6 hhd2 g33 g27 g28 g29 g34 g35 hsum4 hs hM6 hl6
            refine (parse_any _ s s (zs1.set k ((y + by_) % 256)) (by omega) (Nat.le_refl _) w6 hrow6).mono ?_
            rintro e w7 ⟨rfl, hc7, hf7, hz7, hbw7⟩
            rw [hpv]
            have hB7 := hB6.below hbw7 hB6.lt
            have hW7 := hW6.trans (Below.mono hbw7 hW6.size)
            have hg7 := hB7.lt
            have hn7 : ¬ w5.heap.size = w7.heap.size := by omega
            clear hpv hrow6 hB6 hW6 hbw7 hc7 hf7 hz7
            obtain ⟨⟨x0, x1, x2, x3, x4, x5, x6⟩, y0, y1, y2, y3, y4, y5, y6⟩ := hB7.seven
            have HB7 := hid_ hB7
            have HW7 := hid_ hW7
            clear hB7 hW7
            go_wp2_with fail
            go_ret
            exact .of rfl (Below.alloc HW7.out HW7.out.size _)

namespace headerWhole
theorem walk (w : World) (kind banks ram : Int) (pa : Option Addr) (plen pcap : Nat) (pz : List Int) (a y : Int) (hk0 : 0 ≤ kind) (hk1 : kind ≤ 255) (hb0 : 0 ≤ banks) (hb1 : banks ≤ 255) (hr0 : 0 ≤ ram) (hr1 : ram ≤ 255)
    (hp : IsRow .u8 w pa plen pz) (ha0 : 0 ≤ a) (ha1 : a ≤ 65535) (hy0 : 0 ≤ y) (hy1 : y ≤ 255) :
    Calls Try.prog 7 #[.int .u8 kind, .int .u8 banks, .int .u8 ram, .slice pa plen pcap, .int .u16 a, .int .u8 y] w (Ret (.bool true) w) :=
  whole_any kind banks ram pa plen pcap pz a y hk0 hk1 hb0 hb1 hr0 hr1 ha0 ha1 hy0 hy1 w hp
end headerWhole
end Go.Proofs.Ytafkgmlamggbdaa
