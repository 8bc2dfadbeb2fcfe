/- A header with a byte that is another one, of layer 5. -/
import Derived.Test.YtafkgmlamggbdaaShort
namespace Go.Proofs.Ytafkgmlamggbdaa
open Go.RowKit
set_option linter.unusedSimpArgs false
set_option linter.unusedVariables false

/-- The error's number. -/
def errV (zs : List Int) (len : Nat) : Int :=
  if len < 336 then 2 else if zs.getD 333 0 ≠ chk zs 25 then 4 else if okI (zs.getD 327 0) = false then 5
  else if 8 < zs.getD 328 0 ∨ 6 ≤ zs.getD 329 0 then 7 else if len ≠ sizeOfB (zs.getD 328 0).toNat then 6 else 0
theorem parse_parts (zs : List Int) (len : Nat) : ∃ (T : ByteArray) (k n r : Int) (c b wh : Bool),
    parseV zs len = .tuple #[.agg #[.string T, .int .i64 k, .bool c, .bool b, .int .i64 n, .int .i64 r, .bool wh], .int .i64 (errV zs len)] := by
  unfold parseV errV
  by_cases h1 : len < 336
  · rw [if_pos h1, if_pos h1]; exact ⟨_, _, _, _, _, _, _, rfl⟩
  · rw [if_neg h1, if_neg h1]
    by_cases h2 : zs.getD 333 0 ≠ chk zs 25
    · rw [if_pos h2, if_pos h2]; exact ⟨_, _, _, _, _, _, _, rfl⟩
    · rw [if_neg h2, if_neg h2]
      by_cases h3 : okI (zs.getD 327 0) = false
      · rw [if_pos h3, if_pos h3]; exact ⟨_, _, _, _, _, _, _, rfl⟩
      · rw [if_neg h3, if_neg h3]
        by_cases h4 : 8 < zs.getD 328 0 ∨ 6 ≤ zs.getD 329 0
        · rw [if_pos h4, if_pos h4]; exact ⟨_, _, _, _, _, _, _, rfl⟩
        · rw [if_neg h4, if_neg h4]
          by_cases h5 : len ≠ sizeOfB (zs.getD 328 0).toNat
          · rw [if_pos h5, if_pos h5]; exact ⟨_, _, _, _, _, _, _, rfl⟩
          · rw [if_neg h5, if_neg h5]; exact ⟨_, _, _, _, _, _, _, rfl⟩
theorem chk_set (zs : List Int) (k : Nat) (v : Int) (hk : 308 + k < zs.length) : ∀ n, chk (zs.set (308 + k) v) n = (chk zs n - (if k < n then v - zs.getD (308 + k) 0 else 0)) % 256
  | 0 => by simp [chk]
  | n + 1 => by
    have b := chk_bd zs n
    simp only [chk]
    rw [chk_set zs k v hk n, getD_set zs (308 + k) (308 + n) v hk]
    by_cases h : k < n
    · rw [if_pos h, if_neg (by omega), if_pos (by omega)]; omega
    · rw [if_neg h]
      by_cases e : n = k
      · subst e; rw [if_pos rfl, if_pos (by omega)]; omega
      · rw [if_neg (by omega), if_neg (by omega)]; omega

set_option maxRecDepth 100000 in
set_option maxHeartbeats 2000000 in
theorem sums_any (kind banks ram : Int) (at_ : Nat) (by_ : Int) (hk0 : 0 ≤ kind) (hk1 : kind ≤ 255) (hb0 : 0 ≤ banks) (hb1 : banks ≤ 255) (hr0 : 0 ≤ ram) (hr1 : ram ≤ 255) (ha : at_ ≤ 255) (hy0 : 0 ≤ by_) (hy1 : by_ ≤ 255) (w : World) :
    Calls Try.prog 5 #[.int .u8 kind, .int .u8 banks, .int .u8 ram, .int .u8 (at_ : Int), .int .u8 by_] w (Ret (.bool true) w) := by
  go_enter Try.func5, Try.ntmps5
  go_wp2_with fail
  refine (awake_any w).mono ?_
  rintro e w1 ⟨rfl, hc1, hf1, hz1, hbw1⟩
  clear hc1 hf1
  by_cases hby : by_ = 0
  · subst hby
    go_wp2_with fail
    refine (awake_any w1).mono ?_
    rintro e w2 ⟨rfl, hc2, hf2, hz2, hbw2⟩
    go_wp2_with fail
    go_ret
    exact .of rfl (hbw1.trans (Below.mono hbw2 hz1))
  · have hby' : (by_ == 0) = false := by simp [hby]
    go_wp2_with fail
    obtain ⟨b, hb, hb2⟩ : ∃ b : Nat, banks % 3 = b ∧ b ≤ 2 := ⟨(banks % 3).toNat, by omega, by omega⟩
    rw [hb]
    refine (made_any kind b ram b none 0 0 [] (by omega) (by omega) (by omega) hk0 hk1 hr0 hr1 (by omega) w1 (row_nil _ _)).mono ?_
    rintro e w2 ⟨rfl, hbw2, zs, hM, hl, hF, h33⟩
    obtain ⟨s0, s1⟩ := sizeOfB_bd b (by omega)
    have HF := hid_ hF
    have H33 := hid_ h33
    clear hF h33
    generalize sizeOfB b = s at *
    obtain ⟨k, hk, hk25⟩ : ∃ k : Nat, at_ % 25 = k ∧ k < 25 := ⟨at_ % 25, rfl, by omega⟩
    have hat : ((at_ : Int)) % 25 = k := by omega
    have cq := hM.cell (308 + k) (by omega)
    have fq := hM.frozen (308 + k)
    have HM := hid_ hM
    have hv := hM.bd (308 + k)
    obtain ⟨z, hz⟩ : ∃ z, zs.getD (308 + k) 0 = z := ⟨_, rfl⟩
    rw [hz] at cq hv
    obtain ⟨hv0, hv1⟩ := hv
    have HZ := hid_ hz
    clear hM hz
    go_wp2_with fail
    have hM1 := HM.out.set_ (308 + k) ((z + by_) % 256) (by omega) (by omega)
    have hW1 : Below w.heap.size w (w2.setCell ⟨w1.heap.size, 308 + k, none⟩ (.int .u8 ((z + by_) % 256))) := Below.setCell (hbw1.trans (Below.mono hbw2 hz1)) (by simpa using hz1) _
    generalize w2.setCell ⟨w1.heap.size, 308 + k, none⟩ (.int .u8 ((z + by_) % 256)) = w3 at *
    have hl1 : (zs.set (308 + k) ((z + by_) % 256)).length = s := by simp [hl]
    have hck : chk (zs.set (308 + k) ((z + by_) % 256)) 25 = (chk zs 25 - ((z + by_) % 256 - z)) % 256 := by
      rw [chk_set zs k _ (by omega) 25, if_pos hk25, HZ.out]
    have he1 : errV (zs.set (308 + k) ((z + by_) % 256)) s = 4 := by
      unfold errV
      rw [if_neg (by omega), if_pos]
      rw [getD_set zs _ _ _ (by omega), if_neg (by omega), H33.out, hck]
      have := chk_bd zs 25
      omega
    clear hck cq fq HZ HF H33 HM hbw1 hbw2
    generalize (zs.set (308 + k) ((z + by_) % 256)) = zs1 at *
    have hrow := hM1.row
    rw [hl1] at hrow
    refine (parse_any _ s s zs1 (by omega) (Nat.le_refl _) w3 hrow).mono ?_
    rintro e w4 ⟨rfl, hc4, hf4, hz4, hbw4⟩
    clear hc4 hf4
    obtain ⟨T, q1, q2, q3, q4, q5, q6, hpv⟩ := parse_parts zs1 s
    rw [hpv, he1]
    clear hpv he1
    go_wp2_with fail
    replace hbw4 : Below w3.heap.size w3 (w4.alloc (.cells #[.string T, .int .i64 q1, .bool q4, .bool q5, .int .i64 q2, .int .i64 q3, .bool q6] 27)) := Below.alloc hbw4 hz4 _
    clear hz4
    generalize (w4.alloc (.cells #[.string T, .int .i64 q1, .bool q4, .bool q5, .int .i64 q2, .int .i64 q3, .bool q6] 27)) = w4 at *
    have hM4 := hM1.below hbw4 hM1.lt
    have hrow4 := hM4.row
    rw [hl1] at hrow4
    refine (check_any _ s s zs1 (Nat.le_refl _) (by omega) w4 hrow4).mono ?_
    rintro e w5 ⟨rfl, rfl⟩
    rw [checkV, if_neg (by omega)]
    obtain ⟨c0, c1⟩ := chk_bd zs1 25
    have ck := hM4.cell 333 (by omega)
    have fk := hM4.frozen 333
    have s33 : (333 : Int) < (s : Int) := by omega
    have HM4 := hid_ hM4
    clear hM4 hrow4 hrow hM1
    go_wp2_with fail
    have hM5 := HM4.out.set_ 333 (chk zs1 25) c0 c1
    have hW5 : Below w.heap.size w (w4.setCell ⟨w1.heap.size, 333, none⟩ (.int .u8 (chk zs1 25))) := Below.setCell (hW1.trans (Below.mono hbw4 hW1.size)) (by simpa using hz1) _
    generalize w4.setCell ⟨w1.heap.size, 333, none⟩ (.int .u8 (chk zs1 25)) = w6 at *
    have hl2 : (zs1.set 333 (chk zs1 25)).length = s := by simp [hl1]
    have he2 : (zs1.set 333 (chk zs1 25)).getD 333 0 = chk (zs1.set 333 (chk zs1 25)) 25 := by
      rw [getD_set zs1 333 333 _ (by omega), if_pos rfl]
      exact chk_congr 25 fun j hj => by rw [getD_set zs1 333 _ _ (by omega), if_neg (by omega)]
    have hrow6 := hM5.row
    rw [hl2] at hrow6
    clear hM5 ck fk HM4
    generalize (zs1.set 333 (chk zs1 25)) = zs2 at *
    have he3 : ∃ e : Int, errV zs2 s = e ∧ (e = 5 ∨ e = 7 ∨ e = 6 ∨ e = 0) := by
      unfold errV
      rw [if_neg (by omega), if_neg (fun h => h he2)]
      refine ⟨_, rfl, ?_⟩
      split
      · omega
      · split
        · omega
        · split <;> omega
    obtain ⟨e3, he3, hc3⟩ := he3
    have HC3 := hid_ hc3
    have n4 : (e3 == 4) = false := by have := hc3; simp; omega
    have n2 : (e3 == 2) = false := by have := hc3; simp; omega
    have m4 : (e3 != 4) = true := by simp [bne, n4]
    have m2 : (e3 != 2) = true := by simp [bne, n2]
    clear hc3 he2
    refine (parse_any _ s s zs2 (by omega) (Nat.le_refl _) w6 hrow6).mono ?_
    rintro e w7 ⟨rfl, hc7, hf7, hz7, hbw7⟩
    clear hc7 hf7
    obtain ⟨T', r1, r2, r3, r4, r5, r6, hpv⟩ := parse_parts zs2 s
    rw [hpv, he3]
    clear hpv he3
    go_wp2_with fail
    go_ret
    replace hW5 := Below.trans hW5 (Below.mono hbw7 hW5.size)
    exact .of rfl (Below.alloc hW5 hW5.size _)

namespace headerSums
theorem walk (kind banks ram a y : Int) (hk0 : 0 ≤ kind) (hk1 : kind ≤ 255) (hb0 : 0 ≤ banks) (hb1 : banks ≤ 255) (hr0 : 0 ≤ ram) (hr1 : ram ≤ 255) (ha0 : 0 ≤ a) (ha1 : a ≤ 255) (hy0 : 0 ≤ y) (hy1 : y ≤ 255) (w : World) :
    Calls Try.prog 5 #[.int .u8 kind, .int .u8 banks, .int .u8 ram, .int .u8 a, .int .u8 y] w (Ret (.bool true) w) := by
  obtain ⟨k, rfl⟩ := Int.eq_ofNat_of_zero_le ha0
  exact sums_any kind banks ram k y hk0 hk1 hb0 hb1 hr0 hr1 (by omega) hy0 hy1 w
end headerSums
end Go.Proofs.Ytafkgmlamggbdaa
