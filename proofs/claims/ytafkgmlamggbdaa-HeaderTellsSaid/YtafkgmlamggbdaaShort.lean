/- Zero bytes, of layer 5. -/
import Derived.Test.YtafkgmlamggbdaaAwake
namespace Go.Proofs.Ytafkgmlamggbdaa
open Go.RowKit
set_option linter.unusedSimpArgs false
set_option linter.unusedVariables false

set_option maxRecDepth 100000 in
set_option maxHeartbeats 2000000 in
theorem short_any (n : Nat) (hn : n ≤ 65535) (w : World) : Calls Try.prog 8 #[.int .u16 (n : Int)] w (Ret (.bool true) w) := by
  have hmk := make_bytes .u16 .u16 n (by omega)
  go_enter Try.func8, Try.ntmps8
  go_wp2_with fail
  refine (awake_any w).mono ?_
  rintro e w1 ⟨rfl, hc1, hf1, hz1, hb1⟩
  clear hc1 hf1
  have hW2 : Below w.heap.size w (w1.alloc (.cells (madeCells #[.int .u8 0] n) 5)) := Below.alloc hb1 hz1 _
  by_cases hlt : n < 336
  · have q : decide ((n : Int) < 336) = true := by simp; omega
    go_wp2_with fail
    have hm := Mem.new w1 n
    generalize (w1.alloc (.cells (madeCells #[.int .u8 0] n) 5)) = w2 at *
    have hrow := hm.row
    rw [List.length_replicate] at hrow
    clear hm hmk
    refine (parse_any _ n n _ (by omega) (Nat.le_refl _) w2 hrow).mono ?_
    rintro e w3 ⟨rfl, hc3, hf3, hz3, hb3⟩
    clear hc3 hf3
    rw [parseV, if_pos hlt, noHead]
    have hb3' : Below w2.heap.size w2 (w3.alloc (.cells #[.string ⟨#[]⟩, .int .i64 0, .bool false, .bool false, .int .i64 0, .int .i64 0, .bool false] 27)) := Below.alloc hb3 hz3 _
    have hrow3 := hrow.below hb3'
    have hW3 := hW2.trans (Below.mono hb3' hW2.size)
    clear hrow hb3 hz3 hb3'
    go_wp2_with fail
    generalize (w3.alloc (.cells #[.string ⟨#[]⟩, .int .i64 0, .bool false, .bool false, .int .i64 0, .int .i64 0, .bool false] 27)) = w5 at *
    refine (check_any _ n n _ (Nat.le_refl _) (by omega) w5 hrow3).mono ?_
    rintro e w4 ⟨rfl, rfl⟩
    rw [checkV, if_pos hlt]
    go_wp2_with fail
    refine (sum_any _ n n _ (by omega) w5 hrow3).mono ?_
    rintro e w4 ⟨rfl, m4, rfl⟩
    rw [sumV, if_pos hlt]
    go_wp2_with fail
    go_ret
    exact .of rfl (below_drewN hW3 m4)
  · have q : decide ((n : Int) < 336) = false := by simp; omega
    go_wp2_with fail
    have hm := Mem.new w1 n
    generalize (w1.alloc (.cells (madeCells #[.int .u8 0] n) 5)) = w2 at *
    have hrow := hm.row
    rw [List.length_replicate] at hrow
    have hl : (List.replicate n (0 : Int)).length = n := by simp
    have hg : ∀ i, (List.replicate n (0 : Int)).getD i 0 = 0 := fun i => by
      rw [List.getD_eq_getElem?_getD, List.getElem?_replicate]; split <;> rfl
    have hck : checkV (List.replicate n 0) n = 231 := by
      rw [checkV, if_neg hlt, chk_zero _ 25 (fun j _ => hg _)]; rfl
    generalize List.replicate n (0 : Int) = zs at *
    clear hmk
    refine (check_any _ n n _ (Nat.le_refl _) (by omega) w2 hrow).mono ?_
    rintro e w4 ⟨rfl, rfl⟩
    rw [hck]
    have ck := hm.cell 333 (by omega)
    have fk := hm.frozen 333
    have HM := hid_ hm
    have HG := hid_ hg
    have s33 : (333 : Int) < (n : Int) := by omega
    clear hck hg hrow hm
    go_wp2_with fail
    have hm3 := HM.out.set_ 333 231 (by omega) (by omega)
    have hW3 : Below w.heap.size w (w2.setCell ⟨w1.heap.size, 333, none⟩ (.int .u8 231)) := Below.setCell hW2 (by simpa using hz1) _
    generalize w2.setCell ⟨w1.heap.size, 333, none⟩ (.int .u8 231) = w3 at *
    clear ck fk HM hW2
    have hrow3 := hm3.row
    rw [List.length_set, hl] at hrow3
    have hG : ∀ i, (zs.set 333 231).getD i 0 = if i = 333 then 231 else 0 := fun i => by rw [getD_set zs 333 i 231 (by omega), HG.out]
    have hpv : parseV (zs.set 333 231) n = if n = 32768 then headV (zs.set 333 231) n else noHead 6 := by
      have hc : chk (zs.set 333 231) 25 = 231 := by rw [chk_zero _ 25 (fun j hj => by rw [hG, if_neg (by omega)])]; rfl
      have e33 : (zs.set 333 231).getD 333 0 = 231 := by rw [hG]; rfl
      have e27 : (zs.set 333 231).getD 327 0 = 0 := by rw [hG]; rfl
      have e28 : (zs.set 333 231).getD 328 0 = 0 := by rw [hG]; rfl
      have e29 : (zs.set 333 231).getD 329 0 = 0 := by rw [hG]; rfl
      unfold parseV
      rw [if_neg hlt, e33, hc, e27, e28, e29, if_neg (by simp), if_neg (by decide), if_neg (by decide)]
      by_cases h : n = 32768
      · rw [if_pos h, if_neg (by rw [h]; decide)]
      · rw [if_neg h, if_pos (by intro h2; apply h; rw [h2]; decide)]
    refine (parse_any _ n n _ (by omega) (Nat.le_refl _) w3 hrow3).mono ?_
    rintro e w4 ⟨rfl, hc4, hf4, hz4, hb4⟩
    rw [hpv]
    have hW4 := hW3.trans (Below.mono hb4 hW3.size)
    clear hc4 hf4 hb4 hrow3 hm3 hpv
    by_cases h3 : n = 32768
    · rw [if_pos h3, headV]
      subst h3
      have hs4 : w.heap.size ≤ w4.heap.size := hW4.size
      have e28 : (zs.set 333 231).getD 328 0 = 0 := by rw [hG]; rfl
      rw [e28]
      generalize (⟨(titleL (((zs.set 333 231).drop 308).take 15)).toArray⟩ : ByteArray) = T
      generalize kindI ((zs.set 333 231).getD 327 0) = v1
      generalize clockI ((zs.set 333 231).getD 327 0) = v2
      generalize battI ((zs.set 333 231).getD 327 0) = v3
      generalize ((zs.set 333 231).getD 334 0 * 256 + (zs.set 333 231).getD 335 0 == sumV (zs.set 333 231) 32768) = v4
      generalize (if v1 = 2 then 512 else ramI ((zs.set 333 231).getD 329 0)) = v5
      clear hG HG
      go_wp2_with fail
      go_ret
      exact .of rfl (Below.alloc hW4 hW4.size _)
    · rw [if_neg h3, noHead]
      have q3 : ((n : Int) == 32768) = false := by simp; omega
      go_wp2_with fail
      go_ret
      exact .of rfl (Below.alloc hW4 hW4.size _)

namespace headerShort
theorem walk (n : Int) (h0 : 0 ≤ n) (h1 : n ≤ 65535) (w : World) : Calls Try.prog 8 #[.int .u16 n] w (Ret (.bool true) w) := by
  obtain ⟨k, rfl⟩ := Int.eq_ofNat_of_zero_le h0
  exact short_any k (by omega) w
end headerShort
end Go.Proofs.Ytafkgmlamggbdaa
