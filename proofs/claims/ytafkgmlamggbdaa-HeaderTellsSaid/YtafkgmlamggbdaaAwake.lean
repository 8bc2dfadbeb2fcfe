/- What a program that does nothing answers wrongly, of layer 5. -/
import Derived.Test.YtafkgmlamggbdaaParse
namespace Go.Proofs.Ytafkgmlamggbdaa
open Go.RowKit
set_option linter.unusedSimpArgs false
set_option linter.unusedVariables false

theorem row_nil (w : World) (a : Option Addr) : IsRow .u8 w a 0 [] := ⟨rfl, by simp, fun h => by omega⟩
theorem parse_made (zs : List Int) (b : Nat) (hb : b ≤ 8) (h33 : zs.getD 333 0 = chk zs 25) (h28 : zs.getD 328 0 = b) :
    parseV zs (sizeOfB b) = if okI (zs.getD 327 0) = false then noHead 5 else if 6 ≤ zs.getD 329 0 then noHead 7 else headV zs (sizeOfB b) := by
  have := sizeOfB_bd b hb
  unfold parseV
  rw [if_neg (by omega), if_neg (fun h => h h33), h28]
  by_cases h : okI (zs.getD 327 0) = false
  · rw [if_pos h, if_pos h]
  · rw [if_neg h, if_neg h]
    by_cases h6 : 6 ≤ zs.getD 329 0
    · rw [if_pos (.inr h6), if_pos h6]
    · rw [if_neg (by omega), if_neg (by simp), if_neg h6]
theorem chk_zero (zs : List Int) : ∀ k, (∀ j, j < k → zs.getD (308 + j) 0 = 0) → chk zs k = (-(k : Int)) % 256
  | 0, _ => rfl
  | k + 1, h => by
    simp only [chk]
    rw [chk_zero zs k (fun j hj => h j (by omega)), h k (by omega)]
    push_cast
    omega

theorem make_bytes (kl kc : IntKind) (n : Nat) (hn : n ≤ 9000000) (w : World) :
    (Instr.makeSlice 24 (.int kl (n : Int)) (.int kc (n : Int))).run Try.prog w = .ok (.slice (some ⟨w.heap.size, 0, none⟩) n n) (w.alloc (.cells (madeCells #[.int .u8 0] n) 5)) := by
  obtain ⟨i0, hi0, hz0, hz1, hz2⟩ := info_parts byte_info
  have h := run_make (P := Try.prog) (w := w) 24 5 i0 (.int .u8 0) Try.underlying24 hi0 hz0 kl kc (n : Int) (n : Int) (by omega) (by omega) (by rw [hz2]; omega) (by omega)
  rw [hz1, Nat.mul_one] at h
  simp only [Int.toNat_natCast] at h
  exact h

set_option maxRecDepth 100000 in
set_option maxHeartbeats 2000000 in
theorem awake_any (w : World) : Calls Try.prog 9 #[] w (Ret (.bool true) w) := by
  have hmk : ∀ w : World, (Instr.makeSlice 24 (.int .i64 336) (.int .i64 336)).run Try.prog w = .ok (.slice (some ⟨w.heap.size, 0, none⟩) 336 336) (w.alloc (.cells (madeCells #[.int .u8 0] 336) 5)) := make_bytes .i64 .i64 336 (by omega)
  go_enter Try.func9, Try.ntmps9
  go_wp2_with fail
  refine (made_any 0 0 0 0 none 0 0 [] (by decide) (by omega) (by omega) (by omega) (by omega) (by omega) (by omega) (by omega) w (row_nil _ _)).mono ?_
  rintro e w1 ⟨rfl, hb1, zs, hM1, hl1, hF1, h33⟩
  have hM := hid_ hM1
  have hrow := hM1.row
  rw [hl1] at hrow
  have hpv : parseV zs (sizeOfB 0) = .tuple #[.agg #[.string ⟨(titleL ((zs.drop 308).take 15)).toArray⟩, .int .i64 0, .bool false, .bool false, .int .i64 2, .int .i64 0, .bool (zs.getD 334 0 * 256 + zs.getD 335 0 == sumV zs (sizeOfB 0))], .int .i64 0] := by
    have e27 := hF1 327 (by decide) (by omega)
    have e28 := hF1 328 (by decide) (by omega)
    have e29 := hF1 329 (by decide) (by omega)
    rw [parse_made zs 0 (by omega) h33 e28, headV, e27, e28, e29]
    rfl
  generalize (⟨(titleL ((zs.drop 308).take 15)).toArray⟩ : ByteArray) = T at hpv
  generalize (zs.getD 334 0 * 256 + zs.getD 335 0 == sumV zs (sizeOfB 0)) = wh at hpv
  clear hF1 h33 hl1 hM1
  go_wp2_with fail
  refine (parse_any _ (sizeOfB 0) (sizeOfB 0) zs (by decide) (Nat.le_refl _) w1 hrow).mono ?_
  rintro e w2 ⟨rfl, hc2, hf2, hz2, hb2⟩
  clear hc2 hf2
  rw [hpv]
  clear hpv hrow hM
  go_wp2_with fail
  have hm3 := Mem.new (w2.alloc (.cells #[.string T, .int .i64 0, .bool false, .bool false, .int .i64 2, .int .i64 0, .bool wh] 27)) 336
  have hb3 : Below w.heap.size w ((w2.alloc (.cells #[.string T, .int .i64 0, .bool false, .bool false, .int .i64 2, .int .i64 0, .bool wh] 27)).alloc (.cells (madeCells #[.int .u8 0] 336) 5)) := Below.alloc (Below.alloc (hb1.trans (Below.mono hb2 hb1.size)) (by have := hb1.size; omega) _) (by have := hb1.size; simp; omega) _
  have hs : (w2.alloc (.cells #[.string T, .int .i64 0, .bool false, .bool false, .int .i64 2, .int .i64 0, .bool wh] 27)).heap.size = w2.heap.size + 1 := by simp
  rw [hs] at hm3
  generalize ((w2.alloc (.cells #[.string T, .int .i64 0, .bool false, .bool false, .int .i64 2, .int .i64 0, .bool wh] 27)).alloc (.cells (madeCells #[.int .u8 0] 336) 5)) = w4 at *
  have hrow := hm3.row
  rw [List.length_replicate] at hrow
  clear hm3 hb1 hb2 hs hmk
  refine (check_any _ 336 336 _ (Nat.le_refl _) (by omega) w4 hrow).mono ?_
  rintro e w5 ⟨rfl, rfl⟩
  have hv : checkV (List.replicate 336 0) 336 = 231 := by decide +kernel
  rw [hv]
  clear hv hrow
  go_wp2_with fail
  go_ret
  exact .of rfl hb3
end Go.Proofs.Ytafkgmlamggbdaa
