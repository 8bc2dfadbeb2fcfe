/- Contract of a board's slide. -/
import Derived.Test.YtacbdapgdgliiaaLeaf
import Derived.BigRegion
namespace Go.Proofs.Ytacbdapgdgliiaa
open Go.RowKit
set_option linter.unusedSimpArgs false
set_option linter.unusedVariables false

def slid (b : Bd) : Bd := { { b with pitch := nextB b } with regs := (b.regs.set 3 (nextB b % 256)).set 4 (b.reg 4 / 8 * 8 + nextB b / 256 % 8) }
def slideB (b : Bd) : Bd :=
  if b.slides = false then b
  else if 0 < b.slide - 1 then { b with slide := b.slide - 1 }
  else if everyB b = 0 then waitB { b with slide := b.slide - 1 }
  else if highB (waitB { b with slide := b.slide - 1 }) = true ∨ byB b = 0 then checkB (waitB { b with slide := b.slide - 1 })
  else checkB (slid (waitB { b with slide := b.slide - 1 }))
theorem low_eq {b : Bd} (h : highB b = false) : checkB b = b := by rw [checkB, h]; rfl
theorem andNot7 (a : Int) (h : 0 ≤ a) (h' : a ≤ 255) : bits .andNot .u8 a 7 = a / 8 * 8 :=
  upto (P := fun a => bits .andNot .u8 a 7 = a / 8 * 8) (by decide +kernel) a h h'
theorem slid_byte (a p : Int) (h : 0 ≤ a) (h' : a ≤ 255) (hp : 0 ≤ p) (hp' : p ≤ 2047) : bits .or .u8 (a / 8 * 8) (p / 256) = a / 8 * 8 + p / 256 % 8 := by
  obtain ⟨k, hk, hk8⟩ : ∃ k : Nat, p / 256 = k ∧ k < 8 := ⟨(p / 256).toNat, by omega, by omega⟩
  rw [hk]
  have : ∀ k : Nat, k < 8 → ∀ n : Nat, n < 256 → bits .or .u8 ((n : Int) / 8 * 8) k = (n : Int) / 8 * 8 + (k : Int) % 8 := by decide +kernel
  obtain ⟨n, rfl⟩ := Int.eq_ofNat_of_zero_le h
  exact this k hk8 n (by omega)
theorem getD_set (l : List Int) (i j : Nat) (x : Int) : (l.set i x).getD j 0 = if i = j ∧ i < l.length then x else l.getD j 0 := by
  simp only [List.getD_eq_getElem?_getD, List.getElem?_set]
  by_cases h : i = j
  · subst h
    by_cases h2 : i < l.length
    · simp [h2]
    · simp [h2, List.getElem?_eq_none (by omega : l.length ≤ i)]
  · simp [h]
theorem set_byte {l : List Int} (h : ∀ i, 0 ≤ l.getD i 0 ∧ l.getD i 0 ≤ 255) (k : Nat) (x : Int) (h0 : 0 ≤ x) (h1 : x ≤ 255) : ∀ i, 0 ≤ (l.set k x).getD i 0 ∧ (l.set k x).getD i 0 ≤ 255 := by
  intro i
  rw [getD_set]
  split
  · omega
  · exact h i
theorem slid_okR {b : Bd} (h : b.OkR) (hn : nextB b ≤ 2047) : (slid b).OkR := by
  have h4 := h.byte 4
  have hn0 := (next_bd b h).1
  refine ⟨by simp only [slid, List.length_set]; exact h.regs, ?_, hn0, hn⟩
  simp only [slid]
  have h4' : 0 ≤ b.reg 4 ∧ b.reg 4 ≤ 255 := h4
  exact set_byte (set_byte h.byte 3 _ (by omega) (by omega)) 4 _ (by omega) (by omega)
theorem wait_okR {b : Bd} (h : b.OkR) (s : Int) : (waitB { b with slide := s }).OkR := ⟨h.regs, h.byte, h.pitch0, h.pitch1⟩

set_option maxRecDepth 20000 in
set_option maxHeartbeats 4000000 in
theorem slide_any (b : Bd) (hb : b.Ok) (g : Nat) (w : World) (hB : Blk w g 29 (enc b)) :
    Calls Try.prog 20 #[.pointer (some ⟨g, 0, none⟩)] w (On g (slideB b) (.tuple #[]) w) := by
  have HO : Hid b.OkR := hid_ hb.toOkR
  have c69 := hB.a69 hb.regs
  have c68 := hB.a68 hb.regs
  have f68 := hB.frozen 68
  have s0 := hb.slide0
  have s1 := hb.slide1
  have hg := hB.lt
  have HB := hid_ hB
  clear hB hb
  by_cases hs : b.slides = false
  · rw [hs] at c69
    go_enter Try.func20, Try.ntmps20
    go_wp2
    exact bodyPost_ret (v := .tuple #[]) (by simp [results, Try.results20, go_sem]) rfl ⟨rfl, by rw [slideB, if_pos hs]; exact HB.out, Only.refl g w⟩
  · have hs' : b.slides = true := by simpa using hs
    rw [hs'] at c69
    by_cases h1 : 0 < b.slide - 1
    · go_enter Try.func20, Try.ntmps20
      go_wp2
      exact bodyPost_ret (v := .tuple #[]) (by simp [results, Try.results20, go_sem]) rfl ⟨rfl, by rw [slideB, if_neg hs, if_pos h1]; exact HB.out.s68 HO.out.regs _, (Only.refl g w).step _⟩
    · have H1 : Hid (¬ 0 < b.slide - 1) := h1
      go_enter Try.func20, Try.ntmps20
      go_wp2_with fail
      have HR1 : Hid (Bd.OkR { b with slide := b.slide - 1 }) := ⟨HO.out.regs, HO.out.byte, HO.out.pitch0, HO.out.pitch1⟩
      refine (wait_any { b with slide := b.slide - 1 } HR1.out g _ (HB.out.s68 HO.out.regs _)).mono ?_
      rintro e w1 ⟨rfl, hB1, hO1⟩
      have HB1 := hid_ hB1
      have HO1 := hid_ ((Only.set g 68 w (.int .i64 (b.slide - 1))).trans hO1)
      have HR2 := hid_ (wait_okR HO.out (b.slide - 1))
      clear hO1 hB1 HR1 c69 c68 f68 hg
      go_wp2_with fail
      refine (every_any _ HR2.out g _ HB1.out).mono ?_
      rintro e w2 ⟨rfl, rfl⟩
      rw [show everyB (waitB { b with slide := b.slide - 1 }) = everyB b from rfl]
      by_cases he : everyB b = 0
      · rw [he]
        go_wp2
        exact bodyPost_ret (v := .tuple #[]) (by simp [results, Try.results20, go_sem]) rfl ⟨rfl, by rw [slideB, if_neg hs, if_neg (show ¬ 0 < b.slide - 1 by have := H1.out; omega), if_pos he]; exact HB1.out, HO1.out⟩
      · have he' : (everyB b == 0) = false := by simp [he]
        go_wp2_with fail
        refine (check_any _ HR2.out g _ HB1.out).mono ?_
        rintro e w2 ⟨rfl, hB2, hO2⟩
        have HB2 := hid_ hB2
        have HO2 := hid_ (HO1.out.trans hO2)
        clear hB2 hO2
        cases hh : highB (waitB { b with slide := b.slide - 1 }) with
        | true =>
          go_wp2
          exact bodyPost_ret (v := .tuple #[]) (by simp [results, Try.results20, go_sem]) rfl ⟨rfl, by rw [slideB, if_neg hs, if_neg (show ¬ 0 < b.slide - 1 by have := H1.out; omega), if_neg he, if_pos (.inl hh)]; exact HB2.out, HO2.out⟩
        | false =>
          have HB3 : Hid (Blk w2 g 29 (enc (waitB { b with slide := b.slide - 1 }))) := by have := HB2.out; rw [low_eq hh] at this; exact this
          clear HB2
          go_wp2_with fail
          refine (by_any _ HR2.out g _ HB3.out).mono ?_
          rintro e w3 ⟨rfl, rfl⟩
          rw [show byB (waitB { b with slide := b.slide - 1 }) = byB b from rfl]
          by_cases hy : byB b = 0
          · rw [hy]
            go_wp2
            exact bodyPost_ret (v := .tuple #[]) (by simp [results, Try.results20, go_sem]) rfl ⟨rfl, by rw [slideB, if_neg hs, if_neg (show ¬ 0 < b.slide - 1 by have := H1.out; omega), if_neg he, if_pos (.inr hy), low_eq hh]; exact HB3.out, HO2.out⟩
          · have hy' : (byB b == 0) = false := by simp [hy]
            have HS : Hid (slideB b = checkB (slid (waitB { b with slide := b.slide - 1 }))) := by rw [slideB, if_neg hs, if_neg (show ¬ 0 < b.slide - 1 by have := H1.out; omega), if_neg he, if_neg (by simp [hh, hy])]; rfl
            go_wp2_with fail
            refine (next_any _ HR2.out g _ HB3.out).mono ?_
            rintro e w3 ⟨rfl, n3, rfl⟩
            have HB4 : Hid (Blk (w2.drewN n3) g 29 (enc (waitB { b with slide := b.slide - 1 }))) := HB3
            have HO4 : Hid (Only g w (w2.drewN n3)) := HO2.out.drewN n3
            generalize waitB { b with slide := b.slide - 1 } = c at *
            have hlow : nextB c ≤ 2047 := by simpa [highB] using hh
            have hn0 := (next_bd c HR2.out).1
            generalize hN : nextB c = N at *
            generalize w2.drewN n3 = w3 at *
            have HN := hid_ hN
            have f67 := HB4.out.frozen 67
            have c67 := HB4.out.a67 HR2.out.regs
            have hg := HB4.out.lt
            clear HB3 HO2 hN hh he' hy' HB1 HO1 HB s0 s1 HO
            go_wp2_with fail
            have HB5 := hid_ (HB4.out.s67 HR2.out.regs N)
            have HO5 := hid_ (HO4.out.step (i := 67) (.int .i64 N))
            generalize w3.setCell ⟨g, 67, none⟩ (.int .i64 N) = w4 at *
            have q67 := HB5.out.a67 HR2.out.regs
            have q3 := HB5.out.ar HR2.out.regs 3 (by omega)
            have q4 := HB5.out.ar HR2.out.regs 4 (by omega)
            have f3 := HB5.out.frozen 3
            have f4 := HB5.out.frozen 4
            have hg4 := HB5.out.lt
            clear f67 c67 hg HB4 HO4
            rw [show Bd.regs { c with pitch := N } = c.regs from rfl, show c.regs.getD 4 0 = c.reg 4 from rfl] at q4
            have e1 := andNot7 (c.reg 4) (HR2.out.byte 4).1 (HR2.out.byte 4).2
            have e2 := slid_byte (c.reg 4) N (HR2.out.byte 4).1 (HR2.out.byte 4).2 hn0 hlow
            have e3 : bits .and .u8 (N / 256) 7 = N / 256 := Eq.trans (upto (P := fun a => bits .and .u8 a 7 = a % 8) (by decide +kernel) (N / 256) (by omega) (by omega)) (by omega)
            have e4 : IntKind.u8.wrap (N / 256) = N / 256 := by simp [IntKind.wrap, IntKind.signed, IntKind.bits]; omega
            go_region
            have HB6 : Hid (Blk ((w4.setCell ⟨g, 3, none⟩ (.int .u8 (N % 256))).setCell ⟨g, 4, none⟩ (.int .u8 (c.reg 4 / 8 * 8 + N / 256 % 8))).drew g 29 (enc (slid c))) := by
              have := (HB5.out.sr HR2.out.regs 3 (by omega) (N % 256)).sr (by simp only [List.length_set]; exact HR2.out.regs) 4 (by omega) (c.reg 4 / 8 * 8 + N / 256 % 8)
              unfold slid
              rw [HN.out]
              exact this
            have HO6 : Hid (Only g w ((w4.setCell ⟨g, 3, none⟩ (.int .u8 (N % 256))).setCell ⟨g, 4, none⟩ (.int .u8 (c.reg 4 / 8 * 8 + N / 256 % 8))).drew) := ((HO5.out.step _).step _).drewN 1
            generalize ((w4.setCell ⟨g, 3, none⟩ (.int .u8 (N % 256))).setCell ⟨g, 4, none⟩ (.int .u8 (c.reg 4 / 8 * 8 + N / 256 % 8))).drew = w6 at *
            clear HB5 HO5 q3 q4 q67 f3 f4 hg4
            have HR6 : Hid (slid c).OkR := slid_okR HR2.out (by rw [HN.out]; omega)
            go_wp2_with fail
            refine (check_any _ HR6.out g _ HB6.out).mono ?_
            rintro e w7 ⟨rfl, hB7, hO7⟩
            go_wp2_with fail
            exact bodyPost_ret (v := .tuple #[]) (by simp [results, Try.results20, go_sem]) rfl ⟨rfl, by rw [HS.out]; exact hB7, HO6.out.trans hO7⟩
end Go.Proofs.Ytacbdapgdgliiaa
