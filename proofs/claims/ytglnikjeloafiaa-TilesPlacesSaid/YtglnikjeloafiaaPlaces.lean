/- The law TilesPlaces: its walk. -/
import Derived.Test.YtglnikjeloafiaaIn
namespace Go.Proofs.Ytglnikjeloafiaa
open Go.RowKit
set_option linter.unusedSimpArgs false
set_option linter.unusedVariables false
namespace tilesPlaces

set_option maxRecDepth 100000 in
set_option maxHeartbeats 4000000 in
theorem walkIn (w : World) (s : Option Addr) (len cap : Nat) (z : List Int) (c sx sy wx wy x y : Int) (h : IsRow .u8 w s len z) (hl : len ≤ 3000)
    (hc : 0 ≤ c) (hc' : c ≤ 255) (hs : 0 ≤ sx) (hs' : sx ≤ 255) (ht : 0 ≤ sy) (ht' : sy ≤ 255) :
    Calls Try.prog 5 #[.slice s len cap, view c sx sy wx wy, .int .i64 x, .int .i64 y] w (Ret (.bool true) w) := by
  have q : decide (3000 < (len : Int)) = false := by simp; omega
  have H0 := hid_ h
  have HL := hid_ hl
  clear h hl
  go_enter Try.func5, Try.ntmps5
  go_wp2_with fail
  refine (awake_any _).mono ?_
  rintro e w1 ⟨rfl, hd1, hf1, hz1, hb1⟩
  have hB1 := (Blk.new w 24 #[.int .u8 c, .int .u8 sx, .int .u8 sy, .int .u8 wx, .int .u8 wy]).below hb1 (by simp)
  have R1 := hid_ ((H0.out.alloc (.cells #[.int .u8 c, .int .u8 sx, .int .u8 sy, .int .u8 wx, .int .u8 wy] 24)).below hb1)
  have hW1 : Below w.heap.size w w1 := ((Below.refl _ _).alloc (Nat.le_refl _) _).trans (hb1.mono (by simp))
  obtain ⟨c0, c1, c2, c3, c4, f0, f1, f2, f3, f4⟩ := hB1.five
  simp at hz1
  clear hd1 hf1
  go_wp2_with fail
  refine (filled_any s len cap z HL.out _ (R1.out.alloc _)).mono ?_
  rintro e w2 ⟨rfl, M2, hb2⟩
  obtain ⟨g, hg⟩ : ∃ g, (w1.alloc (.cells #[.int .u8 c, .int .u8 sx, .int .u8 sy, .int .u8 wx, .int .u8 wy] 26)).heap.size = g := ⟨_, rfl⟩
  rw [hg] at M2 ⊢
  clear hg
  have hB2 := (hB1.alloc (.cells #[.int .u8 c, .int .u8 sx, .int .u8 sy, .int .u8 wx, .int .u8 wy] 26)).below hb2 (by simp; omega)
  have hC2 := (Blk.new w1 26 #[.int .u8 c, .int .u8 sx, .int .u8 sy, .int .u8 wx, .int .u8 wy]).below hb2 (by simp)
  have R2 := hid_ ((R1.out.alloc (.cells #[.int .u8 c, .int .u8 sx, .int .u8 sy, .int .u8 wx, .int .u8 wy] 26)).below hb2)
  have hW2 : Below w.heap.size w w2 := (hW1.alloc (by omega) _).trans (hb2.mono (by simp; omega))
  clear c0 c1 c2 c3 c4 f0 f1 f2 f3 f4 hb1 hb2 R1 hW1 hB1
  have gB := hB2.lt
  have gC := hC2.lt
  obtain ⟨c0, c1, c2, c3, c4, f0, f1, f2, f3, f4⟩ := hB2.five
  obtain ⟨k0, k1, k2, k3, k4, l0, l1, l2, l3, l4⟩ := hC2.five
  go_wp2_with fail
  generalize w2 = wo at *
  go_region_held3 (fun W => (∀ b o, b < wo.heap.size → W.cell? ⟨b, o, none⟩ = wo.cell? ⟨b, o, none⟩) ∧ Keeps wo W)
    (first | exact ⟨fun _ _ _ => rfl, (Keeps.refl _).drew⟩ | exact ⟨fun _ _ h => Keeps.cells (by assumption) _ _ h, by assumption⟩)
    (first
    | (go_at_call 17; go_split_ands; refine (back_any _ _ _ _ c sx sy wx wy x y hc hc' _ (by first | exact keeps_row R2.out (by assumption) | exact keeps_row M2.out (by assumption))).mono ?_; rintro e w4 ⟨rfl, hc4, hf4, hz4, hb4⟩; have hk4 := Keeps.step (wo := wo) (by assumption) hb4; clear hc4 hf4 hz4 hb4)
    | (go_at_call 18; go_split_ands; refine (rback_any _ _ _ _ c sx sy wx wy x y hc hc' hs hs' ht ht' _ (by first | exact keeps_row R2.out (by assumption) | exact keeps_row M2.out (by assumption))).mono ?_; rintro e w4 ⟨rfl, hc4, hf4, hz4, hb4⟩; have hk4 := Keeps.step (wo := wo) (by assumption) hb4; clear hc4 hf4 hz4 hb4)
    | (go_at_call 19; go_split_ands; refine (window_any _ _ _ _ c sx sy wx wy x y hc hc' _ (by first | exact keeps_row R2.out (by assumption) | exact keeps_row M2.out (by assumption))).mono ?_; rintro e w4 ⟨rfl, hc4, hf4, hz4, hb4⟩; have hk4 := Keeps.step (wo := wo) (by assumption) hb4; clear hc4 hf4 hz4 hb4)
    | (go_at_call 20; go_split_ands; refine (rwindow_any _ _ _ _ c sx sy wx wy x y hc hc' _ (by first | exact keeps_row R2.out (by assumption) | exact keeps_row M2.out (by assumption))).mono ?_; rintro e w4 ⟨rfl, hc4, hf4, hz4, hb4⟩; have hk4 := Keeps.step (wo := wo) (by assumption) hb4; clear hc4 hf4 hz4 hb4))
  go_wp2_with fail
  go_ret
  exact .of rfl (hW2.trans (Below.mono (by assumption : Keeps wo _) hW2.size))

set_option maxRecDepth 100000 in
theorem walk_out (w : World) (s : Option Addr) (len cap : Nat) (c sx sy wx wy x y : Int) (hl : 3000 < len) :
    Calls Try.prog 5 #[.slice s len cap, view c sx sy wx wy, .int .i64 x, .int .i64 y] w (Ret (.bool true) w) := by
  have q : decide (3000 < (len : Int)) = true := by simp; omega
  clear hl
  go_enter Try.func5, Try.ntmps5
  go_wp2_with fail
  refine (awake_any _).mono ?_
  rintro e w1 ⟨rfl, hd1, hf1, hz1, hb1⟩
  have hW1 : Below w.heap.size w w1 := ((Below.refl _ _).alloc (Nat.le_refl _) _).trans (hb1.mono (by simp))
  clear hd1 hf1
  go_wp2_with fail
  refine (awake_any _).mono ?_
  rintro e w2 ⟨rfl, hd2, hf2, hz2, hb2⟩
  clear hd2 hf2
  go_wp2_with fail
  go_ret
  exact .of rfl (hW1.trans (hb2.mono hW1.size))

theorem walk (w : World) (s : Option Addr) (len cap : Nat) (z : List Int) (c sx sy wx wy x y : Int) (h : IsRow .u8 w s len z)
    (hc : 0 ≤ c) (hc' : c ≤ 255) (hs : 0 ≤ sx) (hs' : sx ≤ 255) (ht : 0 ≤ sy) (ht' : sy ≤ 255) (_ : 0 ≤ wx) (_ : wx ≤ 255) (_ : 0 ≤ wy) (_ : wy ≤ 255)
    (_ : -9223372036854775808 ≤ x) (_ : x ≤ 9223372036854775807) (_ : -9223372036854775808 ≤ y) (_ : y ≤ 9223372036854775807) :
    Calls Try.prog 5 #[.slice s len cap, view c sx sy wx wy, .int .i64 x, .int .i64 y] w (Ret (.bool true) w) := by
  by_cases hl : len ≤ 3000
  · exact walkIn w s len cap z c sx sy wx wy x y h hl hc hc' hs hs' ht ht'
  · exact walk_out w s len cap c sx sy wx wy x y (by omega)
end tilesPlaces
end Go.Proofs.Ytglnikjeloafiaa
