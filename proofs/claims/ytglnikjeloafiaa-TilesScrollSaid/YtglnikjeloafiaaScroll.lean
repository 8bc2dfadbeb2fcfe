/- The law TilesScroll: its walk. -/
import Derived.Test.YtglnikjeloafiaaIn
namespace Go.Proofs.Ytglnikjeloafiaa
open Go.RowKit
set_option linter.unusedSimpArgs false
set_option linter.unusedVariables false
namespace tilesScroll

theorem cut_two {P : Program} {c : Code} {Q : Exit → Act → World → Prop} {a : Act} {w : World} (f : Act → Nat → Nat → Act) (S : Nat → Nat → World → Prop)
    (h1 : c.wp P (fun e a' w' => e = .normal ∧ ∃ ga gb, a' = f a ga gb ∧ S ga gb w') a w) (h2 : ∀ ga gb w', S ga gb w' → Q .normal (f a ga gb) w') : c.wp P Q a w :=
  Code.wp_mono (fun e a' w' ⟨he, ga, gb, ha, hs⟩ => by subst he; subst ha; exact h2 ga gb w' hs) h1

theorem back_v (v : Int) (zs : List Int) (a : Option Addr) (len cap : Nat) (c sx sy wx wy x y : Int)
    (hc : 0 ≤ c) (hc' : c ≤ 255) (w : World) (h : IsRow .u8 w a len zs) (hv : backI zs c sx sy x y = v) :
    Calls Try.prog 17 #[view c sx sy wx wy, .slice a len cap, .int .i64 x, .int .i64 y] w (Ret (.int .u8 v) w) := by
  subst hv; exact back_any zs a len cap c sx sy wx wy x y hc hc' w h
theorem window_v (v : Int) (zs : List Int) (a : Option Addr) (len cap : Nat) (c sx sy wx wy x y : Int)
    (hc : 0 ≤ c) (hc' : c ≤ 255) (w : World) (h : IsRow .u8 w a len zs) (hv : windowI zs c x y = v) :
    Calls Try.prog 19 #[view c sx sy wx wy, .slice a len cap, .int .i64 x, .int .i64 y] w (Ret (.int .u8 v) w) := by
  subst hv; exact window_any zs a len cap c sx sy wx wy x y hc hc' w h

set_option maxRecDepth 100000 in
set_option maxHeartbeats 4000000 in
theorem walkIn (w : World) (s : Option Addr) (len cap : Nat) (z : List Int) (c sx sy wx wy by_ x y : Int) (h : IsRow .u8 w s len z) (hl : len ≤ 3000)
    (hc : 0 ≤ c) (hc' : c ≤ 255) (hx : 0 ≤ x) (hx' : x ≤ 255) (hy : 0 ≤ y) (hy' : y ≤ 255) (hb0 : 0 ≤ by_) (hb0' : by_ ≤ 255) :
    Calls Try.prog 6 #[.slice s len cap, view c sx sy wx wy, .int .u8 by_, .int .u8 x, .int .u8 y] w (Ret (.bool true) w) := by
  have q : decide (3000 < (len : Int)) = false := by simp; omega
  have H0 := hid_ h
  have HL := hid_ hl
  clear h hl
  go_enter Try.func6, Try.ntmps6
  go_wp2_with fail
  refine (awake_any _).mono ?_
  rintro e w1 ⟨rfl, hd1, hf1, hz1, hb1⟩
  have hB1 := (Blk.new w 24 #[.int .u8 c, .int .u8 sx, .int .u8 sy, .int .u8 wx, .int .u8 wy]).below hb1 (by simp)
  have R1 := hid_ ((H0.out.alloc (.cells #[.int .u8 c, .int .u8 sx, .int .u8 sy, .int .u8 wx, .int .u8 wy] 24)).below hb1)
  have hW1 : Below w.heap.size w w1 := ((Below.refl _ _).alloc (Nat.le_refl _) _).trans (hb1.mono (by simp))
  simp at hz1
  clear hd1 hf1
  go_wp2_with fail
  refine (filled_any s len cap z HL.out _ R1.out).mono ?_
  rintro e w2 ⟨rfl, M2, hb2⟩
  obtain ⟨g, hg⟩ : ∃ g, w1.heap.size = g := ⟨_, rfl⟩
  rw [hg] at M2 ⊢
  clear hg
  have hB2 := hB1.below hb2 (by omega)
  have hW2 : Below w.heap.size w w2 := hW1.trans (hb2.mono (by omega))
  clear hb1 hb2 R1 hW1 hB1 hz1
  have gB := hB2.lt
  obtain ⟨c0, c1, c2, c3, c4, f0, f1, f2, f3, f4⟩ := hB2.five
  go_wp2_with fail
  have hW3 : Below w.heap.size w (w2.alloc (.cells #[.int .u8 c, .int .u8 sx, .int .u8 sy, .int .u8 wx, .int .u8 wy] 26)) := hW2.alloc hW2.size _
  have hC3 := Blk.new w2 26 #[.int .u8 c, .int .u8 sx, .int .u8 sy, .int .u8 wx, .int .u8 wy]
  have M3 := hid_ (M2.out.alloc (.cells #[.int .u8 c, .int .u8 sx, .int .u8 sy, .int .u8 wx, .int .u8 wy] 26))
  obtain ⟨g2, hg2⟩ : ∃ g, w2.heap.size = g := ⟨_, rfl⟩
  clear hB2 c0 c1 c2 c3 c4 f0 f1 f2 f3 f4 gB hW2 M2
  rw [hg2] at hC3 ⊢
  clear hg2
  generalize (w2.alloc (.cells #[.int .u8 c, .int .u8 sx, .int .u8 sy, .int .u8 wx, .int .u8 wy] 26)) = w3 at *
  have gB := hC3.lt
  obtain ⟨c0, c1, c2, c3, c4, f0, f1, f2, f3, f4⟩ := hC3.five
  refine cut_two (fun a ga gb => (((a.put (some 28) (view c sx sy wx wy)).put (some 29) (view c sx sy wx wy)).put (some 13) (.pointer (some ⟨ga, 0, none⟩))).put (some 14) (.pointer (some ⟨gb, 0, none⟩)))
    (fun ga gb w' => ga ≠ gb ∧ w3.heap.size ≤ ga ∧ w3.heap.size ≤ gb ∧ Blk w' ga 26 #[.int .u8 c, .int .u8 sx, .int .u8 sy, .int .u8 wx, .int .u8 wy] ∧
      Blk w' gb 26 #[.int .u8 c, .int .u8 sx, .int .u8 sy, .int .u8 wx, .int .u8 wy] ∧ Keeps w3 w') ?_ ?_
  · go_region
    all_goals
      refine ⟨rfl, _, _, rfl, ?_, ?_, ?_, ?_, ?_, ?_⟩
      · simp
      · simp
      · simp
      · first
          | exact ((Blk.new w3 26 #[.int .u8 c, .int .u8 sx, .int .u8 sy, .int .u8 wx, .int .u8 wy]).alloc _).drew
          | (have := (Blk.new (w3.alloc (.cells #[.int .u8 c, .int .u8 sx, .int .u8 sy, .int .u8 wx, .int .u8 wy] 26)) 26 #[.int .u8 c, .int .u8 sx, .int .u8 sy, .int .u8 wx, .int .u8 wy]).drew; simpa using this)
      · first
          | exact ((Blk.new w3 26 #[.int .u8 c, .int .u8 sx, .int .u8 sy, .int .u8 wx, .int .u8 wy]).alloc _).drew
          | (have := (Blk.new (w3.alloc (.cells #[.int .u8 c, .int .u8 sx, .int .u8 sy, .int .u8 wx, .int .u8 wy] 26)) 26 #[.int .u8 c, .int .u8 sx, .int .u8 sy, .int .u8 wx, .int .u8 wy]).drew; simpa using this)
      · exact Keeps.drew (((Below.refl _ _).alloc (Nat.le_refl _) _).alloc (by simp) _)
  · rintro ga gb w4 ⟨hne, hga, hgb, hA, hB, hk⟩
    simp only [Act.put, List.setIfInBounds_toArray, List.set_cons_zero, List.set_cons_succ]
    have n1 : g2 ≠ ga := by omega
    have n2 : g2 ≠ gb := by omega
    have hC := Blk.below hC3 hk gB
    have M4 := hid_ (M3.out.below hk)
    clear c0 c1 c2 c3 c4 f0 f1 f2 f3 f4
    obtain ⟨c0, c1, c2, c3, c4, f0, f1, f2, f3, f4⟩ := hC.five
    obtain ⟨d0, d1, d2, d3, d4, e0, e1, e2, e3, e4⟩ := hA.five
    obtain ⟨k0, k1, k2, k3, k4, l0, l1, l2, l3, l4⟩ := hB.five
    have hne' := hne.symm
    go_wp2_with fail
    have hA2 : Blk ((w4.setCell ⟨ga, 1, none⟩ (.int .u8 ((sx + by_) % 256))).setCell ⟨gb, 2, none⟩ (.int .u8 ((sy + by_) % 256))) ga 26 #[.int .u8 c, .int .u8 ((sx + by_) % 256), .int .u8 sy, .int .u8 wx, .int .u8 wy] := by
      simpa using (hA.set_ 1 (.int .u8 ((sx + by_) % 256))).far (p := ⟨gb, 2, none⟩) hne (.int .u8 ((sy + by_) % 256))
    have hB2 : Blk ((w4.setCell ⟨ga, 1, none⟩ (.int .u8 ((sx + by_) % 256))).setCell ⟨gb, 2, none⟩ (.int .u8 ((sy + by_) % 256))) gb 26 #[.int .u8 c, .int .u8 sx, .int .u8 ((sy + by_) % 256), .int .u8 wx, .int .u8 wy] := by
      simpa using (hB.far (p := ⟨ga, 1, none⟩) hne' (.int .u8 ((sx + by_) % 256))).set_ 2 (.int .u8 ((sy + by_) % 256))
    have hC2 : Blk ((w4.setCell ⟨ga, 1, none⟩ (.int .u8 ((sx + by_) % 256))).setCell ⟨gb, 2, none⟩ (.int .u8 ((sy + by_) % 256))) g2 26 #[.int .u8 c, .int .u8 sx, .int .u8 sy, .int .u8 wx, .int .u8 wy] :=
      (hC.far (p := ⟨ga, 1, none⟩) n1 _).far (p := ⟨gb, 2, none⟩) n2 _
    have hk5 : Keeps w3 ((w4.setCell ⟨ga, 1, none⟩ (.int .u8 ((sx + by_) % 256))).setCell ⟨gb, 2, none⟩ (.int .u8 ((sy + by_) % 256))) :=
      Below.setCell (Below.setCell hk hga _) hgb _
    have M5 := hid_ (M3.out.below hk5)
    have hW5 : Below w.heap.size w ((w4.setCell ⟨ga, 1, none⟩ (.int .u8 ((sx + by_) % 256))).setCell ⟨gb, 2, none⟩ (.int .u8 ((sy + by_) % 256))) := hW3.trans (Below.mono hk5 hW3.size)
    clear c0 c1 c2 c3 c4 f0 f1 f2 f3 f4 d0 d1 d2 d3 d4 e0 e1 e2 e3 e4 k0 k1 k2 k3 k4 l0 l1 l2 l3 l4 hk5 hA hB hC hk M4 M3 hC3 gB n1 n2 hne hne'
    generalize ((w4.setCell ⟨ga, 1, none⟩ (.int .u8 ((sx + by_) % 256))).setCell ⟨gb, 2, none⟩ (.int .u8 ((sy + by_) % 256))) = wo at *
    obtain ⟨v1, hv1⟩ : ∃ v, backI (fillZ z) c ((sx + by_) % 256) sy x y = v := ⟨_, rfl⟩
    obtain ⟨v2, hv2⟩ : ∃ v, backI (fillZ z) c sx ((sy + by_) % 256) x y = v := ⟨_, rfl⟩
    obtain ⟨v3, hv3⟩ : ∃ v, backI (fillZ z) c sx sy x y = v := ⟨_, rfl⟩
    obtain ⟨v4, hv4⟩ : ∃ v, windowI (fillZ z) c x y = v := ⟨_, rfl⟩
    have E1 := hid_ hv1
    have E2 := hid_ hv2
    have E3 := hid_ hv3
    have E4 := hid_ hv4
    clear hv1 hv2 hv3 hv4
    have gA := hA2.lt
    have gB := hB2.lt
    have gC := hC2.lt
    obtain ⟨c0, c1, c2, c3, c4, f0, f1, f2, f3, f4⟩ := hC2.five
    obtain ⟨d0, d1, d2, d3, d4, e0, e1, e2, e3, e4⟩ := hA2.five
    obtain ⟨k0, k1, k2, k3, k4, l0, l1, l2, l3, l4⟩ := hB2.five
    clear hA2 hB2 hC2 hga hgb f0 f1 f2 f3 f4 e0 e1 e2 e3 e4 l0 l1 l2 l3 l4
    simp only [List.append_eq, List.cons_append, List.nil_append]
    go_region_held3 (fun W => (∀ b o, b < wo.heap.size → W.cell? ⟨b, o, none⟩ = wo.cell? ⟨b, o, none⟩) ∧ Keeps wo W)
      (first | exact ⟨fun _ _ _ => rfl, (Keeps.refl _).drew⟩ | exact ⟨fun _ _ h => Keeps.cells (by assumption) _ _ h, by assumption⟩)
      (first
      | (go_at_call 17; go_split_ands; refine Calls.mono (back_v v1 _ _ _ _ _ _ _ _ _ _ _ hc hc' _ (keeps_row M5.out (by assumption)) ?_) ?_; (first | exact E1.out | (rw [← E1.out]; unfold backI; congr 1 <;> (try simp only [IntKind.wrap_i64]) <;> omega)); rintro e w4 ⟨rfl, hc4, hf4, hz4, hb4⟩; have hk4 := Keeps.step (wo := wo) (by assumption) hb4; clear hc4 hf4 hz4 hb4)
      | (go_at_call 17; go_split_ands; refine Calls.mono (back_v v2 _ _ _ _ _ _ _ _ _ _ _ hc hc' _ (keeps_row M5.out (by assumption)) ?_) ?_; (first | exact E2.out | (rw [← E2.out]; unfold backI; congr 1 <;> (try simp only [IntKind.wrap_i64]) <;> omega)); rintro e w4 ⟨rfl, hc4, hf4, hz4, hb4⟩; have hk4 := Keeps.step (wo := wo) (by assumption) hb4; clear hc4 hf4 hz4 hb4)
      | (go_at_call 17; go_split_ands; refine Calls.mono (back_v v3 _ _ _ _ _ _ _ _ _ _ _ hc hc' _ (keeps_row M5.out (by assumption)) ?_) ?_; (first | exact E3.out | (rw [← E3.out]; unfold backI; congr 1 <;> (try simp only [IntKind.wrap_i64]) <;> omega)); rintro e w4 ⟨rfl, hc4, hf4, hz4, hb4⟩; have hk4 := Keeps.step (wo := wo) (by assumption) hb4; clear hc4 hf4 hz4 hb4)
      | (go_at_call 19; go_split_ands; refine Calls.mono (window_v v4 _ _ _ _ _ _ _ _ _ _ _ hc hc' _ (keeps_row M5.out (by assumption)) ?_) ?_; (first | exact E4.out | (rw [← E4.out]; unfold windowI; congr 1 <;> (try simp only [IntKind.wrap_i64]) <;> omega)); rintro e w4 ⟨rfl, hc4, hf4, hz4, hb4⟩; have hk4 := Keeps.step (wo := wo) (by assumption) hb4; clear hc4 hf4 hz4 hb4))
    go_wp2_with fail
    go_ret
    exact .of rfl (hW5.trans (Below.mono (by assumption : Keeps wo _) hW5.size))

set_option maxRecDepth 100000 in
theorem walk_out (w : World) (s : Option Addr) (len cap : Nat) (c sx sy wx wy by_ x y : Int) (hl : 3000 < len) :
    Calls Try.prog 6 #[.slice s len cap, view c sx sy wx wy, .int .u8 by_, .int .u8 x, .int .u8 y] w (Ret (.bool true) w) := by
  have q : decide (3000 < (len : Int)) = true := by simp; omega
  clear hl
  go_enter Try.func6, Try.ntmps6
  go_wp2_with fail
  refine (awake_any _).mono ?_
  rintro e w1 ⟨rfl, hd1, hf1, hz1, hb1⟩
  have hW1 : Below w.heap.size w w1 := ((Below.refl _ _).alloc (Nat.le_refl _) _).trans (hb1.mono (by simp))
  clear hd1 hf1
  go_wp2_with fail
  refine (awake_any _).mono ?_
  rintro e w2 ⟨rfl, hd2, hf2, hz2, hb2⟩
  clear hd2 hf2
  go_wp2_with fail
  go_ret
  exact .of rfl (hW1.trans (hb2.mono hW1.size))

theorem walk (w : World) (s : Option Addr) (len cap : Nat) (z : List Int) (c sx sy wx wy by_ x y : Int) (h : IsRow .u8 w s len z)
    (hc : 0 ≤ c) (hc' : c ≤ 255) (_ : 0 ≤ sx) (_ : sx ≤ 255) (_ : 0 ≤ sy) (_ : sy ≤ 255) (_ : 0 ≤ wx) (_ : wx ≤ 255) (_ : 0 ≤ wy) (_ : wy ≤ 255)
    (hb : 0 ≤ by_) (hb' : by_ ≤ 255) (hx : 0 ≤ x) (hx' : x ≤ 255) (hy : 0 ≤ y) (hy' : y ≤ 255) :
    Calls Try.prog 6 #[.slice s len cap, view c sx sy wx wy, .int .u8 by_, .int .u8 x, .int .u8 y] w (Ret (.bool true) w) := by
  by_cases hl : len ≤ 3000
  · exact walkIn w s len cap z c sx sy wx wy by_ x y h hl hc hc' hx hx' hy hy' hb hb'
  · exact walk_out w s len cap c sx sy wx wy by_ x y (by omega)
end tilesScroll
end Go.Proofs.Ytglnikjeloafiaa
