/- Contracts of a spot of a map, of the background and of the window, of layer 13 and of its reference. -/
import Derived.Test.YtglnikjeloafiaaWalksC
namespace Go.Proofs.Ytglnikjeloafiaa
open Go.RowKit
set_option linter.unusedSimpArgs false
set_option linter.unusedVariables false

theorem at_p (a : Option Addr) (len cap : Nat) (zs : List Int) (n : Int) (hn : 0 ≤ n) (w : World) (h : IsRow .u8 w a len zs) :
    Calls Try.prog 24 #[.slice a len cap, .int .i64 n] w (Pure (.int .u8 (memAt zs n)) w) := by
  obtain ⟨k, rfl⟩ := Int.eq_ofNat_of_zero_le hn
  exact (at_any a len cap zs k w h).mono fun _ _ ⟨he, hw⟩ => ⟨he, hw.symm⟩
theorem Blk.five {w : World} {g : Nat} {t : TypeId} {v0 v1 v2 v3 v4 : Value} (h : Blk w g t #[v0, v1, v2, v3, v4]) :
    w.cell? ⟨g, 0, none⟩ = some v0 ∧ w.cell? ⟨g, 1, none⟩ = some v1 ∧ w.cell? ⟨g, 2, none⟩ = some v2 ∧ w.cell? ⟨g, 3, none⟩ = some v3 ∧ w.cell? ⟨g, 4, none⟩ = some v4 ∧
    w.frozen? ⟨g, 0, none⟩ = false ∧ w.frozen? ⟨g, 1, none⟩ = false ∧ w.frozen? ⟨g, 2, none⟩ = false ∧ w.frozen? ⟨g, 3, none⟩ = false ∧ w.frozen? ⟨g, 4, none⟩ = false :=
  ⟨h.cell 0, h.cell 1, h.cell 2, h.cell 3, h.cell 4, h.frozen 0, h.frozen 1, h.frozen 2, h.frozen 3, h.frozen 4⟩

/-- A spot. -/
def baseI (o : Bool) : Int := if o then 7168 else 6144
def spotI (zs : List Int) (c : Int) (o : Bool) (x y : Int) : Int := dotI zs (numI c (memAt zs (baseI o + 32 * (y / 8) + x / 8))) x y
theorem numI_bd (c b : Int) (hb : 0 ≤ b) (hb' : b ≤ 255) : 0 ≤ numI c b ∧ numI c b ≤ 511 := by unfold numI sgn; split <;> (try split) <;> omega

set_option maxRecDepth 100000 in
theorem spot_base (base : Int) (zs : List Int) (a : Option Addr) (len cap : Nat) (c sx sy wx wy bit x y : Int) (v : Int) (hv : bits .and .u8 c bit = v)
    (hb : base = 6144 ∧ v = 0 ∨ base = 7168 ∧ ¬ v = 0) (hc : 0 ≤ c) (hc' : c ≤ 255) (hx : 0 ≤ x) (hx' : x ≤ 255) (hy : 0 ≤ y) (hy' : y ≤ 255) (w : World) (h : IsRow .u8 w a len zs) :
    Calls Try.prog 28 #[view c sx sy wx wy, .slice a len cap, .int .u8 bit, .int .u8 x, .int .u8 y] w (Ret (.int .u8 (dotI zs (numI c (memAt zs (base + 32 * (y / 8) + x / 8))) x y)) w) := by
  have H1 := hid_ (h.alloc (.cells #[.int .u8 c, .int .u8 sx, .int .u8 sy, .int .u8 wx, .int .u8 wy] 26))
  obtain ⟨m, hm⟩ : ∃ m, memAt zs (base + 32 * (y / 8) + x / 8) = m := ⟨_, rfl⟩
  have hm0 : 0 ≤ m := by rw [← hm]; exact (memAt_bd h _).1
  have hm1 : m ≤ 255 := by rw [← hm]; exact (memAt_bd h _).2
  have HM := hid_ hm
  rw [hm]
  clear hm
  have hB1 := Blk.new w 26 #[.int .u8 c, .int .u8 sx, .int .u8 sy, .int .u8 wx, .int .u8 wy]
  obtain ⟨c0, c1, c2, c3, c4, f0, f1, f2, f3, f4⟩ := hB1.five
  rcases hb with ⟨rfl, rfl⟩ | ⟨rfl, hv0⟩
  case' inr =>
    have q : decide (v = 0) = false := by simp [hv0]
  all_goals
    go_enter Try.func28, Try.ntmps28
    go_wp2_with fail
    refine (at_p a len cap zs _ (by omega) _ H1.out).mono ?_
    rintro e wp ⟨rfl, rfl⟩
    rw [HM.out]
    go_wp2_with fail
    refine (number_any c sx sy wx wy m hc hc' hm0 hm1 _).mono ?_
    rintro e w1 ⟨rfl, hd1, hf1, hz1, hb1⟩
    clear hd1 hf1
    go_wp2_with fail
    refine (dot_any a len cap zs (numI c m) x y _ (H1.out.below hb1)).mono ?_
    rintro e w2 ⟨rfl, hd2, hf2, hz2, hb2⟩
    clear hd2 hf2
    go_wp2_with fail
    go_ret
    simp at hz1
    exact .of rfl ((((Below.refl _ _).alloc (Nat.le_refl _) _).trans (hb1.mono (by simp))).trans (hb2.mono (by omega)))

theorem and8 (a : Int) (h : 0 ≤ a) (h' : a ≤ 255) : bits .and .u8 a 8 = a / 8 % 2 * 8 :=
  upto (P := fun a => bits .and .u8 a 8 = a / 8 % 2 * 8) (by decide +kernel) a h h'
theorem and64 (a : Int) (h : 0 ≤ a) (h' : a ≤ 255) : bits .and .u8 a 64 = a / 64 % 2 * 64 :=
  upto (P := fun a => bits .and .u8 a 64 = a / 64 % 2 * 64) (by decide +kernel) a h h'
theorem spot_back (zs : List Int) (a : Option Addr) (len cap : Nat) (c sx sy wx wy x y : Int)
    (hc : 0 ≤ c) (hc' : c ≤ 255) (hx : 0 ≤ x) (hx' : x ≤ 255) (hy : 0 ≤ y) (hy' : y ≤ 255) (w : World) (h : IsRow .u8 w a len zs) :
    Calls Try.prog 28 #[view c sx sy wx wy, .slice a len cap, .int .u8 8, .int .u8 x, .int .u8 y] w (Ret (.int .u8 (spotI zs c (decide (bitI c 3 = 1)) x y)) w) := by
  have e : bitI c 3 = c / 8 % 2 := rfl
  refine spot_base (baseI (decide (bitI c 3 = 1))) zs a len cap c sx sy wx wy 8 x y _ (and8 c hc hc') ?_ hc hc' hx hx' hy hy' w h
  rw [e]; unfold baseI
  by_cases hh : c / 8 % 2 = 1
  · right; simp [hh]
  · left; simp [hh]; omega
theorem spot_window (zs : List Int) (a : Option Addr) (len cap : Nat) (c sx sy wx wy x y : Int)
    (hc : 0 ≤ c) (hc' : c ≤ 255) (hx : 0 ≤ x) (hx' : x ≤ 255) (hy : 0 ≤ y) (hy' : y ≤ 255) (w : World) (h : IsRow .u8 w a len zs) :
    Calls Try.prog 28 #[view c sx sy wx wy, .slice a len cap, .int .u8 64, .int .u8 x, .int .u8 y] w (Ret (.int .u8 (spotI zs c (decide (bitI c 6 = 1)) x y)) w) := by
  have e : bitI c 6 = c / 64 % 2 := rfl
  refine spot_base (baseI (decide (bitI c 6 = 1))) zs a len cap c sx sy wx wy 64 x y _ (and64 c hc hc') ?_ hc hc' hx hx' hy hy' w h
  rw [e]; unfold baseI
  by_cases hh : c / 64 % 2 = 1
  · right; simp [hh]
  · left; simp [hh]; omega

theorem keeps_row {wo W : World} {a : Option Addr} {len : Nat} {zs : List Int} (h : IsRow .u8 wo a len zs) (hk : Keeps wo W) : IsRow .u8 W a len zs := h.below hk

set_option maxRecDepth 100000 in
theorem rspot_base (base : Int) (o : Bool) (zs : List Int) (a : Option Addr) (len cap : Nat) (c sx sy wx wy px py x y : Int) (hpx : px % 256 = x) (hpy : py % 256 = y)
    (hb : base = 6144 ∧ o = false ∨ base = 7168 ∧ o = true) (hc : 0 ≤ c) (hc' : c ≤ 255) (w : World) (h : IsRow .u8 w a len zs) :
    Calls Try.prog 29 #[view c sx sy wx wy, .slice a len cap, .bool o, .int .i64 px, .int .i64 py] w (Ret (.int .u8 (dotI zs (numI c (memAt zs (base + 32 * (y / 8) + x / 8))) x y)) w) := by
  have hx : 0 ≤ x := by omega
  have hx' : x ≤ 255 := by omega
  have hy : 0 ≤ y := by omega
  have hy' : y ≤ 255 := by omega
  have H1 := hid_ (h.alloc (.cells #[.int .u8 c, .int .u8 sx, .int .u8 sy, .int .u8 wx, .int .u8 wy] 24))
  obtain ⟨m, hm⟩ : ∃ m, memAt zs (base + 32 * (y / 8) + x / 8) = m := ⟨_, rfl⟩
  have hm0 : 0 ≤ m := by rw [← hm]; exact (memAt_bd h _).1
  have hm1 : m ≤ 255 := by rw [← hm]; exact (memAt_bd h _).2
  have hE : IntKind.i64.wrap (IntKind.i64.wrap (base + IntKind.i64.wrap (32 * IntKind.i64.wrap (y.tdiv 8))) + IntKind.i64.wrap (x.tdiv 8)) = base + 32 * (y / 8) + x / 8 := by
    rw [Int.tdiv_eq_ediv_of_nonneg hx, Int.tdiv_eq_ediv_of_nonneg hy]
    simp only [IntKind.wrap_i64]
    omega
  have HM : Hid (memAt zs (IntKind.i64.wrap (IntKind.i64.wrap (base + IntKind.i64.wrap (32 * IntKind.i64.wrap (y.tdiv 8))) + IntKind.i64.wrap (x.tdiv 8))) = m) := by
    show _ = _
    rw [hE, hm]
  have HE : Hid (0 ≤ IntKind.i64.wrap (IntKind.i64.wrap (base + IntKind.i64.wrap (32 * IntKind.i64.wrap (y.tdiv 8))) + IntKind.i64.wrap (x.tdiv 8))) := by
    show _ ≤ _
    rw [hE]
    omega
  rw [hm]
  clear hm hE
  have hB1 := Blk.new w 24 #[.int .u8 c, .int .u8 sx, .int .u8 sy, .int .u8 wx, .int .u8 wy]
  have hW : Below w.heap.size w (w.alloc (.cells #[.int .u8 c, .int .u8 sx, .int .u8 sy, .int .u8 wx, .int .u8 wy] 24)) := (Below.refl _ _).alloc (Nat.le_refl _) _
  have HX := hid_ hpx
  have HY := hid_ hpy
  clear hpx hpy
  rcases hb with ⟨rfl, rfl⟩ | ⟨rfl, rfl⟩
  all_goals
    go_enter Try.func29, Try.ntmps29
    go_wp2_with fail
    refine (mod256_any px _).mono ?_
    rintro e wp ⟨rfl, rfl⟩
    rw [HX.out]
    go_wp2_with fail
    refine (mod256_any py _).mono ?_
    rintro e wp ⟨rfl, rfl⟩
    rw [HY.out]
    go_wp2_with fail
    generalize (w.alloc (.cells #[.int .u8 c, .int .u8 sx, .int .u8 sy, .int .u8 wx, .int .u8 wy] 24)) = wo at *
    have gB := hB1.lt
    obtain ⟨c0, c1, c2, c3, c4, _, _, _, _, _⟩ := hB1.five
    go_region_held3 (fun W => (∀ b o, b < wo.heap.size → W.cell? ⟨b, o, none⟩ = wo.cell? ⟨b, o, none⟩) ∧ Keeps wo W)
      (first | exact ⟨fun _ _ _ => rfl, (Keeps.refl _).drew⟩ | exact ⟨fun _ _ h => Keeps.cells (by assumption) _ _ h, by assumption⟩)
      (first
      | (go_at_call 27; go_split_ands; refine (rat_q a len cap zs _ HE.out _ (keeps_row H1.out (by assumption))).mono ?_; rintro e w4 ⟨rfl, rfl⟩; rw [HM.out])
      | (go_at_call 14; refine (rnumber_any c sx sy wx wy m hc hc' hm0 hm1 _).mono ?_; rintro e w4 ⟨rfl, hc4, hf4, hz4, hb4⟩; go_split_ands; have hk4 := Keeps.step (wo := wo) (by assumption) hb4; clear hc4 hf4 hz4 hb4)
      | (go_at_call 12; go_split_ands; refine (rdot_any a len cap zs (numI c m) x y _ (keeps_row H1.out (by assumption))).mono ?_; rintro e w4 ⟨rfl, rfl⟩))
    go_wp2_with fail
    go_ret
    exact .of rfl (hW.trans (Below.mono hk4 hW.size))
end Go.Proofs.Ytglnikjeloafiaa
