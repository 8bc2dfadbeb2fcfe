/- Contracts of the background and of the window, of layer 13 and of its reference. -/
import Derived.Test.YtglnikjeloafiaaWalksD
namespace Go.Proofs.Ytglnikjeloafiaa
open Go.RowKit
set_option linter.unusedSimpArgs false
set_option linter.unusedVariables false

theorem rspot_any (o : Bool) (zs : List Int) (a : Option Addr) (len cap : Nat) (c sx sy wx wy px py : Int)
    (hc : 0 ≤ c) (hc' : c ≤ 255) (w : World) (h : IsRow .u8 w a len zs) :
    Calls Try.prog 29 #[view c sx sy wx wy, .slice a len cap, .bool o, .int .i64 px, .int .i64 py] w (Ret (.int .u8 (spotI zs c o (px % 256) (py % 256))) w) :=
  rspot_base (baseI o) o zs a len cap c sx sy wx wy px py _ _ rfl rfl (by cases o; exact .inl ⟨rfl, rfl⟩; exact .inr ⟨rfl, rfl⟩) hc hc' w h

def backI (zs : List Int) (c sx sy x y : Int) : Int := spotI zs c (decide (bitI c 3 = 1)) ((x + sx) % 256) ((y + sy) % 256)
def windowI (zs : List Int) (c x y : Int) : Int := spotI zs c (decide (bitI c 6 = 1)) (x % 256) (y % 256)

theorem back_any (zs : List Int) (a : Option Addr) (len cap : Nat) (c sx sy wx wy x y : Int)
    (hc : 0 ≤ c) (hc' : c ≤ 255) (w : World) (h : IsRow .u8 w a len zs) :
    Calls Try.prog 17 #[view c sx sy wx wy, .slice a len cap, .int .i64 x, .int .i64 y] w (Ret (.int .u8 (backI zs c sx sy x y)) w) := by
  have H1 := hid_ (h.alloc (.cells #[.int .u8 c, .int .u8 sx, .int .u8 sy, .int .u8 wx, .int .u8 wy] 26))
  go_enter Try.func17, Try.ntmps17
  go_wp2_with fail
  refine (spot_back zs a len cap c sx sy wx wy _ _ hc hc' (by omega) (by omega) (by omega) (by omega) _ H1.out).mono ?_
  rintro e w1 ⟨rfl, hd1, hf1, hz1, hb1⟩
  clear hd1 hf1
  go_wp2_with fail
  go_ret
  exact .of rfl (((Below.refl _ _).alloc (Nat.le_refl _) _).trans (hb1.mono (by simp)))
theorem window_any (zs : List Int) (a : Option Addr) (len cap : Nat) (c sx sy wx wy x y : Int)
    (hc : 0 ≤ c) (hc' : c ≤ 255) (w : World) (h : IsRow .u8 w a len zs) :
    Calls Try.prog 19 #[view c sx sy wx wy, .slice a len cap, .int .i64 x, .int .i64 y] w (Ret (.int .u8 (windowI zs c x y)) w) := by
  have H1 := hid_ (h.alloc (.cells #[.int .u8 c, .int .u8 sx, .int .u8 sy, .int .u8 wx, .int .u8 wy] 26))
  go_enter Try.func19, Try.ntmps19
  go_wp2_with fail
  refine (spot_window zs a len cap c sx sy wx wy _ _ hc hc' (by omega) (by omega) (by omega) (by omega) _ H1.out).mono ?_
  rintro e w1 ⟨rfl, hd1, hf1, hz1, hb1⟩
  clear hd1 hf1
  go_wp2_with fail
  go_ret
  exact .of rfl (((Below.refl _ _).alloc (Nat.le_refl _) _).trans (hb1.mono (by simp)))

set_option maxRecDepth 100000 in
theorem rback_any (zs : List Int) (a : Option Addr) (len cap : Nat) (c sx sy wx wy x y : Int)
    (hc : 0 ≤ c) (hc' : c ≤ 255) (hs : 0 ≤ sx) (hs' : sx ≤ 255) (ht : 0 ≤ sy) (ht' : sy ≤ 255) (w : World) (h : IsRow .u8 w a len zs) :
    Calls Try.prog 18 #[view c sx sy wx wy, .slice a len cap, .int .i64 x, .int .i64 y] w (Ret (.int .u8 (backI zs c sx sy x y)) w) := by
  have H1 := hid_ (h.alloc (.cells #[.int .u8 c, .int .u8 sx, .int .u8 sy, .int .u8 wx, .int .u8 wy] 24))
  have hB1 := Blk.new w 24 #[.int .u8 c, .int .u8 sx, .int .u8 sy, .int .u8 wx, .int .u8 wy]
  have hW : Below w.heap.size w (w.alloc (.cells #[.int .u8 c, .int .u8 sx, .int .u8 sy, .int .u8 wx, .int .u8 wy] 24)) := (Below.refl _ _).alloc (Nat.le_refl _) _
  go_enter Try.func18, Try.ntmps18
  go_wp2_with fail
  generalize (w.alloc (.cells #[.int .u8 c, .int .u8 sx, .int .u8 sy, .int .u8 wx, .int .u8 wy] 24)) = wo at *
  have gB := hB1.lt
  obtain ⟨c0, c1, c2, c3, c4, _, _, _, _, _⟩ := hB1.five
  go_region_held3 (fun W => (∀ b o, b < wo.heap.size → W.cell? ⟨b, o, none⟩ = wo.cell? ⟨b, o, none⟩) ∧ Keeps wo W)
    (first | exact ⟨fun _ _ _ => rfl, (Keeps.refl _).drew⟩ | exact ⟨fun _ _ h => Keeps.cells (by assumption) _ _ h, by assumption⟩)
    (first
    | (go_at_call 26; go_split_ands; refine (bit_q c 3 hc hc' (by omega) (by omega) _).mono ?_; rintro e w4 ⟨rfl, rfl⟩)
    | (go_at_call 25; go_split_ands; refine (mod256_any _ _).mono ?_; rintro e w4 ⟨rfl, rfl⟩)
    | (go_at_call 29; go_split_ands; refine (rspot_any _ zs a len cap c sx sy wx wy _ _ hc hc' _ (keeps_row H1.out (by assumption))).mono ?_; rintro e w4 ⟨rfl, hc4, hf4, hz4, hb4⟩; have hk4 := Keeps.step (wo := wo) (by assumption) hb4; clear hc4 hf4 hz4 hb4))
  go_wp2_with fail
  go_ret
  refine .of (ret_int ?_) (hW.trans (Below.mono hk4 hW.size))
  unfold backI
  congr 1 <;> simp only [IntKind.wrap_i64] <;> omega
set_option maxRecDepth 100000 in
theorem rwindow_any (zs : List Int) (a : Option Addr) (len cap : Nat) (c sx sy wx wy x y : Int)
    (hc : 0 ≤ c) (hc' : c ≤ 255) (w : World) (h : IsRow .u8 w a len zs) :
    Calls Try.prog 20 #[view c sx sy wx wy, .slice a len cap, .int .i64 x, .int .i64 y] w (Ret (.int .u8 (windowI zs c x y)) w) := by
  have H1 := hid_ (h.alloc (.cells #[.int .u8 c, .int .u8 sx, .int .u8 sy, .int .u8 wx, .int .u8 wy] 24))
  have hB1 := Blk.new w 24 #[.int .u8 c, .int .u8 sx, .int .u8 sy, .int .u8 wx, .int .u8 wy]
  have hW : Below w.heap.size w (w.alloc (.cells #[.int .u8 c, .int .u8 sx, .int .u8 sy, .int .u8 wx, .int .u8 wy] 24)) := (Below.refl _ _).alloc (Nat.le_refl _) _
  go_enter Try.func20, Try.ntmps20
  go_wp2_with fail
  generalize (w.alloc (.cells #[.int .u8 c, .int .u8 sx, .int .u8 sy, .int .u8 wx, .int .u8 wy] 24)) = wo at *
  have gB := hB1.lt
  obtain ⟨c0, c1, c2, c3, c4, _, _, _, _, _⟩ := hB1.five
  go_region_held3 (fun W => (∀ b o, b < wo.heap.size → W.cell? ⟨b, o, none⟩ = wo.cell? ⟨b, o, none⟩) ∧ Keeps wo W)
    (first | exact ⟨fun _ _ _ => rfl, (Keeps.refl _).drew⟩ | exact ⟨fun _ _ h => Keeps.cells (by assumption) _ _ h, by assumption⟩)
    (first
    | (go_at_call 26; go_split_ands; refine (bit_q c 6 hc hc' (by omega) (by omega) _).mono ?_; rintro e w4 ⟨rfl, rfl⟩)
    | (go_at_call 29; go_split_ands; refine (rspot_any _ zs a len cap c sx sy wx wy _ _ hc hc' _ (keeps_row H1.out (by assumption))).mono ?_; rintro e w4 ⟨rfl, hc4, hf4, hz4, hb4⟩; have hk4 := Keeps.step (wo := wo) (by assumption) hb4; clear hc4 hf4 hz4 hb4))
  go_wp2_with fail
  go_ret
  exact .of rfl (hW.trans (Below.mono hk4 hW.size))
end Go.Proofs.Ytglnikjeloafiaa
