/- Contracts of what a processor has at hand: bytes and pairs. -/
import Derived.Test.YtglklbcohbeacaaGreatRegs
namespace Go.Proofs.YtglklbcohbeacaaGreat
open Go.RowKit
set_option linter.unusedSimpArgs false
set_option linter.unusedVariables false

theorem size31 : (Tryz.prog.info? 31).map (·.size) = some 10 := by kernel_rfl
theorem zero31 (W : World) : (zeroValue 31).run Tryz.prog W = .ok (.agg #[.int .u8 0, .int .u8 0, .int .u8 0, .int .u8 0, .int .u8 0, .int .u8 0, .int .u8 0, .int .u8 0, .int .u16 0, .int .u16 0]) W := by kernel_rfl
theorem Rg.list_one (R : Rg) : ∀ v ∈ R.list, v.oneCell' = true := by intro v hv; simp [Rg.list] at hv; rcases hv with rfl | rfl | rfl | rfl | rfl | rfl | rfl | rfl | rfl | rfl <;> rfl
theorem Rg.list_length (R : Rg) : R.list.length = 10 := rfl
theorem word_of : ∀ x y : Int, 0 ≤ x → x ≤ 255 → 0 ≤ y → y ≤ 255 → bits .or .u16 (x * 256) y = x * 256 + y := by
  intro x y hx hx' hy hy'
  rw [u16_or _ _ (by omega) (by omega) (by omega) (by omega), nat_join 8 _ _ (by omega) (by omega)]
  omega
theorem both_1 (g : Nat) (w : World) : Calls Tryz.prog 103 #[.pointer (some ⟨g, 0, none⟩), .int .i64 1] w (Ret (.tuple #[.pointer (some ⟨g, 4, none⟩), .pointer (some ⟨g, 5, none⟩)]) w) := by
  go_enter Tryz.func103, Tryz.ntmps103
  go_wp2_with (first | (go_at_call 102; (with_reducible refine (at_2 g _).mono ?_); rintro e w1 ⟨rfl, hc, hf, hz, hb1⟩; clear hc hf hz) | (go_at_call 102; (with_reducible refine (at_3 g _).mono ?_); rintro e w2 ⟨rfl, hc, hf, hz, hb2⟩; clear hc hf hz))
  go_ret2
  exact .of rfl (hb1.trans (hb2.mono hb1.size))
theorem both_2 (g : Nat) (w : World) : Calls Tryz.prog 103 #[.pointer (some ⟨g, 0, none⟩), .int .i64 2] w (Ret (.tuple #[.pointer (some ⟨g, 6, none⟩), .pointer (some ⟨g, 7, none⟩)]) w) := by
  go_enter Tryz.func103, Tryz.ntmps103
  go_wp2_with (first | (go_at_call 102; (with_reducible refine (at_4 g _).mono ?_); rintro e w1 ⟨rfl, hc, hf, hz, hb1⟩; clear hc hf hz) | (go_at_call 102; (with_reducible refine (at_5 g _).mono ?_); rintro e w2 ⟨rfl, hc, hf, hz, hb2⟩; clear hc hf hz))
  go_ret2
  exact .of rfl (hb1.trans (hb2.mono hb1.size))
theorem get_any (R : Rg) (i o : Nat) (hi : i < 8) (hc : ∀ g, (ptrs g)[i]? = some (.pointer (some ⟨g, o, none⟩))) (v : Int) (hv : R.list[o]? = some (.int .u8 v)) (w : World) :
    Calls Tryz.prog 94 #[.agg R.list.toArray, .int .i64 i] w (Ret (.tuple #[.int .u8 v, .int .i64 0]) w) := by
  have HC := hid_ hc
  have HV := hid_ hv
  clear hc hv
  go_enter Tryz.func94, Tryz.ntmps94
  go_wp2_with (first
    | ((with_reducible refine wpList_boxA (op := ⟨some 2, _, _, _, _, _⟩) rfl 31 (.tmp 0) rfl R.list.toArray rfl ?_); intro w1 HB1 HW1 hz1)
    | (go_at_call 102; refine (at_any w.heap.size i o hi (HC.out _) _).mono ?_; rintro e w2 ⟨rfl, hc, hf, hz, hb2⟩; clear hc hf hz; have c := ((HB1.out.below hb2 HB1.out.lt).cell o).trans (List.getElem?_toArray.trans HV.out)))
  go_ret2
  exact .of rfl (HW1.out.trans (hb2.mono HW1.out.size))
set_option maxHeartbeats 1000000 in
theorem set_any (R R' : Rg) (i o : Nat) (hi : i < 8) (hc : ∀ g, (ptrs g)[i]? = some (.pointer (some ⟨g, o, none⟩))) (ho : o < 10) (v : Int) (hs : R.list.set o (.int .u8 v) = R'.list) (w : World) :
    Calls Tryz.prog 93 #[.agg R.list.toArray, .int .i64 i, .int .u8 v] w (Ret (.tuple #[.agg R'.list.toArray, .int .i64 0]) w) := by
  have HC := hid_ hc
  have HS : Hid (R.list.toArray.toList.set o (.int .u8 v) = R'.list.toArray.toList) := hid_ (by simpa using hs)
  have O := hid_ R'.list_one
  clear hc hs
  go_enter Tryz.func93, Tryz.ntmps93
  go_wp2_with (first
    | ((with_reducible refine wpList_boxA (op := ⟨some 3, _, _, _, _, _⟩) rfl 31 (.tmp 0) rfl R.list.toArray rfl ?_); intro w1 HB1 HW1 hz1)
    | ((with_reducible refine wpList_allocA (op := ⟨some 6, _, _, _, _, _⟩) rfl 31 rfl #[.int .u8 0, .int .u8 0, .int .u8 0, .int .u8 0, .int .u8 0, .int .u8 0, .int .u8 0, .int .u8 0, .int .u16 0, .int .u16 0] zero31 ?_); intro w2 HB2 HW2 hz2)
    | (go_at_call 102; refine (at_any w.heap.size i o hi (HC.out _) _).mono ?_; rintro e w3 ⟨rfl, hc, hf, hz, hb3⟩; clear hc hf hz; have HA3 := hid_ ((HB1.out.below HW2.out HB1.out.lt).below hb3 (Nat.lt_trans HB1.out.lt hz2)); have HB3 := hid_ (HB2.out.below hb3 HB2.out.lt); have HW3 := hid_ ((HW1.out.trans (HW2.out.mono HW1.out.size)).trans (hb3.mono (Nat.le_trans HW1.out.size HW2.out.size))))
    | ((with_reducible refine wpList_storeC (op := ⟨none, .store 5 (.tmp 16) (.tmp 15), _, _, _, _⟩) rfl 5 (.tmp 16) (.tmp 15) rfl w.heap.size o (by with_unfolding_all rfl) _ _ HA3.out (.int .u8 v) (by with_unfolding_all rfl) rfl size5 rfl (by simpa [Rg.list_length] using ho) R'.list.toArray HS.out ?_); intro w4 HA4 hs4; have HB4 := hid_ (HB3.out.step hs4.out (by omega)); have HW4 := hid_ (HW3.out.trans (hs4.out.below HW3.out.size (fun k hk => Nat.le_of_eq hk.symm))))
    | (with_reducible refine wpList_loadM (op := ⟨some 17, _, _, _, _, _⟩) rfl 31 (.tmp 3) rfl w.heap.size 0 (by with_unfolding_all rfl) _ _ HA4.out R'.list (by with_unfolding_all rfl) _ Tryz.underlying31 rfl (by with_unfolding_all exact size31) ?_)
    | ((with_reducible refine wpList_storeM (op := ⟨none, .store 31 (.tmp 6) (.tmp 17), _, _, _, _⟩) rfl 31 (.tmp 6) (.tmp 17) rfl w1.heap.size 0 (by with_unfolding_all rfl) _ _ HB4.out R'.list (by with_unfolding_all rfl) (by with_unfolding_all exact size31) O.out (by simp [Rg.list_length]) R'.list.toArray (by with_unfolding_all rfl) ?_); intro w5 HB5 hs5; have HW5 := hid_ (HW4.out.trans (hs5.out.below HW4.out.size (fun k hk => by have := HW1.out.size; omega)))))
  refine bodyPost_ret (v := .tuple #[.agg R'.list.toArray, .int .i64 0]) (results_cell_tmp Tryz.results93 rfl rfl (load_row HB5.out 31 _ Tryz.underlying31 rfl (by with_unfolding_all exact size31))) rfl (.of rfl HW5.out)
set_option maxHeartbeats 2000000 in
theorem pair_any (R : Rg) (n : Int) (i j : Nat) (hboth : ∀ (g : Nat) (w : World), Calls Tryz.prog 103 #[.pointer (some ⟨g, 0, none⟩), .int .i64 n] w (Ret (.tuple #[.pointer (some ⟨g, i, none⟩), .pointer (some ⟨g, j, none⟩)]) w))
    (hn0 : 0 ≤ n) (hn1 : n ≤ 2) (hi1 : i ≠ 1) (hj1 : j ≠ 1) (hj : j < 10) (x y : Int) (hx : R.list[i]? = some (.int .u8 x)) (hy : R.list[j]? = some (.int .u8 y)) (hx0 : 0 ≤ x) (hx1 : x ≤ 255) (hy0 : 0 ≤ y) (hy1 : y ≤ 255) (w : World) :
    Calls Tryz.prog 97 #[.agg R.list.toArray, .int .i64 n] w (Ret (.tuple #[.int .u16 (x * 256 + y), .int .i64 0]) w) := by
  have HT := hid_ hboth
  have HX := hid_ hx
  have HY := hid_ hy
  have hw := word_of x y hx0 hx1 hy0 hy1
  have q3 : decide (n = 3) = false := by simp; omega
  have q4 : (n == 3) = false := by simp; omega
  clear hboth hx hy
  go_enter Tryz.func97, Tryz.ntmps97
  go_wp2_with (first
    | ((with_reducible refine wpList_boxA (op := ⟨some 2, _, _, _, _, _⟩) rfl 31 (.tmp 0) rfl R.list.toArray rfl ?_); intro w1 HB1 HW1 hz1; have c1 := HB1.out.cell 1; have cc : R.list.toArray[1]? = some (.int .u8 R.f) := rfl; rw [cc] at c1; clear cc)
    | ((with_reducible refine wpList_storeC (op := ⟨none, .store 5 (.tmp 23) (.tmp 22), _, _, _, _⟩) rfl 5 (.tmp 23) (.tmp 22) rfl w.heap.size 1 (by with_unfolding_all rfl) _ _ HB1.out (.int .u8 (bits .and .u8 R.f 240)) (by with_unfolding_all rfl) rfl size5 rfl (by simp [Rg.list_length]) (R.list.set 1 (.int .u8 (bits .and .u8 R.f 240))).toArray (by simp) ?_); intro w2 HB2 hs2; have HW2 := hid_ (HW1.out.trans (hs2.out.below HW1.out.size (fun k hk => Nat.le_of_eq hk.symm))); clear c1)
    | (go_at_call 103; refine (HT.out w.heap.size _).mono ?_; rintro e w3 ⟨rfl, hc, hf, hz, hb3⟩; clear hc hf hz; have HB3 := hid_ (HB2.out.below hb3 HB2.out.lt); have HW3 := hid_ (HW2.out.trans (hb3.mono HW2.out.size)); have cx := (HB3.out.cell i).trans ((List.getElem?_toArray.trans (List.getElem?_set_ne (Ne.symm hi1))).trans HX.out); have cy := (HB3.out.cell j).trans ((List.getElem?_toArray.trans (List.getElem?_set_ne (Ne.symm hj1))).trans HY.out)))
  go_quiet (fail)
  go_wp2_with fail
  go_ret2
  exact .of rfl (below_drewN HW3.out _)
set_option maxHeartbeats 2000000 in
theorem setpair_any (R R' : Rg) (n : Int) (i j : Nat) (hboth : ∀ (g : Nat) (w : World), Calls Tryz.prog 103 #[.pointer (some ⟨g, 0, none⟩), .int .i64 n] w (Ret (.tuple #[.pointer (some ⟨g, i, none⟩), .pointer (some ⟨g, j, none⟩)]) w))
    (hn0 : 0 ≤ n) (hn1 : n ≤ 2) (hi : i < 10) (hj : j < 10) (x : Int) (hx0 : 0 ≤ x) (hx1 : x ≤ 65535) (hs : (R.list.set i (.int .u8 (x / 256))).set j (.int .u8 (x % 256)) = R'.list) (w : World) :
    Calls Tryz.prog 96 #[.agg R.list.toArray, .int .i64 n, .int .u16 x] w (Ret (.tuple #[.agg R'.list.toArray, .int .i64 0]) w) := by
  have HT := hid_ hboth
  have HS : Hid ((R.list.set i (.int .u8 (x / 256))).toArray.toList.set j (.int .u8 (x % 256)) = R'.list.toArray.toList) := hid_ (by simpa using hs)
  have O := hid_ R'.list_one
  have q3 : (n == 3) = false := by simp; omega
  have q4 : (n == 4) = false := by simp; omega
  have e1 : IntKind.u8.wrap (x / 256) = x / 256 := by simp [IntKind.wrap, IntKind.signed, IntKind.bits]; omega
  have e2 : IntKind.u8.wrap x = x % 256 := by simp [IntKind.wrap, IntKind.signed, IntKind.bits]
  clear hboth hs
  go_enter Tryz.func96, Tryz.ntmps96
  go_wp2_with (first
    | ((with_reducible refine wpList_boxA (op := ⟨some 3, _, _, _, _, _⟩) rfl 31 (.tmp 0) rfl R.list.toArray rfl ?_); intro w1 HB1 HW1 hz1)
    | ((with_reducible refine wpList_allocA (op := ⟨some 6, _, _, _, _, _⟩) rfl 31 rfl #[.int .u8 0, .int .u8 0, .int .u8 0, .int .u8 0, .int .u8 0, .int .u8 0, .int .u8 0, .int .u8 0, .int .u16 0, .int .u16 0] zero31 ?_); intro w2 HB2 HW2 hz2)
    | (go_at_call 103; refine (HT.out w.heap.size _).mono ?_; rintro e w3 ⟨rfl, hc, hf, hz, hb3⟩; clear hc hf hz; have HA3 := hid_ ((HB1.out.below HW2.out HB1.out.lt).below hb3 (Nat.lt_trans HB1.out.lt hz2)); have HB3 := hid_ (HB2.out.below hb3 HB2.out.lt); have HW3 := hid_ ((HW1.out.trans (HW2.out.mono HW1.out.size)).trans (hb3.mono (Nat.le_trans HW1.out.size HW2.out.size))))
    | ((with_reducible refine wpList_storeC (op := ⟨none, .store 5 (.tmp 41) (.tmp 38), _, _, _, _⟩) rfl 5 (.tmp 41) (.tmp 38) rfl w.heap.size i (by with_unfolding_all rfl) _ _ HA3.out (.int .u8 (x / 256)) (by with_unfolding_all rfl) rfl size5 rfl (by simpa [Rg.list_length] using hi) (R.list.set i (.int .u8 (x / 256))).toArray (by simp) ?_); intro w4 HA4 hs4; have HB4 := hid_ (HB3.out.step hs4.out (by omega)); have HW4 := hid_ (HW3.out.trans (hs4.out.below HW3.out.size (fun k hk => Nat.le_of_eq hk.symm))))
    | ((with_reducible refine wpList_storeC (op := ⟨none, .store 5 (.tmp 42) (.tmp 40), _, _, _, _⟩) rfl 5 (.tmp 42) (.tmp 40) rfl w.heap.size j (by with_unfolding_all rfl) _ _ HA4.out (.int .u8 (x % 256)) (by with_unfolding_all rfl) rfl size5 rfl (by simpa [Rg.list_length] using hj) R'.list.toArray HS.out ?_); intro w5 HA5 hs5; have HB5 := hid_ (HB4.out.step hs5.out (by omega)); have HW5 := hid_ (HW4.out.trans (hs5.out.below HW4.out.size (fun k hk => Nat.le_of_eq hk.symm))))
    | (with_reducible refine wpList_loadM (op := ⟨some 43, _, _, _, _, _⟩) rfl 31 (.tmp 3) rfl w.heap.size 0 (by with_unfolding_all rfl) _ _ HA5.out R'.list (by with_unfolding_all rfl) _ Tryz.underlying31 rfl (by with_unfolding_all exact size31) ?_)
    | ((with_reducible refine wpList_storeM (op := ⟨none, .store 31 (.tmp 6) (.tmp 43), _, _, _, _⟩) rfl 31 (.tmp 6) (.tmp 43) rfl w1.heap.size 0 (by with_unfolding_all rfl) _ _ HB5.out R'.list (by with_unfolding_all rfl) (by with_unfolding_all exact size31) O.out (by simp [Rg.list_length]) R'.list.toArray (by with_unfolding_all rfl) ?_); intro w6 HB6 hs6; have HW6 := hid_ (HW5.out.trans (hs6.out.below HW5.out.size (fun k hk => by have := HW1.out.size; omega)))))
  refine bodyPost_ret (v := .tuple #[.agg R'.list.toArray, .int .i64 0]) (results_cell_tmp Tryz.results96 rfl rfl (load_row HB6.out 31 _ Tryz.underlying31 rfl (by with_unfolding_all exact size31))) rfl (.of rfl HW6.out)
theorem is_always (R : Rg) (w : World) : Calls Tryz.prog 88 #[.agg R.list.toArray, .int .i64 4] w (Ret (.bool true) w) := by
  go_enter Tryz.func88, Tryz.ntmps88
  go_wp2_with (first
    | ((with_reducible refine wpList_boxA (op := ⟨some 2, _, _, _, _, _⟩) rfl 31 (.tmp 0) rfl R.list.toArray rfl ?_); intro w1 HB1 HW1 hz1))
  go_ret
  exact .of rfl HW1.out
theorem is_nz (R : Rg) (b : Bool) (hb : (bits .and .u8 R.f 128 != 0) = !b) (w : World) : Calls Tryz.prog 88 #[.agg R.list.toArray, .int .i64 0] w (Ret (.bool b) w) := by
  cases b
  all_goals
    go_enter Tryz.func88, Tryz.ntmps88
    go_wp2_with (first
      | ((with_reducible refine wpList_boxA (op := ⟨some 2, _, _, _, _, _⟩) rfl 31 (.tmp 0) rfl R.list.toArray rfl ?_); intro w1 HB1 HW1 hz1; have c1 := HB1.out.cell 1; have cc : R.list.toArray[1]? = some (.int .u8 R.f) := rfl; rw [cc] at c1; clear cc))
    go_ret
    exact .of rfl HW1.out
end Go.Proofs.YtglklbcohbeacaaGreat
