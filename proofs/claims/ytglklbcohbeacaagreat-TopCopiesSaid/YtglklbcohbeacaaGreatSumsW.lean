/- The walk of TopSums. -/
import Derived.Test.YtglklbcohbeacaaGreatSumsP
import Derived.IntWalk
namespace Go.Proofs.YtglklbcohbeacaaGreat
open Go.RowKit
set_option linter.unusedSimpArgs false
set_option linter.unusedVariables false
theorem own_below {w w' : World} {B e s n : Nat} {v : Value} {xs : List Value} (h : w.ownsRow B e s v n xs) (hb : Below w.heap.size w w') : w'.ownsRow B e s v n xs := by
  refine ⟨h.1, ?_⟩
  rcases h.2 with hn | ⟨g, cap, cur, rfl, hB, hg, rest⟩
  · exact .inl hn
  · exact .inr ⟨g, cap, cur, rfl, hB, (hb.block g (Array.getElem?_eq_some_iff.1 hg).1).trans hg, rest⟩
theorem own_weak {w : World} {B e s n : Nat} {v : Value} {xs : List Value} (h : w.ownsRow B e s v n xs) : w.ownsRow 0 e s v n xs := by
  refine ⟨h.1, ?_⟩
  rcases h.2 with hn | ⟨g, cap, cur, hv, hB, rest⟩
  · exact .inl hn
  · exact .inr ⟨g, cap, cur, hv, Nat.zero_le _, rest⟩
theorem row_all {w : World} {a : Option Addr} {len : Nat} {zs : List Int} (h : IsRow .u8 w a len zs) (j : Nat) : 0 ≤ zs.getD j 0 ∧ zs.getD j 0 ≤ 255 := by
  rcases Nat.lt_or_ge j zs.length with hj | hj
  · have := h.2.1 (zs.getD j 0) (by rw [List.getD_eq_getElem?_getD, List.getElem?_eq_getElem hj]; exact List.getElem_mem _)
    simpa [Lit.wf, IntKind.min, IntKind.max, IntKind.signed, IntKind.bits] using this
  · rw [List.getD_eq_getElem?_getD, List.getElem?_eq_none hj]; decide
theorem st0 (R : Rg) : (stL R).toArray[0]? = some (.int .u8 R.a) := rfl
theorem st1_ (R : Rg) : (stL R).toArray[1]? = some (.int .u8 R.f) := rfl
theorem st2 (R : Rg) : (stL R).toArray[2]? = some (.int .u8 R.b) := rfl
theorem st9 (R : Rg) : (stL R).toArray[9]? = some (.int .u16 R.pc) := rfl
theorem two_cells {w : World} {g : Nat} {a b : Value} (h : Blk w g 5 #[a, b]) : ∀ j u, ([a, b] : List Value)[j]? = some u → w.cell? ((⟨g, 0, none⟩ : Addr).add j) = some u := by
  intro j u hj
  match j, hj with
  | 0, hj => rw [show (⟨g, 0, none⟩ : Addr).add 0 = ⟨g, 0, none⟩ from rfl, h.cell 0]; simpa using hj
  | 1, hj => rw [show (⟨g, 0, none⟩ : Addr).add 1 = ⟨g, 1, none⟩ from rfl, h.cell 1]; simpa using hj
  | j + 2, hj => simp at hj
set_option maxRecDepth 100000 in
set_option maxHeartbeats 8000000 in
theorem sums_any (w : World) (s0 : Option Addr) (len0 cap0 : Nat) (ks : List Int) (s1 : Option Addr) (n cap1 : Nat) (ls : List Int) (h0 : IsRow .u8 w s0 len0 ks) (h1 : IsRow .u8 w s1 n ls) :
    Calls Tryz.prog 3 #[.slice s0 len0 cap0, .slice s1 n cap1] w (Ret (.bool true) w) := by
  have HK : Hid (Below w.heap.size w w) := Below.refl _ _
  obtain ⟨i0, hi0, hz0, hz1, hz2⟩ := info_parts byte_info
  have hnot : ∀ (x : Bool) (w : World), (Op.unary .not (.bool x)).run Tryz.prog w = .ok (.bool (!x)) w := fun _ _ => rfl
  have HR0 := hid_ h0
  have HR1 := hid_ h1
  clear h0 h1
  by_cases hA : 60 < n
  · have q60 : (60 : Int) < (n : Int) := by omega
    go_enter Tryz.func3, Tryz.ntmps3
    go_wp2_with (first
      | (go_at_call 5; refine (awake_any _).mono ?_; rintro e wa ⟨rfl, hc, hf, hz, hb⟩; clear hc hf hz; replace HK := hid_ (HK.out.trans (hb.mono HK.out.size)); clear hb))
    go_ret
    exact .of rfl HK.out
  · have q60 : ¬ (60 : Int) < (n : Int) := by omega
    by_cases hB : len0 < n
    · have qk : (len0 : Int) < (n : Int) := by omega
      go_enter Tryz.func3, Tryz.ntmps3
      go_wp2_with (first
        | (go_at_call 5; refine (awake_any _).mono ?_; rintro e wa ⟨rfl, hc, hf, hz, hb⟩; clear hc hf hz; replace HK := hid_ (HK.out.trans (hb.mono HK.out.size)); clear hb))
      go_ret
      exact .of rfl HK.out
    · have qk : ¬ (len0 : Int) < (n : Int) := by omega
      have hl := row_all HR1.out
      go_enter Tryz.func3, Tryz.ntmps3
      go_wp2_with (first
        | (go_at_call 5; refine (awake_any _).mono ?_; rintro e wa ⟨rfl, hc, hf, hz, hb⟩; clear hc hf hz; replace HK := hid_ (HK.out.trans (hb.mono HK.out.size)); clear hb))
      go_loopw [5, 6, 7, 31] (fun a f p i wr => ∃ j : Nat, j ≤ n ∧ a = .int .u8 (afOf ks ls j).1 ∧ f = .int .u8 (afOf ks ls j).2 ∧ i = .int .i64 j ∧ Hid (wr.ownsRow w.heap.size 5 1 p (2 * j) ((pzOf ks ls j).map (Value.int .u8))) ∧ Hid (Below w.heap.size w wr)) (fun _ _ _ i _ => n - (intOf i).toNat)
      case atStart => exact ⟨0, by omega, rfl, rfl, rfl, hid_ (World.ownsRow_nil _ _ _ _), HK⟩
      case round =>
        clear HK
        obtain ⟨j, hj, rfl, rfl, rfl, HO, HKr⟩ := hrel
        by_cases hlt : j < n
        · obtain ⟨b0_, off0, rfl, hb0, hc0⟩ := HR0.out.at_ (by omega)
          obtain ⟨b1_, off1, rfl, hb1, hc1⟩ := HR1.out.at_ (by omega)
          obtain ⟨x, hx, x0, x1, cx0⟩ := hc0 j (by omega)
          obtain ⟨y, hy, y0, y1, cy0⟩ := hc1 j (by omega)
          have hb1r : b1_ < wr.heap.size := Nat.lt_of_lt_of_le hb1 HKr.out.size
          have cx := (HKr.out.cell (p := ⟨b0_, off0 + j, none⟩) hb0).trans cx0
          have cy := (HKr.out.cell (p := ⟨b1_, off1 + j, none⟩) hb1).trans cy0
          replace cy0 := hid_ cy0
          clear hc0 hc1 cx0
          obtain ⟨b1, b2⟩ := afOf_bd ks ls j
          obtain ⟨A, hA⟩ : ∃ A, (afOf ks ls j).1 = A := ⟨_, rfl⟩
          obtain ⟨F, hF⟩ : ∃ F, (afOf ks ls j).2 = F := ⟨_, rfl⟩
          rw [hA] at b1 ⊢
          rw [hF] at b2 ⊢
          have i0' : (0 : Int) ≤ (j : Int) := by omega
          have i1 : (j : Int) < (n : Int) := by omega
          have i2 : (j : Int) < (len0 : Int) := by omega
          have hkx : kOf ks j = (x % 8).toNat := by unfold kOf; rw [hx]
          clear hx
          obtain ⟨k, hk8, hkj⟩ : ∃ k : Nat, x % 8 = (k : Int) ∧ kOf ks j = k := ⟨(x % 8).toNat, by omega, hkx⟩
          clear hkx
          have hk9 : k < 8 := by omega
          have htm : Int.tmod x 8 = (k : Int) := by rw [Int.tmod_eq_emod_of_nonneg x0]; exact hk8
          rcases (by omega : k = 0 ∨ k = 1 ∨ k = 2 ∨ k = 3 ∨ k = 4 ∨ k = 5 ∨ k = 6 ∨ k = 7) with rfl | rfl | rfl | rfl | rfl | rfl | rfl | rfl
          · obtain hc | hc : (bits .and .u8 F 16 != 0) = true ∨ (bits .and .u8 F 16 != 0) = false := by cases bits .and .u8 F 16 != 0 <;> simp
            · have hst : afOf ks ls (j + 1) = sumV 0 A F y := by rw [afOf, hkj, hA, hF, hy]
              have hpz : pzOf ks ls (j + 1) = pzOf ks ls j ++ [198, y] := by rw [pzOf, hkj, hy]; rfl
              have HST := hid_ hst
              have HPZ := hid_ hpz
              clear hst hpz hkj hy hA hF
              have hcf : cF F = true := hc
              have HCF := hid_ hcf
              clear hcf
              go_wp2_with (first
                | ((with_reducible refine wpList_bslice (o := ⟨some 49, _, _, _, _, _⟩) rfl 22 5 2 _ rfl #[.int .u8 198, .int .u8 y] i0 _ Tryz.underlying22 hi0 hz0 1 hz1 (by decide) (by decide) (by kernel_rfl) ?_); intro w1 HB1 HW1 hq1; have HO1 := hid_ (own_below HO.out HW1.out); have HK1 := hid_ (HKr.out.trans (HW1.out.mono HKr.out.size)); have cy1 := (HW1.out.cell (p := ⟨b1_, off1 + j, none⟩) hb1r).trans cy; clear cx cy)
                | (at_builtin; refine wpList_append_own _ rfl _ _ 22 rfl w.heap.size 5 i0 (.int .u8 0) 1 1 Tryz.underlying22 hi0 hz0 hz1 hz2 rfl (by decide) _ (2 * j) _ rfl HO1.out ⟨wr.heap.size, 0, none⟩ 2 2 [.int .u8 198, .int .u8 y] rfl rfl (two_cells HB1.out) (by simp [Value.oneCell']) (by unfold maxLen; omega) (by omega) HK1.out.size ?_; intro p' w2 ho2 hg2 _; have HO2 := hid_ ho2; have HK2 := hid_ (HK1.out.grown hg2 HK1.out.size (fun k hk => (HO1.out.lt k hk).1)); have cy := (HK2.out.cell (p := ⟨b1_, off1 + j, none⟩) hb1).trans cy0.out; clear cy1 ho2 hg2)
                | (go_at_call 6; refine (add_any A y false b1.1 b1.2 y0 y1 _).mono ?_; rintro e w3 ⟨rfl, rfl⟩; simp only [two]))
              go_roundw
              case rel =>
                refine ⟨j + 1, by omega, ?_, ?_, by go_num, ?_, HK2⟩
                · rw [HST.out]; first | rfl | (unfold sumV; rw [HCF.out]; rfl)
                · rw [HST.out]; first | rfl | (unfold sumV; rw [HCF.out]; rfl)
                · have := HO2.out
                  rw [HPZ.out, List.map_append]
                  exact hid_ this
              case measure => simp [intOf]; omega
            · have hst : afOf ks ls (j + 1) = sumV 0 A F y := by rw [afOf, hkj, hA, hF, hy]
              have hpz : pzOf ks ls (j + 1) = pzOf ks ls j ++ [198, y] := by rw [pzOf, hkj, hy]; rfl
              have HST := hid_ hst
              have HPZ := hid_ hpz
              clear hst hpz hkj hy hA hF
              have hcf : cF F = false := hc
              have HCF := hid_ hcf
              clear hcf
              go_wp2_with (first
                | ((with_reducible refine wpList_bslice (o := ⟨some 49, _, _, _, _, _⟩) rfl 22 5 2 _ rfl #[.int .u8 198, .int .u8 y] i0 _ Tryz.underlying22 hi0 hz0 1 hz1 (by decide) (by decide) (by kernel_rfl) ?_); intro w1 HB1 HW1 hq1; have HO1 := hid_ (own_below HO.out HW1.out); have HK1 := hid_ (HKr.out.trans (HW1.out.mono HKr.out.size)); have cy1 := (HW1.out.cell (p := ⟨b1_, off1 + j, none⟩) hb1r).trans cy; clear cx cy)
                | (at_builtin; refine wpList_append_own _ rfl _ _ 22 rfl w.heap.size 5 i0 (.int .u8 0) 1 1 Tryz.underlying22 hi0 hz0 hz1 hz2 rfl (by decide) _ (2 * j) _ rfl HO1.out ⟨wr.heap.size, 0, none⟩ 2 2 [.int .u8 198, .int .u8 y] rfl rfl (two_cells HB1.out) (by simp [Value.oneCell']) (by unfold maxLen; omega) (by omega) HK1.out.size ?_; intro p' w2 ho2 hg2 _; have HO2 := hid_ ho2; have HK2 := hid_ (HK1.out.grown hg2 HK1.out.size (fun k hk => (HO1.out.lt k hk).1)); have cy := (HK2.out.cell (p := ⟨b1_, off1 + j, none⟩) hb1).trans cy0.out; clear cy1 ho2 hg2)
                | (go_at_call 6; refine (add_any A y false b1.1 b1.2 y0 y1 _).mono ?_; rintro e w3 ⟨rfl, rfl⟩; simp only [two]))
              go_roundw
              case rel =>
                refine ⟨j + 1, by omega, ?_, ?_, by go_num, ?_, HK2⟩
                · rw [HST.out]; first | rfl | (unfold sumV; rw [HCF.out]; rfl)
                · rw [HST.out]; first | rfl | (unfold sumV; rw [HCF.out]; rfl)
                · have := HO2.out
                  rw [HPZ.out, List.map_append]
                  exact hid_ this
              case measure => simp [intOf]; omega
          · obtain hc | hc : (bits .and .u8 F 16 != 0) = true ∨ (bits .and .u8 F 16 != 0) = false := by cases bits .and .u8 F 16 != 0 <;> simp
            · have hst : afOf ks ls (j + 1) = sumV 1 A F y := by rw [afOf, hkj, hA, hF, hy]
              have hpz : pzOf ks ls (j + 1) = pzOf ks ls j ++ [206, y] := by rw [pzOf, hkj, hy]; rfl
              have HST := hid_ hst
              have HPZ := hid_ hpz
              clear hst hpz hkj hy hA hF
              have hcf : cF F = true := hc
              have HCF := hid_ hcf
              clear hcf
              go_wp2_with (first
                | ((with_reducible refine wpList_bslice (o := ⟨some 49, _, _, _, _, _⟩) rfl 22 5 2 _ rfl #[.int .u8 206, .int .u8 y] i0 _ Tryz.underlying22 hi0 hz0 1 hz1 (by decide) (by decide) (by kernel_rfl) ?_); intro w1 HB1 HW1 hq1; have HO1 := hid_ (own_below HO.out HW1.out); have HK1 := hid_ (HKr.out.trans (HW1.out.mono HKr.out.size)); have cy1 := (HW1.out.cell (p := ⟨b1_, off1 + j, none⟩) hb1r).trans cy; clear cx cy)
                | (at_builtin; refine wpList_append_own _ rfl _ _ 22 rfl w.heap.size 5 i0 (.int .u8 0) 1 1 Tryz.underlying22 hi0 hz0 hz1 hz2 rfl (by decide) _ (2 * j) _ rfl HO1.out ⟨wr.heap.size, 0, none⟩ 2 2 [.int .u8 206, .int .u8 y] rfl rfl (two_cells HB1.out) (by simp [Value.oneCell']) (by unfold maxLen; omega) (by omega) HK1.out.size ?_; intro p' w2 ho2 hg2 _; have HO2 := hid_ ho2; have HK2 := hid_ (HK1.out.grown hg2 HK1.out.size (fun k hk => (HO1.out.lt k hk).1)); have cy := (HK2.out.cell (p := ⟨b1_, off1 + j, none⟩) hb1).trans cy0.out; clear cy1 ho2 hg2)
                | (go_at_call 6; refine (add_any A y true b1.1 b1.2 y0 y1 _).mono ?_; rintro e w3 ⟨rfl, rfl⟩; simp only [two]))
              go_roundw
              case rel =>
                refine ⟨j + 1, by omega, ?_, ?_, by go_num, ?_, HK2⟩
                · rw [HST.out]; first | rfl | (unfold sumV; rw [HCF.out]; rfl)
                · rw [HST.out]; first | rfl | (unfold sumV; rw [HCF.out]; rfl)
                · have := HO2.out
                  rw [HPZ.out, List.map_append]
                  exact hid_ this
              case measure => simp [intOf]; omega
            · have hst : afOf ks ls (j + 1) = sumV 1 A F y := by rw [afOf, hkj, hA, hF, hy]
              have hpz : pzOf ks ls (j + 1) = pzOf ks ls j ++ [206, y] := by rw [pzOf, hkj, hy]; rfl
              have HST := hid_ hst
              have HPZ := hid_ hpz
              clear hst hpz hkj hy hA hF
              have hcf : cF F = false := hc
              have HCF := hid_ hcf
              clear hcf
              go_wp2_with (first
                | ((with_reducible refine wpList_bslice (o := ⟨some 49, _, _, _, _, _⟩) rfl 22 5 2 _ rfl #[.int .u8 206, .int .u8 y] i0 _ Tryz.underlying22 hi0 hz0 1 hz1 (by decide) (by decide) (by kernel_rfl) ?_); intro w1 HB1 HW1 hq1; have HO1 := hid_ (own_below HO.out HW1.out); have HK1 := hid_ (HKr.out.trans (HW1.out.mono HKr.out.size)); have cy1 := (HW1.out.cell (p := ⟨b1_, off1 + j, none⟩) hb1r).trans cy; clear cx cy)
                | (at_builtin; refine wpList_append_own _ rfl _ _ 22 rfl w.heap.size 5 i0 (.int .u8 0) 1 1 Tryz.underlying22 hi0 hz0 hz1 hz2 rfl (by decide) _ (2 * j) _ rfl HO1.out ⟨wr.heap.size, 0, none⟩ 2 2 [.int .u8 206, .int .u8 y] rfl rfl (two_cells HB1.out) (by simp [Value.oneCell']) (by unfold maxLen; omega) (by omega) HK1.out.size ?_; intro p' w2 ho2 hg2 _; have HO2 := hid_ ho2; have HK2 := hid_ (HK1.out.grown hg2 HK1.out.size (fun k hk => (HO1.out.lt k hk).1)); have cy := (HK2.out.cell (p := ⟨b1_, off1 + j, none⟩) hb1).trans cy0.out; clear cy1 ho2 hg2)
                | (go_at_call 6; refine (add_any A y false b1.1 b1.2 y0 y1 _).mono ?_; rintro e w3 ⟨rfl, rfl⟩; simp only [two]))
              go_roundw
              case rel =>
                refine ⟨j + 1, by omega, ?_, ?_, by go_num, ?_, HK2⟩
                · rw [HST.out]; first | rfl | (unfold sumV; rw [HCF.out]; rfl)
                · rw [HST.out]; first | rfl | (unfold sumV; rw [HCF.out]; rfl)
                · have := HO2.out
                  rw [HPZ.out, List.map_append]
                  exact hid_ this
              case measure => simp [intOf]; omega
          · obtain hc | hc : (bits .and .u8 F 16 != 0) = true ∨ (bits .and .u8 F 16 != 0) = false := by cases bits .and .u8 F 16 != 0 <;> simp
            · have hst : afOf ks ls (j + 1) = sumV 2 A F y := by rw [afOf, hkj, hA, hF, hy]
              have hpz : pzOf ks ls (j + 1) = pzOf ks ls j ++ [214, y] := by rw [pzOf, hkj, hy]; rfl
              have HST := hid_ hst
              have HPZ := hid_ hpz
              clear hst hpz hkj hy hA hF
              have hcf : cF F = true := hc
              have HCF := hid_ hcf
              clear hcf
              go_wp2_with (first
                | ((with_reducible refine wpList_bslice (o := ⟨some 49, _, _, _, _, _⟩) rfl 22 5 2 _ rfl #[.int .u8 214, .int .u8 y] i0 _ Tryz.underlying22 hi0 hz0 1 hz1 (by decide) (by decide) (by kernel_rfl) ?_); intro w1 HB1 HW1 hq1; have HO1 := hid_ (own_below HO.out HW1.out); have HK1 := hid_ (HKr.out.trans (HW1.out.mono HKr.out.size)); have cy1 := (HW1.out.cell (p := ⟨b1_, off1 + j, none⟩) hb1r).trans cy; clear cx cy)
                | (at_builtin; refine wpList_append_own _ rfl _ _ 22 rfl w.heap.size 5 i0 (.int .u8 0) 1 1 Tryz.underlying22 hi0 hz0 hz1 hz2 rfl (by decide) _ (2 * j) _ rfl HO1.out ⟨wr.heap.size, 0, none⟩ 2 2 [.int .u8 214, .int .u8 y] rfl rfl (two_cells HB1.out) (by simp [Value.oneCell']) (by unfold maxLen; omega) (by omega) HK1.out.size ?_; intro p' w2 ho2 hg2 _; have HO2 := hid_ ho2; have HK2 := hid_ (HK1.out.grown hg2 HK1.out.size (fun k hk => (HO1.out.lt k hk).1)); have cy := (HK2.out.cell (p := ⟨b1_, off1 + j, none⟩) hb1).trans cy0.out; clear cy1 ho2 hg2)
                | (go_at_call 7; refine (sub_any A y false b1.1 b1.2 y0 y1 _).mono ?_; rintro e w3 ⟨rfl, rfl⟩; simp only [two]))
              go_roundw
              case rel =>
                refine ⟨j + 1, by omega, ?_, ?_, by go_num, ?_, HK2⟩
                · rw [HST.out]; first | rfl | (unfold sumV; rw [HCF.out]; rfl)
                · rw [HST.out]; first | rfl | (unfold sumV; rw [HCF.out]; rfl)
                · have := HO2.out
                  rw [HPZ.out, List.map_append]
                  exact hid_ this
              case measure => simp [intOf]; omega
            · have hst : afOf ks ls (j + 1) = sumV 2 A F y := by rw [afOf, hkj, hA, hF, hy]
              have hpz : pzOf ks ls (j + 1) = pzOf ks ls j ++ [214, y] := by rw [pzOf, hkj, hy]; rfl
              have HST := hid_ hst
              have HPZ := hid_ hpz
              clear hst hpz hkj hy hA hF
              have hcf : cF F = false := hc
              have HCF := hid_ hcf
              clear hcf
              go_wp2_with (first
                | ((with_reducible refine wpList_bslice (o := ⟨some 49, _, _, _, _, _⟩) rfl 22 5 2 _ rfl #[.int .u8 214, .int .u8 y] i0 _ Tryz.underlying22 hi0 hz0 1 hz1 (by decide) (by decide) (by kernel_rfl) ?_); intro w1 HB1 HW1 hq1; have HO1 := hid_ (own_below HO.out HW1.out); have HK1 := hid_ (HKr.out.trans (HW1.out.mono HKr.out.size)); have cy1 := (HW1.out.cell (p := ⟨b1_, off1 + j, none⟩) hb1r).trans cy; clear cx cy)
                | (at_builtin; refine wpList_append_own _ rfl _ _ 22 rfl w.heap.size 5 i0 (.int .u8 0) 1 1 Tryz.underlying22 hi0 hz0 hz1 hz2 rfl (by decide) _ (2 * j) _ rfl HO1.out ⟨wr.heap.size, 0, none⟩ 2 2 [.int .u8 214, .int .u8 y] rfl rfl (two_cells HB1.out) (by simp [Value.oneCell']) (by unfold maxLen; omega) (by omega) HK1.out.size ?_; intro p' w2 ho2 hg2 _; have HO2 := hid_ ho2; have HK2 := hid_ (HK1.out.grown hg2 HK1.out.size (fun k hk => (HO1.out.lt k hk).1)); have cy := (HK2.out.cell (p := ⟨b1_, off1 + j, none⟩) hb1).trans cy0.out; clear cy1 ho2 hg2)
                | (go_at_call 7; refine (sub_any A y false b1.1 b1.2 y0 y1 _).mono ?_; rintro e w3 ⟨rfl, rfl⟩; simp only [two]))
              go_roundw
              case rel =>
                refine ⟨j + 1, by omega, ?_, ?_, by go_num, ?_, HK2⟩
                · rw [HST.out]; first | rfl | (unfold sumV; rw [HCF.out]; rfl)
                · rw [HST.out]; first | rfl | (unfold sumV; rw [HCF.out]; rfl)
                · have := HO2.out
                  rw [HPZ.out, List.map_append]
                  exact hid_ this
              case measure => simp [intOf]; omega
          · obtain hc | hc : (bits .and .u8 F 16 != 0) = true ∨ (bits .and .u8 F 16 != 0) = false := by cases bits .and .u8 F 16 != 0 <;> simp
            · have hst : afOf ks ls (j + 1) = sumV 3 A F y := by rw [afOf, hkj, hA, hF, hy]
              have hpz : pzOf ks ls (j + 1) = pzOf ks ls j ++ [222, y] := by rw [pzOf, hkj, hy]; rfl
              have HST := hid_ hst
              have HPZ := hid_ hpz
              clear hst hpz hkj hy hA hF
              have hcf : cF F = true := hc
              have HCF := hid_ hcf
              clear hcf
              go_wp2_with (first
                | ((with_reducible refine wpList_bslice (o := ⟨some 49, _, _, _, _, _⟩) rfl 22 5 2 _ rfl #[.int .u8 222, .int .u8 y] i0 _ Tryz.underlying22 hi0 hz0 1 hz1 (by decide) (by decide) (by kernel_rfl) ?_); intro w1 HB1 HW1 hq1; have HO1 := hid_ (own_below HO.out HW1.out); have HK1 := hid_ (HKr.out.trans (HW1.out.mono HKr.out.size)); have cy1 := (HW1.out.cell (p := ⟨b1_, off1 + j, none⟩) hb1r).trans cy; clear cx cy)
                | (at_builtin; refine wpList_append_own _ rfl _ _ 22 rfl w.heap.size 5 i0 (.int .u8 0) 1 1 Tryz.underlying22 hi0 hz0 hz1 hz2 rfl (by decide) _ (2 * j) _ rfl HO1.out ⟨wr.heap.size, 0, none⟩ 2 2 [.int .u8 222, .int .u8 y] rfl rfl (two_cells HB1.out) (by simp [Value.oneCell']) (by unfold maxLen; omega) (by omega) HK1.out.size ?_; intro p' w2 ho2 hg2 _; have HO2 := hid_ ho2; have HK2 := hid_ (HK1.out.grown hg2 HK1.out.size (fun k hk => (HO1.out.lt k hk).1)); have cy := (HK2.out.cell (p := ⟨b1_, off1 + j, none⟩) hb1).trans cy0.out; clear cy1 ho2 hg2)
                | (go_at_call 7; refine (sub_any A y true b1.1 b1.2 y0 y1 _).mono ?_; rintro e w3 ⟨rfl, rfl⟩; simp only [two]))
              go_roundw
              case rel =>
                refine ⟨j + 1, by omega, ?_, ?_, by go_num, ?_, HK2⟩
                · rw [HST.out]; first | rfl | (unfold sumV; rw [HCF.out]; rfl)
                · rw [HST.out]; first | rfl | (unfold sumV; rw [HCF.out]; rfl)
                · have := HO2.out
                  rw [HPZ.out, List.map_append]
                  exact hid_ this
              case measure => simp [intOf]; omega
            · have hst : afOf ks ls (j + 1) = sumV 3 A F y := by rw [afOf, hkj, hA, hF, hy]
              have hpz : pzOf ks ls (j + 1) = pzOf ks ls j ++ [222, y] := by rw [pzOf, hkj, hy]; rfl
              have HST := hid_ hst
              have HPZ := hid_ hpz
              clear hst hpz hkj hy hA hF
              have hcf : cF F = false := hc
              have HCF := hid_ hcf
              clear hcf
              go_wp2_with (first
                | ((with_reducible refine wpList_bslice (o := ⟨some 49, _, _, _, _, _⟩) rfl 22 5 2 _ rfl #[.int .u8 222, .int .u8 y] i0 _ Tryz.underlying22 hi0 hz0 1 hz1 (by decide) (by decide) (by kernel_rfl) ?_); intro w1 HB1 HW1 hq1; have HO1 := hid_ (own_below HO.out HW1.out); have HK1 := hid_ (HKr.out.trans (HW1.out.mono HKr.out.size)); have cy1 := (HW1.out.cell (p := ⟨b1_, off1 + j, none⟩) hb1r).trans cy; clear cx cy)
                | (at_builtin; refine wpList_append_own _ rfl _ _ 22 rfl w.heap.size 5 i0 (.int .u8 0) 1 1 Tryz.underlying22 hi0 hz0 hz1 hz2 rfl (by decide) _ (2 * j) _ rfl HO1.out ⟨wr.heap.size, 0, none⟩ 2 2 [.int .u8 222, .int .u8 y] rfl rfl (two_cells HB1.out) (by simp [Value.oneCell']) (by unfold maxLen; omega) (by omega) HK1.out.size ?_; intro p' w2 ho2 hg2 _; have HO2 := hid_ ho2; have HK2 := hid_ (HK1.out.grown hg2 HK1.out.size (fun k hk => (HO1.out.lt k hk).1)); have cy := (HK2.out.cell (p := ⟨b1_, off1 + j, none⟩) hb1).trans cy0.out; clear cy1 ho2 hg2)
                | (go_at_call 7; refine (sub_any A y false b1.1 b1.2 y0 y1 _).mono ?_; rintro e w3 ⟨rfl, rfl⟩; simp only [two]))
              go_roundw
              case rel =>
                refine ⟨j + 1, by omega, ?_, ?_, by go_num, ?_, HK2⟩
                · rw [HST.out]; first | rfl | (unfold sumV; rw [HCF.out]; rfl)
                · rw [HST.out]; first | rfl | (unfold sumV; rw [HCF.out]; rfl)
                · have := HO2.out
                  rw [HPZ.out, List.map_append]
                  exact hid_ this
              case measure => simp [intOf]; omega
          · have hst : afOf ks ls (j + 1) = sumV 4 A F y := by rw [afOf, hkj, hA, hF, hy]
            have hpz : pzOf ks ls (j + 1) = pzOf ks ls j ++ [230, y] := by rw [pzOf, hkj, hy]; rfl
            have HST := hid_ hst
            have HPZ := hid_ hpz
            clear hst hpz hkj hy hA hF
            go_wp2_with (first
              | ((with_reducible refine wpList_bslice (o := ⟨some 49, _, _, _, _, _⟩) rfl 22 5 2 _ rfl #[.int .u8 230, .int .u8 y] i0 _ Tryz.underlying22 hi0 hz0 1 hz1 (by decide) (by decide) (by kernel_rfl) ?_); intro w1 HB1 HW1 hq1; have HO1 := hid_ (own_below HO.out HW1.out); have HK1 := hid_ (HKr.out.trans (HW1.out.mono HKr.out.size)); have cy1 := (HW1.out.cell (p := ⟨b1_, off1 + j, none⟩) hb1r).trans cy; clear cx cy)
              | (at_builtin; refine wpList_append_own _ rfl _ _ 22 rfl w.heap.size 5 i0 (.int .u8 0) 1 1 Tryz.underlying22 hi0 hz0 hz1 hz2 rfl (by decide) _ (2 * j) _ rfl HO1.out ⟨wr.heap.size, 0, none⟩ 2 2 [.int .u8 230, .int .u8 y] rfl rfl (two_cells HB1.out) (by simp [Value.oneCell']) (by unfold maxLen; omega) (by omega) HK1.out.size ?_; intro p' w2 ho2 hg2 _; have HO2 := hid_ ho2; have HK2 := hid_ (HK1.out.grown hg2 HK1.out.size (fun k hk => (HO1.out.lt k hk).1)); have cy := (HK2.out.cell (p := ⟨b1_, off1 + j, none⟩) hb1).trans cy0.out; clear cy1 ho2 hg2)
              | (go_at_call 8; refine (and_any A y _).mono ?_; rintro e w3 ⟨rfl, rfl⟩; simp only [two]))
            go_roundw
            case rel =>
              refine ⟨j + 1, by omega, ?_, ?_, by go_num, ?_, HK2⟩
              · rw [HST.out]; rfl
              · rw [HST.out]; rfl
              · have := HO2.out
                rw [HPZ.out, List.map_append]
                exact hid_ this
            case measure => simp [intOf]; omega
          · have hst : afOf ks ls (j + 1) = sumV 5 A F y := by rw [afOf, hkj, hA, hF, hy]
            have hpz : pzOf ks ls (j + 1) = pzOf ks ls j ++ [238, y] := by rw [pzOf, hkj, hy]; rfl
            have HST := hid_ hst
            have HPZ := hid_ hpz
            clear hst hpz hkj hy hA hF
            go_wp2_with (first
              | ((with_reducible refine wpList_bslice (o := ⟨some 49, _, _, _, _, _⟩) rfl 22 5 2 _ rfl #[.int .u8 238, .int .u8 y] i0 _ Tryz.underlying22 hi0 hz0 1 hz1 (by decide) (by decide) (by kernel_rfl) ?_); intro w1 HB1 HW1 hq1; have HO1 := hid_ (own_below HO.out HW1.out); have HK1 := hid_ (HKr.out.trans (HW1.out.mono HKr.out.size)); have cy1 := (HW1.out.cell (p := ⟨b1_, off1 + j, none⟩) hb1r).trans cy; clear cx cy)
              | (at_builtin; refine wpList_append_own _ rfl _ _ 22 rfl w.heap.size 5 i0 (.int .u8 0) 1 1 Tryz.underlying22 hi0 hz0 hz1 hz2 rfl (by decide) _ (2 * j) _ rfl HO1.out ⟨wr.heap.size, 0, none⟩ 2 2 [.int .u8 238, .int .u8 y] rfl rfl (two_cells HB1.out) (by simp [Value.oneCell']) (by unfold maxLen; omega) (by omega) HK1.out.size ?_; intro p' w2 ho2 hg2 _; have HO2 := hid_ ho2; have HK2 := hid_ (HK1.out.grown hg2 HK1.out.size (fun k hk => (HO1.out.lt k hk).1)); have cy := (HK2.out.cell (p := ⟨b1_, off1 + j, none⟩) hb1).trans cy0.out; clear cy1 ho2 hg2)
              | (go_at_call 9; refine (xor_any A y _).mono ?_; rintro e w3 ⟨rfl, rfl⟩; simp only [two]))
            go_roundw
            case rel =>
              refine ⟨j + 1, by omega, ?_, ?_, by go_num, ?_, HK2⟩
              · rw [HST.out]; rfl
              · rw [HST.out]; rfl
              · have := HO2.out
                rw [HPZ.out, List.map_append]
                exact hid_ this
            case measure => simp [intOf]; omega
          · have hst : afOf ks ls (j + 1) = sumV 6 A F y := by rw [afOf, hkj, hA, hF, hy]
            have hpz : pzOf ks ls (j + 1) = pzOf ks ls j ++ [246, y] := by rw [pzOf, hkj, hy]; rfl
            have HST := hid_ hst
            have HPZ := hid_ hpz
            clear hst hpz hkj hy hA hF
            go_wp2_with (first
              | ((with_reducible refine wpList_bslice (o := ⟨some 49, _, _, _, _, _⟩) rfl 22 5 2 _ rfl #[.int .u8 246, .int .u8 y] i0 _ Tryz.underlying22 hi0 hz0 1 hz1 (by decide) (by decide) (by kernel_rfl) ?_); intro w1 HB1 HW1 hq1; have HO1 := hid_ (own_below HO.out HW1.out); have HK1 := hid_ (HKr.out.trans (HW1.out.mono HKr.out.size)); have cy1 := (HW1.out.cell (p := ⟨b1_, off1 + j, none⟩) hb1r).trans cy; clear cx cy)
              | (at_builtin; refine wpList_append_own _ rfl _ _ 22 rfl w.heap.size 5 i0 (.int .u8 0) 1 1 Tryz.underlying22 hi0 hz0 hz1 hz2 rfl (by decide) _ (2 * j) _ rfl HO1.out ⟨wr.heap.size, 0, none⟩ 2 2 [.int .u8 246, .int .u8 y] rfl rfl (two_cells HB1.out) (by simp [Value.oneCell']) (by unfold maxLen; omega) (by omega) HK1.out.size ?_; intro p' w2 ho2 hg2 _; have HO2 := hid_ ho2; have HK2 := hid_ (HK1.out.grown hg2 HK1.out.size (fun k hk => (HO1.out.lt k hk).1)); have cy := (HK2.out.cell (p := ⟨b1_, off1 + j, none⟩) hb1).trans cy0.out; clear cy1 ho2 hg2)
              | (go_at_call 10; refine (or_any A y _).mono ?_; rintro e w3 ⟨rfl, rfl⟩; simp only [two]))
            go_roundw
            case rel =>
              refine ⟨j + 1, by omega, ?_, ?_, by go_num, ?_, HK2⟩
              · rw [HST.out]; rfl
              · rw [HST.out]; rfl
              · have := HO2.out
                rw [HPZ.out, List.map_append]
                exact hid_ this
            case measure => simp [intOf]; omega
          · obtain hc | hc : (bits .and .u8 F 16 != 0) = true ∨ (bits .and .u8 F 16 != 0) = false := by cases bits .and .u8 F 16 != 0 <;> simp
            · have hst : afOf ks ls (j + 1) = sumV 7 A F y := by rw [afOf, hkj, hA, hF, hy]
              have hpz : pzOf ks ls (j + 1) = pzOf ks ls j ++ [254, y] := by rw [pzOf, hkj, hy]; rfl
              have HST := hid_ hst
              have HPZ := hid_ hpz
              clear hst hpz hkj hy hA hF
              have hcf : cF F = true := hc
              have HCF := hid_ hcf
              clear hcf
              go_wp2_with (first
                | ((with_reducible refine wpList_bslice (o := ⟨some 49, _, _, _, _, _⟩) rfl 22 5 2 _ rfl #[.int .u8 254, .int .u8 y] i0 _ Tryz.underlying22 hi0 hz0 1 hz1 (by decide) (by decide) (by kernel_rfl) ?_); intro w1 HB1 HW1 hq1; have HO1 := hid_ (own_below HO.out HW1.out); have HK1 := hid_ (HKr.out.trans (HW1.out.mono HKr.out.size)); have cy1 := (HW1.out.cell (p := ⟨b1_, off1 + j, none⟩) hb1r).trans cy; clear cx cy)
                | (at_builtin; refine wpList_append_own _ rfl _ _ 22 rfl w.heap.size 5 i0 (.int .u8 0) 1 1 Tryz.underlying22 hi0 hz0 hz1 hz2 rfl (by decide) _ (2 * j) _ rfl HO1.out ⟨wr.heap.size, 0, none⟩ 2 2 [.int .u8 254, .int .u8 y] rfl rfl (two_cells HB1.out) (by simp [Value.oneCell']) (by unfold maxLen; omega) (by omega) HK1.out.size ?_; intro p' w2 ho2 hg2 _; have HO2 := hid_ ho2; have HK2 := hid_ (HK1.out.grown hg2 HK1.out.size (fun k hk => (HO1.out.lt k hk).1)); have cy := (HK2.out.cell (p := ⟨b1_, off1 + j, none⟩) hb1).trans cy0.out; clear cy1 ho2 hg2)
                | (go_at_call 7; refine (sub_any A y false b1.1 b1.2 y0 y1 _).mono ?_; rintro e w3 ⟨rfl, rfl⟩; simp only [two]))
              go_roundw
              case rel =>
                refine ⟨j + 1, by omega, ?_, ?_, by go_num, ?_, HK2⟩
                · rw [HST.out]; first | rfl | (unfold sumV; rw [HCF.out]; rfl)
                · rw [HST.out]; first | rfl | (unfold sumV; rw [HCF.out]; rfl)
                · have := HO2.out
                  rw [HPZ.out, List.map_append]
                  exact hid_ this
              case measure => simp [intOf]; omega
            · have hst : afOf ks ls (j + 1) = sumV 7 A F y := by rw [afOf, hkj, hA, hF, hy]
              have hpz : pzOf ks ls (j + 1) = pzOf ks ls j ++ [254, y] := by rw [pzOf, hkj, hy]; rfl
              have HST := hid_ hst
              have HPZ := hid_ hpz
              clear hst hpz hkj hy hA hF
              have hcf : cF F = false := hc
              have HCF := hid_ hcf
              clear hcf
              go_wp2_with (first
                | ((with_reducible refine wpList_bslice (o := ⟨some 49, _, _, _, _, _⟩) rfl 22 5 2 _ rfl #[.int .u8 254, .int .u8 y] i0 _ Tryz.underlying22 hi0 hz0 1 hz1 (by decide) (by decide) (by kernel_rfl) ?_); intro w1 HB1 HW1 hq1; have HO1 := hid_ (own_below HO.out HW1.out); have HK1 := hid_ (HKr.out.trans (HW1.out.mono HKr.out.size)); have cy1 := (HW1.out.cell (p := ⟨b1_, off1 + j, none⟩) hb1r).trans cy; clear cx cy)
                | (at_builtin; refine wpList_append_own _ rfl _ _ 22 rfl w.heap.size 5 i0 (.int .u8 0) 1 1 Tryz.underlying22 hi0 hz0 hz1 hz2 rfl (by decide) _ (2 * j) _ rfl HO1.out ⟨wr.heap.size, 0, none⟩ 2 2 [.int .u8 254, .int .u8 y] rfl rfl (two_cells HB1.out) (by simp [Value.oneCell']) (by unfold maxLen; omega) (by omega) HK1.out.size ?_; intro p' w2 ho2 hg2 _; have HO2 := hid_ ho2; have HK2 := hid_ (HK1.out.grown hg2 HK1.out.size (fun k hk => (HO1.out.lt k hk).1)); have cy := (HK2.out.cell (p := ⟨b1_, off1 + j, none⟩) hb1).trans cy0.out; clear cy1 ho2 hg2)
                | (go_at_call 7; refine (sub_any A y false b1.1 b1.2 y0 y1 _).mono ?_; rintro e w3 ⟨rfl, rfl⟩; simp only [two]))
              go_roundw
              case rel =>
                refine ⟨j + 1, by omega, ?_, ?_, by go_num, ?_, HK2⟩
                · rw [HST.out]; first | rfl | (unfold sumV; rw [HCF.out]; rfl)
                · rw [HST.out]; first | rfl | (unfold sumV; rw [HCF.out]; rfl)
                · have := HO2.out
                  rw [HPZ.out, List.map_append]
                  exact hid_ this
              case measure => simp [intOf]; omega
        · obtain rfl : j = n := by omega
          have hn60 : j ≤ 60 := by omega
          have hbd := pzOf_bd ks ls hl j
          have hrun := sums_runs fills ks ls hl j hn60
          obtain ⟨e1, e2, e3⟩ := sumsM_is ks ls hl j hn60
          obtain ⟨RR, hRR⟩ : ∃ RR, (sumsM ks ls (j + 1)).R = RR := ⟨_, rfl⟩
          rw [hRR] at e1
          obtain ⟨A, hA⟩ : ∃ A, (afOf ks ls j).1 = A := ⟨_, rfl⟩
          obtain ⟨F, hF⟩ : ∃ F, (afOf ks ls j).2 = F := ⟨_, rfl⟩
          rw [hA, hF] at e1
          rw [hA, hF]
          obtain ⟨s, hs⟩ : ∃ s, 1 + j = s := ⟨_, rfl⟩
          have es : IntKind.i64.wrap (1 + (j : Int)) = (s : Int) := by rw [IntWalk.i64_in _ (by omega), ← hs]; push_cast; rfl
          obtain ⟨t, ht⟩ : ∃ t, 2 * j = t := ⟨_, rfl⟩
          have em : (2 : Int) * (j : Int) = (t : Int) := by rw [← ht]; push_cast; rfl
          have ew1 : IntKind.i64.wrap (t : Int) = (t : Int) := IntWalk.i64_in _ (by omega)
          obtain ⟨u, hu⟩ : ∃ u, 336 + t = u := ⟨_, rfl⟩
          have ew2 : IntKind.i64.wrap (336 + (t : Int)) = (u : Int) := by rw [IntWalk.i64_in _ (by omega), ← hu]; push_cast; rfl
          have ew3 : IntKind.u16.wrap (u : Int) = (u : Int) := by simp [IntKind.wrap, IntKind.signed, IntKind.bits]; omega
          obtain ⟨v, hv⟩ : ∃ v, 3 + t = v := ⟨_, rfl⟩
          have ew4 : IntKind.i64.wrap (3 + (t : Int)) = (v : Int) := by rw [IntWalk.i64_in _ (by omega), ← hv]; push_cast; rfl
          have ew5 : IntKind.u64.wrap (v : Int) = (v : Int) := by simp [IntKind.wrap, IntKind.signed, IntKind.bits]; omega
          have hcy : (sumsM ks ls (j + 1)).cyc = (v : Int) := by rw [e2]; omega
          have ha : RR.a = A := by rw [e1]
          have hf : RR.f = F := by rw [e1]
          have hp : RR.pc = (u : Int) := by rw [e1]; show ((336 + 2 * j : Nat) : Int) = _; omega
          have HRR := hid_ hRR
          have HA := hid_ ha
          have HF := hid_ hf
          have HP := hid_ hp
          have HCY := hid_ hcy
          have HS : Hid (s = j + 1) := hid_ (by omega)
          have hs1 : 1 + j = s := hs
          clear e1 e2 e3 hA hF ha hf hp hcy hRR ht hu hv hs hl
          go_wp2_with (first
            | (go_at_call 11; subst hs1; refine (run_any _ (2 * j) (pzOf ks ls j) (1 + j) (sumsM ks ls) (by omega) (by omega) hrun wr hbd (own_weak HO.out)).mono ?_; rintro e w5 ⟨S, A', rfl, hM5, hb5⟩; rw [HS.out] at hM5; have HM5 := hid_ hM5; have HK5 := hid_ (HKr.out.trans (hb5.mono HKr.out.size)); clear hM5 hb5)
            | (go_at_call 12; refine (state_any S _ A' _ HM5.out).mono ?_; rintro e w6 ⟨rfl, hc, hf, hz, hb6⟩; clear hc hf hz; rw [HRR.out]; have HM6 := hid_ (HM5.out.below hb6 (Nat.le_refl _)); have HK6 := hid_ (HK5.out.trans (hb6.mono HK5.out.size)); clear hb6)
            | ((with_reducible refine wpList_allocA (op := ⟨some 13, _, _, _, _, _⟩) rfl 33 rfl #[.int .u8 0, .int .u8 0, .int .u8 0, .int .u8 0, .int .u8 0, .int .u8 0, .int .u8 0, .int .u8 0, .int .u16 0, .int .u16 0, .bool false, .bool false, .bool false, .bool false] zero33 ?_); intro w7 HD7 HW7 hz7; have HM7 := hid_ (HM6.out.below HW7.out (Nat.le_refl _)); have HK7 := hid_ (HK6.out.trans (HW7.out.mono HK6.out.size)); have hF7 := hid_ (HM6.out.free (Nat.le_refl _)))
            | ((with_reducible refine wpList_storeM (op := ⟨none, .store 33 (.tmp 13) (.tmp 136), _, _, _, _⟩) rfl 33 (.tmp 13) (.tmp 136) rfl w6.heap.size 0 (by with_unfolding_all rfl) _ _ HD7.out (stL RR) (by with_unfolding_all rfl) (by with_unfolding_all exact size33) (hid_ (stL_one _)).out (by with_unfolding_all exact Nat.le_refl 14) (stL RR).toArray (by with_unfolding_all rfl) ?_); intro w8 HD8 s8; have HM8 := hid_ (HM7.out.far s8.out hF7.out); have HK8 := hid_ (HK7.out.trans (s8.out.below HK7.out.size (fun k hk => by rw [hk]; exact HK6.out.size))); have c0 := HD8.out.cell 0; have c1 := HD8.out.cell 1; have c9 := HD8.out.cell 9; rw [st0, HA.out] at c0; rw [st1_, HF.out] at c1; rw [st9, HP.out] at c9)
            | (go_at_call 13; refine (cycles_any S _ A' _ HM8.out).mono ?_; rintro e w9 ⟨rfl, rfl⟩; rw [HCY.out]))
          go_ret
          exact .of rfl HK8.out
end Go.Proofs.YtglklbcohbeacaaGreat
