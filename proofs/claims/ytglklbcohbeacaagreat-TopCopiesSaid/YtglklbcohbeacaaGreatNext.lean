/- Contract of an order's fetching. -/
import Derived.Test.YtglklbcohbeacaaGreatDecode
namespace Go.Proofs.YtglklbcohbeacaaGreat
open Go.RowKit
set_option linter.unusedSimpArgs false
set_option linter.unusedVariables false
def nOf (sz : Nat) (b c : Int) : Int := if sz = 2 then b else if sz = 3 then b + 256 * c else 0
theorem decode_any (g : Nat) (d s : Int) (P B : List OpV) (hdo : Does g d s P B) (a : Nat) (b c : Int) (K x y : Int) (sz : Nat) (hsz : sz = 1 ∨ sz = 2 ∨ sz = 3) (ha : a < 256) (hcb : a ≠ 203) (hb0 : 0 ≤ b) (hb1 : b ≤ 255) (hc0 : 0 ≤ c) (hc1 : c ≤ 255) (ho : plainL[a]? = some ⟨K, x, y, sz, 0⟩) (w : World) (h : TabIs w g d s P B) :
    Calls Tryz.prog 64 #[.pointer (some ⟨g, 0, none⟩), .int .u8 a, .int .u8 b, .int .u8 c] w (fun e w' => e = .returned (.agg (⟨K, x, y, sz, nOf sz b c⟩ : OpV).list.toArray) ∧ TabIs w' g 1 0 plainL behindL ∧ Step (· = g) w w') := by
  rcases hsz with rfl | rfl | rfl
  · exact decode_1 g d s P B hdo a b c K x y ha hcb hb0 hb1 hc0 hc1 ho w h
  · exact decode_2 g d s P B hdo a b c K x y ha hcb hb0 hb1 hc0 hc1 ho w h
  · exact decode_3 g d s P B hdo a b c K x y ha hcb hb0 hb1 hc0 hc1 ho w h
def Mc.fetch (M : Mc) : Mc := { M.bus with filled := true }
def Mc.fetches (M : Mc) : Nat → Mc
  | 0 => M
  | k + 1 => (M.fetches k).fetch
theorem fetches_n (M : Mc) : ∀ k : Nat, (M.fetches k).n = M.n + k
  | 0 => rfl
  | k + 1 => by show (M.fetches k).n + 1 = _; rw [fetches_n M k]; rfl
theorem fetches_cyc (M : Mc) : ∀ k : Nat, (M.fetches k).cyc = M.cyc + k
  | 0 => by simp [Mc.fetches]
  | k + 1 => by show (M.fetches k).cyc + 1 = _; rw [fetches_cyc M k]; push_cast; omega
section
variable {w w' : World} {S : St} {M : Mc} {A : Option Nat} {cnt : Int} {acc : Value} {xs : List Value}
theorem MachP.retab (h : MachP w S M A cnt acc xs) (hs : Step (· = S.tb) w w') (hb : Blk w' S.tb 139 (tlist true).toArray) : MachP w' S { M with filled := true } A cnt acc xs := by
  refine ⟨h.blk.step hs h.mt, h.cnt0, h.cnt1, ?_, h.ab, h.work, ⟨h.rom.1.step hs h.rt, h.rom.2⟩, h.romlen, (World.cell?_of_block (hs.block S.u h.ult h.ut)).trans h.unit, hb, h.mu, h.mr, h.mt, h.ur, h.ut, h.rt, h.am, h.au, h.ar, h.at_⟩
  refine ⟨h.own.1, ?_⟩
  rcases h.own.2 with hn | ⟨g, cap, cur, rfl, hb, hgg, rest⟩
  · exact .inl hn
  · refine .inr ⟨g, cap, cur, rfl, hb, ?_, rest⟩
    have hg := h.ab
    simp only [Value.ownBlock] at hg
    rw [hs.block g (Array.getElem?_eq_some_iff.1 hgg).1 (fun e => h.at_ (by rw [← hg]; exact congrArg some e))]
    exact hgg
theorem Mach.retab (h : Mach w S M A) (hs : Step (· = S.tb) w w') (hb : TabIs w' S.tb 1 0 plainL behindL) : Mach w' S { M with filled := true } A := by
  obtain ⟨cnt, acc, xs, h⟩ := h
  exact ⟨cnt, acc, xs, h.retab hs (by rw [tlist_true]; exact hb.1)⟩
end
theorem plainL_len : plainL.length = 256 := by kernel_rfl
theorem behindL_len : behindL.length = 256 := by kernel_rfl
theorem mach_dec (hfill : Fills) (S : St) (M : Mc) (A : Option Nat) (a : Nat) (b c : Int) (K x y : Int) (sz : Nat) (hsz : sz = 1 ∨ sz = 2 ∨ sz = 3) (ha : a < 256) (hcb : a ≠ 203) (hb0 : 0 ≤ b) (hb1 : b ≤ 255) (hc0 : 0 ≤ c) (hc1 : c ≤ 255) (ho : plainL[a]? = some ⟨K, x, y, sz, 0⟩) (w : World) (h : Mach w S M A) :
    Calls Tryz.prog 64 #[.pointer (some ⟨S.tb, 0, none⟩), .int .u8 a, .int .u8 b, .int .u8 c] w (fun e w' => e = .returned (.agg (⟨K, x, y, sz, nOf sz b c⟩ : OpV).list.toArray) ∧ Mach w' S { M with filled := true } A ∧ Step (· = S.tb) w w') := by
  have ht : ∃ d s P B, TabIs w S.tb d s P B ∧ Does S.tb d s P B := by
    obtain ⟨cnt, acc, xs, h⟩ := h
    have ht := h.tab
    cases hf : M.filled with
    | false => rw [hf, tlist_false] at ht; exact ⟨0, 0, _, _, ⟨ht, List.length_replicate .., List.length_replicate ..⟩, fun W hW => do_first hfill S.tb W hW⟩
    | true => rw [hf, tlist_true] at ht; exact ⟨1, 0, _, _, ⟨ht, plainL_len, behindL_len⟩, fun W hW => (do_done S.tb _ W _ _ hW).mono (by rintro e w' ⟨rfl, rfl⟩; exact ⟨rfl, hW, Step.refl _ _⟩)⟩
  obtain ⟨d, s, P, B, hT, hD⟩ := ht
  refine (decode_any S.tb d s P B hD a b c K x y sz hsz ha hcb hb0 hb1 hc0 hc1 ho w hT).mono ?_
  rintro e w' ⟨rfl, hT', hs⟩
  exact ⟨rfl, h.retab hs hT', hs⟩
/-! ### The loop -/
def bk (z : Nat → Int) (k j : Nat) : Int := if j < k then z j else 0
def b3 (z : Nat → Int) (k : Nat) : List Value := [.int .u8 (bk z k 0), .int .u8 (bk z k 1), .int .u8 (bk z k 2)]
theorem b3_set (z : Nat → Int) (k : Nat) (hk : k < 3) : (b3 z k).toArray.toList.set k (.int .u8 (z k)) = (b3 z (k + 1)).toArray.toList := by
  rcases (by omega : k = 0 ∨ k = 1 ∨ k = 2) with rfl | rfl | rfl <;> rfl
theorem bk_bd (z : Nat → Int) (hz : ∀ j, 0 ≤ z j ∧ z j ≤ 255) (k j : Nat) : 0 ≤ bk z k j ∧ bk z k j ≤ 255 := by
  unfold bk; split
  · exact hz j
  · decide
def oK (K x y : Int) (sz : Nat) (z : Nat → Int) (k : Nat) : OpV := if k = 0 then ⟨0, 0, 0, 1, 0⟩ else ⟨K, x, y, sz, nOf sz (bk z k 1) (bk z k 2)⟩
theorem oK_end (K x y : Int) (sz : Nat) (hsz : sz = 1 ∨ sz = 2 ∨ sz = 3) (z : Nat → Int) : oK K x y sz z sz = ⟨K, x, y, sz, nOf sz (z 1) (z 2)⟩ := by
  rcases hsz with rfl | rfl | rfl <;> rfl
theorem zero163 (W : World) : (zeroValue 163).run Tryz.prog W = .ok (.agg #[.int .u8 0, .int .u8 0, .int .u8 0]) W := by kernel_rfl
theorem oK_list (K x y : Int) (sz : Nat) (z : Nat → Int) (k : Nat) : (oK K x y sz z k).list.toArray[3]? = some (.int .i64 (oK K x y sz z k).size) := rfl
set_option maxRecDepth 100000 in
set_option maxHeartbeats 4000000 in
theorem next_any (hfill : Fills) (S : St) (M : Mc) (A : Option Nat) (R : Rg) (r : Nat) (i : Nat) (K x y : Int) (sz : Nat) (a : Nat) (hsz : sz = 1 ∨ sz = 2 ∨ sz = 3) (hi : i + 4 ≤ 16384) (hpc : R.pc = i) (hza : S.zs.getD i 0 = a) (ha : a < 256) (hcb : a ≠ 203) (ho : plainL[a]? = some ⟨K, x, y, sz, 0⟩)
    (hm0 : M.n ≤ 900) (hc0 : 0 ≤ M.cyc) (hc1 : M.cyc ≤ 900000) (w : World) (hM : Mach w S M A) (hF : Free S A r) (h : Blk w r 148 (rl S R).toArray) :
    Calls Tryz.prog 55 #[.pointer (some ⟨r, 0, none⟩), .pointer (some ⟨S.tb, 0, none⟩)] w (RBus r S (M.fetches sz) A { R with pc := ((i + sz : Nat) : Int) } (.agg (⟨K, x, y, sz, nOf sz (S.zs.getD (i + 1) 0) (S.zs.getD (i + 2) 0)⟩ : OpV).list.toArray) w) := by
  have hz : ∀ j, 0 ≤ S.zs.getD (i + j) 0 ∧ S.zs.getD (i + j) 0 ≤ 255 := by obtain ⟨cnt, acc, xs, h'⟩ := hM; exact fun j => h'.rom.bd _
  obtain ⟨z, hzz⟩ : ∃ z : Nat → Int, z = fun j => S.zs.getD (i + j) 0 := ⟨_, rfl⟩
  have hz : ∀ j, 0 ≤ z j ∧ z j ≤ 255 := by rw [hzz]; exact hz
  have hz0 : z 0 = a := by rw [hzz]; exact hza
  have HZ' : Hid (∀ j, z j = S.zs.getD (i + j) 0) := hid_ (fun j => by rw [hzz])
  rw [show S.zs.getD (i + 1) 0 = z 1 by rw [hzz], show S.zs.getD (i + 2) 0 = z 2 by rw [hzz]]
  have h := hid_ h
  have hM := hid_ hM
  have hFr := hid_ hF
  have HO := hid_ ho
  have hr := h.out.lt
  have HF0 := hid_ (hM.out.free (Nat.le_refl w.heap.size))
  have HFn : Hid (∀ g, w.heap.size ≤ g → Free S A g) := hid_ (fun g hg => hM.out.free hg)
  have m1 := meth_fetch
  have m2 := nil_fetch
  have HPC := hid_ hpc
  clear hzz ho hza hF hpc
  go_enter Tryz.func55, Tryz.ntmps55
  go_wp2_with (first
    | ((with_reducible refine wpList_allocA (op := ⟨some 4, _, _, _, _, _⟩) rfl 46 rfl #[.int .i64 0, .int .i64 0, .int .i64 0, .int .i64 0, .int .u16 0] zero46d ?_); intro w1 HB4 HW1 hz1; have H1 := hid_ (h.out.below HW1.out h.out.lt); have HM1 := hid_ (hM.out.below HW1.out (Nat.le_refl _)))
    | ((with_reducible refine wpList_allocA (op := ⟨some 5, _, _, _, _, _⟩) rfl 163 rfl #[.int .u8 0, .int .u8 0, .int .u8 0] zero163 ?_); intro w2 HB5 HW2 hz2; have H2 := hid_ (H1.out.below HW2.out H1.out.lt); have HM2 := hid_ (HM1.out.below HW2.out (Nat.le_refl _)); have HB4b := hid_ (HB4.out.below HW2.out HB4.out.lt))
    | ((with_reducible refine wpList_allocA (op := ⟨some 6, _, _, _, _, _⟩) rfl 46 rfl #[.int .i64 0, .int .i64 0, .int .i64 0, .int .i64 0, .int .u16 0] zero46d ?_); intro w3 HB6 HW3 hz3; have H3 := hid_ (H2.out.below HW3.out H2.out.lt); have HM3 := hid_ (HM2.out.below HW3.out (Nat.le_refl _)); have HB4c := hid_ (HB4b.out.below HW3.out HB4b.out.lt); have HB5c := hid_ (HB5.out.below HW3.out HB5.out.lt))
    | ((with_reducible refine wpList_storeM (op := ⟨none, .store 46 (.tmp 6) (.tmp 8), _, _, _, _⟩) rfl 46 (.tmp 6) (.tmp 8) rfl w2.heap.size 0 (by with_unfolding_all rfl) _ _ HB6.out (⟨0, 0, 0, 1, 0⟩ : OpV).list (by with_unfolding_all rfl) (by with_unfolding_all exact size46) (hid_ (OpV.list_one _)).out (by with_unfolding_all exact Nat.le_refl 5) (⟨0, 0, 0, 1, 0⟩ : OpV).list.toArray (by with_unfolding_all rfl) ?_); intro w4 HB6b s4))
  have n45 : ¬ w.heap.size = w1.heap.size := by omega
  have n46 : ¬ w.heap.size = w2.heap.size := by omega
  have n56 : ¬ w1.heap.size = w2.heap.size := by omega
  have nr4 : ¬ r = w.heap.size := by omega
  have nr5 : ¬ r = w1.heap.size := by omega
  have nr6 : ¬ r = w2.heap.size := by omega
  have hz26 : w.heap.size ≤ w2.heap.size := by omega
  go_loopw [7] (fun j wr => ∃ k : Nat, k ≤ sz ∧ j = .int .i64 k ∧ ∃ A', Hid (Mach wr S (M.fetches k) A') ∧ Hid (Blk wr r 148 (rl S { R with pc := ((i + k : Nat) : Int) }).toArray) ∧ Hid (Blk wr w1.heap.size 163 (b3 z k).toArray) ∧ Hid (Blk wr w2.heap.size 46 (oK K x y sz z k).list.toArray) ∧ Hid (Blk wr w.heap.size 46 (⟨0, 0, 0, 0, 0⟩ : OpV).list.toArray) ∧ Hid (Free S A' r) ∧ Hid (Free S A' w.heap.size) ∧ Hid (Free S A' w1.heap.size) ∧ Hid (Free S A' w2.heap.size) ∧ Hid (Chg S (· = r) A w wr A')) (fun j _ => sz - (intOf j).toNat)
  case atStart =>
    exact ⟨0, by omega, rfl, A, hid_ (HM3.out.far s4.out (HFn.out _ hz26)), hid_ (by rw [Nat.add_zero, ← HPC.out]; exact H3.out.step s4.out nr6), hid_ (HB5c.out.step s4.out n56), HB6b, hid_ (HB4c.out.step s4.out n46), hFr, HF0, hid_ (HFn.out _ (by omega)), hid_ (HFn.out _ hz26), hid_ ((Chg.of (HW1.out.trans ((HW2.out.mono (by omega)).trans (HW3.out.mono (by omega))))).own s4.out hz26)⟩
  case round =>
    clear HB6b HB4c HB5c H3 HM3 s4 HB6 H2 HM2 HB4b HB5 HB4 H1 HM1
    obtain ⟨k, hk, rfl, A1, HM, HR, HB5, HB6, HB4, Fr, F4, F5, F6, C⟩ := hrel
    have g63 := (HB6.out.cell 3).trans (oK_list K x y sz z k)
    obtain ⟨s3, hs3⟩ : ∃ s3, (oK K x y sz z k).size = s3 := ⟨_, rfl⟩
    rw [hs3] at g63
    by_cases hlt : k < sz
    · have ql : (k : Int) < s3 := by
        rw [← hs3]; unfold oK
        by_cases h0 : k = 0
        · subst h0; simp
        · rw [if_neg h0]; simp; exact hlt
      have hk3 : k < 3 := by omega
      obtain ⟨u, hu⟩ : ∃ u, i + k = u := ⟨_, rfl⟩
      rw [hu] at HR
      have hu2 : u < 16384 := by omega
      have HZ : Hid (z k = S.zs.getD u 0) := hid_ (by rw [← hu]; exact HZ'.out k)
      have HU := hid_ hu
      have ew : IntKind.u16.wrap ((u : Int) + 1) = ((u + 1 : Nat) : Int) := by rw [wrap_u16]; omega
      have i0 : (0 : Int) ≤ (k : Int) := by omega
      have i1 : (k : Int) < 3 := by omega
      have HE0 : Hid ((b3 z (k + 1)).toArray[0]? = some (.int .u8 (a : Int))) := hid_ (by rw [← hz0]; rfl)
      have HE1 : Hid ((b3 z (k + 1)).toArray[1]? = some (.int .u8 (bk z (k + 1) 1))) := hid_ rfl
      have HE2 : Hid ((b3 z (k + 1)).toArray[2]? = some (.int .u8 (bk z (k + 1) 2))) := hid_ rfl
      clear hu hs3
      go_wp2_with fail
      have HRd := hid_ HR.out.drew
      have HB5d := hid_ HB5.out.drew
      have HB6d := hid_ HB6.out.drew
      have HB4d := hid_ HB4.out.drew
      have HMd : Hid (Mach wr.drew S (M.fetches k) A1) := hid_ (Mach.below HM.out (Below.refl wr.heap.size wr).drew (Nat.le_refl _))
      clear g63
      refine wp_region_tail (S := (fun W => Blk W r 148 (rl S { R with pc := (u : Int) }).toArray)) (tail := (fun j => decide (15 ≤ j))) (by kernel_rfl) ?hS1 (fun hHeld => ?rest1)
      case hS1 => (exact HRd.out)
      refine wpAnyT_take (i := 0) (v := ?v2) rfl (by kernel_rfl) (by kernel_rfl) (by kernel_rfl) (by kernel_rfl) (by kernel_rfl) (fun _ _ _ h => h) (Or.inl ⟨by rfl, ?hy2⟩) (by assumption) ?rest2
      case hy2 => (intro w hSw; (try simp only [List.getElem_toArray, List.getElem_cons_succ, List.getElem_cons_zero]); (try dsimp only at hSw); go_simp; all_goals (with_reducible rfl))
      (try simp only [Act.put, List.getElem_toArray, List.getElem_cons_succ, List.getElem_cons_zero, List.setIfInBounds_toArray, List.set_cons_zero, List.set_cons_succ])
      refine wpAnyT_take (i := 1) (v := ?v3) rfl (by kernel_rfl) (by kernel_rfl) (by kernel_rfl) (by kernel_rfl) (by kernel_rfl) (fun _ _ _ h => h) (Or.inl ⟨by rfl, ?hy3⟩) (by assumption) ?rest3
      case hy3 => (intro w hSw; (try simp only [List.getElem_toArray, List.getElem_cons_succ, List.getElem_cons_zero]); (try dsimp only at hSw); go_simp; all_goals (with_reducible rfl))
      (try simp only [Act.put, List.getElem_toArray, List.getElem_cons_succ, List.getElem_cons_zero, List.setIfInBounds_toArray, List.set_cons_zero, List.set_cons_succ])
      refine wpAnyT_take (i := 2) (v := ?v4) rfl (by kernel_rfl) (by kernel_rfl) (by kernel_rfl) (by kernel_rfl) (by kernel_rfl) (fun _ _ _ h => h) (Or.inl ⟨by rfl, ?hy4⟩) (by assumption) ?rest4
      case hy4 => (intro w hSw; (try simp only [List.getElem_toArray, List.getElem_cons_succ, List.getElem_cons_zero]); (try dsimp only at hSw); go_simp; all_goals (with_reducible rfl))
      (try simp only [Act.put, List.getElem_toArray, List.getElem_cons_succ, List.getElem_cons_zero, List.setIfInBounds_toArray, List.set_cons_zero, List.set_cons_succ])
      refine wpAnyT_take (i := 3) (v := ?v5) rfl (by kernel_rfl) (by kernel_rfl) (by kernel_rfl) (by kernel_rfl) (by kernel_rfl) (fun _ _ _ h => h) (Or.inl ⟨by rfl, ?hy5⟩) (by assumption) ?rest5
      case hy5 => (intro w hSw; (try simp only [List.getElem_toArray, List.getElem_cons_succ, List.getElem_cons_zero]); (try dsimp only at hSw); go_simp; all_goals (with_reducible rfl))
      (try simp only [Act.put, List.getElem_toArray, List.getElem_cons_succ, List.getElem_cons_zero, List.setIfInBounds_toArray, List.set_cons_zero, List.set_cons_succ])
      refine wpAnyT_take (i := 4) (v := ?v6) rfl (by kernel_rfl) (by kernel_rfl) (by kernel_rfl) (by kernel_rfl) (by kernel_rfl) (fun _ _ _ h => h) (Or.inl ⟨by rfl, ?hy6⟩) (by assumption) ?rest6
      case hy6 => (intro W hW; have c := (hW.cell 14).trans (rl_bus S _); (try simp only [List.getElem_toArray, List.getElem_cons_succ, List.getElem_cons_zero]); go_simp; all_goals (with_reducible rfl))
      (try simp only [Act.put, List.getElem_toArray, List.getElem_cons_succ, List.getElem_cons_zero, List.setIfInBounds_toArray, List.set_cons_zero, List.set_cons_succ])
      refine wpAnyT_take (i := 5) (v := ?v7) rfl (by kernel_rfl) (by kernel_rfl) (by kernel_rfl) (by kernel_rfl) (by kernel_rfl) (fun _ _ _ h => h) (Or.inl ⟨by rfl, ?hy7⟩) (by assumption) ?rest7
      case hy7 => (intro w hSw; (try simp only [List.getElem_toArray, List.getElem_cons_succ, List.getElem_cons_zero]); (try dsimp only at hSw); go_simp; all_goals (with_reducible rfl))
      (try simp only [Act.put, List.getElem_toArray, List.getElem_cons_succ, List.getElem_cons_zero, List.setIfInBounds_toArray, List.set_cons_zero, List.set_cons_succ])
      refine wpAnyT_take (i := 6) (v := ?v8) rfl (by kernel_rfl) (by kernel_rfl) (by kernel_rfl) (by kernel_rfl) (by kernel_rfl) (fun _ _ _ h => h) (Or.inl ⟨by rfl, ?hy8⟩) (by assumption) ?rest8
      case hy8 => (intro w hSw; (try simp only [List.getElem_toArray, List.getElem_cons_succ, List.getElem_cons_zero]); (try dsimp only at hSw); go_simp; all_goals (with_reducible rfl))
      (try simp only [Act.put, List.getElem_toArray, List.getElem_cons_succ, List.getElem_cons_zero, List.setIfInBounds_toArray, List.set_cons_zero, List.set_cons_succ])
      refine wpAnyT_take (i := 7) (v := ?v9) rfl (by kernel_rfl) (by kernel_rfl) (by kernel_rfl) (by kernel_rfl) (by kernel_rfl) (fun _ _ _ h => h) (Or.inl ⟨by rfl, ?hy9⟩) (by assumption) ?rest9
      case hy9 => (intro w hSw; (try simp only [List.getElem_toArray, List.getElem_cons_succ, List.getElem_cons_zero]); (try dsimp only at hSw); go_simp; all_goals (with_reducible rfl))
      (try simp only [Act.put, List.getElem_toArray, List.getElem_cons_succ, List.getElem_cons_zero, List.setIfInBounds_toArray, List.set_cons_zero, List.set_cons_succ])
      refine wpAnyT_take (i := 8) (v := ?v10) rfl (by kernel_rfl) (by kernel_rfl) (by kernel_rfl) (by kernel_rfl) (by kernel_rfl) (fun _ _ _ h => h) (Or.inl ⟨by rfl, ?hy10⟩) (by assumption) ?rest10
      case hy10 => (intro w hSw; (try simp only [List.getElem_toArray, List.getElem_cons_succ, List.getElem_cons_zero]); (try dsimp only at hSw); go_simp; all_goals (with_reducible rfl))
      (try simp only [Act.put, List.getElem_toArray, List.getElem_cons_succ, List.getElem_cons_zero, List.setIfInBounds_toArray, List.set_cons_zero, List.set_cons_succ])
      refine wpAnyT_take (i := 9) (v := ?v11) rfl (by kernel_rfl) (by kernel_rfl) (by kernel_rfl) (by kernel_rfl) (by kernel_rfl) (fun _ _ _ h => h) (Or.inl ⟨by rfl, ?hy11⟩) (by assumption) ?rest11
      case hy11 => (intro w hSw; (try simp only [List.getElem_toArray, List.getElem_cons_succ, List.getElem_cons_zero]); (try dsimp only at hSw); go_simp; all_goals (with_reducible rfl))
      (try simp only [Act.put, List.getElem_toArray, List.getElem_cons_succ, List.getElem_cons_zero, List.setIfInBounds_toArray, List.set_cons_zero, List.set_cons_succ])
      refine wpAnyT_take (i := 10) (v := ?v12) rfl (by kernel_rfl) (by kernel_rfl) (by kernel_rfl) (by kernel_rfl) (by kernel_rfl) (fun _ _ _ h => h) (Or.inl ⟨by rfl, ?hy12⟩) (by assumption) ?rest12
      case hy12 => (intro W hW; have c := (hW.cell 9).trans (rl_pc S _); (try simp only [List.getElem_toArray, List.getElem_cons_succ, List.getElem_cons_zero]); go_simp; all_goals (with_reducible rfl))
      (try simp only [Act.put, List.getElem_toArray, List.getElem_cons_succ, List.getElem_cons_zero, List.setIfInBounds_toArray, List.set_cons_zero, List.set_cons_succ])
      refine wpAnyT_take (i := 11) (v := ?v13) rfl (by kernel_rfl) (by kernel_rfl) (by kernel_rfl) (by kernel_rfl) (by kernel_rfl) (fun _ _ _ h => h) (Or.inl ⟨by rfl, ?hy13⟩) (by assumption) ?rest13
      case hy13 => (intro w hSw; (try simp only [List.getElem_toArray, List.getElem_cons_succ, List.getElem_cons_zero]); (try dsimp only at hSw); go_simp; all_goals (with_reducible rfl))
      (try simp only [Act.put, List.getElem_toArray, List.getElem_cons_succ, List.getElem_cons_zero, List.setIfInBounds_toArray, List.set_cons_zero, List.set_cons_succ])
      refine wpAnyT_take (i := 12) (v := ?v14) rfl (by kernel_rfl) (by kernel_rfl) (by kernel_rfl) (by kernel_rfl) (by kernel_rfl) (fun _ _ _ h => h) (Or.inl ⟨by rfl, ?hy14⟩) (by assumption) ?rest14
      case hy14 => (intro w hSw; (try simp only [List.getElem_toArray, List.getElem_cons_succ, List.getElem_cons_zero]); (try dsimp only at hSw); go_simp; all_goals (with_reducible rfl))
      (try simp only [Act.put, List.getElem_toArray, List.getElem_cons_succ, List.getElem_cons_zero, List.setIfInBounds_toArray, List.set_cons_zero, List.set_cons_succ])
      refine wpAnyT_one (i := 13) rfl (by kernel_rfl) (fun K hK => ?_)
      (try simp only [List.getElem_toArray, List.getElem_cons_succ, List.getElem_cons_zero])
      go_simp
      refine (fetch_rom S (M.fetches k) A1 u hu2 (by rw [fetches_n]; omega) (by rw [fetches_cyc]; omega) (by rw [fetches_cyc]; omega) _ HMd.out).mono ?_
      rintro e w5 ⟨rfl, A5, hM5, hC⟩
      have HR5 := hid_ (hC.blk HRd.out Fr.out id)
      have HB55 := hid_ (hC.blk HB5d.out F5.out id)
      have HB65 := hid_ (hC.blk HB6d.out F6.out id)
      have HB45 := hid_ (hC.blk HB4d.out F4.out id)
      have Fr5 := hid_ (hC.free Fr.out HRd.out.lt)
      have F45 := hid_ (hC.free F4.out HB4d.out.lt)
      have F55 := hid_ (hC.free F5.out HB5d.out.lt)
      have F65 := hid_ (hC.free F6.out HB6d.out.lt)
      have HM5 := hid_ hM5
      have C5 := hid_ ((C.out.trans (Chg.of (Below.refl _ wr).drew)).trans hC.more)
      clear hM5 hC hHeld
      have hHeld := HR5.out
      (try go_wp2_with fail)
      refine hK.out _ _ ?hS15 ?rest15
      case hS15 => (exact HR5.out)
      clear hK K
      (try simp only [Act.put, List.getElem_toArray, List.getElem_cons_succ, List.getElem_cons_zero, List.setIfInBounds_toArray, List.set_cons_zero, List.set_cons_succ])
      refine wpAnyT_take (i := 14) (v := ?v16) rfl (by kernel_rfl) (by kernel_rfl) (by kernel_rfl) (by kernel_rfl) (by kernel_rfl) (fun _ _ _ h => h) (Or.inl ⟨by rfl, ?hy16⟩) (by assumption) ?rest16
      case hy16 => (intro w hSw; (try simp only [List.getElem_toArray, List.getElem_cons_succ, List.getElem_cons_zero]); (try dsimp only at hSw); go_simp; all_goals (with_reducible rfl))
      (try simp only [Act.put, List.getElem_toArray, List.getElem_cons_succ, List.getElem_cons_zero, List.setIfInBounds_toArray, List.set_cons_zero, List.set_cons_succ])
      refine wpAnyT_last (i := 15) rfl (by kernel_rfl) rfl (fun K hK => ?_)
      (try simp only [List.getElem_toArray, List.getElem_cons_succ, List.getElem_cons_zero])
      refine want rfl ?_
      refine wp_storeC 5 (.tmp 29) (.tmp 28) rfl w1.heap.size k (by with_unfolding_all rfl) 163 _ HB55.out (.int .u8 (z k)) (by rw [HZ.out]; with_unfolding_all rfl) rfl size5 rfl (by with_unfolding_all exact hk3) (b3 z (k + 1)).toArray (b3_set z k hk3) ?_
      intro w6 HB56 s6
      have HR6 := hid_ (HR5.out.step s6.out nr5)
      have HB66 := hid_ (HB65.out.step s6.out (fun e => n56 e.symm))
      have HB46 := hid_ (HB45.out.step s6.out n45)
      have HM6 := hid_ (HM5.out.far s6.out F55.out)
      have C6 := hid_ (C5.out.own s6.out (Nat.le_of_lt hz1))
      refine hK.out _ _ ?_
      clear hK K
      (try simp only [Act.put, List.getElem_toArray, List.getElem_cons_succ, List.getElem_cons_zero, List.setIfInBounds_toArray, List.set_cons_zero, List.set_cons_succ])
      refine wpAnyT_done (by kernel_rfl) ?_ _
      have c9 := (HR6.out.cell 9).trans (rl_pc S _)
      go_wp2_with (first
        | ((with_reducible refine wpList_storeC (op := ⟨none, .store 29 (.tmp 40) (.tmp 36), _, _, _, _⟩) rfl 29 (.tmp 40) (.tmp 36) rfl r 9 (by with_unfolding_all rfl) _ _ HR6.out (.int .u16 ((u + 1 : Nat) : Int)) (by with_unfolding_all rfl) rfl size29d rfl (by rw [rl_size]; omega) (rl S { R with pc := ((u + 1 : Nat) : Int) }).toArray rfl ?_); intro w7 HR7 s7; have HB57 := hid_ (HB56.out.step s7.out (fun e => nr5 e.symm)); have HB67 := hid_ (HB66.out.step s7.out (fun e => nr6 e.symm)); have HB47 := hid_ (HB46.out.step s7.out (fun e => nr4 e.symm)); have HM7 := hid_ (HM6.out.far s7.out Fr5.out); have C7 := hid_ (C6.out.trans (Chg.ofR s7.out)); clear c9; have c50 := (HB57.out.cell 0).trans HE0.out; have c51 := (HB57.out.cell 1).trans HE1.out; have c52 := (HB57.out.cell 2).trans HE2.out)
        | (go_at_call 64; refine (mach_dec hfill S _ A5 a _ _ K x y sz hsz ha hcb (bk_bd z hz (k + 1) 1).1 (bk_bd z hz (k + 1) 1).2 (bk_bd z hz (k + 1) 2).1 (bk_bd z hz (k + 1) 2).2 HO.out _ HM7.out).mono ?_; rintro e w8 ⟨rfl, hM8, s8⟩; have HM8 := hid_ hM8; have HR8 := hid_ (HR7.out.step s8 Fr5.out.t); have HB58 := hid_ (HB57.out.step s8 F55.out.t); have HB68 := hid_ (HB67.out.step s8 F65.out.t); have HB48 := hid_ (HB47.out.step s8 F45.out.t); have C8 := hid_ (C7.out.trans (Chg.ofStep s8 (fun k hk => .inr (.inl hk)))); clear hM8 s8 c50 c51 c52)
        | ((with_reducible refine wpList_storeM (op := ⟨none, .store 46 (.tmp 6) (.tmp 48), _, _, _, _⟩) rfl 46 (.tmp 6) (.tmp 48) rfl w2.heap.size 0 (by with_unfolding_all rfl) _ _ HB68.out (⟨K, x, y, sz, nOf sz (bk z (k + 1) 1) (bk z (k + 1) 2)⟩ : OpV).list (by with_unfolding_all rfl) (by with_unfolding_all exact size46) (hid_ (OpV.list_one _)).out (by with_unfolding_all exact Nat.le_refl 5) (⟨K, x, y, sz, nOf sz (bk z (k + 1) 1) (bk z (k + 1) 2)⟩ : OpV).list.toArray (by with_unfolding_all rfl) ?_); intro w9 HB69 s9; have HR9 := hid_ (HR8.out.step s9.out nr6); have HB59 := hid_ (HB58.out.step s9.out n56); have HB49 := hid_ (HB48.out.step s9.out n46); have HM9 := hid_ (HM8.out.far s9.out F65.out); have C9 := hid_ (C8.out.own s9.out hz26)))
      go_roundw
      case rel =>
        refine ⟨k + 1, by omega, by go_num, A5, HM9, ?_, HB59, HB69, HB49, Fr5, F45, F55, F65, C9⟩
        have := HR9.out
        rw [← HU.out] at this
        exact hid_ this
      case measure => simp [intOf]; omega
    · obtain rfl : k = sz := by omega
      rw [oK_end K x y k hsz z] at HB6 hs3
      have ql : ¬ (k : Int) < s3 := by rw [← hs3]; simp
      clear hs3
      go_wp2_with (first
        | ((with_reducible refine wpList_storeM (op := ⟨none, .store 46 (.tmp 4) (.tmp 49), _, _, _, _⟩) rfl 46 (.tmp 4) (.tmp 49) rfl w.heap.size 0 (by with_unfolding_all rfl) _ _ HB4.out (⟨K, x, y, k, nOf k (z 1) (z 2)⟩ : OpV).list (by with_unfolding_all rfl) (by with_unfolding_all exact size46) (hid_ (OpV.list_one _)).out (by with_unfolding_all exact Nat.le_refl 5) (⟨K, x, y, k, nOf k (z 1) (z 2)⟩ : OpV).list.toArray (by with_unfolding_all rfl) ?_); intro w9 HB9 s9; have HR9 := hid_ (HR.out.step s9.out nr4); have HM9 := hid_ (HM.out.far s9.out F4.out); have C9 := hid_ (C.out.own s9.out (Nat.le_refl _)))
        | (with_reducible refine wpList_loadM (op := ⟨some 49, _, _, _, _, _⟩) rfl 46 (.tmp 6) rfl w2.heap.size 0 (by with_unfolding_all rfl) _ _ HB6.out (⟨K, x, y, k, nOf k (z 1) (z 2)⟩ : OpV).list (by with_unfolding_all rfl) _ Tryz.underlying46 rfl (by with_unfolding_all exact size46) ?_))
      refine bodyPost_ret (v := .agg (⟨K, x, y, k, nOf k (z 1) (z 2)⟩ : OpV).list.toArray) (results_cell Tryz.results55 rfl (load_row HB9.out 46 _ Tryz.underlying46 rfl (by with_unfolding_all exact size46))) rfl ⟨rfl, A1, HM9.out, HR9.out, C9.out⟩
end Go.Proofs.YtglklbcohbeacaaGreat
