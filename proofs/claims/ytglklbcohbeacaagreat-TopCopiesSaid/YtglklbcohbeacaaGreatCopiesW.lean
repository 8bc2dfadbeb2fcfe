/- The walk of TopCopies. -/
import Derived.Test.YtglklbcohbeacaaGreatCopiesP
import Derived.Test.YtglklbcohbeacaaGreatSumsW
import Derived.Test.YtglklbcohbeacaaGreatIn
namespace Go.Proofs.YtglklbcohbeacaaGreat
open Go.RowKit
set_option linter.unusedSimpArgs false
set_option linter.unusedVariables false
theorem copyP_bd (lo hi n : Int) (h1 : 0 ≤ lo ∧ lo ≤ 255) (h2 : 0 ≤ hi ∧ hi ≤ 255) (h3 : 0 ≤ n ∧ n ≤ 255) : ∀ z ∈ copyP lo hi n, 0 ≤ z ∧ z ≤ 255 := by
  intro z hz
  simp only [copyP, List.mem_cons, List.not_mem_nil, or_false] at hz
  omega
set_option maxRecDepth 100000 in
set_option maxHeartbeats 8000000 in
theorem copies_any (w : World) (s0 : Option Addr) (n cap0 : Nat) (ds : List Int) (a : Int) (h0 : IsRow .u8 w s0 n ds) (ha0 : 0 ≤ a) (ha1 : a ≤ 65535) :
    Calls Tryz.prog 4 #[.slice s0 n cap0, .int .u16 a] w (Ret (.bool true) w) := by
  have HK : Hid (Below w.heap.size w w) := Below.refl _ _
  obtain ⟨i0, hi0, hz0, hz1, hz2⟩ := info_parts byte_info
  have hnot : ∀ (x : Bool) (w : World), (Op.unary .not (.bool x)).run Tryz.prog w = .ok (.bool (!x)) w := fun _ _ => rfl
  have HR0 := hid_ h0
  have hl : ds.length = n := h0.1
  clear h0
  by_cases hA : n < 1
  · have q1 : (n : Int) < 1 := by omega
    go_enter Tryz.func4, Tryz.ntmps4
    go_wp2_with (first
      | (go_at_call 5; refine (awake_any _).mono ?_; rintro e wa ⟨rfl, hc, hf, hz, hb⟩; clear hc hf hz; replace HK := hid_ (HK.out.trans (hb.mono HK.out.size)); clear hb))
    go_ret
    exact .of rfl HK.out
  · have q1 : ¬ (n : Int) < 1 := by omega
    by_cases hB : 60 < n
    · have q60 : (60 : Int) < (n : Int) := by omega
      go_enter Tryz.func4, Tryz.ntmps4
      go_wp2_with (first
        | (go_at_call 5; refine (awake_any _).mono ?_; rintro e wa ⟨rfl, hc, hf, hz, hb⟩; clear hc hf hz; replace HK := hid_ (HK.out.trans (hb.mono HK.out.size)); clear hb))
      go_ret
      exact .of rfl HK.out
    · have q60 : ¬ (60 : Int) < (n : Int) := by omega
      have hdb := row_all HR0.out
      obtain ⟨b0_, off0, rfl, hb0, hc0⟩ := HR0.out.at_ (by omega)
      have HC0 := hid_ hc0
      have HL := hid_ hl
      have HCY : Hid (∀ j y, j < n → ds.getD j 0 = y → w.cell? ⟨b0_, off0 + j, none⟩ = some (.int .u8 y)) := hid_ (fun j y hj hy => by
        obtain ⟨x, hx, _, _, hcx⟩ := hc0 j hj
        rw [hcx, ← hx, hy])
      have HCEL : Hid (∀ W, Below w.heap.size w W → ∀ j u, (ds.map (Value.int .u8))[j]? = some u → W.cell? ((⟨b0_, off0, none⟩ : Addr).add j) = some u) := hid_ (fun W hW j u hj => by
        have hjl : j < ds.length := by simpa using (List.getElem?_eq_some_iff.1 hj).1
        obtain ⟨x, hx, _, _, hcx⟩ := hc0 j (by omega)
        have e : (⟨b0_, off0, none⟩ : Addr).add j = ⟨b0_, off0 + j, none⟩ := by unfold Addr.add; split <;> simp_all
        rw [e, hW.cell (p := ⟨b0_, off0 + j, none⟩) hb0, hcx, ← hj, List.getElem?_map, ← hx, List.getD_eq_getElem?_getD, List.getElem?_eq_getElem hjl]
        rfl)
      obtain ⟨j0, hj0⟩ : ∃ j0 : Nat, a % 7936 = (j0 : Int) := ⟨(a % 7936).toNat, by omega⟩
      have hj1 : j0 < 7936 := by omega
      have htm : Int.tmod a 7936 = (j0 : Int) := by rw [Int.tmod_eq_emod_of_nonneg ha0]; exact hj0
      have en : IntKind.u8.wrap (n : Int) = (n : Int) := by rw [wrap8]; omega
      obtain ⟨t, ht⟩ : ∃ t, 5 * n = t := ⟨_, rfl⟩
      have em : (5 : Int) * (n : Int) = (t : Int) := by rw [← ht]; push_cast; rfl
      have ew1 : IntKind.i64.wrap (t : Int) = (t : Int) := IntWalk.i64_in _ (by omega)
      obtain ⟨s, hs⟩ : ∃ s, 4 + 5 * n = s := ⟨_, rfl⟩
      have ew2 : IntKind.i64.wrap (4 + (t : Int)) = (s : Int) := by rw [IntWalk.i64_in _ (by omega), ← hs, ← ht]; push_cast; rfl
      have hpb : ∀ z ∈ copyP ((49152 + (j0 : Int)) % 256) ((49152 + (j0 : Int)) / 256) n ++ ds, 0 ≤ z ∧ z ≤ 255 := by
        intro z hz
        rcases List.mem_append.1 hz with h | h
        · exact copyP_bd ((49152 + (j0 : Int)) % 256) ((49152 + (j0 : Int)) / 256) n (by omega) (by omega) (by omega) z h
        · obtain ⟨k, hk, rfl⟩ := List.mem_iff_getElem.1 h
          have := hdb k
          rwa [List.getD_eq_getElem?_getD, List.getElem?_eq_getElem hk] at this
      have HEN := hid_ (copies_end fills ((49152 + (j0 : Int)) % 256) ((49152 + (j0 : Int)) / 256) ds j0 n hl (by omega) (by omega) (by omega) rfl rfl)
      clear hc0 hdb hl ht
      go_enter Tryz.func4, Tryz.ntmps4
      go_wp2_with (first
        | (go_at_call 5; refine (awake_any _).mono ?_; rintro e wa ⟨rfl, hc, hf, hz, hb⟩; clear hc hf hz; replace HK := hid_ (HK.out.trans (hb.mono HK.out.size)); clear hb)
        | ((with_reducible refine wpList_bslice (o := ⟨some 36, _, _, _, _, _⟩) rfl 22 5 16 _ rfl ((copyP ((49152 + (j0 : Int)) % 256) ((49152 + (j0 : Int)) / 256) n).map (Value.int .u8)).toArray i0 _ Tryz.underlying22 hi0 hz0 1 hz1 (by decide) (by decide) (by kernel_rfl) ?_); intro w1 HB1 HW1 hq1; have HK1 := hid_ (HK.out.trans (HW1.out.mono HK.out.size)); have HK0 := HK; clear HK)
        | (at_builtin; refine wpList_append_own _ rfl _ _ 22 rfl 0 5 i0 (.int .u8 0) 1 1 Tryz.underlying22 hi0 hz0 hz1 hz2 rfl (by decide) _ 16 _ rfl (blk_own (l := copyP ((49152 + (j0 : Int)) % 256) ((49152 + (j0 : Int)) / 256) n) HB1.out rfl (by unfold maxLen; omega)) ⟨b0_, off0, none⟩ n cap0 (ds.map (Value.int .u8)) rfl (by simp [HL.out]) (HCEL.out w1 (HK1.out)) (ints_oneCell .u8 ds) (by unfold maxLen; omega) (by omega) (Nat.zero_le _) ?_; intro p' w2 ho2 hg2 _; have HO2 := hid_ ho2; have HK2 := hid_ (HK1.out.grown hg2 HK1.out.size (fun k hk => by have h2 : some wa.heap.size = some k := hk; have h3 := Option.some.inj h2; have := HK0.out.size; omega)); clear ho2 hg2)
        | (go_at_call 11; subst hs; refine (run_ends _ (16 + n) (copyP ((49152 + (j0 : Int)) % 256) ((49152 + (j0 : Int)) / 256) n ++ ds) (4 + 5 * n) (Lp ds j0 n n) (by omega) (by omega) HEN.out w2 hpb (by rw [List.map_append]; exact HO2.out)).mono ?_; rintro e w3 ⟨S, A, M, rfl, hP, hM, hb⟩; have HP := hid_ hP; have HM := hid_ hM; have HK3 := hid_ (HK2.out.trans (hb.mono HK2.out.size)); clear hP hM hb))
      go_wp2_with fail
      go_loopw [48] (fun i wr => ∃ j : Nat, j ≤ n ∧ i = .int .i64 j ∧ Hid (Mach wr S M A) ∧ Hid (Below w.heap.size w wr)) (fun i _ => n - (intOf i).toNat)
      case atStart => exact ⟨0, by omega, rfl, HM, HK3⟩
      case round =>
        clear HM HK3
        obtain ⟨j, hj, rfl, HM, HKr⟩ := hrel
        by_cases hlt : j < n
        · skip
          have i0' : (0 : Int) ≤ (j : Int) := by omega
          have i1 : (j : Int) < (n : Int) := by omega
          obtain ⟨y, hy, y0, y1, cy0⟩ := HC0.out j hlt
          have cy := (HKr.out.cell (p := ⟨b0_, off0 + j, none⟩) hb0).trans cy0
          clear cy0
          have hwk : M.work.getD (j0 + j) 0 = y := by rw [HP.out.work (j0 + j) (by omega), if_pos (by omega), Nat.add_sub_cancel_left, hy]
          have HWK := hid_ hwk
          clear hwk hy
          have ec : IntKind.u16.wrap (j : Int) = (j : Int) := by simp [IntKind.wrap, IntKind.signed, IntKind.bits]; omega
          obtain ⟨jj, hjj⟩ : ∃ jj, j0 + j = jj := ⟨_, rfl⟩
          rw [hjj] at HWK
          have ea : 49152 + (j0 : Int) + (j : Int) = 49152 + (jj : Int) := by omega
          have eb : IntKind.u16.wrap (49152 + (jj : Int)) = 49152 + (jj : Int) := by rw [wrap_u16]; omega
          have hne : (y != y) = false := by simp
          go_wp2_with fail
          have HMd : Hid (Mach wr.drew S M A) := hid_ (Mach.below HM.out (Below.refl wr.heap.size wr).drew (Nat.le_refl _))
          have HKd : Hid (Below w.heap.size w wr.drew) := hid_ HKr.out.drew
          clear cy
          have cyd : wr.drew.cell? ⟨b0_, off0 + j, none⟩ = some (.int .u8 y) := (HKd.out.cell (p := ⟨b0_, off0 + j, none⟩) hb0).trans (HCY.out j y hlt (by rw [← HWK.out, HP.out.work jj (by omega), if_pos (by omega), show jj - j0 = j by omega]))
          refine wp_region_tail (S := (fun W => W.cell? ⟨b0_, off0 + j, none⟩ = some (.int .u8 y))) (tail := (fun _ => false)) (by kernel_rfl) ?hS1 (fun hHeld => ?rest1)
          case hS1 => (exact cyd)
          refine wpAnyT_take (i := 0) (v := ?v2) rfl (by kernel_rfl) (by kernel_rfl) (by kernel_rfl) (by kernel_rfl) (by kernel_rfl) (fun _ _ _ h => h) (Or.inl ⟨by rfl, ?hy2⟩) (by assumption) ?rest2
          case hy2 => (intro w hSw; (try simp only [List.getElem_toArray, List.getElem_cons_succ, List.getElem_cons_zero]); (try dsimp only at hSw); go_simp; all_goals (with_reducible rfl))
          (try simp only [Act.put, List.getElem_toArray, List.getElem_cons_succ, List.getElem_cons_zero, List.setIfInBounds_toArray, List.set_cons_zero, List.set_cons_succ])
          refine wpAnyT_take (i := 1) (v := ?v3) rfl (by kernel_rfl) (by kernel_rfl) (by kernel_rfl) (by kernel_rfl) (by kernel_rfl) (fun _ _ _ h => h) (Or.inl ⟨by rfl, ?hy3⟩) (by assumption) ?rest3
          case hy3 => (intro w hSw; (try simp only [List.getElem_toArray, List.getElem_cons_succ, List.getElem_cons_zero]); (try dsimp only at hSw); go_simp; all_goals (with_reducible rfl))
          (try simp only [Act.put, List.getElem_toArray, List.getElem_cons_succ, List.getElem_cons_zero, List.setIfInBounds_toArray, List.set_cons_zero, List.set_cons_succ])
          refine wpAnyT_take (i := 2) (v := ?v4) rfl (by kernel_rfl) (by kernel_rfl) (by kernel_rfl) (by kernel_rfl) (by kernel_rfl) (fun _ _ _ h => h) (Or.inl ⟨by rfl, ?hy4⟩) (by assumption) ?rest4
          case hy4 => (intro w hSw; (try simp only [List.getElem_toArray, List.getElem_cons_succ, List.getElem_cons_zero]); (try dsimp only at hSw); go_simp; all_goals (with_reducible rfl))
          (try simp only [Act.put, List.getElem_toArray, List.getElem_cons_succ, List.getElem_cons_zero, List.setIfInBounds_toArray, List.set_cons_zero, List.set_cons_succ])
          refine wpAnyT_take (i := 3) (v := ?v5) rfl (by kernel_rfl) (by kernel_rfl) (by kernel_rfl) (by kernel_rfl) (by kernel_rfl) (fun _ _ _ h => h) (Or.inl ⟨by rfl, ?hy5⟩) (by assumption) ?rest5
          case hy5 => (intro w hSw; (try simp only [List.getElem_toArray, List.getElem_cons_succ, List.getElem_cons_zero]); (try dsimp only at hSw); go_simp; all_goals (with_reducible rfl))
          (try simp only [Act.put, List.getElem_toArray, List.getElem_cons_succ, List.getElem_cons_zero, List.setIfInBounds_toArray, List.set_cons_zero, List.set_cons_succ])
          refine wpAnyT_take (i := 4) (v := ?v6) rfl (by kernel_rfl) (by kernel_rfl) (by kernel_rfl) (by kernel_rfl) (by kernel_rfl) (fun _ _ _ h => h) (Or.inl ⟨by rfl, ?hy6⟩) (by assumption) ?rest6
          case hy6 => (intro w hSw; (try simp only [List.getElem_toArray, List.getElem_cons_succ, List.getElem_cons_zero]); (try dsimp only at hSw); go_simp; all_goals (with_reducible rfl))
          (try simp only [Act.put, List.getElem_toArray, List.getElem_cons_succ, List.getElem_cons_zero, List.setIfInBounds_toArray, List.set_cons_zero, List.set_cons_succ])
          refine wpAnyT_take (i := 6) (v := ?v7) rfl (by kernel_rfl) (by kernel_rfl) (by kernel_rfl) (by kernel_rfl) (by kernel_rfl) (fun _ _ _ h => h) (Or.inl ⟨by rfl, ?hy7⟩) (by assumption) ?rest7
          case hy7 => (intro w hSw; (try simp only [List.getElem_toArray, List.getElem_cons_succ, List.getElem_cons_zero]); (try dsimp only at hSw); go_simp; all_goals (with_reducible rfl))
          (try simp only [Act.put, List.getElem_toArray, List.getElem_cons_succ, List.getElem_cons_zero, List.setIfInBounds_toArray, List.set_cons_zero, List.set_cons_succ])
          refine wpAnyT_take (i := 7) (v := ?v8) rfl (by kernel_rfl) (by kernel_rfl) (by kernel_rfl) (by kernel_rfl) (by kernel_rfl) (fun _ _ _ h => h) (Or.inl ⟨by rfl, ?hy8⟩) (by assumption) ?rest8
          case hy8 => (intro w hSw; (try simp only [List.getElem_toArray, List.getElem_cons_succ, List.getElem_cons_zero]); (try dsimp only at hSw); go_simp; all_goals (with_reducible rfl))
          (try simp only [Act.put, List.getElem_toArray, List.getElem_cons_succ, List.getElem_cons_zero, List.setIfInBounds_toArray, List.set_cons_zero, List.set_cons_succ])
          refine wpAnyT_take (i := 8) (v := ?v9) rfl (by kernel_rfl) (by kernel_rfl) (by kernel_rfl) (by kernel_rfl) (by kernel_rfl) (fun _ _ _ h => h) (Or.inl ⟨by rfl, ?hy9⟩) (by assumption) ?rest9
          case hy9 => (intro w hSw; (try simp only [List.getElem_toArray, List.getElem_cons_succ, List.getElem_cons_zero]); (try dsimp only at hSw); go_simp; all_goals (with_reducible rfl))
          (try simp only [Act.put, List.getElem_toArray, List.getElem_cons_succ, List.getElem_cons_zero, List.setIfInBounds_toArray, List.set_cons_zero, List.set_cons_succ])
          refine wpAnyT_take (i := 9) (v := ?v10) rfl (by kernel_rfl) (by kernel_rfl) (by kernel_rfl) (by kernel_rfl) (by kernel_rfl) (fun _ _ _ h => h) (Or.inl ⟨by rfl, ?hy10⟩) (by assumption) ?rest10
          case hy10 => (intro W hW; have c := hW; (try simp only [List.getElem_toArray, List.getElem_cons_succ, List.getElem_cons_zero]); go_simp; all_goals (with_reducible rfl))
          (try simp only [Act.put, List.getElem_toArray, List.getElem_cons_succ, List.getElem_cons_zero, List.setIfInBounds_toArray, List.set_cons_zero, List.set_cons_succ])
          refine wpAnyT_one (i := 5) rfl (by kernel_rfl) (fun K hK => ?_)
          (try simp only [List.getElem_toArray, List.getElem_cons_succ, List.getElem_cons_zero])
          go_simp
          refine (peek_work S M A jj (by omega) _ HMd.out).mono ?_
          rintro e w5 ⟨rfl, rfl⟩
          rw [HWK.out]
          (try go_wp2_with fail)
          refine hK.out _ _ ?hS11 ?rest11
          case hS11 => (exact hHeld)
          clear hK K
          (try simp only [Act.put, List.getElem_toArray, List.getElem_cons_succ, List.getElem_cons_zero, List.setIfInBounds_toArray, List.set_cons_zero, List.set_cons_succ])
          refine wpAnyT_take (i := 10) (v := ?v12) rfl (by kernel_rfl) (by kernel_rfl) (by kernel_rfl) (by kernel_rfl) (by kernel_rfl) (fun _ _ _ h => h) (Or.inl ⟨by rfl, ?hy12⟩) (by assumption) ?rest12
          case hy12 => (intro w hSw; (try simp only [List.getElem_toArray, List.getElem_cons_succ, List.getElem_cons_zero]); (try dsimp only at hSw); go_simp; all_goals (with_reducible rfl))
          (try simp only [Act.put, List.getElem_toArray, List.getElem_cons_succ, List.getElem_cons_zero, List.setIfInBounds_toArray, List.set_cons_zero, List.set_cons_succ])
          refine wpAnyT_done (by kernel_rfl) ?_ _
          go_wp2_with fail
          go_roundw
          case rel => exact ⟨j + 1, by omega, by go_num, HMd, HKd⟩
          case measure => simp [intOf]; omega
        · skip
          obtain rfl : j = n := by omega
          have ql : ¬ (j : Int) < (j : Int) := by omega
          have hwk : M.work.getD (j0 + j) 0 = 0 := by rw [HP.out.work (j0 + j) (by omega), if_neg (by omega)]
          have HWK := hid_ hwk
          clear hwk
          have ec : IntKind.u16.wrap (j : Int) = (j : Int) := by simp [IntKind.wrap, IntKind.signed, IntKind.bits]; omega
          obtain ⟨jj, hjj⟩ : ∃ jj, j0 + j = jj := ⟨_, rfl⟩
          rw [hjj] at HWK
          have ea : 49152 + (j0 : Int) + (j : Int) = 49152 + (jj : Int) := by omega
          have eb : IntKind.u16.wrap (49152 + (jj : Int)) = 49152 + (jj : Int) := by rw [wrap_u16]; omega
          obtain ⟨t2, ht2⟩ : ∃ t2, j * 10 = t2 := ⟨_, rfl⟩
          have em2 : (j : Int) * 10 = (t2 : Int) := by rw [← ht2]; push_cast; rfl
          have ex1 : IntKind.i64.wrap (t2 : Int) = (t2 : Int) := IntWalk.i64_in _ (by omega)
          obtain ⟨u2, hu2⟩ : ∃ u2, 11 + t2 = u2 := ⟨_, rfl⟩
          have ex2 : IntKind.i64.wrap (11 + (t2 : Int)) = (u2 : Int) := by rw [IntWalk.i64_in _ (by omega), ← hu2]; push_cast; rfl
          obtain ⟨v2, hv2⟩ : ∃ v2 : Nat, u2 - 1 = v2 := ⟨_, rfl⟩
          have ex3 : IntKind.i64.wrap ((u2 : Int) - 1) = (v2 : Int) := by rw [IntWalk.i64_in _ (by omega)]; omega
          have ex4 : IntKind.u64.wrap (v2 : Int) = (v2 : Int) := by simp [IntKind.wrap, IntKind.signed, IntKind.bits]; omega
          have hcy : M.cyc = (v2 : Int) := by rw [HP.out.cyc, if_neg (by omega)]; omega
          have hb : M.R.b = 0 := by rw [HP.out.b]; omega
          have hp : M.R.pc = 350 := by rw [HP.out.pc, if_neg (by omega)]
          have HCC := hid_ hcy
          have HB := hid_ hb
          have HPP := hid_ hp
          clear hcy hb hp ht2 hu2 hv2
          go_wp2_with (first
            | (go_at_call 12; refine (state_any S _ A _ HM.out).mono ?_; rintro e w6 ⟨rfl, hc, hf, hz, hb6⟩; clear hc hf hz; have HM6 := hid_ (HM.out.below hb6 (Nat.le_refl _)); have HK6 := hid_ (HKr.out.trans (hb6.mono HKr.out.size)); clear hb6)
            | ((with_reducible refine wpList_allocA (op := ⟨some 10, _, _, _, _, _⟩) rfl 33 rfl #[.int .u8 0, .int .u8 0, .int .u8 0, .int .u8 0, .int .u8 0, .int .u8 0, .int .u8 0, .int .u8 0, .int .u16 0, .int .u16 0, .bool false, .bool false, .bool false, .bool false] zero33 ?_); intro w7 HD7 HW7 hz7; have HM7 := hid_ (HM6.out.below HW7.out (Nat.le_refl _)); have HK7 := hid_ (HK6.out.trans (HW7.out.mono HK6.out.size)); have hF7 := hid_ (HM6.out.free (Nat.le_refl _)))
            | ((with_reducible refine wpList_storeM (op := ⟨none, .store 33 (.tmp 10) (.tmp 64), _, _, _, _⟩) rfl 33 (.tmp 10) (.tmp 64) rfl w6.heap.size 0 (by with_unfolding_all rfl) _ _ HD7.out (stL M.R) (by with_unfolding_all rfl) (by with_unfolding_all exact size33) (hid_ (stL_one _)).out (by with_unfolding_all exact Nat.le_refl 14) (stL M.R).toArray (by with_unfolding_all rfl) ?_); intro w8 HD8 s8; have HM8 := hid_ (HM7.out.far s8.out hF7.out); have HK8 := hid_ (HK7.out.trans (s8.out.below HK7.out.size (fun k hk => by rw [hk]; exact HK6.out.size))); have c2 := HD8.out.cell 2; have c9 := HD8.out.cell 9; rw [st2, HB.out] at c2; rw [st9, HPP.out] at c9)
            | (go_at_call 14; refine (peek_work S M A jj (by omega) _ HM8.out).mono ?_; rintro e w9 ⟨rfl, rfl⟩; rw [HWK.out])
            | (go_at_call 13; refine (cycles_any S _ A _ HM8.out).mono ?_; rintro e w9 ⟨rfl, rfl⟩; rw [HCC.out]))
          go_ret
          exact .of rfl HK8.out
end Go.Proofs.YtglklbcohbeacaaGreat
