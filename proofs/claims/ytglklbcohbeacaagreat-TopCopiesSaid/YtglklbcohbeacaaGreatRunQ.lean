/- A program that is run, step by step. -/
import Derived.Test.YtglklbcohbeacaaGreatRunP
namespace Go.Proofs.YtglklbcohbeacaaGreat
open Go.RowKit
set_option linter.unusedSimpArgs false
set_option linter.unusedVariables false
/-- So many steps, from what to what. -/
def Path (S : St) : Nat → Mc → Mc → Prop
  | 0, M, M' => M = M'
  | k + 1, M, M' => ∃ M1, Goes S M M1 ∧ Path S k M1 M'
theorem Path.trans {S : St} : ∀ {a b : Nat} {M M1 M2 : Mc}, Path S a M M1 → Path S b M1 M2 → Path S (a + b) M M2
  | 0, b, M, M1, M2, h1, h2 => by rw [Nat.zero_add]; unfold Path at h1; rw [h1]; exact h2
  | a + 1, b, M, M1, M2, h1, h2 => by
    obtain ⟨M3, hg, hp⟩ := h1
    rw [show a + 1 + b = a + b + 1 by omega]
    exact ⟨M3, hg, hp.trans h2⟩
theorem Path.one {S : St} {M M1 : Mc} (h : Goes S M M1) : Path S 1 M M1 := ⟨M1, h, rfl⟩
/-- A program's steps end at what meets P. -/
def Ends (pz : List Int) (steps : Nat) (P : Mc → Prop) : Prop := ∀ S : St, (∀ j, 0 ≤ S.zs.getD j 0 ∧ S.zs.getD j 0 ≤ 255) → (∀ j, j < 4 → S.zs.getD (256 + j) 0 = ([24, 78, 0, 0] : List Int).getD j 0) → (∀ j, 336 + j < 32768 → S.zs.getD (336 + j) 0 = pz.getD j 0) → ∃ M, Path S steps Mc0 M ∧ P M
def EndPost (P : Mc → Prop) (w : World) (e : Ending) (w' : World) : Prop :=
  ∃ (S : St) (A : Option Nat) (M : Mc), e = .returned (.pointer (some ⟨S.m, 0, none⟩)) ∧ P M ∧ Mach w' S M A ∧ Below w.heap.size w w'
set_option maxRecDepth 100000 in
set_option maxHeartbeats 4000000 in
theorem run_ends (p : Value) (n : Nat) (pz : List Int) (steps : Nat) (P : Mc → Prop) (hn : n ≤ 2000) (hs : steps ≤ 100000) (hruns : Ends pz steps P) (w : World) (hpb : ∀ z ∈ pz, 0 ≤ z ∧ z ≤ 255) (hown : w.ownsRow 0 5 1 p n (pz.map (Value.int .u8))) :
    Calls Tryz.prog 11 #[p, .int .i64 steps] w (EndPost P w) := by
  obtain ⟨i0, hi0, hz0, hz1, hz2⟩ := info_parts byte_info
  have hpb' : ∀ z ∈ ([24, 78, 0, 0] : List Int) ++ pz, 0 ≤ z ∧ z ≤ 255 := by
    intro z hz
    rcases List.mem_append.1 hz with h | h
    · exact (by decide : ∀ z ∈ ([24, 78, 0, 0] : List Int), 0 ≤ z ∧ z ≤ 255) z h
    · exact hpb z h
  have hl : pz.length = n := by have := hown.1; simpa using this
  rcases hown.2 with ⟨rfl, rfl⟩ | ⟨gp, capp, cur, rfl, _, hgp, _⟩
  · obtain rfl : pz = [] := List.eq_nil_of_length_eq_zero hl
    clear hown hl
    go_enter Tryz.func11, Tryz.ntmps11
    go_wp2_with (first
      | ((with_reducible refine wpList_bslice (o := ⟨some 8, _, _, _, _, _⟩) rfl 22 5 4 _ rfl #[.int .u8 24, .int .u8 78, .int .u8 0, .int .u8 0] i0 _ Tryz.underlying22 hi0 hz0 1 hz1 (by decide) (by decide) (by kernel_rfl) ?_); intro w2 HB2 HW2 hq2; have hnone := fun ty => run_append_none (n := 4) (cap := 4) HB2.out (Nat.le_refl _) ty))
    have HK2 := HW2
    have HROW : Hid (IsRow .u8 w2 (some ⟨w.heap.size, 0, none⟩) (4 + 0) (([24, 78, 0, 0] : List Int) ++ [])) := hid_ (Mem.row (g := w.heap.size) (zs := [24, 78, 0, 0]) ⟨HB2.out, by decide⟩)
    obtain ⟨n, hn0⟩ : ∃ n : Nat, n = 0 := ⟨0, rfl⟩
    clear hnone
    go_wp2_with (first
      | (go_at_call 16; refine (made_rom _ (4 + 0) _ ([24, 78, 0, 0] ++ []) (by omega) _ HROW.out).mono ?_; rintro e w3 ⟨zs, title, whole, rfl, hb, hM, hl, hA, hB, hpv⟩; have Hb3 := hid_ hb; have HM3 := hid_ hM; have HL := hid_ hl; have HA := hid_ hA; have HB := hid_ hB; have HP := hid_ hpv; clear hb hM hl hA hB hpv)
      | (go_at_call 15; refine (new_any w2.heap.size zs title false whole HL.out w3 HM3.out HP.out).mono ?_; rintro e w4 ⟨S, rfl, hz, hM4, hb4, hm4, ht4⟩; have HZ := hid_ hz; have HM4 := hid_ hM4; have Hb4 := hid_ hb4; have Hm4 := hid_ hm4; have Ht4 := hid_ ht4; clear hz hM4 hb4 hm4 ht4))
    have HK4 : Hid (Below w.heap.size w w4) := hid_ ((HK2.out.trans (Hb3.out.mono HK2.out.size)).trans (Hb4.out.mono (Nat.le_trans HK2.out.size Hb3.out.size)))
    obtain ⟨ME, hpath, hPE⟩ := hruns S (mach_bd HM4.out) (fun j hj => by rw [HZ.out, HA.out j hj]; exact getD_app.1 j hj) (fun j hj => by rw [HZ.out, HB.out j hj]; exact getD_app.2 j)
    have HPE := hid_ hPE
    have HPA : Hid (Path S (steps - 0) Mc0 ME) := hid_ hpath
    clear hpath hPE
    have HI4 : Hid (MInv w.heap.size w4 S none) := hid_ ⟨HK4.out.size, Nat.le_trans (Nat.le_trans HK2.out.size Hb3.out.size) Hm4.out, Nat.le_trans (Nat.le_trans HK2.out.size Hb3.out.size) Ht4.out, by simp⟩
    clear HB HA HP HL HM3
    go_loopw [18] (fun i wr => ∃ j : Nat, j ≤ steps ∧ i = .int .i64 j ∧ ∃ A M, Hid (Path S (steps - j) M ME) ∧ Hid (Mach wr S M A) ∧ Hid (MInv w.heap.size wr S A) ∧ Hid (Below w.heap.size w wr)) (fun i _ => steps - (intOf i).toNat)
    case atStart => exact ⟨0, by omega, rfl, none, Mc0, HPA, HM4, HI4, HK4⟩
    case round =>
      obtain ⟨j, hj, rfl, A, M, HPr, HMr, HIr, HKr⟩ := hrel
      by_cases hlt : j < steps
      · have ql : (j : Int) < (steps : Int) := by omega
        obtain ⟨k, hk⟩ : ∃ k, steps - j = k + 1 := ⟨steps - j - 1, by omega⟩
        have hpr := HPr.out
        rw [hk] at hpr
        obtain ⟨MN, hgo, hpn⟩ := hpr
        have HGo := hid_ hgo
        have HPn : Hid (Path S (steps - (j + 1)) MN ME) := hid_ (by rw [show steps - (j + 1) = k by omega]; exact hpn)
        clear hgo hpn HPr hk
        go_wp2_with (first
          | (go_at_call 17; refine (HGo.out w.heap.size A _ HIr.out HMr.out).mono ?_; rintro e w6 ⟨kd, pc, o, t, A', cnt, acc, xs, rfl, hP, hI, hb6⟩; have HM6 : Hid (Mach w6 S MN A') := hid_ ⟨_, _, _, hP⟩; have HI6 := hid_ hI; have HK6 := hid_ (HKr.out.trans hb6); clear hP hI hb6))
        go_roundw
        case rel => exact ⟨j + 1, by omega, by go_num, A', MN, HPn, HM6, HI6, HK6⟩
        case measure => simp [intOf]; omega
      · obtain rfl : j = steps := by omega
        have ql : ¬ (j : Int) < (j : Int) := by omega
        go_wp2_with fail
        go_ret
        have hpe : M = ME := by have := HPr.out; rw [Nat.sub_self] at this; exact this
        subst hpe
        exact ⟨S, A, M, rfl, HPE.out, HMr.out, HKr.out⟩
  · have HOWN := hid_ hown
    have hc := hown.cells (g := gp) rfl
    have HC := hid_ hc
    have hgl : gp < w.heap.size := (Array.getElem?_eq_some_iff.1 hgp).1
    clear hown hc
    go_enter Tryz.func11, Tryz.ntmps11
    go_wp2_with (first
      | ((with_reducible refine wpList_bslice (o := ⟨some 8, _, _, _, _, _⟩) rfl 22 5 4 _ rfl #[.int .u8 24, .int .u8 78, .int .u8 0, .int .u8 0] i0 _ Tryz.underlying22 hi0 hz0 1 hz1 (by decide) (by decide) (by kernel_rfl) ?_); intro w1 HB1 HW1 hq1)
      | (at_builtin; refine wpList_append_own _ rfl _ _ 22 rfl 0 5 i0 (.int .u8 0) 1 1 Tryz.underlying22 hi0 hz0 hz1 hz2 rfl (by decide) _ 4 _ rfl (blk_own (l := [24, 78, 0, 0]) HB1.out rfl (by unfold maxLen; omega)) ⟨gp, 0, none⟩ n capp (pz.map (Value.int .u8)) rfl ?c1 ?c2 ?c3 ?c4 ?c5 ?c6 ?_))
    case c1 => simp [hl]
    case c2 =>
      intro j u hj
      refine (HW1.out.cell (p := (⟨gp, 0, none⟩ : Addr).add j) ?_).trans (HC.out j u hj)
      unfold Addr.add; split <;> exact hgl
    case c3 => exact ints_oneCell .u8 pz
    case c4 => unfold maxLen; omega
    case c5 => omega
    case c6 => exact Nat.zero_le _
    intro v' w2 hown2 hgrow _
    have hown3 : w2.ownsRow 0 5 1 v' (4 + n) ((([24, 78, 0, 0] : List Int) ++ pz).map (Value.int .u8)) := hown2
    obtain ⟨g2, cap2, rfl, hrow2⟩ := own_row hown3 hpb' (by omega)
    have HROW := hid_ hrow2
    have HK2 : Hid (Below w.heap.size w w2) := hid_ (HW1.out.grown hgrow HW1.out.size (fun k hk => by simp [Value.ownBlock] at hk; omega))
    clear hown2 hown3 hgrow hrow2
    go_wp2_with (first
      | (go_at_call 16; refine (made_rom _ (4 + n) _ ([24, 78, 0, 0] ++ pz) (by omega) _ HROW.out).mono ?_; rintro e w3 ⟨zs, title, whole, rfl, hb, hM, hl, hA, hB, hpv⟩; have Hb3 := hid_ hb; have HM3 := hid_ hM; have HL := hid_ hl; have HA := hid_ hA; have HB := hid_ hB; have HP := hid_ hpv; clear hb hM hl hA hB hpv)
      | (go_at_call 15; refine (new_any w2.heap.size zs title false whole HL.out w3 HM3.out HP.out).mono ?_; rintro e w4 ⟨S, rfl, hz, hM4, hb4, hm4, ht4⟩; have HZ := hid_ hz; have HM4 := hid_ hM4; have Hb4 := hid_ hb4; have Hm4 := hid_ hm4; have Ht4 := hid_ ht4; clear hz hM4 hb4 hm4 ht4))
    have HK4 : Hid (Below w.heap.size w w4) := hid_ ((HK2.out.trans (Hb3.out.mono HK2.out.size)).trans (Hb4.out.mono (Nat.le_trans HK2.out.size Hb3.out.size)))
    obtain ⟨ME, hpath, hPE⟩ := hruns S (mach_bd HM4.out) (fun j hj => by rw [HZ.out, HA.out j hj]; exact getD_app.1 j hj) (fun j hj => by rw [HZ.out, HB.out j hj]; exact getD_app.2 j)
    have HPE := hid_ hPE
    have HPA : Hid (Path S (steps - 0) Mc0 ME) := hid_ hpath
    clear hpath hPE
    have HI4 : Hid (MInv w.heap.size w4 S none) := hid_ ⟨HK4.out.size, Nat.le_trans (Nat.le_trans HK2.out.size Hb3.out.size) Hm4.out, Nat.le_trans (Nat.le_trans HK2.out.size Hb3.out.size) Ht4.out, by simp⟩
    clear HB HA HP HL HM3
    go_loopw [18] (fun i wr => ∃ j : Nat, j ≤ steps ∧ i = .int .i64 j ∧ ∃ A M, Hid (Path S (steps - j) M ME) ∧ Hid (Mach wr S M A) ∧ Hid (MInv w.heap.size wr S A) ∧ Hid (Below w.heap.size w wr)) (fun i _ => steps - (intOf i).toNat)
    case atStart => exact ⟨0, by omega, rfl, none, Mc0, HPA, HM4, HI4, HK4⟩
    case round =>
      obtain ⟨j, hj, rfl, A, M, HPr, HMr, HIr, HKr⟩ := hrel
      by_cases hlt : j < steps
      · have ql : (j : Int) < (steps : Int) := by omega
        obtain ⟨k, hk⟩ : ∃ k, steps - j = k + 1 := ⟨steps - j - 1, by omega⟩
        have hpr := HPr.out
        rw [hk] at hpr
        obtain ⟨MN, hgo, hpn⟩ := hpr
        have HGo := hid_ hgo
        have HPn : Hid (Path S (steps - (j + 1)) MN ME) := hid_ (by rw [show steps - (j + 1) = k by omega]; exact hpn)
        clear hgo hpn HPr hk
        go_wp2_with (first
          | (go_at_call 17; refine (HGo.out w.heap.size A _ HIr.out HMr.out).mono ?_; rintro e w6 ⟨kd, pc, o, t, A', cnt, acc, xs, rfl, hP, hI, hb6⟩; have HM6 : Hid (Mach w6 S MN A') := hid_ ⟨_, _, _, hP⟩; have HI6 := hid_ hI; have HK6 := hid_ (HKr.out.trans hb6); clear hP hI hb6))
        go_roundw
        case rel => exact ⟨j + 1, by omega, by go_num, A', MN, HPn, HM6, HI6, HK6⟩
        case measure => simp [intOf]; omega
      · obtain rfl : j = steps := by omega
        have ql : ¬ (j : Int) < (j : Int) := by omega
        go_wp2_with fail
        go_ret
        have hpe : M = ME := by have := HPr.out; rw [Nat.sub_self] at this; exact this
        subst hpe
        exact ⟨S, A, M, rfl, HPE.out, HMr.out, HKr.out⟩
end Go.Proofs.YtglklbcohbeacaaGreat
