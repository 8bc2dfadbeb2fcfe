/- What a program that does nothing answers wrongly; a machine's answers. -/
import Derived.Test.YtglklbcohbeacaaGreatNew2
import Derived.Test.YtglklbcohbeacaaGreatFill2
namespace Go.Proofs.YtglklbcohbeacaaGreat
open Go.RowKit
set_option linter.unusedSimpArgs false
set_option linter.unusedVariables false
set_option maxRecDepth 100000 in
set_option maxHeartbeats 1000000 in
theorem state_any (S : St) (M : Mc) (A : Option Nat) (w : World) (h : Mach w S M A) : Calls Tryz.prog 12 #[.pointer (some ⟨S.m, 0, none⟩)] w (Ret (.agg (stL M.R).toArray) w) := by
  obtain ⟨cnt, acc, xs, h⟩ := h
  have H0 := hid_ h
  clear h
  go_enter Tryz.func12, Tryz.ntmps12
  go_wp2_with (first
    | ((with_reducible refine wpList_allocA (op := ⟨some 2, _, _, _, _, _⟩) rfl 33 rfl #[.int .u8 0, .int .u8 0, .int .u8 0, .int .u8 0, .int .u8 0, .int .u8 0, .int .u8 0, .int .u8 0, .int .u16 0, .int .u16 0, .bool false, .bool false, .bool false, .bool false] zero33 ?_); intro w1 HD1 HW1 hz1; have H1 := hid_ (H0.out.below HW1.out (Nat.le_refl _)))
    | (with_reducible refine wpList_loadMach (op := ⟨some 10, _, _, _, _, _⟩) rfl 33 (.tmp 9) rfl 0 (by with_unfolding_all rfl) H1.out (stL M.R) (by with_unfolding_all rfl) _ Tryz.underlying33 rfl (by with_unfolding_all exact size33) ?_)
    | ((with_reducible refine wpList_storeM (op := ⟨none, .store 33 (.tmp 2) (.tmp 10), _, _, _, _⟩) rfl 33 (.tmp 2) (.tmp 10) rfl w.heap.size 0 (by with_unfolding_all rfl) _ _ HD1.out (stL M.R) (by with_unfolding_all rfl) (by with_unfolding_all exact size33) (hid_ (stL_one _)).out (by with_unfolding_all exact Nat.le_refl 14) (stL M.R).toArray (by with_unfolding_all rfl) ?_); intro w2 HD2 s2))
  refine bodyPost_ret (v := .agg (stL M.R).toArray) (results_cell Tryz.results12 rfl (load_row HD2.out 33 _ Tryz.underlying33 rfl (by with_unfolding_all exact size33))) rfl (.of rfl ?_)
  exact HW1.out.trans (s2.out.below (Nat.le_of_lt hz1) (fun k hk => Nat.le_of_eq hk.symm))
theorem cycles_any (S : St) (M : Mc) (A : Option Nat) (w : World) (h : Mach w S M A) : Calls Tryz.prog 13 #[.pointer (some ⟨S.m, 0, none⟩)] w (Pure (.int .u64 M.cyc) w) := by
  obtain ⟨cnt, acc, xs, h⟩ := h
  have c := cellM h.blk 122 (by omega) _ rfl
  clear h
  go_enter Tryz.func13, Tryz.ntmps13
  go_wp2
  go_ret
  exact ⟨rfl, rfl⟩
theorem hash_nil (w : World) : Calls Tryz.prog 18 #[.slice none 0 0] w (Pure (.int .u64 14695981039346656037) w) := by
  go_enter Tryz.func18, Tryz.ntmps18
  go_wp2_with fail
  refine wp_loop_rounds 1 ?_
  rw [rounds_succ]
  go_wp2_with fail
  go_ret
  exact ⟨rfl, rfl⟩
/-- What a cartridge with a program holds. -/
theorem made_rom (pa : Option Addr) (plen pcap : Nat) (pz : List Int) (hpl : plen ≤ 3000) (w : World) (hp : IsRow .u8 w pa plen pz) :
    Calls Tryz.prog 16 #[.int .u8 0, .int .u8 0, .int .u8 0, .slice pa plen pcap] w (fun e w' => ∃ zs title whole, e = .returned (.slice (some ⟨w.heap.size, 0, none⟩) 32768 32768) ∧ Below w.heap.size w w' ∧ Mem w' w.heap.size zs ∧ zs.length = 32768 ∧
      (∀ j, j < 4 → zs.getD (256 + j) 0 = pz.getD j 0) ∧ (∀ j, 336 + j < 32768 → zs.getD (336 + j) 0 = pz.getD (4 + j) 0) ∧ parseV zs 32768 = .tuple #[.agg #[.string title, .int .i64 0, .bool false, .bool false, .int .i64 2, .int .i64 0, .bool whole], .int .i64 0]) := by
  refine (made_any 0 0 0 0 pa plen pcap pz (by decide) (by omega) (by omega) (by omega) (by omega) (by omega) (by omega) hpl w hp).mono ?_
  rintro e w' ⟨he, hb, zs, hM, hl, hF, h33⟩
  have hs : sizeOfB 0 = 32768 := rfl
  rw [hs] at he hl hF
  refine ⟨zs, ⟨(titleL ((zs.drop 308).take 15)).toArray⟩, (zs.getD 334 0 * 256 + zs.getD 335 0 == sumVH zs 32768), he, hb, hM, hl, fun j hj => ?_, fun j hj => ?_, ?_⟩
  · rw [hF (256 + j) (by omega) (by omega)]
    unfold madeAt progAt
    rw [if_neg (by omega), if_neg (by omega), if_neg (by omega)]
    by_cases hjp : j < plen
    · rw [if_pos (by omega), Nat.add_sub_cancel_left]
    · rw [if_neg (by omega), if_neg (by omega), List.getD_eq_getElem?_getD, List.getElem?_eq_none (by have := hp.1; omega)]; rfl
  · rw [hF (336 + j) (by omega) (by omega)]
    unfold madeAt progAt
    rw [if_neg (by omega), if_neg (by omega), if_neg (by omega), if_neg (by omega)]
    by_cases hjp : 4 + j < plen
    · rw [if_pos (by omega), show 336 + j - 332 = 4 + j by omega]
    · rw [if_neg (by omega), List.getD_eq_getElem?_getD, List.getElem?_eq_none (by have := hp.1; omega)]; rfl
  · have e27 : zs.getD 327 0 = 0 := by rw [hF 327 (by omega) (by omega)]; rfl
    have e28 : zs.getD 328 0 = 0 := by rw [hF 328 (by omega) (by omega)]; rfl
    have e29 : zs.getD 329 0 = 0 := by rw [hF 329 (by omega) (by omega)]; rfl
    unfold parseV
    rw [if_neg (by omega), if_neg (fun h => h h33), e27, e28, e29, if_neg (by decide), if_neg (by decide), if_neg (by decide), headV, e27, e28, e29]
    rfl
theorem field_regs (a f b c d e h l sp pc : Int) (x y z v : Bool) (W : World) : (Instr.field 33 (.agg #[.int .u8 a, .int .u8 f, .int .u8 b, .int .u8 c, .int .u8 d, .int .u8 e, .int .u8 h, .int .u8 l, .int .u16 sp, .int .u16 pc, .bool x, .bool y, .bool z, .bool v]) 0).run Tryz.prog W =
    .ok (.agg #[.int .u8 a, .int .u8 f, .int .u8 b, .int .u8 c, .int .u8 d, .int .u8 e, .int .u8 h, .int .u8 l, .int .u16 sp, .int .u16 pc]) W := by kernel_rfl
theorem field_a (a f b c d e h l sp pc : Int) (W : World) : (Instr.field 31 (.agg #[.int .u8 a, .int .u8 f, .int .u8 b, .int .u8 c, .int .u8 d, .int .u8 e, .int .u8 h, .int .u8 l, .int .u16 sp, .int .u16 pc]) 0).run Tryz.prog W = .ok (.int .u8 a) W := by kernel_rfl
theorem fills : Fills := fill_any
theorem r0_ok : Mc0.R.ok := ⟨by decide, by decide, by decide, by decide, by decide, by decide, by decide, by decide, by decide, by decide, by decide, by decide, by decide, by decide, by decide, by decide, by decide, by decide⟩
theorem own_slice {w : World} {n : Nat} {v : Value} {xs : List Value} (h : w.ownsRow 0 230 3 v n xs) (hn : n ≠ 0) : ∃ g cap, v = .slice (some ⟨g, 0, none⟩) n cap := by
  rcases h.2 with ⟨_, h0⟩ | ⟨g, cap, cur, hv, _⟩
  · exact absurd h0 hn
  · exact ⟨g, cap, hv⟩
set_option maxRecDepth 100000 in
set_option maxHeartbeats 4000000 in
theorem awake_any (w : World) : Calls Tryz.prog 5 #[] w (Ret (.bool true) w) := by
  obtain ⟨i0, hi0, hz0, hz1, hz2⟩ := info_parts byte_info
  have hf1 := field_regs
  have hf2 := field_a
  go_enter Tryz.func5, Tryz.ntmps5
  go_wp2_with (first
    | ((with_reducible refine wpList_bslice (o := ⟨some 6, _, _, _, _, _⟩) rfl 22 5 2 _ rfl #[.int .u8 62, .int .u8 18] i0 _ Tryz.underlying22 hi0 hz0 1 hz1 (by decide) (by decide) (by kernel_rfl) ?_); intro w1 HB1 HW1 hq1)
    | (go_at_call 16; refine (made_rom _ 2 2 [62, 18] (by omega) w1 (Mem.row (g := w.heap.size) (zs := [62, 18]) ⟨HB1.out, by decide⟩)).mono ?_; rintro e w2 ⟨zs, title, whole, rfl, hb, hM, hl, hA, hB, hpv⟩; have Hb2 := hid_ hb; have HM2 := hid_ hM; have HL := hid_ hl; have HA := hid_ hA; have HP := hid_ hpv; clear hb hM hl hA hB hpv)
    | (go_at_call 15; refine (new_any w1.heap.size zs title false whole HL.out w2 HM2.out HP.out).mono ?_; rintro e w3 ⟨S, rfl, hz, hM3, hb3, hm3, ht3⟩; have HZ := hid_ hz; have HM3 := hid_ hM3; have Hb3 := hid_ hb3; have Hm3 := hid_ hm3; have Ht3 := hid_ ht3; clear hz hM3 hb3 hm3 ht3)
    | (go_at_call 17; refine (go_movea fills S Mc0 r0_ok 256 rfl (by omega) (by rw [HZ.out]; exact HA.out 0 (by omega)) 18 (by rw [HZ.out]; exact HA.out 1 (by omega)) (by decide) (by decide) (by decide) (by decide) w2.heap.size none w3 ⟨Hb3.out.size, Hm3.out, Ht3.out, by simp⟩ HM3.out).mono ?_; rintro e w4 ⟨kd, pc, o, t, A', cnt, acc, xs, rfl, hP, hI, hb4⟩; obtain ⟨g, cap, rfl⟩ := own_slice (n := 2) hP.own (by decide); have HP4 := hid_ hP; have Hb4 := hid_ hb4; clear hP hI hb4)
    | ((with_reducible refine wpList_allocA (op := ⟨some 3, _, _, _, _, _⟩) rfl 48 rfl #[.int .i64 0, .int .i64 0, .int .u16 0, .int .i64 0, .int .i64 0, .int .i64 0, .int .i64 0, .int .u16 0, .bool false] zero48 ?_); intro w5 HD5 HW5 hz5)
    | ((with_reducible refine wpList_storeM (op := ⟨none, .store 48 (.tmp 3) (.tmp 20), _, _, _, _⟩) rfl 48 (.tmp 3) (.tmp 20) rfl w4.heap.size 0 (by with_unfolding_all rfl) _ _ HD5.out (didL kd pc o t) (by with_unfolding_all rfl) (by with_unfolding_all exact size48) (hid_ (didL_one _ _ _ _)).out (by with_unfolding_all exact Nat.le_refl 9) (didL kd pc o t).toArray (by with_unfolding_all rfl) ?_); intro w6 HD6 s6; have HM6 := hid_ ((HP4.out.below HW5.out (Nat.le_refl _)).far s6.out (HP4.out.free (Nat.le_refl _))))
    | (go_at_call 12; refine (state_any S _ A' _ ⟨_, _, _, HM6.out⟩).mono ?_; rintro e w7 ⟨rfl, hc, hf, hz, hb7⟩; clear hc hf hz; have Hb7 := hid_ hb7; clear hb7; simp only [stL])
    | (go_at_call 18; refine (hash_nil _).mono ?_; rintro e w8 ⟨rfl, rfl⟩))
  go_ret
  have z1 := HW1.out.size
  have z2 := Hb2.out.size
  have z3 := Hb3.out.size
  have z4 := Hb4.out.size
  have z5 := HW5.out.size
  have z6 := s6.out.size
  exact .of rfl ((((((HW1.out.trans (Hb2.out.mono z1)).trans (Hb3.out.mono (by omega))).trans (Hb4.out.mono (by omega))).trans (HW5.out.mono (by omega))).trans (s6.out.below (by omega) (fun k hk => by omega))).trans (Hb7.out.mono (by omega)))
end Go.Proofs.YtglklbcohbeacaaGreat
