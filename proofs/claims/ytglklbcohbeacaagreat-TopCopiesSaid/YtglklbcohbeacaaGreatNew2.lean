/- Contract of machine.New, put together. -/
import Derived.Test.YtglklbcohbeacaaGreatNew
namespace Go.Proofs.YtglklbcohbeacaaGreat
open Go.RowKit
set_option linter.unusedSimpArgs false
set_option linter.unusedVariables false
theorem cut_gen {α : Type} {P : Program} {c : Code} {Q : Exit → Act → World → Prop} {a : Act} {w : World} (f : Act → α → Act) (S : α → World → Prop)
    (h1 : c.wp P (fun e a' w' => e = .normal ∧ ∃ q, a' = f a q ∧ S q w') a w) (h2 : ∀ q w', S q w' → Q .normal (f a q) w') : c.wp P Q a w :=
  Code.wp_mono (fun e a' w' ⟨he, q, ha, hs⟩ => by subst he; subst ha; exact h2 q w' hs) h1
/-- Where the parts of a machine lie. -/
structure Lie where
  tb : Nat
  u : Nat
  g : Nat
  m : Nat
def stOf (rb : Nat) (zs : List Int) (title : ByteArray) (batt whole : Bool) (q : Lie) : St := ⟨q.m, q.u, rb, q.tb, zs, title, batt, whole, .slice (some ⟨q.g, 0, none⟩) 0 0⟩
def raw2 (S : St) : List Value := [.int .u8 0, .int .u8 0, .int .u8 0, .int .u8 0, .int .u8 0, .int .u8 0, .int .u8 0, .int .u8 0, .int .u16 0, .int .u16 0, .bool false, .bool false, .bool false, .bool false] ++ ([.int .i64 0, .int .i64 2, .int .i64 0, .bool true, .bool false, .int .i64 1, .int .i64 0, .int .u8 255] ++ (mlist S Mc0 0 (.slice none 0 0)).drop 22)
theorem raw_length (S : St) : (raw S).length = 8455 := by
  unfold raw
  rw [List.length_append, List.length_drop, mlist_length S Mc0 0 _ (List.length_replicate ..)]
  rfl
theorem raw2_length (S : St) : (raw2 S).length = 8455 := by
  unfold raw2
  rw [List.length_append, List.length_append, List.length_drop, mlist_length S Mc0 0 _ (List.length_replicate ..)]
  rfl
set_option maxRecDepth 100000 in
theorem raw_set (S : St) : (raw S).toArray.toList.take 14 ++ [.int .i64 0, .int .i64 2, .int .i64 0, .bool true, .bool false, .int .i64 1, .int .i64 0, .int .u8 255] ++ (raw S).toArray.toList.drop 22 = (raw2 S).toArray.toList := rfl
set_option maxRecDepth 100000 in
theorem raw2_set (S : St) : (raw2 S).toArray.toList.take 0 ++ R0.list ++ (raw2 S).toArray.toList.drop 10 = (mlist S Mc0 0 (.slice none 0 0)).toArray.toList := rfl
/-- What there is when a machine has been laid. -/
structure Laid (w W : World) (Z : Array Value) (S : St) : Prop where
  below : Below w.heap.size w W
  tb : w.heap.size ≤ S.tb
  u : w.heap.size ≤ S.u
  m : w.heap.size ≤ S.m
  tu : S.tb ≠ S.u
  tm : S.tb ≠ S.m
  um : S.u ≠ S.m
  tab : Blk W S.tb 139 (tlist false).toArray
  unit : Blk W S.u 110 Z
set_option maxRecDepth 100000 in
set_option maxHeartbeats 4000000 in
theorem new_any (rb : Nat) (zs : List Int) (title : ByteArray) (batt whole : Bool) (hlen : zs.length = 32768) (w : World) (hm : Mem w rb zs) (hpv : parseV zs 32768 = .tuple #[.agg #[.string title, .int .i64 0, .bool false, .bool batt, .int .i64 2, .int .i64 0, .bool whole], .int .i64 0]) :
    Calls Tryz.prog 15 #[.slice (some ⟨rb, 0, none⟩) 32768 32768, .slice none 0 0] w (fun e w' => ∃ S : St, e = .returned (.tuple #[.pointer (some ⟨S.m, 0, none⟩), .int .i64 0]) ∧ S.zs = zs ∧ Mach w' S Mc0 none ∧ Below w.heap.size w w' ∧ w.heap.size ≤ S.m ∧ w.heap.size ≤ S.tb) := by
  obtain ⟨Z, hZ, hZc⟩ := unit_is
  have HZ := hid_ hZ
  have HZc := hid_ hZc
  have HPV := hid_ hpv
  have hrow := hm.row
  rw [hlen] at hrow
  have HROW := hid_ hrow
  have HMEM := hid_ hm
  have hrb := hm.lt
  have hmk : ∀ W : World, (Instr.makeSlice 22 (.int .i64 0) (.int .i64 0)).run Tryz.prog W = .ok (.slice (some ⟨W.heap.size, 0, none⟩) 0 0) (W.alloc (.cells (madeCells #[.int .u8 0] 0) 5)) := fun W => by
    obtain ⟨i0, hi0, hz0, hz1, hz2⟩ := info_parts byte_info
    have h := run_make (P := Tryz.prog) (w := W) 22 5 i0 (.int .u8 0) Tryz.underlying22 hi0 hz0 .i64 .i64 0 0 (by omega) (by omega) (by rw [hz2]; omega) (by omega)
    rw [hz1, Nat.mul_one] at h
    exact (by simpa using h : (Instr.makeSlice 22 (.int .i64 0) (.int .i64 0)).run Tryz.prog W = .ok (.slice (some ⟨W.heap.size, 0, none⟩) 0 0) (W.alloc (.cells (madeCells (Value.int IntKind.u8 0).cells 0) 5)))
  clear hZ hZc hpv hrow hm
  go_enter Tryz.func15, Tryz.ntmps15
  go_wp2_with (first
    | (go_at_call 27; refine (parse_any _ 32768 32768 zs (by decide) (Nat.le_refl _) w HROW.out).mono ?_; rintro e w1 ⟨rfl, hc, hf, hz, hb⟩; clear hc hf; rw [HPV.out]; have HK1 := hid_ hb; clear hb hz)
    | ((with_reducible refine wpList_allocA (op := ⟨some 6, _, _, _, _, _⟩) rfl 80 rfl #[.string ⟨#[]⟩, .int .i64 0, .bool false, .bool false, .int .i64 0, .int .i64 0, .bool false] zero80 ?_); intro w2 HH2 HW2 hz2)
    | ((with_reducible refine wpList_storeM (op := ⟨none, .store 80 (.tmp 6) (.tmp 12), _, _, _, _⟩) rfl 80 (.tmp 6) (.tmp 12) rfl w1.heap.size 0 (by with_unfolding_all rfl) _ _ HH2.out ([.string title, .int .i64 0, .bool false, .bool batt, .int .i64 2, .int .i64 0, .bool whole] : List Value) (by with_unfolding_all rfl) (by with_unfolding_all exact size80) (hid_ (hl_one title batt whole)).out (by with_unfolding_all exact Nat.le_refl 7) ([.string title, .int .i64 0, .bool false, .bool batt, .int .i64 2, .int .i64 0, .bool whole] : List Value).toArray (by with_unfolding_all rfl) ?_); intro w3 HHs s3))
  have HH3 := hid_ HHs.out.drew
  have HK3 : Hid (Below w3.heap.size w3 w3.drew) := hid_ (Below.refl _ w3).drew
  refine cut_gen (fun a q => ((((((((((a.put (some 17) (.slice (some ⟨rb, 0, none⟩) 32768 32768)).put (some 18) (.slice none 0 0)).put (some 19) (.agg #[.string title, .int .i64 0, .bool false, .bool batt, .int .i64 2, .int .i64 0, .bool whole])).put (some 20) (.pointer (some ⟨q.tb, 0, none⟩))).put (some 21) (.pointer (some ⟨q.u, 0, none⟩))).put (some 22) (.pointer (some ⟨w1.heap.size, 5, none⟩))).put (some 23) (.int .i64 0)).put (some 24) (.slice (some ⟨q.g, 0, none⟩) 0 0)).put (some 25) (.agg (raw (stOf rb zs title batt whole q)).toArray)).put (some 26) (.pointer (some ⟨q.m, 0, none⟩))).put (some 8) (.pointer (some ⟨q.m, 0, none⟩))) (fun q W => Laid w3 W Z (stOf rb zs title batt whole q) ∧ Blk W q.m 86 (raw (stOf rb zs title batt whole q)).toArray) ?_ ?_
  · skip
    refine wp_region_tail (S := fun W => Blk W w1.heap.size 80 ([.string title, .int .i64 0, .bool false, .bool batt, .int .i64 2, .int .i64 0, .bool whole] : List Value).toArray) (tail := fun _ => false) (by kernel_rfl) ?hS1 (fun hHeld => ?rest1)
    case hS1 => exact HH3.out
    refine wpAnyT_take (i := 0) (v := ?v2) rfl (by kernel_rfl) (by kernel_rfl) (by kernel_rfl) (by kernel_rfl) (by kernel_rfl) (fun _ _ _ h => nomatch h.1) (Or.inl ⟨by rfl, ?hy2⟩) (by assumption) ?rest2
    case hy2 => (intro w hSw; (try simp only [List.getElem_toArray, List.getElem_cons_succ, List.getElem_cons_zero]); (try dsimp only at hSw); go_simp; all_goals (with_reducible rfl))
    (try simp only [Act.put, List.getElem_toArray, List.getElem_cons_succ, List.getElem_cons_zero, List.setIfInBounds_toArray, List.set_cons_zero, List.set_cons_succ])
    refine wpAnyT_take (i := 1) (v := ?v3) rfl (by kernel_rfl) (by kernel_rfl) (by kernel_rfl) (by kernel_rfl) (by kernel_rfl) (fun _ _ _ h => nomatch h.1) (Or.inl ⟨by rfl, ?hy3⟩) (by assumption) ?rest3
    case hy3 => (intro w hSw; (try simp only [List.getElem_toArray, List.getElem_cons_succ, List.getElem_cons_zero]); (try dsimp only at hSw); go_simp; all_goals (with_reducible rfl))
    (try simp only [Act.put, List.getElem_toArray, List.getElem_cons_succ, List.getElem_cons_zero, List.setIfInBounds_toArray, List.set_cons_zero, List.set_cons_succ])
    refine wpAnyT_take (i := 2) (v := _) rfl (by kernel_rfl) (by kernel_rfl) (by kernel_rfl) (by kernel_rfl) (by kernel_rfl) (fun _ _ _ h => nomatch h.1) (yieldsIf_load_mid (by rfl) 80 (.tmp 6) rfl w1.heap.size 0 (by rfl) ([.string title, .int .i64 0, .bool false, .bool batt, .int .i64 2, .int .i64 0, .bool whole] : List Value) _ (fun w hw => toArray_range hw (by with_unfolding_all rfl)) Tryz.underlying80 rfl (by with_unfolding_all exact size80)) (by assumption) ?rest4
    (try simp only [Act.put, List.getElem_toArray, List.getElem_cons_succ, List.getElem_cons_zero, List.setIfInBounds_toArray, List.set_cons_zero, List.set_cons_succ])
    refine wpAnyT_take (i := 5) (v := ?v5) rfl (by kernel_rfl) (by kernel_rfl) (by kernel_rfl) (by kernel_rfl) (by kernel_rfl) (fun _ _ _ h => nomatch h.1) (Or.inl ⟨by rfl, ?hy5⟩) (by assumption) ?rest5
    case hy5 => (intro w hSw; (try simp only [List.getElem_toArray, List.getElem_cons_succ, List.getElem_cons_zero]); (try dsimp only at hSw); go_simp; all_goals (with_reducible rfl))
    (try simp only [Act.put, List.getElem_toArray, List.getElem_cons_succ, List.getElem_cons_zero, List.setIfInBounds_toArray, List.set_cons_zero, List.set_cons_succ])
    refine wpAnyT_take (i := 6) (v := ?v6) rfl (by kernel_rfl) (by kernel_rfl) (by kernel_rfl) (by kernel_rfl) (by kernel_rfl) (fun _ _ _ h => nomatch h.1) (Or.inl ⟨by rfl, ?hy6⟩) (by assumption) ?rest6
    case hy6 => (intro W hW; have c := hW.cell 5; simp at c; (try simp only [List.getElem_toArray, List.getElem_cons_succ, List.getElem_cons_zero]); go_simp; all_goals (with_reducible rfl))
    (try simp only [Act.put, List.getElem_toArray, List.getElem_cons_succ, List.getElem_cons_zero, List.setIfInBounds_toArray, List.set_cons_zero, List.set_cons_succ])
    refine wpAnyT_pair (i := 3) (j := 7) rfl rfl (by kernel_rfl) (fun K hK => ?a7) (fun K hK => ?b7)
    case a7 =>
      (try simp only [List.getElem_toArray, List.getElem_cons_succ, List.getElem_cons_zero])
      go_simp
      refine (ops_new _).mono ?_
      rintro e w4 ⟨rfl, hB, hb, hz4⟩
      have HK4 : Hid (Below w3.heap.size w3 w4) := hid_ (HK3.out.trans (hb.mono HK3.out.size)); have HH4 := hid_ (HH3.out.below hb HH3.out.lt); have HT4 := hid_ hB; clear hB hb; have hz4 : w3.heap.size < w4.heap.size := hz4
      (try go_wp2_with fail)
      refine hK.out _ _ ?hS8 ?rest8
      case hS8 => (exact HH4.out)
      clear hK K
      (try simp only [Act.put, List.getElem_toArray, List.getElem_cons_succ, List.getElem_cons_zero, List.setIfInBounds_toArray, List.set_cons_zero, List.set_cons_succ])
      refine wpAnyT_pair (i := 4) (j := 7) rfl rfl (by kernel_rfl) (fun K hK => ?a9) (fun K hK => ?b9)
      case a9 =>
        (try simp only [List.getElem_toArray, List.getElem_cons_succ, List.getElem_cons_zero])
        go_simp
        refine (ppu_new Z HZ.out _).mono ?_
        rintro e w5 ⟨rfl, hB, hb, hz5⟩
        have HK5 : Hid (Below w3.heap.size w3 w5) := hid_ (HK4.out.trans (hb.mono HK4.out.size)); have HH5 := hid_ (HH4.out.below hb HH4.out.lt); have HT5 := hid_ (HT4.out.below hb HT4.out.lt); have HU5 := hid_ hB; clear hB hb; have hz5 : w4.heap.size < w5.heap.size := hz5
        (try go_wp2_with fail)
        refine hK.out _ _ ?hS10 ?rest10
        case hS10 => (exact HH5.out)
        clear hK K
        (try simp only [Act.put, List.getElem_toArray, List.getElem_cons_succ, List.getElem_cons_zero, List.setIfInBounds_toArray, List.set_cons_zero, List.set_cons_succ])
        refine wpAnyT_one (i := 7) rfl (by kernel_rfl) (fun K hK => ?_)
        (try simp only [List.getElem_toArray, List.getElem_cons_succ, List.getElem_cons_zero])
        go_simp
        have hb : Below w5.heap.size w5 (w5.alloc (.cells (madeCells #[.int .u8 0] 0) 5)) := (Below.refl _ _).alloc (Nat.le_refl _) _
        have hz6 : w5.heap.size < (w5.alloc (.cells (madeCells #[.int .u8 0] 0) 5)).heap.size := by simp
        generalize (w5.alloc (.cells (madeCells #[.int .u8 0] 0) 5)) = w6 at *
        have HK6 : Hid (Below w3.heap.size w3 w6) := hid_ (HK5.out.trans (hb.mono HK5.out.size)); have HH6 := hid_ (HH5.out.below hb HH5.out.lt); have HT6 := hid_ (HT5.out.below hb HT5.out.lt); have HU6 := hid_ (HU5.out.below hb HU5.out.lt); clear hb
        refine hK.out _ _ ?hS11 ?rest11
        case hS11 => (exact HH6.out)
        clear hK K
        (try simp only [Act.put, List.getElem_toArray, List.getElem_cons_succ, List.getElem_cons_zero, List.setIfInBounds_toArray, List.set_cons_zero, List.set_cons_succ])
        refine wpAnyT_one (i := 8) rfl (by kernel_rfl) (fun K hK => ?_)
        (try simp only [List.getElem_toArray, List.getElem_cons_succ, List.getElem_cons_zero])
        refine want rfl ?_
        refine wp_built 86 _ rfl (raw (stOf rb zs title batt whole ⟨w3.heap.size, w4.heap.size, w5.heap.size, w6.heap.size⟩)).toArray (by with_unfolding_all exact mach_is w6.heap.size w4.heap.size rb w3.heap.size w5.heap.size zs title batt whole) ?_
        refine hK.out _ _ ?hS12 ?rest12
        case hS12 => (exact HH6.out)
        clear hK K
        (try simp only [Act.put, List.getElem_toArray, List.getElem_cons_succ, List.getElem_cons_zero, List.setIfInBounds_toArray, List.set_cons_zero, List.set_cons_succ])
        refine wpAnyT_one (i := 9) rfl (by kernel_rfl) (fun K hK => ?_)
        (try simp only [List.getElem_toArray, List.getElem_cons_succ, List.getElem_cons_zero])
        refine want rfl ?_
        refine wp_boxA 86 (.tmp 25) rfl (raw (stOf rb zs title batt whole ⟨w3.heap.size, w4.heap.size, w5.heap.size, w6.heap.size⟩)).toArray (by with_unfolding_all rfl) ?_
        intro wz HM HW hzz
        refine hK.out _ _ ?hS13 ?rest13
        case hS13 => (exact HH6.out.below HW.out HH6.out.lt)
        clear hK K
        (try simp only [Act.put, List.getElem_toArray, List.getElem_cons_succ, List.getElem_cons_zero, List.setIfInBounds_toArray, List.set_cons_zero, List.set_cons_succ])
        refine wpAnyT_one (i := 10) rfl (by kernel_rfl) (fun K hK => ?_)
        (try simp only [List.getElem_toArray, List.getElem_cons_succ, List.getElem_cons_zero])
        go_simp
        refine hK.out _ _ ?hS14 ?rest14
        case hS14 => (exact HH6.out.below HW.out HH6.out.lt)
        clear hK K
        (try simp only [Act.put, List.getElem_toArray, List.getElem_cons_succ, List.getElem_cons_zero, List.setIfInBounds_toArray, List.set_cons_zero, List.set_cons_succ])
        refine wpAnyT_done (by kernel_rfl) ?_ _
        have hsz := HK6.out.size
        have hs4 := HK4.out.size
        have hs5 := HK5.out.size
        have ht := HT6.out.lt
        have hu := HU6.out.lt
        refine ⟨rfl, ⟨w3.heap.size, w4.heap.size, w5.heap.size, w6.heap.size⟩, rfl, ⟨?_, ?_, ?_, ?_, ?_, ?_, ?_, HT6.out.below HW.out HT6.out.lt, HU6.out.below HW.out HU6.out.lt⟩, HM.out⟩
        · exact HK6.out.trans (HW.out.mono hsz)
        all_goals (simp only [stOf]; omega)
      case b9 =>
        (try simp only [List.getElem_toArray, List.getElem_cons_succ, List.getElem_cons_zero])
        go_simp
        have hb : Below w4.heap.size w4 (w4.alloc (.cells (madeCells #[.int .u8 0] 0) 5)) := (Below.refl _ _).alloc (Nat.le_refl _) _
        have hz5 : w4.heap.size < (w4.alloc (.cells (madeCells #[.int .u8 0] 0) 5)).heap.size := by simp
        generalize (w4.alloc (.cells (madeCells #[.int .u8 0] 0) 5)) = w5 at *
        have HK5 : Hid (Below w3.heap.size w3 w5) := hid_ (HK4.out.trans (hb.mono HK4.out.size)); have HH5 := hid_ (HH4.out.below hb HH4.out.lt); have HT5 := hid_ (HT4.out.below hb HT4.out.lt); clear hb
        refine hK.out _ _ ?hS15 ?rest15
        case hS15 => (exact HH5.out)
        clear hK K
        (try simp only [Act.put, List.getElem_toArray, List.getElem_cons_succ, List.getElem_cons_zero, List.setIfInBounds_toArray, List.set_cons_zero, List.set_cons_succ])
        refine wpAnyT_one (i := 4) rfl (by kernel_rfl) (fun K hK => ?_)
        (try simp only [List.getElem_toArray, List.getElem_cons_succ, List.getElem_cons_zero])
        go_simp
        refine (ppu_new Z HZ.out _).mono ?_
        rintro e w6 ⟨rfl, hB, hb, hz6⟩
        have HK6 : Hid (Below w3.heap.size w3 w6) := hid_ (HK5.out.trans (hb.mono HK5.out.size)); have HH6 := hid_ (HH5.out.below hb HH5.out.lt); have HT6 := hid_ (HT5.out.below hb HT5.out.lt); have HU6 := hid_ hB; clear hB hb; have hz6 : w5.heap.size < w6.heap.size := hz6
        (try go_wp2_with fail)
        refine hK.out _ _ ?hS16 ?rest16
        case hS16 => (exact HH6.out)
        clear hK K
        (try simp only [Act.put, List.getElem_toArray, List.getElem_cons_succ, List.getElem_cons_zero, List.setIfInBounds_toArray, List.set_cons_zero, List.set_cons_succ])
        refine wpAnyT_one (i := 8) rfl (by kernel_rfl) (fun K hK => ?_)
        (try simp only [List.getElem_toArray, List.getElem_cons_succ, List.getElem_cons_zero])
        refine want rfl ?_
        refine wp_built 86 _ rfl (raw (stOf rb zs title batt whole ⟨w3.heap.size, w5.heap.size, w4.heap.size, w6.heap.size⟩)).toArray (by with_unfolding_all exact mach_is w6.heap.size w5.heap.size rb w3.heap.size w4.heap.size zs title batt whole) ?_
        refine hK.out _ _ ?hS17 ?rest17
        case hS17 => (exact HH6.out)
        clear hK K
        (try simp only [Act.put, List.getElem_toArray, List.getElem_cons_succ, List.getElem_cons_zero, List.setIfInBounds_toArray, List.set_cons_zero, List.set_cons_succ])
        refine wpAnyT_one (i := 9) rfl (by kernel_rfl) (fun K hK => ?_)
        (try simp only [List.getElem_toArray, List.getElem_cons_succ, List.getElem_cons_zero])
        refine want rfl ?_
        refine wp_boxA 86 (.tmp 25) rfl (raw (stOf rb zs title batt whole ⟨w3.heap.size, w5.heap.size, w4.heap.size, w6.heap.size⟩)).toArray (by with_unfolding_all rfl) ?_
        intro wz HM HW hzz
        refine hK.out _ _ ?hS18 ?rest18
        case hS18 => (exact HH6.out.below HW.out HH6.out.lt)
        clear hK K
        (try simp only [Act.put, List.getElem_toArray, List.getElem_cons_succ, List.getElem_cons_zero, List.setIfInBounds_toArray, List.set_cons_zero, List.set_cons_succ])
        refine wpAnyT_one (i := 10) rfl (by kernel_rfl) (fun K hK => ?_)
        (try simp only [List.getElem_toArray, List.getElem_cons_succ, List.getElem_cons_zero])
        go_simp
        refine hK.out _ _ ?hS19 ?rest19
        case hS19 => (exact HH6.out.below HW.out HH6.out.lt)
        clear hK K
        (try simp only [Act.put, List.getElem_toArray, List.getElem_cons_succ, List.getElem_cons_zero, List.setIfInBounds_toArray, List.set_cons_zero, List.set_cons_succ])
        refine wpAnyT_done (by kernel_rfl) ?_ _
        have hsz := HK6.out.size
        have hs4 := HK4.out.size
        have hs5 := HK5.out.size
        have ht := HT6.out.lt
        have hu := HU6.out.lt
        refine ⟨rfl, ⟨w3.heap.size, w5.heap.size, w4.heap.size, w6.heap.size⟩, rfl, ⟨?_, ?_, ?_, ?_, ?_, ?_, ?_, HT6.out.below HW.out HT6.out.lt, HU6.out.below HW.out HU6.out.lt⟩, HM.out⟩
        · exact HK6.out.trans (HW.out.mono hsz)
        all_goals (simp only [stOf]; omega)
    case b7 =>
      (try simp only [List.getElem_toArray, List.getElem_cons_succ, List.getElem_cons_zero])
      go_simp
      have hb : Below w3.heap.size w3 (w3.alloc (.cells (madeCells #[.int .u8 0] 0) 5)).drew := ((Below.refl _ _).alloc (Nat.le_refl _) _).drew
      have hz4 : w3.heap.size < (w3.alloc (.cells (madeCells #[.int .u8 0] 0) 5)).drew.heap.size := by simp
      generalize (w3.alloc (.cells (madeCells #[.int .u8 0] 0) 5)).drew = w4 at *
      have HK4 := hid_ hb; have HH4 := hid_ (HHs.out.below hb HHs.out.lt); clear hb
      refine hK.out _ _ ?hS20 ?rest20
      case hS20 => (exact HH4.out)
      clear hK K
      (try simp only [Act.put, List.getElem_toArray, List.getElem_cons_succ, List.getElem_cons_zero, List.setIfInBounds_toArray, List.set_cons_zero, List.set_cons_succ])
      refine wpAnyT_one (i := 3) rfl (by kernel_rfl) (fun K hK => ?_)
      (try simp only [List.getElem_toArray, List.getElem_cons_succ, List.getElem_cons_zero])
      go_simp
      refine (ops_new _).mono ?_
      rintro e w5 ⟨rfl, hB, hb, hz5⟩
      have HK5 : Hid (Below w3.heap.size w3 w5) := hid_ (HK4.out.trans (hb.mono HK4.out.size)); have HH5 := hid_ (HH4.out.below hb HH4.out.lt); have HT5 := hid_ hB; clear hB hb; have hz5 : w4.heap.size < w5.heap.size := hz5
      (try go_wp2_with fail)
      refine hK.out _ _ ?hS21 ?rest21
      case hS21 => (exact HH5.out)
      clear hK K
      (try simp only [Act.put, List.getElem_toArray, List.getElem_cons_succ, List.getElem_cons_zero, List.setIfInBounds_toArray, List.set_cons_zero, List.set_cons_succ])
      refine wpAnyT_one (i := 4) rfl (by kernel_rfl) (fun K hK => ?_)
      (try simp only [List.getElem_toArray, List.getElem_cons_succ, List.getElem_cons_zero])
      go_simp
      refine (ppu_new Z HZ.out _).mono ?_
      rintro e w6 ⟨rfl, hB, hb, hz6⟩
      have HK6 : Hid (Below w3.heap.size w3 w6) := hid_ (HK5.out.trans (hb.mono HK5.out.size)); have HH6 := hid_ (HH5.out.below hb HH5.out.lt); have HT6 := hid_ (HT5.out.below hb HT5.out.lt); have HU6 := hid_ hB; clear hB hb; have hz6 : w5.heap.size < w6.heap.size := hz6
      (try go_wp2_with fail)
      refine hK.out _ _ ?hS22 ?rest22
      case hS22 => (exact HH6.out)
      clear hK K
      (try simp only [Act.put, List.getElem_toArray, List.getElem_cons_succ, List.getElem_cons_zero, List.setIfInBounds_toArray, List.set_cons_zero, List.set_cons_succ])
      refine wpAnyT_one (i := 8) rfl (by kernel_rfl) (fun K hK => ?_)
      (try simp only [List.getElem_toArray, List.getElem_cons_succ, List.getElem_cons_zero])
      refine want rfl ?_
      refine wp_built 86 _ rfl (raw (stOf rb zs title batt whole ⟨w4.heap.size, w5.heap.size, w3.heap.size, w6.heap.size⟩)).toArray (by with_unfolding_all exact mach_is w6.heap.size w5.heap.size rb w4.heap.size w3.heap.size zs title batt whole) ?_
      refine hK.out _ _ ?hS23 ?rest23
      case hS23 => (exact HH6.out)
      clear hK K
      (try simp only [Act.put, List.getElem_toArray, List.getElem_cons_succ, List.getElem_cons_zero, List.setIfInBounds_toArray, List.set_cons_zero, List.set_cons_succ])
      refine wpAnyT_one (i := 9) rfl (by kernel_rfl) (fun K hK => ?_)
      (try simp only [List.getElem_toArray, List.getElem_cons_succ, List.getElem_cons_zero])
      refine want rfl ?_
      refine wp_boxA 86 (.tmp 25) rfl (raw (stOf rb zs title batt whole ⟨w4.heap.size, w5.heap.size, w3.heap.size, w6.heap.size⟩)).toArray (by with_unfolding_all rfl) ?_
      intro wz HM HW hzz
      refine hK.out _ _ ?hS24 ?rest24
      case hS24 => (exact HH6.out.below HW.out HH6.out.lt)
      clear hK K
      (try simp only [Act.put, List.getElem_toArray, List.getElem_cons_succ, List.getElem_cons_zero, List.setIfInBounds_toArray, List.set_cons_zero, List.set_cons_succ])
      refine wpAnyT_one (i := 10) rfl (by kernel_rfl) (fun K hK => ?_)
      (try simp only [List.getElem_toArray, List.getElem_cons_succ, List.getElem_cons_zero])
      go_simp
      refine hK.out _ _ ?hS25 ?rest25
      case hS25 => (exact HH6.out.below HW.out HH6.out.lt)
      clear hK K
      (try simp only [Act.put, List.getElem_toArray, List.getElem_cons_succ, List.getElem_cons_zero, List.setIfInBounds_toArray, List.set_cons_zero, List.set_cons_succ])
      refine wpAnyT_done (by kernel_rfl) ?_ _
      have hsz := HK6.out.size
      have hs4 := HK4.out.size
      have hs5 := HK5.out.size
      have ht := HT6.out.lt
      have hu := HU6.out.lt
      refine ⟨rfl, ⟨w4.heap.size, w5.heap.size, w3.heap.size, w6.heap.size⟩, rfl, ⟨?_, ?_, ?_, ?_, ?_, ?_, ?_, HT6.out.below HW.out HT6.out.lt, HU6.out.below HW.out HU6.out.lt⟩, HM.out⟩
      · exact HK6.out.trans (HW.out.mono hsz)
      all_goals (simp only [stOf]; omega)
  · rintro q w4 ⟨hL4, hM4⟩
    have HL4 := hid_ hL4
    have HM4 := hid_ hM4
    have HH4 : Hid (Blk w4 w1.heap.size 80 ([.string title, .int .i64 0, .bool false, .bool batt, .int .i64 2, .int .i64 0, .bool whole] : List Value).toArray) := hid_ (HHs.out.below hL4.below HHs.out.lt)
    have HT4 := hid_ hL4.tab
    have HU4 := hid_ hL4.unit
    clear hL4 hM4
    (try simp only [Act.put, List.setIfInBounds_toArray, List.set_cons_zero, List.set_cons_succ])
    go_wp2_with (first
      | (with_reducible refine wpList_loadM (op := ⟨some 28, _, _, _, _, _⟩) rfl 80 (.tmp 6) rfl w1.heap.size 0 (by with_unfolding_all rfl) _ _ HH4.out ([.string title, .int .i64 0, .bool false, .bool batt, .int .i64 2, .int .i64 0, .bool whole] : List Value) (by with_unfolding_all rfl) _ Tryz.underlying80 rfl (by with_unfolding_all exact size80) ?_)
      | (go_at_call 30; refine (mbc_new title batt whole _).mono ?_; rintro e w5 ⟨rfl, hc, hf, hz, hb⟩; clear hc hf hz; have HM5 := hid_ (HM4.out.below hb HM4.out.lt); have HT5 := hid_ (HT4.out.below hb HT4.out.lt); have HU5 := hid_ (HU4.out.below hb HU4.out.lt); have K5 := hid_ (HL4.out.below.trans (hb.mono HL4.out.below.size)); clear hb)
      | ((with_reducible refine wpList_storeM (op := ⟨none, .store 57 (.tmp 32) (.tmp 29), _, _, _, _⟩) rfl 57 (.tmp 32) (.tmp 29) rfl q.m 14 (by with_unfolding_all rfl) _ _ HM5.out [.int .i64 0, .int .i64 2, .int .i64 0, .bool true, .bool false, .int .i64 1, .int .i64 0, .int .u8 255] (by with_unfolding_all rfl) (by with_unfolding_all exact size57) bl_one (by rw [List.size_toArray, raw_length]; simp) (raw2 (stOf rb zs title batt whole q)).toArray (raw_set _) ?_); intro w6 HM6 s6; have HT6 := hid_ (HT5.out.step s6.out HL4.out.tm); have HU6 := hid_ (HU5.out.step s6.out HL4.out.um); have K6 := hid_ (K5.out.trans (s6.out.below K5.out.size (fun k hk => by rw [hk]; exact HL4.out.m))))
      | ((with_reducible refine wpList_storeM (op := ⟨none, .store 31 (.tmp 38) (.tmp 34), _, _, _, _⟩) rfl 31 (.tmp 38) (.tmp 34) rfl q.m 0 (by with_unfolding_all rfl) _ _ HM6.out R0.list (by with_unfolding_all rfl) (by with_unfolding_all exact size31) R0.list_one (by rw [List.size_toArray, raw2_length]; simp [Rg.list_length]) (mlist (stOf rb zs title batt whole q) Mc0 0 (.slice none 0 0)).toArray (raw2_set _) ?_); intro w7 HM7 s7; have HT7 := hid_ (HT6.out.step s7.out HL4.out.tm); have HU7 := hid_ (HU6.out.step s7.out HL4.out.um); have K7 := hid_ (K6.out.trans (s7.out.below K6.out.size (fun k hk => by rw [hk]; exact HL4.out.m)))))
    have k1 := HK1.out
    have kz1 := k1.size
    have kz2 := HW2.out.size
    have kz3 := s3.out.size
    have kb : Below w.heap.size w w7 := ((k1.trans (HW2.out.mono kz1)).trans (s3.out.below (by omega) (fun k hk => by omega))).trans (K7.out.mono (by omega))
    have em := HL4.out.m
    have et := HL4.out.tb
    have eu := HL4.out.u
    have e1 := HL4.out.tm
    have e2 := HL4.out.um
    have e3 := HL4.out.tu
    simp only [stOf] at em et eu e1 e2 e3
    refine bodyPost_ret (v := .tuple #[.pointer (some ⟨q.m, 0, none⟩), .int .i64 0]) (by simp [results, Tryz.results15, go_sem]) rfl ?_
    refine ⟨stOf rb zs title batt whole q, rfl, rfl, ⟨0, .slice none 0 0, [], HM7.out, by decide, by decide, ⟨rfl, .inl ⟨rfl, rfl⟩⟩, rfl, List.length_replicate .., ⟨HMEM.out.1.below kb hrb, HMEM.out.2⟩, hlen, (HU7.out.cell 8352).trans HZc.out, HT7.out, ?_, ?_, ?_, ?_, ?_, ?_, ?_, ?_, ?_, ?_⟩, kb, ?_, ?_⟩
    all_goals (first | (simp only [stOf]; omega) | (intro h; cases h))
end Go.Proofs.YtglklbcohbeacaaGreat
