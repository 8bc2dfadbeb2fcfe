/- Contracts of a bus: what a cycle notes, fetches, reads, writes. -/
import Derived.Test.YtglklbcohbeacaaGreatBus
namespace Go.Proofs.YtglklbcohbeacaaGreat
open Go.RowKit
set_option linter.unusedSimpArgs false
set_option linter.unusedVariables false

theorem want {o : Oper} {y : Nat → Option Bool} {p q : Prop} (h : o.guard = none) (hp : p) : if Region.wanted o y = true then p else q := by simp [Region.wanted, h, hp]
theorem info230 : (Tryz.prog.info? 230).map (fun i => (i.zero, i.size, i.bytes)) = some (some (.agg #[.int .i64 0, .int .u16 0, .int .u8 0]), 3, 16) := by kernel_rfl
theorem size102 : (Tryz.prog.info? 102).map (·.size) = some 1 := by kernel_rfl
theorem size27 : (Tryz.prog.info? 27).map (·.size) = some 1 := by kernel_rfl
theorem hd_acc (S : St) (M : Mc) (cnt : Int) (acc : Value) (h : M.work.length = 8192) : (mlist S M cnt acc).toArray[8454]? = some acc := by rw [List.getElem?_toArray]; exact mlist_acc S M cnt acc h
theorem peek_work (S : St) (M : Mc) (A : Option Nat) (j : Nat) (hj : j < 8192) (w : World) (h : Mach w S M A) :
    Calls Tryz.prog 14 #[.pointer (some ⟨S.m, 0, none⟩), .int .u16 (49152 + (j : Int))] w (Pure (.int .u8 (M.work.getD j 0)) w) := by
  obtain ⟨cnt, acc, xs, h⟩ := h
  have c := h.workCell j hj
  have e : (49152 + (j : Int)) % 8192 = j := by omega
  have q0 : (0 : Int) ≤ 49152 + (j : Int) := by omega
  have q1 : decide (49152 + (j : Int) < 32768) = false := by simp; omega
  have q2 : decide (49152 + (j : Int) < 49152) = false := by simp; omega
  have q3 : decide (49152 + (j : Int) < 65024) = true := by simp; omega
  have q4 : (j : Int) < 8192 := by omega
  have q5 : (0 : Int) ≤ (j : Int) := by omega
  generalize M.work.getD j 0 = x at *
  clear h
  go_enter Tryz.func14, Tryz.ntmps14
  go_wp2_with (go_at_call 23; refine (pictured_work _ (by omega) (by omega) _).mono ?_; rintro e w1 ⟨rfl, rfl⟩)
  go_ret
  exact ⟨rfl, rfl⟩
def Mc.put (M : Mc) (j : Nat) (x : Int) : Mc := { M with work := M.work.set j x }
theorem poke_work (S : St) (M : Mc) (A : Option Nat) (j : Nat) (hj : j < 8192) (x : Int) (w : World) (h : Mach w S M A) :
    Calls Tryz.prog 186 #[.pointer (some ⟨S.m, 0, none⟩), .int .u16 (49152 + (j : Int)), .int .u8 x] w (Busy S (fun _ => False) (M.put j x) A w (.tuple #[])) := by
  obtain ⟨cnt, acc, xs, h⟩ := h
  have H0 := hid_ h
  have c := h.workCell j hj
  have f := h.blk.frozen (135 + j)
  have e : (49152 + (j : Int)) % 8192 = j := by omega
  have q0 : (0 : Int) ≤ 49152 + (j : Int) := by omega
  have q1 : decide (49152 + (j : Int) < 32768) = false := by simp; omega
  have q2 : decide (49152 + (j : Int) < 49152) = false := by simp; omega
  have q3 : decide (49152 + (j : Int) < 65024) = true := by simp; omega
  have q4 : (j : Int) < 8192 := by omega
  have q5 : (0 : Int) ≤ (j : Int) := by omega
  generalize M.work.getD j 0 = y at *
  clear h
  go_enter Tryz.func186, Tryz.ntmps186
  go_wp2_with (go_at_call 23; refine (pictured_work _ (by omega) (by omega) _).mono ?_; rintro e w1 ⟨rfl, rfl⟩)
  go_end0
  have hb := H0.out.blk.set_ (135 + j) (.int .u8 x)
  rw [List.setIfInBounds_toArray, mlist_setwork S M cnt acc H0.out.work j hj x] at hb
  exact ⟨rfl, A, ⟨cnt, acc, xs, H0.out.store (M' := M.put j x) (Step.set _ _ _ _) hb H0.out.cnt0 H0.out.cnt1 rfl (by show (M.work.set j x).length = 8192; rw [List.length_set]; exact H0.out.work) rfl⟩, Chg.ofM (Step.set _ _ _ _)⟩
theorem cells_new {w : World} {g : Nat} {t : TypeId} {l : List Value} (h : Blk w g t l.toArray) : ∀ j u, l[j]? = some u → w.cell? ((⟨g, 0, none⟩ : Addr).add j) = some u := fun j u hu => by
  rw [Addr.add_mid, Nat.zero_add, h.cell j, List.getElem?_toArray, hu]
theorem own_cells {w : World} {b e s n : Nat} {v : Value} {xs : List Value} (h : w.ownsRow b e s v n xs) : v.cells = #[v] := by
  rcases h.2 with ⟨rfl, _⟩ | ⟨g, cap, cur, rfl, _⟩ <;> rfl
theorem own_one {w : World} {b e s n : Nat} {v : Value} {xs : List Value} (h : w.ownsRow b e s v n xs) : v.oneCell' = true := by
  rcases h.2 with ⟨rfl, _⟩ | ⟨g, cap, cur, rfl, _⟩ <;> rfl
set_option maxRecDepth 100000 in
set_option maxHeartbeats 4000000 in
theorem note_any (S : St) (M : Mc) (A : Option Nat) (k ad x : Int) (hn0 : M.n ≤ 1000) (w : World) (h : Mach w S M A) :
    Calls Tryz.prog 176 #[.agg #[.pointer (some ⟨S.m, 0, none⟩)], .int .i64 k, .int .u16 ad, .int .u8 x] w (Busy S (fun _ => False) M.log A w (.int .u8 x)) := by
  obtain ⟨cnt, acc, xs, h⟩ := h
  have H0 := hid_ h
  obtain ⟨i0, hi0, hz0, hz1, hz2⟩ := info_parts info230
  clear h
  go_enter Tryz.func176, Tryz.ntmps176
  go_wp2_with (first
    | ((with_reducible refine wpList_boxA (op := ⟨some 4, _, _, _, _, _⟩) rfl 102 (.tmp 0) rfl #[.pointer (some ⟨S.m, 0, none⟩)] rfl ?_); intro w1 HB1 hb hz; have H1 := hid_ (H0.out.below hb.out (Nat.le_refl _)); have C1 : Hid (Chg S (fun _ => False) A w w1 A) := Chg.of hb.out; have hw1 := HB1.out.lt; have hFw := hid_ (H0.out.free (Nat.le_refl w.heap.size)); clear hb H0))
  refine wp_region_tail (S := (fun W => Blk W w.heap.size 102 #[.pointer (some ⟨S.m, 0, none⟩)] ∧ Blk W S.m 86 (mlist S M cnt acc).toArray)) (tail := (fun j => decide (15 ≤ j))) (by kernel_rfl) ?hS1 (fun hHeld => ?rest1)
  case hS1 => (exact ⟨HB1.out.drew, H1.out.blk.drew⟩)
  refine wpAnyT_take (i := 0) (v := ?v2) rfl (by kernel_rfl) (by kernel_rfl) (by kernel_rfl) (by kernel_rfl) (by kernel_rfl) (fun _ _ _ h => h) (Or.inl ⟨by rfl, ?hy2⟩) (by assumption) ?rest2
  case hy2 => (intro w hSw; (try simp only [List.getElem_toArray, List.getElem_cons_succ, List.getElem_cons_zero]); (try dsimp only at hSw); go_simp; all_goals (with_reducible rfl))
  (try simp only [Act.put, List.getElem_toArray, List.getElem_cons_succ, List.getElem_cons_zero, List.setIfInBounds_toArray, List.set_cons_zero, List.set_cons_succ])
  refine wpAnyT_take (i := 1) (v := ?v3) rfl (by kernel_rfl) (by kernel_rfl) (by kernel_rfl) (by kernel_rfl) (by kernel_rfl) (fun _ _ _ h => h) (Or.inl ⟨by rfl, ?hy3⟩) (by assumption) ?rest3
  case hy3 => (intro W hW; have c := hW.1.cell 0; simp at c; (try simp only [List.getElem_toArray, List.getElem_cons_succ, List.getElem_cons_zero]); go_simp; all_goals (with_reducible rfl))
  (try simp only [Act.put, List.getElem_toArray, List.getElem_cons_succ, List.getElem_cons_zero, List.setIfInBounds_toArray, List.set_cons_zero, List.set_cons_succ])
  refine wpAnyT_take (i := 2) (v := ?v4) rfl (by kernel_rfl) (by kernel_rfl) (by kernel_rfl) (by kernel_rfl) (by kernel_rfl) (fun _ _ _ h => h) (Or.inl ⟨by rfl, ?hy4⟩) (by assumption) ?rest4
  case hy4 => (intro w hSw; (try simp only [List.getElem_toArray, List.getElem_cons_succ, List.getElem_cons_zero]); (try dsimp only at hSw); go_simp; all_goals (with_reducible rfl))
  (try simp only [Act.put, List.getElem_toArray, List.getElem_cons_succ, List.getElem_cons_zero, List.setIfInBounds_toArray, List.set_cons_zero, List.set_cons_succ])
  refine wpAnyT_take (i := 3) (v := ?v5) rfl (by kernel_rfl) (by kernel_rfl) (by kernel_rfl) (by kernel_rfl) (by kernel_rfl) (fun _ _ _ h => h) (Or.inl ⟨by rfl, ?hy5⟩) (by assumption) ?rest5
  case hy5 => (intro W hW; have c := hW.1.cell 0; simp at c; (try simp only [List.getElem_toArray, List.getElem_cons_succ, List.getElem_cons_zero]); go_simp; all_goals (with_reducible rfl))
  (try simp only [Act.put, List.getElem_toArray, List.getElem_cons_succ, List.getElem_cons_zero, List.setIfInBounds_toArray, List.set_cons_zero, List.set_cons_succ])
  refine wpAnyT_take (i := 4) (v := ?v6) rfl (by kernel_rfl) (by kernel_rfl) (by kernel_rfl) (by kernel_rfl) (by kernel_rfl) (fun _ _ _ h => h) (Or.inl ⟨by rfl, ?hy6⟩) (by assumption) ?rest6
  case hy6 => (intro w hSw; (try simp only [List.getElem_toArray, List.getElem_cons_succ, List.getElem_cons_zero]); (try dsimp only at hSw); go_simp; all_goals (with_reducible rfl))
  (try simp only [Act.put, List.getElem_toArray, List.getElem_cons_succ, List.getElem_cons_zero, List.setIfInBounds_toArray, List.set_cons_zero, List.set_cons_succ])
  refine wpAnyT_take (i := 5) (v := ?v7) rfl (by kernel_rfl) (by kernel_rfl) (by kernel_rfl) (by kernel_rfl) (by kernel_rfl) (fun _ _ _ h => h) (Or.inl ⟨by rfl, ?hy7⟩) (by assumption) ?rest7
  case hy7 => (intro w hSw; (try simp only [List.getElem_toArray, List.getElem_cons_succ, List.getElem_cons_zero]); (try dsimp only at hSw); go_simp; all_goals (with_reducible rfl))
  (try simp only [Act.put, List.getElem_toArray, List.getElem_cons_succ, List.getElem_cons_zero, List.setIfInBounds_toArray, List.set_cons_zero, List.set_cons_succ])
  refine wpAnyT_take (i := 6) (v := ?v8) rfl (by kernel_rfl) (by kernel_rfl) (by kernel_rfl) (by kernel_rfl) (by kernel_rfl) (fun _ _ _ h => h) (Or.inl ⟨by rfl, ?hy8⟩) (by assumption) ?rest8
  case hy8 => (intro W hW; have c := (hW.2.cell 8454).trans (hd_acc S M cnt acc H1.out.work); (try simp only [List.getElem_toArray, List.getElem_cons_succ, List.getElem_cons_zero]); go_simp; all_goals (with_reducible rfl))
  (try simp only [Act.put, List.getElem_toArray, List.getElem_cons_succ, List.getElem_cons_zero, List.setIfInBounds_toArray, List.set_cons_zero, List.set_cons_succ])
  refine wpAnyT_take (i := 7) (v := ?v9) rfl (by kernel_rfl) (by kernel_rfl) (by kernel_rfl) (by kernel_rfl) (by kernel_rfl) (fun _ _ _ h => h) (Or.inl ⟨by rfl, ?hy9⟩) (by assumption) ?rest9
  case hy9 => (intro w hSw; (try simp only [List.getElem_toArray, List.getElem_cons_succ, List.getElem_cons_zero]); (try dsimp only at hSw); go_simp; all_goals (with_reducible rfl))
  (try simp only [Act.put, List.getElem_toArray, List.getElem_cons_succ, List.getElem_cons_zero, List.setIfInBounds_toArray, List.set_cons_zero, List.set_cons_succ])
  refine wpAnyT_take (i := 8) (v := ?v10) rfl (by kernel_rfl) (by kernel_rfl) (by kernel_rfl) (by kernel_rfl) (by kernel_rfl) (fun _ _ _ h => h) (Or.inl ⟨by rfl, ?hy10⟩) (by assumption) ?rest10
  case hy10 => (intro w hSw; (try simp only [List.getElem_toArray, List.getElem_cons_succ, List.getElem_cons_zero]); (try dsimp only at hSw); go_simp; all_goals (with_reducible rfl))
  (try simp only [Act.put, List.getElem_toArray, List.getElem_cons_succ, List.getElem_cons_zero, List.setIfInBounds_toArray, List.set_cons_zero, List.set_cons_succ])
  refine wpAnyT_take (i := 9) (v := ?v11) rfl (by kernel_rfl) (by kernel_rfl) (by kernel_rfl) (by kernel_rfl) (by kernel_rfl) (fun _ _ _ h => h) (Or.inl ⟨by rfl, ?hy11⟩) (by assumption) ?rest11
  case hy11 => (intro w hSw; (try simp only [List.getElem_toArray, List.getElem_cons_succ, List.getElem_cons_zero]); (try dsimp only at hSw); go_simp; all_goals (with_reducible rfl))
  (try simp only [Act.put, List.getElem_toArray, List.getElem_cons_succ, List.getElem_cons_zero, List.setIfInBounds_toArray, List.set_cons_zero, List.set_cons_succ])
  refine wpAnyT_take (i := 10) (v := ?v12) rfl (by kernel_rfl) (by kernel_rfl) (by kernel_rfl) (by kernel_rfl) (by kernel_rfl) (fun _ _ _ h => h) (Or.inl ⟨by rfl, ?hy12⟩) (by assumption) ?rest12
  case hy12 => (intro w hSw; (try simp only [List.getElem_toArray, List.getElem_cons_succ, List.getElem_cons_zero]); (try dsimp only at hSw); go_simp; all_goals (with_reducible rfl))
  (try simp only [Act.put, List.getElem_toArray, List.getElem_cons_succ, List.getElem_cons_zero, List.setIfInBounds_toArray, List.set_cons_zero, List.set_cons_succ])
  refine wpAnyT_one (i := 11) rfl (by kernel_rfl) (fun K hK => ?_)
  (try simp only [List.getElem_toArray, List.getElem_cons_succ, List.getElem_cons_zero])
  go_simp
  have hB2 : Hid (Blk ((w1.alloc (.cells #[.int .i64 k, .int .u16 ad, .int .u8 x] 230)).drew) w.heap.size 102 #[.pointer (some ⟨S.m, 0, none⟩)]) := (HB1.out.alloc _).drew
  have hbx : Below w1.heap.size w1 ((w1.alloc (.cells #[.int .i64 k, .int .u16 ad, .int .u8 x] 230)).drew) := ((Below.refl _ _).alloc (Nat.le_refl _) _).drew
  have H2 : Hid (MachP ((w1.alloc (.cells #[.int .i64 k, .int .u16 ad, .int .u8 x] 230)).drew) S M A cnt acc xs) := H1.out.below hbx (Nat.le_refl _)
  have C2 : Hid (Chg S (fun _ => False) A w ((w1.alloc (.cells #[.int .i64 k, .int .u16 ad, .int .u8 x] 230)).drew) A) := C1.out.trans (Chg.of hbx)
  have hN : Hid (Blk ((w1.alloc (.cells #[.int .i64 k, .int .u16 ad, .int .u8 x] 230)).drew) w1.heap.size 230 #[.int .i64 k, .int .u16 ad, .int .u8 x]) := (Blk.new w1 230 _).drew
  have hF2 := hid_ (H1.out.free (Nat.le_refl _))
  clear hbx hHeld
  generalize ((w1.alloc (.cells #[.int .i64 k, .int .u16 ad, .int .u8 x] 230)).drew) = w2 at *
  refine hK.out _ _ ?hS13 ?rest13
  case hS13 => (exact ⟨hB2.out, H2.out.blk⟩)
  clear hK K
  (try simp only [Act.put, List.getElem_toArray, List.getElem_cons_succ, List.getElem_cons_zero, List.setIfInBounds_toArray, List.set_cons_zero, List.set_cons_succ])
  refine wpAnyT_one (i := 12) rfl (by kernel_rfl) (fun K hK => ?_)
  (try simp only [List.getElem_toArray, List.getElem_cons_succ, List.getElem_cons_zero])
  refine want rfl ?_
  refine wp_append_acc (.tmp 15) (.tmp 20) 49 rfl 230 i0 _ 3 16 Tryz.underlying49 hi0 hz0 hz1 hz2 rfl (by decide) acc M.n xs (by with_unfolding_all rfl) H2.out.own ⟨w1.heap.size, 0, none⟩ 1 1 [.int .i64 k, .int .u16 ad, .int .u8 x] (by with_unfolding_all rfl) rfl (cells_new hN.out) (by simp [Value.oneCell']) (by decide) (by unfold maxLen; omega) (by omega) ?_
  intro v' w3 ho hg hn
  have hB3 : Hid (Blk w3 w.heap.size 102 #[.pointer (some ⟨S.m, 0, none⟩)]) := (hg.out.block _ hB2.out.lt (fun e => hFw.out.a (by rw [← H2.out.ab, ← e]))).trans hB2.out
  have hM3 : Hid (Blk w3 S.m 86 (mlist S M cnt acc).toArray) := (hg.out.block _ H2.out.blk.lt (fun e => H2.out.am (by rw [← H2.out.ab, ← e]))).trans H2.out.blk
  have hHeld := And.intro hB3.out hM3.out
  refine hK.out _ _ ?hS14 ?rest14
  case hS14 => (exact ⟨hB3.out, hM3.out⟩)
  clear hK K
  (try simp only [Act.put, List.getElem_toArray, List.getElem_cons_succ, List.getElem_cons_zero, List.setIfInBounds_toArray, List.set_cons_zero, List.set_cons_succ])
  refine wpAnyT_take (i := 13) (v := ?v15) rfl (by kernel_rfl) (by kernel_rfl) (by kernel_rfl) (by kernel_rfl) (by kernel_rfl) (fun _ _ _ h => h) (Or.inl ⟨by rfl, ?hy15⟩) (by assumption) ?rest15
  case hy15 => (intro w hSw; (try simp only [List.getElem_toArray, List.getElem_cons_succ, List.getElem_cons_zero]); (try dsimp only at hSw); go_simp; all_goals (with_reducible rfl))
  (try simp only [Act.put, List.getElem_toArray, List.getElem_cons_succ, List.getElem_cons_zero, List.setIfInBounds_toArray, List.set_cons_zero, List.set_cons_succ])
  refine wpAnyT_take (i := 14) (v := ?v16) rfl (by kernel_rfl) (by kernel_rfl) (by kernel_rfl) (by kernel_rfl) (by kernel_rfl) (fun _ _ _ h => h) (Or.inl ⟨by rfl, ?hy16⟩) (by assumption) ?rest16
  case hy16 => (intro w hSw; (try simp only [List.getElem_toArray, List.getElem_cons_succ, List.getElem_cons_zero]); (try dsimp only at hSw); go_simp; all_goals (with_reducible rfl))
  (try simp only [Act.put, List.getElem_toArray, List.getElem_cons_succ, List.getElem_cons_zero, List.setIfInBounds_toArray, List.set_cons_zero, List.set_cons_succ])
  refine wpAnyT_last (i := 15) rfl (by kernel_rfl) rfl (fun K hK => ?_)
  (try simp only [List.getElem_toArray, List.getElem_cons_succ, List.getElem_cons_zero])
  refine want rfl ?_
  refine wp_storeC 49 (.tmp 23) (.tmp 21) rfl S.m 8454 (by with_unfolding_all rfl) 86 _ hM3.out v' (by with_unfolding_all rfl) (own_cells ho.out) size49 (own_one ho.out) (by rw [List.size_toArray, mlist_length S M cnt acc H2.out.work]; omega) (mlist S M cnt v').toArray (by simpa using mlist_setacc S M cnt acc v' H2.out.work) ?_
  intro w4 hM4 hs4
  refine hK.out _ _ ?_
  clear hK K
  (try simp only [Act.put, List.getElem_toArray, List.getElem_cons_succ, List.getElem_cons_zero, List.setIfInBounds_toArray, List.set_cons_zero, List.set_cons_succ])
  refine wpAnyT_done (by kernel_rfl) ?_ _
  obtain ⟨hMP, hC⟩ := H2.out.append (X := fun _ => False) ho.out hg.out hn.out hs4.out hM4.out
  have C4 := hid_ (C2.out.trans hC)
  have H4 := hid_ hMP
  clear hMP hC
  go_wp2_with fail
  go_ret
  exact ⟨rfl, _, ⟨_, _, _, H4.out⟩, C4.out⟩
end Go.Proofs.YtglklbcohbeacaaGreat
