/- Contract of switching a board on, and off. -/
import Derived.Test.YtacbdapgdgliiaaLaw
import Derived.Deep.RegionLaw
import Derived.Great.BuildSlice
namespace Go.Proofs.Ytacbdapgdgliiaa
open Go.RowKit
set_option linter.unusedSimpArgs false
set_option linter.unusedVariables false

def offB (b : Bd) : Bd := { zeroB with regs := List.replicate 22 0 ++ b.regs.drop 22, div := b.div, step := b.step }
def switchB (b : Bd) (on : Bool) : Bd := if on = false then offB b else if b.on = false then { b with div := 0, step := 0, on := true } else { b with on := true }
theorem built_off (d s : Int) : Try.prog.built 29 [(2, .int .i64 d), (3, .int .i64 s)] = some (enc { zeroB with div := d, step := s }) := by kernel_rfl
theorem wpList_allocZ {ops : Array Oper} {rest : List Oper} {op : Oper} {a : Act} {w : World} {Q : Exit → Act → World → Prop} (hgd : op.guard = none) (ho : op.op = .alloc 29)
    (h : ∀ w', Hid (Blk w' w.heap.size 29 (enc zeroB)) → Hid (Below w.heap.size w w') → wpList Try.prog ops Q rest (a.put op.dst (.pointer (some ⟨w.heap.size, 0, none⟩))) w') :
    wpList Try.prog ops Q (op :: rest) a w :=
  wpList_plain hgd fun _ hK => by
    have h' := h _ (Blk.new w 29 (enc zeroB)) ((Below.refl _ _).alloc (Nat.le_refl _) _)
    unfold Oper.wp execOp
    simp only [ho, run_alloc29, Sem.run_bind, Result.andThen_ok]
    exact hK _ _ h'

theorem splice_off (b : Bd) (hb : b.regs.length = 48) : splice (enc { zeroB with div := b.div, step := b.step }).toList 22 ((b.regs.drop 22).map (Value.int .u8)) = (enc (offB b)).toList := by
  have e1 : (enc { zeroB with div := b.div, step := b.step }).toList = List.replicate 22 (Value.int .u8 0) ++ (List.replicate 26 (Value.int .u8 0) ++ tl { zeroB with div := b.div, step := b.step }) := by
    simp only [enc, zeroB]; rfl
  have e2 : (enc (offB b)).toList = List.replicate 22 (Value.int .u8 0) ++ ((b.regs.drop 22).map (Value.int .u8) ++ tl { zeroB with div := b.div, step := b.step }) := by
    simp only [enc, offB, List.map_append, List.map_replicate, List.append_assoc]; rfl
  rw [e1, e2, splice, List.take_left' (by simp)]
  congr 2
  rw [show 22 + ((b.regs.drop 22).map (Value.int .u8)).length = (List.replicate 22 (Value.int .u8 0) ++ List.replicate 26 (Value.int .u8 0)).length by simp [hb], ← List.append_assoc, List.drop_left]
theorem off_size (b : Bd) (hb : b.regs.length = 48) : (enc (offB b)).size = 70 := enc_size _ (by simp [offB, hb])

set_option maxRecDepth 20000 in
set_option maxHeartbeats 2000000 in
theorem switch_off (b : Bd) (hb : b.OkR) (w : World) : Calls Try.prog 15 #[.agg (enc b), .bool false] w (Ret (.agg (enc (offB b))) w) := by
  have HO := hid_ hb
  have HZ := hid_ (enc_size zeroB rfl)
  have HS : Hid ((enc { zeroB with div := b.div, step := b.step }).size = 70) := enc_size _ rfl
  have H1 := hid_ (enc_one { zeroB with div := b.div, step := b.step })
  have hz := board_zero
  have hsz : (enc zeroB).size = 70 := HZ.out
  have hX : ((enc zeroB).setIfInBounds 49 (.int .i64 b.div)).setIfInBounds 50 (.int .i64 b.step) = enc { zeroB with div := b.div, step := b.step } := by
    rw [enc_s49 zeroB rfl b.div, enc_s50 { zeroB with div := b.div } rfl b.step]
  go_enter Try.func15, Try.ntmps15
  go_wp2_with (first
    | ((with_reducible refine wpList_alloc29 (op := ⟨some 4, .alloc 29, _, _, _, _⟩) rfl rfl b w rfl ?_); intro w1 HB1 HB2 HW1 hg1; have c49 := HB1.out.a49 HO.out.regs; have c50 := HB1.out.a50 HO.out.regs)
    | ((with_reducible refine wpList_allocZ (op := ⟨some 5, .alloc 29, _, _, _, _⟩) rfl rfl ?_); intro w2 HB3 HW2)
    | (with_reducible refine wpList_store29 (op := ⟨none, .store 29 (.tmp 5) (.tmp 12), _, _, _, _⟩) rfl (.tmp 5) (.tmp 12) rfl w1.heap.size (enc zeroB) (enc { zeroB with div := b.div, step := b.step }) (by with_unfolding_all rfl) (by with_unfolding_all rfl) HB3.out HZ.out HS.out H1.out ?_))
  have HB4 : Hid (Blk (w2.setRow w1.heap.size (enc { zeroB with div := b.div, step := b.step })) w1.heap.size 29 (enc { zeroB with div := b.div, step := b.step })) := HB3.out.setRow _
  have HB5 : Hid (Blk (w2.setRow w1.heap.size (enc { zeroB with div := b.div, step := b.step })) w.heap.size 29 (enc b)) := (HB1.out.below HW2.out HB1.out.lt).farRow (by omega) _
  have HB6 : Hid (Blk (w2.setRow w1.heap.size (enc { zeroB with div := b.div, step := b.step })) (w.heap.size + 1) 29 (enc zeroB)) := (HB2.out.below HW2.out hg1).farRow (by omega) _
  have HW3 : Hid (Below w.heap.size w (w2.setRow w1.heap.size (enc { zeroB with div := b.div, step := b.step }))) := below_setRow (HW1.out.trans (HW2.out.mono HW1.out.size)) HW1.out.size _
  generalize w2.setRow w1.heap.size (enc { zeroB with div := b.div, step := b.step }) = w3 at *
  have hs5 : (Try.prog.info? 5).map (·.size) = some 1 := by kernel_rfl
  have hlen : ((b.regs.drop 22).map (Value.int .u8)).length = Nat.min 26 26 := by simp [HO.out.regs]
  have hpos : 0 < ((b.regs.drop 22).map (Value.int .u8)).length → (some (⟨w1.heap.size, 22, none⟩ : Addr)) = some ⟨w1.heap.size, 22, none⟩ ∧ ∃ ad, (some (⟨w.heap.size, 22, none⟩ : Addr)) = some ad ∧ ∀ j v, ((b.regs.drop 22).map (Value.int .u8))[j]? = some v → w3.cell? (ad.add j) = some v := by
    intro _
    refine ⟨rfl, _, rfl, fun j v hv => ?_⟩
    have hj : j < 26 := by
      have := (List.getElem?_eq_some_iff.1 hv).1
      simpa [HO.out.regs] using this
    have h1 : (⟨w.heap.size, 22, none⟩ : Addr).add j = ⟨w.heap.size, 22 + j, none⟩ := by unfold Addr.add; by_cases h : j = 0 <;> simp [h]
    rw [h1, HB5.out.ar HO.out.regs (22 + j) (by omega), ← hv]
    have hl : 22 + j < b.regs.length := by have := HO.out.regs; omega
    simp [List.getD_eq_getElem?_getD, hl]
  have HP := hid_ hpos
  have hone : ∀ v ∈ (b.regs.drop 22).map (Value.int .u8), v.oneCell' = true := by
    intro v hv
    obtain ⟨x, _, rfl⟩ := List.mem_map.1 hv
    rfl
  have HN := hid_ hone
  have HL := hid_ hlen
  have HF : Hid (22 + ((b.regs.drop 22).map (Value.int .u8)).length ≤ (enc { zeroB with div := b.div, step := b.step }).toList.length) := by
    have h1 : (enc { zeroB with div := b.div, step := b.step }).toList.length = 70 := HS.out
    have h2 : ((b.regs.drop 22).map (Value.int .u8)).length = 26 := by simp [HO.out.regs]
    show _ ≤ _
    rw [h2]
    exact Nat.le_of_lt (Nat.lt_of_lt_of_eq (by omega) h1.symm)
  clear hpos hone hlen c49 c50
  go_region_law (refine step_copy_splice rfl (.tmp 14) (.tmp 16) 51 51 rfl 5 Try.underlying51 hs5 (some ⟨w1.heap.size, 22, none⟩) (some ⟨w.heap.size, 22, none⟩) 26 26 26 26 (by simp [Act.eval, Act.put]) (by simp [Act.eval, Act.put]) w1.heap.size 22 (enc { zeroB with div := b.div, step := b.step }).toList 29 (by exact HB4.out) ((b.regs.drop 22).map (Value.int .u8)) HL.out HP.out HF.out HN.out w1.heap.size w3 (by first | exact Below.refl _ _ | exact Below.drew (Below.refl _ _)) (Nat.le_refl _) ?_; intro w4 hg4 hb4)
  have hc : Blk w4 w1.heap.size 29 (enc (offB b)) := by
    have h1 := hg4.out
    rw [splice_off b HO.out.regs] at h1
    exact h1
  have HB7 := hid_ hc
  have HB8 : Hid (Blk w4 (w.heap.size + 1) 29 (enc zeroB)) := HB6.out.below hb4 hg1
  have HW4 : Hid (Below w.heap.size w w4) := HW3.out.trans (hb4.mono HW1.out.size)
  have HSF := hid_ (off_size b HO.out.regs)
  have H1F := hid_ (enc_one (offB b))
  clear hc hb4 hg4 HB4 HB5 HB6 HW3 HP HN HL HF HS H1 HB1 HB2 HB3 HW1 HW2
  generalize w1.heap.size = g1 at *
  go_wp2_with (first
      | (with_reducible refine wpList_load29 (op := ⟨some 18, _, _, _, _, _⟩) rfl (.tmp 5) rfl g1 (by with_unfolding_all rfl) (enc (offB b)) HB7.out HSF.out ?_)
      | (with_reducible refine wpList_store29 (op := ⟨none, .store 29 (.tmp 4) (.tmp 18), _, _, _, _⟩) rfl (.tmp 4) (.tmp 18) rfl (w.heap.size + 1) (enc zeroB) (enc (offB b)) (by with_unfolding_all rfl) (by with_unfolding_all rfl) HB8.out HZ.out HSF.out H1F.out ?_))
  refine bodyPost_ret (v := .agg (enc (offB b))) (results_board Try.results15 rfl (HB8.out.setRow _) HSF.out) rfl (.of ?_ (below_setRow HW4.out (by omega) _))
  rfl
set_option maxRecDepth 20000 in
set_option maxHeartbeats 2000000 in
theorem switch_on (b : Bd) (hb : b.OkR) (hon : b.on = true) (w : World) : Calls Try.prog 15 #[.agg (enc b), .bool true] w (Ret (.agg (enc { b with on := true })) w) := by
  have HO := hid_ hb
  have HN := hid_ hon
  have HZ := hid_ (enc_size zeroB rfl)
  have HS : Hid ((enc { b with on := true }).size = 70) := enc_size _ hb.regs
  have H1 := hid_ (enc_one { b with on := true })
  clear hb hon
  go_enter Try.func15, Try.ntmps15
  go_wp2_with (first
      | (with_reducible refine wpList_alloc29 (op := ⟨some 4, .alloc 29, _, _, _, _⟩) rfl rfl b w rfl ?_; intro w1 HB1 HB2 HW1 hg1; have c48 := HB1.out.a48 HO.out.regs; rw [HN.out] at c48; have f48 := HB1.out.frozen 48; have hg0 := HB1.out.lt)
      | (with_reducible refine wpList_load29 (op := ⟨some 25, _, _, _, _, _⟩) rfl (.tmp 2) rfl w.heap.size (by with_unfolding_all rfl) (enc { b with on := true }) (HB1.out.s48 HO.out.regs true) HS.out ?_)
      | (with_reducible refine wpList_store29 (op := ⟨none, .store 29 (.tmp 4) (.tmp 25), _, _, _, _⟩) rfl (.tmp 4) (.tmp 25) rfl (w.heap.size + 1) (enc zeroB) (enc { b with on := true }) (by with_unfolding_all rfl) (by with_unfolding_all rfl) (HB2.out.far (p := ⟨w.heap.size, 48, none⟩) (by simp) (.bool true)) HZ.out HS.out H1.out ?_))
  refine bodyPost_ret (v := .agg (enc { b with on := true })) (results_board Try.results15 rfl ((HB2.out.far (p := ⟨w.heap.size, 48, none⟩) (by simp) (.bool true)).setRow _) HS.out) rfl (.of ?_ (below_setRow (HW1.out.setCell (p := ⟨w.heap.size, 48, none⟩) (by simp) (.bool true)) (by omega) _))
  rfl
set_option maxRecDepth 20000 in
set_option maxHeartbeats 2000000 in
theorem switch_new (b : Bd) (hb : b.OkR) (hon : b.on = false) (w : World) : Calls Try.prog 15 #[.agg (enc b), .bool true] w (Ret (.agg (enc { b with div := 0, step := 0, on := true })) w) := by
  have HO := hid_ hb
  have HN := hid_ hon
  have HZ := hid_ (enc_size zeroB rfl)
  have HS : Hid ((enc { b with div := 0, step := 0, on := true }).size = 70) := enc_size _ hb.regs
  have H1 := hid_ (enc_one { b with div := 0, step := 0, on := true })
  clear hb hon
  go_enter Try.func15, Try.ntmps15
  go_wp2_with (first
      | (with_reducible refine wpList_alloc29 (op := ⟨some 4, .alloc 29, _, _, _, _⟩) rfl rfl b w rfl ?_; intro w1 HB1 HB2 HW1 hg1; have c48 := HB1.out.a48 HO.out.regs; rw [HN.out] at c48; have f48 := HB1.out.frozen 48; have c49 := HB1.out.a49 HO.out.regs; have f49 := HB1.out.frozen 49; have c50 := HB1.out.a50 HO.out.regs; have f50 := HB1.out.frozen 50; have hg0 := HB1.out.lt)
      | (with_reducible refine wpList_load29 (op := ⟨some 25, _, _, _, _, _⟩) rfl (.tmp 2) rfl w.heap.size (by with_unfolding_all rfl) (enc { b with div := 0, step := 0, on := true }) (((HB1.out.s49 HO.out.regs 0).s50 HO.out.regs 0).s48 HO.out.regs true) HS.out ?_)
      | (with_reducible refine wpList_store29 (op := ⟨none, .store 29 (.tmp 4) (.tmp 25), _, _, _, _⟩) rfl (.tmp 4) (.tmp 25) rfl (w.heap.size + 1) (enc zeroB) (enc { b with div := 0, step := 0, on := true }) (by with_unfolding_all rfl) (by with_unfolding_all rfl) (((HB2.out.far (p := ⟨w.heap.size, 49, none⟩) (by simp) (.int .i64 0)).far (p := ⟨w.heap.size, 50, none⟩) (by simp) (.int .i64 0)).far (p := ⟨w.heap.size, 48, none⟩) (by simp) (.bool true)) HZ.out HS.out H1.out ?_))
  refine bodyPost_ret (v := .agg (enc { b with div := 0, step := 0, on := true })) (results_board Try.results15 rfl ((((HB2.out.far (p := ⟨w.heap.size, 49, none⟩) (by simp) (.int .i64 0)).far (p := ⟨w.heap.size, 50, none⟩) (by simp) (.int .i64 0)).far (p := ⟨w.heap.size, 48, none⟩) (by simp) (.bool true)).setRow _) HS.out) rfl (.of ?_ (below_setRow (((HW1.out.setCell (p := ⟨w.heap.size, 49, none⟩) (by simp) (.int .i64 0)).setCell (p := ⟨w.heap.size, 50, none⟩) (by simp) (.int .i64 0)).setCell (p := ⟨w.heap.size, 48, none⟩) (by simp) (.bool true)) (by omega) _))
  rfl
theorem switch_any (b : Bd) (hb : b.OkR) (on : Bool) (w : World) : Calls Try.prog 15 #[.agg (enc b), .bool on] w (Ret (.agg (enc (switchB b on))) w) := by
  cases on with
  | false => exact switch_off b hb w
  | true =>
    by_cases h : b.on = false
    · rw [show switchB b true = { b with div := 0, step := 0, on := true } by unfold switchB; rw [if_neg (by simp), if_pos h]]
      exact switch_new b hb h w
    · rw [show switchB b true = { b with on := true } by unfold switchB; rw [if_neg (by simp), if_neg h]]
      exact switch_on b hb (by simpa using h) w
end Go.Proofs.Ytacbdapgdgliiaa
