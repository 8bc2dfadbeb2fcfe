/- The law TilesLines: its walk. -/
import Derived.Test.YtglnikjeloafiaaLineR
import Derived.Test.YtglnikjeloafiaaIn
import Derived.ChangeKeysEq
namespace Go.Proofs.Ytglnikjeloafiaa
open Go.RowKit
set_option linter.unusedSimpArgs false
set_option linter.unusedVariables false

theorem items_same (xs : Array Value) (w : World) : ∀ is : List Nat, (∀ i ∈ is, ∃ a : Int, xs[i]? = some (.int .u8 a)) → (Op.eqItems 9999 5 1 xs xs is).run Try.prog w = .ok true w
  | [], _ => by simp [Op.eqItems]
  | i :: is, h => by
    obtain ⟨a, ha⟩ := h i (by simp)
    have hp : (part 5 xs (i * 1)).run Try.prog w = .ok (.int .u8 a) w := run_part_plain w (by kernel_rfl) (by rw [Nat.mul_one]; exact ha)
    simp only [Op.eqItems, Sem.run_bind, hp, Result.andThen_ok, run_equalIn_int w 9998 5 .u8 .u8 a a Try.underlying5, beq_self_eq_true, Bool.not_true, Bool.false_eq_true, if_false]
    exact items_same xs w is fun j hj => h j (by simp [hj])
theorem row_same (F : Nat → Int) (w : World) : (Op.equalIn 10000 36 (.agg (rowOf F)) (.agg (rowOf F))).run Try.prog w = .ok true w := by
  obtain ⟨i, hi, _⟩ := info_parts byte_info
  have hc : Try.prog.cellsOf 5 = 1 := by kernel_rfl
  rw [run_equalIn_array w 9999 _ _ Try.underlying36 hi, hc]
  exact items_same _ w _ fun j hj => ⟨F j, by simp [rowOf, List.mem_range.1 hj]⟩
theorem rowOf_size (F : Nat → Int) : (rowOf F).size = 160 := by simp [rowOf]
theorem rowOf_at (F : Nat → Int) (j : Nat) (h : j < 160) : (rowOf F)[j]? = some (.int .u8 (F j)) := by simp [rowOf, h]
theorem keeps_range {wo W : World} {g : Nat} {L : List Value} (hk : Keeps wo W) (h : wo.rangeAt g 0 L) (hg : g < wo.heap.size) : W.rangeAt g 0 L := fun j v hv => by
  rw [Keeps.cells hk g (0 + j) hg]; exact h j v hv
theorem Blk.range {w : World} {g : Nat} {t : TypeId} {cs : Array Value} (h : Blk w g t cs) : w.rangeAt g 0 cs.toList := fun j v hv => by
  rw [Nat.zero_add, h.cell j]; simpa using hv
theorem Blk.setFar {w : World} {g b : Nat} {t : TypeId} {cs : Array Value} (h : Blk w g t cs) (hb : g ≠ b) (cs' : Array Value) : Blk (w.setRow b cs') g t cs := (setRow_other w b g cs' hb).trans h

namespace tilesLines
set_option maxRecDepth 100000 in
set_option maxHeartbeats 4000000 in
theorem walkIn (w : World) (s : Option Addr) (len cap : Nat) (z : List Int) (c sx sy wx wy line own : Int) (h : IsRow .u8 w s len z) (hl : len ≤ 3000)
    (hc : 0 ≤ c) (hc' : c ≤ 255) (hs0 : 0 ≤ sx) (hs1 : sx ≤ 255) (ht0 : 0 ≤ sy) (ht1 : sy ≤ 255) (hw0 : 0 ≤ wx) (hw1 : wx ≤ 255) (hv0 : 0 ≤ wy) (hv1 : wy ≤ 255) :
    Calls Try.prog 7 #[.slice s len cap, view c sx sy wx wy, .int .i64 line, .int .i64 own] w (Ret (.bool true) w) := by
  have q : decide (3000 < (len : Int)) = false := by simp; omega
  have H0 := hid_ h
  have HL := hid_ hl
  clear h hl
  obtain ⟨zz, hz, hsz, hat⟩ := row_zero
  have HSZ := hid_ hsz
  clear hsz hat
  obtain ⟨F, hF⟩ : ∃ F, lineG (fillZ z) c sx sy wx wy line own = F := ⟨_, rfl⟩
  obtain ⟨sb, hsb⟩ : ∃ b, seenB c wx wy line = b := ⟨_, rfl⟩
  obtain ⟨L, hL⟩ : ∃ L : List Value, rowOf F = L.toArray := ⟨(rowOf F).toList, by simp⟩
  have HF : Hid (rowOf (lineG (fillZ z) c sx sy wx wy line own) = L.toArray) := by show _ = _; rw [hF, hL]
  have HSB := hid_ hsb
  have hLn : L.toArray.size = 160 := by rw [← hL]; exact rowOf_size F
  have HLN : Hid (L.toArray.size = 160) := hLn
  have HLO : Hid (L.toArray.all (·.oneCell') = true) := by show _ = _; rw [← hL]; exact bytes_one (F := F) (rowOf_size F) (rowOf_at F)
  have heq : ∀ W : World, (Op.equalIn 10000 36 (.agg L.toArray) (.agg L.toArray)).run Try.prog W = .ok true W := fun W => by rw [← hL]; exact row_same F W
  have hg36 : Try.prog.eqGuardType Try.prog.depth 36 = false := by kernel_rfl
  have HI36 : Hid ((Try.prog.info? 36).map (·.size) = some L.length) := by show _ = _; rw [row_size]; simp at hLn; rw [hLn]
  clear hF hsb hL hLn
  go_enter Try.func7, Try.ntmps7
  go_wp2_with fail
  refine (awake_any _).mono ?_
  rintro e w1 ⟨rfl, hd1, hf1, hz1, hb1⟩
  have hB1 := (Blk.new w 24 #[.int .u8 c, .int .u8 sx, .int .u8 sy, .int .u8 wx, .int .u8 wy]).below hb1 (by simp)
  have R1 := hid_ ((H0.out.alloc (.cells #[.int .u8 c, .int .u8 sx, .int .u8 sy, .int .u8 wx, .int .u8 wy] 24)).below hb1)
  have hW1 : Below w.heap.size w w1 := ((Below.refl _ _).alloc (Nat.le_refl _) _).trans (hb1.mono (by simp))
  simp at hz1
  clear hd1 hf1
  go_wp2_with fail
  refine (filled_any s len cap z HL.out _ R1.out).mono ?_
  rintro e w2 ⟨rfl, M2, hb2⟩
  obtain ⟨g, hg⟩ : ∃ g, w1.heap.size = g := ⟨_, rfl⟩
  rw [hg] at M2 ⊢
  clear hg
  have hB2 := hB1.below hb2 (by omega)
  have hW2 : Below w.heap.size w w2 := hW1.trans (hb2.mono (by omega))
  clear hb1 hb2 R1 hW1 hB1 hz1
  have gB := hB2.lt
  obtain ⟨c0, c1, c2, c3, c4, f0, f1, f2, f3, f4⟩ := hB2.five
  go_wp2_with fail
  refine (line_any (fillZ z) _ 8192 8192 c sx sy wx wy line own hc hc' hw0 hw1 hv0 hv1 _ M2.out).mono ?_
  rintro e w3 ⟨rfl, hd3, hf3, hz3, hb3⟩
  rw [HF.out, HSB.out]
  have hB3 := hB2.below hb3 gB
  have hW3 := hW2.trans (hb3.mono hW2.size)
  have M3 := hid_ (M2.out.below hb3)
  clear hd3 hf3 hz3 hb3 hB2 hW2 M2 gB c0 c1 c2 c3 c4 f0 f1 f2 f3 f4
  have gB := hB3.lt
  have hN := Blk.new w3 36 zz
  have hN4 := hN.setRow L.toArray
  have hB4 := (hB3.alloc (.cells zz 36)).setFar (b := w3.heap.size) (by omega) L.toArray
  have hW4 : Below w.heap.size w ((w3.alloc (.cells zz 36)).setRow w3.heap.size L.toArray) := below_setRow (hW3.alloc hW3.size _) hW3.size _
  have M4 := hid_ (M3.out.below (below_setRow ((Below.refl w3.heap.size w3).alloc (Nat.le_refl _) (.cells zz 36)) (Nat.le_refl _) L.toArray))
  go_wp2_with (with_reducible refine wpList_store36 (op := ⟨none, .store 36 (.tmp 10) (.tmp 28), _, _, _, _⟩) rfl (.tmp 10) (.tmp 28) rfl w3.heap.size zz L.toArray (by with_unfolding_all rfl) (by with_unfolding_all rfl) hN HSZ.out HLN.out HLO.out ?_)
  have hR4 := hN4.range
  have gN := hN4.lt
  clear hB3 hN hN4 hW3 M3
  generalize ((w3.alloc (.cells zz 36)).setRow w3.heap.size L.toArray) = wo at *
  generalize w3.heap.size = gn at *
  have gB4 := hB4.lt
  obtain ⟨c0, c1, c2, c3, c4, _, _, _, _, _⟩ := hB4.five
  have hu36 := Try.underlying36
  have hi36 := HI36.out
  have hR : wo.rangeAt gn 0 L := by simpa using hR4
  go_region_held3 (fun W => (∀ b o, b < wo.heap.size → W.cell? ⟨b, o, none⟩ = wo.cell? ⟨b, o, none⟩) ∧ W.rangeAt gn 0 L ∧ Keeps wo W)
    (first | exact ⟨fun _ _ _ => rfl, hR, (Keeps.refl _).drew⟩ | exact ⟨fun _ _ h => Keeps.cells (by assumption) _ _ h, keeps_range (by assumption) hR gN, by assumption⟩)
    (first
    | (go_at_call 22; go_split_ands; refine (rline_any (fillZ z) _ 8192 8192 c sx sy wx wy line own hc hc' hs0 hs1 ht0 ht1 hw0 hw1 hv0 hv1 _ (keeps_row M4.out (by assumption))).mono ?_; rintro e w4 ⟨rfl, hc4, hf4, hz4, hb4⟩; rw [HF.out]; have hk4 := Keeps.step (wo := wo) (by assumption) hb4; clear hc4 hf4 hz4 hb4)
    | (go_at_call 23; go_split_ands; refine (rseen_any c sx sy wx wy line hc hc' hw0 hw1 hv0 hv1 _).mono ?_; rintro e w4 ⟨rfl, hc4, hf4, hz4, hb4⟩; rw [HSB.out]; have hk4 := Keeps.step (wo := wo) (by assumption) hb4; clear hc4 hf4 hz4 hb4))
  go_wp2_with fail
  go_ret
  exact .of rfl (hW4.trans (Below.mono (by assumption : Keeps wo _) hW4.size))

set_option maxRecDepth 100000 in
theorem walk_out (w : World) (s : Option Addr) (len cap : Nat) (c sx sy wx wy line own : Int) (hl : 3000 < len) :
    Calls Try.prog 7 #[.slice s len cap, view c sx sy wx wy, .int .i64 line, .int .i64 own] w (Ret (.bool true) w) := by
  have q : decide (3000 < (len : Int)) = true := by simp; omega
  clear hl
  go_enter Try.func7, Try.ntmps7
  go_wp2_with fail
  refine (awake_any _).mono ?_
  rintro e w1 ⟨rfl, hd1, hf1, hz1, hb1⟩
  have hW1 : Below w.heap.size w w1 := ((Below.refl _ _).alloc (Nat.le_refl _) _).trans (hb1.mono (by simp))
  clear hd1 hf1
  go_wp2_with fail
  refine (awake_any _).mono ?_
  rintro e w2 ⟨rfl, hd2, hf2, hz2, hb2⟩
  clear hd2 hf2
  go_wp2_with fail
  go_ret
  exact .of rfl (hW1.trans (hb2.mono hW1.size))
theorem walk (w : World) (s : Option Addr) (len cap : Nat) (z : List Int) (c sx sy wx wy line own : Int) (h : IsRow .u8 w s len z)
    (hc : 0 ≤ c) (hc' : c ≤ 255) (hs0 : 0 ≤ sx) (hs1 : sx ≤ 255) (ht0 : 0 ≤ sy) (ht1 : sy ≤ 255) (hw0 : 0 ≤ wx) (hw1 : wx ≤ 255) (hv0 : 0 ≤ wy) (hv1 : wy ≤ 255)
    (_ : -9223372036854775808 ≤ line) (_ : line ≤ 9223372036854775807) (_ : -9223372036854775808 ≤ own) (_ : own ≤ 9223372036854775807) :
    Calls Try.prog 7 #[.slice s len cap, view c sx sy wx wy, .int .i64 line, .int .i64 own] w (Ret (.bool true) w) := by
  by_cases hl : len ≤ 3000
  · exact walkIn w s len cap z c sx sy wx wy line own h hl hc hc' hs0 hs1 ht0 ht1 hw0 hw1 hv0 hv1
  · exact walk_out w s len cap c sx sy wx wy line own (by omega)
end tilesLines
end Go.Proofs.Ytglnikjeloafiaa
