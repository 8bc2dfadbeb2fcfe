/- Memory that is filled, of the reference of layer 13. -/
import Derived.Test.YtglnikjeloafiaaWalksE
import Derived.OwnWalk
import Derived.Deep.OwnRows
namespace Go.Proofs.Ytglnikjeloafiaa
open Go.RowKit
set_option linter.unusedSimpArgs false
set_option linter.unusedVariables false

theorem byte_info : (Try.prog.info? 5).map (fun i => (i.zero, i.size, i.bytes)) = some (some (.int .u8 0), 1, 1) := by kernel_rfl
theorem made_at (v : Value) (n j : Nat) (h : j < n) : (madeCells #[v] n)[j]? = some v := by
  rw [← Array.getElem?_toList, toList_madeCells_one, List.getElem?_replicate, if_pos h]
def fillN (zs : List Int) (i : Nat) : Int := if 0 < zs.length then zs.getD ((i + i / 97) % zs.length) 0 else 0
def fillZ (zs : List Int) : List Int := (List.range 8192).map (fillN zs)

theorem filled0 (a : Option Addr) (cap : Nat) (zs : List Int) (hz : zs.length = 0) (w : World) :
    Calls Try.prog 10 #[.slice a 0 cap] w fun e w' => e = .returned (.slice (some ⟨w.heap.size, 0, none⟩) 8192 8192) ∧ Below w.heap.size w w' ∧
      ∃ cs, Blk w' w.heap.size 5 cs ∧ cs.size = 8192 ∧ ∀ j, j < 8192 → cs[j]? = some (.int .u8 (fillN zs j)) := by
  obtain ⟨i0, hi0, hz0, hz1, hz2⟩ := info_parts byte_info
  obtain ⟨n, hn⟩ : ∃ n : Nat, n = 8192 := ⟨_, rfl⟩
  have HN := hid_ hn
  have hn9 : n ≤ 100000 := by omega
  rw [← hn]
  clear hn
  go_enter Try.func10, Try.ntmps10
  go_wp2_with (at_make; refine wpList_make_row _ rfl _ _ 22 rfl 5 i0 (.int .u8 0) Try.underlying22 hi0 hz0 hz1 rfl .i64 .i64 n (by rw [HN.out]; rfl) (by rw [HN.out]; rfl) (by rw [hz2]; omega) (by omega) ?_)
  have hB := Blk.new w 5 (madeCells #[.int .u8 0] n)
  have hs := size_madeCells #[.int .u8 0] n
  have ha : ∀ j, j < n → (madeCells #[.int .u8 0] n)[j]? = some (.int .u8 0) := fun j h => made_at _ n j h
  have hW : Below w.heap.size w (w.alloc (.cells (madeCells #[.int .u8 0] n) 5)) := (Below.refl _ _).alloc (Nat.le_refl _) _
  generalize (w.alloc (.cells (madeCells #[.int .u8 0] n) 5)) = w1 at *
  generalize madeCells #[.int .u8 0] n = cs at *
  go_wp2_with fail
  go_loopw [8] (fun i wr => ∃ k : Nat, k ≤ n ∧ i = .int .i64 k ∧ wr = w1) (fun i _ => n - (intOf i).toNat)
  case atStart => exact ⟨0, by omega, rfl, rfl⟩
  case round =>
    obtain ⟨k, hk, rfl, rfl⟩ := hrel
    by_cases hlt : k < n
    · go_wp2_with fail
      exact ⟨⟨k + 1, by omega, by go_num, trivial⟩, by simp [intOf]; omega⟩
    · obtain rfl : k = n := by omega
      go_wp2_with fail
      go_ret
      refine ⟨rfl, hW, cs, hB, hs, fun j hj => ?_⟩
      rw [ha j hj]; unfold fillN; rw [hz]; rfl

theorem filled1 (b off len cap : Nat) (zs : List Int) (hz : zs.length = len) (h0 : 0 < len) (hl : len ≤ 3000) (w : World) (hb : b < w.heap.size)
    (hc : ∀ i, i < len → w.cell? ⟨b, off + i, none⟩ = some (.int .u8 (zs.getD i 0))) :
    Calls Try.prog 10 #[.slice (some ⟨b, off, none⟩) len cap] w fun e w' => e = .returned (.slice (some ⟨w.heap.size, 0, none⟩) 8192 8192) ∧ Below w.heap.size w w' ∧
      ∃ cs, Blk w' w.heap.size 5 cs ∧ cs.size = 8192 ∧ ∀ j, j < 8192 → cs[j]? = some (.int .u8 (fillN zs j)) := by
  obtain ⟨i0, hi0, hz0, hz1, hz2⟩ := info_parts byte_info
  obtain ⟨n, hn⟩ : ∃ n : Nat, n = 8192 := ⟨_, rfl⟩
  have HN := hid_ hn
  have hn9 : n ≤ 100000 := by omega
  have HC := hid_ hc
  rw [← hn]
  clear hn hc
  go_enter Try.func10, Try.ntmps10
  go_wp2_with (at_make; refine wpList_make_row _ rfl _ _ 22 rfl 5 i0 (.int .u8 0) Try.underlying22 hi0 hz0 hz1 rfl .i64 .i64 n (by rw [HN.out]; rfl) (by rw [HN.out]; rfl) (by rw [hz2]; omega) (by omega) ?_)
  have hB := Blk.new w 5 (madeCells #[.int .u8 0] n)
  have hs := size_madeCells #[.int .u8 0] n
  have ha : ∀ j, j < n → (madeCells #[.int .u8 0] n)[j]? = some (.int .u8 (if j < 0 then fillN zs j else 0)) := fun j h => by rw [made_at _ n j h]; rfl
  have hW : Below w.heap.size w (w.alloc (.cells (madeCells #[.int .u8 0] n) 5)) := (Below.refl _ _).alloc (Nat.le_refl _) _
  generalize (w.alloc (.cells (madeCells #[.int .u8 0] n) 5)) = w1 at *
  generalize madeCells #[.int .u8 0] n = cs at *
  have HA := hid_ ha
  clear ha
  go_wp2_with fail
  go_loopw [8] (fun i wr => ∃ (k : Nat) (cs : Array Value), k ≤ n ∧ i = .int .i64 k ∧ Blk wr w.heap.size 5 cs ∧ cs.size = n ∧ Below w.heap.size w wr ∧
    Hid (∀ j, j < n → cs[j]? = some (.int .u8 (if j < k then fillN zs j else 0)))) (fun i _ => n - (intOf i).toNat)
  case atStart => exact ⟨0, cs, by omega, rfl, hB, hs, hW, HA⟩
  case round =>
    clear hB hs HA hW
    clear cs
    obtain ⟨k, cs, hk, rfl, hB, hs, hW, HA⟩ := hrel
    by_cases hlt : k < n
    · obtain ⟨r, hr⟩ : ∃ r, (k + k / 97) % len = r := ⟨_, rfl⟩
      have hr2 : r < len := by rw [← hr]; exact Nat.mod_lt _ h0
      have hri : ((k : Int) + (k : Int) / 97) % (len : Int) = (r : Int) := by rw [← hr]; push_cast; rfl
      have hF : fillN zs k = zs.getD r 0 := by unfold fillN; rw [if_pos (by omega), hz, hr]
      have r0 : (0 : Int) ≤ (r : Int) := by omega
      have r1 : (r : Int) < (len : Int) := by omega
      obtain ⟨v, hv⟩ : ∃ v, zs.getD r 0 = v := ⟨_, rfl⟩
      have cell := (hW.cell (p := ⟨b, off + r, none⟩) hb).trans (HC.out r hr2)
      have fk := hB.frozen k
      have ck := hB.cell k
      rw [HA.out k hlt, if_neg (by omega)] at ck
      rw [hv] at cell
      clear hr
      go_wp2_with fail
      refine ⟨⟨k + 1, cs.setIfInBounds k (.int .u8 v), by omega, by go_num, hB.set_ k _, by simp [hs], hW.setCell (by simp) _, fun j hj => ?_⟩, by simp [intOf]; omega⟩
      rw [Array.getElem?_setIfInBounds]
      by_cases hjk : k = j
      · subst hjk
        rw [if_pos rfl, if_pos (by omega), if_pos (by omega), hF, hv]
      · rw [if_neg hjk, HA.out j hj]
        by_cases hj2 : j < k
        · rw [if_pos hj2, if_pos (by omega)]
        · rw [if_neg hj2, if_neg (by omega)]
    · obtain rfl : k = n := by omega
      go_wp2_with fail
      go_ret
      refine ⟨rfl, hW, cs, hB, hs, fun j hj => ?_⟩
      rw [HA.out j hj, if_pos hj]

def Fills (zs : List Int) (w : World) (e : Ending) (w' : World) : Prop :=
  e = .returned (.slice (some ⟨w.heap.size, 0, none⟩) 8192 8192) ∧ Hid (IsRow .u8 w' (some ⟨w.heap.size, 0, none⟩) 8192 (fillZ zs)) ∧ Below w.heap.size w w'
theorem fillZ_at (zs : List Int) (i : Nat) (h : i < 8192) : (fillZ zs).getD i 0 = fillN zs i := by
  unfold fillZ
  rw [List.getD_eq_getElem?_getD, List.getElem?_map, List.getElem?_range h]; rfl
theorem fillN_wf (zs : List Int) (h : ∀ n ∈ zs, (Lit.int .u8 n).wf = true) (i : Nat) : (Lit.int .u8 (fillN zs i)).wf = true := by
  unfold fillN
  split
  · rename_i h0
    refine h _ ?_
    have hm := Nat.mod_lt (i + i / 97) h0
    rw [List.getD_eq_getElem?_getD, List.getElem?_eq_getElem hm]
    exact List.getElem_mem _
  · rfl
theorem filled_any (a : Option Addr) (len cap : Nat) (zs : List Int) (hl : len ≤ 3000) (w : World) (h : IsRow .u8 w a len zs) :
    Calls Try.prog 10 #[.slice a len cap] w (Fills zs w) := by
  have key : Calls Try.prog 10 #[.slice a len cap] w fun e w' => e = .returned (.slice (some ⟨w.heap.size, 0, none⟩) 8192 8192) ∧ Below w.heap.size w w' ∧
      ∃ cs, Blk w' w.heap.size 5 cs ∧ cs.size = 8192 ∧ ∀ j, j < 8192 → cs[j]? = some (.int .u8 (fillN zs j)) := by
    rcases Nat.eq_zero_or_pos len with h0 | h0
    · subst h0; exact filled0 a cap zs h.1 w
    · obtain ⟨b, off, rfl, hb, hc⟩ := h.2.2 h0
      exact filled1 b off len cap zs h.1 h0 hl w hb hc
  refine key.mono ?_
  rintro e w' ⟨he, hW, cs, hB, hs, ha⟩
  refine ⟨he, ⟨?_, ?_, fun _ => ⟨w.heap.size, 0, rfl, hB.lt, fun i hi => ?_⟩⟩, hW⟩
  · unfold fillZ; rw [List.length_map, List.length_range]
  · intro n hn
    unfold fillZ at hn
    obtain ⟨i, _, rfl⟩ := List.mem_map.1 hn
    exact fillN_wf zs h.2.1 i
  · rw [fillZ_at zs i hi, Nat.zero_add, hB.cell i, ha i hi]
end Go.Proofs.Ytglnikjeloafiaa
