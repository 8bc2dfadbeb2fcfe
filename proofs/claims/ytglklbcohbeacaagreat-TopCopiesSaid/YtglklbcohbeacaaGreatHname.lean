/- A cartridge's title, of layer 5. -/
import Derived.Test.YtglklbcohbeacaaGreatHbuild
namespace Go.Proofs.YtglklbcohbeacaaGreat
open Go.RowKit
set_option linter.unusedSimpArgs false
set_option linter.unusedVariables false

def fixI (z : Int) : Int := if z < 32 ∨ 126 < z then 63 else z
def fixB (z : Int) : UInt8 := (fixI z).toNat.toUInt8
def titleL : List Int → List UInt8
  | [] => []
  | z :: r => if z = 0 then [] else fixB z :: titleL r
def pre (zs : List Int) (k : Nat) : List UInt8 := (zs.take k).map fixB
theorem pre_succ (zs : List Int) (k : Nat) (h : k < zs.length) : pre zs (k + 1) = pre zs k ++ [fixB (zs.getD k 0)] := by
  unfold pre
  rw [List.take_add_one, List.map_append, List.getElem?_eq_getElem h, List.getD_eq_getElem?_getD, List.getElem?_eq_getElem h]; rfl
theorem title_stop : ∀ (zs : List Int) (k : Nat), k ≤ zs.length → (∀ j, j < k → zs.getD j 0 ≠ 0) → (k < zs.length → zs.getD k 0 = 0) → titleL zs = pre zs k
  | [], k, hk, _, _ => by
    have : k = 0 := by simpa using hk
    subst this; rfl
  | z :: r, 0, _, _, h0 => by
    have : z = 0 := by simpa using h0 (by simp)
    simp [titleL, this, pre]
  | z :: r, k + 1, hk, hj, h0 => by
    have hz : z ≠ 0 := by simpa using hj 0 (by omega)
    have ih := title_stop r k (by simpa using hk) (fun j h => by simpa using hj (j + 1) (by omega)) (fun h => by simpa using h0 (by simpa using h))
    simp only [titleL, if_neg hz, ih]
    simp [pre]
theorem fixI_bd (z : Int) (h0 : 0 ≤ z) (h1 : z ≤ 255) : 0 ≤ fixI z ∧ fixI z ≤ 255 := by unfold fixI; split <;> omega
theorem cells_snoc (l : List UInt8) (z : Int) (h0 : 0 ≤ z) (h1 : z ≤ 255) : Lib.byteCells l ++ [.int .u8 (fixI z)] = Lib.byteCells (l ++ [fixB z]) := by
  obtain ⟨a, b⟩ := fixI_bd z h0 h1
  have e : ((fixB z).toNat : Int) = fixI z := by
    unfold fixB
    have : (fixI z).toNat < 256 := by omega
    simp [Nat.toUInt8, UInt8.toNat_ofNat', Nat.mod_eq_of_lt this]; omega
  simp [Lib.byteCells, e]
theorem byteCells_length (l : List UInt8) : (Lib.byteCells l).length = l.length := by simp [Lib.byteCells]

set_option maxRecDepth 20000 in
set_option maxHeartbeats 1000000 in
theorem name_any (a : Option Addr) (len cap : Nat) (zs : List Int) (hl : len ≤ 100) (w : World) (h : IsRow .u8 w a len zs) :
    Calls Tryz.prog 50 #[.slice a len cap] w (Ret (.string ⟨(titleL zs).toArray⟩) w) := by
  have HR := hid_ h
  have hz := h.1
  clear h
  go_enter Tryz.func50, Tryz.ntmps50
  go_wp2_with fail
  have hI := Lib.fresh_isBuilder 157 5 w
  have hW : Below w.heap.size w (w.alloc (.cells #[.pointer none, .slice none 0 0] 157)) := (Below.refl _ _).alloc (Nat.le_refl _) _
  go_loopw [8] (fun i wr => ∃ k : Nat, k ≤ len ∧ i = .int .i64 k ∧ Hid (∀ j, j < k → zs.getD j 0 ≠ 0) ∧ Hid (Lib.IsBuilder 157 5 w.heap.size w.heap.size (Lib.byteCells (pre zs k)) wr) ∧ Below w.heap.size w wr) (fun i _ => len - (intOf i).toNat)
  case atStart => exact ⟨0, by omega, rfl, fun j hj => by omega, hI, hW⟩
  case round =>
    clear hI hW
    obtain ⟨k, hk, rfl, HN, HI, hW⟩ := hrel
    have hs := hW.size
    have hpl : (Lib.byteCells (pre zs k)).length ≤ 1000 := by rw [byteCells_length]; unfold pre; simp; omega
    by_cases hlt : k < len
    · obtain ⟨b, off, rfl, hb, hc⟩ := HR.out.at_ (by omega)
      obtain ⟨z, hzz, hz0, hz1, cz⟩ := hc k hlt
      have cz' := (hW.cell (p := ⟨b, off + k, none⟩) hb).trans cz
      have i0 : (0 : Int) ≤ (k : Int) := by omega
      have i1 : (k : Int) < (len : Int) := by omega
      have HZ := hid_ hzz
      clear hc cz hzz
      by_cases hz00 : z = 0
      · subst hz00
        have ht : titleL zs = pre zs k := title_stop zs k (by omega) HN.out (fun _ => HZ.out)
        have HT := hid_ ht
        clear ht
        go_wp2_with fail
        refine (builder_String_any w.heap.size w.heap.size (pre zs k) _ HI.out hs).mono ?_
        rintro e w2 ⟨rfl, hb2⟩
        go_wp2_with fail
        go_ret
        exact .of (by rw [HT.out]; rfl) (hW.trans hb2)
      · have e0 : (z == 0) = false := by simp [hz00]
        have HN' : Hid (∀ j, j < k + 1 → zs.getD j 0 ≠ 0) := fun j hj => by
          rcases Nat.lt_or_ge j k with h | h
          · exact HN.out j h
          · obtain rfl : j = k := by omega
            rw [HZ.out]; exact hz00
        by_cases h32 : z < 32
        · have ef : fixI z = 63 := by unfold fixI; rw [if_pos (.inl h32)]
          have hsn : Lib.byteCells (pre zs k) ++ [.int .u8 63] = Lib.byteCells (pre zs (k + 1)) := by rw [pre_succ zs k (by omega), HZ.out, ← cells_snoc _ z hz0 hz1, ef]
          have HSN := hid_ hsn
          have q32 : decide (z < 32) = true := by simp [h32]
          clear hsn ef
          go_wp2_with fail
          refine (write_byte w.heap.size w.heap.size _ 63 _ HI.out hpl hs).mono ?_
          rintro e w2 ⟨rfl, hI2, hb2⟩
          rw [HSN.out] at hI2
          have HI2 : Hid (Lib.IsBuilder 157 5 w.heap.size w.heap.size (Lib.byteCells (pre zs (k + 1))) w2) := Or.inr hI2
          clear hI2
          go_wp2_with fail
          exact ⟨⟨k + 1, by omega, by go_num, HN', HI2, hW.trans hb2⟩, by simp [intOf]; omega⟩
        · by_cases h126 : 126 < z
          · have ef : fixI z = 63 := by unfold fixI; rw [if_pos (.inr h126)]
            have hsn : Lib.byteCells (pre zs k) ++ [.int .u8 63] = Lib.byteCells (pre zs (k + 1)) := by rw [pre_succ zs k (by omega), HZ.out, ← cells_snoc _ z hz0 hz1, ef]
            have HSN := hid_ hsn
            have q32 : decide (z < 32) = false := by simp; omega
            have q126 : decide (126 < z) = true := by simp [h126]
            clear hsn ef
            go_wp2_with fail
            refine (write_byte w.heap.size w.heap.size _ 63 _ HI.out hpl hs).mono ?_
            rintro e w2 ⟨rfl, hI2, hb2⟩
            rw [HSN.out] at hI2
            have HI2 : Hid (Lib.IsBuilder 157 5 w.heap.size w.heap.size (Lib.byteCells (pre zs (k + 1))) w2) := Or.inr hI2
            clear hI2
            go_wp2_with fail
            exact ⟨⟨k + 1, by omega, by go_num, HN', HI2, hW.trans hb2⟩, by simp [intOf]; omega⟩
          · have ef : fixI z = z := by unfold fixI; rw [if_neg (by omega)]
            have hsn : Lib.byteCells (pre zs k) ++ [.int .u8 z] = Lib.byteCells (pre zs (k + 1)) := by rw [pre_succ zs k (by omega), HZ.out, ← cells_snoc _ z hz0 hz1, ef]
            have HSN := hid_ hsn
            have q32 : decide (z < 32) = false := by simp; omega
            have q126 : decide (126 < z) = false := by simp; omega
            clear hsn ef
            go_wp2_with fail
            refine (write_byte w.heap.size w.heap.size _ z _ HI.out hpl hs).mono ?_
            rintro e w2 ⟨rfl, hI2, hb2⟩
            rw [HSN.out] at hI2
            have HI2 : Hid (Lib.IsBuilder 157 5 w.heap.size w.heap.size (Lib.byteCells (pre zs (k + 1))) w2) := Or.inr hI2
            clear hI2
            go_wp2_with fail
            exact ⟨⟨k + 1, by omega, by go_num, HN', HI2, hW.trans hb2⟩, by simp [intOf]; omega⟩
    · obtain rfl : k = len := by omega
      have ht : titleL zs = pre zs k := title_stop zs k (by omega) HN.out (fun h => by omega)
      have HT := hid_ ht
      clear ht
      go_wp2_with fail
      refine (builder_String_any w.heap.size w.heap.size (pre zs k) _ HI.out hs).mono ?_
      rintro e w2 ⟨rfl, hb2⟩
      go_wp2_with fail
      go_ret
      exact .of (by rw [HT.out]; rfl) (hW.trans hb2)
end Go.Proofs.YtglklbcohbeacaaGreat
