/- The reference's turns of a byte, of layer 1: eight kinds. -/
import Derived.Test.YtdcfljfgcnbjlaaRowsT
namespace Go.Proofs.Ytdcfljfgcnbjlaa
open Go.RowKit
set_option linter.unusedSimpArgs false
set_option linter.unusedVariables false

def bitsOf (a : Nat) : Nat → List Int
  | 0 => []
  | k + 1 => bitsOf a k ++ [bitN a k]
theorem bitsOf_succ (a k : Nat) : bitsOf a (k + 1) = bitsOf a k ++ [bitN a k] := rfl
theorem bits8 (a : Nat) : bitsOf a 8 = [bitN a 0, bitN a 1, bitN a 2, bitN a 3, bitN a 4, bitN a 5, bitN a 6, bitN a 7] := rfl
theorem bits_sum (a : Nat) (h : a ≤ 255) : (a : Int) = bitN a 0 + 2 * bitN a 1 + 4 * bitN a 2 + 8 * bitN a 3 + 16 * bitN a 4 + 32 * bitN a 5 + 64 * bitN a 6 + 128 * bitN a 7 := by
  unfold bitN; simp; omega
theorem At.take {w : World} {g o : Nat} {xs ys : List Int} (h : At w g o (xs ++ ys)) : At w g o xs := fun j hj => by
  have := h j (by simp; omega)
  rwa [List.getD_eq_getElem?_getD, List.getElem?_append_left hj, ← List.getD_eq_getElem?_getD] at this
theorem At.drop {w : World} {g o : Nat} {xs ys : List Int} (h : At w g o (xs ++ ys)) : At w g (o + xs.length) ys := fun j hj => by
  have := h (xs.length + j) (by simp; omega)
  rw [List.getD_eq_getElem?_getD, List.getElem?_append_right (by omega), Nat.add_sub_cancel_left, ← List.getD_eq_getElem?_getD] at this
  rw [Nat.add_assoc]; exact this
theorem At.drew {w : World} {g o : Nat} {xs : List Int} (h : At w g o xs) : At w.drew g o xs := h
theorem Row.drew {w : World} {B n : Nat} {v : Value} {xs : List Int} (h : Row w B v n xs) : Row w.drew B v n xs := h

/-- All that lay in wo reads in W as it did. -/
def Keeps (wo W : World) : Prop := Below wo.heap.size wo W
theorem Keeps.cells {wo W : World} (h : Keeps wo W) (b o : Nat) (hb : b < wo.heap.size) : W.cell? ⟨b, o, none⟩ = wo.cell? ⟨b, o, none⟩ := Below.cell (p := ⟨b, o, none⟩) h hb
theorem Keeps.at_ {wo W : World} {g o : Nat} {xs : List Int} (hk : Keeps wo W) (h : At wo g o xs) (hg : g < wo.heap.size) : At W g o xs := h.keep hk hg

theorem own_le {w : World} {B n : Nat} {v : Value} {xs : List Int} (h : Row w B v n xs) : ∀ j, v.ownBlock = some j → B ≤ j := fun j hj => (World.ownsRow.lt h j hj).1

set_option maxRecDepth 100000 in
set_option maxHeartbeats 2000000 in
theorem rturn2 (kind : Int) (a : Nat) (f : Int) (hj : kind % 8 = 2) (ha : a ≤ 255) (hf : 0 ≤ f) (hf' : f ≤ 255) (w : World) :
    Calls Try.prog 30 #[.int .i64 kind, .int .u8 (a : Int), .int .u8 f] w (Ret (two ((a : Int) * 2 % 256 + sel (cB f) 1) (fl (decide ((a : Int) * 2 % 256 + sel (cB f) 1 = 0)) false false (decide ((a : Int) / 128 = 1)))) w) := by
  obtain ⟨i0, hi0, hz0, hz1, hz2⟩ := info_parts int_info
  obtain ⟨t1, t2, t3⟩ := tmod8 kind
  rw [hj] at t3
  have HT := hid_ t3
  clear hj t3
  go_enter Try.func30, Try.ntmps30
  go_wp2_with fail
  rw [HT.out]
  go_loopw [8, 9] (fun l i wr => ∃ k : Nat, k ≤ 8 ∧ i = .int .i64 k ∧ Hid (Row wr w.heap.size l k (bitsOf a k)) ∧ Below w.heap.size w wr) (fun _ i _ => 8 - (intOf i).toNat)
  case atStart => exact ⟨0, by omega, rfl, World.ownsRow_nil _ _ _ _, Below.refl _ _⟩
  case round =>
    obtain ⟨k, hk, rfl, HR, hbel⟩ := hrel
    have hw := hbel.size
    by_cases hlt : k < 8
    · go_wp2_with fail
      refine (bit_any a k ha (by omega) _).mono ?_
      rintro e w1 ⟨rfl, rfl⟩
      go_wp2_with (first
        | (at_builtin
           refine wpList_app rfl (.tmp 21) (.tmp 25) rfl w.heap.size u8 k (bitsOf a k) rfl (HR.out.alloc _) wr.heap.size 0 1 1 [bitN a k] rfl rfl (At.new _ _) (by omega) (by omega) (by simp; omega) ?_
           intro g' cap w1 h1 h2 h3))
      exact ⟨⟨k + 1, by omega, by go_num, by show Row _ _ _ _ _; rw [bitsOf_succ]; exact h1, (hbel.alloc hw _).grown h2 (by simp; omega) (fun j hj => own_le HR.out j hj)⟩, by simp [intOf]; omega⟩
    · obtain rfl : k = 8 := by omega
      obtain ⟨g, cap, rfl, hgB, hg, hcap⟩ := HR.out.cap (by omega)
      have hat := HR.out.at_
      rw [bits8] at hat
      have hb0 := bitN_01 a 0
      have hb1 := bitN_01 a 1
      have hb2 := bitN_01 a 2
      have hb3 := bitN_01 a 3
      have hb4 := bitN_01 a 4
      have hb5 := bitN_01 a 5
      have hb6 := bitN_01 a 6
      have hb7 := bitN_01 a 7
      have hsum := bits_sum a ha
      generalize bitN a 0 = b0 at *
      generalize bitN a 1 = b1 at *
      generalize bitN a 2 = b2 at *
      generalize bitN a 3 = b3 at *
      generalize bitN a 4 = b4 at *
      generalize bitN a 5 = b5 at *
      generalize bitN a 6 = b6 at *
      generalize bitN a 7 = b7 at *
      have HB : Hid ((b0 = 0 ∨ b0 = 1) ∧ (b1 = 0 ∨ b1 = 1) ∧ (b2 = 0 ∨ b2 = 1) ∧ (b3 = 0 ∨ b3 = 1) ∧ (b4 = 0 ∨ b4 = 1) ∧ (b5 = 0 ∨ b5 = 1) ∧ (b6 = 0 ∨ b6 = 1) ∧ (b7 = 0 ∨ b7 = 1)) := ⟨hb0, hb1, hb2, hb3, hb4, hb5, hb6, hb7⟩
      have HS := hid_ hsum
      have HAT := hid_ hat
      obtain ⟨cq, hcq, cq0, cq1⟩ := sel_ex (cB f)
      have HQ := hid_ hcq
      have p0 : (0 : Int) ≤ b0 := by omega
      clear hb0 hb1 hb2 hb3 hb4 hb5 hb6 hb7 hsum hat hcq p0
      have k0 := HAT.out 0 (by simp)
      have k7 := HAT.out 7 (by simp)
      simp at k0 k7
      have hcap1 : ¬ cap = 1 := by omega
      have hcap4 : ¬ cap = 4 := by omega
      have hcp : (7 : Int) ≤ (cap : Int) := by omega
      have hcp8 : (8 : Int) ≤ (cap : Int) := by omega
      have hcp4 : (4 : Int) ≤ (cap : Int) := by omega
      have hcp1 : (1 : Int) ≤ (cap : Int) := by omega
      go_wp2_with fail
      refine (rc_any f hf hf' _).mono ?_
      rintro e wp ⟨rfl, rfl⟩
      go_wp2_with fail
      refine (rone_any _ _).mono ?_
      rintro e wp ⟨rfl, rfl⟩
      rw [HQ.out]
      have hL7 : At wr g 0 [b0, b1, b2, b3, b4, b5, b6] := At.take (ys := [b7]) HAT.out
      go_wp2_with (first
        | (at_builtin
           refine wpList_app rfl (.tmp 63) (.tmp 65) rfl w.heap.size _ 1 [cq] rfl (Row.new wr w.heap.size hw _) g 0 7 cap [b0, b1, b2, b3, b4, b5, b6] rfl rfl (hL7.alloc hg _) (by omega) (by omega) (by simp; omega) ?_
           intro g1 cap1 w2 h1 h2 h3))
      have hbel2 : Below w.heap.size w w2 := (hbel.alloc hw _).grown h2 (by simp; omega) (fun j hj => own_le (Row.new wr w.heap.size hw cq) j hj)
      have hbits : Bits [cq, b0, b1, b2, b3, b4, b5, b6] := by
        obtain ⟨h0, h1, h2, h3, h4, h5, h6, h7⟩ := HB.out
        intro z hz
        simp at hz
        omega
      have hcell : ∀ k, k < 8 → w2.cell? ⟨g1, k, none⟩ = some (.int .i64 (([cq, b0, b1, b2, b3, b4, b5, b6] : List Int).getD k 0)) := fun k hk => by
        have := h1.at_ k (by simpa using hk)
        rwa [Nat.zero_add] at this
      have ev : val [cq, b0, b1, b2, b3, b4, b5, b6] = (a : Int) * 2 % 256 + sel (cB f) 1 := by
        obtain ⟨h0, h1, h2, h3, h4, h5, h6, h7⟩ := HB.out
        have hs := HS.out
        have hq := HQ.out
        simp only [val]
        first | omega | (rw [hq]; omega)
      have ec : (b7 == 1) = decide ((a : Int) / 128 = 1) := by
        obtain ⟨h0, h1, h2, h3, h4, h5, h6, h7⟩ := HB.out
        have hs := HS.out
        rw [Bool.eq_iff_iff]
        simp
        try omega
      have EV := hid_ ev
      have EC := hid_ ec
      have HBO := hid_ (byteOf_any g1 cap1 [cq, b0, b1, b2, b3, b4, b5, b6] rfl hbits w2 hcell)
      clear ev ec hbits hcell
      refine HBO.out.mono ?_
      rintro e wp ⟨rfl, rfl⟩
      rw [EV.out]
      go_wp2_with fail
      refine (flags_any _ _ _ _ _).mono ?_
      rintro e wp ⟨rfl, rfl⟩
      go_wp2_with fail
      go_ret2
      exact .of (ret_two rfl (by first | (rw [← EC.out]; rfl) | (rw [← EC.out]; congr 1; rw [Bool.eq_iff_iff]; simp))) hbel2

set_option maxRecDepth 100000 in
set_option maxHeartbeats 2000000 in
theorem rturn4 (kind : Int) (a : Nat) (f : Int) (hj : kind % 8 = 4) (ha : a ≤ 255) (hf : 0 ≤ f) (hf' : f ≤ 255) (w : World) :
    Calls Try.prog 30 #[.int .i64 kind, .int .u8 (a : Int), .int .u8 f] w (Ret (two ((a : Int) * 2 % 256) (fl (decide ((a : Int) * 2 % 256 = 0)) false false (decide ((a : Int) / 128 = 1)))) w) := by
  obtain ⟨i0, hi0, hz0, hz1, hz2⟩ := info_parts int_info
  obtain ⟨t1, t2, t3⟩ := tmod8 kind
  rw [hj] at t3
  have HT := hid_ t3
  clear hj t3
  go_enter Try.func30, Try.ntmps30
  go_wp2_with fail
  rw [HT.out]
  go_loopw [8, 9] (fun l i wr => ∃ k : Nat, k ≤ 8 ∧ i = .int .i64 k ∧ Hid (Row wr w.heap.size l k (bitsOf a k)) ∧ Below w.heap.size w wr) (fun _ i _ => 8 - (intOf i).toNat)
  case atStart => exact ⟨0, by omega, rfl, World.ownsRow_nil _ _ _ _, Below.refl _ _⟩
  case round =>
    obtain ⟨k, hk, rfl, HR, hbel⟩ := hrel
    have hw := hbel.size
    by_cases hlt : k < 8
    · go_wp2_with fail
      refine (bit_any a k ha (by omega) _).mono ?_
      rintro e w1 ⟨rfl, rfl⟩
      go_wp2_with (first
        | (at_builtin
           refine wpList_app rfl (.tmp 21) (.tmp 25) rfl w.heap.size u8 k (bitsOf a k) rfl (HR.out.alloc _) wr.heap.size 0 1 1 [bitN a k] rfl rfl (At.new _ _) (by omega) (by omega) (by simp; omega) ?_
           intro g' cap w1 h1 h2 h3))
      exact ⟨⟨k + 1, by omega, by go_num, by show Row _ _ _ _ _; rw [bitsOf_succ]; exact h1, (hbel.alloc hw _).grown h2 (by simp; omega) (fun j hj => own_le HR.out j hj)⟩, by simp [intOf]; omega⟩
    · obtain rfl : k = 8 := by omega
      obtain ⟨g, cap, rfl, hgB, hg, hcap⟩ := HR.out.cap (by omega)
      have hat := HR.out.at_
      rw [bits8] at hat
      have hb0 := bitN_01 a 0
      have hb1 := bitN_01 a 1
      have hb2 := bitN_01 a 2
      have hb3 := bitN_01 a 3
      have hb4 := bitN_01 a 4
      have hb5 := bitN_01 a 5
      have hb6 := bitN_01 a 6
      have hb7 := bitN_01 a 7
      have hsum := bits_sum a ha
      generalize bitN a 0 = b0 at *
      generalize bitN a 1 = b1 at *
      generalize bitN a 2 = b2 at *
      generalize bitN a 3 = b3 at *
      generalize bitN a 4 = b4 at *
      generalize bitN a 5 = b5 at *
      generalize bitN a 6 = b6 at *
      generalize bitN a 7 = b7 at *
      have HB : Hid ((b0 = 0 ∨ b0 = 1) ∧ (b1 = 0 ∨ b1 = 1) ∧ (b2 = 0 ∨ b2 = 1) ∧ (b3 = 0 ∨ b3 = 1) ∧ (b4 = 0 ∨ b4 = 1) ∧ (b5 = 0 ∨ b5 = 1) ∧ (b6 = 0 ∨ b6 = 1) ∧ (b7 = 0 ∨ b7 = 1)) := ⟨hb0, hb1, hb2, hb3, hb4, hb5, hb6, hb7⟩
      have HS := hid_ hsum
      have HAT := hid_ hat
      obtain ⟨cq, hcq, cq0, cq1⟩ := sel_ex (cB f)
      have HQ := hid_ hcq
      have p0 : (0 : Int) ≤ b0 := by omega
      clear hb0 hb1 hb2 hb3 hb4 hb5 hb6 hb7 hsum hat hcq p0
      have k0 := HAT.out 0 (by simp)
      have k7 := HAT.out 7 (by simp)
      simp at k0 k7
      have hcap1 : ¬ cap = 1 := by omega
      have hcap4 : ¬ cap = 4 := by omega
      have hcp : (7 : Int) ≤ (cap : Int) := by omega
      have hcp8 : (8 : Int) ≤ (cap : Int) := by omega
      have hcp4 : (4 : Int) ≤ (cap : Int) := by omega
      have hcp1 : (1 : Int) ≤ (cap : Int) := by omega
      go_wp2_with fail
      refine (rc_any f hf hf' _).mono ?_
      rintro e wp ⟨rfl, rfl⟩
      go_wp2_with fail
      refine (rone_any _ _).mono ?_
      rintro e wp ⟨rfl, rfl⟩
      rw [HQ.out]
      have hL7 : At wr g 0 [b0, b1, b2, b3, b4, b5, b6] := At.take (ys := [b7]) HAT.out
      go_wp2_with (first
        | (at_builtin
           refine wpList_app rfl (.tmp 84) (.tmp 86) rfl w.heap.size _ 1 [0] rfl (Row.new wr w.heap.size hw _) g 0 7 cap [b0, b1, b2, b3, b4, b5, b6] rfl rfl (hL7.alloc hg _) (by omega) (by omega) (by simp; omega) ?_
           intro g1 cap1 w2 h1 h2 h3))
      have hbel2 : Below w.heap.size w w2 := (hbel.alloc hw _).grown h2 (by simp; omega) (fun j hj => own_le (Row.new wr w.heap.size hw 0) j hj)
      have hbits : Bits [0, b0, b1, b2, b3, b4, b5, b6] := by
        obtain ⟨h0, h1, h2, h3, h4, h5, h6, h7⟩ := HB.out
        intro z hz
        simp at hz
        omega
      have hcell : ∀ k, k < 8 → w2.cell? ⟨g1, k, none⟩ = some (.int .i64 (([0, b0, b1, b2, b3, b4, b5, b6] : List Int).getD k 0)) := fun k hk => by
        have := h1.at_ k (by simpa using hk)
        rwa [Nat.zero_add] at this
      have ev : val [0, b0, b1, b2, b3, b4, b5, b6] = (a : Int) * 2 % 256 := by
        obtain ⟨h0, h1, h2, h3, h4, h5, h6, h7⟩ := HB.out
        have hs := HS.out
        have hq := HQ.out
        simp only [val]
        first | omega | (rw [hq]; omega)
      have ec : (b7 == 1) = decide ((a : Int) / 128 = 1) := by
        obtain ⟨h0, h1, h2, h3, h4, h5, h6, h7⟩ := HB.out
        have hs := HS.out
        rw [Bool.eq_iff_iff]
        simp
        try omega
      have EV := hid_ ev
      have EC := hid_ ec
      have HBO := hid_ (byteOf_any g1 cap1 [0, b0, b1, b2, b3, b4, b5, b6] rfl hbits w2 hcell)
      clear ev ec hbits hcell
      refine HBO.out.mono ?_
      rintro e wp ⟨rfl, rfl⟩
      rw [EV.out]
      go_wp2_with fail
      refine (flags_any _ _ _ _ _).mono ?_
      rintro e wp ⟨rfl, rfl⟩
      go_wp2_with fail
      go_ret2
      exact .of (ret_two rfl (by first | (rw [← EC.out]; rfl) | (rw [← EC.out]; congr 1; rw [Bool.eq_iff_iff]; simp))) hbel2

set_option maxRecDepth 100000 in
set_option maxHeartbeats 2000000 in
theorem rturn3 (kind : Int) (a : Nat) (f : Int) (hj : kind % 8 = 3) (ha : a ≤ 255) (hf : 0 ≤ f) (hf' : f ≤ 255) (w : World) :
    Calls Try.prog 30 #[.int .i64 kind, .int .u8 (a : Int), .int .u8 f] w (Ret (two ((a : Int) / 2 + sel (cB f) 1 * 128) (fl (decide ((a : Int) / 2 + sel (cB f) 1 * 128 = 0)) false false (decide ((a : Int) % 2 = 1)))) w) := by
  obtain ⟨i0, hi0, hz0, hz1, hz2⟩ := info_parts int_info
  obtain ⟨t1, t2, t3⟩ := tmod8 kind
  rw [hj] at t3
  have HT := hid_ t3
  clear hj t3
  go_enter Try.func30, Try.ntmps30
  go_wp2_with fail
  rw [HT.out]
  go_loopw [8, 9] (fun l i wr => ∃ k : Nat, k ≤ 8 ∧ i = .int .i64 k ∧ Hid (Row wr w.heap.size l k (bitsOf a k)) ∧ Below w.heap.size w wr) (fun _ i _ => 8 - (intOf i).toNat)
  case atStart => exact ⟨0, by omega, rfl, World.ownsRow_nil _ _ _ _, Below.refl _ _⟩
  case round =>
    obtain ⟨k, hk, rfl, HR, hbel⟩ := hrel
    have hw := hbel.size
    by_cases hlt : k < 8
    · go_wp2_with fail
      refine (bit_any a k ha (by omega) _).mono ?_
      rintro e w1 ⟨rfl, rfl⟩
      go_wp2_with (first
        | (at_builtin
           refine wpList_app rfl (.tmp 21) (.tmp 25) rfl w.heap.size u8 k (bitsOf a k) rfl (HR.out.alloc _) wr.heap.size 0 1 1 [bitN a k] rfl rfl (At.new _ _) (by omega) (by omega) (by simp; omega) ?_
           intro g' cap w1 h1 h2 h3))
      exact ⟨⟨k + 1, by omega, by go_num, by show Row _ _ _ _ _; rw [bitsOf_succ]; exact h1, (hbel.alloc hw _).grown h2 (by simp; omega) (fun j hj => own_le HR.out j hj)⟩, by simp [intOf]; omega⟩
    · obtain rfl : k = 8 := by omega
      obtain ⟨g, cap, rfl, hgB, hg, hcap⟩ := HR.out.cap (by omega)
      have hat := HR.out.at_
      rw [bits8] at hat
      have hb0 := bitN_01 a 0
      have hb1 := bitN_01 a 1
      have hb2 := bitN_01 a 2
      have hb3 := bitN_01 a 3
      have hb4 := bitN_01 a 4
      have hb5 := bitN_01 a 5
      have hb6 := bitN_01 a 6
      have hb7 := bitN_01 a 7
      have hsum := bits_sum a ha
      generalize bitN a 0 = b0 at *
      generalize bitN a 1 = b1 at *
      generalize bitN a 2 = b2 at *
      generalize bitN a 3 = b3 at *
      generalize bitN a 4 = b4 at *
      generalize bitN a 5 = b5 at *
      generalize bitN a 6 = b6 at *
      generalize bitN a 7 = b7 at *
      have HB : Hid ((b0 = 0 ∨ b0 = 1) ∧ (b1 = 0 ∨ b1 = 1) ∧ (b2 = 0 ∨ b2 = 1) ∧ (b3 = 0 ∨ b3 = 1) ∧ (b4 = 0 ∨ b4 = 1) ∧ (b5 = 0 ∨ b5 = 1) ∧ (b6 = 0 ∨ b6 = 1) ∧ (b7 = 0 ∨ b7 = 1)) := ⟨hb0, hb1, hb2, hb3, hb4, hb5, hb6, hb7⟩
      have HS := hid_ hsum
      have HAT := hid_ hat
      obtain ⟨cq, hcq, cq0, cq1⟩ := sel_ex (cB f)
      have HQ := hid_ hcq
      have p0 : (0 : Int) ≤ b0 := by omega
      clear hb0 hb1 hb2 hb3 hb4 hb5 hb6 hb7 hsum hat hcq p0
      have k0 := HAT.out 0 (by simp)
      have k7 := HAT.out 7 (by simp)
      simp at k0 k7
      have hcap1 : ¬ cap = 1 := by omega
      have hcap4 : ¬ cap = 4 := by omega
      have hcp : (7 : Int) ≤ (cap : Int) := by omega
      have hcp8 : (8 : Int) ≤ (cap : Int) := by omega
      have hcp4 : (4 : Int) ≤ (cap : Int) := by omega
      have hcp1 : (1 : Int) ≤ (cap : Int) := by omega
      go_wp2_with fail
      refine (rc_any f hf hf' _).mono ?_
      rintro e wp ⟨rfl, rfl⟩
      go_wp2_with fail
      refine (rone_any _ _).mono ?_
      rintro e wp ⟨rfl, rfl⟩
      rw [HQ.out]
      have hR7 : At wr g 1 [b1, b2, b3, b4, b5, b6, b7] := At.drop (xs := [b0]) HAT.out
      go_wp2_with (first
        | (at_builtin
           refine wpList_app rfl (.tmp 72) (.tmp 74) rfl w.heap.size _ 0 [] rfl (Row.new0 wr w.heap.size hw) g 1 7 _ [b1, b2, b3, b4, b5, b6, b7] rfl rfl (hR7.alloc hg _) (by omega) (by omega) (by simp; omega) ?_
           intro g1 cap1 w2 h1 h2 h3
           have hbel2 : Below w.heap.size w w2 := (hbel.alloc hw _).grown h2 (by simp; omega) (fun j hj => own_le (Row.new0 wr w.heap.size hw) j hj))
        | (at_builtin
           refine wpList_app rfl (.tmp 75) (.tmp 77) rfl w.heap.size _ 7 _ rfl (h1.alloc _) w2.heap.size 0 1 1 [cq] rfl rfl (At.new _ _) (by omega) (by omega) (by have := hbel2.size; simp; omega) ?_
           intro g2 cap2 w3 h4 h5 h6))
      have hbel3 : Below w.heap.size w w3 := (hbel2.alloc hbel2.size _).grown h5 (by have := hbel2.size; simp; omega) (fun j hj => own_le h1 j hj)
      have hbits : Bits [b1, b2, b3, b4, b5, b6, b7, cq] := by
        obtain ⟨h0, h1, h2, h3, h4, h5, h6, h7⟩ := HB.out
        intro z hz
        simp at hz
        omega
      have hcell : ∀ k, k < 8 → w3.cell? ⟨g2, k, none⟩ = some (.int .i64 (([b1, b2, b3, b4, b5, b6, b7, cq] : List Int).getD k 0)) := fun k hk => by
        have := h4.at_ k (by simpa using hk)
        rwa [Nat.zero_add] at this
      have ev : val [b1, b2, b3, b4, b5, b6, b7, cq] = (a : Int) / 2 + sel (cB f) 1 * 128 := by
        obtain ⟨h0, h1, h2, h3, h4, h5, h6, h7⟩ := HB.out
        have hs := HS.out
        have hq := HQ.out
        simp only [val]
        first | omega | (rw [hq]; omega)
      have ec : (b0 == 1) = decide ((a : Int) % 2 = 1) := by
        obtain ⟨h0, h1, h2, h3, h4, h5, h6, h7⟩ := HB.out
        have hs := HS.out
        rw [Bool.eq_iff_iff]
        simp
        try omega
      have EV := hid_ ev
      have EC := hid_ ec
      have HBO := hid_ (byteOf_any g2 cap2 [b1, b2, b3, b4, b5, b6, b7, cq] rfl hbits w3 hcell)
      clear ev ec hbits hcell
      refine HBO.out.mono ?_
      rintro e wp ⟨rfl, rfl⟩
      rw [EV.out]
      go_wp2_with fail
      refine (flags_any _ _ _ _ _).mono ?_
      rintro e wp ⟨rfl, rfl⟩
      go_wp2_with fail
      go_ret2
      exact .of (ret_two rfl (by first | (rw [← EC.out]; rfl) | (rw [← EC.out]; congr 1; rw [Bool.eq_iff_iff]; simp))) hbel3

set_option maxRecDepth 100000 in
set_option maxHeartbeats 2000000 in
theorem rturn7 (kind : Int) (a : Nat) (f : Int) (hj : kind % 8 = 7) (ha : a ≤ 255) (hf : 0 ≤ f) (hf' : f ≤ 255) (w : World) :
    Calls Try.prog 30 #[.int .i64 kind, .int .u8 (a : Int), .int .u8 f] w (Ret (two ((a : Int) / 2) (fl (decide ((a : Int) / 2 = 0)) false false (decide ((a : Int) % 2 = 1)))) w) := by
  obtain ⟨i0, hi0, hz0, hz1, hz2⟩ := info_parts int_info
  obtain ⟨t1, t2, t3⟩ := tmod8 kind
  rw [hj] at t3
  have HT := hid_ t3
  clear hj t3
  go_enter Try.func30, Try.ntmps30
  go_wp2_with fail
  rw [HT.out]
  go_loopw [8, 9] (fun l i wr => ∃ k : Nat, k ≤ 8 ∧ i = .int .i64 k ∧ Hid (Row wr w.heap.size l k (bitsOf a k)) ∧ Below w.heap.size w wr) (fun _ i _ => 8 - (intOf i).toNat)
  case atStart => exact ⟨0, by omega, rfl, World.ownsRow_nil _ _ _ _, Below.refl _ _⟩
  case round =>
    obtain ⟨k, hk, rfl, HR, hbel⟩ := hrel
    have hw := hbel.size
    by_cases hlt : k < 8
    · go_wp2_with fail
      refine (bit_any a k ha (by omega) _).mono ?_
      rintro e w1 ⟨rfl, rfl⟩
      go_wp2_with (first
        | (at_builtin
           refine wpList_app rfl (.tmp 21) (.tmp 25) rfl w.heap.size u8 k (bitsOf a k) rfl (HR.out.alloc _) wr.heap.size 0 1 1 [bitN a k] rfl rfl (At.new _ _) (by omega) (by omega) (by simp; omega) ?_
           intro g' cap w1 h1 h2 h3))
      exact ⟨⟨k + 1, by omega, by go_num, by show Row _ _ _ _ _; rw [bitsOf_succ]; exact h1, (hbel.alloc hw _).grown h2 (by simp; omega) (fun j hj => own_le HR.out j hj)⟩, by simp [intOf]; omega⟩
    · obtain rfl : k = 8 := by omega
      obtain ⟨g, cap, rfl, hgB, hg, hcap⟩ := HR.out.cap (by omega)
      have hat := HR.out.at_
      rw [bits8] at hat
      have hb0 := bitN_01 a 0
      have hb1 := bitN_01 a 1
      have hb2 := bitN_01 a 2
      have hb3 := bitN_01 a 3
      have hb4 := bitN_01 a 4
      have hb5 := bitN_01 a 5
      have hb6 := bitN_01 a 6
      have hb7 := bitN_01 a 7
      have hsum := bits_sum a ha
      generalize bitN a 0 = b0 at *
      generalize bitN a 1 = b1 at *
      generalize bitN a 2 = b2 at *
      generalize bitN a 3 = b3 at *
      generalize bitN a 4 = b4 at *
      generalize bitN a 5 = b5 at *
      generalize bitN a 6 = b6 at *
      generalize bitN a 7 = b7 at *
      have HB : Hid ((b0 = 0 ∨ b0 = 1) ∧ (b1 = 0 ∨ b1 = 1) ∧ (b2 = 0 ∨ b2 = 1) ∧ (b3 = 0 ∨ b3 = 1) ∧ (b4 = 0 ∨ b4 = 1) ∧ (b5 = 0 ∨ b5 = 1) ∧ (b6 = 0 ∨ b6 = 1) ∧ (b7 = 0 ∨ b7 = 1)) := ⟨hb0, hb1, hb2, hb3, hb4, hb5, hb6, hb7⟩
      have HS := hid_ hsum
      have HAT := hid_ hat
      obtain ⟨cq, hcq, cq0, cq1⟩ := sel_ex (cB f)
      have HQ := hid_ hcq
      have p0 : (0 : Int) ≤ b0 := by omega
      clear hb0 hb1 hb2 hb3 hb4 hb5 hb6 hb7 hsum hat hcq p0
      have k0 := HAT.out 0 (by simp)
      have k7 := HAT.out 7 (by simp)
      simp at k0 k7
      have hcap1 : ¬ cap = 1 := by omega
      have hcap4 : ¬ cap = 4 := by omega
      have hcp : (7 : Int) ≤ (cap : Int) := by omega
      have hcp8 : (8 : Int) ≤ (cap : Int) := by omega
      have hcp4 : (4 : Int) ≤ (cap : Int) := by omega
      have hcp1 : (1 : Int) ≤ (cap : Int) := by omega
      go_wp2_with fail
      refine (rc_any f hf hf' _).mono ?_
      rintro e wp ⟨rfl, rfl⟩
      go_wp2_with fail
      refine (rone_any _ _).mono ?_
      rintro e wp ⟨rfl, rfl⟩
      rw [HQ.out]
      have hR7 : At wr g 1 [b1, b2, b3, b4, b5, b6, b7] := At.drop (xs := [b0]) HAT.out
      go_wp2_with (first
        | (at_builtin
           refine wpList_app rfl (.tmp 116) (.tmp 118) rfl w.heap.size _ 0 [] rfl (Row.new0 wr w.heap.size hw) g 1 7 _ [b1, b2, b3, b4, b5, b6, b7] rfl rfl (hR7.alloc hg _) (by omega) (by omega) (by simp; omega) ?_
           intro g1 cap1 w2 h1 h2 h3
           have hbel2 : Below w.heap.size w w2 := (hbel.alloc hw _).grown h2 (by simp; omega) (fun j hj => own_le (Row.new0 wr w.heap.size hw) j hj))
        | (at_builtin
           refine wpList_app rfl (.tmp 119) (.tmp 120) rfl w.heap.size _ 7 _ rfl (h1.alloc _) w2.heap.size 0 1 1 [0] rfl rfl (At.new _ _) (by omega) (by omega) (by have := hbel2.size; simp; omega) ?_
           intro g2 cap2 w3 h4 h5 h6))
      have hbel3 : Below w.heap.size w w3 := (hbel2.alloc hbel2.size _).grown h5 (by have := hbel2.size; simp; omega) (fun j hj => own_le h1 j hj)
      have hbits : Bits [b1, b2, b3, b4, b5, b6, b7, 0] := by
        obtain ⟨h0, h1, h2, h3, h4, h5, h6, h7⟩ := HB.out
        intro z hz
        simp at hz
        omega
      have hcell : ∀ k, k < 8 → w3.cell? ⟨g2, k, none⟩ = some (.int .i64 (([b1, b2, b3, b4, b5, b6, b7, 0] : List Int).getD k 0)) := fun k hk => by
        have := h4.at_ k (by simpa using hk)
        rwa [Nat.zero_add] at this
      have ev : val [b1, b2, b3, b4, b5, b6, b7, 0] = (a : Int) / 2 := by
        obtain ⟨h0, h1, h2, h3, h4, h5, h6, h7⟩ := HB.out
        have hs := HS.out
        have hq := HQ.out
        simp only [val]
        first | omega | (rw [hq]; omega)
      have ec : (b0 == 1) = decide ((a : Int) % 2 = 1) := by
        obtain ⟨h0, h1, h2, h3, h4, h5, h6, h7⟩ := HB.out
        have hs := HS.out
        rw [Bool.eq_iff_iff]
        simp
        try omega
      have EV := hid_ ev
      have EC := hid_ ec
      have HBO := hid_ (byteOf_any g2 cap2 [b1, b2, b3, b4, b5, b6, b7, 0] rfl hbits w3 hcell)
      clear ev ec hbits hcell
      refine HBO.out.mono ?_
      rintro e wp ⟨rfl, rfl⟩
      rw [EV.out]
      go_wp2_with fail
      refine (flags_any _ _ _ _ _).mono ?_
      rintro e wp ⟨rfl, rfl⟩
      go_wp2_with fail
      go_ret2
      exact .of (ret_two rfl (by first | (rw [← EC.out]; rfl) | (rw [← EC.out]; congr 1; rw [Bool.eq_iff_iff]; simp))) hbel3

set_option maxRecDepth 100000 in
set_option maxHeartbeats 2000000 in
theorem rturn0 (kind : Int) (a : Nat) (f : Int) (hj : kind % 8 = 0) (ha : a ≤ 255) (hf : 0 ≤ f) (hf' : f ≤ 255) (w : World) :
    Calls Try.prog 30 #[.int .i64 kind, .int .u8 (a : Int), .int .u8 f] w (Ret (two ((a : Int) * 2 % 256 + (a : Int) / 128) (fl (decide ((a : Int) * 2 % 256 + (a : Int) / 128 = 0)) false false (decide ((a : Int) / 128 = 1)))) w) := by
  obtain ⟨i0, hi0, hz0, hz1, hz2⟩ := info_parts int_info
  obtain ⟨t1, t2, t3⟩ := tmod8 kind
  rw [hj] at t3
  have HT := hid_ t3
  clear hj t3
  go_enter Try.func30, Try.ntmps30
  go_wp2_with fail
  rw [HT.out]
  go_loopw [8, 9] (fun l i wr => ∃ k : Nat, k ≤ 8 ∧ i = .int .i64 k ∧ Hid (Row wr w.heap.size l k (bitsOf a k)) ∧ Below w.heap.size w wr) (fun _ i _ => 8 - (intOf i).toNat)
  case atStart => exact ⟨0, by omega, rfl, World.ownsRow_nil _ _ _ _, Below.refl _ _⟩
  case round =>
    obtain ⟨k, hk, rfl, HR, hbel⟩ := hrel
    have hw := hbel.size
    by_cases hlt : k < 8
    · go_wp2_with fail
      refine (bit_any a k ha (by omega) _).mono ?_
      rintro e w1 ⟨rfl, rfl⟩
      go_wp2_with (first
        | (at_builtin
           refine wpList_app rfl (.tmp 21) (.tmp 25) rfl w.heap.size u8 k (bitsOf a k) rfl (HR.out.alloc _) wr.heap.size 0 1 1 [bitN a k] rfl rfl (At.new _ _) (by omega) (by omega) (by simp; omega) ?_
           intro g' cap w1 h1 h2 h3))
      exact ⟨⟨k + 1, by omega, by go_num, by show Row _ _ _ _ _; rw [bitsOf_succ]; exact h1, (hbel.alloc hw _).grown h2 (by simp; omega) (fun j hj => own_le HR.out j hj)⟩, by simp [intOf]; omega⟩
    · obtain rfl : k = 8 := by omega
      obtain ⟨g, cap, rfl, hgB, hg, hcap⟩ := HR.out.cap (by omega)
      have hat := HR.out.at_
      rw [bits8] at hat
      have hb0 := bitN_01 a 0
      have hb1 := bitN_01 a 1
      have hb2 := bitN_01 a 2
      have hb3 := bitN_01 a 3
      have hb4 := bitN_01 a 4
      have hb5 := bitN_01 a 5
      have hb6 := bitN_01 a 6
      have hb7 := bitN_01 a 7
      have hsum := bits_sum a ha
      generalize bitN a 0 = b0 at *
      generalize bitN a 1 = b1 at *
      generalize bitN a 2 = b2 at *
      generalize bitN a 3 = b3 at *
      generalize bitN a 4 = b4 at *
      generalize bitN a 5 = b5 at *
      generalize bitN a 6 = b6 at *
      generalize bitN a 7 = b7 at *
      have HB : Hid ((b0 = 0 ∨ b0 = 1) ∧ (b1 = 0 ∨ b1 = 1) ∧ (b2 = 0 ∨ b2 = 1) ∧ (b3 = 0 ∨ b3 = 1) ∧ (b4 = 0 ∨ b4 = 1) ∧ (b5 = 0 ∨ b5 = 1) ∧ (b6 = 0 ∨ b6 = 1) ∧ (b7 = 0 ∨ b7 = 1)) := ⟨hb0, hb1, hb2, hb3, hb4, hb5, hb6, hb7⟩
      have HS := hid_ hsum
      have HAT := hid_ hat
      obtain ⟨cq, hcq, cq0, cq1⟩ := sel_ex (cB f)
      have HQ := hid_ hcq
      have p0 : (0 : Int) ≤ b0 := by omega
      clear hb0 hb1 hb2 hb3 hb4 hb5 hb6 hb7 hsum hat hcq p0
      have k0 := HAT.out 0 (by simp)
      have k7 := HAT.out 7 (by simp)
      simp at k0 k7
      have hcap1 : ¬ cap = 1 := by omega
      have hcap4 : ¬ cap = 4 := by omega
      have hcp : (7 : Int) ≤ (cap : Int) := by omega
      have hcp8 : (8 : Int) ≤ (cap : Int) := by omega
      have hcp4 : (4 : Int) ≤ (cap : Int) := by omega
      have hcp1 : (1 : Int) ≤ (cap : Int) := by omega
      go_wp2_with fail
      refine (rc_any f hf hf' _).mono ?_
      rintro e wp ⟨rfl, rfl⟩
      go_wp2_with fail
      refine (rone_any _ _).mono ?_
      rintro e wp ⟨rfl, rfl⟩
      rw [HQ.out]
      have hk0 : Keeps wr wr.drew := Below.drew (Below.refl _ _)
      have hw0 : w.heap.size ≤ wr.drew.heap.size := hw
      go_wp2_with fail
      refine wp_region_tail (S := (fun W => (∀ b o, b < wr.heap.size → W.cell? ⟨b, o, none⟩ = wr.cell? ⟨b, o, none⟩) ∧ Keeps wr W)) (tail := (fun _ => false)) (by kernel_rfl) ?hS1 (fun hHeld => ?rest1)
      case hS1 => (exact ⟨fun _ _ h => Keeps.cells (Below.drew (Below.refl _ _)) _ _ h, (Below.drew (Below.refl _ _))⟩)
      refine wpAnyT_take (i := 0) (v := ?v2) rfl (by kernel_rfl) (by kernel_rfl) (by kernel_rfl) (by kernel_rfl) (by kernel_rfl) (fun _ _ _ h => h) (Or.inl ⟨by rfl, ?hy2⟩) (by assumption) ?rest2
      case hy2 => (intro w hSw; (try simp only [List.getElem_toArray, List.getElem_cons_succ, List.getElem_cons_zero]); (try dsimp only at hSw); go_simp; all_goals (with_reducible rfl))
      (try simp only [Act.put, List.getElem_toArray, List.getElem_cons_succ, List.getElem_cons_zero, List.setIfInBounds_toArray, List.set_cons_zero, List.set_cons_succ])
      refine wpAnyT_take (i := 1) (v := ?v3) rfl (by kernel_rfl) (by kernel_rfl) (by kernel_rfl) (by kernel_rfl) (by kernel_rfl) (fun _ _ _ h => h) (Or.inl ⟨by rfl, ?hy3⟩) (by assumption) ?rest3
      case hy3 => (intro w hSw; (try simp only [List.getElem_toArray, List.getElem_cons_succ, List.getElem_cons_zero]); (try dsimp only at hSw); go_simp; all_goals (with_reducible rfl))
      (try simp only [Act.put, List.getElem_toArray, List.getElem_cons_succ, List.getElem_cons_zero, List.setIfInBounds_toArray, List.set_cons_zero, List.set_cons_succ])
      refine wpAnyT_take (i := 2) (v := ?v4) rfl (by kernel_rfl) (by kernel_rfl) (by kernel_rfl) (by kernel_rfl) (by kernel_rfl) (fun _ _ _ h => h) (Or.inl ⟨by rfl, ?hy4⟩) (by assumption) ?rest4
      case hy4 => (intro w hSw; (try simp only [List.getElem_toArray, List.getElem_cons_succ, List.getElem_cons_zero]); (try dsimp only at hSw); go_simp; all_goals (with_reducible rfl))
      (try simp only [Act.put, List.getElem_toArray, List.getElem_cons_succ, List.getElem_cons_zero, List.setIfInBounds_toArray, List.set_cons_zero, List.set_cons_succ])
      refine wpAnyT_take (i := 4) (v := ?v5) rfl (by kernel_rfl) (by kernel_rfl) (by kernel_rfl) (by kernel_rfl) (by kernel_rfl) (fun _ _ _ h => h) (Or.inl ⟨by rfl, ?hy5⟩) (by assumption) ?rest5
      case hy5 => (intro w hSw; (try simp only [List.getElem_toArray, List.getElem_cons_succ, List.getElem_cons_zero]); (try dsimp only at hSw); go_simp; all_goals (with_reducible rfl))
      (try simp only [Act.put, List.getElem_toArray, List.getElem_cons_succ, List.getElem_cons_zero, List.setIfInBounds_toArray, List.set_cons_zero, List.set_cons_succ])
      refine wpAnyT_take (i := 5) (v := ?v6) rfl (by kernel_rfl) (by kernel_rfl) (by kernel_rfl) (by kernel_rfl) (by kernel_rfl) (fun _ _ _ h => h) (Or.inl ⟨by rfl, ?hy6⟩) (by assumption) ?rest6
      case hy6 => (intro w hSw; (try simp only [List.getElem_toArray, List.getElem_cons_succ, List.getElem_cons_zero]); (try dsimp only at hSw); go_simp; all_goals (with_reducible rfl))
      (try simp only [Act.put, List.getElem_toArray, List.getElem_cons_succ, List.getElem_cons_zero, List.setIfInBounds_toArray, List.set_cons_zero, List.set_cons_succ])
      have hk1 : Keeps wr (wr.drew.alloc (.cells #[.int .i64 b7] 3)) := Below.alloc hk0 (Nat.le_refl _) _
      refine wpAnyT_one (i := 3) rfl (by kernel_rfl) (fun K hK => ?_)
      (try simp only [List.getElem_toArray, List.getElem_cons_succ, List.getElem_cons_zero])
      go_simp
      refine hK.out _ _ ?hS7 ?rest7
      case hS7 => exact ⟨fun _ _ h => Keeps.cells hk1 _ _ h, hk1⟩
      clear hK K
      (try simp only [Act.put, List.getElem_toArray, List.getElem_cons_succ, List.getElem_cons_zero, List.setIfInBounds_toArray, List.set_cons_zero, List.set_cons_succ])
      have hL7 : At (wr.drew.alloc (.cells #[.int .i64 b7] 3)) g 0 [b0, b1, b2, b3, b4, b5, b6] := Keeps.at_ hk1 (At.take (ys := [b7]) HAT.out) hg
      refine wpAnyT_one (i := 6) rfl (by kernel_rfl) (fun K hK => ?_)
      refine step_app (by rfl) (.tmp 39) (.tmp 41) (by rfl) wr.heap.size _ 1 [b7] (by rfl) (Row.new wr.drew wr.heap.size (Nat.le_refl _) b7) g 0 7 cap [b0, b1, b2, b3, b4, b5, b6] (by rfl) rfl hL7 (by omega) (by omega) (by simp) ?_
      intro g1 cap1 w2 h1 h2 h3
      have hk2 : Keeps wr w2 := Below.grown hk1 h2 (by simp) (fun j hj => by simp [Value.ownBlock] at hj; omega)
      refine hK.out _ _ ?hS8 ?rest8
      case hS8 => exact ⟨fun _ _ h => Keeps.cells hk2 _ _ h, hk2⟩
      clear hK K
      (try simp only [Act.put, List.getElem_toArray, List.getElem_cons_succ, List.getElem_cons_zero, List.setIfInBounds_toArray, List.set_cons_zero, List.set_cons_succ])
      refine wpAnyT_one (i := 7) rfl (by kernel_rfl) (fun K hK => ?_)
      (try simp only [List.getElem_toArray, List.getElem_cons_succ, List.getElem_cons_zero])
      go_simp
      refine hK.out _ _ ?hS9 ?rest9
      case hS9 => exact ⟨fun _ _ h => Keeps.cells hk2 _ _ h, hk2⟩
      clear hK K
      (try simp only [Act.put, List.getElem_toArray, List.getElem_cons_succ, List.getElem_cons_zero, List.setIfInBounds_toArray, List.set_cons_zero, List.set_cons_succ])
      refine wpAnyT_done (by kernel_rfl) ?_ _
      go_wp2_with fail
      have hbel2 : Below w.heap.size w w2 := hbel.trans (Below.mono hk2 hw)
      have hbits : Bits [b7, b0, b1, b2, b3, b4, b5, b6] := by
        obtain ⟨h0, h1, h2, h3, h4, h5, h6, h7⟩ := HB.out
        intro z hz
        simp at hz
        omega
      have hcell : ∀ k, k < 8 → w2.cell? ⟨g1, k, none⟩ = some (.int .i64 (([b7, b0, b1, b2, b3, b4, b5, b6] : List Int).getD k 0)) := fun k hk => by
        have := h1.at_ k (by simpa using hk)
        rwa [Nat.zero_add] at this
      have ev : val [b7, b0, b1, b2, b3, b4, b5, b6] = (a : Int) * 2 % 256 + (a : Int) / 128 := by
        obtain ⟨h0, h1, h2, h3, h4, h5, h6, h7⟩ := HB.out
        have hs := HS.out
        have hq := HQ.out
        simp only [val]
        first | omega | (rw [hq]; omega)
      have ec : (b7 == 1) = decide ((a : Int) / 128 = 1) := by
        obtain ⟨h0, h1, h2, h3, h4, h5, h6, h7⟩ := HB.out
        have hs := HS.out
        rw [Bool.eq_iff_iff]
        simp
        try omega
      have EV := hid_ ev
      have EC := hid_ ec
      have HBO := hid_ (byteOf_any g1 cap1 [b7, b0, b1, b2, b3, b4, b5, b6] rfl hbits w2 hcell)
      clear ev ec hbits hcell
      refine HBO.out.mono ?_
      rintro e wp ⟨rfl, rfl⟩
      rw [EV.out]
      go_wp2_with fail
      refine (flags_any _ _ _ _ _).mono ?_
      rintro e wp ⟨rfl, rfl⟩
      go_wp2_with fail
      go_ret2
      exact .of (ret_two rfl (by first | (rw [← EC.out]; rfl) | (rw [← EC.out]; congr 1; rw [Bool.eq_iff_iff]; simp))) hbel2

set_option maxRecDepth 100000 in
set_option maxHeartbeats 2000000 in
theorem rturn6 (kind : Int) (a : Nat) (f : Int) (hj : kind % 8 = 6) (ha : a ≤ 255) (hf : 0 ≤ f) (hf' : f ≤ 255) (w : World) :
    Calls Try.prog 30 #[.int .i64 kind, .int .u8 (a : Int), .int .u8 f] w (Ret (two ((a : Int) * 16 % 256 + (a : Int) / 16) (fl (decide ((a : Int) * 16 % 256 + (a : Int) / 16 = 0)) false false (decide ((0 : Int) = 1)))) w) := by
  obtain ⟨i0, hi0, hz0, hz1, hz2⟩ := info_parts int_info
  obtain ⟨t1, t2, t3⟩ := tmod8 kind
  rw [hj] at t3
  have HT := hid_ t3
  clear hj t3
  go_enter Try.func30, Try.ntmps30
  go_wp2_with fail
  rw [HT.out]
  go_loopw [8, 9] (fun l i wr => ∃ k : Nat, k ≤ 8 ∧ i = .int .i64 k ∧ Hid (Row wr w.heap.size l k (bitsOf a k)) ∧ Below w.heap.size w wr) (fun _ i _ => 8 - (intOf i).toNat)
  case atStart => exact ⟨0, by omega, rfl, World.ownsRow_nil _ _ _ _, Below.refl _ _⟩
  case round =>
    obtain ⟨k, hk, rfl, HR, hbel⟩ := hrel
    have hw := hbel.size
    by_cases hlt : k < 8
    · go_wp2_with fail
      refine (bit_any a k ha (by omega) _).mono ?_
      rintro e w1 ⟨rfl, rfl⟩
      go_wp2_with (first
        | (at_builtin
           refine wpList_app rfl (.tmp 21) (.tmp 25) rfl w.heap.size u8 k (bitsOf a k) rfl (HR.out.alloc _) wr.heap.size 0 1 1 [bitN a k] rfl rfl (At.new _ _) (by omega) (by omega) (by simp; omega) ?_
           intro g' cap w1 h1 h2 h3))
      exact ⟨⟨k + 1, by omega, by go_num, by show Row _ _ _ _ _; rw [bitsOf_succ]; exact h1, (hbel.alloc hw _).grown h2 (by simp; omega) (fun j hj => own_le HR.out j hj)⟩, by simp [intOf]; omega⟩
    · obtain rfl : k = 8 := by omega
      obtain ⟨g, cap, rfl, hgB, hg, hcap⟩ := HR.out.cap (by omega)
      have hat := HR.out.at_
      rw [bits8] at hat
      have hb0 := bitN_01 a 0
      have hb1 := bitN_01 a 1
      have hb2 := bitN_01 a 2
      have hb3 := bitN_01 a 3
      have hb4 := bitN_01 a 4
      have hb5 := bitN_01 a 5
      have hb6 := bitN_01 a 6
      have hb7 := bitN_01 a 7
      have hsum := bits_sum a ha
      generalize bitN a 0 = b0 at *
      generalize bitN a 1 = b1 at *
      generalize bitN a 2 = b2 at *
      generalize bitN a 3 = b3 at *
      generalize bitN a 4 = b4 at *
      generalize bitN a 5 = b5 at *
      generalize bitN a 6 = b6 at *
      generalize bitN a 7 = b7 at *
      have HB : Hid ((b0 = 0 ∨ b0 = 1) ∧ (b1 = 0 ∨ b1 = 1) ∧ (b2 = 0 ∨ b2 = 1) ∧ (b3 = 0 ∨ b3 = 1) ∧ (b4 = 0 ∨ b4 = 1) ∧ (b5 = 0 ∨ b5 = 1) ∧ (b6 = 0 ∨ b6 = 1) ∧ (b7 = 0 ∨ b7 = 1)) := ⟨hb0, hb1, hb2, hb3, hb4, hb5, hb6, hb7⟩
      have HS := hid_ hsum
      have HAT := hid_ hat
      obtain ⟨cq, hcq, cq0, cq1⟩ := sel_ex (cB f)
      have HQ := hid_ hcq
      have p0 : (0 : Int) ≤ b0 := by omega
      clear hb0 hb1 hb2 hb3 hb4 hb5 hb6 hb7 hsum hat hcq p0
      have k0 := HAT.out 0 (by simp)
      have k7 := HAT.out 7 (by simp)
      simp at k0 k7
      have hcap1 : ¬ cap = 1 := by omega
      have hcap4 : ¬ cap = 4 := by omega
      have hcp : (7 : Int) ≤ (cap : Int) := by omega
      have hcp8 : (8 : Int) ≤ (cap : Int) := by omega
      have hcp4 : (4 : Int) ≤ (cap : Int) := by omega
      have hcp1 : (1 : Int) ≤ (cap : Int) := by omega
      go_wp2_with fail
      refine (rc_any f hf hf' _).mono ?_
      rintro e wp ⟨rfl, rfl⟩
      go_wp2_with fail
      refine (rone_any _ _).mono ?_
      rintro e wp ⟨rfl, rfl⟩
      rw [HQ.out]
      have hk0 : Keeps wr wr.drew := Below.drew (Below.refl _ _)
      have hw0 : w.heap.size ≤ wr.drew.heap.size := hw
      go_wp2_with fail
      refine wp_region_tail (S := (fun W => (∀ b o, b < wr.heap.size → W.cell? ⟨b, o, none⟩ = wr.cell? ⟨b, o, none⟩) ∧ Keeps wr W)) (tail := (fun _ => false)) (by kernel_rfl) ?hS10 (fun hHeld => ?rest10)
      case hS10 => (exact ⟨fun _ _ h => Keeps.cells (Below.drew (Below.refl _ _)) _ _ h, (Below.drew (Below.refl _ _))⟩)
      refine wpAnyT_take (i := 1) (v := ?v11) rfl (by kernel_rfl) (by kernel_rfl) (by kernel_rfl) (by kernel_rfl) (by kernel_rfl) (fun _ _ _ h => h) (Or.inl ⟨by rfl, ?hy11⟩) (by assumption) ?rest11
      case hy11 => (intro w hSw; (try simp only [List.getElem_toArray, List.getElem_cons_succ, List.getElem_cons_zero]); (try dsimp only at hSw); go_simp; all_goals (with_reducible rfl))
      (try simp only [Act.put, List.getElem_toArray, List.getElem_cons_succ, List.getElem_cons_zero, List.setIfInBounds_toArray, List.set_cons_zero, List.set_cons_succ])
      refine wpAnyT_take (i := 2) (v := ?v12) rfl (by kernel_rfl) (by kernel_rfl) (by kernel_rfl) (by kernel_rfl) (by kernel_rfl) (fun _ _ _ h => h) (Or.inl ⟨by rfl, ?hy12⟩) (by assumption) ?rest12
      case hy12 => (intro w hSw; (try simp only [List.getElem_toArray, List.getElem_cons_succ, List.getElem_cons_zero]); (try dsimp only at hSw); go_simp; all_goals (with_reducible rfl))
      (try simp only [Act.put, List.getElem_toArray, List.getElem_cons_succ, List.getElem_cons_zero, List.setIfInBounds_toArray, List.set_cons_zero, List.set_cons_succ])
      refine wpAnyT_take (i := 4) (v := ?v13) rfl (by kernel_rfl) (by kernel_rfl) (by kernel_rfl) (by kernel_rfl) (by kernel_rfl) (fun _ _ _ h => h) (Or.inl ⟨by rfl, ?hy13⟩) (by assumption) ?rest13
      case hy13 => (intro w hSw; (try simp only [List.getElem_toArray, List.getElem_cons_succ, List.getElem_cons_zero]); (try dsimp only at hSw); go_simp; all_goals (with_reducible rfl))
      (try simp only [Act.put, List.getElem_toArray, List.getElem_cons_succ, List.getElem_cons_zero, List.setIfInBounds_toArray, List.set_cons_zero, List.set_cons_succ])
      refine wpAnyT_take (i := 5) (v := ?v14) rfl (by kernel_rfl) (by kernel_rfl) (by kernel_rfl) (by kernel_rfl) (by kernel_rfl) (fun _ _ _ h => h) (Or.inl ⟨by rfl, ?hy14⟩) (by assumption) ?rest14
      case hy14 => (intro w hSw; (try simp only [List.getElem_toArray, List.getElem_cons_succ, List.getElem_cons_zero]); (try dsimp only at hSw); go_simp; all_goals (with_reducible rfl))
      (try simp only [Act.put, List.getElem_toArray, List.getElem_cons_succ, List.getElem_cons_zero, List.setIfInBounds_toArray, List.set_cons_zero, List.set_cons_succ])
      have hk1 : Keeps wr (wr.drew.alloc (.cells #[] 3)) := Below.alloc hk0 (Nat.le_refl _) _
      refine wpAnyT_one (i := 0) rfl (by kernel_rfl) (fun K hK => ?_)
      (try simp only [List.getElem_toArray, List.getElem_cons_succ, List.getElem_cons_zero])
      go_simp
      refine hK.out _ _ ?hS15 ?rest15
      case hS15 => exact ⟨fun _ _ h => Keeps.cells hk1 _ _ h, hk1⟩
      clear hK K
      (try simp only [Act.put, List.getElem_toArray, List.getElem_cons_succ, List.getElem_cons_zero, List.setIfInBounds_toArray, List.set_cons_zero, List.set_cons_succ])
      have hR4 : At (wr.drew.alloc (.cells #[] 3)) g 4 [b4, b5, b6, b7] := Keeps.at_ hk1 (At.drop (xs := [b0, b1, b2, b3]) HAT.out) hg
      refine wpAnyT_one (i := 3) rfl (by kernel_rfl) (fun K hK => ?_)
      refine step_app (by rfl) (.tmp 104) (.tmp 106) (by rfl) wr.heap.size _ 0 [] (by rfl) (Row.new0 wr.drew wr.heap.size (Nat.le_refl _)) g 4 4 _ [b4, b5, b6, b7] (by rfl) rfl hR4 (by omega) (by omega) (by simp) ?_
      intro g1 cap1 w2 h1 h2 h3
      have hk2 : Keeps wr w2 := Below.grown hk1 h2 (by simp) (fun j hj => by simp [Value.ownBlock] at hj; omega)
      refine hK.out _ _ ?hS16 ?rest16
      case hS16 => exact ⟨fun _ _ h => Keeps.cells hk2 _ _ h, hk2⟩
      clear hK K
      (try simp only [Act.put, List.getElem_toArray, List.getElem_cons_succ, List.getElem_cons_zero, List.setIfInBounds_toArray, List.set_cons_zero, List.set_cons_succ])
      have hL4 : At w2 g 0 [b0, b1, b2, b3] := Keeps.at_ hk2 (At.take (ys := [b4, b5, b6, b7]) HAT.out) hg
      have hg1 := own_le h1
      refine wpAnyT_one (i := 6) rfl (by kernel_rfl) (fun K hK => ?_)
      refine step_app (by rfl) (.tmp 107) (.tmp 109) (by rfl) wr.heap.size _ 4 _ (by rfl) h1 g 0 4 cap [b0, b1, b2, b3] (by rfl) rfl hL4 (by omega) (by omega) (by have := Below.size hk2; omega) ?_
      intro g2 cap2 w3 h4 h5 h6
      have hk3 : Keeps wr w3 := Below.grown hk2 h5 (Below.size hk2) (fun j hj => own_le h1 j hj)
      refine hK.out _ _ ?hS17 ?rest17
      case hS17 => exact ⟨fun _ _ h => Keeps.cells hk3 _ _ h, hk3⟩
      clear hK K
      (try simp only [Act.put, List.getElem_toArray, List.getElem_cons_succ, List.getElem_cons_zero, List.setIfInBounds_toArray, List.set_cons_zero, List.set_cons_succ])
      refine wpAnyT_one (i := 7) rfl (by kernel_rfl) (fun K hK => ?_)
      (try simp only [List.getElem_toArray, List.getElem_cons_succ, List.getElem_cons_zero])
      go_simp
      refine hK.out _ _ ?hS18 ?rest18
      case hS18 => exact ⟨fun _ _ h => Keeps.cells hk3 _ _ h, hk3⟩
      clear hK K
      (try simp only [Act.put, List.getElem_toArray, List.getElem_cons_succ, List.getElem_cons_zero, List.setIfInBounds_toArray, List.set_cons_zero, List.set_cons_succ])
      refine wpAnyT_done (by kernel_rfl) ?_ _
      go_wp2_with fail
      have hbel3 : Below w.heap.size w w3 := hbel.trans (Below.mono hk3 hw)
      have hbits : Bits [b4, b5, b6, b7, b0, b1, b2, b3] := by
        obtain ⟨h0, h1, h2, h3, h4, h5, h6, h7⟩ := HB.out
        intro z hz
        simp at hz
        omega
      have hcell : ∀ k, k < 8 → w3.cell? ⟨g2, k, none⟩ = some (.int .i64 (([b4, b5, b6, b7, b0, b1, b2, b3] : List Int).getD k 0)) := fun k hk => by
        have := h4.at_ k (by simpa using hk)
        rwa [Nat.zero_add] at this
      have ev : val [b4, b5, b6, b7, b0, b1, b2, b3] = (a : Int) * 16 % 256 + (a : Int) / 16 := by
        obtain ⟨h0, h1, h2, h3, h4, h5, h6, h7⟩ := HB.out
        have hs := HS.out
        have hq := HQ.out
        simp only [val]
        first | omega | (rw [hq]; omega)
      have ec : (0 == 1) = decide ((0 : Int) = 1) := by
        obtain ⟨h0, h1, h2, h3, h4, h5, h6, h7⟩ := HB.out
        have hs := HS.out
        rw [Bool.eq_iff_iff]
        simp
        try omega
      have EV := hid_ ev
      have EC := hid_ ec
      have HBO := hid_ (byteOf_any g2 cap2 [b4, b5, b6, b7, b0, b1, b2, b3] rfl hbits w3 hcell)
      clear ev ec hbits hcell
      refine HBO.out.mono ?_
      rintro e wp ⟨rfl, rfl⟩
      rw [EV.out]
      go_wp2_with fail
      refine (flags_any _ _ _ _ _).mono ?_
      rintro e wp ⟨rfl, rfl⟩
      go_wp2_with fail
      go_ret2
      exact .of (ret_two rfl (by first | (rw [← EC.out]; rfl) | (rw [← EC.out]; congr 1; rw [Bool.eq_iff_iff]; simp))) hbel3

end Go.Proofs.Ytdcfljfgcnbjlaa
