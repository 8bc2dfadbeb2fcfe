/- The reference's turns of a byte, of layer 1: the kinds to the right. -/
import Derived.Test.YtdcfljfgcnbjlaaRefT
namespace Go.Proofs.Ytdcfljfgcnbjlaa
open Go.RowKit
set_option linter.unusedSimpArgs false
set_option linter.unusedVariables false

set_option maxRecDepth 100000 in
set_option maxHeartbeats 2000000 in
theorem rturn5 (kind : Int) (a : Nat) (f : Int) (hj : kind % 8 = 5) (ha : a ≤ 255) (hf : 0 ≤ f) (hf' : f ≤ 255) (w : World) :
    Calls Try.prog 30 #[.int .i64 kind, .int .u8 (a : Int), .int .u8 f] w (Ret (two ((a : Int) / 2 + (a : Int) / 128 * 128) (fl (decide ((a : Int) / 2 + (a : Int) / 128 * 128 = 0)) false false (decide ((a : Int) % 2 = 1)))) w) := by
  obtain ⟨i0, hi0, hz0, hz1, hz2⟩ := info_parts int_info
  obtain ⟨t1, t2, t3⟩ := tmod8 kind
  rw [hj] at t3
  have HT := hid_ t3
  clear hj t3
  go_enter Try.func30, Try.ntmps30
  go_wp2_with fail
  rw [HT.out]
  go_loopw [8, 9] (fun l i wr => ∃ k : Nat, k ≤ 8 ∧ i = .int .i64 k ∧ Hid (Row wr w.heap.size l k (bitsOf a k)) ∧ Below w.heap.size w wr) (fun _ i _ => 8 - (intOf i).toNat)
  case atStart => exact ⟨0, by omega, rfl, World.ownsRow_nil _ _ _ _, Below.refl _ _⟩
  case round =>
    obtain ⟨k, hk, rfl, HR, hbel⟩ := hrel
    have hw := hbel.size
    by_cases hlt : k < 8
    · go_wp2_with fail
      refine (bit_any a k ha (by omega) _).mono ?_
      rintro e w1 ⟨rfl, rfl⟩
      go_wp2_with (first
        | (at_builtin
           refine wpList_app rfl (.tmp 21) (.tmp 25) rfl w.heap.size u8 k (bitsOf a k) rfl (HR.out.alloc _) wr.heap.size 0 1 1 [bitN a k] rfl rfl (At.new _ _) (by omega) (by omega) (by simp; omega) ?_
           intro g' cap w1 h1 h2 h3))
      exact ⟨⟨k + 1, by omega, by go_num, by show Row _ _ _ _ _; rw [bitsOf_succ]; exact h1, (hbel.alloc hw _).grown h2 (by simp; omega) (fun j hj => own_le HR.out j hj)⟩, by simp [intOf]; omega⟩
    · obtain rfl : k = 8 := by omega
      obtain ⟨g, cap, rfl, hgB, hg, hcap⟩ := HR.out.cap (by omega)
      have hat := HR.out.at_
      rw [bits8] at hat
      have hb0 := bitN_01 a 0
      have hb1 := bitN_01 a 1
      have hb2 := bitN_01 a 2
      have hb3 := bitN_01 a 3
      have hb4 := bitN_01 a 4
      have hb5 := bitN_01 a 5
      have hb6 := bitN_01 a 6
      have hb7 := bitN_01 a 7
      have hsum := bits_sum a ha
      generalize bitN a 0 = b0 at *
      generalize bitN a 1 = b1 at *
      generalize bitN a 2 = b2 at *
      generalize bitN a 3 = b3 at *
      generalize bitN a 4 = b4 at *
      generalize bitN a 5 = b5 at *
      generalize bitN a 6 = b6 at *
      generalize bitN a 7 = b7 at *
      have HB : Hid ((b0 = 0 ∨ b0 = 1) ∧ (b1 = 0 ∨ b1 = 1) ∧ (b2 = 0 ∨ b2 = 1) ∧ (b3 = 0 ∨ b3 = 1) ∧ (b4 = 0 ∨ b4 = 1) ∧ (b5 = 0 ∨ b5 = 1) ∧ (b6 = 0 ∨ b6 = 1) ∧ (b7 = 0 ∨ b7 = 1)) := ⟨hb0, hb1, hb2, hb3, hb4, hb5, hb6, hb7⟩
      have HS := hid_ hsum
      have HAT := hid_ hat
      obtain ⟨cq, hcq, cq0, cq1⟩ := sel_ex (cB f)
      have HQ := hid_ hcq
      have p0 : (0 : Int) ≤ b0 := by omega
      clear hb0 hb1 hb2 hb3 hb4 hb5 hb6 hb7 hsum hat hcq p0
      have k0 := HAT.out 0 (by simp)
      have k7 := HAT.out 7 (by simp)
      simp at k0 k7
      have hcap1 : ¬ cap = 1 := by omega
      have hcap4 : ¬ cap = 4 := by omega
      have hcp : (7 : Int) ≤ (cap : Int) := by omega
      have hcp8 : (8 : Int) ≤ (cap : Int) := by omega
      have hcp4 : (4 : Int) ≤ (cap : Int) := by omega
      have hcp1 : (1 : Int) ≤ (cap : Int) := by omega
      go_wp2_with fail
      refine (rc_any f hf hf' _).mono ?_
      rintro e wp ⟨rfl, rfl⟩
      go_wp2_with fail
      refine (rone_any _ _).mono ?_
      rintro e wp ⟨rfl, rfl⟩
      rw [HQ.out]
      have hk0 : Keeps wr wr.drew := Below.drew (Below.refl _ _)
      have hw0 : w.heap.size ≤ wr.drew.heap.size := hw
      go_wp2_with fail
      refine wp_region_tail (S := (fun W => (∀ b o, b < wr.heap.size → W.cell? ⟨b, o, none⟩ = wr.cell? ⟨b, o, none⟩) ∧ Keeps wr W)) (tail := (fun _ => false)) (by kernel_rfl) ?hS1 (fun hHeld => ?rest1)
      case hS1 => (exact ⟨fun _ _ h => Keeps.cells (Below.drew (Below.refl _ _)) _ _ h, (Below.drew (Below.refl _ _))⟩)
      refine wpAnyT_take (i := 1) (v := ?v2) rfl (by kernel_rfl) (by kernel_rfl) (by kernel_rfl) (by kernel_rfl) (by kernel_rfl) (fun _ _ _ h => h) (Or.inl ⟨by rfl, ?hy2⟩) (by assumption) ?rest2
      case hy2 => (intro w hSw; (try simp only [List.getElem_toArray, List.getElem_cons_succ, List.getElem_cons_zero]); (try dsimp only at hSw); go_simp; all_goals (with_reducible rfl))
      (try simp only [Act.put, List.getElem_toArray, List.getElem_cons_succ, List.getElem_cons_zero, List.setIfInBounds_toArray, List.set_cons_zero, List.set_cons_succ])
      refine wpAnyT_take (i := 2) (v := ?v3) rfl (by kernel_rfl) (by kernel_rfl) (by kernel_rfl) (by kernel_rfl) (by kernel_rfl) (fun _ _ _ h => h) (Or.inl ⟨by rfl, ?hy3⟩) (by assumption) ?rest3
      case hy3 => (intro w hSw; (try simp only [List.getElem_toArray, List.getElem_cons_succ, List.getElem_cons_zero]); (try dsimp only at hSw); go_simp; all_goals (with_reducible rfl))
      (try simp only [Act.put, List.getElem_toArray, List.getElem_cons_succ, List.getElem_cons_zero, List.setIfInBounds_toArray, List.set_cons_zero, List.set_cons_succ])
      refine wpAnyT_take (i := 4) (v := ?v4) rfl (by kernel_rfl) (by kernel_rfl) (by kernel_rfl) (by kernel_rfl) (by kernel_rfl) (fun _ _ _ h => h) (Or.inl ⟨by rfl, ?hy4⟩) (by assumption) ?rest4
      case hy4 => (intro w hSw; (try simp only [List.getElem_toArray, List.getElem_cons_succ, List.getElem_cons_zero]); (try dsimp only at hSw); go_simp; all_goals (with_reducible rfl))
      (try simp only [Act.put, List.getElem_toArray, List.getElem_cons_succ, List.getElem_cons_zero, List.setIfInBounds_toArray, List.set_cons_zero, List.set_cons_succ])
      refine wpAnyT_take (i := 5) (v := ?v5) rfl (by kernel_rfl) (by kernel_rfl) (by kernel_rfl) (by kernel_rfl) (by kernel_rfl) (fun _ _ _ h => h) (Or.inl ⟨by rfl, ?hy5⟩) (by assumption) ?rest5
      case hy5 => (intro w hSw; (try simp only [List.getElem_toArray, List.getElem_cons_succ, List.getElem_cons_zero]); (try dsimp only at hSw); go_simp; all_goals (with_reducible rfl))
      (try simp only [Act.put, List.getElem_toArray, List.getElem_cons_succ, List.getElem_cons_zero, List.setIfInBounds_toArray, List.set_cons_zero, List.set_cons_succ])
      refine wpAnyT_take (i := 6) (v := ?v6) rfl (by kernel_rfl) (by kernel_rfl) (by kernel_rfl) (by kernel_rfl) (by kernel_rfl) (fun _ _ _ h => h) (Or.inl ⟨by rfl, ?hy6⟩) (by assumption) ?rest6
      case hy6 => (intro w hSw; (try simp only [List.getElem_toArray, List.getElem_cons_succ, List.getElem_cons_zero]); (try dsimp only at hSw); go_simp; all_goals (with_reducible rfl))
      (try simp only [Act.put, List.getElem_toArray, List.getElem_cons_succ, List.getElem_cons_zero, List.setIfInBounds_toArray, List.set_cons_zero, List.set_cons_succ])
      have hk1 : Keeps wr (wr.drew.alloc (.cells #[] 3)) := Below.alloc hk0 (Nat.le_refl _) _
      have hkx : Keeps wr (wr.drew.alloc (.cells #[.int .i64 b7] 3)) := Below.alloc hk0 (Nat.le_refl _) _
      have hk2 : Keeps wr ((wr.drew.alloc (.cells #[] 3)).alloc (.cells #[.int .i64 b7] 3)) := Below.alloc hk1 (by simp) _
      have hkb : Keeps wr ((wr.drew.alloc (.cells #[.int .i64 b7] 3)).alloc (.cells #[] 3)) := Below.alloc hkx (by simp) _
      have hR7 : At wr g 1 [b1, b2, b3, b4, b5, b6, b7] := At.drop (xs := [b0]) HAT.out
      refine wpAnyT_pair (i := 0) (j := 7) rfl rfl (by kernel_rfl) (fun K hK => ?_) (fun K hK => ?_)
      · go_simp
        refine hK.out _ _ ?hS20 ?rest20
        case hS20 => exact ⟨fun _ _ h => Keeps.cells hk1 _ _ h, hk1⟩
        clear hK K
        (try simp only [Act.put, List.getElem_toArray, List.getElem_cons_succ, List.getElem_cons_zero, List.setIfInBounds_toArray, List.set_cons_zero, List.set_cons_succ])
        refine wpAnyT_pair (i := 3) (j := 7) rfl rfl (by kernel_rfl) (fun K hK => ?_) (fun K hK => ?_)
        · refine step_app (by rfl) (.tmp 93) (.tmp 95) (by rfl) wr.heap.size _ 0 [] (by rfl) (Row.new0 wr.drew wr.heap.size (Nat.le_refl _)) g 1 7 _ [b1, b2, b3, b4, b5, b6, b7] (by rfl) rfl (Keeps.at_ hk1 hR7 hg) (by omega) (by omega) (by first | (simp; done) | (simp; omega)) ?_
          intro g1 cap1 w2 h1 h2 h3
          have hk3 : Keeps wr w2 := Below.grown hk1 h2 (by simp) (fun j hj => by simp [Value.ownBlock] at hj; omega)
          refine hK.out _ _ ?hS7 ?rest7
          case hS7 => exact ⟨fun _ _ h => Keeps.cells hk3 _ _ h, hk3⟩
          clear hK K
          (try simp only [Act.put, List.getElem_toArray, List.getElem_cons_succ, List.getElem_cons_zero, List.setIfInBounds_toArray, List.set_cons_zero, List.set_cons_succ])
          have hk4 : Keeps wr (w2.alloc (.cells #[.int .i64 b7] 3)) := Below.alloc hk3 (Below.size hk3) _
          refine wpAnyT_one (i := 7) rfl (by kernel_rfl) (fun K hK => ?_)
          (try simp only [List.getElem_toArray, List.getElem_cons_succ, List.getElem_cons_zero])
          go_simp
          refine hK.out _ _ ?hS8 ?rest8
          case hS8 => exact ⟨fun _ _ h => Keeps.cells hk4 _ _ h, hk4⟩
          clear hK K
          (try simp only [Act.put, List.getElem_toArray, List.getElem_cons_succ, List.getElem_cons_zero, List.setIfInBounds_toArray, List.set_cons_zero, List.set_cons_succ])
          have hg1 := own_le h1
          refine wpAnyT_one (i := 8) rfl (by kernel_rfl) (fun K hK => ?_)
          refine step_app (by rfl) (.tmp 96) (.tmp 100) (by rfl) wr.heap.size _ 7 _ (by rfl) (h1.alloc _) w2.heap.size 0 1 1 [b7] (by rfl) rfl (At.new w2 _) (by omega) (by omega) (by have := Below.size hk3; first | omega | (simp; omega)) ?_
          intro g2 cap2 w3 h4 h5 h6
          have hk5 : Keeps wr w3 := Below.grown hk4 h5 (Below.size hk4) (fun j hj => own_le h1 j hj)
          refine hK.out _ _ ?hS9 ?rest9
          case hS9 => exact ⟨fun _ _ h => Keeps.cells hk5 _ _ h, hk5⟩
          clear hK K
          (try simp only [Act.put, List.getElem_toArray, List.getElem_cons_succ, List.getElem_cons_zero, List.setIfInBounds_toArray, List.set_cons_zero, List.set_cons_succ])
          refine wpAnyT_one (i := 9) rfl (by kernel_rfl) (fun K hK => ?_)
          (try simp only [List.getElem_toArray, List.getElem_cons_succ, List.getElem_cons_zero])
          go_simp
          refine hK.out _ _ ?hS10 ?rest10
          case hS10 => exact ⟨fun _ _ h => Keeps.cells hk5 _ _ h, hk5⟩
          clear hK K
          (try simp only [Act.put, List.getElem_toArray, List.getElem_cons_succ, List.getElem_cons_zero, List.setIfInBounds_toArray, List.set_cons_zero, List.set_cons_succ])
          refine wpAnyT_done (by kernel_rfl) ?_ _
          go_wp2_with fail
          have hbel3 : Below w.heap.size w w3 := hbel.trans (Below.mono hk5 hw)
          have hbits : Bits [b1, b2, b3, b4, b5, b6, b7, b7] := by
            obtain ⟨h0, h1, h2, h3, h4, h5, h6, h7⟩ := HB.out
            intro z hz
            simp at hz
            omega
          have hcell : ∀ k, k < 8 → w3.cell? ⟨g2, k, none⟩ = some (.int .i64 (([b1, b2, b3, b4, b5, b6, b7, b7] : List Int).getD k 0)) := fun k hk => by
            have := h4.at_ k (by simpa using hk)
            rwa [Nat.zero_add] at this
          have ev : val [b1, b2, b3, b4, b5, b6, b7, b7] = (a : Int) / 2 + (a : Int) / 128 * 128 := by
            obtain ⟨h0, h1, h2, h3, h4, h5, h6, h7⟩ := HB.out
            have hs := HS.out
            have hq := HQ.out
            simp only [val]
            first | omega | (rw [hq]; omega)
          have ec : (b0 == 1) = decide ((a : Int) % 2 = 1) := by
            obtain ⟨h0, h1, h2, h3, h4, h5, h6, h7⟩ := HB.out
            have hs := HS.out
            rw [Bool.eq_iff_iff]
            simp
            try omega
          have EV := hid_ ev
          have EC := hid_ ec
          have HBO := hid_ (byteOf_any g2 cap2 [b1, b2, b3, b4, b5, b6, b7, b7] rfl hbits w3 hcell)
          clear ev ec hbits hcell
          refine HBO.out.mono ?_
          rintro e wp ⟨rfl, rfl⟩
          rw [EV.out]
          go_wp2_with fail
          refine (flags_any _ _ _ _ _).mono ?_
          rintro e wp ⟨rfl, rfl⟩
          go_wp2_with fail
          go_ret2
          exact .of (ret_two rfl (by first | (rw [← EC.out]; rfl) | (rw [← EC.out]; congr 1; rw [Bool.eq_iff_iff]; simp))) hbel3
        · go_simp
          refine hK.out _ _ ?hS11 ?rest11
          case hS11 => exact ⟨fun _ _ h => Keeps.cells hk2 _ _ h, hk2⟩
          clear hK K
          (try simp only [Act.put, List.getElem_toArray, List.getElem_cons_succ, List.getElem_cons_zero, List.setIfInBounds_toArray, List.set_cons_zero, List.set_cons_succ])
          refine wpAnyT_one (i := 3) rfl (by kernel_rfl) (fun K hK => ?_)
          refine step_app (by rfl) (.tmp 93) (.tmp 95) (by rfl) wr.heap.size _ 0 [] (by rfl) ((Row.new0 wr.drew wr.heap.size (Nat.le_refl _)).alloc _) g 1 7 _ [b1, b2, b3, b4, b5, b6, b7] (by rfl) rfl (Keeps.at_ hk2 hR7 hg) (by omega) (by omega) (by first | (simp; done) | (simp; omega)) ?_
          intro g1 cap1 w2 h1 h2 h3
          have hk3 : Keeps wr w2 := Below.grown hk2 h2 (Below.size hk2) (fun j hj => by simp [Value.ownBlock] at hj; omega)
          refine hK.out _ _ ?hS12 ?rest12
          case hS12 => exact ⟨fun _ _ h => Keeps.cells hk3 _ _ h, hk3⟩
          clear hK K
          (try simp only [Act.put, List.getElem_toArray, List.getElem_cons_succ, List.getElem_cons_zero, List.setIfInBounds_toArray, List.set_cons_zero, List.set_cons_succ])
          have hX : At w2 (wr.heap.size + 1) 0 [b7] := by
            have hx0 : At ((wr.drew.alloc (.cells #[] 3)).alloc (.cells #[.int .i64 b7] 3)) (wr.heap.size + 1) 0 [b7] := by simpa using At.new (wr.drew.alloc (.cells #[] 3)) b7
            exact hx0.grown (by simp) h2 (by simp [Value.ownBlock])
          refine wpAnyT_one (i := 8) rfl (by kernel_rfl) (fun K hK => ?_)
          refine step_app (by rfl) (.tmp 96) (.tmp 100) (by rfl) wr.heap.size _ 7 _ (by rfl) h1 (wr.heap.size + 1) 0 1 1 [b7] (by rfl) rfl hX (by omega) (by omega) (by have := Below.size hk3; omega) ?_
          intro g2 cap2 w3 h4 h5 h6
          have hk5 : Keeps wr w3 := Below.grown hk3 h5 (Below.size hk3) (fun j hj => own_le h1 j hj)
          refine hK.out _ _ ?hS13 ?rest13
          case hS13 => exact ⟨fun _ _ h => Keeps.cells hk5 _ _ h, hk5⟩
          clear hK K
          (try simp only [Act.put, List.getElem_toArray, List.getElem_cons_succ, List.getElem_cons_zero, List.setIfInBounds_toArray, List.set_cons_zero, List.set_cons_succ])
          refine wpAnyT_one (i := 9) rfl (by kernel_rfl) (fun K hK => ?_)
          (try simp only [List.getElem_toArray, List.getElem_cons_succ, List.getElem_cons_zero])
          go_simp
          refine hK.out _ _ ?hS14 ?rest14
          case hS14 => exact ⟨fun _ _ h => Keeps.cells hk5 _ _ h, hk5⟩
          clear hK K
          (try simp only [Act.put, List.getElem_toArray, List.getElem_cons_succ, List.getElem_cons_zero, List.setIfInBounds_toArray, List.set_cons_zero, List.set_cons_succ])
          refine wpAnyT_done (by kernel_rfl) ?_ _
          go_wp2_with fail
          have hbel3 : Below w.heap.size w w3 := hbel.trans (Below.mono hk5 hw)
          have hbits : Bits [b1, b2, b3, b4, b5, b6, b7, b7] := by
            obtain ⟨h0, h1, h2, h3, h4, h5, h6, h7⟩ := HB.out
            intro z hz
            simp at hz
            omega
          have hcell : ∀ k, k < 8 → w3.cell? ⟨g2, k, none⟩ = some (.int .i64 (([b1, b2, b3, b4, b5, b6, b7, b7] : List Int).getD k 0)) := fun k hk => by
            have := h4.at_ k (by simpa using hk)
            rwa [Nat.zero_add] at this
          have ev : val [b1, b2, b3, b4, b5, b6, b7, b7] = (a : Int) / 2 + (a : Int) / 128 * 128 := by
            obtain ⟨h0, h1, h2, h3, h4, h5, h6, h7⟩ := HB.out
            have hs := HS.out
            have hq := HQ.out
            simp only [val]
            first | omega | (rw [hq]; omega)
          have ec : (b0 == 1) = decide ((a : Int) % 2 = 1) := by
            obtain ⟨h0, h1, h2, h3, h4, h5, h6, h7⟩ := HB.out
            have hs := HS.out
            rw [Bool.eq_iff_iff]
            simp
            try omega
          have EV := hid_ ev
          have EC := hid_ ec
          have HBO := hid_ (byteOf_any g2 cap2 [b1, b2, b3, b4, b5, b6, b7, b7] rfl hbits w3 hcell)
          clear ev ec hbits hcell
          refine HBO.out.mono ?_
          rintro e wp ⟨rfl, rfl⟩
          rw [EV.out]
          go_wp2_with fail
          refine (flags_any _ _ _ _ _).mono ?_
          rintro e wp ⟨rfl, rfl⟩
          go_wp2_with fail
          go_ret2
          exact .of (ret_two rfl (by first | (rw [← EC.out]; rfl) | (rw [← EC.out]; congr 1; rw [Bool.eq_iff_iff]; simp))) hbel3
      · go_simp
        refine hK.out _ _ ?hS15 ?rest15
        case hS15 => exact ⟨fun _ _ h => Keeps.cells hkx _ _ h, hkx⟩
        clear hK K
        (try simp only [Act.put, List.getElem_toArray, List.getElem_cons_succ, List.getElem_cons_zero, List.setIfInBounds_toArray, List.set_cons_zero, List.set_cons_succ])
        refine wpAnyT_one (i := 0) rfl (by kernel_rfl) (fun K hK => ?_)
        (try simp only [List.getElem_toArray, List.getElem_cons_succ, List.getElem_cons_zero])
        go_simp
        refine hK.out _ _ ?hS16 ?rest16
        case hS16 => exact ⟨fun _ _ h => Keeps.cells hkb _ _ h, hkb⟩
        clear hK K
        (try simp only [Act.put, List.getElem_toArray, List.getElem_cons_succ, List.getElem_cons_zero, List.setIfInBounds_toArray, List.set_cons_zero, List.set_cons_succ])
        have hrow : Row ((wr.drew.alloc (.cells #[.int .i64 b7] 3)).alloc (.cells #[] 3)) wr.heap.size (.slice (some ⟨wr.heap.size + 1, 0, none⟩) 0 0) 0 [] := by simpa using Row.new0 (wr.drew.alloc (.cells #[.int .i64 b7] 3)) wr.heap.size (by simp)
        refine wpAnyT_one (i := 3) rfl (by kernel_rfl) (fun K hK => ?_)
        refine step_app (by rfl) (.tmp 93) (.tmp 95) (by rfl) wr.heap.size _ 0 [] (by rfl) hrow g 1 7 _ [b1, b2, b3, b4, b5, b6, b7] (by rfl) rfl (Keeps.at_ hkb hR7 hg) (by omega) (by omega) (by first | (simp; done) | (simp; omega)) ?_
        intro g1 cap1 w2 h1 h2 h3
        have hk3 : Keeps wr w2 := Below.grown hkb h2 (Below.size hkb) (fun j hj => by simp [Value.ownBlock] at hj; omega)
        refine hK.out _ _ ?hS17 ?rest17
        case hS17 => exact ⟨fun _ _ h => Keeps.cells hk3 _ _ h, hk3⟩
        clear hK K
        (try simp only [Act.put, List.getElem_toArray, List.getElem_cons_succ, List.getElem_cons_zero, List.setIfInBounds_toArray, List.set_cons_zero, List.set_cons_succ])
        have hX : At w2 wr.heap.size 0 [b7] := by
          have hx0 : At ((wr.drew.alloc (.cells #[.int .i64 b7] 3)).alloc (.cells #[] 3)) wr.heap.size 0 [b7] := (At.new wr.drew b7).alloc (by simp) _
          exact hx0.grown (by first | (simp; done) | (simp; omega)) h2 (by simp [Value.ownBlock])
        refine wpAnyT_one (i := 8) rfl (by kernel_rfl) (fun K hK => ?_)
        refine step_app (by rfl) (.tmp 96) (.tmp 100) (by rfl) wr.heap.size _ 7 _ (by rfl) h1 wr.heap.size 0 1 1 [b7] (by rfl) rfl hX (by omega) (by omega) (by have := Below.size hk3; omega) ?_
        intro g2 cap2 w3 h4 h5 h6
        have hk5 : Keeps wr w3 := Below.grown hk3 h5 (Below.size hk3) (fun j hj => own_le h1 j hj)
        refine hK.out _ _ ?hS18 ?rest18
        case hS18 => exact ⟨fun _ _ h => Keeps.cells hk5 _ _ h, hk5⟩
        clear hK K
        (try simp only [Act.put, List.getElem_toArray, List.getElem_cons_succ, List.getElem_cons_zero, List.setIfInBounds_toArray, List.set_cons_zero, List.set_cons_succ])
        refine wpAnyT_one (i := 9) rfl (by kernel_rfl) (fun K hK => ?_)
        (try simp only [List.getElem_toArray, List.getElem_cons_succ, List.getElem_cons_zero])
        go_simp
        refine hK.out _ _ ?hS19 ?rest19
        case hS19 => exact ⟨fun _ _ h => Keeps.cells hk5 _ _ h, hk5⟩
        clear hK K
        (try simp only [Act.put, List.getElem_toArray, List.getElem_cons_succ, List.getElem_cons_zero, List.setIfInBounds_toArray, List.set_cons_zero, List.set_cons_succ])
        refine wpAnyT_done (by kernel_rfl) ?_ _
        go_wp2_with fail
        have hbel3 : Below w.heap.size w w3 := hbel.trans (Below.mono hk5 hw)
        have hbits : Bits [b1, b2, b3, b4, b5, b6, b7, b7] := by
          obtain ⟨h0, h1, h2, h3, h4, h5, h6, h7⟩ := HB.out
          intro z hz
          simp at hz
          omega
        have hcell : ∀ k, k < 8 → w3.cell? ⟨g2, k, none⟩ = some (.int .i64 (([b1, b2, b3, b4, b5, b6, b7, b7] : List Int).getD k 0)) := fun k hk => by
          have := h4.at_ k (by simpa using hk)
          rwa [Nat.zero_add] at this
        have ev : val [b1, b2, b3, b4, b5, b6, b7, b7] = (a : Int) / 2 + (a : Int) / 128 * 128 := by
          obtain ⟨h0, h1, h2, h3, h4, h5, h6, h7⟩ := HB.out
          have hs := HS.out
          have hq := HQ.out
          simp only [val]
          first | omega | (rw [hq]; omega)
        have ec : (b0 == 1) = decide ((a : Int) % 2 = 1) := by
          obtain ⟨h0, h1, h2, h3, h4, h5, h6, h7⟩ := HB.out
          have hs := HS.out
          rw [Bool.eq_iff_iff]
          simp
          try omega
        have EV := hid_ ev
        have EC := hid_ ec
        have HBO := hid_ (byteOf_any g2 cap2 [b1, b2, b3, b4, b5, b6, b7, b7] rfl hbits w3 hcell)
        clear ev ec hbits hcell
        refine HBO.out.mono ?_
        rintro e wp ⟨rfl, rfl⟩
        rw [EV.out]
        go_wp2_with fail
        refine (flags_any _ _ _ _ _).mono ?_
        rintro e wp ⟨rfl, rfl⟩
        go_wp2_with fail
        go_ret2
        exact .of (ret_two rfl (by first | (rw [← EC.out]; rfl) | (rw [← EC.out]; congr 1; rw [Bool.eq_iff_iff]; simp))) hbel3

end Go.Proofs.Ytdcfljfgcnbjlaa
