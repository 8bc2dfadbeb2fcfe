/- The law of what is read: its walk. -/
import Derived.Test.YtacbdapgdgliiaaPlay
namespace Go.Proofs.Ytacbdapgdgliiaa
open Go.RowKit
set_option linter.unusedSimpArgs false
set_option linter.unusedVariables false

set_option maxRecDepth 20000 in
theorem play_zero (a : Option Addr) (cap : Nat) (w : World) : Calls Try.prog 12 #[.slice a 0 cap] w (fun e w' => ∃ b, Bd.Ok b ∧ Ret (.agg (enc b)) w e w') := by
  have hz := board_zero
  have hsz : (enc zeroB).size = 70 := enc_size zeroB rfl
  have HZ := hid_ hsz
  have H1Z := hid_ (enc_one zeroB)
  go_enter Try.func12, Try.ntmps12
  go_wp2_with (first
    | ((with_reducible refine wpList_allocZ2 (op := ⟨some 2, .alloc 29, _, _, _, _⟩) rfl rfl ?_); intro w2 HR2 HW2 hl2)
    | ((with_reducible refine wpList_allocZ2 (op := ⟨some 3, .alloc 29, _, _, _, _⟩) rfl rfl ?_); intro w3 HB3 HW3 hl3)
    | (with_reducible refine wpList_store29 (op := ⟨none, .store 29 (.tmp 3) (.tmp 5), _, _, _, _⟩) rfl (.tmp 3) (.tmp 5) rfl w2.heap.size (enc zeroB) (enc zeroB) (by with_unfolding_all rfl) (by with_unfolding_all rfl) HB3.out HZ.out HZ.out H1Z.out ?_))
  have HB4 : Hid (Blk (w3.setRow w2.heap.size (enc zeroB)) w2.heap.size 29 (enc zeroB)) := HB3.out.setRow _
  have HR4 : Hid (Blk (w3.setRow w2.heap.size (enc zeroB)) w.heap.size 29 (enc zeroB)) := (HR2.out.below HW3.out hl2).farRow (by omega) _
  have HW4 : Hid (Below w.heap.size w (w3.setRow w2.heap.size (enc zeroB))) := below_setRow (HW2.out.trans (HW3.out.mono (Nat.le_of_lt hl2))) (Nat.le_of_lt hl2) _
  clear HB3 HR2 HW2 HW3 hl3
  generalize w3.setRow w2.heap.size (enc zeroB) = w4 at *
  generalize w2.heap.size = g3 at *
  go_loopw [8] (fun i wr => i = .int .i64 0 ∧ Hid (Blk wr g3 29 (enc zeroB)) ∧ Hid (Blk wr w.heap.size 29 (enc zeroB)) ∧ Hid (Below w.heap.size w wr)) (fun i _ => 0)
  case atStart => exact ⟨rfl, HB4, HR4, HW4⟩
  case round =>
    clear HB4 HR4 HW4
    obtain ⟨rfl, HB, HR, HW⟩ := hrel
    go_wp2_with (first
      | (with_reducible refine wpList_load29 (op := ⟨some 40, _, _, _, _, _⟩) rfl (.tmp 3) rfl g3 (by with_unfolding_all rfl) (enc zeroB) HB.out HZ.out ?_)
      | (with_reducible refine wpList_store29 (op := ⟨none, .store 29 (.tmp 2) (.tmp 40), _, _, _, _⟩) rfl (.tmp 2) (.tmp 40) rfl w.heap.size (enc zeroB) (enc zeroB) (by with_unfolding_all rfl) (by with_unfolding_all rfl) HR.out HZ.out HZ.out H1Z.out ?_))
    exact bodyPost_ret (v := .agg (enc zeroB)) (results_board Try.results12 rfl (HR.out.setRow _) HZ.out) rfl ⟨zeroB, zero_ok, .of rfl (below_setRow HW.out (Nat.le_refl _) _)⟩
/-- The contract of 'play': of whatever calls came in. -/
theorem play_any (a : Option Addr) (len cap : Nat) (z : Unit) (hl : len ≤ 1000) (w : World) (h : IsOps w a len z) : Calls Try.prog 12 #[.slice a len cap] w (fun e w' => ∃ b, Bd.Ok b ∧ Ret (.agg (enc b)) w e w') := by
  rcases Nat.eq_zero_or_pos len with h0 | h0
  · subst h0; exact play_zero a cap w
  · obtain ⟨b1, o1, rfl, hb1, hc1⟩ := h h0
    exact play_some b1 o1 len cap w hb1 hl hc1
theorem IsOps.below {w w' : World} {a : Option Addr} {len : Nat} {z : Unit} (h : IsOps w a len z) (hb : Below w.heap.size w w') : IsOps w' a len z := by
  intro h0
  obtain ⟨b, off, ha, hlt, hc⟩ := h h0
  refine ⟨b, off, ha, Nat.lt_of_lt_of_le hlt hb.size, fun i hi => ?_⟩
  obtain ⟨K, N, X, n0, n1, x0, x1, q0, q1, q2⟩ := hc i hi
  exact ⟨K, N, X, n0, n1, x0, x1, (hb.cell (p := ⟨b, _, none⟩) hlt).trans q0, (hb.cell (p := ⟨b, _, none⟩) hlt).trans q1, (hb.cell (p := ⟨b, _, none⟩) hlt).trans q2⟩
/-- What is written lies there. -/
theorem low_regs (b : Bd) (n : Nat) (x : Int) : (lowB b n x).regs = b.regs.set n x := by
  have hs : ∀ (c : Bd) (v : Nat) (y : Vc), (c.setV v y).regs = c.regs := fun c v y => by
    match v with
    | 0 => rfl
    | 1 => rfl
    | 2 => rfl
    | _ + 3 => rfl
  unfold lowB
  split
  · rw [hs]
  · split
    · split
      · rw [begin_regs]
      · rfl
    · rw [hs]
theorem write_reg (b : Bd) (hb : b.regs.length = 48) (hon : b.on = true) (k : Nat) (hk : k < 48) (hk2 : k ≠ 22) (x : Int) : (writeB b k x).reg k = x := by
  have h : (writeB b k x).regs = b.regs.set k x := by
    unfold writeB
    rw [if_neg (by omega), if_neg (by omega), if_neg (fun h => by rw [hon] at h; exact absurd h.1 (by simp))]
    split
    · rfl
    · exact low_regs b _ x
  unfold Bd.reg
  rw [h, getD_set, if_pos ⟨rfl, by omega⟩]
theorem switch_isOn (b : Bd) (on : Bool) : (switchB b on).on = on := by
  unfold switchB
  cases on with
  | false => rfl
  | true => rw [if_neg (by simp)]; split <;> rfl
theorem acc_112 (b : Bd) : bits .and .u8 (accB b 4) 112 = 112 := by
  simp only [accB]
  cases b.on <;> cases b.v0.on <;> cases b.v1.on <;> cases b.v2.on <;> cases b.v3.on <;> rfl
theorem acc_128 (b : Bd) : accB b 4 / 128 = if b.on then 1 else 0 := by
  simp only [accB]
  cases b.on <;> cases b.v0.on <;> cases b.v1.on <;> cases b.v2.on <;> cases b.v3.on <;> rfl
theorem write_22 (b : Bd) (x : Int) : writeB b 22 x = switchB b (decide (128 ≤ x)) := by
  unfold writeB
  rw [if_neg (by omega), if_pos rfl]
namespace soundReads

set_option maxRecDepth 20000 in
set_option maxHeartbeats 2000000 in
theorem walkHi (a : Option Addr) (len cap : Nat) (z : Unit) (hl : len ≤ 40) (n x : Int) (k : Nat) (hk : n % 48 = k) (hn0 : 0 ≤ n) (hn1 : n ≤ 255) (hx0 : 0 ≤ x) (hx1 : x ≤ 255) (h32 : 32 ≤ k) (h48 : k < 48) (w : World) (hops : IsOps w a len z) :
    Calls Try.prog 6 #[.slice a len cap, .int .u8 n, .int .u8 x] w (Ret (.bool true) w) := by
  have HP := hid_ hops
  have HZ := hid_ (enc_size zeroB rfl)
  have ql : decide (40 < (len : Int)) = false := by simp; omega
  have ew : wrap64 n = n := wrap_small n hn0 (by omega)
  have hz40 : ((Try.prog.info? 40).bind (·.zero)).map (·.cells.size) = some masksL.length := by kernel_rfl
  have hs5 : (Try.prog.info? 5).map (·.size) = some 1 := by kernel_rfl
  have d1 : ((k : Int) == 22) = false := by simp; omega
  have d2 : decide ((k : Int) < 23) = false := by simp; omega
  have d3 : decide ((k : Int) < 32) = false := by simp; omega
  clear hops
  go_enter Try.func6, Try.ntmps6
  go_wp2_with fail
  refine (awake_any _).mono ?_
  rintro e w1 ⟨rfl, hc1, hf1, hz1, hb1⟩
  clear hc1 hf1 hz1
  have HP1 := hid_ (HP.out.below hb1)
  have HW1 := hid_ hb1
  clear hb1
  go_wp2_with fail
  refine (play_any a len cap z (by omega) _ HP1.out).mono ?_
  rintro e w2 ⟨b, hbok, rfl, hc1, hf1, hz1, hb2⟩
  clear hc1 hf1 hz1 HP1 HP
  have HW2 := hid_ (below_join HW1.out hb2)
  clear hb2 HW1
  have HOb := hid_ hbok
  clear hbok
  go_wp2_with fail
  refine (write_any b HOb.out 22 128 (by omega) (by omega) _).mono ?_
  rintro e w3 ⟨rfl, hc1, hf1, hz1, hb3⟩
  clear hc1 hf1 hz1
  have HW3 := hid_ (below_join HW2.out hb3)
  have hs3 := HW3.out.size
  clear hb3 HW2
  have HOB := hid_ (write_ok HOb.out 22 128 (by omega) (by omega))
  have HBon : Hid ((writeB b 22 128).on = true) := hid_ (switch_isOn b true)
  have HSB := hid_ (enc_size _ HOB.out.regs)
  have H1B := hid_ (enc_one (writeB b 22 128))
  generalize writeB b 22 128 = B at *
  clear HOb
  go_wp2_with (first
    | ((with_reducible refine wpList_allocZ2 (op := ⟨some 7, .alloc 29, _, _, _, _⟩) rfl rfl ?_); intro w4 HB4 HW4 hl4)
    | (with_reducible refine wpList_store29 (op := ⟨none, .store 29 (.tmp 7) (.tmp 22), _, _, _, _⟩) rfl (.tmp 7) (.tmp 22) rfl w3.heap.size (enc zeroB) (enc B) (by with_unfolding_all rfl) (by with_unfolding_all rfl) HB4.out HZ.out HSB.out H1B.out ?_)
    | (with_reducible refine wpList_load29 (op := ⟨some 26, _, _, _, _, _⟩) rfl (.tmp 7) rfl w3.heap.size (by with_unfolding_all rfl) (enc B) (HB4.out.setRow _) HSB.out ?_))
  have HB5 : Hid (Blk (w4.setRow w3.heap.size (enc B)) w3.heap.size 29 (enc B)) := HB4.out.setRow _
  have HW5 : Hid (Below w.heap.size w (w4.setRow w3.heap.size (enc B))) := below_setRow (HW3.out.trans (HW4.out.mono hs3)) hs3 _
  clear HB4 HW3 HW4 hl4
  generalize w4.setRow w3.heap.size (enc B) = w5 at *
  generalize w3.heap.size = g7 at *
  refine (write_any B HOB.out k x hx0 hx1 _).mono ?_
  rintro e w6 ⟨rfl, hc1, hf1, hz1, hb6⟩
  clear hc1 hf1 hz1
  have HB6 := hid_ (HB5.out.below hb6 HB5.out.lt)
  have HW6 := hid_ (below_join HW5.out hb6)
  have hs6 := HW6.out.size
  have hl6 := HB6.out.lt
  clear hb6 HB5 HW5
  have HOC := hid_ (write_ok HOB.out k x hx0 hx1)
  have HSC := hid_ (enc_size _ HOC.out.regs)
  have H1C := hid_ (enc_one (writeB B k x))
  have HC : Hid ((writeB B k x).reg k = x) := write_reg B HOB.out.regs HBon.out k h48 (by omega) x
  generalize writeB B k x = C at *
  go_wp2_with (first
    | ((with_reducible refine wpList_allocZ2 (op := ⟨some 9, .alloc 29, _, _, _, _⟩) rfl rfl ?_); intro w7 HB7 HW7 hl7)
    | (with_reducible refine wpList_store29 (op := ⟨none, .store 29 (.tmp 9) (.tmp 29), _, _, _, _⟩) rfl (.tmp 9) (.tmp 29) rfl w6.heap.size (enc zeroB) (enc C) (by with_unfolding_all rfl) (by with_unfolding_all rfl) HB7.out HZ.out HSC.out H1C.out ?_)
    | (with_reducible refine wpList_buildFlatArrTo (o := ⟨some 30, _, _, _, _, _⟩) rfl 40 5 23 _ rfl .u8 masksL (some 30) rfl Try.underlying40 hs5 hz40 (by kernel_rfl) ?_)
    | ((with_reducible refine wpList_alloc40 (op := ⟨some 10, .alloc 40, _, _, _, _⟩) rfl rfl ?_); intro w8 HB8 HW8; have hl8 := HW8.out.size)
    | ((with_reducible refine wpList_store40 (op := ⟨none, .store 40 (.tmp 10) (.tmp 30), _, _, _, _⟩) rfl (.tmp 10) (.tmp 30) rfl rfl (w7.setRow w6.heap.size (enc C)).heap.size (by with_unfolding_all rfl) (by with_unfolding_all rfl) HB8.out ?_); skip)
    | (with_reducible refine wpList_load29 (op := ⟨some 57, _, _, _, _, _⟩) rfl (.tmp 9) rfl w6.heap.size (by with_unfolding_all rfl) (enc C) (((HB7.out.setRow (enc C)).below HW8.out (HB7.out.setRow (enc C)).lt).farRow (k := w7.heap.size) (by omega) _) HSC.out ?_))
  have HBC : Hid (Blk (w8.setRow w7.heap.size ((masksL.map (Value.int .u8)).toArray)) w6.heap.size 29 (enc C)) := (((HB7.out.setRow (enc C)).below HW8.out (HB7.out.setRow (enc C)).lt).farRow (k := w7.heap.size) (by omega) _)
  have HBB : Hid (Blk (w8.setRow w7.heap.size ((masksL.map (Value.int .u8)).toArray)) g7 29 (enc B)) := ((((HB6.out.below HW7.out hl6).farRow (k := w6.heap.size) (by omega) (enc C)).below HW8.out (((HB6.out.below HW7.out hl6).farRow (k := w6.heap.size) (by omega) (enc C)).lt)).farRow (k := w7.heap.size) (by have := HB6.out.lt; omega) _)
  have HBW : Hid (Below w.heap.size w (w8.setRow w7.heap.size ((masksL.map (Value.int .u8)).toArray))) := (below_setRow ((below_setRow (HW6.out.trans (HW7.out.mono hs6)) hs6 (enc C)).trans (HW8.out.mono (by show w.heap.size ≤ (w7.setRow w6.heap.size (enc C)).heap.size; have := (below_setRow (HW6.out.trans (HW7.out.mono hs6)) hs6 (enc C)).size; exact this))) (by have := HW7.out.size; omega) ((masksL.map (Value.int .u8)).toArray))
  generalize w8.setRow w7.heap.size ((masksL.map (Value.int .u8)).toArray) = w9 at *
  refine (read_waves C HOC.out.toOkR k h32 h48 _).mono ?_
  rintro e wa ⟨rfl, hc1, hf1, hz1, hba⟩
  clear hc1 hf1 hz1
  have HBa := hid_ (HBB.out.below hba HBB.out.lt)
  have HWa := hid_ (below_join HBW.out hba)
  clear hba
  rw [HC.out]
  go_wp2_with (with_reducible refine wpList_load29w (op := ⟨some 63, _, _, _, _, _⟩) (by with_unfolding_all rfl) (.tmp 7) rfl g7 (by with_unfolding_all rfl) (enc B) HBa.out HSB.out ?_)
  refine (read_none B (-1) (by omega) _).mono ?_
  rintro e wb ⟨rfl, hc1, hf1, hz1, hbb⟩
  clear hc1 hf1 hz1
  have HBb := hid_ (HBa.out.below hbb HBa.out.lt)
  have HWb := hid_ (below_join HWa.out hbb)
  clear hbb
  go_wp2_with (with_reducible refine wpList_load29w (op := ⟨some 68, _, _, _, _, _⟩) (by with_unfolding_all rfl) (.tmp 7) rfl g7 (by with_unfolding_all rfl) (enc B) HBb.out HSB.out ?_)
  refine (read_none B 48 (by omega) _).mono ?_
  rintro e wc ⟨rfl, hc1, hf1, hz1, hbc⟩
  clear hc1 hf1 hz1
  go_wp2_with fail
  go_ret
  exact .of (by first | rfl | simp) (below_join HWb.out hbc)

set_option maxRecDepth 20000 in
set_option maxHeartbeats 2000000 in
theorem walkMid (a : Option Addr) (len cap : Nat) (z : Unit) (hl : len ≤ 40) (n x : Int) (k : Nat) (hk : n % 48 = k) (hn0 : 0 ≤ n) (hn1 : n ≤ 255) (hx0 : 0 ≤ x) (hx1 : x ≤ 255) (h23 : 23 ≤ k) (h32 : k < 32) (w : World) (hops : IsOps w a len z) :
    Calls Try.prog 6 #[.slice a len cap, .int .u8 n, .int .u8 x] w (Ret (.bool true) w) := by
  have HP := hid_ hops
  have HZ := hid_ (enc_size zeroB rfl)
  have ql : decide (40 < (len : Int)) = false := by simp; omega
  have ew : wrap64 n = n := wrap_small n hn0 (by omega)
  have hz40 : ((Try.prog.info? 40).bind (·.zero)).map (·.cells.size) = some masksL.length := by kernel_rfl
  have hs5 : (Try.prog.info? 5).map (·.size) = some 1 := by kernel_rfl
  have d1 : ((k : Int) == 22) = false := by simp; omega
  have d2 : decide ((k : Int) < 23) = false := by simp; omega
  have d3 : decide ((k : Int) < 32) = true := by simp; omega
  clear hops
  go_enter Try.func6, Try.ntmps6
  go_wp2_with fail
  refine (awake_any _).mono ?_
  rintro e w1 ⟨rfl, hc1, hf1, hz1, hb1⟩
  clear hc1 hf1 hz1
  have HP1 := hid_ (HP.out.below hb1)
  have HW1 := hid_ hb1
  clear hb1
  go_wp2_with fail
  refine (play_any a len cap z (by omega) _ HP1.out).mono ?_
  rintro e w2 ⟨b, hbok, rfl, hc1, hf1, hz1, hb2⟩
  clear hc1 hf1 hz1 HP1 HP
  have HW2 := hid_ (below_join HW1.out hb2)
  clear hb2 HW1
  have HOb := hid_ hbok
  clear hbok
  go_wp2_with fail
  refine (write_any b HOb.out 22 128 (by omega) (by omega) _).mono ?_
  rintro e w3 ⟨rfl, hc1, hf1, hz1, hb3⟩
  clear hc1 hf1 hz1
  have HW3 := hid_ (below_join HW2.out hb3)
  have hs3 := HW3.out.size
  clear hb3 HW2
  have HOB := hid_ (write_ok HOb.out 22 128 (by omega) (by omega))
  have HBon : Hid ((writeB b 22 128).on = true) := hid_ (switch_isOn b true)
  have HSB := hid_ (enc_size _ HOB.out.regs)
  have H1B := hid_ (enc_one (writeB b 22 128))
  generalize writeB b 22 128 = B at *
  clear HOb
  go_wp2_with (first
    | ((with_reducible refine wpList_allocZ2 (op := ⟨some 7, .alloc 29, _, _, _, _⟩) rfl rfl ?_); intro w4 HB4 HW4 hl4)
    | (with_reducible refine wpList_store29 (op := ⟨none, .store 29 (.tmp 7) (.tmp 22), _, _, _, _⟩) rfl (.tmp 7) (.tmp 22) rfl w3.heap.size (enc zeroB) (enc B) (by with_unfolding_all rfl) (by with_unfolding_all rfl) HB4.out HZ.out HSB.out H1B.out ?_)
    | (with_reducible refine wpList_load29 (op := ⟨some 26, _, _, _, _, _⟩) rfl (.tmp 7) rfl w3.heap.size (by with_unfolding_all rfl) (enc B) (HB4.out.setRow _) HSB.out ?_))
  have HB5 : Hid (Blk (w4.setRow w3.heap.size (enc B)) w3.heap.size 29 (enc B)) := HB4.out.setRow _
  have HW5 : Hid (Below w.heap.size w (w4.setRow w3.heap.size (enc B))) := below_setRow (HW3.out.trans (HW4.out.mono hs3)) hs3 _
  clear HB4 HW3 HW4 hl4
  generalize w4.setRow w3.heap.size (enc B) = w5 at *
  generalize w3.heap.size = g7 at *
  refine (write_any B HOB.out k x hx0 hx1 _).mono ?_
  rintro e w6 ⟨rfl, hc1, hf1, hz1, hb6⟩
  clear hc1 hf1 hz1
  have HB6 := hid_ (HB5.out.below hb6 HB5.out.lt)
  have HW6 := hid_ (below_join HW5.out hb6)
  have hs6 := HW6.out.size
  have hl6 := HB6.out.lt
  clear hb6 HB5 HW5
  have HOC := hid_ (write_ok HOB.out k x hx0 hx1)
  have HSC := hid_ (enc_size _ HOC.out.regs)
  have H1C := hid_ (enc_one (writeB B k x))
  generalize writeB B k x = C at *
  go_wp2_with (first
    | ((with_reducible refine wpList_allocZ2 (op := ⟨some 9, .alloc 29, _, _, _, _⟩) rfl rfl ?_); intro w7 HB7 HW7 hl7)
    | (with_reducible refine wpList_store29 (op := ⟨none, .store 29 (.tmp 9) (.tmp 29), _, _, _, _⟩) rfl (.tmp 9) (.tmp 29) rfl w6.heap.size (enc zeroB) (enc C) (by with_unfolding_all rfl) (by with_unfolding_all rfl) HB7.out HZ.out HSC.out H1C.out ?_)
    | (with_reducible refine wpList_buildFlatArrTo (o := ⟨some 30, _, _, _, _, _⟩) rfl 40 5 23 _ rfl .u8 masksL (some 30) rfl Try.underlying40 hs5 hz40 (by kernel_rfl) ?_)
    | ((with_reducible refine wpList_alloc40 (op := ⟨some 10, .alloc 40, _, _, _, _⟩) rfl rfl ?_); intro w8 HB8 HW8; have hl8 := HW8.out.size)
    | ((with_reducible refine wpList_store40 (op := ⟨none, .store 40 (.tmp 10) (.tmp 30), _, _, _, _⟩) rfl (.tmp 10) (.tmp 30) rfl rfl (w7.setRow w6.heap.size (enc C)).heap.size (by with_unfolding_all rfl) (by with_unfolding_all rfl) HB8.out ?_); skip)
    | (with_reducible refine wpList_load29 (op := ⟨some 57, _, _, _, _, _⟩) rfl (.tmp 9) rfl w6.heap.size (by with_unfolding_all rfl) (enc C) (((HB7.out.setRow (enc C)).below HW8.out (HB7.out.setRow (enc C)).lt).farRow (k := w7.heap.size) (by omega) _) HSC.out ?_))
  have HBC : Hid (Blk (w8.setRow w7.heap.size ((masksL.map (Value.int .u8)).toArray)) w6.heap.size 29 (enc C)) := (((HB7.out.setRow (enc C)).below HW8.out (HB7.out.setRow (enc C)).lt).farRow (k := w7.heap.size) (by omega) _)
  have HBB : Hid (Blk (w8.setRow w7.heap.size ((masksL.map (Value.int .u8)).toArray)) g7 29 (enc B)) := ((((HB6.out.below HW7.out hl6).farRow (k := w6.heap.size) (by omega) (enc C)).below HW8.out (((HB6.out.below HW7.out hl6).farRow (k := w6.heap.size) (by omega) (enc C)).lt)).farRow (k := w7.heap.size) (by have := HB6.out.lt; omega) _)
  have HBW : Hid (Below w.heap.size w (w8.setRow w7.heap.size ((masksL.map (Value.int .u8)).toArray))) := (below_setRow ((below_setRow (HW6.out.trans (HW7.out.mono hs6)) hs6 (enc C)).trans (HW8.out.mono (by show w.heap.size ≤ (w7.setRow w6.heap.size (enc C)).heap.size; have := (below_setRow (HW6.out.trans (HW7.out.mono hs6)) hs6 (enc C)).size; exact this))) (by have := HW7.out.size; omega) ((masksL.map (Value.int .u8)).toArray))
  generalize w8.setRow w7.heap.size ((masksL.map (Value.int .u8)).toArray) = w9 at *
  refine (read_none C k (by omega) _).mono ?_
  rintro e wa ⟨rfl, hc1, hf1, hz1, hba⟩
  clear hc1 hf1 hz1
  have HBa := hid_ (HBB.out.below hba HBB.out.lt)
  have HWa := hid_ (below_join HBW.out hba)
  clear hba
  go_wp2_with (with_reducible refine wpList_load29w (op := ⟨some 63, _, _, _, _, _⟩) (by with_unfolding_all rfl) (.tmp 7) rfl g7 (by with_unfolding_all rfl) (enc B) HBa.out HSB.out ?_)
  refine (read_none B (-1) (by omega) _).mono ?_
  rintro e wb ⟨rfl, hc1, hf1, hz1, hbb⟩
  clear hc1 hf1 hz1
  have HBb := hid_ (HBa.out.below hbb HBa.out.lt)
  have HWb := hid_ (below_join HWa.out hbb)
  clear hbb
  go_wp2_with (with_reducible refine wpList_load29w (op := ⟨some 68, _, _, _, _, _⟩) (by with_unfolding_all rfl) (.tmp 7) rfl g7 (by with_unfolding_all rfl) (enc B) HBb.out HSB.out ?_)
  refine (read_none B 48 (by omega) _).mono ?_
  rintro e wc ⟨rfl, hc1, hf1, hz1, hbc⟩
  clear hc1 hf1 hz1
  go_wp2_with fail
  go_ret
  exact .of (by first | rfl | simp) (below_join HWb.out hbc)

set_option maxRecDepth 20000 in
set_option maxHeartbeats 2000000 in
theorem walkLow (a : Option Addr) (len cap : Nat) (z : Unit) (hl : len ≤ 40) (n x : Int) (k : Nat) (hk : n % 48 = k) (hn0 : 0 ≤ n) (hn1 : n ≤ 255) (hx0 : 0 ≤ x) (hx1 : x ≤ 255) (h22 : k < 22) (w : World) (hops : IsOps w a len z) :
    Calls Try.prog 6 #[.slice a len cap, .int .u8 n, .int .u8 x] w (Ret (.bool true) w) := by
  have HP := hid_ hops
  have HZ := hid_ (enc_size zeroB rfl)
  have ql : decide (40 < (len : Int)) = false := by simp; omega
  have ew : wrap64 n = n := wrap_small n hn0 (by omega)
  have hz40 : ((Try.prog.info? 40).bind (·.zero)).map (·.cells.size) = some masksL.length := by kernel_rfl
  have hs5 : (Try.prog.info? 5).map (·.size) = some 1 := by kernel_rfl
  have d1 : ((k : Int) == 22) = false := by simp; omega
  have d2 : decide ((k : Int) < 23) = true := by simp; omega
  have i0 : 0 ≤ (k : Int) := by omega
  have i1 : (k : Int) < 23 := by omega
  have hmk := masks_at k (by omega)
  clear hops
  go_enter Try.func6, Try.ntmps6
  go_wp2_with fail
  refine (awake_any _).mono ?_
  rintro e w1 ⟨rfl, hc1, hf1, hz1, hb1⟩
  clear hc1 hf1 hz1
  have HP1 := hid_ (HP.out.below hb1)
  have HW1 := hid_ hb1
  clear hb1
  go_wp2_with fail
  refine (play_any a len cap z (by omega) _ HP1.out).mono ?_
  rintro e w2 ⟨b, hbok, rfl, hc1, hf1, hz1, hb2⟩
  clear hc1 hf1 hz1 HP1 HP
  have HW2 := hid_ (below_join HW1.out hb2)
  clear hb2 HW1
  have HOb := hid_ hbok
  clear hbok
  go_wp2_with fail
  refine (write_any b HOb.out 22 128 (by omega) (by omega) _).mono ?_
  rintro e w3 ⟨rfl, hc1, hf1, hz1, hb3⟩
  clear hc1 hf1 hz1
  have HW3 := hid_ (below_join HW2.out hb3)
  have hs3 := HW3.out.size
  clear hb3 HW2
  have HOB := hid_ (write_ok HOb.out 22 128 (by omega) (by omega))
  have HBon : Hid ((writeB b 22 128).on = true) := hid_ (switch_isOn b true)
  have HSB := hid_ (enc_size _ HOB.out.regs)
  have H1B := hid_ (enc_one (writeB b 22 128))
  generalize writeB b 22 128 = B at *
  clear HOb
  go_wp2_with (first
    | ((with_reducible refine wpList_allocZ2 (op := ⟨some 7, .alloc 29, _, _, _, _⟩) rfl rfl ?_); intro w4 HB4 HW4 hl4)
    | (with_reducible refine wpList_store29 (op := ⟨none, .store 29 (.tmp 7) (.tmp 22), _, _, _, _⟩) rfl (.tmp 7) (.tmp 22) rfl w3.heap.size (enc zeroB) (enc B) (by with_unfolding_all rfl) (by with_unfolding_all rfl) HB4.out HZ.out HSB.out H1B.out ?_)
    | (with_reducible refine wpList_load29 (op := ⟨some 26, _, _, _, _, _⟩) rfl (.tmp 7) rfl w3.heap.size (by with_unfolding_all rfl) (enc B) (HB4.out.setRow _) HSB.out ?_))
  have HB5 : Hid (Blk (w4.setRow w3.heap.size (enc B)) w3.heap.size 29 (enc B)) := HB4.out.setRow _
  have HW5 : Hid (Below w.heap.size w (w4.setRow w3.heap.size (enc B))) := below_setRow (HW3.out.trans (HW4.out.mono hs3)) hs3 _
  clear HB4 HW3 HW4 hl4
  generalize w4.setRow w3.heap.size (enc B) = w5 at *
  generalize w3.heap.size = g7 at *
  refine (write_any B HOB.out k x hx0 hx1 _).mono ?_
  rintro e w6 ⟨rfl, hc1, hf1, hz1, hb6⟩
  clear hc1 hf1 hz1
  have HB6 := hid_ (HB5.out.below hb6 HB5.out.lt)
  have HW6 := hid_ (below_join HW5.out hb6)
  have hs6 := HW6.out.size
  have hl6 := HB6.out.lt
  clear hb6 HB5 HW5
  have HOC := hid_ (write_ok HOB.out k x hx0 hx1)
  have HSC := hid_ (enc_size _ HOC.out.regs)
  have H1C := hid_ (enc_one (writeB B k x))
  have HC : Hid ((writeB B k x).reg k = x) := write_reg B HOB.out.regs HBon.out k (by omega) (by omega) x
  generalize writeB B k x = C at *
  go_wp2_with (first
    | ((with_reducible refine wpList_allocZ2 (op := ⟨some 9, .alloc 29, _, _, _, _⟩) rfl rfl ?_); intro w7 HB7 HW7 hl7)
    | (with_reducible refine wpList_store29 (op := ⟨none, .store 29 (.tmp 9) (.tmp 29), _, _, _, _⟩) rfl (.tmp 9) (.tmp 29) rfl w6.heap.size (enc zeroB) (enc C) (by with_unfolding_all rfl) (by with_unfolding_all rfl) HB7.out HZ.out HSC.out H1C.out ?_)
    | (with_reducible refine wpList_buildFlatArrTo (o := ⟨some 30, _, _, _, _, _⟩) rfl 40 5 23 _ rfl .u8 masksL (some 30) rfl Try.underlying40 hs5 hz40 (by kernel_rfl) ?_)
    | ((with_reducible refine wpList_alloc40 (op := ⟨some 10, .alloc 40, _, _, _, _⟩) rfl rfl ?_); intro w8 HB8 HW8; have hl8 := HW8.out.size)
    | ((with_reducible refine wpList_store40 (op := ⟨none, .store 40 (.tmp 10) (.tmp 30), _, _, _, _⟩) rfl (.tmp 10) (.tmp 30) rfl rfl (w7.setRow w6.heap.size (enc C)).heap.size (by with_unfolding_all rfl) (by with_unfolding_all rfl) HB8.out ?_); have cm : (w8.setRow (w7.setRow w6.heap.size (enc C)).heap.size ((masksL.map (Value.int .u8)).toArray)).cell? ⟨(w7.setRow w6.heap.size (enc C)).heap.size, k, none⟩ = some (.int .u8 (masksL.getD k 0)) := ((HB8.out.setRow ((masksL.map (Value.int .u8)).toArray)).cell k).trans hmk; have hgm := (HB8.out.setRow ((masksL.map (Value.int .u8)).toArray)).lt; simp only [setRow_size] at cm hgm)
    | (with_reducible refine wpList_load29 (op := ⟨some 57, _, _, _, _, _⟩) rfl (.tmp 9) rfl w6.heap.size (by with_unfolding_all rfl) (enc C) (((HB7.out.setRow (enc C)).below HW8.out (HB7.out.setRow (enc C)).lt).farRow (k := w7.heap.size) (by omega) _) HSC.out ?_))
  have HBC : Hid (Blk (w8.setRow w7.heap.size ((masksL.map (Value.int .u8)).toArray)) w6.heap.size 29 (enc C)) := (((HB7.out.setRow (enc C)).below HW8.out (HB7.out.setRow (enc C)).lt).farRow (k := w7.heap.size) (by omega) _)
  have HBB : Hid (Blk (w8.setRow w7.heap.size ((masksL.map (Value.int .u8)).toArray)) g7 29 (enc B)) := ((((HB6.out.below HW7.out hl6).farRow (k := w6.heap.size) (by omega) (enc C)).below HW8.out (((HB6.out.below HW7.out hl6).farRow (k := w6.heap.size) (by omega) (enc C)).lt)).farRow (k := w7.heap.size) (by have := HB6.out.lt; omega) _)
  have HBW : Hid (Below w.heap.size w (w8.setRow w7.heap.size ((masksL.map (Value.int .u8)).toArray))) := (below_setRow ((below_setRow (HW6.out.trans (HW7.out.mono hs6)) hs6 (enc C)).trans (HW8.out.mono (by show w.heap.size ≤ (w7.setRow w6.heap.size (enc C)).heap.size; have := (below_setRow (HW6.out.trans (HW7.out.mono hs6)) hs6 (enc C)).size; exact this))) (by have := HW7.out.size; omega) ((masksL.map (Value.int .u8)).toArray))
  generalize w8.setRow w7.heap.size ((masksL.map (Value.int .u8)).toArray) = w9 at *
  refine (read_low C HOC.out.toOkR k h22 _).mono ?_
  rintro e wa ⟨rfl, hc1, hf1, hz1, hba⟩
  clear hc1 hf1 hz1
  have HBa := hid_ (HBB.out.below hba HBB.out.lt)
  have HWa := hid_ (below_join HBW.out hba)
  clear hba
  rw [HC.out]
  go_wp2_with (with_reducible refine wpList_load29w (op := ⟨some 63, _, _, _, _, _⟩) (by with_unfolding_all rfl) (.tmp 7) rfl g7 (by with_unfolding_all rfl) (enc B) HBa.out HSB.out ?_)
  refine (read_none B (-1) (by omega) _).mono ?_
  rintro e wb ⟨rfl, hc1, hf1, hz1, hbb⟩
  clear hc1 hf1 hz1
  have HBb := hid_ (HBa.out.below hbb HBa.out.lt)
  have HWb := hid_ (below_join HWa.out hbb)
  clear hbb
  go_wp2_with (with_reducible refine wpList_load29w (op := ⟨some 68, _, _, _, _, _⟩) (by with_unfolding_all rfl) (.tmp 7) rfl g7 (by with_unfolding_all rfl) (enc B) HBb.out HSB.out ?_)
  refine (read_none B 48 (by omega) _).mono ?_
  rintro e wc ⟨rfl, hc1, hf1, hz1, hbc⟩
  clear hc1 hf1 hz1
  go_wp2_with fail
  go_ret
  exact .of (by first | rfl | simp) (below_join HWb.out hbc)

set_option maxRecDepth 20000 in
set_option maxHeartbeats 2000000 in
theorem walkPow (a : Option Addr) (len cap : Nat) (z : Unit) (hl : len ≤ 40) (n x : Int) (hk : n % 48 = 22) (hn0 : 0 ≤ n) (hn1 : n ≤ 255) (hx0 : 0 ≤ x) (hx1 : x ≤ 255)  (w : World) (hops : IsOps w a len z) :
    Calls Try.prog 6 #[.slice a len cap, .int .u8 n, .int .u8 x] w (Ret (.bool true) w) := by
  have HP := hid_ hops
  have HZ := hid_ (enc_size zeroB rfl)
  have ql : decide (40 < (len : Int)) = false := by simp; omega
  have ew : wrap64 n = n := wrap_small n hn0 (by omega)
  have hz40 : ((Try.prog.info? 40).bind (·.zero)).map (·.cells.size) = some masksL.length := by kernel_rfl
  have hs5 : (Try.prog.info? 5).map (·.size) = some 1 := by kernel_rfl
  skip
  clear hops
  go_enter Try.func6, Try.ntmps6
  go_wp2_with fail
  refine (awake_any _).mono ?_
  rintro e w1 ⟨rfl, hc1, hf1, hz1, hb1⟩
  clear hc1 hf1 hz1
  have HP1 := hid_ (HP.out.below hb1)
  have HW1 := hid_ hb1
  clear hb1
  go_wp2_with fail
  refine (play_any a len cap z (by omega) _ HP1.out).mono ?_
  rintro e w2 ⟨b, hbok, rfl, hc1, hf1, hz1, hb2⟩
  clear hc1 hf1 hz1 HP1 HP
  have HW2 := hid_ (below_join HW1.out hb2)
  clear hb2 HW1
  have HOb := hid_ hbok
  clear hbok
  go_wp2_with fail
  refine (write_any b HOb.out 22 128 (by omega) (by omega) _).mono ?_
  rintro e w3 ⟨rfl, hc1, hf1, hz1, hb3⟩
  clear hc1 hf1 hz1
  have HW3 := hid_ (below_join HW2.out hb3)
  have hs3 := HW3.out.size
  clear hb3 HW2
  have HOB := hid_ (write_ok HOb.out 22 128 (by omega) (by omega))
  have HBon : Hid ((writeB b 22 128).on = true) := hid_ (switch_isOn b true)
  have HSB := hid_ (enc_size _ HOB.out.regs)
  have H1B := hid_ (enc_one (writeB b 22 128))
  generalize writeB b 22 128 = B at *
  clear HOb
  go_wp2_with (first
    | ((with_reducible refine wpList_allocZ2 (op := ⟨some 7, .alloc 29, _, _, _, _⟩) rfl rfl ?_); intro w4 HB4 HW4 hl4)
    | (with_reducible refine wpList_store29 (op := ⟨none, .store 29 (.tmp 7) (.tmp 22), _, _, _, _⟩) rfl (.tmp 7) (.tmp 22) rfl w3.heap.size (enc zeroB) (enc B) (by with_unfolding_all rfl) (by with_unfolding_all rfl) HB4.out HZ.out HSB.out H1B.out ?_)
    | (with_reducible refine wpList_load29 (op := ⟨some 26, _, _, _, _, _⟩) rfl (.tmp 7) rfl w3.heap.size (by with_unfolding_all rfl) (enc B) (HB4.out.setRow _) HSB.out ?_))
  have HB5 : Hid (Blk (w4.setRow w3.heap.size (enc B)) w3.heap.size 29 (enc B)) := HB4.out.setRow _
  have HW5 : Hid (Below w.heap.size w (w4.setRow w3.heap.size (enc B))) := below_setRow (HW3.out.trans (HW4.out.mono hs3)) hs3 _
  clear HB4 HW3 HW4 hl4
  generalize w4.setRow w3.heap.size (enc B) = w5 at *
  generalize w3.heap.size = g7 at *
  refine (write_any B HOB.out 22 x hx0 hx1 _).mono ?_
  rintro e w6 ⟨rfl, hc1, hf1, hz1, hb6⟩
  clear hc1 hf1 hz1
  have HB6 := hid_ (HB5.out.below hb6 HB5.out.lt)
  have HW6 := hid_ (below_join HW5.out hb6)
  have hs6 := HW6.out.size
  have hl6 := HB6.out.lt
  clear hb6 HB5 HW5
  have HOC := hid_ (write_ok HOB.out 22 x hx0 hx1)
  have HSC := hid_ (enc_size _ HOC.out.regs)
  have H1C := hid_ (enc_one (writeB B 22 x))
  have hq : writeB B 22 x = switchB B (decide (128 ≤ x)) := write_22 B x
  rw [hq] at HOC HSC H1C ⊢
  have HON : Hid ((switchB B (decide (128 ≤ x))).on = decide (128 ≤ x)) := hid_ (switch_isOn B _)
  clear hq
  generalize switchB B (decide (128 ≤ x)) = C at *
  go_wp2_with (first
    | ((with_reducible refine wpList_allocZ2 (op := ⟨some 9, .alloc 29, _, _, _, _⟩) rfl rfl ?_); intro w7 HB7 HW7 hl7)
    | (with_reducible refine wpList_store29 (op := ⟨none, .store 29 (.tmp 9) (.tmp 29), _, _, _, _⟩) rfl (.tmp 9) (.tmp 29) rfl w6.heap.size (enc zeroB) (enc C) (by with_unfolding_all rfl) (by with_unfolding_all rfl) HB7.out HZ.out HSC.out H1C.out ?_)
    | (with_reducible refine wpList_buildFlatArrTo (o := ⟨some 30, _, _, _, _, _⟩) rfl 40 5 23 _ rfl .u8 masksL (some 30) rfl Try.underlying40 hs5 hz40 (by kernel_rfl) ?_)
    | ((with_reducible refine wpList_alloc40 (op := ⟨some 10, .alloc 40, _, _, _, _⟩) rfl rfl ?_); intro w8 HB8 HW8; have hl8 := HW8.out.size)
    | ((with_reducible refine wpList_store40 (op := ⟨none, .store 40 (.tmp 10) (.tmp 30), _, _, _, _⟩) rfl (.tmp 10) (.tmp 30) rfl rfl (w7.setRow w6.heap.size (enc C)).heap.size (by with_unfolding_all rfl) (by with_unfolding_all rfl) HB8.out ?_); skip)
    | (with_reducible refine wpList_load29 (op := ⟨some 33, _, _, _, _, _⟩) rfl (.tmp 9) rfl w6.heap.size (by with_unfolding_all rfl) (enc C) (((HB7.out.setRow (enc C)).below HW8.out (HB7.out.setRow (enc C)).lt).farRow (k := w7.heap.size) (by omega) _) HSC.out ?_))
  have HBC : Hid (Blk (w8.setRow w7.heap.size ((masksL.map (Value.int .u8)).toArray)) w6.heap.size 29 (enc C)) := (((HB7.out.setRow (enc C)).below HW8.out (HB7.out.setRow (enc C)).lt).farRow (k := w7.heap.size) (by omega) _)
  have HBW : Hid (Below w.heap.size w (w8.setRow w7.heap.size ((masksL.map (Value.int .u8)).toArray))) := (below_setRow ((below_setRow (HW6.out.trans (HW7.out.mono hs6)) hs6 (enc C)).trans (HW8.out.mono (by show w.heap.size ≤ (w7.setRow w6.heap.size (enc C)).heap.size; have := (below_setRow (HW6.out.trans (HW7.out.mono hs6)) hs6 (enc C)).size; exact this))) (by have := HW7.out.size; omega) ((masksL.map (Value.int .u8)).toArray))
  generalize w8.setRow w7.heap.size ((masksL.map (Value.int .u8)).toArray) = w9 at *
  refine (read_power C HOC.out.toOkR _).mono ?_
  rintro e wa ⟨rfl, hc1, hf1, hz1, hba⟩
  clear hc1 hf1 hz1
  have HBa := hid_ (HBC.out.below hba HBC.out.lt)
  have HWa := hid_ (below_join HBW.out hba)
  clear hba
  have e1 := acc_112 C
  have e2 : accB C 4 / 128 = x / 128 := by
    rw [acc_128 C, HON.out]
    by_cases h : 128 ≤ x
    · rw [decide_eq_true h]; simp; omega
    · rw [decide_eq_false h]; simp; omega
  go_wp2_with (with_reducible refine wpList_load29w (op := ⟨some 39, _, _, _, _, _⟩) (by with_unfolding_all rfl) (.tmp 9) rfl w6.heap.size (by with_unfolding_all rfl) (enc C) HBa.out HSC.out ?_)
  refine (read_power C HOC.out.toOkR _).mono ?_
  rintro e wb ⟨rfl, hc1, hf1, hz1, hbb⟩
  clear hc1 hf1 hz1
  go_wp2_with fail
  go_ret
  exact .of (by first | rfl | simp) (below_join HWa.out hbb)

theorem walkOut (a : Option Addr) (len cap : Nat) (z : Unit) (hl : 40 < len) (n x : Int) (w : World) :
    Calls Try.prog 6 #[.slice a len cap, .int .u8 n, .int .u8 x] w (Ret (.bool true) w) := by
  have ql : decide (40 < (len : Int)) = true := by simp; omega
  go_enter Try.func6, Try.ntmps6
  go_wp2_with fail
  refine (awake_any _).mono ?_
  rintro e w1 ⟨rfl, hc1, hf1, hz1, hb1⟩
  clear hc1 hf1 hz1
  go_wp2_with fail
  refine (awake_any _).mono ?_
  rintro e w2 ⟨rfl, hc1, hf1, hz1, hb2⟩
  clear hc1 hf1 hz1
  go_wp2_with fail
  go_ret
  exact .of rfl (below_join hb1 hb2)
theorem walk (w : World) (a : Option Addr) (len cap : Nat) (z : Unit) (n x : Int) (hops : IsOps w a len z) (hn0 : 0 ≤ n) (hn1 : n ≤ 255) (hx0 : 0 ≤ x) (hx1 : x ≤ 255) :
    Calls Try.prog 6 #[.slice a len cap, .int .u8 n, .int .u8 x] w (Ret (.bool true) w) := by
  by_cases hl : 40 < len
  · exact walkOut a len cap z hl n x w
  · obtain ⟨k, hk, hk48⟩ : ∃ k : Nat, n % 48 = k ∧ k < 48 := ⟨(n % 48).toNat, by omega, by omega⟩
    by_cases h22 : k < 22
    · exact walkLow a len cap z (by omega) n x k hk hn0 hn1 hx0 hx1 h22 w hops
    · by_cases h23 : k = 22
      · exact walkPow a len cap z (by omega) n x (by omega) hn0 hn1 hx0 hx1 w hops
      · by_cases h32 : k < 32
        · exact walkMid a len cap z (by omega) n x k hk hn0 hn1 hx0 hx1 (by omega) h32 w hops
        · exact walkHi a len cap z (by omega) n x k hk hn0 hn1 hx0 hx1 (by omega) hk48 w hops
end soundReads
end Go.Proofs.Ytacbdapgdgliiaa
