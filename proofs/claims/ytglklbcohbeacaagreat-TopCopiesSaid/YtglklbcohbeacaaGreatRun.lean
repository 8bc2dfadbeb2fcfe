/- Contracts of a processor that runs on a bus: its bytes and pairs. -/
import Derived.Test.YtglklbcohbeacaaGreatRegs2
namespace Go.Proofs.YtglklbcohbeacaaGreat
open Go.RowKit
set_option linter.unusedSimpArgs false
set_option linter.unusedVariables false

theorem meth_idle (a : Addr) (w : World) : (method 392 102 (.agg #[.pointer (some a)]) "Idle").run Tryz.prog w = .ok (172, .agg #[.pointer (some a)]) w := by kernel_rfl
theorem meth_fetch (a : Addr) (w : World) : (method 392 102 (.agg #[.pointer (some a)]) "Fetch").run Tryz.prog w = .ok (171, .agg #[.pointer (some a)]) w := by kernel_rfl
theorem meth_read (a : Addr) (w : World) : (method 392 102 (.agg #[.pointer (some a)]) "Read").run Tryz.prog w = .ok (174, .agg #[.pointer (some a)]) w := by kernel_rfl
theorem meth_write (a : Addr) (w : World) : (method 392 102 (.agg #[.pointer (some a)]) "Write").run Tryz.prog w = .ok (175, .agg #[.pointer (some a)]) w := by kernel_rfl
theorem meth_pending (a : Addr) (w : World) : (method 392 102 (.agg #[.pointer (some a)]) "Pending").run Tryz.prog w = .ok (173, .agg #[.pointer (some a)]) w := by kernel_rfl
theorem nil_idle (a : Addr) (w : World) : (nilAhead 392 102 (.agg #[.pointer (some a)]) "Idle").run Tryz.prog w = .ok (some false) w := by kernel_rfl
theorem nil_fetch (a : Addr) (w : World) : (nilAhead 392 102 (.agg #[.pointer (some a)]) "Fetch").run Tryz.prog w = .ok (some false) w := by kernel_rfl
theorem nil_read (a : Addr) (w : World) : (nilAhead 392 102 (.agg #[.pointer (some a)]) "Read").run Tryz.prog w = .ok (some false) w := by kernel_rfl
theorem nil_write (a : Addr) (w : World) : (nilAhead 392 102 (.agg #[.pointer (some a)]) "Write").run Tryz.prog w = .ok (some false) w := by kernel_rfl
theorem nil_pending (a : Addr) (w : World) : (nilAhead 392 102 (.agg #[.pointer (some a)]) "Pending").run Tryz.prog w = .ok (some false) w := by kernel_rfl
/-- The cells of a processor that runs. -/
def rl (S : St) (R : Rg) : List Value := [.int .u8 R.a, .int .u8 R.f, .int .u8 R.b, .int .u8 R.c, .int .u8 R.d, .int .u8 R.e, .int .u8 R.h, .int .u8 R.l, .int .u16 R.sp, .int .u16 R.pc,
  .bool false, .bool false, .bool false, .bool false, .iface 102 (.agg #[.pointer (some ⟨S.m, 0, none⟩)])]
def RStep (r : Nat) (S : St) (R' : Rg) (w : World) (e : Ending) (w' : World) : Prop := e = .returned (.tuple #[]) ∧ Blk w' r 148 (rl S R').toArray ∧ Step (· = r) w w'
theorem rl_R (S : St) (R : Rg) : ((rl S R).toArray.toList.drop 0).take R.list.length = R.list := rfl
theorem rl_setR (S : St) (R R' : Rg) : (rl S R).toArray.toList.take 0 ++ R'.list ++ (rl S R).toArray.toList.drop (0 + R'.list.length) = (rl S R').toArray.toList := rfl
theorem rl_bus (S : St) (R : Rg) : (rl S R).toArray[14]? = some (.iface 102 (.agg #[.pointer (some ⟨S.m, 0, none⟩)])) := rfl
theorem rl_f (S : St) (R : Rg) : (rl S R).toArray[1]? = some (.int .u8 R.f) := rfl
theorem rl_a (S : St) (R : Rg) : (rl S R).toArray[0]? = some (.int .u8 R.a) := rfl
theorem rl_pc (S : St) (R : Rg) : (rl S R).toArray[9]? = some (.int .u16 R.pc) := rfl
theorem rl_size (S : St) (R : Rg) : (rl S R).toArray.size = 15 := rfl
theorem run_pair (S : St) (R : Rg) (r : Nat) (n : Int) (x : Int) (hp : ∀ w, Calls Tryz.prog 97 #[.agg R.list.toArray, .int .i64 n] w (Ret (.tuple #[.int .u16 x, .int .i64 0]) w)) (w : World) (h : Blk w r 148 (rl S R).toArray) :
    Calls Tryz.prog 83 #[.pointer (some ⟨r, 0, none⟩), .int .i64 n] w (Ret (.int .u16 x) w) := by
  have HP := hid_ hp
  have H := hid_ h
  clear hp h
  go_enter Tryz.func83, Tryz.ntmps83
  go_wp2_with (first
    | (with_reducible refine wpList_loadM (op := ⟨some 12, _, _, _, _, _⟩) rfl 31 (.tmp 11) rfl r 0 (by with_unfolding_all rfl) _ _ H.out R.list (rl_R S R) _ Tryz.underlying31 rfl (by with_unfolding_all exact size31) ?_)
    | (go_at_call 97; refine (HP.out _).mono ?_; rintro e w1 ⟨rfl, hc, hf, hz, hb⟩; clear hc hf hz))
  go_ret
  exact .of rfl hb
theorem run_get (S : St) (R : Rg) (r : Nat) (n : Int) (hn : n ≠ 6) (x : Int) (hp : ∀ w, Calls Tryz.prog 94 #[.agg R.list.toArray, .int .i64 n] w (Ret (.tuple #[.int .u8 x, .int .i64 0]) w)) (w : World) (h : Blk w r 148 (rl S R).toArray) :
    Calls Tryz.prog 73 #[.pointer (some ⟨r, 0, none⟩), .int .i64 n] w (Ret (.int .u8 x) w) := by
  have HP := hid_ hp
  have H := hid_ h
  have q : (n == 6) = false := by simp; omega
  clear hp h hn
  go_enter Tryz.func73, Tryz.ntmps73
  go_wp2_with (first
    | (with_reducible refine wpList_loadM (op := ⟨some 23, _, _, _, _, _⟩) rfl 31 (.tmp 22) rfl r 0 (by with_unfolding_all rfl) _ _ H.out R.list (rl_R S R) _ Tryz.underlying31 rfl (by with_unfolding_all exact size31) ?_)
    | (go_at_call 94; refine (HP.out _).mono ?_; rintro e w1 ⟨rfl, hc, hf, hz, hb⟩; clear hc hf hz))
  go_ret
  exact .of rfl hb
theorem run_set (S : St) (R R' : Rg) (r : Nat) (n : Int) (hn : n ≠ 6) (x : Int) (hp : ∀ w, Calls Tryz.prog 93 #[.agg R.list.toArray, .int .i64 n, .int .u8 x] w (Ret (.tuple #[.agg R'.list.toArray, .int .i64 0]) w)) (w : World) (h : Blk w r 148 (rl S R).toArray) :
    Calls Tryz.prog 72 #[.pointer (some ⟨r, 0, none⟩), .int .i64 n, .int .u8 x] w (RStep r S R' w) := by
  have HP := hid_ hp
  have H := hid_ h
  have O := hid_ R'.list_one
  have q : (n == 6) = false := by simp; omega
  clear hp h hn
  go_enter Tryz.func72, Tryz.ntmps72
  go_wp2_with (first
    | (with_reducible refine wpList_loadM (op := ⟨some 24, _, _, _, _, _⟩) rfl 31 (.tmp 23) rfl r 0 (by with_unfolding_all rfl) _ _ H.out R.list (rl_R S R) _ Tryz.underlying31 rfl (by with_unfolding_all exact size31) ?_)
    | (go_at_call 93; refine (HP.out _).mono ?_; rintro e w1 ⟨rfl, hc, hf, hz, hb⟩; clear hc hf hz; have H1 := hid_ (H.out.below hb H.out.lt))
    | ((with_reducible refine wpList_storeM (op := ⟨none, .store 31 (.tmp 32) (.tmp 28), _, _, _, _⟩) rfl 31 (.tmp 32) (.tmp 28) rfl r 0 (by with_unfolding_all rfl) _ _ H1.out R'.list (by with_unfolding_all rfl) (by with_unfolding_all exact size31) O.out (by rw [rl_size, Rg.list_length]; omega) (rl S R').toArray (rl_setR S R R') ?_); intro w2 H2 hs2))
  go_end0
  exact ⟨rfl, H2.out, (Step.of hb (Nat.le_refl _)).trans hs2.out⟩
theorem run_setpair (S : St) (R R' : Rg) (r : Nat) (n : Int) (x : Int) (hp : ∀ w, Calls Tryz.prog 96 #[.agg R.list.toArray, .int .i64 n, .int .u16 x] w (Ret (.tuple #[.agg R'.list.toArray, .int .i64 0]) w)) (w : World) (h : Blk w r 148 (rl S R).toArray) :
    Calls Tryz.prog 82 #[.pointer (some ⟨r, 0, none⟩), .int .i64 n, .int .u16 x] w (RStep r S R' w) := by
  have HP := hid_ hp
  have H := hid_ h
  have O := hid_ R'.list_one
  clear hp h
  go_enter Tryz.func82, Tryz.ntmps82
  go_wp2_with (first
    | (with_reducible refine wpList_loadM (op := ⟨some 12, _, _, _, _, _⟩) rfl 31 (.tmp 11) rfl r 0 (by with_unfolding_all rfl) _ _ H.out R.list (rl_R S R) _ Tryz.underlying31 rfl (by with_unfolding_all exact size31) ?_)
    | (go_at_call 96; refine (HP.out _).mono ?_; rintro e w1 ⟨rfl, hc, hf, hz, hb⟩; clear hc hf hz; have H1 := hid_ (H.out.below hb H.out.lt))
    | ((with_reducible refine wpList_storeM (op := ⟨none, .store 31 (.tmp 20) (.tmp 16), _, _, _, _⟩) rfl 31 (.tmp 20) (.tmp 16) rfl r 0 (by with_unfolding_all rfl) _ _ H1.out R'.list (by with_unfolding_all rfl) (by with_unfolding_all exact size31) O.out (by rw [rl_size, Rg.list_length]; omega) (rl S R').toArray (rl_setR S R R') ?_); intro w2 H2 hs2))
  go_end0
  exact ⟨rfl, H2.out, (Step.of hb (Nat.le_refl _)).trans hs2.out⟩
set_option maxRecDepth 100000 in
set_option maxHeartbeats 1000000 in
theorem run_idle (S : St) (M : Mc) (A : Option Nat) (R : Rg) (r : Nat) (hn0 : M.n ≤ 1000) (hc0 : 0 ≤ M.cyc) (hc1 : M.cyc ≤ 1000000) (w : World) (hM : Mach w S M A) (h : Blk w r 148 (rl S R).toArray) :
    Calls Tryz.prog 53 #[.pointer (some ⟨r, 0, none⟩), .int .i64 1] w (Busy S (fun _ => False) M.tick.log A w (.tuple #[])) := by
  have c := (h.cell 14).trans (rl_bus S R)
  have m1 := meth_idle
  have m2 := nil_idle
  go_enter Tryz.func53, Tryz.ntmps53
  go_wp2_with fail
  refine wp_loop_rounds 2 ?_
  rw [rounds_succ]
  go_wp2_with fail
  refine (idle_any S M A hn0 hc0 hc1 _ hM).mono ?_
  rintro e w1 ⟨rfl, A1, hM1, hC1⟩
  clear c hM h
  go_wp2_with fail
  rw [rounds_succ]
  go_wp2_with fail
  go_end0
  exact ⟨rfl, A1, hM1, hC1⟩
end Go.Proofs.YtglklbcohbeacaaGreat
