/- A board is equal to itself. -/
import Derived.Test.YtacbdapgdgliiaaReads
import Derived.ChangeKeysEq
namespace Go.Proofs.Ytacbdapgdgliiaa
open Go.RowKit
set_option linter.unusedSimpArgs false
set_option linter.unusedVariables false

theorem size24 : (Try.prog.info? 24).map (·.size) = some 48 := by kernel_rfl
theorem size27 : (Try.prog.info? 27).map (·.size) = some 16 := by kernel_rfl
theorem size26 : (Try.prog.info? 26).map (·.size) = some 4 := by kernel_rfl
theorem run_size {t n : Nat} (h : (Try.prog.info? t).map (·.size) = some n) (w : World) : (sizeOf t).run Try.prog w = .ok n w := by
  obtain ⟨i, hi, hs⟩ := Option.map_eq_some_iff.1 h
  simp [sizeOf, typeInfo, hi, hs]
theorem part24 (cs : Array Value) (w : World) : (part 24 cs 0).run Try.prog w = .ok (.agg (cs.extract 0 48)) w := by
  simp [part, isAgg, Sem.run_bind, run_underlying Try.underlying24, run_size size24]
theorem part27 (cs : Array Value) (w : World) : (part 27 cs 51).run Try.prog w = .ok (.agg (cs.extract 51 67)) w := by
  simp [part, isAgg, Sem.run_bind, run_underlying Try.underlying27, run_size size27]
theorem part26 (cs : Array Value) (off : Nat) (w : World) : (part 26 cs off).run Try.prog w = .ok (.agg (cs.extract off (off + 4))) w := by
  simp [part, isAgg, Sem.run_bind, run_underlying Try.underlying26, run_size size26]
theorem part_plain {e : Nat} (he : Try.prog.plainKey e = true) {xs : Array Value} {off : Nat} {v : Value} (hx : xs[off]? = some v) (w : World) : (part e xs off).run Try.prog w = .ok v w := run_part_plain w he hx
theorem eqFields_same (d : Nat) (xs : Array Value) (w : World) : ∀ fs : List Field, (∀ f ∈ fs, ∃ v, (part f.type xs f.offset).run Try.prog w = .ok v w ∧ (Op.equalIn d f.type v v).run Try.prog w = .ok true w) → (Op.eqFields d xs xs fs).run Try.prog w = .ok true w
  | [], _ => by simp [Op.eqFields]
  | f :: fs, h => by
    obtain ⟨v, h1, h2⟩ := h f (by simp)
    have ih := eqFields_same d xs w fs fun g hg => h g (by simp [hg])
    unfold Op.eqFields
    split
    · simp only [Sem.run_bind, h1, h2, Result.andThen_ok, Bool.not_true, Bool.false_eq_true, if_false]
      exact ih
    · exact ih
theorem eqItems_same (d e c : Nat) (xs : Array Value) (w : World) : ∀ is : List Nat, (∀ i ∈ is, ∃ v, (part e xs (i * c)).run Try.prog w = .ok v w ∧ (Op.equalIn d e v v).run Try.prog w = .ok true w) → (Op.eqItems d e c xs xs is).run Try.prog w = .ok true w
  | [], _ => by simp [Op.eqItems]
  | i :: is, h => by
    obtain ⟨v, h1, h2⟩ := h i (by simp)
    simp only [Op.eqItems, Sem.run_bind, h1, h2, Result.andThen_ok, Bool.not_true, Bool.false_eq_true, if_false]
    exact eqItems_same d e c xs w is fun j hj => h j (by simp [hj])
theorem int_same (d t : Nat) (k : IntKind) (ht : ∃ k', Try.prog.underlying t = some (.int k')) (a : Int) (w : World) : (Op.equalIn (d + 1) t (.int k a) (.int k a)).run Try.prog w = .ok true w := by
  obtain ⟨k', h⟩ := ht
  rw [run_equalIn_int w d t k k' a a h]; simp
theorem bool_same (d : Nat) (a : Bool) (w : World) : (Op.equalIn (d + 1) 4 (.bool a) (.bool a)).run Try.prog w = .ok true w := by
  rw [run_equalIn_bool' w d 4 a a Try.underlying4]; simp
theorem voice_same (d : Nat) (cs : Array Value) (o l e t : Value) (ob : Bool) (ln lv wt : Int) (h0 : cs[0]? = some (.bool ob)) (h1 : cs[1]? = some (.int .i64 ln)) (h2 : cs[2]? = some (.int .i64 lv)) (h3 : cs[3]? = some (.int .i64 wt)) (w : World) :
    (Op.equalIn (d + 2) 26 (.agg cs) (.agg cs)).run Try.prog w = .ok true w := by
  have hf : Try.prog.underlying 26 = some (.struct (Try.prog.fieldsOf 26)) := by kernel_rfl
  have hl : (Try.prog.fieldsOf 26).toList = [{ name := "On", type := 4, offset := 0, embedded := false, tag := "", pkgPath := "", byteOffset := 0 }, { name := "Length", type := 3, offset := 1, embedded := false, tag := "", pkgPath := "", byteOffset := 8 }, { name := "Level", type := 3, offset := 2, embedded := false, tag := "", pkgPath := "", byteOffset := 16 }, { name := "Wait", type := 3, offset := 3, embedded := false, tag := "", pkgPath := "", byteOffset := 24 }] := by kernel_rfl
  rw [run_equalIn_struct w (d + 1) 26 cs cs hf (by kernel_rfl)]
  refine eqFields_same _ _ _ _ ?_
  rw [hl]
  have hi : ∃ k', Try.prog.underlying 3 = some (.int k') := ⟨_, Try.underlying3⟩
  intro f hf
  simp only [List.mem_cons, List.not_mem_nil, or_false] at hf
  rcases hf with rfl | rfl | rfl | rfl
  · exact ⟨_, part_plain (by kernel_rfl) h0 w, bool_same d ob w⟩
  · exact ⟨_, part_plain (by kernel_rfl) h1 w, int_same d 3 .i64 hi ln w⟩
  · exact ⟨_, part_plain (by kernel_rfl) h2 w, int_same d 3 .i64 hi lv w⟩
  · exact ⟨_, part_plain (by kernel_rfl) h3 w, int_same d 3 .i64 hi wt w⟩
theorem ext_at (cs : Array Value) (a b i : Nat) (v : Value) (h : cs[a + i]? = some v) (hi : a + i < b) : (cs.extract a b)[i]? = some v := by
  rw [Array.getElem?_extract]
  have : a + i < cs.size := by
    rcases Nat.lt_or_ge (a + i) cs.size with h' | h'
    · exact h'
    · rw [Array.getElem?_eq_none h'] at h; cases h
  rw [if_pos (by omega)]
  exact h
theorem board_same (b : Bd) (hr : b.regs.length = 48) (w : World) : (Op.equalIn 10000 29 (.agg (enc b)) (.agg (enc b))).run Try.prog w = .ok true w := by
  have hf : Try.prog.underlying 29 = some (.struct (Try.prog.fieldsOf 29)) := by kernel_rfl
  have hl : (Try.prog.fieldsOf 29).toList.map (fun f => (f.type, f.offset)) = [(24, 0), (4, 48), (3, 49), (3, 50), (27, 51), (3, 67), (3, 68), (4, 69)] := by kernel_rfl
  rw [run_equalIn_struct w 9999 29 _ _ hf (by kernel_rfl)]
  refine eqFields_same _ _ _ _ ?_
  have hi : ∃ k', Try.prog.underlying 3 = some (.int k') := ⟨_, Try.underlying3⟩
  have h5 : ∃ k', Try.prog.underlying 5 = some (.int k') := ⟨_, Try.underlying5⟩
  intro f hfm
  have hm : (f.type, f.offset) ∈ [(24, 0), (4, 48), (3, 49), (3, 50), (27, 51), (3, 67), (3, 68), (4, 69)] := by
    rw [← hl]; exact List.mem_map_of_mem hfm
  simp only [List.mem_cons, List.not_mem_nil, or_false, Prod.mk.injEq] at hm
  rcases hm with ⟨e1, e2⟩ | ⟨e1, e2⟩ | ⟨e1, e2⟩ | ⟨e1, e2⟩ | ⟨e1, e2⟩ | ⟨e1, e2⟩ | ⟨e1, e2⟩ | ⟨e1, e2⟩ <;> rw [e1, e2]
  · refine ⟨_, part24 _ w, ?_⟩
    obtain ⟨i, hi5, _⟩ := Option.map_eq_some_iff.1 (show (Try.prog.info? 5).map (·.size) = some 1 by kernel_rfl)
    have hc : Try.prog.cellsOf 5 = 1 := by kernel_rfl
    rw [run_equalIn_array w 9998 _ _ Try.underlying24 hi5, hc]
    refine eqItems_same _ _ _ _ _ _ fun j hj => ?_
    have hj' : j < 48 := List.mem_range.1 hj
    refine ⟨.int .u8 (b.regs.getD j 0), part_plain (by kernel_rfl) ?_ w, int_same 9997 5 .u8 h5 _ w⟩
    rw [Nat.mul_one]
    exact ext_at _ 0 48 j _ (by rw [Nat.zero_add]; exact enc_reg b j (by omega)) (by omega)
  · exact ⟨_, part_plain (by kernel_rfl) (enc_tl b hr 0) w, bool_same 9998 _ w⟩
  · exact ⟨_, part_plain (by kernel_rfl) (enc_tl b hr 1) w, int_same 9998 3 .i64 hi _ w⟩
  · exact ⟨_, part_plain (by kernel_rfl) (enc_tl b hr 2) w, int_same 9998 3 .i64 hi _ w⟩
  · refine ⟨_, part27 _ w, ?_⟩
    obtain ⟨i, hi6, _⟩ := Option.map_eq_some_iff.1 size26
    have hc : Try.prog.cellsOf 26 = 4 := by kernel_rfl
    rw [run_equalIn_array w 9998 _ _ Try.underlying27 hi6, hc]
    refine eqItems_same _ _ _ _ _ _ fun j hj => ?_
    have hj' : j < 4 := List.mem_range.1 hj
    refine ⟨_, part26 _ _ w, ?_⟩
    have key : ∀ i, i < 4 → ∀ v, (enc b)[48 + (3 + 4 * j + i)]? = some v → (((enc b).extract 51 67).extract (j * 4) (j * 4 + 4))[i]? = some v := fun i hi v hv =>
      ext_at _ _ _ i v (ext_at _ _ _ (j * 4 + i) v (by rw [show 51 + (j * 4 + i) = 48 + (3 + 4 * j + i) by omega]; exact hv) (by omega)) (by omega)
    obtain rfl | rfl | rfl | rfl : j = 0 ∨ j = 1 ∨ j = 2 ∨ j = 3 := by omega
    · exact voice_same 9996 _ undef undef undef undef b.v0.on b.v0.len b.v0.lev b.v0.wait (key 0 (by omega) _ (enc_tl b hr 3)) (key 1 (by omega) _ (enc_tl b hr 4)) (key 2 (by omega) _ (enc_tl b hr 5)) (key 3 (by omega) _ (enc_tl b hr 6)) w
    · exact voice_same 9996 _ undef undef undef undef b.v1.on b.v1.len b.v1.lev b.v1.wait (key 0 (by omega) _ (enc_tl b hr 7)) (key 1 (by omega) _ (enc_tl b hr 8)) (key 2 (by omega) _ (enc_tl b hr 9)) (key 3 (by omega) _ (enc_tl b hr 10)) w
    · exact voice_same 9996 _ undef undef undef undef b.v2.on b.v2.len b.v2.lev b.v2.wait (key 0 (by omega) _ (enc_tl b hr 11)) (key 1 (by omega) _ (enc_tl b hr 12)) (key 2 (by omega) _ (enc_tl b hr 13)) (key 3 (by omega) _ (enc_tl b hr 14)) w
    · exact voice_same 9996 _ undef undef undef undef b.v3.on b.v3.len b.v3.lev b.v3.wait (key 0 (by omega) _ (enc_tl b hr 15)) (key 1 (by omega) _ (enc_tl b hr 16)) (key 2 (by omega) _ (enc_tl b hr 17)) (key 3 (by omega) _ (enc_tl b hr 18)) w
  · exact ⟨_, part_plain (by kernel_rfl) (enc_tl b hr 19) w, int_same 9998 3 .i64 hi _ w⟩
  · exact ⟨_, part_plain (by kernel_rfl) (enc_tl b hr 20) w, int_same 9998 3 .i64 hi _ w⟩
  · exact ⟨_, part_plain (by kernel_rfl) (enc_tl b hr 21) w, bool_same 9998 _ w⟩
end Go.Proofs.Ytacbdapgdgliiaa
