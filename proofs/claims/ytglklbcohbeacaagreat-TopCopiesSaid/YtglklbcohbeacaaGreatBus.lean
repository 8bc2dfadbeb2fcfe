/- Contracts of what a processor sees of a machine. -/
import Derived.Test.YtglklbcohbeacaaGreatCycle
namespace Go.Proofs.YtglklbcohbeacaaGreat
open Go.RowKit
set_option linter.unusedSimpArgs false
set_option linter.unusedVariables false

/-- Where an append lays: in the row that is there, or in a new one. -/
theorem run_append_where {P : Program} (w : World) (t ty e : TypeId) (i : TypeInfo) (z : Value) (size bytes : Nat) (ht : P.underlying t = some (.slice e)) (hi : P.info? e = some i) (hz : i.zero = some z)
    (hsize : i.size = size) (hby : i.bytes = bytes) (v : Value) (n : Nat) (xs : List Value) (hown : w.ownsRow 0 e size v n xs)
    (a : Addr) (m c : Nat) (news : List Value) (hl : news.length = m * size) (hnews : ∀ j u, news[j]? = some u → w.cell? (a.add j) = some u) (h1 : ∀ u ∈ news, u.oneCell' = true) (h0 : 0 < m)
    (h63 : n + m ≤ maxLen) (hbytes : (n + m) * bytes ≤ 140737488355328) (v' : Value) (w' : World) (hr : (Builtin.append_ #[t, t] ty #[v, .slice (some a) m c]).run P w = .ok v' w') :
    v'.ownBlock = v.ownBlock ∨ v'.ownBlock = some w.heap.size := by
  subst hsize
  subst hby
  have hsmall : n + m ≤ 9223372036854775807 := by simp only [maxLen] at h63; omega
  rcases hown.2 with ⟨rfl, rfl⟩ | ⟨g, cap, cur, rfl, hbg, hg, hnc, hcm, hcs, htake⟩
  · have h2 := run_append_nil (P := P) w t ty e i z ht hi hz a m c news hl hnews h0 (by omega) (by have hb := hbytes; simp only [Nat.zero_add] at hb; omega)
    rw [h2] at hr
    cases hr
    exact .inr rfl
  · by_cases hroom : n + m ≤ cap
    · have hfit : n * i.size + news.length ≤ cur.size := by rw [hl, hcs, ← Nat.add_mul]; exact Nat.mul_le_mul_right _ hroom
      have h2 := run_append_room (P := P) w t ty e i ht hi g n cap cur hg a m c news hl hnews h1 hroom hfit
      rw [h2] at hr
      cases hr
      exact .inl rfl
    · have holds : ∀ j u, xs[j]? = some u → w.cell? ((⟨g, 0, none⟩ : Addr).add j) = some u := hown.cells (g := g) rfl
      have h2 := run_append_grow (P := P) w t ty e i z ht hi hz ⟨g, 0, none⟩ n cap xs hown.1 holds a m c news hl hnews (by omega) (by omega) (growslice_fits (by omega) hbytes)
      rw [h2] at hr
      cases hr
      exact .inr rfl
theorem wp_append_acc {P : Program} {o : Oper} {a : Act} {w : World} {K : Act → World → Prop} {Q : Exit → Act → World → Prop} (s x : Operand) (t : TypeId)
    (ho : o.op = .call { callee := .builtin .append, args := #[s, x], argTypes := #[t, t] })
    (e : TypeId) (i : TypeInfo) (z : Value) (size bytes : Nat) (ht : P.underlying t = some (.slice e)) (hi : P.info? e = some i) (hz : i.zero = some z)
    (hsize : i.size = size) (hby : i.bytes = bytes) (hzs : z.cells.size = size) (hsz : 0 < size)
    (v : Value) (n : Nat) (xs : List Value) (hs : a.eval s = v) (hown : w.ownsRow 0 e size v n xs)
    (ad : Addr) (m c : Nat) (news : List Value) (hx : a.eval x = .slice (some ad) m c) (hl : news.length = m * size) (hnews : ∀ j u, news[j]? = some u → w.cell? (ad.add j) = some u) (h1 : ∀ u ∈ news, u.oneCell' = true) (h0 : 0 < m)
    (h63 : n + m ≤ maxLen) (hbytes : (n + m) * bytes ≤ 140737488355328)
    (h : ∀ v' w', Hid (w'.ownsRow 0 e size v' (n + m) (xs ++ news)) → Hid (w.grownBy w' v.ownBlock) → Hid (v'.ownBlock = v.ownBlock ∨ v'.ownBlock = some w.heap.size) → K (a.put o.dst v') w') : o.wp P a w K Q := by
  obtain ⟨v', w', hr, h2, h3, h4⟩ := run_append_own (P := P) w 0 t o.type e i z size bytes ht hi hz hsize hby hzs hsz v n xs hown ad m c news hl hnews h1 h63 hbytes (Nat.zero_le _)
  have h5 := run_append_where w t o.type e i z size bytes ht hi hz hsize hby v n xs hown ad m c news hl hnews h1 h0 h63 hbytes v' w' hr
  unfold Oper.wp execOp
  simp only [ho, resolve, invoke, builtin, Sem.run_bind, Sem.run_pure, Result.andThen_ok, List.map_toArray, List.map_cons, List.map_nil, hs, hx, hr]
  exact h v' w' h2 h3 h5
def Mc.log (M : Mc) : Mc := { M with n := M.n + 1 }
section
variable {w w' w1 w2 : World} {S : St} {M M' : Mc} {A A' : Option Nat} {cnt : Int} {acc v : Value} {xs ys : List Value} {X : Nat → Prop}
theorem MachP.append (h : MachP w S M A cnt acc xs) (ho : w1.ownsRow 0 230 3 v (M.n + 1) ys) (hg : w.grownBy w1 acc.ownBlock) (hn : v.ownBlock = acc.ownBlock ∨ v.ownBlock = some w.heap.size)
    (hs : Step (· = S.m) w1 w2) (hb : Blk w2 S.m 86 (mlist S M cnt v).toArray) : MachP w2 S M.log v.ownBlock cnt v ys ∧ Chg S X A w w2 v.ownBlock := by
  have hab := h.ab
  have hm := h.blk.lt
  have hu := h.ult
  have hr := h.rom.lt
  have ht := h.tab.lt
  have st : Step (fun k => A = some k) w w1 := ⟨hg.os, hg.tape, hg.output, hg.size, fun k hk hx => hg.block k hk (fun e => hx (by rw [← hab, e]))⟩
  have keep : ∀ k, k < w.heap.size → A ≠ some k → k ≠ S.m → w2.heap[k]? = w.heap[k]? := fun k hk ha hkm => (hs.block k (Nat.lt_of_lt_of_le hk hg.size) hkm).trans (st.block k hk ha)
  have hv : ∀ k, k < w.heap.size → A ≠ some k → v.ownBlock ≠ some k := fun k hk ha e => by
    rcases hn with e2 | e2
    · exact ha (by rw [← hab, ← e2, e])
    · rw [e2] at e; have := Option.some.inj e; omega
  refine ⟨⟨hb, h.cnt0, h.cnt1, ⟨ho.1, ?_⟩, rfl, h.work, ⟨(keep S.rb hr h.ar (Ne.symm h.mr)).trans h.rom.1, h.rom.2⟩, h.romlen, (World.cell?_of_block (keep S.u hu h.au (Ne.symm h.mu))).trans h.unit, (keep S.tb ht h.at_ (Ne.symm h.mt)).trans h.tab,
    h.mu, h.mr, h.mt, h.ur, h.ut, h.rt, hv _ hm h.am, hv _ hu h.au, hv _ hr h.ar, hv _ ht h.at_⟩, ⟨?_, ?_⟩⟩
  · rcases ho.2 with hn2 | ⟨g, cap, cur, rfl, hb2, hgg, rest⟩
    · exact .inl hn2
    · refine .inr ⟨g, cap, cur, rfl, hb2, ?_, rest⟩
      rw [hs.block g (Array.getElem?_eq_some_iff.1 hgg).1 (fun e => hv _ hm h.am (by simp only [Value.ownBlock]; exact congrArg some e))]
      exact hgg
  · refine ⟨hs.os.trans hg.os, hs.tape.trans hg.tape, hs.output.trans hg.output, Nat.le_trans hg.size hs.size, fun k hk hx => keep k hk (fun e => hx (.inr (.inr (.inl e)))) (fun e => hx (.inl e))⟩
  · rcases hn with e | e
    · exact .inl (e.trans hab)
    · exact .inr ⟨_, e, Nat.le_refl _⟩
theorem Busy.pure (h : Mach w S M A) : Busy S X M A w v (.returned v) w := ⟨rfl, A, h, Chg.refl _ _ _ _⟩
end
theorem size57 : (Tryz.prog.info? 57).map (·.size) = some 8 := by kernel_rfl
theorem size49 : (Tryz.prog.info? 49).map (·.size) = some 1 := by kernel_rfl
theorem size5 : (Tryz.prog.info? 5).map (·.size) = some 1 := by kernel_rfl
theorem hd123 (S : St) (M : Mc) (cnt : Int) : (hd S M cnt)[123]? = some (.slice (some ⟨S.rb, 0, none⟩) 32768 32768) := rfl
def mapL : List Value := [.int .i64 0, .int .i64 2, .int .i64 0, .bool true, .bool false, .int .i64 1, .int .i64 0, .int .u8 255]
theorem hd_map (S : St) (M : Mc) (cnt : Int) (acc : Value) : ((mlist S M cnt acc).toArray.toList.drop 14).take 8 = mapL := rfl
set_option maxRecDepth 100000 in
set_option maxHeartbeats 4000000 in
theorem peek_rom (S : St) (M : Mc) (A : Option Nat) (i : Nat) (hi : i < 16384) (w : World) (h : Mach w S M A) :
    Calls Tryz.prog 14 #[.pointer (some ⟨S.m, 0, none⟩), .int .u16 i] w (Ret (.int .u8 (S.zs.getD i 0)) w) := by
  obtain ⟨cnt, acc, xs, h⟩ := h
  have H0 := hid_ h
  have hW := hid_ (Below.refl w.heap.size w)
  have q1 : (i : Int) < 32768 := by omega
  have q2 : (0 : Int) ≤ (i : Int) := by omega
  clear h
  go_enter Tryz.func14, Tryz.ntmps14
  go_wp2_with fail
  refine wp_region_tail (S := (fun W => MachP W S M A cnt acc xs ∧ Below w.heap.size w W)) (tail := (fun _ => false)) (by kernel_rfl) ?hS1 (fun hHeld => ?rest1)
  case hS1 => (exact ⟨H0.out.below (B := w.heap.size) (Below.refl _ w).drew (Nat.le_refl _), (Below.refl _ w).drew⟩)
  refine wpAnyT_take (i := 0) (v := ?v2) rfl (by kernel_rfl) (by kernel_rfl) (by kernel_rfl) (by kernel_rfl) (by kernel_rfl) (fun _ _ _ h => h) (Or.inl ⟨by rfl, ?hy2⟩) (by assumption) ?rest2
  case hy2 => (intro w hSw; (try simp only [List.getElem_toArray, List.getElem_cons_succ, List.getElem_cons_zero]); (try dsimp only at hSw); go_simp; all_goals (with_reducible rfl))
  (try simp only [Act.put, List.getElem_toArray, List.getElem_cons_succ, List.getElem_cons_zero, List.setIfInBounds_toArray, List.set_cons_zero, List.set_cons_succ])
  refine wpAnyT_take (i := 1) (v := ?v3) rfl (by kernel_rfl) (by kernel_rfl) (by kernel_rfl) (by kernel_rfl) (by kernel_rfl) (fun _ _ _ h => h) (Or.inl ⟨by rfl, ?hy3⟩) (by assumption) ?rest3
  case hy3 => (intro w hSw; (try simp only [List.getElem_toArray, List.getElem_cons_succ, List.getElem_cons_zero]); (try dsimp only at hSw); go_simp; all_goals (with_reducible rfl))
  (try simp only [Act.put, List.getElem_toArray, List.getElem_cons_succ, List.getElem_cons_zero, List.setIfInBounds_toArray, List.set_cons_zero, List.set_cons_succ])
  refine wpAnyT_take (i := 2) (v := ?v4) rfl (by kernel_rfl) (by kernel_rfl) (by kernel_rfl) (by kernel_rfl) (by kernel_rfl) (fun _ _ _ h => h) (Or.inl ⟨by rfl, ?hy4⟩) (by assumption) ?rest4
  case hy4 => (intro w hSw; (try simp only [List.getElem_toArray, List.getElem_cons_succ, List.getElem_cons_zero]); (try dsimp only at hSw); go_simp; all_goals (with_reducible rfl))
  (try simp only [Act.put, List.getElem_toArray, List.getElem_cons_succ, List.getElem_cons_zero, List.setIfInBounds_toArray, List.set_cons_zero, List.set_cons_succ])
  refine wpAnyT_take (i := 3) (v := ?v5) rfl (by kernel_rfl) (by kernel_rfl) (by kernel_rfl) (by kernel_rfl) (by kernel_rfl) (fun _ _ _ h => h) (Or.inl ⟨by rfl, ?hy5⟩) (by assumption) ?rest5
  case hy5 => (intro W hW; have c := (hW.1.cell 123 (by omega)).trans (hd123 S M cnt); (try simp only [List.getElem_toArray, List.getElem_cons_succ, List.getElem_cons_zero]); go_simp; all_goals (with_reducible rfl))
  (try simp only [Act.put, List.getElem_toArray, List.getElem_cons_succ, List.getElem_cons_zero, List.setIfInBounds_toArray, List.set_cons_zero, List.set_cons_succ])
  refine wpAnyT_take (i := 4) (v := ?v6) rfl (by kernel_rfl) (by kernel_rfl) (by kernel_rfl) (by kernel_rfl) (by kernel_rfl) (fun _ _ _ h => h) (Or.inl ⟨by rfl, ?hy6⟩) (by assumption) ?rest6
  case hy6 => (intro w hSw; (try simp only [List.getElem_toArray, List.getElem_cons_succ, List.getElem_cons_zero]); (try dsimp only at hSw); go_simp; all_goals (with_reducible rfl))
  (try simp only [Act.put, List.getElem_toArray, List.getElem_cons_succ, List.getElem_cons_zero, List.setIfInBounds_toArray, List.set_cons_zero, List.set_cons_succ])
  refine wpAnyT_take (i := 5) (v := ?v7) rfl (by kernel_rfl) (by kernel_rfl) (by kernel_rfl) (by kernel_rfl) (by kernel_rfl) (fun _ _ _ h => h) (Or.inl ⟨by rfl, ?hy7⟩) (by assumption) ?rest7
  case hy7 => (intro w hSw; (try simp only [List.getElem_toArray, List.getElem_cons_succ, List.getElem_cons_zero]); (try dsimp only at hSw); go_simp; all_goals (with_reducible rfl))
  (try simp only [Act.put, List.getElem_toArray, List.getElem_cons_succ, List.getElem_cons_zero, List.setIfInBounds_toArray, List.set_cons_zero, List.set_cons_succ])
  refine wpAnyT_take (i := 6) (v := ?v8) rfl (by kernel_rfl) (by kernel_rfl) (by kernel_rfl) (by kernel_rfl) (by kernel_rfl) (fun _ _ _ h => h) (Or.inl ⟨by rfl, ?hy8⟩) (by assumption) ?rest8
  case hy8 => (intro w hSw; (try simp only [List.getElem_toArray, List.getElem_cons_succ, List.getElem_cons_zero]); (try dsimp only at hSw); go_simp; all_goals (with_reducible rfl))
  (try simp only [Act.put, List.getElem_toArray, List.getElem_cons_succ, List.getElem_cons_zero, List.setIfInBounds_toArray, List.set_cons_zero, List.set_cons_succ])
  refine wpAnyT_take (i := 7) (v := ?v9) rfl (by kernel_rfl) (by kernel_rfl) (by kernel_rfl) (by kernel_rfl) (by kernel_rfl) (fun _ _ _ h => h) (Or.inl ⟨by rfl, ?hy9⟩) (by assumption) ?rest9
  case hy9 => (intro w hSw; (try simp only [List.getElem_toArray, List.getElem_cons_succ, List.getElem_cons_zero]); (try dsimp only at hSw); go_simp; all_goals (with_reducible rfl))
  (try simp only [Act.put, List.getElem_toArray, List.getElem_cons_succ, List.getElem_cons_zero, List.setIfInBounds_toArray, List.set_cons_zero, List.set_cons_succ])
  refine wpAnyT_take (i := 8) (v := _) rfl (by kernel_rfl) (by kernel_rfl) (by kernel_rfl) (by kernel_rfl) (by kernel_rfl) (fun _ _ _ h => h) (yieldsIf_load_mid (by rfl) 57 (.tmp 18) rfl S.m 14 (by rfl) mapL _ (fun w hw => toArray_range hw.1.blk (hd_map S M cnt acc)) Tryz.underlying57 rfl (by with_unfolding_all exact size57)) (by assumption) ?rest10
  (try simp only [Act.put, List.getElem_toArray, List.getElem_cons_succ, List.getElem_cons_zero, List.setIfInBounds_toArray, List.set_cons_zero, List.set_cons_succ])
  refine wpAnyT_take (i := 9) (v := ?v11) rfl (by kernel_rfl) (by kernel_rfl) (by kernel_rfl) (by kernel_rfl) (by kernel_rfl) (fun _ _ _ h => h) (Or.inl ⟨by rfl, ?hy11⟩) (by assumption) ?rest11
  case hy11 => (intro w hSw; (try simp only [List.getElem_toArray, List.getElem_cons_succ, List.getElem_cons_zero]); (try dsimp only at hSw); go_simp; all_goals (with_reducible rfl))
  (try simp only [Act.put, List.getElem_toArray, List.getElem_cons_succ, List.getElem_cons_zero, List.setIfInBounds_toArray, List.set_cons_zero, List.set_cons_succ])
  refine wpAnyT_one (i := 10) rfl (by kernel_rfl) (fun K hK => ?_)
  (try simp only [List.getElem_toArray, List.getElem_cons_succ, List.getElem_cons_zero])
  go_simp
  refine (rom_low i (by omega) (by omega) _).mono ?_; rintro e w1 ⟨rfl, hc, hf, hz, hb⟩; have hHeld : (fun W => MachP W S M A cnt acc xs ∧ Below w.heap.size w W) w1 := ⟨hHeld.1.below hb (Nat.le_refl _), hHeld.2.trans (hb.mono hHeld.2.size)⟩; clear hc hf hz hb
  (try go_wp2_with fail)
  refine hK.out _ _ ?hS12 ?rest12
  case hS12 => (exact hHeld)
  clear hK K
  (try simp only [Act.put, List.getElem_toArray, List.getElem_cons_succ, List.getElem_cons_zero, List.setIfInBounds_toArray, List.set_cons_zero, List.set_cons_succ])
  refine wpAnyT_take (i := 11) (v := ?v13) rfl (by kernel_rfl) (by kernel_rfl) (by kernel_rfl) (by kernel_rfl) (by kernel_rfl) (fun _ _ _ h => h) (Or.inl ⟨by rfl, ?hy13⟩) (by assumption) ?rest13
  case hy13 => (intro w hSw; (try simp only [List.getElem_toArray, List.getElem_cons_succ, List.getElem_cons_zero]); (try dsimp only at hSw); go_simp; all_goals (with_reducible rfl))
  (try simp only [Act.put, List.getElem_toArray, List.getElem_cons_succ, List.getElem_cons_zero, List.setIfInBounds_toArray, List.set_cons_zero, List.set_cons_succ])
  refine wpAnyT_take (i := 12) (v := ?v14) rfl (by kernel_rfl) (by kernel_rfl) (by kernel_rfl) (by kernel_rfl) (by kernel_rfl) (fun _ _ _ h => h) (Or.inl ⟨by rfl, ?hy14⟩) (by assumption) ?rest14
  case hy14 => (intro W hW; have c := hW.1.rom.cell i (by rw [hW.1.romlen]; omega); (try simp only [List.getElem_toArray, List.getElem_cons_succ, List.getElem_cons_zero]); go_simp; all_goals (with_reducible rfl))
  (try simp only [Act.put, List.getElem_toArray, List.getElem_cons_succ, List.getElem_cons_zero, List.setIfInBounds_toArray, List.set_cons_zero, List.set_cons_succ])
  refine wpAnyT_one (i := 13) rfl (by kernel_rfl) (fun K hK => ?_)
  (try simp only [List.getElem_toArray, List.getElem_cons_succ, List.getElem_cons_zero])
  go_simp
  refine hK.out _ _ ?hS15 ?rest15
  case hS15 => (exact hHeld)
  clear hK K
  (try simp only [Act.put, List.getElem_toArray, List.getElem_cons_succ, List.getElem_cons_zero, List.setIfInBounds_toArray, List.set_cons_zero, List.set_cons_succ])
  refine wpAnyT_done (by kernel_rfl) ?_ _
  go_wp2_with fail
  go_ret
  exact .of rfl hHeld.2
end Go.Proofs.YtglklbcohbeacaaGreat
