/- Summaries: elements, distances, places; valid ones. -/
import Derived.Test.YtbageimconenlaaGreatQE
import Derived.Test.YtbageimconenlaaGreatNB
import Derived.Test.YtbageimconenlaaGreatNC
namespace Go.Proofs.YtbageimconenlaaGreat
open Go.RowKit En
set_option linter.unusedVariables false
theorem info239 : (Tryz.prog.info? 239).map (fun i => (i.size, i.bytes, i.zero.map (·.cells.size))) = some (3, 24, some 3) := by kernel_rfl
theorem info239x : ∃ ie z, Tryz.prog.info? 239 = some ie ∧ ie.size = 3 ∧ ie.bytes = 24 ∧ ie.zero = some z ∧ z.cells.size = 3 := by
  have h := info239
  cases hi : Tryz.prog.info? 239 with
  | none => rw [hi] at h; cases h
  | some ie =>
    rw [hi] at h
    cases hz : ie.zero with
    | none => simp [hz] at h
    | some z =>
      simp [hz] at h
      exact ⟨ie, z, rfl, h.1, h.2.1, hz, h.2.2⟩
theorem agg239 : aggB Tryz.prog 239 = some true := by kernel_rfl
section
variable {s : St} {o : Oper} {c : Call}
theorem oke_idx {A0 off len cc i : Nat} {b : Box} {x ix : Operand} (ho : o.op = .indexAddr 236 x ix) (hx : ev s x = some (.slice (some ⟨A0, off, none⟩) len cc)) (hix : ev s ix = some (.int .i64 (i : Nat))) (hb : En.lk s.σ A0 = some b) (hnb : nonE b = true) (hi : i < len) :
    AOk Tryz.prog s o ⟨rq s [x, ix], [(A0, b)]⟩ ⟨.pointer (some ⟨A0, off + i * 3, none⟩), [], []⟩ := by
  obtain ⟨ie, z, hie, h1, _⟩ := info239x
  refine .quiet fun B => ⟨Does.index (P := Tryz.prog) (B := B) ho hx hix Tryz.underlying236 hie h1 hnb rfl hi, ⟨fun t v h => rq_in h, fun n b' h => ?_⟩, rfl, rfl⟩
  simp at h; obtain ⟨rfl, rfl⟩ := h; exact hb
theorem oke_ld {A0 off : Nat} {b : Box} {x : Operand} {v : Int} {j : Nat} (ho : o.op = .load 239 x) (hx : ev s x = some (.pointer (some ⟨A0, off, none⟩))) (hb : En.lk s.σ A0 = some b) (hv : ∀ (i : Nat) (u : Value), (enC v j)[i]? = some u → b.cells[off + i]? = some u) :
    AOk Tryz.prog s o ⟨rq s [x], [(A0, b)]⟩ ⟨.agg (List.toArray (enC v j)), [], []⟩ := by
  obtain ⟨ie, z, hie, h1, _⟩ := info239x
  refine .quiet fun B => ⟨Does.loadRow ho hx hb agg239 hie (by rw [h1]; rfl) hv, ⟨fun t v h => rq_in h, fun n b' h => ?_⟩, rfl, rfl⟩
  simp at h; obtain ⟨rfl, rfl⟩ := h; exact hb
end
section
variable {s : St} {o : Oper} {c : Call}
theorem oke_app (q : Nat) {D Y1 nd c2 k : Nat} {l : List Int} {v : Int} {x y : Operand} (hl : l.length = nd) (hlt : nd < 1000000) (ho : o.op = .call c) (hcal : c.callee = .builtin .append) (hargs : c.args = #[x, y]) (hty : c.argTypes = #[236, 236])
    (hx : ev s x = some (.slice (some ⟨D, 0, none⟩) nd 0)) (hy : ev s y = some (.slice (some ⟨Y1, 0, none⟩) 1 c2)) (hD : En.lk s.σ D = some (.vec 239 3 (enL k l))) (hY : En.lk s.σ Y1 = some (.vec 239 3 (enC v (k + nd)))) (hq : memB q s.al = false) :
    AOk Tryz.prog s o ⟨rq s [x, y], [(D, .vec 239 3 (enL k l)), (Y1, .vec 239 3 (enC v (k + nd)))]⟩ ⟨.slice (some ⟨q, 0, none⟩) (nd + 1) 0, [(D, .gone)], [(q, .vec 239 3 (enL k (l ++ [v])))]⟩ := by
  obtain ⟨ie, z, hie, h1, h2, h3, h4⟩ := info239x
  have hC : (enL k l).take (nd * 3) = enL k l := List.take_of_length_le (by rw [enL_len]; omega)
  have hE : enL k (l ++ [v]) = enL k l ++ enC v (k + nd) := by rw [enL_app, hl]; rfl
  refine ⟨fun B => ?_, ⟨fun t v h => rq_in h, fun n b h => ?_⟩, fun n b h => ?_, .inr fun n b h => ?_, fun n b h => ?_⟩
  · have := Does.append (P := Tryz.prog) (B := B) (s := s) (o := o) (c := c) (t := 236) (e := 239) (x := x) (y := y) (es := 3) (bytes := 24) (len := nd) (m := 1) (q := q) (xs := (enL k l).take (nd * 3)) (news := enC v (k + nd)) (up := [(D, .gone)]) (σ := [(D, .vec 239 3 (enL k l)), (Y1, .vec 239 3 (enC v (k + nd)))]) ho hcal hargs hty Tryz.underlying236 hie h1 h2 h3 h4 (by decide) (.vec hx List.mem_cons_self (by rw [enL_len]; omega)) (.box hy (List.mem_cons_of_mem _ List.mem_cons_self) (fun j v h => by rw [Nat.zero_add]; exact h) rfl) (fun u hu => by simp only [enC, List.mem_cons, List.not_mem_nil, or_false] at hu; rcases hu with rfl | rfl | rfl <;> rfl) (by unfold maxLen; omega) (by omega)
    rw [hC, ← hE] at this
    exact this
  · simp at h; rcases h with ⟨rfl, rfl⟩ | ⟨rfl, rfl⟩ <;> assumption
  · simp at h; obtain ⟨rfl, rfl⟩ := h; exact ⟨_, List.mem_cons_self, rfl⟩
  · simp at h; exact h.2
  · simp at h; rw [h.1]; intro hm; rw [memB_iff.2 hm] at hq; cases hq
theorem one_en : ∀ (l : List Int) (k : Nat), ∀ u ∈ enL k l, oneC u = true
  | [], k, u, hu => absurd hu List.not_mem_nil
  | v :: l, k, u, hu => by
    rw [enL] at hu
    simp only [List.mem_cons] at hu
    rcases hu with rfl | rfl | rfl | hu
    · rfl
    · rfl
    · rfl
    · exact one_en l (k + 1) u hu
theorem oke_copy (q : Nat) {D A0 k nd cc : Nat} {l : List Int} {x y : Operand} (hl : l.length = nd) (hlt : nd < 1000000) (ho : o.op = .call c) (hcal : c.callee = .builtin .append) (hargs : c.args = #[x, y]) (hty : c.argTypes = #[236, 236])
    (hx : ev s x = some (.slice (some ⟨D, 0, none⟩) 0 0)) (hy : ev s y = some (.slice (some ⟨A0, 0, none⟩) nd cc)) (hD : En.lk s.σ D = some (.vec 239 3 [])) (hY : En.lk s.σ A0 = some (.view 3 (enL k l))) (hq : memB q s.al = false) :
    AOk Tryz.prog s o ⟨rq s [x, y], [(D, .vec 239 3 []), (A0, .view 3 (enL k l))]⟩ ⟨.slice (some ⟨q, 0, none⟩) (0 + nd) 0, [(D, .gone)], [(q, .vec 239 3 (enL k l))]⟩ := by
  obtain ⟨ie, z, hie, h1, h2, h3, h4⟩ := info239x
  have hE : enL k l = ([] : List Value).take (0 * 3) ++ enL k l := by simp
  refine ⟨fun B => ?_, ⟨fun t v h => rq_in h, fun n b h => ?_⟩, fun n b h => ?_, .inr fun n b h => ?_, fun n b h => ?_⟩
  · have := Does.append (P := Tryz.prog) (B := B) (s := s) (o := o) (c := c) (t := 236) (e := 239) (x := x) (y := y) (es := 3) (bytes := 24) (len := 0) (m := nd) (q := q) (xs := ([] : List Value).take (0 * 3)) (news := enL k l) (up := [(D, .gone)]) (σ := [(D, .vec 239 3 []), (A0, .view 3 (enL k l))]) ho hcal hargs hty Tryz.underlying236 hie h1 h2 h3 h4 (by decide) (.vec hx List.mem_cons_self (Nat.le_refl _)) (.box hy (List.mem_cons_of_mem _ List.mem_cons_self) (fun j v h => by rw [Nat.zero_add]; exact h) (by rw [enL_len, hl])) (fun u hu => one_en l k u hu) (by unfold maxLen; omega) (by omega)
    rw [← hE] at this
    exact this
  · simp at h; rcases h with ⟨rfl, rfl⟩ | ⟨rfl, rfl⟩ <;> assumption
  · simp at h; obtain ⟨rfl, rfl⟩ := h; exact ⟨_, List.mem_cons_self, rfl⟩
  · simp at h; exact h.2
  · simp at h; rw [h.1]; intro hm; rw [memB_iff.2 hm] at hq; cases hq
end
set_option maxRecDepth 100000 in
theorem qf_far (v : Int) (r n d : Nat) (hr : r < 1000000) (hn : n < 1000000) (hd : d = (if r ≤ n then n - r else r - n)) (w : World) : Calls Tryz.prog 228 #[.agg #[.int .i64 v, .int .i64 ((r : Nat)), .int .i64 ((r : Nat))], .int .i64 ((n : Nat))] w (fun e w' => e = .returned (.int .i64 ((d : Nat))) ∧ Below w.heap.size w w') := by
  have w1 : IntKind.i64.wrap ((n : Int) - (r : Int)) = (n : Int) - (r : Int) := IntWalk.i64_in _ (by omega)
  have w2 : IntKind.i64.wrap ((r : Int) - (n : Int)) = (r : Int) - (n : Int) := IntWalk.i64_in _ (by omega)
  have hm : (if (r : Int) - (n : Int) > (n : Int) - (r : Int) then (r : Int) - (n : Int) else (n : Int) - (r : Int)) = (d : Int) := by rw [hd]; split <;> split <;> omega
  refine fun_flat tblOK mixedP Tryz.func228 rfl [.agg #[.int .i64 v, .int .i64 ((r : Nat)), .int .i64 ((r : Nat))], .int .i64 ((n : Nat))] w 14 [(0, .agg #[.int .i64 v, .int .i64 ((r : Nat)), .int .i64 ((r : Nat))]), (1, .int .i64 ((n : Nat)))] rfl rfl (by kernel_rfl) rfl rfl rfl _ rfl ?_
  repeat' (first | rw [w1] | rw [w2] | refine AR.auto rfl ?_ | refine AR.man (ok_max hm rfl rfl rfl rfl rfl) rfl rfl rfl ?_ | refine AR.nil ?_ | refine KF.mk ?_ | refine KT.mk (by kernel_rfl) ?_ | refine SQ.normal ?_ | refine AC.seq ?_ | refine AC.regF ?_ | refine AC.regT ?_ | refine AC.condT rfl ?_ | refine AC.condF rfl ?_ | refine AC.block ?_ | refine BQ.normal ?_ | refine BQ.ret ?_ | refine BQ.here ?_ | refine BQ.there rfl ?_ | refine SQ.ret ?_ | refine SQ.exit ?_ | refine AC.ret ?_ | refine AC.exit ?_ | refine AC.skip ?_ | (refine AR.split rfl (fun h => ?_) (fun h => ?_) <;> rw [h]) | (refine AC.cond rfl (fun h => ?_) (fun h => ?_) <;> rw [h]) | refine FQ.ret rfl rfl ?_ | refine FQ.normal rfl rfl ?_)
  all_goals rfl
theorem ent228 : Enters Tryz.prog 228 := enters Tryz.func228 (by kernel_rfl) (by kernel_rfl)
theorem ok_qf_far {v : Int} {r n d : Nat} (hr : r < 1000000) (hn : n < 1000000) (hd : d = (if r ≤ n then n - r else r - n)) {st : St} {o : Oper} {cl : Call} (ho : o.op = .call cl) (hc : cl.callee = .value (.func 228)) (hargs : evs st cl.args.toList = some [.agg #[.int .i64 v, .int .i64 ((r : Nat)), .int .i64 ((r : Nat))], .int .i64 ((n : Nat))]) : AOk Tryz.prog st o ⟨rq st cl.args.toList, []⟩ ⟨.int .i64 ((d : Nat)), [], []⟩ :=
  AOk.call (fun w => qf_far v r n d hr hn hd w) ent228 ho hc hargs rfl rfl
set_option maxRecDepth 100000 in
set_option maxHeartbeats 1000000 in
theorem qf_place (l : List Int) (n m : Nat) (hl : l.length = n) (hn : n ≤ 1000) (m1 : 1 ≤ m) (m2 : m ≤ n) (w : World) (A : Option Addr) (c : Nat) (h : SL w A n c 3 (enL 0 l)) :
    Calls Tryz.prog 218 #[.slice A n c, .int .i64 ((m : Nat)), .int .i64 0] w (fun e w' => e = .returned (.int .i64 ((m - 1 : Nat))) ∧ Below w.heap.size w w') := by
  refine fun_sliceF tblOK mixedP Tryz.func218 rfl (fun s => [s, .int .i64 ((m : Nat)), .int .i64 0]) n 3 (enL 0 l) h (by decide) (allFC_en l 0) [.slice (some ⟨0, 0, none⟩) n 0, .int .i64 ((m : Nat)), .int .i64 0] rfl (fun _ => rfl) 31 [(0, .slice (some ⟨0, 0, none⟩) n 0), (1, .int .i64 ((m : Nat))), (2, .int .i64 0)] rfl rfl (by kernel_rfl) rfl rfl _ rfl ?_
  repeat' (first | refine AR.auto rfl ?_ | refine AR.nil ?_ | refine KF.mk ?_ | refine KT.mk (by kernel_rfl) ?_ | refine SQ.normal ?_ | refine AC.seq ?_ | refine AC.regF ?_ | refine AC.regT ?_ | refine AC.condT rfl ?_ | refine AC.condF rfl ?_ | refine AC.block ?_ | refine BQ.normal ?_ | refine BQ.ret ?_ | refine BQ.here ?_ | refine BQ.there rfl ?_ | refine SQ.ret ?_ | refine SQ.exit ?_ | refine AC.ret ?_ | refine AC.exit ?_ | refine AC.skip ?_ | (refine AR.split rfl (fun h => ?_) (fun h => ?_) <;> rw [h]) | (refine AC.cond rfl (fun h => ?_) (fun h => ?_) <;> rw [h]) | refine FQ.ret rfl rfl ?_ | refine FQ.normal rfl rfl ?_)
  refine AC.loop (fun k st => ∃ j : Nat, k = m - 1 - j ∧ j ≤ m - 1 ∧ st = ⟨[(2, .int .i64 (j : Nat)), (1, .int .i64 (m : Nat)), (0, .slice (some ⟨0, 0, none⟩) n 0)], [(0, .view 3 (enL 0 l))], [0], 31⟩) (m - 1) _ ?_ ⟨0, by omega, Nat.zero_le _, rfl⟩ ?_
  · exact Ren.mv (tabF []) rfl (fun k hk => by match k, hk with | 0, _ => exact ⟨rfl, rfl⟩) ⟨⟨rfl, rfl⟩, ⟨rfl, rfl⟩, ⟨rfl, rfl⟩, trivial⟩ ⟨⟨by rw [mv_env]; rfl, rfl, allNC_en _ _ _⟩, trivial⟩ rfl
  intro k st hi
  obtain ⟨j, rfl, hj, rfl⟩ := hi
  have w1 : IntKind.i64.wrap ((j : Int) + 1) = ((j + 1 : Nat) : Int) := by rw [IntWalk.i64_in _ (by omega)]; rfl
  obtain ⟨a, ha⟩ : ∃ a, l[j]? = some a := ⟨l[j]'(by omega), List.getElem?_eq_getElem (by omega)⟩
  by_cases hlt : j + 1 < n
  · have hd : decide (((j + 1 : Nat) : Int) < (n : Int)) = true := by simp only [decide_eq_true_eq]; omega
    obtain ⟨b, hb⟩ : ∃ b, l[j + 1]? = some b := ⟨l[j + 1]'(by omega), List.getElem?_eq_getElem (by omega)⟩
    by_cases hjm : j = m - 1
    · have hd2 : decide (((1 : Nat) : Int) < ((0 : Nat) : Int)) = false := rfl
      repeat' (first | rw [w1] | rw [hd] | rw [hd2] | refine AR.auto rfl ?_ | refine AR.man (oke_idx (A0 := 0) (i := j + 1) rfl rfl rfl rfl (nonE_env 3 0 (by omega)) (by omega)) rfl rfl rfl ?_ | refine AR.man (oke_idx (A0 := 0) (i := j) rfl rfl rfl rfl (nonE_env 3 0 (by omega)) (by omega)) rfl rfl rfl ?_ | refine AR.man (oke_ld (v := b) (j := (j + 1)) rfl rfl rfl (fun jj u hu => by rw [show 0 + (j + 1) * 3 + jj = (j + 1) * 3 + jj from (by omega), show (Box.view 3 (enL 0 l)).cells = enL 0 l from rfl, enL_at l 0 (j + 1) jj b hb (by have := (List.getElem?_eq_some_iff.1 hu).1; simpa [enC] using this), Nat.zero_add]; exact hu)) rfl rfl rfl ?_ | refine AR.man (oke_ld (v := a) (j := j) rfl rfl rfl (fun jj u hu => by rw [show 0 + j * 3 + jj = j * 3 + jj from (by omega), show (Box.view 3 (enL 0 l)).cells = enL 0 l from rfl, enL_at l 0 j jj a ha (by have := (List.getElem?_eq_some_iff.1 hu).1; simpa [enC] using this), Nat.zero_add]; exact hu)) rfl rfl rfl ?_ | refine AR.man (ok_qf_far (r := j + 1 + 1) (n := m) (d := 1) (by omega) (by omega) (by rw [if_neg (by omega)]; omega) rfl rfl rfl) rfl rfl rfl ?_ | refine AR.man (ok_qf_far (r := j + 1) (n := m) (d := 0) (by omega) (by omega) (by rw [if_pos (by omega)]; omega) rfl rfl rfl) rfl rfl rfl ?_ | refine AR.nil ?_ | refine KF.mk ?_ | refine KT.mk (by kernel_rfl) ?_ | refine SQ.normal ?_ | refine AC.seq ?_ | refine AC.regF ?_ | refine AC.regT ?_ | refine AC.condT rfl ?_ | refine AC.condF rfl ?_ | refine AC.block ?_ | refine BQ.normal ?_ | refine BQ.ret ?_ | refine BQ.here ?_ | refine BQ.there rfl ?_ | refine SQ.ret ?_ | refine SQ.exit ?_ | refine AC.ret ?_ | refine AC.exit ?_ | refine AC.skip ?_ | (refine AR.split rfl (fun h => ?_) (fun h => ?_) <;> rw [h]) | (refine AC.cond rfl (fun h => ?_) (fun h => ?_) <;> rw [h]) | refine FQ.ret rfl rfl ?_ | refine FQ.normal rfl rfl ?_)
      subst hjm
      all_goals rfl
    · have hd2 : decide (((m - (j + 2) : Nat) : Int) < ((m - (j + 1) : Nat) : Int)) = true := by simp only [decide_eq_true_eq]; omega
      repeat' (first | rw [w1] | rw [hd] | rw [hd2] | refine AR.auto rfl ?_ | refine AR.man (oke_idx (A0 := 0) (i := j + 1) rfl rfl rfl rfl (nonE_env 3 0 (by omega)) (by omega)) rfl rfl rfl ?_ | refine AR.man (oke_idx (A0 := 0) (i := j) rfl rfl rfl rfl (nonE_env 3 0 (by omega)) (by omega)) rfl rfl rfl ?_ | refine AR.man (oke_ld (v := b) (j := (j + 1)) rfl rfl rfl (fun jj u hu => by rw [show 0 + (j + 1) * 3 + jj = (j + 1) * 3 + jj from (by omega), show (Box.view 3 (enL 0 l)).cells = enL 0 l from rfl, enL_at l 0 (j + 1) jj b hb (by have := (List.getElem?_eq_some_iff.1 hu).1; simpa [enC] using this), Nat.zero_add]; exact hu)) rfl rfl rfl ?_ | refine AR.man (oke_ld (v := a) (j := j) rfl rfl rfl (fun jj u hu => by rw [show 0 + j * 3 + jj = j * 3 + jj from (by omega), show (Box.view 3 (enL 0 l)).cells = enL 0 l from rfl, enL_at l 0 j jj a ha (by have := (List.getElem?_eq_some_iff.1 hu).1; simpa [enC] using this), Nat.zero_add]; exact hu)) rfl rfl rfl ?_ | refine AR.man (ok_qf_far (r := j + 1 + 1) (n := m) (d := m - (j + 2)) (by omega) (by omega) (by rw [if_pos (by omega)]) rfl rfl rfl) rfl rfl rfl ?_ | refine AR.man (ok_qf_far (r := j + 1) (n := m) (d := m - (j + 1)) (by omega) (by omega) (by rw [if_pos (by omega)]) rfl rfl rfl) rfl rfl rfl ?_ | refine AR.nil ?_ | refine KF.mk ?_ | refine KT.mk (by kernel_rfl) ?_ | refine SQ.normal ?_ | refine AC.seq ?_ | refine AC.regF ?_ | refine AC.regT ?_ | refine AC.condT rfl ?_ | refine AC.condF rfl ?_ | refine AC.block ?_ | refine BQ.normal ?_ | refine BQ.ret ?_ | refine BQ.here ?_ | refine BQ.there rfl ?_ | refine SQ.ret ?_ | refine SQ.exit ?_ | refine AC.ret ?_ | refine AC.exit ?_ | refine AC.skip ?_ | (refine AR.split rfl (fun h => ?_) (fun h => ?_) <;> rw [h]) | (refine AC.cond rfl (fun h => ?_) (fun h => ?_) <;> rw [h]) | refine FQ.ret rfl rfl ?_ | refine FQ.normal rfl rfl ?_)
      refine ⟨m - 1 - (j + 1), _, by omega, ?_, j + 1, rfl, by omega, rfl⟩
      exact Ren.mv (tabF []) rfl (fun k hk => by match k, hk with | 0, _ => exact ⟨rfl, rfl⟩) ⟨⟨rfl, rfl⟩, ⟨rfl, rfl⟩, ⟨rfl, rfl⟩, trivial⟩ ⟨⟨by rw [mv_env]; rfl, rfl, allNC_en _ _ _⟩, trivial⟩ rfl
  · have hd : decide (((j + 1 : Nat) : Int) < (n : Int)) = false := by simp only [decide_eq_false_iff_not]; omega
    obtain rfl : j = m - 1 := by omega
    repeat' (first | rw [w1] | rw [hd] | refine AR.auto rfl ?_ | refine AR.nil ?_ | refine KF.mk ?_ | refine KT.mk (by kernel_rfl) ?_ | refine SQ.normal ?_ | refine AC.seq ?_ | refine AC.regF ?_ | refine AC.regT ?_ | refine AC.condT rfl ?_ | refine AC.condF rfl ?_ | refine AC.block ?_ | refine BQ.normal ?_ | refine BQ.ret ?_ | refine BQ.here ?_ | refine BQ.there rfl ?_ | refine SQ.ret ?_ | refine SQ.exit ?_ | refine AC.ret ?_ | refine AC.exit ?_ | refine AC.skip ?_ | (refine AR.split rfl (fun h => ?_) (fun h => ?_) <;> rw [h]) | (refine AC.cond rfl (fun h => ?_) (fun h => ?_) <;> rw [h]) | refine FQ.ret rfl rfl ?_ | refine FQ.normal rfl rfl ?_)
    all_goals rfl
set_option maxRecDepth 100000 in
set_option maxHeartbeats 1000000 in
theorem qf_valid (l : List Int) (n : Nat) (hl : l.length = n) (hn : n ≤ 1000) (hs : Asc l) (w : World) (A : Option Addr) (c : Nat) (h : SL w A n c 3 (enL 0 l)) :
    Calls Tryz.prog 213 #[.agg #[.int .i64 (n : Nat), .slice A n c]] w (fun e w' => e = .returned (.int .i64 0) ∧ Below w.heap.size w w') := by
  have d1 : decide ((n : Int) < 0) = false := by simp only [decide_eq_false_iff_not]; omega
  have d2 : decide ((n : Int) > 1099511627776) = false := by simp only [decide_eq_false_iff_not]; omega
  have d3 : (!(((n : Int) == 0) == ((n : Int) == 0))) = false := by simp
  refine fun_sliceF tblOK mixedP Tryz.func213 rfl (fun s => [.agg #[.int .i64 (n : Nat), s]]) n 3 (enL 0 l) h (by decide) (allFC_en l 0) [.agg #[.int .i64 (n : Nat), .slice (some ⟨0, 0, none⟩) n 0]] rfl (fun _ => rfl) 101 [(0, .agg #[.int .i64 (n : Nat), .slice (some ⟨0, 0, none⟩) n 0])] rfl rfl (by kernel_rfl) rfl rfl _ rfl ?_
  repeat' (first | rw [d1] | rw [d2] | rw [d3] | refine AR.auto rfl ?_ | refine AR.nil ?_ | refine KF.mk ?_ | refine KT.mk (by kernel_rfl) ?_ | refine SQ.normal ?_ | refine AC.seq ?_ | refine AC.regF ?_ | refine AC.regT ?_ | refine AC.condT rfl ?_ | refine AC.condF rfl ?_ | refine AC.block ?_ | refine BQ.normal ?_ | refine BQ.ret ?_ | refine BQ.here ?_ | refine BQ.there rfl ?_ | refine SQ.ret ?_ | refine SQ.exit ?_ | refine AC.ret ?_ | refine AC.exit ?_ | refine AC.skip ?_ | (refine AR.split rfl (fun h => ?_) (fun h => ?_) <;> rw [h]) | (refine AC.cond rfl (fun h => ?_) (fun h => ?_) <;> rw [h]) | refine FQ.ret rfl rfl ?_ | refine FQ.normal rfl rfl ?_)
  refine AC.loop (fun k st => ∃ i : Nat, k = n - i ∧ i ≤ n ∧ st = ⟨[(29, .int .i64 (i : Nat)), (28, .int .i64 (n : Nat)), (27, .slice (some ⟨0, 0, none⟩) n 0), (3, .int .i64 (n : Nat)), (1, .pointer (some ⟨1, 0, none⟩))], [(1, .row 271 [.int .i64 (n : Nat), .slice (some ⟨0, 0, none⟩) n 0]), (0, .view 3 (enL 0 l))], [1, 0], 101⟩) n _ ?_ ⟨0, rfl, Nat.zero_le _, rfl⟩ ?_
  · exact Ren.mv (tabF []) rfl (fun k hk => by match k, hk with | 0, _ => exact ⟨rfl, rfl⟩) ⟨⟨rfl, rfl⟩, ⟨rfl, rfl⟩, ⟨rfl, rfl⟩, ⟨rfl, rfl⟩, ⟨rfl, rfl⟩, trivial⟩ ⟨⟨rfl, rfl, rfl⟩, ⟨by rw [mv_env]; rfl, rfl, allNC_en _ _ _⟩, trivial⟩ rfl
  intro k st hi
  obtain ⟨i, rfl, hin, rfl⟩ := hi
  by_cases hlt : i < n
  · have hd : decide ((i : Int) < (n : Int)) = true := by simp only [decide_eq_true_eq]; omega
    have w4 : IntKind.i64.wrap ((i : Int) + 1) = ((i + 1 : Nat) : Int) := by rw [IntWalk.i64_in _ (by omega)]; rfl
    obtain ⟨a, ha⟩ : ∃ a, l[i]? = some a := ⟨l[i]'(by omega), List.getElem?_eq_getElem (by omega)⟩
    have f1 : decide (((i + 1 : Nat) : Int) < 1) = false := by simp only [decide_eq_false_iff_not]; omega
    have f2 : decide (((i + 1 : Nat) : Int) > ((i + 1 : Nat) : Int)) = false := by simp only [decide_eq_false_iff_not]; omega
    have f3 : decide (((i + 1 : Nat) : Int) > (n : Int)) = false := by simp only [decide_eq_false_iff_not]; omega
    by_cases hi0 : i = 0
    · have z0 : decide ((i : Int) > 0) = false := by simp only [decide_eq_false_iff_not]; omega
      repeat' (first | rw [hd] | rw [w4] | rw [f1] | rw [f2] | rw [f3] | rw [z0] | refine AR.auto rfl ?_ | refine AR.man (oke_idx (A0 := 0) (i := i) rfl rfl rfl rfl (nonE_env 3 0 (by omega)) (by omega)) rfl rfl rfl ?_ | refine AR.man (oke_ld (v := a) (j := i) rfl rfl rfl (fun jj u hu => by rw [show 0 + i * 3 + jj = i * 3 + jj from (by omega), show (Box.view 3 (enL 0 l)).cells = enL 0 l from rfl, enL_at l 0 i jj a ha (by have := (List.getElem?_eq_some_iff.1 hu).1; simpa [enC] using this), Nat.zero_add]; exact hu)) rfl rfl rfl ?_ | refine AR.nil ?_ | refine KF.mk ?_ | refine KT.mk (by kernel_rfl) ?_ | refine SQ.normal ?_ | refine AC.seq ?_ | refine AC.regF ?_ | refine AC.regT ?_ | refine AC.condT rfl ?_ | refine AC.condF rfl ?_ | refine AC.block ?_ | refine BQ.normal ?_ | refine BQ.ret ?_ | refine BQ.here ?_ | refine BQ.there rfl ?_ | refine SQ.ret ?_ | refine SQ.exit ?_ | refine AC.ret ?_ | refine AC.exit ?_ | refine AC.skip ?_ | (refine AR.split rfl (fun h => ?_) (fun h => ?_) <;> rw [h]) | (refine AC.cond rfl (fun h => ?_) (fun h => ?_) <;> rw [h]) | refine FQ.ret rfl rfl ?_ | refine FQ.normal rfl rfl ?_)
      refine ⟨n - (i + 1), _, by omega, ?_, i + 1, rfl, by omega, rfl⟩
      exact Ren.mv (tabF []) rfl (fun k hk => by match k, hk with | 0, _ => exact ⟨rfl, rfl⟩) ⟨⟨rfl, rfl⟩, ⟨rfl, rfl⟩, ⟨rfl, rfl⟩, ⟨rfl, rfl⟩, ⟨rfl, rfl⟩, trivial⟩ ⟨⟨rfl, rfl, rfl⟩, ⟨by rw [mv_env]; rfl, rfl, allNC_en _ _ _⟩, trivial⟩ rfl
    · have z0 : decide ((i : Int) > 0) = true := by simp only [decide_eq_true_eq]; omega
      have w5 : IntKind.i64.wrap ((i : Int) - 1) = ((i - 1 : Nat) : Int) := by rw [IntWalk.i64_in _ (by omega)]; omega
      obtain ⟨b, hb⟩ : ∃ b, l[i - 1]? = some b := ⟨l[i - 1]'(by omega), List.getElem?_eq_getElem (by omega)⟩
      have hab := asc_at hs hb ha (by omega)
      have g1 : decide (b > a) = false := by simp only [decide_eq_false_iff_not]; omega
      have g2 : decide (((i - 1 + 1 : Nat) : Int) ≥ ((i + 1 : Nat) : Int)) = false := by simp only [decide_eq_false_iff_not]; omega
      repeat' (first | rw [hd] | rw [w4] | rw [f1] | rw [f2] | rw [f3] | rw [z0] | rw [w5] | rw [g1] | rw [g2] | refine AR.auto rfl ?_ | refine AR.man (oke_idx (A0 := 0) (i := i) rfl rfl rfl rfl (nonE_env 3 0 (by omega)) (by omega)) rfl rfl rfl ?_ | refine AR.man (oke_ld (v := a) (j := i) rfl rfl rfl (fun jj u hu => by rw [show 0 + i * 3 + jj = i * 3 + jj from (by omega), show (Box.view 3 (enL 0 l)).cells = enL 0 l from rfl, enL_at l 0 i jj a ha (by have := (List.getElem?_eq_some_iff.1 hu).1; simpa [enC] using this), Nat.zero_add]; exact hu)) rfl rfl rfl ?_ | refine AR.man (oke_idx (A0 := 0) (i := i - 1) rfl rfl rfl rfl (nonE_env 3 0 (by omega)) (by omega)) rfl rfl rfl ?_ | refine AR.man (oke_ld (v := b) (j := (i - 1)) rfl rfl rfl (fun jj u hu => by rw [show 0 + (i - 1) * 3 + jj = (i - 1) * 3 + jj from (by omega), show (Box.view 3 (enL 0 l)).cells = enL 0 l from rfl, enL_at l 0 (i - 1) jj b hb (by have := (List.getElem?_eq_some_iff.1 hu).1; simpa [enC] using this), Nat.zero_add]; exact hu)) rfl rfl rfl ?_ | refine AR.nil ?_ | refine KF.mk ?_ | refine KT.mk (by kernel_rfl) ?_ | refine SQ.normal ?_ | refine AC.seq ?_ | refine AC.regF ?_ | refine AC.regT ?_ | refine AC.condT rfl ?_ | refine AC.condF rfl ?_ | refine AC.block ?_ | refine BQ.normal ?_ | refine BQ.ret ?_ | refine BQ.here ?_ | refine BQ.there rfl ?_ | refine SQ.ret ?_ | refine SQ.exit ?_ | refine AC.ret ?_ | refine AC.exit ?_ | refine AC.skip ?_ | (refine AR.split rfl (fun h => ?_) (fun h => ?_) <;> rw [h]) | (refine AC.cond rfl (fun h => ?_) (fun h => ?_) <;> rw [h]) | refine FQ.ret rfl rfl ?_ | refine FQ.normal rfl rfl ?_)
      refine ⟨n - (i + 1), _, by omega, ?_, i + 1, rfl, by omega, rfl⟩
      exact Ren.mv (tabF []) rfl (fun k hk => by match k, hk with | 0, _ => exact ⟨rfl, rfl⟩) ⟨⟨rfl, rfl⟩, ⟨rfl, rfl⟩, ⟨rfl, rfl⟩, ⟨rfl, rfl⟩, ⟨rfl, rfl⟩, trivial⟩ ⟨⟨rfl, rfl, rfl⟩, ⟨by rw [mv_env]; rfl, rfl, allNC_en _ _ _⟩, trivial⟩ rfl
  · obtain rfl : n = i := by omega
    have hd : decide ((n : Int) < (n : Int)) = false := by simp
    by_cases hn0 : n = 0
    · have z0 : decide ((n : Int) > 0) = false := by simp only [decide_eq_false_iff_not]; omega
      repeat' (first | rw [hd] | rw [z0] | refine AR.auto rfl ?_ | refine AR.nil ?_ | refine KF.mk ?_ | refine KT.mk (by kernel_rfl) ?_ | refine SQ.normal ?_ | refine AC.seq ?_ | refine AC.regF ?_ | refine AC.regT ?_ | refine AC.condT rfl ?_ | refine AC.condF rfl ?_ | refine AC.block ?_ | refine BQ.normal ?_ | refine BQ.ret ?_ | refine BQ.here ?_ | refine BQ.there rfl ?_ | refine SQ.ret ?_ | refine SQ.exit ?_ | refine AC.ret ?_ | refine AC.exit ?_ | refine AC.skip ?_ | (refine AR.split rfl (fun h => ?_) (fun h => ?_) <;> rw [h]) | (refine AC.cond rfl (fun h => ?_) (fun h => ?_) <;> rw [h]) | refine FQ.ret rfl rfl ?_ | refine FQ.normal rfl rfl ?_)
      all_goals rfl
    · have z0 : decide ((n : Int) > 0) = true := by simp only [decide_eq_true_eq]; omega
      have w5 : IntKind.i64.wrap ((n : Int) - 1) = ((n - 1 : Nat) : Int) := by rw [IntWalk.i64_in _ (by omega)]; omega
      obtain ⟨a, ha⟩ : ∃ a, l[0]? = some a := ⟨l[0]'(by omega), List.getElem?_eq_getElem (by omega)⟩
      obtain ⟨b, hb⟩ : ∃ b, l[n - 1]? = some b := ⟨l[n - 1]'(by omega), List.getElem?_eq_getElem (by omega)⟩
      have g1 : (((0 + 1 : Nat) : Int) != 1) = false := rfl
      have g2 : (((n - 1 + 1 : Nat) : Int) != (n : Int)) = false := by rw [show n - 1 + 1 = n by omega]; simp
      repeat' (first | rw [hd] | rw [z0] | rw [w5] | rw [g1] | rw [g2] | refine AR.auto rfl ?_ | refine AR.man (oke_idx (A0 := 0) (i := 0) rfl rfl rfl rfl (nonE_env 3 0 (by omega)) (by omega)) rfl rfl rfl ?_ | refine AR.man (ok_ld (A0 := 0) (u := ((0 + 1 : Nat) : Int)) rfl rfl rfl (by show (enL 0 l)[_]? = _; rw [show 0 + 0 * 3 + 2 = 0 * 3 + 2 from (by omega), enL_at l 0 0 2 a ha (by decide), Nat.zero_add]; rfl)) rfl rfl rfl ?_ | refine AR.man (oke_idx (A0 := 0) (i := n - 1) rfl rfl rfl rfl (nonE_env 3 0 (by omega)) (by omega)) rfl rfl rfl ?_ | refine AR.man (ok_ld (A0 := 0) (u := (((n - 1) + 1 : Nat) : Int)) rfl rfl rfl (by show (enL 0 l)[_]? = _; rw [show 0 + (n - 1) * 3 + 1 = (n - 1) * 3 + 1 from (by omega), enL_at l 0 (n - 1) 1 b hb (by decide), Nat.zero_add]; rfl)) rfl rfl rfl ?_ | refine AR.nil ?_ | refine KF.mk ?_ | refine KT.mk (by kernel_rfl) ?_ | refine SQ.normal ?_ | refine AC.seq ?_ | refine AC.regF ?_ | refine AC.regT ?_ | refine AC.condT rfl ?_ | refine AC.condF rfl ?_ | refine AC.block ?_ | refine BQ.normal ?_ | refine BQ.ret ?_ | refine BQ.here ?_ | refine BQ.there rfl ?_ | refine SQ.ret ?_ | refine SQ.exit ?_ | refine AC.ret ?_ | refine AC.exit ?_ | refine AC.skip ?_ | (refine AR.split rfl (fun h => ?_) (fun h => ?_) <;> rw [h]) | (refine AC.cond rfl (fun h => ?_) (fun h => ?_) <;> rw [h]) | refine FQ.ret rfl rfl ?_ | refine FQ.normal rfl rfl ?_)
      all_goals rfl
theorem ent213 : Enters Tryz.prog 213 := enters Tryz.func213 (by kernel_rfl) (by kernel_rfl)
theorem ent214 : Enters Tryz.prog 214 := enters Tryz.func214 (by kernel_rfl) (by kernel_rfl)
theorem ent215 : Enters Tryz.prog 215 := enters Tryz.func215 (by kernel_rfl) (by kernel_rfl)
theorem ent216 : Enters Tryz.prog 216 := enters Tryz.func216 (by kernel_rfl) (by kernel_rfl)
theorem ent217 : Enters Tryz.prog 217 := enters Tryz.func217 (by kernel_rfl) (by kernel_rfl)
theorem ent218 : Enters Tryz.prog 218 := enters Tryz.func218 (by kernel_rfl) (by kernel_rfl)
set_option maxRecDepth 100000 in
set_option maxHeartbeats 1000000 in
theorem qf_gap (l : List Int) (n : Nat) (hl : l.length = n) (hn : n ≤ 1000) (h0 : 0 < n) (hs : Asc l) (w : World) (A : Option Addr) (c : Nat) (h : SL w A n c 3 (enL 0 l)) :
    Calls Tryz.prog 214 #[.agg #[.int .i64 (n : Nat), .slice A n c]] w (fun e w' => e = .returned (.int .i64 1) ∧ Below w.heap.size w w') := by
  have d1 : ((n : Int) == 0) = false := by rw [beq_eq_false_iff_ne]; omega
  refine fun_sliceF tblOK mixedP Tryz.func214 rfl (fun s => [.agg #[.int .i64 (n : Nat), s]]) n 3 (enL 0 l) h (by decide) (allFC_en l 0) [.agg #[.int .i64 (n : Nat), .slice (some ⟨0, 0, none⟩) n 0]] rfl (fun _ => rfl) 38 [(0, .agg #[.int .i64 (n : Nat), .slice (some ⟨0, 0, none⟩) n 0])] rfl rfl (by kernel_rfl) rfl rfl _ rfl ?_
  repeat' (first | rw [d1] | refine AR.auto rfl ?_ | refine AR.man (AOk.callS (fun s => [.agg #[.int .i64 (n : Nat), s]]) 0 n 3 (enL 0 l) (fun w A c h => qf_valid l n hl hn hs w A c h) ent213 rfl rfl rfl (fun _ => rfl) rfl (fun _ _ h => h) (by decide) (by rw [enL_len, hl]) (allFC_en l 0) rfl rfl) rfl rfl rfl ?_ | refine AR.nil ?_ | refine KF.mk ?_ | refine KT.mk (by kernel_rfl) ?_ | refine SQ.normal ?_ | refine AC.seq ?_ | refine AC.regF ?_ | refine AC.regT ?_ | refine AC.condT rfl ?_ | refine AC.condF rfl ?_ | refine AC.block ?_ | refine BQ.normal ?_ | refine BQ.ret ?_ | refine BQ.here ?_ | refine BQ.there rfl ?_ | refine SQ.ret ?_ | refine SQ.exit ?_ | refine AC.ret ?_ | refine AC.exit ?_ | refine AC.skip ?_ | (refine AR.split rfl (fun h => ?_) (fun h => ?_) <;> rw [h]) | (refine AC.cond rfl (fun h => ?_) (fun h => ?_) <;> rw [h]) | refine FQ.ret rfl rfl ?_ | refine FQ.normal rfl rfl ?_)
  refine AC.loop (fun k st => ∃ i : Nat, k = n - i ∧ 1 ≤ i ∧ i ≤ n ∧ st = ⟨[(4, .int .i64 ((i : Nat))), (3, .int .i64 1), (1, .pointer (some ⟨1, 0, none⟩))], [(1, .row 271 [.int .i64 (n : Nat), .slice (some ⟨0, 0, none⟩) n 0]), (0, .view 3 (enL 0 l))], [1, 0], 38⟩) (n - 1) _ ?_ ⟨1, rfl, Nat.le_refl _, by omega, rfl⟩ ?_
  · exact Ren.mv (tabF []) rfl (fun k hk => by match k, hk with | 0, _ => exact ⟨rfl, rfl⟩) ⟨⟨rfl, rfl⟩, ⟨rfl, rfl⟩, ⟨rfl, rfl⟩, trivial⟩ ⟨⟨rfl, rfl, rfl⟩, ⟨by rw [mv_env]; rfl, rfl, allNC_en _ _ _⟩, trivial⟩ rfl
  intro k st hi
  obtain ⟨i, rfl, hi1, hin, rfl⟩ := hi
  by_cases hlt : i < n
  · have hd : decide ((i : Int) < (n : Int)) = true := by simp only [decide_eq_true_eq]; omega
    have w4 : IntKind.i64.wrap ((i : Int) + 1) = ((i + 1 : Nat) : Int) := by rw [IntWalk.i64_in _ (by omega)]; rfl
    have w5 : IntKind.i64.wrap ((i : Int) - 1) = ((i - 1 : Nat) : Int) := by rw [IntWalk.i64_in _ (by omega)]; omega
    obtain ⟨a, ha⟩ : ∃ a, l[i]? = some a := ⟨l[i]'(by omega), List.getElem?_eq_getElem (by omega)⟩
    obtain ⟨b, hb⟩ : ∃ b, l[i - 1]? = some b := ⟨l[i - 1]'(by omega), List.getElem?_eq_getElem (by omega)⟩
    have w6 : IntKind.i64.wrap (((i + 1 : Nat) : Int) - ((i - 1 + 1 : Nat) : Int)) = 1 := by rw [IntWalk.i64_in _ (by omega)]; omega
    repeat' (first | rw [hd] | rw [w4] | rw [w5] | rw [w6] | refine AR.auto rfl ?_ | refine AR.man (oke_idx (A0 := 0) (i := i) rfl rfl rfl rfl (nonE_env 3 0 (by omega)) (by omega)) rfl rfl rfl ?_ | refine AR.man (ok_ld (A0 := 0) (u := ((i + 1 : Nat) : Int)) rfl rfl rfl (by show (enL 0 l)[_]? = _; rw [show 0 + i * 3 + 2 = i * 3 + 2 from (by omega), enL_at l 0 i 2 a ha (by decide), Nat.zero_add]; rfl)) rfl rfl rfl ?_ | refine AR.man (oke_idx (A0 := 0) (i := i - 1) rfl rfl rfl rfl (nonE_env 3 0 (by omega)) (by omega)) rfl rfl rfl ?_ | refine AR.man (ok_ld (A0 := 0) (u := (((i - 1) + 1 : Nat) : Int)) rfl rfl rfl (by show (enL 0 l)[_]? = _; rw [show 0 + (i - 1) * 3 + 1 = (i - 1) * 3 + 1 from (by omega), enL_at l 0 (i - 1) 1 b hb (by decide), Nat.zero_add]; rfl)) rfl rfl rfl ?_ | refine AR.man (ok_max (r := 1) (by decide) rfl rfl rfl rfl rfl) rfl rfl rfl ?_ | refine AR.nil ?_ | refine KF.mk ?_ | refine KT.mk (by kernel_rfl) ?_ | refine SQ.normal ?_ | refine AC.seq ?_ | refine AC.regF ?_ | refine AC.regT ?_ | refine AC.condT rfl ?_ | refine AC.condF rfl ?_ | refine AC.block ?_ | refine BQ.normal ?_ | refine BQ.ret ?_ | refine BQ.here ?_ | refine BQ.there rfl ?_ | refine SQ.ret ?_ | refine SQ.exit ?_ | refine AC.ret ?_ | refine AC.exit ?_ | refine AC.skip ?_ | (refine AR.split rfl (fun h => ?_) (fun h => ?_) <;> rw [h]) | (refine AC.cond rfl (fun h => ?_) (fun h => ?_) <;> rw [h]) | refine FQ.ret rfl rfl ?_ | refine FQ.normal rfl rfl ?_)
    refine ⟨n - (i + 1), _, by omega, ?_, i + 1, rfl, by omega, by omega, rfl⟩
    exact Ren.mv (tabF []) rfl (fun k hk => by match k, hk with | 0, _ => exact ⟨rfl, rfl⟩) ⟨⟨rfl, rfl⟩, ⟨rfl, rfl⟩, ⟨rfl, rfl⟩, trivial⟩ ⟨⟨rfl, rfl, rfl⟩, ⟨by rw [mv_env]; rfl, rfl, allNC_en _ _ _⟩, trivial⟩ rfl
  · obtain rfl : n = i := by omega
    have hd : decide ((n : Int) < (n : Int)) = false := by simp
    repeat' (first | rw [hd] | refine AR.auto rfl ?_ | refine AR.nil ?_ | refine KF.mk ?_ | refine KT.mk (by kernel_rfl) ?_ | refine SQ.normal ?_ | refine AC.seq ?_ | refine AC.regF ?_ | refine AC.regT ?_ | refine AC.condT rfl ?_ | refine AC.condF rfl ?_ | refine AC.block ?_ | refine BQ.normal ?_ | refine BQ.ret ?_ | refine BQ.here ?_ | refine BQ.there rfl ?_ | refine SQ.ret ?_ | refine SQ.exit ?_ | refine AC.ret ?_ | refine AC.exit ?_ | refine AC.skip ?_ | (refine AR.split rfl (fun h => ?_) (fun h => ?_) <;> rw [h]) | (refine AC.cond rfl (fun h => ?_) (fun h => ?_) <;> rw [h]) | refine FQ.ret rfl rfl ?_ | refine FQ.normal rfl rfl ?_)
    all_goals rfl
set_option maxRecDepth 100000 in
theorem qf_copied (l : List Int) (n : Nat) (hl : l.length = n) (hn : n ≤ 1000) (w : World) (A : Option Addr) (c : Nat) (h : SL w A n c 3 (enL 0 l)) :
    Calls Tryz.prog 216 #[.agg #[.int .i64 (n : Nat), .slice A n c]] w (fun e w' => ∃ A' c', e = .returned (.agg #[.int .i64 (n : Nat), .slice A' n c']) ∧ OwnK w' w.heap.size 239 3 (.slice A' n c') n (enL 0 l) ∧ Below w.heap.size w w') := by
  refine fun_sliceO tblOK mixedP Tryz.func216 rfl (fun s => [.agg #[.int .i64 (n : Nat), s]]) n 3 (enL 0 l) h (by decide) (allFC_en l 0) [.agg #[.int .i64 (n : Nat), .slice (some ⟨0, 0, none⟩) n 0]] rfl (fun _ => rfl) 10 [(0, .agg #[.int .i64 (n : Nat), .slice (some ⟨0, 0, none⟩) n 0])] rfl rfl (by kernel_rfl) rfl rfl (fun s => .agg #[.int .i64 (n : Nat), s]) n 3 239 (enL 0 l) (by rw [enL_len, hl]) (by decide) (allFC_en l 0) (fun _ _ => rfl) ?_
  have e0 : 0 + n = n := Nat.zero_add n
  repeat' (first | rw [e0] | refine AR.auto rfl ?_ | refine AR.man (oke_copy 40 hl (by omega) rfl rfl rfl rfl rfl rfl rfl rfl rfl) rfl rfl rfl ?_ | refine AR.nil ?_ | refine KF.mk ?_ | refine KT.mk (by kernel_rfl) ?_ | refine SQ.normal ?_ | refine AC.seq ?_ | refine AC.regF ?_ | refine AC.regT ?_ | refine AC.condT rfl ?_ | refine AC.condF rfl ?_ | refine AC.block ?_ | refine BQ.normal ?_ | refine BQ.ret ?_ | refine BQ.here ?_ | refine BQ.there rfl ?_ | refine SQ.ret ?_ | refine SQ.exit ?_ | refine AC.ret ?_ | refine AC.exit ?_ | refine AC.skip ?_ | (refine AR.split rfl (fun h => ?_) (fun h => ?_) <;> rw [h]) | (refine AC.cond rfl (fun h => ?_) (fun h => ?_) <;> rw [h]) | refine FQ.ret rfl rfl ?_ | refine FQ.normal rfl rfl ?_)
  all_goals exact ⟨_, rfl, rfl⟩
set_option maxRecDepth 100000 in
set_option maxHeartbeats 1000000 in
theorem qf_between (l : List Int) (n : Nat) (v : Int) (r j : Nat) (hl : l.length = n) (hn : n ≤ 1000) (hr : r ≤ 1000000) (hj : j ≤ n) (w : World) (A : Option Addr) (c : Nat) (h : SL w A n c 3 (enL 0 l)) :
    Calls Tryz.prog 217 #[.agg #[.int .i64 v, .int .i64 ((r : Nat)), .int .i64 ((r : Nat))], .slice A n c, .int .i64 ((j : Nat)), .int .i64 ((n : Nat))] w (fun e w' => e = .returned (.agg #[.int .i64 v, .int .i64 ((r + j : Nat)), .int .i64 ((r + j : Nat))]) ∧ Below w.heap.size w w') := by
  refine fun_sliceF tblOK mixedP Tryz.func217 rfl (fun s => [.agg #[.int .i64 v, .int .i64 ((r : Nat)), .int .i64 ((r : Nat))], s, .int .i64 ((j : Nat)), .int .i64 ((n : Nat))]) n 3 (enL 0 l) h (by decide) (allFC_en l 0) [.agg #[.int .i64 v, .int .i64 ((r : Nat)), .int .i64 ((r : Nat))], .slice (some ⟨0, 0, none⟩) n 0, .int .i64 ((j : Nat)), .int .i64 ((n : Nat))] rfl (fun _ => rfl) 41 [(0, .agg #[.int .i64 v, .int .i64 ((r : Nat)), .int .i64 ((r : Nat))]), (1, .slice (some ⟨0, 0, none⟩) n 0), (2, .int .i64 ((j : Nat))), (3, .int .i64 ((n : Nat)))] rfl rfl (by kernel_rfl) rfl rfl _ rfl ?_
  by_cases hj0 : j = 0
  · have z0 : decide ((j : Int) > 0) = false := by simp only [decide_eq_false_iff_not]; omega
    subst hj0
    by_cases hn0 : 0 < n
    · have z1 : decide (((0 : Nat) : Int) < (n : Int)) = true := by simp only [decide_eq_true_eq]; omega
      obtain ⟨a, ha⟩ : ∃ a, l[0]? = some a := ⟨l[0]'(by omega), List.getElem?_eq_getElem (by omega)⟩
      have w1 : IntKind.i64.wrap (((0 + 1 : Nat) : Int) - 1) = 0 := rfl
      have w2 : IntKind.i64.wrap ((r : Int) + 0) = (r : Int) := by rw [IntWalk.i64_in _ (by omega)]; omega
      repeat' (first | rw [z0] | rw [z1] | rw [w1] | rw [w2] | refine AR.auto rfl ?_ | refine AR.man (oke_idx (A0 := 0) (i := 0) rfl rfl rfl rfl (nonE_env 3 0 (by omega)) (by omega)) rfl rfl rfl ?_ | refine AR.man (ok_ld (A0 := 0) (u := ((0 + 1 : Nat) : Int)) rfl rfl rfl (by show (enL 0 l)[_]? = _; rw [show 0 + 0 * 3 + 2 = 0 * 3 + 2 from (by omega), enL_at l 0 0 2 a ha (by decide), Nat.zero_add]; rfl)) rfl rfl rfl ?_ | refine AR.nil ?_ | refine KF.mk ?_ | refine KT.mk (by kernel_rfl) ?_ | refine SQ.normal ?_ | refine AC.seq ?_ | refine AC.regF ?_ | refine AC.regT ?_ | refine AC.condT rfl ?_ | refine AC.condF rfl ?_ | refine AC.block ?_ | refine BQ.normal ?_ | refine BQ.ret ?_ | refine BQ.here ?_ | refine BQ.there rfl ?_ | refine SQ.ret ?_ | refine SQ.exit ?_ | refine AC.ret ?_ | refine AC.exit ?_ | refine AC.skip ?_ | (refine AR.split rfl (fun h => ?_) (fun h => ?_) <;> rw [h]) | (refine AC.cond rfl (fun h => ?_) (fun h => ?_) <;> rw [h]) | refine FQ.ret rfl rfl ?_ | refine FQ.normal rfl rfl ?_)
      all_goals rfl
    · have z1 : decide (((0 : Nat) : Int) < (n : Int)) = false := by simp only [decide_eq_false_iff_not]; omega
      have w2 : IntKind.i64.wrap ((r : Int) + (n : Int)) = (r : Int) := by rw [IntWalk.i64_in _ (by omega)]; omega
      repeat' (first | rw [z0] | rw [z1] | rw [w2] | refine AR.auto rfl ?_ | refine AR.nil ?_ | refine KF.mk ?_ | refine KT.mk (by kernel_rfl) ?_ | refine SQ.normal ?_ | refine AC.seq ?_ | refine AC.regF ?_ | refine AC.regT ?_ | refine AC.condT rfl ?_ | refine AC.condF rfl ?_ | refine AC.block ?_ | refine BQ.normal ?_ | refine BQ.ret ?_ | refine BQ.here ?_ | refine BQ.there rfl ?_ | refine SQ.ret ?_ | refine SQ.exit ?_ | refine AC.ret ?_ | refine AC.exit ?_ | refine AC.skip ?_ | (refine AR.split rfl (fun h => ?_) (fun h => ?_) <;> rw [h]) | (refine AC.cond rfl (fun h => ?_) (fun h => ?_) <;> rw [h]) | refine FQ.ret rfl rfl ?_ | refine FQ.normal rfl rfl ?_)
      all_goals rfl
  · have z0 : decide ((j : Int) > 0) = true := by simp only [decide_eq_true_eq]; omega
    have w5 : IntKind.i64.wrap ((j : Int) - 1) = ((j - 1 : Nat) : Int) := by rw [IntWalk.i64_in _ (by omega)]; omega
    obtain ⟨b, hb⟩ : ∃ b, l[j - 1]? = some b := ⟨l[j - 1]'(by omega), List.getElem?_eq_getElem (by omega)⟩
    have w6 : IntKind.i64.wrap ((r : Int) + ((j - 1 + 1 : Nat) : Int)) = ((r + j : Nat) : Int) := by rw [IntWalk.i64_in _ (by omega)]; omega
    by_cases hjn : j < n
    · have z1 : decide ((j : Int) < (n : Int)) = true := by simp only [decide_eq_true_eq]; omega
      obtain ⟨a, ha⟩ : ∃ a, l[j]? = some a := ⟨l[j]'(by omega), List.getElem?_eq_getElem (by omega)⟩
      have w1 : IntKind.i64.wrap (((j + 1 : Nat) : Int) - 1) = (j : Int) := by rw [IntWalk.i64_in _ (by omega)]; omega
      have w2 : IntKind.i64.wrap ((r : Int) + (j : Int)) = ((r + j : Nat) : Int) := by rw [IntWalk.i64_in _ (by omega)]; omega
      repeat' (first | rw [z0] | rw [z1] | rw [w1] | rw [w2] | rw [w5] | rw [w6] | refine AR.auto rfl ?_ | refine AR.man (oke_idx (A0 := 0) (i := j - 1) rfl rfl rfl rfl (nonE_env 3 0 (by omega)) (by omega)) rfl rfl rfl ?_ | refine AR.man (ok_ld (A0 := 0) (u := (((j - 1) + 1 : Nat) : Int)) rfl rfl rfl (by show (enL 0 l)[_]? = _; rw [show 0 + (j - 1) * 3 + 1 = (j - 1) * 3 + 1 from (by omega), enL_at l 0 (j - 1) 1 b hb (by decide), Nat.zero_add]; rfl)) rfl rfl rfl ?_ | refine AR.man (oke_idx (A0 := 0) (i := j) rfl rfl rfl rfl (nonE_env 3 0 (by omega)) (by omega)) rfl rfl rfl ?_ | refine AR.man (ok_ld (A0 := 0) (u := ((j + 1 : Nat) : Int)) rfl rfl rfl (by show (enL 0 l)[_]? = _; rw [show 0 + j * 3 + 2 = j * 3 + 2 from (by omega), enL_at l 0 j 2 a ha (by decide), Nat.zero_add]; rfl)) rfl rfl rfl ?_ | refine AR.nil ?_ | refine KF.mk ?_ | refine KT.mk (by kernel_rfl) ?_ | refine SQ.normal ?_ | refine AC.seq ?_ | refine AC.regF ?_ | refine AC.regT ?_ | refine AC.condT rfl ?_ | refine AC.condF rfl ?_ | refine AC.block ?_ | refine BQ.normal ?_ | refine BQ.ret ?_ | refine BQ.here ?_ | refine BQ.there rfl ?_ | refine SQ.ret ?_ | refine SQ.exit ?_ | refine AC.ret ?_ | refine AC.exit ?_ | refine AC.skip ?_ | (refine AR.split rfl (fun h => ?_) (fun h => ?_) <;> rw [h]) | (refine AC.cond rfl (fun h => ?_) (fun h => ?_) <;> rw [h]) | refine FQ.ret rfl rfl ?_ | refine FQ.normal rfl rfl ?_)
      all_goals rfl
    · obtain rfl : n = j := by omega
      have z1 : decide ((n : Int) < (n : Int)) = false := by simp
      have w2 : IntKind.i64.wrap ((r : Int) + (n : Int)) = ((r + n : Nat) : Int) := by rw [IntWalk.i64_in _ (by omega)]; omega
      repeat' (first | rw [z0] | rw [z1] | rw [w2] | rw [w5] | rw [w6] | refine AR.auto rfl ?_ | refine AR.man (oke_idx (A0 := 0) (i := n - 1) rfl rfl rfl rfl (nonE_env 3 0 (by omega)) (by omega)) rfl rfl rfl ?_ | refine AR.man (ok_ld (A0 := 0) (u := (((n - 1) + 1 : Nat) : Int)) rfl rfl rfl (by show (enL 0 l)[_]? = _; rw [show 0 + (n - 1) * 3 + 1 = (n - 1) * 3 + 1 from (by omega), enL_at l 0 (n - 1) 1 b hb (by decide), Nat.zero_add]; rfl)) rfl rfl rfl ?_ | refine AR.nil ?_ | refine KF.mk ?_ | refine KT.mk (by kernel_rfl) ?_ | refine SQ.normal ?_ | refine AC.seq ?_ | refine AC.regF ?_ | refine AC.regT ?_ | refine AC.condT rfl ?_ | refine AC.condF rfl ?_ | refine AC.block ?_ | refine BQ.normal ?_ | refine BQ.ret ?_ | refine BQ.here ?_ | refine BQ.there rfl ?_ | refine SQ.ret ?_ | refine SQ.exit ?_ | refine AC.ret ?_ | refine AC.exit ?_ | refine AC.skip ?_ | (refine AR.split rfl (fun h => ?_) (fun h => ?_) <;> rw [h]) | (refine AC.cond rfl (fun h => ?_) (fun h => ?_) <;> rw [h]) | refine FQ.ret rfl rfl ?_ | refine FQ.normal rfl rfl ?_)
      all_goals rfl
end Go.Proofs.YtbageimconenlaaGreat
