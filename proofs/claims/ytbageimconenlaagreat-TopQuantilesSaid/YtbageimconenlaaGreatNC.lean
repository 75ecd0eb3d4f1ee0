/- The engine: elements of slices of integers, the greater of two: over the program. | The clock; marks, one by one. | Marks: number, sum, squares; the spread of a mark; close marks. | Lists of marks: elements, one more, the first one less: over the program. | Lists of marks: an item added to all of them. -/
import Derived.Test.YtbageimconenlaaGreatED
import Derived.Test.YtbageimconenlaaGreatG0
import Derived.Laws.Small
import Derived.Test.YtbageimconenlaaGreatNB
import Derived.Laws.Slices
namespace Go.Proofs.YtbageimconenlaaGreat
open Go.RowKit En
set_option linter.unusedVariables false
theorem info2w : (Tryz.prog.info? 2).map (fun i => (i.size, i.bytes, i.zero.map (·.cells.size))) = some (1, 8, some 1) := by kernel_rfl
section
variable {s : St} {o : Oper} {c : Call}
theorem ok_idx {A0 len cc i : Nat} {b : Box} {x ix : Operand} (ho : o.op = .indexAddr 22 x ix) (hx : ev s x = some (.slice (some ⟨A0, 0, none⟩) len cc)) (hix : ev s ix = some (.int .i64 (i : Nat))) (hb : En.lk s.σ A0 = some b) (hnb : nonE b = true) (hi : i < len) :
    AOk Tryz.prog s o ⟨rq s [x, ix], [(A0, b)]⟩ ⟨.pointer (some ⟨A0, i, none⟩), [], []⟩ := by
  obtain ⟨ie, hie, h1⟩ : ∃ ie, Tryz.prog.info? 2 = some ie ∧ ie.size = 1 := by
    have h := info2w
    cases hi : Tryz.prog.info? 2 with
    | none => rw [hi] at h; cases h
    | some ie => rw [hi] at h; simp at h; exact ⟨ie, rfl, h.1⟩
  refine .quiet fun B => ⟨?_, ⟨fun t v h => rq_in h, fun n b' h => ?_⟩, rfl, rfl⟩
  · have := Does.index (P := Tryz.prog) (B := B) ho hx hix Tryz.underlying22 hie h1 hnb rfl hi
    rw [Nat.zero_add, Nat.mul_one] at this
    exact this
  · simp at h; obtain ⟨rfl, rfl⟩ := h; exact hb
theorem agg2w : aggB Tryz.prog 2 = some false := by kernel_rfl
theorem ok_ld {A0 i : Nat} {b : Box} {x : Operand} {u : Int} (ho : o.op = .load 2 x) (hx : ev s x = some (.pointer (some ⟨A0, i, none⟩))) (hb : En.lk s.σ A0 = some b) (hv : b.cells[i]? = some (.int .i64 u)) :
    AOk Tryz.prog s o ⟨rq s [x], [(A0, b)]⟩ ⟨.int .i64 u, [], []⟩ := by
  refine .quiet fun B => ⟨Does.loadOne ho hx hb agg2w rfl hv, ⟨fun t v h => rq_in h, fun n b' h => ?_⟩, rfl, rfl⟩
  simp at h; obtain ⟨rfl, rfl⟩ := h; exact hb
theorem ok_max {x y : Operand} {a b : Int} {r : Int} (hr : (if b > a then b else a) = r) (ho : o.op = .call c) (hcal : c.callee = .builtin .max) (hargs : c.args = #[x, y]) (hx : ev s x = some (.int .i64 a)) (hy : ev s y = some (.int .i64 b)) :
    AOk Tryz.prog s o ⟨rq s [x, y], []⟩ ⟨.int .i64 r, [], []⟩ := by
  subst hr
  refine .quiet fun B => ⟨Does.value (fun al _ => NB.flat rfl) fun ρ a' w hm => ?_, in_none, rfl, rfl⟩
  have hax := ev_eval hm (x := x) (by simp) hx
  have hay := ev_eval hm (x := y) (by simp) hy
  rw [rV_flat ρ rfl] at hax hay
  rw [rV_flat ρ rfl]
  unfold execOp
  simp only [ho, resolve, hcal, hargs, invoke, builtin, Sem.run_bind, Sem.run_pure, Result.andThen_ok, List.map_toArray, List.map_cons, List.map_nil, hax, hay, run_max_int2]
end
end Go.Proofs.YtbageimconenlaaGreat
namespace Go.Proofs.YtbageimconenlaaGreat
open Go.RowKit En
set_option linter.unusedVariables false
set_option maxRecDepth 100000 in
theorem nc_tick (x : Int) (h0 : 0 ≤ x) (h1 : x ≤ 16777216) (w : World) : Calls Tryz.prog 193 #[.int .i64 x] w (fun e w' => e = .returned (.bool true) ∧ Below w.heap.size w w') := by
  have d1 : decide (x ≥ 0) = true := by simp only [decide_eq_true_eq]; omega
  have d2 : decide (x ≤ 16777216) = true := by simp only [decide_eq_true_eq]; omega
  refine fun_flat tblOK mixedP Tryz.func193 rfl [.int .i64 x] w 9 [(0, .int .i64 x)] rfl rfl (by kernel_rfl) rfl rfl rfl _ rfl ?_
  repeat' (first | rw [d1] | rw [d2] | refine AR.auto rfl ?_ | refine AR.nil ?_ | refine KF.mk ?_ | refine KT.mk (by kernel_rfl) ?_ | refine SQ.normal ?_ | refine AC.seq ?_ | refine AC.regF ?_ | refine AC.regT ?_ | refine AC.condT rfl ?_ | refine AC.condF rfl ?_ | refine AC.block ?_ | refine BQ.normal ?_ | refine BQ.ret ?_ | refine BQ.here ?_ | refine BQ.there rfl ?_ | refine SQ.ret ?_ | refine SQ.exit ?_ | refine AC.ret ?_ | refine AC.exit ?_ | refine AC.skip ?_ | (refine AR.split rfl (fun h => ?_) (fun h => ?_) <;> rw [h]) | (refine AC.cond rfl (fun h => ?_) (fun h => ?_) <;> rw [h]) | refine FQ.ret rfl rfl ?_ | refine FQ.normal rfl rfl ?_)
  rfl
theorem ent193 : Enters Tryz.prog 193 := enters Tryz.func193 (by kernel_rfl) (by kernel_rfl)
theorem ok_nc_tick {x : Int} (h0 : 0 ≤ x) (h1 : x ≤ 16777216) {s : St} {o : Oper} {c : Call} (ho : o.op = .call c) (hc : c.callee = .value (.func 193)) (hargs : evs s c.args.toList = some [.int .i64 x]) : AOk Tryz.prog s o ⟨rq s c.args.toList, []⟩ ⟨.bool true, [], []⟩ :=
  AOk.call (fun w => nc_tick x h0 h1 w) ent193 ho hc hargs rfl rfl
set_option maxRecDepth 100000 in
theorem nc_first (now w0 r : Int) (h0 : 0 ≤ now) (h1 : now ≤ 16777216) (h2 : 1 ≤ w0) (h3 : w0 ≤ 1048576) (hr : (if now - w0 + 1 > 0 then now - w0 + 1 else 0) = r) (w : World) : Calls Tryz.prog 192 #[.int .i64 now, .int .i64 w0] w (fun e w' => e = .returned (.int .i64 r) ∧ Below w.heap.size w w') := by
  have d1 : decide (w0 < 1) = false := by simp only [decide_eq_false_iff_not]; omega
  have d2 : decide (w0 > 1048576) = false := by simp only [decide_eq_false_iff_not]; omega
  have e1 : IntKind.i64.wrap (now - w0) = now - w0 := IntWalk.i64_in _ (by omega)
  have e2 : IntKind.i64.wrap (now - w0 + 1) = now - w0 + 1 := IntWalk.i64_in _ (by omega)
  refine fun_flat tblOK mixedP Tryz.func192 rfl [.int .i64 now, .int .i64 w0] w 21 [(0, .int .i64 now), (1, .int .i64 w0)] rfl rfl (by kernel_rfl) rfl rfl rfl _ rfl ?_
  repeat' (first | rw [d1] | rw [d2] | rw [e1] | rw [e2] | refine AR.auto rfl ?_ | refine AR.man (ok_nc_tick h0 h1 rfl rfl rfl) rfl rfl rfl ?_ | refine AR.man (ok_max hr rfl rfl rfl rfl rfl) rfl rfl rfl ?_ | refine AR.nil ?_ | refine KF.mk ?_ | refine KT.mk (by kernel_rfl) ?_ | refine SQ.normal ?_ | refine AC.seq ?_ | refine AC.regF ?_ | refine AC.regT ?_ | refine AC.condT rfl ?_ | refine AC.condF rfl ?_ | refine AC.block ?_ | refine BQ.normal ?_ | refine BQ.ret ?_ | refine BQ.here ?_ | refine BQ.there rfl ?_ | refine SQ.ret ?_ | refine SQ.exit ?_ | refine AC.ret ?_ | refine AC.exit ?_ | refine AC.skip ?_ | (refine AR.split rfl (fun h => ?_) (fun h => ?_) <;> rw [h]) | (refine AC.cond rfl (fun h => ?_) (fun h => ?_) <;> rw [h]) | refine FQ.ret rfl rfl ?_ | refine FQ.normal rfl rfl ?_)
  rfl
theorem ent192 : Enters Tryz.prog 192 := enters Tryz.func192 (by kernel_rfl) (by kernel_rfl)
theorem ok_nc_first {now w0 r : Int} (h0 : 0 ≤ now) (h1 : now ≤ 16777216) (h2 : 1 ≤ w0) (h3 : w0 ≤ 1048576) (hr : (if now - w0 + 1 > 0 then now - w0 + 1 else 0) = r) {s : St} {o : Oper} {c : Call} (ho : o.op = .call c) (hc : c.callee = .value (.func 192)) (hargs : evs s c.args.toList = some [.int .i64 now, .int .i64 w0]) : AOk Tryz.prog s o ⟨rq s c.args.toList, []⟩ ⟨.int .i64 r, [], []⟩ :=
  AOk.call (fun w => nc_first now w0 r h0 h1 h2 h3 hr w) ent192 ho hc hargs rfl rfl
set_option maxRecDepth 100000 in
theorem nc_live (now w0 t : Int) (h0 : 0 ≤ now) (h1 : now ≤ 16777216) (h2 : 1 ≤ w0) (h3 : w0 ≤ 1048576) (h4 : 0 ≤ t) (h5 : t ≤ now) (w : World) : Calls Tryz.prog 138 #[.int .i64 now, .int .i64 w0, .int .i64 t] w (fun e w' => e = .returned (.bool (decide (now - w0 < t))) ∧ Below w.heap.size w w') := by
  obtain ⟨r, hr, hr0, hr1⟩ : ∃ r : Int, (if now - w0 + 1 > 0 then now - w0 + 1 else 0) = r ∧ 0 ≤ r ∧ decide (r ≤ t) = decide (now - w0 < t) := by
    refine ⟨_, rfl, ?_, ?_⟩
    · split <;> omega
    · split
      · exact decide_eq_decide.2 (by omega)
      · exact decide_eq_decide.2 (by omega)
  have d1 : decide (r ≥ 0) = true := by simp only [decide_eq_true_eq]; omega
  have d2 : decide (t ≤ now) = true := by simp only [decide_eq_true_eq]; omega
  refine fun_flat tblOK mixedP Tryz.func138 rfl [.int .i64 now, .int .i64 w0, .int .i64 t] w 27 [(0, .int .i64 now), (1, .int .i64 w0), (2, .int .i64 t)] rfl rfl (by kernel_rfl) rfl rfl rfl _ rfl ?_
  repeat' (first | rw [d1] | rw [d2] | rw [hr1] | refine AR.auto rfl ?_ | refine AR.man (ok_nc_first (r := r) h0 h1 h2 h3 hr rfl rfl rfl) rfl rfl rfl ?_ | refine AR.man (ok_nc_tick h4 (by omega) rfl rfl rfl) rfl rfl rfl ?_ | refine AR.nil ?_ | refine KF.mk ?_ | refine KT.mk (by kernel_rfl) ?_ | refine SQ.normal ?_ | refine AC.seq ?_ | refine AC.regF ?_ | refine AC.regT ?_ | refine AC.condT rfl ?_ | refine AC.condF rfl ?_ | refine AC.block ?_ | refine BQ.normal ?_ | refine BQ.ret ?_ | refine BQ.here ?_ | refine BQ.there rfl ?_ | refine SQ.ret ?_ | refine SQ.exit ?_ | refine AC.ret ?_ | refine AC.exit ?_ | refine AC.skip ?_ | (refine AR.split rfl (fun h => ?_) (fun h => ?_) <;> rw [h]) | (refine AC.cond rfl (fun h => ?_) (fun h => ?_) <;> rw [h]) | refine FQ.ret rfl rfl ?_ | refine FQ.normal rfl rfl ?_)
  all_goals first | rfl | (rw [h]; rfl)
theorem ent138 : Enters Tryz.prog 138 := enters Tryz.func138 (by kernel_rfl) (by kernel_rfl)
theorem ok_nc_live {now w0 t : Int} (h0 : 0 ≤ now) (h1 : now ≤ 16777216) (h2 : 1 ≤ w0) (h3 : w0 ≤ 1048576) (h4 : 0 ≤ t) (h5 : t ≤ now) {s : St} {o : Oper} {c : Call} (ho : o.op = .call c) (hc : c.callee = .value (.func 138)) (hargs : evs s c.args.toList = some [.int .i64 now, .int .i64 w0, .int .i64 t]) : AOk Tryz.prog s o ⟨rq s c.args.toList, []⟩ ⟨.bool (decide (now - w0 < t)), [], []⟩ :=
  AOk.call (fun w => nc_live now w0 t h0 h1 h2 h3 h4 h5 w) ent138 ho hc hargs rfl rfl
set_option maxRecDepth 100000 in
theorem nc_adv (now u : Int) (h0 : 0 ≤ now) (h1 : now ≤ u) (h2 : u ≤ 16777216) (w : World) : Calls Tryz.prog 201 #[.int .i64 now, .int .i64 u] w (fun e w' => e = .returned (.tuple #[.int .i64 u, .int .i64 0]) ∧ Below w.heap.size w w') := by
  have d1 : decide (u < now) = false := by simp only [decide_eq_false_iff_not]; omega
  have d2 : decide (u > 16777216) = false := by simp only [decide_eq_false_iff_not]; omega
  refine fun_flat tblOK mixedP Tryz.func201 rfl [.int .i64 now, .int .i64 u] w 19 [(0, .int .i64 now), (1, .int .i64 u)] rfl rfl (by kernel_rfl) rfl rfl rfl _ rfl ?_
  repeat' (first | rw [d1] | rw [d2] | refine AR.auto rfl ?_ | refine AR.man (ok_nc_tick h0 (by omega) rfl rfl rfl) rfl rfl rfl ?_ | refine AR.nil ?_ | refine KF.mk ?_ | refine KT.mk (by kernel_rfl) ?_ | refine SQ.normal ?_ | refine AC.seq ?_ | refine AC.regF ?_ | refine AC.regT ?_ | refine AC.condT rfl ?_ | refine AC.condF rfl ?_ | refine AC.block ?_ | refine BQ.normal ?_ | refine BQ.ret ?_ | refine BQ.here ?_ | refine BQ.there rfl ?_ | refine SQ.ret ?_ | refine SQ.exit ?_ | refine AC.ret ?_ | refine AC.exit ?_ | refine AC.skip ?_ | (refine AR.split rfl (fun h => ?_) (fun h => ?_) <;> rw [h]) | (refine AC.cond rfl (fun h => ?_) (fun h => ?_) <;> rw [h]) | refine FQ.ret rfl rfl ?_ | refine FQ.normal rfl rfl ?_)
  rfl
theorem ent201 : Enters Tryz.prog 201 := enters Tryz.func201 (by kernel_rfl) (by kernel_rfl)
theorem ok_nc_adv {now u : Int} (h0 : 0 ≤ now) (h1 : now ≤ u) (h2 : u ≤ 16777216) {s : St} {o : Oper} {c : Call} (ho : o.op = .call c) (hc : c.callee = .value (.func 201)) (hargs : evs s c.args.toList = some [.int .i64 now, .int .i64 u]) : AOk Tryz.prog s o ⟨rq s c.args.toList, []⟩ ⟨.tuple #[.int .i64 u, .int .i64 0], [], []⟩ :=
  AOk.call (fun w => nc_adv now u h0 h1 h2 w) ent201 ho hc hargs rfl rfl
structure Fits (n lo hi sm q : Int) : Prop where
  f1 : 0 ≤ n
  f2 : n ≤ 100
  f3 : -4096 ≤ lo
  f4 : hi ≤ 4096
  f5 : lo ≤ hi
  f6 : n * lo ≤ sm
  f7 : sm ≤ n * hi
  f8 : 0 ≤ q
  f9 : q ≤ n * 16777216
  f10 : sm * sm ≤ n * q
theorem Fits.bd {n lo hi sm q : Int} (h : Fits n lo hi sm q) : -409600 ≤ sm ∧ sm ≤ 409600 ∧ -409600 ≤ n * lo ∧ n * hi ≤ 409600 ∧ n * lo ≤ 409600 ∧ -409600 ≤ n * hi ∧ q ≤ 1677721600 ∧ 0 ≤ n * q ∧ n * q ≤ 167772160000 ∧ 0 ≤ sm * sm := by
  obtain ⟨h1, h2, h3, h4, h5, h6, h7, h8, h9, h10⟩ := h
  have a1 : n * (-4096) ≤ n * lo := Int.mul_le_mul_of_nonneg_left h3 h1
  have a2 : n * hi ≤ n * 4096 := Int.mul_le_mul_of_nonneg_left h4 h1
  have a3 : n * lo ≤ n * hi := Int.mul_le_mul_of_nonneg_left h5 h1
  have a4 : 0 ≤ n * q := Int.mul_nonneg h1 h8
  have a5 : n * q ≤ 100 * q := Int.mul_le_mul_of_nonneg_right h2 h8
  have a6 : 0 ≤ sm * sm := by
    rcases Int.le_total 0 sm with h | h
    · exact Int.mul_nonneg h h
    · exact Int.mul_nonneg_of_nonpos_of_nonpos h h
  omega
end Go.Proofs.YtbageimconenlaaGreat
namespace Go.Proofs.YtbageimconenlaaGreat
open Go.RowKit En
set_option linter.unusedVariables false
structure Mk where
  seq : Int
  t : Int
  n : Int
  s : Int
  q : Int
  mn : Int
  mx : Int
structure MkOK (m : Mk) : Prop where
  ft : Fits m.n m.mn m.mx m.s m.q
  n1 : 1 ≤ m.n
theorem MkOK.bd {m : Mk} (h : MkOK m) : 1 ≤ m.n ∧ m.n ≤ 100 ∧ -409600 ≤ m.s ∧ m.s ≤ 409600 ∧ m.n * (-4096) ≤ m.s ∧ m.s ≤ m.n * 4096 ∧ 0 ≤ m.q ∧ m.q ≤ m.n * 16777216 ∧ 0 ≤ m.n * m.q ∧ m.n * m.q ≤ 167772160000 ∧ 0 ≤ m.s * m.s ∧ m.s * m.s ≤ m.n * m.q := by
  obtain ⟨b1, b2, b3, b4, b5, b6, b7, b8, b9, b10⟩ := h.ft.bd
  obtain ⟨h1, h2, h3, h4, h5, h6, h7, h8, h9, h10⟩ := h.ft
  have a1 : m.n * (-4096) ≤ m.n * m.mn := Int.mul_le_mul_of_nonneg_left h3 h1
  have a2 : m.n * m.mx ≤ m.n * 4096 := Int.mul_le_mul_of_nonneg_left h4 h1
  have := h.n1
  omega
end Go.Proofs.YtbageimconenlaaGreat
namespace Go.Proofs.YtbageimconenlaaGreat
open Go.RowKit En
set_option linter.unusedVariables false
section
variable {s : St} {o : Oper} {c : Call}
end
end Go.Proofs.YtbageimconenlaaGreat
namespace Go.Proofs.YtbageimconenlaaGreat
open Go.RowKit En
set_option linter.unusedVariables false
structure Small (m : Mk) : Prop where
  n : -1000 ≤ m.n ∧ m.n ≤ 1000
  s : -1000000 ≤ m.s ∧ m.s ≤ 1000000
  q : -10000000000 ≤ m.q ∧ m.q ≤ 10000000000
end Go.Proofs.YtbageimconenlaaGreat
