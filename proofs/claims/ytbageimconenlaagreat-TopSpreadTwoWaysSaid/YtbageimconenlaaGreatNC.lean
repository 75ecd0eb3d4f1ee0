/- The clock; marks, one by one. -/
import Derived.Test.YtbageimconenlaaGreatNB
import Derived.Test.YtbageimconenlaaGreatNH
namespace Go.Proofs.YtbageimconenlaaGreat
open Go.RowKit En
set_option linter.unusedVariables false
set_option maxRecDepth 100000 in
theorem nc_tick (x : Int) (h0 : 0 ≤ x) (h1 : x ≤ 16777216) (w : World) : Calls Tryz.prog 193 #[.int .i64 x] w (fun e w' => e = .returned (.bool true) ∧ Below w.heap.size w w') := by
  have d1 : decide (x ≥ 0) = true := by simp only [decide_eq_true_eq]; omega
  have d2 : decide (x ≤ 16777216) = true := by simp only [decide_eq_true_eq]; omega
  refine fun_flat tblOK mixedP Tryz.func193 rfl [.int .i64 x] w 9 [(0, .int .i64 x)] rfl rfl (by kernel_rfl) rfl rfl rfl _ rfl ?_
  repeat' (first
    | rw [d1]
    | rw [d2]
    | refine AR.auto rfl ?_
    | refine AR.nil ?_
    | refine KF.mk ?_
    | refine KT.mk (by kernel_rfl) ?_
    | refine SQ.normal ?_
    | refine AC.seq ?_
    | refine AC.regF ?_
    | refine AC.regT ?_
    | refine AC.condT rfl ?_
    | refine AC.condF rfl ?_
    | refine AC.block ?_
    | refine BQ.normal ?_
    | refine BQ.ret ?_
    | refine BQ.here ?_
    | refine BQ.there rfl ?_
    | refine SQ.ret ?_
    | refine SQ.exit ?_
    | refine AC.ret ?_
    | refine AC.exit ?_
    | refine AC.skip ?_
    | (refine AR.split rfl (fun h => ?_) (fun h => ?_) <;> rw [h])
    | (refine AC.cond rfl (fun h => ?_) (fun h => ?_) <;> rw [h])
    | refine FQ.ret rfl rfl ?_
    | refine FQ.normal rfl rfl ?_)
  rfl
theorem ent193 : Enters Tryz.prog 193 := enters Tryz.func193 (by kernel_rfl) (by kernel_rfl)
theorem ok_nc_tick {x : Int} (h0 : 0 ≤ x) (h1 : x ≤ 16777216) {s : St} {o : Oper} {c : Call} (ho : o.op = .call c) (hc : c.callee = .value (.func 193)) (hargs : evs s c.args.toList = some [.int .i64 x]) : AOk Tryz.prog s o ⟨rq s c.args.toList, []⟩ ⟨.bool true, [], []⟩ :=
  AOk.call (fun w => nc_tick x h0 h1 w) ent193 ho hc hargs rfl rfl
set_option maxRecDepth 100000 in
theorem nc_first (now w0 r : Int) (h0 : 0 ≤ now) (h1 : now ≤ 16777216) (h2 : 1 ≤ w0) (h3 : w0 ≤ 1048576) (hr : (if now - w0 + 1 > 0 then now - w0 + 1 else 0) = r) (w : World) : Calls Tryz.prog 192 #[.int .i64 now, .int .i64 w0] w (fun e w' => e = .returned (.int .i64 r) ∧ Below w.heap.size w w') := by
  have d1 : decide (w0 < 1) = false := by simp only [decide_eq_false_iff_not]; omega
  have d2 : decide (w0 > 1048576) = false := by simp only [decide_eq_false_iff_not]; omega
  have e1 : IntKind.i64.wrap (now - w0) = now - w0 := IntWalk.i64_in _ (by omega)
  have e2 : IntKind.i64.wrap (now - w0 + 1) = now - w0 + 1 := IntWalk.i64_in _ (by omega)
  refine fun_flat tblOK mixedP Tryz.func192 rfl [.int .i64 now, .int .i64 w0] w 21 [(0, .int .i64 now), (1, .int .i64 w0)] rfl rfl (by kernel_rfl) rfl rfl rfl _ rfl ?_
  repeat' (first
    | rw [d1]
    | rw [d2]
    | rw [e1]
    | rw [e2]
    | refine AR.auto rfl ?_
    | refine AR.man (ok_nc_tick h0 h1 rfl rfl rfl) rfl rfl rfl ?_
    | refine AR.man (ok_max hr rfl rfl rfl rfl rfl) rfl rfl rfl ?_
    | refine AR.nil ?_
    | refine KF.mk ?_
    | refine KT.mk (by kernel_rfl) ?_
    | refine SQ.normal ?_
    | refine AC.seq ?_
    | refine AC.regF ?_
    | refine AC.regT ?_
    | refine AC.condT rfl ?_
    | refine AC.condF rfl ?_
    | refine AC.block ?_
    | refine BQ.normal ?_
    | refine BQ.ret ?_
    | refine BQ.here ?_
    | refine BQ.there rfl ?_
    | refine SQ.ret ?_
    | refine SQ.exit ?_
    | refine AC.ret ?_
    | refine AC.exit ?_
    | refine AC.skip ?_
    | (refine AR.split rfl (fun h => ?_) (fun h => ?_) <;> rw [h])
    | (refine AC.cond rfl (fun h => ?_) (fun h => ?_) <;> rw [h])
    | refine FQ.ret rfl rfl ?_
    | refine FQ.normal rfl rfl ?_)
  rfl
theorem ent192 : Enters Tryz.prog 192 := enters Tryz.func192 (by kernel_rfl) (by kernel_rfl)
theorem ok_nc_first {now w0 r : Int} (h0 : 0 ≤ now) (h1 : now ≤ 16777216) (h2 : 1 ≤ w0) (h3 : w0 ≤ 1048576) (hr : (if now - w0 + 1 > 0 then now - w0 + 1 else 0) = r) {s : St} {o : Oper} {c : Call} (ho : o.op = .call c) (hc : c.callee = .value (.func 192)) (hargs : evs s c.args.toList = some [.int .i64 now, .int .i64 w0]) : AOk Tryz.prog s o ⟨rq s c.args.toList, []⟩ ⟨.int .i64 r, [], []⟩ :=
  AOk.call (fun w => nc_first now w0 r h0 h1 h2 h3 hr w) ent192 ho hc hargs rfl rfl
set_option maxRecDepth 100000 in
theorem nc_live (now w0 t : Int) (h0 : 0 ≤ now) (h1 : now ≤ 16777216) (h2 : 1 ≤ w0) (h3 : w0 ≤ 1048576) (h4 : 0 ≤ t) (h5 : t ≤ now) (w : World) : Calls Tryz.prog 138 #[.int .i64 now, .int .i64 w0, .int .i64 t] w (fun e w' => e = .returned (.bool (decide (now - w0 < t))) ∧ Below w.heap.size w w') := by
  obtain ⟨r, hr, hr0, hr1⟩ : ∃ r : Int, (if now - w0 + 1 > 0 then now - w0 + 1 else 0) = r ∧ 0 ≤ r ∧ decide (r ≤ t) = decide (now - w0 < t) := by
    refine ⟨_, rfl, ?_, ?_⟩
    · split <;> omega
    · split
      · exact decide_eq_decide.2 (by omega)
      · exact decide_eq_decide.2 (by omega)
  have d1 : decide (r ≥ 0) = true := by simp only [decide_eq_true_eq]; omega
  have d2 : decide (t ≤ now) = true := by simp only [decide_eq_true_eq]; omega
  refine fun_flat tblOK mixedP Tryz.func138 rfl [.int .i64 now, .int .i64 w0, .int .i64 t] w 27 [(0, .int .i64 now), (1, .int .i64 w0), (2, .int .i64 t)] rfl rfl (by kernel_rfl) rfl rfl rfl _ rfl ?_
  repeat' (first
    | rw [d1]
    | rw [d2]
    | rw [hr1]
    | refine AR.auto rfl ?_
    | refine AR.man (ok_nc_first (r := r) h0 h1 h2 h3 hr rfl rfl rfl) rfl rfl rfl ?_
    | refine AR.man (ok_nc_tick h4 (by omega) rfl rfl rfl) rfl rfl rfl ?_
    | refine AR.nil ?_
    | refine KF.mk ?_
    | refine KT.mk (by kernel_rfl) ?_
    | refine SQ.normal ?_
    | refine AC.seq ?_
    | refine AC.regF ?_
    | refine AC.regT ?_
    | refine AC.condT rfl ?_
    | refine AC.condF rfl ?_
    | refine AC.block ?_
    | refine BQ.normal ?_
    | refine BQ.ret ?_
    | refine BQ.here ?_
    | refine BQ.there rfl ?_
    | refine SQ.ret ?_
    | refine SQ.exit ?_
    | refine AC.ret ?_
    | refine AC.exit ?_
    | refine AC.skip ?_
    | (refine AR.split rfl (fun h => ?_) (fun h => ?_) <;> rw [h])
    | (refine AC.cond rfl (fun h => ?_) (fun h => ?_) <;> rw [h])
    | refine FQ.ret rfl rfl ?_
    | refine FQ.normal rfl rfl ?_)
  all_goals first | rfl | (rw [h]; rfl)
theorem ent138 : Enters Tryz.prog 138 := enters Tryz.func138 (by kernel_rfl) (by kernel_rfl)
theorem ok_nc_live {now w0 t : Int} (h0 : 0 ≤ now) (h1 : now ≤ 16777216) (h2 : 1 ≤ w0) (h3 : w0 ≤ 1048576) (h4 : 0 ≤ t) (h5 : t ≤ now) {s : St} {o : Oper} {c : Call} (ho : o.op = .call c) (hc : c.callee = .value (.func 138)) (hargs : evs s c.args.toList = some [.int .i64 now, .int .i64 w0, .int .i64 t]) : AOk Tryz.prog s o ⟨rq s c.args.toList, []⟩ ⟨.bool (decide (now - w0 < t)), [], []⟩ :=
  AOk.call (fun w => nc_live now w0 t h0 h1 h2 h3 h4 h5 w) ent138 ho hc hargs rfl rfl
set_option maxRecDepth 100000 in
theorem nc_adv (now u : Int) (h0 : 0 ≤ now) (h1 : now ≤ u) (h2 : u ≤ 16777216) (w : World) : Calls Tryz.prog 201 #[.int .i64 now, .int .i64 u] w (fun e w' => e = .returned (.tuple #[.int .i64 u, .int .i64 0]) ∧ Below w.heap.size w w') := by
  have d1 : decide (u < now) = false := by simp only [decide_eq_false_iff_not]; omega
  have d2 : decide (u > 16777216) = false := by simp only [decide_eq_false_iff_not]; omega
  refine fun_flat tblOK mixedP Tryz.func201 rfl [.int .i64 now, .int .i64 u] w 19 [(0, .int .i64 now), (1, .int .i64 u)] rfl rfl (by kernel_rfl) rfl rfl rfl _ rfl ?_
  repeat' (first
    | rw [d1]
    | rw [d2]
    | refine AR.auto rfl ?_
    | refine AR.man (ok_nc_tick h0 (by omega) rfl rfl rfl) rfl rfl rfl ?_
    | refine AR.nil ?_
    | refine KF.mk ?_
    | refine KT.mk (by kernel_rfl) ?_
    | refine SQ.normal ?_
    | refine AC.seq ?_
    | refine AC.regF ?_
    | refine AC.regT ?_
    | refine AC.condT rfl ?_
    | refine AC.condF rfl ?_
    | refine AC.block ?_
    | refine BQ.normal ?_
    | refine BQ.ret ?_
    | refine BQ.here ?_
    | refine BQ.there rfl ?_
    | refine SQ.ret ?_
    | refine SQ.exit ?_
    | refine AC.ret ?_
    | refine AC.exit ?_
    | refine AC.skip ?_
    | (refine AR.split rfl (fun h => ?_) (fun h => ?_) <;> rw [h])
    | (refine AC.cond rfl (fun h => ?_) (fun h => ?_) <;> rw [h])
    | refine FQ.ret rfl rfl ?_
    | refine FQ.normal rfl rfl ?_)
  rfl
theorem ent201 : Enters Tryz.prog 201 := enters Tryz.func201 (by kernel_rfl) (by kernel_rfl)
theorem ok_nc_adv {now u : Int} (h0 : 0 ≤ now) (h1 : now ≤ u) (h2 : u ≤ 16777216) {s : St} {o : Oper} {c : Call} (ho : o.op = .call c) (hc : c.callee = .value (.func 201)) (hargs : evs s c.args.toList = some [.int .i64 now, .int .i64 u]) : AOk Tryz.prog s o ⟨rq s c.args.toList, []⟩ ⟨.tuple #[.int .i64 u, .int .i64 0], [], []⟩ :=
  AOk.call (fun w => nc_adv now u h0 h1 h2 w) ent201 ho hc hargs rfl rfl
set_option maxRecDepth 100000 in
theorem nm_good (w0 k cap now : Int) (h1 : 1 ≤ w0) (h2 : w0 ≤ 1048576) (h3 : 1 ≤ k) (h4 : k ≤ 64) (h5 : 1 ≤ cap) (h6 : cap ≤ 65536) (h7 : 0 ≤ now) (h8 : now ≤ 16777216) (w : World) : Calls Tryz.prog 89 #[.int .i64 w0, .int .i64 k, .int .i64 cap, .int .i64 now] w (fun e w' => e = .returned (.bool true) ∧ Below w.heap.size w w') := by
  have d0 : decide (w0 ≥ 1) = true := by simp only [decide_eq_true_eq]; omega
  have d1 : decide (w0 ≤ 1048576) = true := by simp only [decide_eq_true_eq]; omega
  have d2 : decide (k ≥ 1) = true := by simp only [decide_eq_true_eq]; omega
  have d3 : decide (k ≤ 64) = true := by simp only [decide_eq_true_eq]; omega
  have d4 : decide (cap ≥ 1) = true := by simp only [decide_eq_true_eq]; omega
  have d5 : decide (cap ≤ 65536) = true := by simp only [decide_eq_true_eq]; omega
  have d6 : decide (now ≥ 0) = true := by simp only [decide_eq_true_eq]; omega
  have d7 : decide (now ≤ 16777216) = true := by simp only [decide_eq_true_eq]; omega
  refine fun_flat tblOK mixedP Tryz.func89 rfl [.int .i64 w0, .int .i64 k, .int .i64 cap, .int .i64 now] w 39 [(0, .int .i64 w0), (1, .int .i64 k), (2, .int .i64 cap), (3, .int .i64 now)] rfl rfl (by kernel_rfl) rfl rfl rfl _ rfl ?_
  repeat' (first
    | rw [d0]
    | rw [d1]
    | rw [d2]
    | rw [d3]
    | rw [d4]
    | rw [d5]
    | rw [d6]
    | rw [d7]
    | refine AR.auto rfl ?_
    | refine AR.nil ?_
    | refine KF.mk ?_
    | refine KT.mk (by kernel_rfl) ?_
    | refine SQ.normal ?_
    | refine AC.seq ?_
    | refine AC.regF ?_
    | refine AC.regT ?_
    | refine AC.condT rfl ?_
    | refine AC.condF rfl ?_
    | refine AC.block ?_
    | refine BQ.normal ?_
    | refine BQ.ret ?_
    | refine BQ.here ?_
    | refine BQ.there rfl ?_
    | refine SQ.ret ?_
    | refine SQ.exit ?_
    | refine AC.ret ?_
    | refine AC.exit ?_
    | refine AC.skip ?_
    | (refine AR.split rfl (fun h => ?_) (fun h => ?_) <;> rw [h])
    | (refine AC.cond rfl (fun h => ?_) (fun h => ?_) <;> rw [h])
    | refine FQ.ret rfl rfl ?_
    | refine FQ.normal rfl rfl ?_)
  rfl
theorem ent89 : Enters Tryz.prog 89 := enters Tryz.func89 (by kernel_rfl) (by kernel_rfl)
theorem ok_nm_good {w0 k cap now : Int} (h1 : 1 ≤ w0) (h2 : w0 ≤ 1048576) (h3 : 1 ≤ k) (h4 : k ≤ 64) (h5 : 1 ≤ cap) (h6 : cap ≤ 65536) (h7 : 0 ≤ now) (h8 : now ≤ 16777216) {s : St} {o : Oper} {c : Call} (ho : o.op = .call c) (hc : c.callee = .value (.func 89)) (hargs : evs s c.args.toList = some [.int .i64 w0, .int .i64 k, .int .i64 cap, .int .i64 now]) : AOk Tryz.prog s o ⟨rq s c.args.toList, []⟩ ⟨.bool true, [], []⟩ :=
  AOk.call (fun w => nm_good w0 k cap now h1 h2 h3 h4 h5 h6 h7 h8 w) ent89 ho hc hargs rfl rfl
/-- numbers that n values from lo to hi may have -/
structure Fits (n lo hi sm q : Int) : Prop where
  f1 : 0 ≤ n
  f2 : n ≤ 100
  f3 : -4096 ≤ lo
  f4 : hi ≤ 4096
  f5 : lo ≤ hi
  f6 : n * lo ≤ sm
  f7 : sm ≤ n * hi
  f8 : 0 ≤ q
  f9 : q ≤ n * 16777216
  f10 : sm * sm ≤ n * q
theorem Fits.bd {n lo hi sm q : Int} (h : Fits n lo hi sm q) : -409600 ≤ sm ∧ sm ≤ 409600 ∧ -409600 ≤ n * lo ∧ n * hi ≤ 409600 ∧ n * lo ≤ 409600 ∧ -409600 ≤ n * hi ∧ q ≤ 1677721600 ∧ 0 ≤ n * q ∧ n * q ≤ 167772160000 ∧ 0 ≤ sm * sm := by
  obtain ⟨h1, h2, h3, h4, h5, h6, h7, h8, h9, h10⟩ := h
  have a1 : n * (-4096) ≤ n * lo := Int.mul_le_mul_of_nonneg_left h3 h1
  have a2 : n * hi ≤ n * 4096 := Int.mul_le_mul_of_nonneg_left h4 h1
  have a3 : n * lo ≤ n * hi := Int.mul_le_mul_of_nonneg_left h5 h1
  have a4 : 0 ≤ n * q := Int.mul_nonneg h1 h8
  have a5 : n * q ≤ 100 * q := Int.mul_le_mul_of_nonneg_right h2 h8
  have a6 : 0 ≤ sm * sm := by
    rcases Int.le_total 0 sm with h | h
    · exact Int.mul_nonneg h h
    · exact Int.mul_nonneg_of_nonpos_of_nonpos h h
  omega
set_option maxRecDepth 100000 in
theorem nm_fits (n lo hi sm q : Int) (h : Fits n lo hi sm q) (w : World) : Calls Tryz.prog 212 #[.int .i64 n, .int .i64 lo, .int .i64 hi, .int .i64 sm, .int .i64 q] w (fun e w' => e = .returned (.bool true) ∧ Below w.heap.size w w') := by
  obtain ⟨b1, b2, b3, b4, b5, b6, b7, b8, b9, b10⟩ := h.bd
  obtain ⟨g1, g2, g3, g4, g5, g6, g7, g8, g9, g10⟩ := h
  have w1 : IntKind.i64.wrap (n * lo) = n * lo := IntWalk.i64_in _ (by omega)
  have w2 : IntKind.i64.wrap (n * hi) = n * hi := IntWalk.i64_in _ (by omega)
  have w3 : IntKind.i64.wrap (n * 4096) = n * 4096 := IntWalk.i64_in _ (by omega)
  have w4 : IntKind.i64.wrap (n * 4096 * 4096) = n * 16777216 := by rw [IntWalk.i64_in _ (by omega)]; omega
  have w5 : IntKind.i64.wrap (sm * sm) = sm * sm := IntWalk.i64_in _ (by omega)
  have w6 : IntKind.i64.wrap (n * q) = n * q := IntWalk.i64_in _ (by omega)
  have d1 : decide (sm ≥ n * lo) = true := by simp only [decide_eq_true_eq]; omega
  have d2 : decide (sm ≤ n * hi) = true := by simp only [decide_eq_true_eq]; omega
  have d3 : decide (q ≥ 0) = true := by simp only [decide_eq_true_eq]; omega
  have d4 : decide (q ≤ n * 16777216) = true := by simp only [decide_eq_true_eq]; omega
  have d5 : decide (sm * sm ≤ n * q) = true := by simp only [decide_eq_true_eq]; omega
  refine fun_flat tblOK mixedP Tryz.func212 rfl [.int .i64 n, .int .i64 lo, .int .i64 hi, .int .i64 sm, .int .i64 q] w 43 [(0, .int .i64 n), (1, .int .i64 lo), (2, .int .i64 hi), (3, .int .i64 sm), (4, .int .i64 q)] rfl rfl (by kernel_rfl) rfl rfl rfl _ rfl ?_
  repeat' (first
    | rw [w1]
    | rw [w2]
    | rw [w3]
    | rw [w4]
    | rw [w5]
    | rw [w6]
    | rw [d1]
    | rw [d2]
    | rw [d3]
    | rw [d4]
    | rw [d5]
    | refine AR.auto rfl ?_
    | refine AR.nil ?_
    | refine KF.mk ?_
    | refine KT.mk (by kernel_rfl) ?_
    | refine SQ.normal ?_
    | refine AC.seq ?_
    | refine AC.regF ?_
    | refine AC.regT ?_
    | refine AC.condT rfl ?_
    | refine AC.condF rfl ?_
    | refine AC.block ?_
    | refine BQ.normal ?_
    | refine BQ.ret ?_
    | refine BQ.here ?_
    | refine BQ.there rfl ?_
    | refine SQ.ret ?_
    | refine SQ.exit ?_
    | refine AC.ret ?_
    | refine AC.exit ?_
    | refine AC.skip ?_
    | (refine AR.split rfl (fun h => ?_) (fun h => ?_) <;> rw [h])
    | (refine AC.cond rfl (fun h => ?_) (fun h => ?_) <;> rw [h])
    | refine FQ.ret rfl rfl ?_
    | refine FQ.normal rfl rfl ?_)
  rfl
theorem ent212 : Enters Tryz.prog 212 := enters Tryz.func212 (by kernel_rfl) (by kernel_rfl)
theorem ok_nm_fits {n lo hi sm q : Int} (h : Fits n lo hi sm q) {s : St} {o : Oper} {c : Call} (ho : o.op = .call c) (hc : c.callee = .value (.func 212)) (hargs : evs s c.args.toList = some [.int .i64 n, .int .i64 lo, .int .i64 hi, .int .i64 sm, .int .i64 q]) : AOk Tryz.prog s o ⟨rq s c.args.toList, []⟩ ⟨.bool true, [], []⟩ :=
  AOk.call (fun w => nm_fits n lo hi sm q h w) ent212 ho hc hargs rfl rfl
end Go.Proofs.YtbageimconenlaaGreat
