/- What the sign of life reaches: numbers. -/
import Derived.Test.YtbageimconenlaaGreatG0
namespace Go.Proofs.YtbageimconenlaaGreat
open Go.RowKit En
set_option linter.unusedVariables false
def subEntry : Array Value → Sem Value := fun args => do
  let (x, y, b) ← Extern.MathBitsCarry.three "Sub64" args
  pure (Extern.MathBitsCarry.pair ((x + Extern.MathBitsCarry.m64 - y - b) % Extern.MathBitsCarry.m64) (if x < y + b then 1 else 0))
theorem fn161 : ∃ fn : Func, Tryz.prog.funcs[161]? = some fn ∧ (fn.name == "runtime.NumGoroutine") = false ∧ fn.body.isNone = true ∧ Extern.findNext fn = none ∧ Extern.find fn = some subEntry :=
  ⟨(Tryz.prog.funcs[161]?).get (by kernel_rfl), by kernel_rfl, by kernel_rfl, by kernel_rfl, by kernel_rfl, by kernel_rfl⟩
theorem sub161a (w : World) : (callFunc 161 #[.int .u64 1, .int .u64 1, .int .u64 0]).run Tryz.prog w = .ok (.value (.tuple #[.int .u64 0, .int .u64 0])) w := by
  obtain ⟨fn, hf, h1, h2, h3, h4⟩ := fn161
  rw [run_callFunc_extern hf h1 h2 h3 h4]; rfl
theorem sub161b (w : World) : (callFunc 161 #[.int .u64 0, .int .u64 0, .int .u64 0]).run Tryz.prog w = .ok (.value (.tuple #[.int .u64 0, .int .u64 0])) w := by
  obtain ⟨fn, hf, h1, h2, h3, h4⟩ := fn161
  rw [run_callFunc_extern hf h1 h2 h3 h4]; rfl
set_option maxRecDepth 100000 in
theorem gw_of (x : Int) (w : World) : Calls Tryz.prog 118 #[.int .u64 x] w (fun e w' => e = .returned (.agg #[.int .u64 0, .int .u64 x]) ∧ Below w.heap.size w w') := by
  refine fun_flat tblOK mixedP Tryz.func118 rfl [.int .u64 x] w 5 [(0, .int .u64 x)] rfl rfl (by kernel_rfl) rfl rfl rfl _ rfl ?_
  repeat' (first | refine AR.auto rfl ?_ | refine AR.nil ?_ | refine KF.mk ?_ | refine KT.mk (by kernel_rfl) ?_ | refine SQ.normal ?_ | refine AC.seq ?_ | refine AC.regF ?_ | refine AC.regT ?_ | refine AC.condT rfl ?_ | refine AC.condF rfl ?_ | refine AC.block ?_ | refine BQ.normal ?_ | refine BQ.ret ?_ | refine BQ.here ?_ | refine BQ.there rfl ?_ | refine SQ.ret ?_ | refine SQ.exit ?_ | refine AC.ret ?_ | refine AC.exit ?_ | refine AC.skip ?_ | (refine AR.split rfl (fun h => ?_) (fun h => ?_) <;> rw [h]) | (refine AC.cond rfl (fun h => ?_) (fun h => ?_) <;> rw [h]) | refine FQ.ret rfl rfl ?_ | refine FQ.normal rfl rfl ?_)
  all_goals rfl
set_option maxRecDepth 100000 in
theorem gr_of (x : Int) (w : World) : Calls Tryz.prog 67 #[.int .i64 x] w (fun e w' => e = .returned (.agg #[.int .i64 x, .int .i64 1]) ∧ Below w.heap.size w w') := by
  refine fun_flat tblOK mixedP Tryz.func67 rfl [.int .i64 x] w 5 [(0, .int .i64 x)] rfl rfl (by kernel_rfl) rfl rfl rfl _ rfl ?_
  repeat' (first | refine AR.auto rfl ?_ | refine AR.nil ?_ | refine KF.mk ?_ | refine KT.mk (by kernel_rfl) ?_ | refine SQ.normal ?_ | refine AC.seq ?_ | refine AC.regF ?_ | refine AC.regT ?_ | refine AC.condT rfl ?_ | refine AC.condF rfl ?_ | refine AC.block ?_ | refine BQ.normal ?_ | refine BQ.ret ?_ | refine BQ.here ?_ | refine BQ.there rfl ?_ | refine SQ.ret ?_ | refine SQ.exit ?_ | refine AC.ret ?_ | refine AC.exit ?_ | refine AC.skip ?_ | (refine AR.split rfl (fun h => ?_) (fun h => ?_) <;> rw [h]) | (refine AC.cond rfl (fun h => ?_) (fun h => ?_) <;> rw [h]) | refine FQ.ret rfl rfl ?_ | refine FQ.normal rfl rfl ?_)
  all_goals rfl
set_option maxRecDepth 100000 in
theorem gw_zero (a b : Int) (w : World) : Calls Tryz.prog 196 #[.agg #[.int .u64 a, .int .u64 b]] w (fun e w' => e = .returned (.bool (a == 0 && b == 0)) ∧ Below w.heap.size w w') := by
  refine fun_flat tblOK mixedP Tryz.func196 rfl [.agg #[.int .u64 a, .int .u64 b]] w 11 [(0, .agg #[.int .u64 a, .int .u64 b])] rfl rfl (by kernel_rfl) rfl rfl rfl _ rfl ?_
  repeat' (first | refine AR.auto rfl ?_ | refine AR.nil ?_ | refine KF.mk ?_ | refine KT.mk (by kernel_rfl) ?_ | refine SQ.normal ?_ | refine AC.seq ?_ | refine AC.regF ?_ | refine AC.regT ?_ | refine AC.condT rfl ?_ | refine AC.condF rfl ?_ | refine AC.block ?_ | refine BQ.normal ?_ | refine BQ.ret ?_ | refine BQ.here ?_ | refine BQ.there rfl ?_ | refine SQ.ret ?_ | refine SQ.exit ?_ | refine AC.ret ?_ | refine AC.exit ?_ | refine AC.skip ?_ | (refine AR.split rfl (fun h => ?_) (fun h => ?_) <;> rw [h]) | (refine AC.cond rfl (fun h => ?_) (fun h => ?_) <;> rw [h]) | refine FQ.ret rfl rfl ?_ | refine FQ.normal rfl rfl ?_)
  all_goals rfl
set_option maxRecDepth 100000 in
theorem gw_cmp (a b c d : Int) (w : World) : Calls Tryz.prog 159 #[.agg #[.int .u64 a, .int .u64 b], .agg #[.int .u64 c, .int .u64 d]] w (fun e w' => e = .returned (.int .i64 (if a < c ∨ a = c ∧ b < d then -1 else if a = c ∧ b = d then 0 else 1)) ∧ Below w.heap.size w w') := by
  refine fun_flat tblOK mixedP Tryz.func159 rfl [.agg #[.int .u64 a, .int .u64 b], .agg #[.int .u64 c, .int .u64 d]] w 29 [(0, .agg #[.int .u64 a, .int .u64 b]), (1, .agg #[.int .u64 c, .int .u64 d])] rfl rfl (by kernel_rfl) rfl rfl rfl _ rfl ?_
  repeat' (first | refine AR.auto rfl ?_ | refine AR.man (AOk.bin (aeql73 _ _ _ _) rfl rfl rfl rfl rfl rfl) rfl rfl rfl ?_ | refine AR.nil ?_ | refine KF.mk ?_ | refine KT.mk (by kernel_rfl) ?_ | refine SQ.normal ?_ | refine AC.seq ?_ | refine AC.regF ?_ | refine AC.regT ?_ | refine AC.condT rfl ?_ | refine AC.condF rfl ?_ | refine AC.block ?_ | refine BQ.normal ?_ | refine BQ.ret ?_ | refine BQ.here ?_ | refine BQ.there rfl ?_ | refine SQ.ret ?_ | refine SQ.exit ?_ | refine AC.ret ?_ | refine AC.exit ?_ | refine AC.skip ?_ | (refine AR.split rfl (fun h => ?_) (fun h => ?_) <;> rw [h]) | (refine AC.cond rfl (fun h => ?_) (fun h => ?_) <;> rw [h]) | refine FQ.ret rfl rfl ?_ | refine FQ.normal rfl rfl ?_)
  all_goals (simp only [decide_eq_true_eq, decide_eq_false_iff_not, beq_iff_eq, beq_eq_false_iff_ne, Bool.and_eq_true, Bool.and_eq_false_iff, ne_eq] at *; simp [resV]; try (split <;> first | rfl | omega))
  all_goals omega
theorem ent219 : Enters Tryz.prog 219 := enters Tryz.func219 (by kernel_rfl) (by kernel_rfl)
theorem ent197 : Enters Tryz.prog 197 := enters Tryz.func197 (by kernel_rfl) (by kernel_rfl)
theorem ent196 : Enters Tryz.prog 196 := enters Tryz.func196 (by kernel_rfl) (by kernel_rfl)
theorem ent221 : Enters Tryz.prog 221 := enters Tryz.func221 (by kernel_rfl) (by kernel_rfl)
theorem ent159 : Enters Tryz.prog 159 := enters Tryz.func159 (by kernel_rfl) (by kernel_rfl)
theorem ent190 : Enters Tryz.prog 190 := enters Tryz.func190 (by kernel_rfl) (by kernel_rfl)
theorem ent165 : Enters Tryz.prog 165 := enters Tryz.func165 (by kernel_rfl) (by kernel_rfl)
theorem ent157 : Enters Tryz.prog 157 := enters Tryz.func157 (by kernel_rfl) (by kernel_rfl)
theorem ent180 : Enters Tryz.prog 180 := enters Tryz.func180 (by kernel_rfl) (by kernel_rfl)
theorem ent225 : Enters Tryz.prog 225 := enters Tryz.func225 (by kernel_rfl) (by kernel_rfl)
theorem ent208 : Enters Tryz.prog 208 := enters Tryz.func208 (by kernel_rfl) (by kernel_rfl)
theorem ent167 : Enters Tryz.prog 167 := enters Tryz.func167 (by kernel_rfl) (by kernel_rfl)
theorem ent118 : Enters Tryz.prog 118 := enters Tryz.func118 (by kernel_rfl) (by kernel_rfl)
theorem ent166 : Enters Tryz.prog 166 := enters Tryz.func166 (by kernel_rfl) (by kernel_rfl)
theorem ent77 : Enters Tryz.prog 77 := enters Tryz.func77 (by kernel_rfl) (by kernel_rfl)
theorem ent78 : Enters Tryz.prog 78 := enters Tryz.func78 (by kernel_rfl) (by kernel_rfl)
theorem ent67 : Enters Tryz.prog 67 := enters Tryz.func67 (by kernel_rfl) (by kernel_rfl)
set_option maxRecDepth 100000 in
theorem g_len1  (w : World) : Calls Tryz.prog 219 #[.int .u64 1] w (fun e w' => e = .returned (.int .i64 1) ∧ Below w.heap.size w w') := by
  refine fun_flat tblOK mixedP Tryz.func219 rfl [.int .u64 1] w 25 [(0, .int .u64 1)] rfl rfl (by kernel_rfl) rfl rfl rfl _ rfl ?_
  repeat' (first | refine AR.auto rfl ?_ | refine AR.nil ?_ | refine KF.mk ?_ | refine KT.mk (by kernel_rfl) ?_ | refine SQ.normal ?_ | refine AC.seq ?_ | refine AC.regF ?_ | refine AC.regT ?_ | refine AC.condT rfl ?_ | refine AC.condF rfl ?_ | refine AC.block ?_ | refine BQ.normal ?_ | refine BQ.ret ?_ | refine BQ.here ?_ | refine BQ.there rfl ?_ | refine SQ.ret ?_ | refine SQ.exit ?_ | refine AC.ret ?_ | refine AC.exit ?_ | refine AC.skip ?_ | (refine AR.split rfl (fun h => ?_) (fun h => ?_) <;> rw [h]) | (refine AC.cond rfl (fun h => ?_) (fun h => ?_) <;> rw [h]) | refine FQ.ret rfl rfl ?_ | refine FQ.normal rfl rfl ?_)
  all_goals rfl
set_option maxRecDepth 100000 in
theorem g_mul11  (w : World) : Calls Tryz.prog 157 #[.int .u64 1, .int .u64 1] w (fun e w' => e = .returned (.tuple #[.int .u64 0, .int .u64 1]) ∧ Below w.heap.size w w') := by
  refine fun_flat tblOK mixedP Tryz.func157 rfl [.int .u64 1, .int .u64 1] w 51 [(0, .int .u64 1), (1, .int .u64 1)] rfl rfl (by kernel_rfl) rfl rfl rfl _ rfl ?_
  repeat' (first | refine AR.auto rfl ?_ | refine AR.nil ?_ | refine KF.mk ?_ | refine KT.mk (by kernel_rfl) ?_ | refine SQ.normal ?_ | refine AC.seq ?_ | refine AC.regF ?_ | refine AC.regT ?_ | refine AC.condT rfl ?_ | refine AC.condF rfl ?_ | refine AC.block ?_ | refine BQ.normal ?_ | refine BQ.ret ?_ | refine BQ.here ?_ | refine BQ.there rfl ?_ | refine SQ.ret ?_ | refine SQ.exit ?_ | refine AC.ret ?_ | refine AC.exit ?_ | refine AC.skip ?_ | (refine AR.split rfl (fun h => ?_) (fun h => ?_) <;> rw [h]) | (refine AC.cond rfl (fun h => ?_) (fun h => ?_) <;> rw [h]) | refine FQ.ret rfl rfl ?_ | refine FQ.normal rfl rfl ?_)
  all_goals rfl
set_option maxRecDepth 100000 in
theorem gw_bits1  (w : World) : Calls Tryz.prog 197 #[.agg #[.int .u64 0, .int .u64 1]] w (fun e w' => e = .returned (.int .i64 1) ∧ Below w.heap.size w w') := by
  refine fun_flat tblOK mixedP Tryz.func197 rfl [.agg #[.int .u64 0, .int .u64 1]] w 13 [(0, .agg #[.int .u64 0, .int .u64 1])] rfl rfl (by kernel_rfl) rfl rfl rfl _ rfl ?_
  repeat' (first | refine AR.auto rfl ?_ | refine AR.man (AOk.call (g_len1) ent219 rfl rfl rfl rfl rfl) rfl rfl rfl ?_ | refine AR.nil ?_ | refine KF.mk ?_ | refine KT.mk (by kernel_rfl) ?_ | refine SQ.normal ?_ | refine AC.seq ?_ | refine AC.regF ?_ | refine AC.regT ?_ | refine AC.condT rfl ?_ | refine AC.condF rfl ?_ | refine AC.block ?_ | refine BQ.normal ?_ | refine BQ.ret ?_ | refine BQ.here ?_ | refine BQ.there rfl ?_ | refine SQ.ret ?_ | refine SQ.exit ?_ | refine AC.ret ?_ | refine AC.exit ?_ | refine AC.skip ?_ | (refine AR.split rfl (fun h => ?_) (fun h => ?_) <;> rw [h]) | (refine AC.cond rfl (fun h => ?_) (fun h => ?_) <;> rw [h]) | refine FQ.ret rfl rfl ?_ | refine FQ.normal rfl rfl ?_)
  all_goals rfl
set_option maxRecDepth 100000 in
theorem gw_bit10  (w : World) : Calls Tryz.prog 221 #[.agg #[.int .u64 0, .int .u64 1], .int .i64 0] w (fun e w' => e = .returned (.int .u64 1) ∧ Below w.heap.size w w') := by
  refine fun_flat tblOK mixedP Tryz.func221 rfl [.agg #[.int .u64 0, .int .u64 1], .int .i64 0] w 20 [(0, .agg #[.int .u64 0, .int .u64 1]), (1, .int .i64 0)] rfl rfl (by kernel_rfl) rfl rfl rfl _ rfl ?_
  repeat' (first | refine AR.auto rfl ?_ | refine AR.nil ?_ | refine KF.mk ?_ | refine KT.mk (by kernel_rfl) ?_ | refine SQ.normal ?_ | refine AC.seq ?_ | refine AC.regF ?_ | refine AC.regT ?_ | refine AC.condT rfl ?_ | refine AC.condF rfl ?_ | refine AC.block ?_ | refine BQ.normal ?_ | refine BQ.ret ?_ | refine BQ.here ?_ | refine BQ.there rfl ?_ | refine SQ.ret ?_ | refine SQ.exit ?_ | refine AC.ret ?_ | refine AC.exit ?_ | refine AC.skip ?_ | (refine AR.split rfl (fun h => ?_) (fun h => ?_) <;> rw [h]) | (refine AC.cond rfl (fun h => ?_) (fun h => ?_) <;> rw [h]) | refine FQ.ret rfl rfl ?_ | refine FQ.normal rfl rfl ?_)
  all_goals rfl
set_option maxRecDepth 100000 in
theorem gw_prod11  (w : World) : Calls Tryz.prog 180 #[.int .u64 1, .int .u64 1] w (fun e w' => e = .returned (.agg #[.int .u64 0, .int .u64 1]) ∧ Below w.heap.size w w') := by
  refine fun_flat tblOK mixedP Tryz.func180 rfl [.int .u64 1, .int .u64 1] w 16 [(0, .int .u64 1), (1, .int .u64 1)] rfl rfl (by kernel_rfl) rfl rfl rfl _ rfl ?_
  repeat' (first | refine AR.auto rfl ?_ | refine AR.man (AOk.call (g_mul11) ent157 rfl rfl rfl rfl rfl) rfl rfl rfl ?_ | refine AR.nil ?_ | refine KF.mk ?_ | refine KT.mk (by kernel_rfl) ?_ | refine SQ.normal ?_ | refine AC.seq ?_ | refine AC.regF ?_ | refine AC.regT ?_ | refine AC.condT rfl ?_ | refine AC.condF rfl ?_ | refine AC.block ?_ | refine BQ.normal ?_ | refine BQ.ret ?_ | refine BQ.here ?_ | refine BQ.there rfl ?_ | refine SQ.ret ?_ | refine SQ.exit ?_ | refine AC.ret ?_ | refine AC.exit ?_ | refine AC.skip ?_ | (refine AR.split rfl (fun h => ?_) (fun h => ?_) <;> rw [h]) | (refine AC.cond rfl (fun h => ?_) (fun h => ?_) <;> rw [h]) | refine FQ.ret rfl rfl ?_ | refine FQ.normal rfl rfl ?_)
  all_goals rfl
set_option maxRecDepth 100000 in
theorem gw_div11  (w : World) : Calls Tryz.prog 190 #[.agg #[.int .u64 0, .int .u64 1], .agg #[.int .u64 0, .int .u64 1]] w (fun e w' => e = .returned (.tuple #[.agg #[.int .u64 0, .int .u64 1], .agg #[.int .u64 0, .int .u64 0], .bool true]) ∧ Below w.heap.size w w') := by
  refine fun_flat tblOK mixedP Tryz.func190 rfl [.agg #[.int .u64 0, .int .u64 1], .agg #[.int .u64 0, .int .u64 1]] w 89 [(0, .agg #[.int .u64 0, .int .u64 1]), (1, .agg #[.int .u64 0, .int .u64 1])] rfl rfl (by kernel_rfl) rfl rfl rfl _ rfl ?_
  repeat' (first | refine AR.auto rfl ?_ | refine AR.man (AOk.call (gw_zero 0 1) ent196 rfl rfl rfl rfl rfl) rfl rfl rfl ?_ | refine AR.man (AOk.call (gw_bits1) ent197 rfl rfl rfl rfl rfl) rfl rfl rfl ?_ | refine AR.man (AOk.call (gw_bit10) ent221 rfl rfl rfl rfl rfl) rfl rfl rfl ?_ | refine AR.man (AOk.call (gw_cmp 0 1 0 1) ent159 rfl rfl rfl rfl rfl) rfl rfl rfl ?_ | refine AR.man (AOk.ext (sub161a) rfl rfl rfl rfl rfl) rfl rfl rfl ?_ | refine AR.man (AOk.ext (sub161b) rfl rfl rfl rfl rfl) rfl rfl rfl ?_ | refine AR.nil ?_ | refine KF.mk ?_ | refine KT.mk (by kernel_rfl) ?_ | refine SQ.normal ?_ | refine AC.seq ?_ | refine AC.regF ?_ | refine AC.regT ?_ | refine AC.condT rfl ?_ | refine AC.condF rfl ?_ | refine AC.block ?_ | refine BQ.normal ?_ | refine BQ.ret ?_ | refine BQ.here ?_ | refine BQ.there rfl ?_ | refine SQ.ret ?_ | refine SQ.exit ?_ | refine AC.ret ?_ | refine AC.exit ?_ | refine AC.skip ?_ | refine AC.rounds 2 ?_ | refine RN.step ?_ | (refine AR.split rfl (fun h => ?_) (fun h => ?_) <;> rw [h]) | (refine AC.cond rfl (fun h => ?_) (fun h => ?_) <;> rw [h]) | refine FQ.ret rfl rfl ?_ | refine FQ.normal rfl rfl ?_)
  all_goals rfl
set_option maxRecDepth 100000 in
theorem gw_gcd11  (w : World) : Calls Tryz.prog 165 #[.agg #[.int .u64 0, .int .u64 1], .agg #[.int .u64 0, .int .u64 1]] w (fun e w' => e = .returned (.agg #[.int .u64 0, .int .u64 1]) ∧ Below w.heap.size w w') := by
  refine fun_flat tblOK mixedP Tryz.func165 rfl [.agg #[.int .u64 0, .int .u64 1], .agg #[.int .u64 0, .int .u64 1]] w 21 [(0, .agg #[.int .u64 0, .int .u64 1]), (1, .agg #[.int .u64 0, .int .u64 1])] rfl rfl (by kernel_rfl) rfl rfl rfl _ rfl ?_
  repeat' (first | refine AR.auto rfl ?_ | refine AR.man (AOk.call (gw_zero 0 1) ent196 rfl rfl rfl rfl rfl) rfl rfl rfl ?_ | refine AR.man (AOk.call (gw_zero 0 0) ent196 rfl rfl rfl rfl rfl) rfl rfl rfl ?_ | refine AR.man (AOk.call (gw_div11) ent190 rfl rfl rfl rfl rfl) rfl rfl rfl ?_ | refine AR.nil ?_ | refine KF.mk ?_ | refine KT.mk (by kernel_rfl) ?_ | refine SQ.normal ?_ | refine AC.seq ?_ | refine AC.regF ?_ | refine AC.regT ?_ | refine AC.condT rfl ?_ | refine AC.condF rfl ?_ | refine AC.block ?_ | refine BQ.normal ?_ | refine BQ.ret ?_ | refine BQ.here ?_ | refine BQ.there rfl ?_ | refine SQ.ret ?_ | refine SQ.exit ?_ | refine AC.ret ?_ | refine AC.exit ?_ | refine AC.skip ?_ | refine AC.rounds 2 ?_ | refine RN.step ?_ | (refine AR.split rfl (fun h => ?_) (fun h => ?_) <;> rw [h]) | (refine AC.cond rfl (fun h => ?_) (fun h => ?_) <;> rw [h]) | refine FQ.ret rfl rfl ?_ | refine FQ.normal rfl rfl ?_)
  all_goals rfl
set_option maxRecDepth 100000 in
theorem g_size1  (w : World) : Calls Tryz.prog 225 #[.int .i64 1] w (fun e w' => e = .returned (.int .u64 1) ∧ Below w.heap.size w w') := by
  refine fun_flat tblOK mixedP Tryz.func225 rfl [.int .i64 1] w 10 [(0, .int .i64 1)] rfl rfl (by kernel_rfl) rfl rfl rfl _ rfl ?_
  repeat' (first | refine AR.auto rfl ?_ | refine AR.nil ?_ | refine KF.mk ?_ | refine KT.mk (by kernel_rfl) ?_ | refine SQ.normal ?_ | refine AC.seq ?_ | refine AC.regF ?_ | refine AC.regT ?_ | refine AC.condT rfl ?_ | refine AC.condF rfl ?_ | refine AC.block ?_ | refine BQ.normal ?_ | refine BQ.ret ?_ | refine BQ.here ?_ | refine BQ.there rfl ?_ | refine SQ.ret ?_ | refine SQ.exit ?_ | refine AC.ret ?_ | refine AC.exit ?_ | refine AC.skip ?_ | (refine AR.split rfl (fun h => ?_) (fun h => ?_) <;> rw [h]) | (refine AC.cond rfl (fun h => ?_) (fun h => ?_) <;> rw [h]) | refine FQ.ret rfl rfl ?_ | refine FQ.normal rfl rfl ?_)
  all_goals rfl
set_option maxRecDepth 100000 in
theorem gr_size1  (w : World) : Calls Tryz.prog 166 #[.int .i64 1] w (fun e w' => e = .returned (.int .u64 1) ∧ Below w.heap.size w w') := by
  refine fun_flat tblOK mixedP Tryz.func166 rfl [.int .i64 1] w 10 [(0, .int .i64 1)] rfl rfl (by kernel_rfl) rfl rfl rfl _ rfl ?_
  repeat' (first | refine AR.auto rfl ?_ | refine AR.nil ?_ | refine KF.mk ?_ | refine KT.mk (by kernel_rfl) ?_ | refine SQ.normal ?_ | refine AC.seq ?_ | refine AC.regF ?_ | refine AC.regT ?_ | refine AC.condT rfl ?_ | refine AC.condF rfl ?_ | refine AC.block ?_ | refine BQ.normal ?_ | refine BQ.ret ?_ | refine BQ.here ?_ | refine BQ.there rfl ?_ | refine SQ.ret ?_ | refine SQ.exit ?_ | refine AC.ret ?_ | refine AC.exit ?_ | refine AC.skip ?_ | (refine AR.split rfl (fun h => ?_) (fun h => ?_) <;> rw [h]) | (refine AC.cond rfl (fun h => ?_) (fun h => ?_) <;> rw [h]) | refine FQ.ret rfl rfl ?_ | refine FQ.normal rfl rfl ?_)
  all_goals rfl
set_option maxRecDepth 100000 in
theorem gw_signed11  (w : World) : Calls Tryz.prog 208 #[.int .i64 1, .int .i64 1] w (fun e w' => e = .returned (.tuple #[.bool false, .agg #[.int .u64 0, .int .u64 1]]) ∧ Below w.heap.size w w') := by
  refine fun_flat tblOK mixedP Tryz.func208 rfl [.int .i64 1, .int .i64 1] w 16 [(0, .int .i64 1), (1, .int .i64 1)] rfl rfl (by kernel_rfl) rfl rfl rfl _ rfl ?_
  repeat' (first | refine AR.auto rfl ?_ | refine AR.man (AOk.call (g_size1) ent225 rfl rfl rfl rfl rfl) rfl rfl rfl ?_ | refine AR.man (AOk.call (gw_prod11) ent180 rfl rfl rfl rfl rfl) rfl rfl rfl ?_ | refine AR.nil ?_ | refine KF.mk ?_ | refine KT.mk (by kernel_rfl) ?_ | refine SQ.normal ?_ | refine AC.seq ?_ | refine AC.regF ?_ | refine AC.regT ?_ | refine AC.condT rfl ?_ | refine AC.condF rfl ?_ | refine AC.block ?_ | refine BQ.normal ?_ | refine BQ.ret ?_ | refine BQ.here ?_ | refine BQ.there rfl ?_ | refine SQ.ret ?_ | refine SQ.exit ?_ | refine AC.ret ?_ | refine AC.exit ?_ | refine AC.skip ?_ | (refine AR.split rfl (fun h => ?_) (fun h => ?_) <;> rw [h]) | (refine AC.cond rfl (fun h => ?_) (fun h => ?_) <;> rw [h]) | refine FQ.ret rfl rfl ?_ | refine FQ.normal rfl rfl ?_)
  all_goals rfl
set_option maxRecDepth 100000 in
theorem gw_cross1  (w : World) : Calls Tryz.prog 167 #[.int .i64 1, .int .i64 1, .int .i64 1, .int .i64 1] w (fun e w' => e = .returned (.int .i64 0) ∧ Below w.heap.size w w') := by
  refine fun_flat tblOK mixedP Tryz.func167 rfl [.int .i64 1, .int .i64 1, .int .i64 1, .int .i64 1] w 57 [(0, .int .i64 1), (1, .int .i64 1), (2, .int .i64 1), (3, .int .i64 1)] rfl rfl (by kernel_rfl) rfl rfl rfl _ rfl ?_
  repeat' (first | refine AR.auto rfl ?_ | refine AR.man (AOk.call (gw_signed11) ent208 rfl rfl rfl rfl rfl) rfl rfl rfl ?_ | refine AR.man (AOk.call (gw_cmp 0 1 0 1) ent159 rfl rfl rfl rfl rfl) rfl rfl rfl ?_ | refine AR.man (AOk.call (gw_zero 0 1) ent196 rfl rfl rfl rfl rfl) rfl rfl rfl ?_ | refine AR.nil ?_ | refine KF.mk ?_ | refine KT.mk (by kernel_rfl) ?_ | refine SQ.normal ?_ | refine AC.seq ?_ | refine AC.regF ?_ | refine AC.regT ?_ | refine AC.condT rfl ?_ | refine AC.condF rfl ?_ | refine AC.block ?_ | refine BQ.normal ?_ | refine BQ.ret ?_ | refine BQ.here ?_ | refine BQ.there rfl ?_ | refine SQ.ret ?_ | refine SQ.exit ?_ | refine AC.ret ?_ | refine AC.exit ?_ | refine AC.skip ?_ | (refine AR.split rfl (fun h => ?_) (fun h => ?_) <;> rw [h]) | (refine AC.cond rfl (fun h => ?_) (fun h => ?_) <;> rw [h]) | refine FQ.ret rfl rfl ?_ | refine FQ.normal rfl rfl ?_)
  all_goals rfl
set_option maxRecDepth 100000 in
theorem gr_valid1  (w : World) : Calls Tryz.prog 77 #[.agg #[.int .i64 1, .int .i64 1]] w (fun e w' => e = .returned (.bool true) ∧ Below w.heap.size w w') := by
  refine fun_flat tblOK mixedP Tryz.func77 rfl [.agg #[.int .i64 1, .int .i64 1]] w 19 [(0, .agg #[.int .i64 1, .int .i64 1])] rfl rfl (by kernel_rfl) rfl rfl rfl _ rfl ?_
  repeat' (first | refine AR.auto rfl ?_ | refine AR.man (AOk.call (gr_size1) ent166 rfl rfl rfl rfl rfl) rfl rfl rfl ?_ | refine AR.man (AOk.call (gw_of 1) ent118 rfl rfl rfl rfl rfl) rfl rfl rfl ?_ | refine AR.man (AOk.call (gw_gcd11) ent165 rfl rfl rfl rfl rfl) rfl rfl rfl ?_ | refine AR.man (AOk.bin (aeql73 _ _ _ _) rfl rfl rfl rfl rfl rfl) rfl rfl rfl ?_ | refine AR.nil ?_ | refine KF.mk ?_ | refine KT.mk (by kernel_rfl) ?_ | refine SQ.normal ?_ | refine AC.seq ?_ | refine AC.regF ?_ | refine AC.regT ?_ | refine AC.condT rfl ?_ | refine AC.condF rfl ?_ | refine AC.block ?_ | refine BQ.normal ?_ | refine BQ.ret ?_ | refine BQ.here ?_ | refine BQ.there rfl ?_ | refine SQ.ret ?_ | refine SQ.exit ?_ | refine AC.ret ?_ | refine AC.exit ?_ | refine AC.skip ?_ | (refine AR.split rfl (fun h => ?_) (fun h => ?_) <;> rw [h]) | (refine AC.cond rfl (fun h => ?_) (fun h => ?_) <;> rw [h]) | refine FQ.ret rfl rfl ?_ | refine FQ.normal rfl rfl ?_)
  all_goals rfl
set_option maxRecDepth 100000 in
theorem gr_cmp1  (w : World) : Calls Tryz.prog 78 #[.agg #[.int .i64 1, .int .i64 1], .agg #[.int .i64 1, .int .i64 1]] w (fun e w' => e = .returned (.int .i64 0) ∧ Below w.heap.size w w') := by
  refine fun_flat tblOK mixedP Tryz.func78 rfl [.agg #[.int .i64 1, .int .i64 1], .agg #[.int .i64 1, .int .i64 1]] w 22 [(0, .agg #[.int .i64 1, .int .i64 1]), (1, .agg #[.int .i64 1, .int .i64 1])] rfl rfl (by kernel_rfl) rfl rfl rfl _ rfl ?_
  repeat' (first | refine AR.auto rfl ?_ | refine AR.man (AOk.call (gr_valid1) ent77 rfl rfl rfl rfl rfl) rfl rfl rfl ?_ | refine AR.man (AOk.call (gw_cross1) ent167 rfl rfl rfl rfl rfl) rfl rfl rfl ?_ | refine AR.nil ?_ | refine KF.mk ?_ | refine KT.mk (by kernel_rfl) ?_ | refine SQ.normal ?_ | refine AC.seq ?_ | refine AC.regF ?_ | refine AC.regT ?_ | refine AC.condT rfl ?_ | refine AC.condF rfl ?_ | refine AC.block ?_ | refine BQ.normal ?_ | refine BQ.ret ?_ | refine BQ.here ?_ | refine BQ.there rfl ?_ | refine SQ.ret ?_ | refine SQ.exit ?_ | refine AC.ret ?_ | refine AC.exit ?_ | refine AC.skip ?_ | (refine AR.split rfl (fun h => ?_) (fun h => ?_) <;> rw [h]) | (refine AC.cond rfl (fun h => ?_) (fun h => ?_) <;> rw [h]) | refine FQ.ret rfl rfl ?_ | refine FQ.normal rfl rfl ?_)
  all_goals rfl
set_option maxRecDepth 100000 in
theorem gb_valid1  (w : World) : Calls Tryz.prog 66 #[.agg #[.int .i64 1, .int .i64 1, .int .i64 1, .int .i64 1, .int .i64 1, .int .i64 1]] w (fun e w' => e = .returned (.bool true) ∧ Below w.heap.size w w') := by
  refine fun_flat tblOK mixedP Tryz.func66 rfl [.agg #[.int .i64 1, .int .i64 1, .int .i64 1, .int .i64 1, .int .i64 1, .int .i64 1]] w 32 [(0, .agg #[.int .i64 1, .int .i64 1, .int .i64 1, .int .i64 1, .int .i64 1, .int .i64 1])] rfl rfl (by kernel_rfl) rfl rfl rfl _ rfl ?_
  repeat' (first | refine AR.auto rfl ?_ | refine AR.man (AOk.call (gr_valid1) ent77 rfl rfl rfl rfl rfl) rfl rfl rfl ?_ | refine AR.man (AOk.call (gr_cmp1) ent78 rfl rfl rfl rfl rfl) rfl rfl rfl ?_ | refine AR.nil ?_ | refine KF.mk ?_ | refine KT.mk (by kernel_rfl) ?_ | refine SQ.normal ?_ | refine AC.seq ?_ | refine AC.regF ?_ | refine AC.regT ?_ | refine AC.condT rfl ?_ | refine AC.condF rfl ?_ | refine AC.block ?_ | refine BQ.normal ?_ | refine BQ.ret ?_ | refine BQ.here ?_ | refine BQ.there rfl ?_ | refine SQ.ret ?_ | refine SQ.exit ?_ | refine AC.ret ?_ | refine AC.exit ?_ | refine AC.skip ?_ | (refine AR.split rfl (fun h => ?_) (fun h => ?_) <;> rw [h]) | (refine AC.cond rfl (fun h => ?_) (fun h => ?_) <;> rw [h]) | refine FQ.ret rfl rfl ?_ | refine FQ.normal rfl rfl ?_)
  all_goals rfl
end Go.Proofs.YtbageimconenlaaGreat
