/- Exact answers: numbers of 256 bits, of one word each. -/
import Derived.Test.YtbageimconenlaaGreatNT
import Derived.Test.YtbageimconenlaaGreatEW
namespace Go.Proofs.YtbageimconenlaaGreat
open Go.RowKit En
set_option linter.unusedVariables false
theorem ent70 : Enters Tryz.prog 70 := enters Tryz.func70 (by kernel_rfl) (by kernel_rfl)
theorem ent72 : Enters Tryz.prog 72 := enters Tryz.func72 (by kernel_rfl) (by kernel_rfl)
theorem ent73 : Enters Tryz.prog 73 := enters Tryz.func73 (by kernel_rfl) (by kernel_rfl)
theorem ent74 : Enters Tryz.prog 74 := enters Tryz.func74 (by kernel_rfl) (by kernel_rfl)
theorem ent75 : Enters Tryz.prog 75 := enters Tryz.func75 (by kernel_rfl) (by kernel_rfl)
theorem ent162 : Enters Tryz.prog 162 := enters Tryz.func162 (by kernel_rfl) (by kernel_rfl)
theorem ent160 : Enters Tryz.prog 160 := enters Tryz.func160 (by kernel_rfl) (by kernel_rfl)
theorem ok_quo {s : St} {o : Oper} {x y : Operand} {t ty : TypeId} {k : IntKind} {a b r : Int} (hb : b ≠ 0) (hr : k.wrap (a.tdiv b) = r) (ho : o.op = .binOp .quo t x y ty) (hx : ev s x = some (.int k a)) (hy : ev s y = some (.int k b)) : AOk Tryz.prog s o ⟨rq s [x, y], []⟩ ⟨.int k r, [], []⟩ := by
  subst hr
  refine AOk.bin (fun p q w => ?_) ho hx hy rfl rfl rfl
  have h : (do eqGuard .quo t p q (.int k a) (.int k b); binOp .quo t (.int k a) (.int k b) : Sem Value) = pure (.int k (k.wrap (a.tdiv b))) := by
    simp only [eqGuard_quo, binOp_quo, Op.intDiv, if_neg hb]; rfl
  rw [h]; rfl
theorem ok_rem {s : St} {o : Oper} {x y : Operand} {t ty : TypeId} {k : IntKind} {a b r : Int} (hb : b ≠ 0) (hr : a.tmod b = r) (ho : o.op = .binOp .rem t x y ty) (hx : ev s x = some (.int k a)) (hy : ev s y = some (.int k b)) : AOk Tryz.prog s o ⟨rq s [x, y], []⟩ ⟨.int k r, [], []⟩ := by
  subst hr
  refine AOk.bin (fun p q w => ?_) ho hx hy rfl rfl rfl
  have h : (do eqGuard .rem t p q (.int k a) (.int k b); binOp .rem t (.int k a) (.int k b) : Sem Value) = pure (.int k (a.tmod b)) := by
    simp only [eqGuard_rem, binOp_rem, Op.intDiv, if_neg hb]; rfl
  rw [h]; rfl
set_option maxRecDepth 100000 in
theorem nx_abs (a : Int) (ha : -9223372036854775808 < a ∧ a < 9223372036854775808) (w : World) : Calls Tryz.prog 71 #[.int .i64 a] w (fun e w' => e = .returned (.int .u64 (a.natAbs : Nat)) ∧ Below w.heap.size w w') := by
  have h1 : a < 0 → IntKind.u64.wrap (0 - IntKind.u64.wrap a) = (a.natAbs : Nat) := fun h => by rw [wu64, wu64]; omega
  have h2 : ¬ a < 0 → IntKind.u64.wrap a = (a.natAbs : Nat) := fun h => by rw [wu64]; omega
  refine fun_flat tblOK mixedP Tryz.func71 rfl [.int .i64 a] w 10 [(0, .int .i64 a)] rfl rfl (by kernel_rfl) rfl rfl rfl _ rfl ?_
  repeat' (first
    | refine AR.auto rfl ?_
    | refine AR.nil ?_
    | refine KF.mk ?_
    | refine KT.mk (by kernel_rfl) ?_
    | refine SQ.normal ?_
    | refine AC.seq ?_
    | refine AC.regF ?_
    | refine AC.regT ?_
    | refine AC.condT rfl ?_
    | refine AC.condF rfl ?_
    | refine AC.block ?_
    | refine BQ.normal ?_
    | refine BQ.ret ?_
    | refine BQ.here ?_
    | refine BQ.there rfl ?_
    | refine SQ.ret ?_
    | refine SQ.exit ?_
    | refine AC.ret ?_
    | refine AC.exit ?_
    | refine AC.skip ?_
    | (refine AR.split rfl (fun h => ?_) (fun h => ?_) <;> rw [h])
    | (refine AC.cond rfl (fun h => ?_) (fun h => ?_) <;> rw [h])
    | refine FQ.ret rfl rfl ?_
    | refine FQ.normal rfl rfl ?_)
  · rw [decide_eq_true_eq] at h
    rw [← h1 h]; rfl
  · rw [decide_eq_false_iff_not] at h
    rw [← h2 h]; rfl
theorem ok_nx_abs {a : Int} (ha : -9223372036854775808 < a ∧ a < 9223372036854775808) {st : St} {o : Oper} {cl : Call} (ho : o.op = .call cl) (hc : cl.callee = .value (.func 71)) (hargs : evs st cl.args.toList = some [.int .i64 a]) : AOk Tryz.prog st o ⟨rq st cl.args.toList, []⟩ ⟨.int .u64 (a.natAbs : Nat), [], []⟩ :=
  AOk.call (fun w => nx_abs a ha w) ent71 ho hc hargs rfl rfl
theorem mulw (x y : Nat) (h : x * y < 9223372036854775808) : (x : Int) * (y : Int) / 18446744073709551616 = 0 ∧ (x : Int) * (y : Int) % 18446744073709551616 = ((x * y : Nat) : Int) := by
  rw [← Int.natCast_mul]; omega
set_option maxRecDepth 100000 in
theorem nx_times0 (q x y : Nat) (hx : x < 9223372036854775808) (hy : y < 9223372036854775808) (hq : q + x * y < 9223372036854775808) (w : World) (g : Nat) (hblk : Blk w g 160 ([.int .u64 (q : Nat), .int .u64 0, .int .u64 0, .int .u64 0] : List Value).toArray) : Calls Tryz.prog 70 (.pointer (some ⟨g, 0, none⟩) :: [.int .u64 ((x : Nat)), .int .u64 ((y : Nat)), .int .i64 0]).toArray w (fun e w' => e = .returned (.tuple #[]) ∧ Blk w' g 160 ([.int .u64 ((q + x * y : Nat)), .int .u64 0, .int .u64 0, .int .u64 0] : List Value).toArray ∧ RowEff w w' g) := by
  obtain ⟨m1, m2⟩ := mulw x y (by omega)
  refine fun_row tblOK mixedP Tryz.func70 rfl g 160 [.int .u64 (q : Nat), .int .u64 0, .int .u64 0, .int .u64 0] [.int .u64 ((q + x * y : Nat)), .int .u64 0, .int .u64 0, .int .u64 0] w hblk rfl rfl [.int .u64 ((x : Nat)), .int .u64 ((y : Nat)), .int .i64 0] 53 [(0, .pointer (some ⟨0, 0, none⟩)), (1, .int .u64 ((x : Nat))), (2, .int .u64 ((y : Nat))), (3, .int .i64 0)] rfl rfl (by kernel_rfl) rfl rfl rfl (.tuple #[]) rfl ?_
  repeat' (first
    | rw [m1]
    | rw [m2]
    | refine AR.auto rfl ?_
    | refine AR.man (ok_nb_mul (x := (x : Int)) (y := (y : Int)) (by omega) (by omega) (by omega) (by omega) rfl rfl rfl) rfl rfl rfl ?_
    | refine AR.man (AOk.ext (add158 q (x * y) (by omega)) rfl rfl rfl rfl rfl) rfl rfl rfl ?_
    | refine AR.man (AOk.ext add158z rfl rfl rfl rfl rfl) rfl rfl rfl ?_
    | refine AR.nil ?_
    | refine KF.mk ?_
    | refine KT.mk (by kernel_rfl) ?_
    | refine SQ.normal ?_
    | refine AC.seq ?_
    | refine AC.regF ?_
    | refine AC.regT ?_
    | refine AC.condT rfl ?_
    | refine AC.condF rfl ?_
    | refine AC.block ?_
    | refine BQ.normal ?_
    | refine BQ.ret ?_
    | refine BQ.here ?_
    | refine BQ.there rfl ?_
    | refine SQ.ret ?_
    | refine SQ.exit ?_
    | refine AC.ret ?_
    | refine AC.exit ?_
    | refine AC.skip ?_
    | refine AC.rounds 4 ?_
    | refine RN.step ?_
    | (refine AR.split rfl (fun h => ?_) (fun h => ?_) <;> rw [h])
    | (refine AC.cond rfl (fun h => ?_) (fun h => ?_) <;> rw [h])
    | refine FQ.ret rfl rfl ?_
    | refine FQ.normal rfl rfl ?_)
  all_goals exact ⟨rfl, rfl, rfl⟩
set_option maxRecDepth 100000 in
theorem nx_times1 (q x y : Nat) (hx : x < 9223372036854775808) (hy : y < 9223372036854775808) (hz : x * y = 0) (w : World) (g : Nat) (hblk : Blk w g 160 ([.int .u64 (q : Nat), .int .u64 0, .int .u64 0, .int .u64 0] : List Value).toArray) : Calls Tryz.prog 70 (.pointer (some ⟨g, 0, none⟩) :: [.int .u64 ((x : Nat)), .int .u64 ((y : Nat)), .int .i64 1]).toArray w (fun e w' => e = .returned (.tuple #[]) ∧ Blk w' g 160 ([.int .u64 ((q : Nat)), .int .u64 0, .int .u64 0, .int .u64 0] : List Value).toArray ∧ RowEff w w' g) := by
  obtain ⟨m1, m2⟩ := mulw x y (by omega)
  rw [hz] at m2
  have m3 : ((0 : Nat) : Int) = 0 := rfl
  rw [m3] at m2
  refine fun_row tblOK mixedP Tryz.func70 rfl g 160 [.int .u64 (q : Nat), .int .u64 0, .int .u64 0, .int .u64 0] [.int .u64 ((q : Nat)), .int .u64 0, .int .u64 0, .int .u64 0] w hblk rfl rfl [.int .u64 ((x : Nat)), .int .u64 ((y : Nat)), .int .i64 1] 53 [(0, .pointer (some ⟨0, 0, none⟩)), (1, .int .u64 ((x : Nat))), (2, .int .u64 ((y : Nat))), (3, .int .i64 1)] rfl rfl (by kernel_rfl) rfl rfl rfl (.tuple #[]) rfl ?_
  repeat' (first
    | rw [m1]
    | rw [m2]
    | refine AR.auto rfl ?_
    | refine AR.man (ok_nb_mul (x := (x : Int)) (y := (y : Int)) (by omega) (by omega) (by omega) (by omega) rfl rfl rfl) rfl rfl rfl ?_
    | refine AR.man (AOk.ext add158z rfl rfl rfl rfl rfl) rfl rfl rfl ?_
    | refine AR.nil ?_
    | refine KF.mk ?_
    | refine KT.mk (by kernel_rfl) ?_
    | refine SQ.normal ?_
    | refine AC.seq ?_
    | refine AC.regF ?_
    | refine AC.regT ?_
    | refine AC.condT rfl ?_
    | refine AC.condF rfl ?_
    | refine AC.block ?_
    | refine BQ.normal ?_
    | refine BQ.ret ?_
    | refine BQ.here ?_
    | refine BQ.there rfl ?_
    | refine SQ.ret ?_
    | refine SQ.exit ?_
    | refine AC.ret ?_
    | refine AC.exit ?_
    | refine AC.skip ?_
    | refine AC.rounds 4 ?_
    | refine RN.step ?_
    | (refine AR.split rfl (fun h => ?_) (fun h => ?_) <;> rw [h])
    | (refine AC.cond rfl (fun h => ?_) (fun h => ?_) <;> rw [h])
    | refine FQ.ret rfl rfl ?_
    | refine FQ.normal rfl rfl ?_)
  all_goals exact ⟨rfl, rfl, rfl⟩
set_option maxRecDepth 100000 in
theorem nx_times2 (q x y : Nat) (hx : x < 9223372036854775808) (hy : y < 9223372036854775808) (hz : x * y = 0) (w : World) (g : Nat) (hblk : Blk w g 160 ([.int .u64 (q : Nat), .int .u64 0, .int .u64 0, .int .u64 0] : List Value).toArray) : Calls Tryz.prog 70 (.pointer (some ⟨g, 0, none⟩) :: [.int .u64 ((x : Nat)), .int .u64 ((y : Nat)), .int .i64 2]).toArray w (fun e w' => e = .returned (.tuple #[]) ∧ Blk w' g 160 ([.int .u64 ((q : Nat)), .int .u64 0, .int .u64 0, .int .u64 0] : List Value).toArray ∧ RowEff w w' g) := by
  obtain ⟨m1, m2⟩ := mulw x y (by omega)
  rw [hz] at m2
  have m3 : ((0 : Nat) : Int) = 0 := rfl
  rw [m3] at m2
  refine fun_row tblOK mixedP Tryz.func70 rfl g 160 [.int .u64 (q : Nat), .int .u64 0, .int .u64 0, .int .u64 0] [.int .u64 ((q : Nat)), .int .u64 0, .int .u64 0, .int .u64 0] w hblk rfl rfl [.int .u64 ((x : Nat)), .int .u64 ((y : Nat)), .int .i64 2] 53 [(0, .pointer (some ⟨0, 0, none⟩)), (1, .int .u64 ((x : Nat))), (2, .int .u64 ((y : Nat))), (3, .int .i64 2)] rfl rfl (by kernel_rfl) rfl rfl rfl (.tuple #[]) rfl ?_
  repeat' (first
    | rw [m1]
    | rw [m2]
    | refine AR.auto rfl ?_
    | refine AR.man (ok_nb_mul (x := (x : Int)) (y := (y : Int)) (by omega) (by omega) (by omega) (by omega) rfl rfl rfl) rfl rfl rfl ?_
    | refine AR.man (AOk.ext add158z rfl rfl rfl rfl rfl) rfl rfl rfl ?_
    | refine AR.nil ?_
    | refine KF.mk ?_
    | refine KT.mk (by kernel_rfl) ?_
    | refine SQ.normal ?_
    | refine AC.seq ?_
    | refine AC.regF ?_
    | refine AC.regT ?_
    | refine AC.condT rfl ?_
    | refine AC.condF rfl ?_
    | refine AC.block ?_
    | refine BQ.normal ?_
    | refine BQ.ret ?_
    | refine BQ.here ?_
    | refine BQ.there rfl ?_
    | refine SQ.ret ?_
    | refine SQ.exit ?_
    | refine AC.ret ?_
    | refine AC.exit ?_
    | refine AC.skip ?_
    | refine AC.rounds 4 ?_
    | refine RN.step ?_
    | (refine AR.split rfl (fun h => ?_) (fun h => ?_) <;> rw [h])
    | (refine AC.cond rfl (fun h => ?_) (fun h => ?_) <;> rw [h])
    | refine FQ.ret rfl rfl ?_
    | refine FQ.normal rfl rfl ?_)
  all_goals exact ⟨rfl, rfl, rfl⟩
set_option maxRecDepth 100000 in
theorem nx_div64 (x n : Nat) (h0 : 0 < n) (hn : n < 9223372036854775808) (hx : x < 9223372036854775808) (w : World) : Calls Tryz.prog 162 #[.int .u64 0, .int .u64 ((x : Nat)), .int .u64 ((n : Nat))] w (fun e w' => e = .returned (.tuple #[.int .u64 ((x / n : Nat)), .int .u64 ((x % n : Nat))]) ∧ Below w.heap.size w w') := by
  have e1 : ((n : Int) == 0) = false := by rw [beq_eq_false_iff_ne]; omega
  have e2 : decide ((n : Int) ≤ 0) = false := by simp only [decide_eq_false_iff_not]; omega
  have e5 : x / n < 9223372036854775808 := Nat.lt_of_le_of_lt (Nat.div_le_self _ _) hx
  have e6 : x % n < 9223372036854775808 := Nat.lt_of_le_of_lt (Nat.mod_le _ _) hx
  have e3 : IntKind.u64.wrap ((x : Int).tdiv (n : Int)) = ((x / n : Nat) : Int) := by rw [show (x : Int).tdiv (n : Int) = ((x / n : Nat) : Int) from rfl, wu64]; revert e5; generalize x / n = z; intro e5; omega
  have e4 : (x : Int).tmod (n : Int) = ((x % n : Nat) : Int) := rfl
  refine fun_flat tblOK mixedP Tryz.func162 rfl [.int .u64 0, .int .u64 ((x : Nat)), .int .u64 ((n : Nat))] w 135 [(0, .int .u64 0), (1, .int .u64 ((x : Nat))), (2, .int .u64 ((n : Nat)))] rfl rfl (by kernel_rfl) rfl rfl rfl _ rfl ?_
  repeat' (first
    | rw [e1]
    | rw [e2]
    | refine AR.auto rfl ?_
    | refine AR.man (ok_quo (by omega) e3 rfl rfl rfl) rfl rfl rfl ?_
    | refine AR.man (ok_rem (by omega) e4 rfl rfl rfl) rfl rfl rfl ?_
    | refine AR.nil ?_
    | refine KF.mk ?_
    | refine KT.mk (by kernel_rfl) ?_
    | refine SQ.normal ?_
    | refine AC.seq ?_
    | refine AC.regF ?_
    | refine AC.regT ?_
    | refine AC.condT rfl ?_
    | refine AC.condF rfl ?_
    | refine AC.block ?_
    | refine BQ.normal ?_
    | refine BQ.ret ?_
    | refine BQ.here ?_
    | refine BQ.there rfl ?_
    | refine SQ.ret ?_
    | refine SQ.exit ?_
    | refine AC.ret ?_
    | refine AC.exit ?_
    | refine AC.skip ?_
    | (refine AR.split rfl (fun h => ?_) (fun h => ?_) <;> rw [h])
    | (refine AC.cond rfl (fun h => ?_) (fun h => ?_) <;> rw [h])
    | refine FQ.ret rfl rfl ?_
    | refine FQ.normal rfl rfl ?_)
  rfl
theorem ok_nx_div64 {x n : Nat} (h0 : 0 < n) (hn : n < 9223372036854775808) (hx : x < 9223372036854775808) {st : St} {o : Oper} {cl : Call} (ho : o.op = .call cl) (hc : cl.callee = .value (.func 162)) (hargs : evs st cl.args.toList = some [.int .u64 0, .int .u64 ((x : Nat)), .int .u64 ((n : Nat))]) : AOk Tryz.prog st o ⟨rq st cl.args.toList, []⟩ ⟨.tuple #[.int .u64 ((x / n : Nat)), .int .u64 ((x % n : Nat))], [], []⟩ :=
  AOk.call (fun w => nx_div64 x n h0 hn hx w) ent162 ho hc hargs rfl rfl
end Go.Proofs.YtbageimconenlaaGreat
