/- The reference: numbers of one word, the spread of items. -/
import Derived.Test.YtbageimconenlaaGreatNB
namespace Go.Proofs.YtbageimconenlaaGreat
open Go.RowKit En
set_option linter.unusedVariables false
theorem ent80 : Enters Tryz.prog 80 := enters Tryz.func80 (by kernel_rfl) (by kernel_rfl)
theorem ent82 : Enters Tryz.prog 82 := enters Tryz.func82 (by kernel_rfl) (by kernel_rfl)
theorem ent168 : Enters Tryz.prog 168 := enters Tryz.func168 (by kernel_rfl) (by kernel_rfl)
theorem ent169 : Enters Tryz.prog 169 := enters Tryz.func169 (by kernel_rfl) (by kernel_rfl)
theorem ent170 : Enters Tryz.prog 170 := enters Tryz.func170 (by kernel_rfl) (by kernel_rfl)
set_option maxRecDepth 100000 in
theorem nq_of (x : Nat)  (w : World) : Calls Tryz.prog 82 #[.int .u64 ((x : Nat))] w (fun e w' => e = .returned (.agg #[.int .u64 0, .int .u64 ((x : Nat))]) ∧ Below w.heap.size w w') := by
  refine fun_flat tblOK mixedP Tryz.func82 rfl [.int .u64 ((x : Nat))] w 5 [(0, .int .u64 ((x : Nat)))] rfl rfl (by kernel_rfl) rfl rfl rfl _ rfl ?_
  repeat' (first | refine AR.auto rfl ?_ | refine AR.nil ?_ | refine KF.mk ?_ | refine KT.mk (by kernel_rfl) ?_ | refine SQ.normal ?_ | refine AC.seq ?_ | refine AC.regF ?_ | refine AC.regT ?_ | refine AC.condT rfl ?_ | refine AC.condF rfl ?_ | refine AC.block ?_ | refine BQ.normal ?_ | refine BQ.ret ?_ | refine BQ.here ?_ | refine BQ.there rfl ?_ | refine SQ.ret ?_ | refine SQ.exit ?_ | refine AC.ret ?_ | refine AC.exit ?_ | refine AC.skip ?_ | (refine AR.split rfl (fun h => ?_) (fun h => ?_) <;> rw [h]) | (refine AC.cond rfl (fun h => ?_) (fun h => ?_) <;> rw [h]) | refine FQ.ret rfl rfl ?_ | refine FQ.normal rfl rfl ?_)
  all_goals rfl
theorem ok_nq_of {x : Nat}  {st : St} {o : Oper} {cl : Call} (ho : o.op = .call cl) (hc : cl.callee = .value (.func 82)) (hargs : evs st cl.args.toList = some [.int .u64 ((x : Nat))]) : AOk Tryz.prog st o ⟨rq st cl.args.toList, []⟩ ⟨.agg #[.int .u64 0, .int .u64 ((x : Nat))], [], []⟩ :=
  AOk.call (fun w => nq_of x  w) ent82 ho hc hargs rfl rfl
theorem or1' (a b : Nat) (ha : a < 9223372036854775808) (hb : b < 2) : IntKind.u64.wrap ((BitVec.ofInt IntKind.u64.bits (((2 * a : Nat) : Int)) ||| BitVec.ofInt IntKind.u64.bits (b : Int)).toNat : Int) = ((2 * a + b : Nat) : Int) := by
  have := or1 (a : Int) (b : Int) (by omega) (by omega) (by omega) (by omega)
  rw [show ((2 * a : Nat) : Int) = 2 * (a : Int) by omega, this]; omega
set_option maxRecDepth 100000 in
theorem nq_double (a b : Nat) (ha : a < 9223372036854775808) (hb : b < 2) (w : World) : Calls Tryz.prog 168 #[.agg #[.int .u64 0, .int .u64 ((a : Nat))], .int .u64 ((b : Nat))] w (fun e w' => e = .returned (.tuple #[.agg #[.int .u64 0, .int .u64 ((2 * a + b : Nat))], .int .u64 0]) ∧ Below w.heap.size w w') := by
  have z1 : (0 : Int).fdiv (2 ^ min (Int.toNat 63) IntKind.u64.bits) = 0 := rfl
  have z2 : IntKind.u64.wrap (0 * 2 ^ min (Int.toNat 1) IntKind.u64.bits) = 0 := rfl
  have z3 : IntKind.u64.wrap ((BitVec.ofInt IntKind.u64.bits 0 ||| BitVec.ofInt IntKind.u64.bits 0).toNat : Int) = 0 := rfl
  have r1 : (a : Int).fdiv (2 ^ min (Int.toNat 63) IntKind.u64.bits) = 0 := by rw [show (63 : Int) = ((63 : Nat) : Int) from rfl, shr_at _ _ (by decide)]; omega
  have r2 : IntKind.u64.wrap ((a : Int) * 2 ^ min (Int.toNat 1) IntKind.u64.bits) = ((2 * a : Nat) : Int) := by show IntKind.u64.wrap ((a : Int) * 2 ^ 1) = _; rw [wu64]; omega
  have r3 := or1' a b ha hb
  refine fun_flat tblOK mixedP Tryz.func168 rfl [.agg #[.int .u64 0, .int .u64 ((a : Nat))], .int .u64 ((b : Nat))] w 22 [(0, .agg #[.int .u64 0, .int .u64 ((a : Nat))]), (1, .int .u64 ((b : Nat)))] rfl rfl (by kernel_rfl) rfl rfl rfl _ rfl ?_
  repeat' (first | rw [z1] | rw [z2] | rw [z3] | rw [r1] | rw [r2] | rw [r3] | refine AR.auto rfl ?_ | refine AR.nil ?_ | refine KF.mk ?_ | refine KT.mk (by kernel_rfl) ?_ | refine SQ.normal ?_ | refine AC.seq ?_ | refine AC.regF ?_ | refine AC.regT ?_ | refine AC.condT rfl ?_ | refine AC.condF rfl ?_ | refine AC.block ?_ | refine BQ.normal ?_ | refine BQ.ret ?_ | refine BQ.here ?_ | refine BQ.there rfl ?_ | refine SQ.ret ?_ | refine SQ.exit ?_ | refine AC.ret ?_ | refine AC.exit ?_ | refine AC.skip ?_ | (refine AR.split rfl (fun h => ?_) (fun h => ?_) <;> rw [h]) | (refine AC.cond rfl (fun h => ?_) (fun h => ?_) <;> rw [h]) | refine FQ.ret rfl rfl ?_ | refine FQ.normal rfl rfl ?_)
  all_goals rfl
theorem ok_nq_double {a b : Nat} (ha : a < 9223372036854775808) (hb : b < 2) {st : St} {o : Oper} {cl : Call} (ho : o.op = .call cl) (hc : cl.callee = .value (.func 168)) (hargs : evs st cl.args.toList = some [.agg #[.int .u64 0, .int .u64 ((a : Nat))], .int .u64 ((b : Nat))]) : AOk Tryz.prog st o ⟨rq st cl.args.toList, []⟩ ⟨.tuple #[.agg #[.int .u64 0, .int .u64 ((2 * a + b : Nat))], .int .u64 0], [], []⟩ :=
  AOk.call (fun w => nq_double a b ha hb w) ent168 ho hc hargs rfl rfl
set_option maxRecDepth 100000 in
theorem nq_bit (a n : Nat) (ha : a < 9223372036854775808) (hn : n < 64) (w : World) : Calls Tryz.prog 169 #[.agg #[.int .u64 0, .int .u64 ((a : Nat))], .int .i64 ((n : Nat))] w (fun e w' => e = .returned (.int .u64 ((a / 2 ^ n % 2 : Nat))) ∧ Below w.heap.size w w') := by
  have hd : decide ((n : Int) ≥ 64) = false := by simp only [decide_eq_false_iff_not]; omega
  have hw : IntKind.u64.wrap (n : Int) = (n : Int) := by rw [wu64]; omega
  have hr : (a : Int).fdiv (2 ^ min (Int.toNat (n : Int)) IntKind.u64.bits) = ((a / 2 ^ n : Nat) : Int) := by
    rw [shr_at _ _ (by omega)]; simp
  have ha1 : IntKind.u64.wrap ((BitVec.ofInt IntKind.u64.bits (((a / 2 ^ n : Nat)) : Int) &&& BitVec.ofInt IntKind.u64.bits 1).toNat : Int) = ((a / 2 ^ n % 2 : Nat) : Int) := by rw [and1]; omega
  refine fun_flat tblOK mixedP Tryz.func169 rfl [.agg #[.int .u64 0, .int .u64 ((a : Nat))], .int .i64 ((n : Nat))] w 20 [(0, .agg #[.int .u64 0, .int .u64 ((a : Nat))]), (1, .int .i64 ((n : Nat)))] rfl rfl (by kernel_rfl) rfl rfl rfl _ rfl ?_
  repeat' (first | rw [hd] | rw [hw] | rw [hr] | rw [ha1] | refine AR.auto rfl ?_ | refine AR.nil ?_ | refine KF.mk ?_ | refine KT.mk (by kernel_rfl) ?_ | refine SQ.normal ?_ | refine AC.seq ?_ | refine AC.regF ?_ | refine AC.regT ?_ | refine AC.condT rfl ?_ | refine AC.condF rfl ?_ | refine AC.block ?_ | refine BQ.normal ?_ | refine BQ.ret ?_ | refine BQ.here ?_ | refine BQ.there rfl ?_ | refine SQ.ret ?_ | refine SQ.exit ?_ | refine AC.ret ?_ | refine AC.exit ?_ | refine AC.skip ?_ | (refine AR.split rfl (fun h => ?_) (fun h => ?_) <;> rw [h]) | (refine AC.cond rfl (fun h => ?_) (fun h => ?_) <;> rw [h]) | refine FQ.ret rfl rfl ?_ | refine FQ.normal rfl rfl ?_)
  all_goals rfl
theorem ok_nq_bit {a n : Nat} (ha : a < 9223372036854775808) (hn : n < 64) {st : St} {o : Oper} {cl : Call} (ho : o.op = .call cl) (hc : cl.callee = .value (.func 169)) (hargs : evs st cl.args.toList = some [.agg #[.int .u64 0, .int .u64 ((a : Nat))], .int .i64 ((n : Nat))]) : AOk Tryz.prog st o ⟨rq st cl.args.toList, []⟩ ⟨.int .u64 ((a / 2 ^ n % 2 : Nat)), [], []⟩ :=
  AOk.call (fun w => nq_bit a n ha hn w) ent169 ho hc hargs rfl rfl
set_option maxRecDepth 100000 in
theorem nq_bith (a n b : Nat) (hn : 64 ≤ n) (hn2 : n < 128) (hb : b = 0) (w : World) : Calls Tryz.prog 169 #[.agg #[.int .u64 0, .int .u64 ((a : Nat))], .int .i64 ((n : Nat))] w (fun e w' => e = .returned (.int .u64 ((b : Nat))) ∧ Below w.heap.size w w') := by
  have hd : decide ((n : Int) ≥ 64) = true := by simp only [decide_eq_true_eq]; omega
  have hw0 : IntKind.i64.wrap ((n : Int) - 64) = ((n - 64 : Nat) : Int) := by rw [IntWalk.i64_in _ (by omega)]; omega
  have hw : IntKind.u64.wrap ((n - 64 : Nat) : Int) = ((n - 64 : Nat) : Int) := by rw [wu64]; omega
  have hr : (0 : Int).fdiv (2 ^ min (Int.toNat ((n - 64 : Nat) : Int)) IntKind.u64.bits) = 0 := Int.zero_fdiv _
  have ha1 : IntKind.u64.wrap ((BitVec.ofInt IntKind.u64.bits 0 &&& BitVec.ofInt IntKind.u64.bits 1).toNat : Int) = 0 := rfl
  refine fun_flat tblOK mixedP Tryz.func169 rfl [.agg #[.int .u64 0, .int .u64 ((a : Nat))], .int .i64 ((n : Nat))] w 20 [(0, .agg #[.int .u64 0, .int .u64 ((a : Nat))]), (1, .int .i64 ((n : Nat)))] rfl rfl (by kernel_rfl) rfl rfl rfl _ rfl ?_
  repeat' (first | rw [hd] | rw [hw0] | rw [hw] | rw [hr] | rw [ha1] | refine AR.auto rfl ?_ | refine AR.nil ?_ | refine KF.mk ?_ | refine KT.mk (by kernel_rfl) ?_ | refine SQ.normal ?_ | refine AC.seq ?_ | refine AC.regF ?_ | refine AC.regT ?_ | refine AC.condT rfl ?_ | refine AC.condF rfl ?_ | refine AC.block ?_ | refine BQ.normal ?_ | refine BQ.ret ?_ | refine BQ.here ?_ | refine BQ.there rfl ?_ | refine SQ.ret ?_ | refine SQ.exit ?_ | refine AC.ret ?_ | refine AC.exit ?_ | refine AC.skip ?_ | (refine AR.split rfl (fun h => ?_) (fun h => ?_) <;> rw [h]) | (refine AC.cond rfl (fun h => ?_) (fun h => ?_) <;> rw [h]) | refine FQ.ret rfl rfl ?_ | refine FQ.normal rfl rfl ?_)
  subst hb
  all_goals rfl
theorem ok_nq_bith {a n b : Nat} (hn : 64 ≤ n) (hn2 : n < 128) (hb : b = 0) {st : St} {o : Oper} {cl : Call} (ho : o.op = .call cl) (hc : cl.callee = .value (.func 169)) (hargs : evs st cl.args.toList = some [.agg #[.int .u64 0, .int .u64 ((a : Nat))], .int .i64 ((n : Nat))]) : AOk Tryz.prog st o ⟨rq st cl.args.toList, []⟩ ⟨.int .u64 ((b : Nat)), [], []⟩ :=
  AOk.call (fun w => nq_bith a n b hn hn2 hb w) ent169 ho hc hargs rfl rfl
set_option maxRecDepth 100000 in
theorem nq_cmp (a b : Nat)  (w : World) : Calls Tryz.prog 170 #[.agg #[.int .u64 0, .int .u64 ((a : Nat))], .agg #[.int .u64 0, .int .u64 ((b : Nat))]] w (fun e w' => e = .returned (.int .i64 (cmpN a b)) ∧ Below w.heap.size w w') := by
  refine fun_flat tblOK mixedP Tryz.func170 rfl [.agg #[.int .u64 0, .int .u64 ((a : Nat))], .agg #[.int .u64 0, .int .u64 ((b : Nat))]] w 29 [(0, .agg #[.int .u64 0, .int .u64 ((a : Nat))]), (1, .agg #[.int .u64 0, .int .u64 ((b : Nat))])] rfl rfl (by kernel_rfl) rfl rfl rfl _ rfl ?_
  repeat' (first | refine AR.auto rfl ?_ | refine AR.man (AOk.bin (aeql73 _ _ _ _) rfl rfl rfl rfl rfl rfl) rfl rfl rfl ?_ | refine AR.nil ?_ | refine KF.mk ?_ | refine KT.mk (by kernel_rfl) ?_ | refine SQ.normal ?_ | refine AC.seq ?_ | refine AC.regF ?_ | refine AC.regT ?_ | refine AC.condT rfl ?_ | refine AC.condF rfl ?_ | refine AC.block ?_ | refine BQ.normal ?_ | refine BQ.ret ?_ | refine BQ.here ?_ | refine BQ.there rfl ?_ | refine SQ.ret ?_ | refine SQ.exit ?_ | refine AC.ret ?_ | refine AC.exit ?_ | refine AC.skip ?_ | (refine AR.split rfl (fun h => ?_) (fun h => ?_) <;> rw [h]) | (refine AC.cond rfl (fun h => ?_) (fun h => ?_) <;> rw [h]) | refine FQ.ret rfl rfl ?_ | refine FQ.normal rfl rfl ?_)
  all_goals
    simp only [decide_eq_true_eq, decide_eq_false_iff_not, beq_iff_eq, beq_eq_false_iff_ne, Bool.and_eq_true, Bool.and_eq_false_iff, ne_eq, Int.ofNat_lt, Int.ofNat_inj] at *
    unfold cmpN
    simp_all [resV]
theorem ok_nq_cmp {a b : Nat}  {st : St} {o : Oper} {cl : Call} (ho : o.op = .call cl) (hc : cl.callee = .value (.func 170)) (hargs : evs st cl.args.toList = some [.agg #[.int .u64 0, .int .u64 ((a : Nat))], .agg #[.int .u64 0, .int .u64 ((b : Nat))]]) : AOk Tryz.prog st o ⟨rq st cl.args.toList, []⟩ ⟨.int .i64 (cmpN a b), [], []⟩ :=
  AOk.call (fun w => nq_cmp a b  w) ent170 ho hc hargs rfl rfl
theorem shr_small {A k : Nat} (hA : A < 9223372036854775808) (hk : 63 ≤ k) : A / 2 ^ k = 0 := Nat.div_eq_of_lt (Nat.lt_of_lt_of_le hA (by
  have : 2 ^ 63 ≤ 2 ^ k := Nat.pow_le_pow_right (by decide) hk
  exact this))
set_option maxRecDepth 100000 in
set_option maxHeartbeats 4000000 in
theorem nq_div (A B : Nat) (hA : A < 9223372036854775808) (hB0 : 0 < B) (hB : B < 9223372036854775808) (w : World) : Calls Tryz.prog 80 #[.agg #[.int .u64 0, .int .u64 (A : Nat)], .agg #[.int .u64 0, .int .u64 (B : Nat)]] w (fun e w' => e = .returned (.tuple #[.agg #[.int .u64 0, .int .u64 ((A / B : Nat))], .agg #[.int .u64 0, .int .u64 ((A % B : Nat))], .bool true]) ∧ Below w.heap.size w w') := by
  have hz : ((0 : Int) == 0 && (B : Int) == 0) = false := by simp; omega
  have hA0 : A / 2 ^ 128 = 0 := shr_small hA (by decide)
  refine fun_flat tblOK mixedP Tryz.func80 rfl [.agg #[.int .u64 0, .int .u64 (A : Nat)], .agg #[.int .u64 0, .int .u64 (B : Nat)]] w 69 [(0, .agg #[.int .u64 0, .int .u64 (A : Nat)]), (1, .agg #[.int .u64 0, .int .u64 (B : Nat)])] rfl rfl (by kernel_rfl) rfl rfl rfl _ rfl ?_
  repeat' (first | rw [hz] | refine AR.auto rfl ?_ | refine AR.man (AOk.bin (aeql73 _ _ _ _) rfl rfl rfl rfl rfl rfl) rfl rfl rfl ?_ | refine AR.nil ?_ | refine KF.mk ?_ | refine KT.mk (by kernel_rfl) ?_ | refine SQ.normal ?_ | refine AC.seq ?_ | refine AC.regF ?_ | refine AC.regT ?_ | refine AC.condT rfl ?_ | refine AC.condF rfl ?_ | refine AC.block ?_ | refine BQ.normal ?_ | refine BQ.ret ?_ | refine BQ.here ?_ | refine BQ.there rfl ?_ | refine SQ.ret ?_ | refine SQ.exit ?_ | refine AC.ret ?_ | refine AC.exit ?_ | refine AC.skip ?_ | (refine AR.split rfl (fun h => ?_) (fun h => ?_) <;> rw [h]) | (refine AC.cond rfl (fun h => ?_) (fun h => ?_) <;> rw [h]) | refine FQ.ret rfl rfl ?_ | refine FQ.normal rfl rfl ?_)
  refine AC.loop (fun k s => k ≤ 128 ∧ s = ⟨[(9, .int .i64 ((k : Nat) - 1)), (8, .pointer (some ⟨5, 0, none⟩)), (7, .pointer (some ⟨4, 0, none⟩)), (6, .bool false), (5, .pointer (some ⟨3, 0, none⟩)), (4, .pointer (some ⟨2, 0, none⟩)), (3, .pointer (some ⟨1, 0, none⟩)), (2, .pointer (some ⟨0, 0, none⟩))], [(5, .row 73 [.int .u64 0, .int .u64 (A / 2 ^ k % B : Nat)]), (4, .row 73 [.int .u64 0, .int .u64 (A / 2 ^ k / B : Nat)]), (3, .row 73 [.int .u64 0, .int .u64 0]), (2, .row 73 [.int .u64 0, .int .u64 0]), (1, .row 73 [.int .u64 0, .int .u64 (B : Nat)]), (0, .row 73 [.int .u64 0, .int .u64 (A : Nat)])], [5, 4, 3, 2, 1, 0], 69⟩) 128 _ ?_ ⟨Nat.le_refl _, rfl⟩ ?_
  · rw [hA0, Nat.zero_mod, Nat.zero_div]
    exact Ren.mv (tabF []) rfl (fun k hk => absurd hk (Nat.not_lt_zero _)) ⟨⟨rfl, rfl⟩, ⟨rfl, rfl⟩, ⟨rfl, rfl⟩, ⟨rfl, rfl⟩, ⟨rfl, rfl⟩, ⟨rfl, rfl⟩, ⟨rfl, rfl⟩, ⟨rfl, rfl⟩, trivial⟩ ⟨⟨rfl, rfl, rfl⟩, ⟨rfl, rfl, rfl⟩, ⟨rfl, rfl, rfl⟩, ⟨rfl, rfl, rfl⟩, ⟨rfl, rfl, rfl⟩, ⟨rfl, rfl, rfl⟩, trivial⟩ rfl
  intro k s hi
  obtain ⟨hk, rfl⟩ := hi
  by_cases hk0 : k = 0
  · subst hk0
    have hd : decide (((0 : Nat) : Int) - 1 ≥ 0) = false := by simp
    rw [Nat.pow_zero, Nat.div_one]
    repeat' (first | rw [hd] | refine AR.auto rfl ?_ | refine AR.nil ?_ | refine KF.mk ?_ | refine KT.mk (by kernel_rfl) ?_ | refine SQ.normal ?_ | refine AC.seq ?_ | refine AC.regF ?_ | refine AC.regT ?_ | refine AC.condT rfl ?_ | refine AC.condF rfl ?_ | refine AC.block ?_ | refine BQ.normal ?_ | refine BQ.ret ?_ | refine BQ.here ?_ | refine BQ.there rfl ?_ | refine SQ.ret ?_ | refine SQ.exit ?_ | refine AC.ret ?_ | refine AC.exit ?_ | refine AC.skip ?_ | (refine AR.split rfl (fun h => ?_) (fun h => ?_) <;> rw [h]) | (refine AC.cond rfl (fun h => ?_) (fun h => ?_) <;> rw [h]) | refine FQ.ret rfl rfl ?_ | refine FQ.normal rfl rfl ?_)
    all_goals rfl
  · obtain ⟨j, rfl⟩ : ∃ j, k = j + 1 := ⟨k - 1, by omega⟩
    have hd : decide (((j + 1 : Nat) : Int) - 1 ≥ 0) = true := by simp only [decide_eq_true_eq]; omega
    have hj : ((j + 1 : Nat) : Int) - 1 = (j : Int) := by omega
    obtain ⟨Q, hQ⟩ : ∃ Q, A / 2 ^ (j + 1) / B = Q := ⟨_, rfl⟩
    obtain ⟨R, hR⟩ : ∃ R, A / 2 ^ (j + 1) % B = R := ⟨_, rfl⟩
    obtain ⟨b, hb⟩ : ∃ b, A / 2 ^ j % 2 = b := ⟨_, rfl⟩
    obtain ⟨eQ, eR⟩ := div_step A B j Q R b hB0 hQ hR hb
    have hb2 : b < 2 := by omega
    have hRB : R < B := by rw [← hR]; exact Nat.mod_lt _ hB0
    have hQ2 : Q < 4611686018427387904 := by
      have e1 : Q ≤ A / 2 ^ (j + 1) := by rw [← hQ]; exact Nat.div_le_self _ _
      have e2 : A / 2 ^ (j + 1) ≤ A / 2 := by rw [Nat.pow_succ, Nat.mul_comm, ← Nat.div_div_eq_div_mul]; exact Nat.div_le_self _ _
      omega
    rw [hQ, hR]
    have w1 : IntKind.i64.wrap ((j : Int) - 1) = (j : Int) - 1 := IntWalk.i64_in _ (by omega)
    have z0 : ((0 : Int) != 0) = false := rfl
    by_cases hj64 : j < 64
    · skip
      have hbv : ((A / 2 ^ j % 2 : Nat) : Int) = (b : Int) := by rw [hb]
      by_cases hlt : 2 * R + b < B
      · rw [if_pos hlt] at eQ eR
        have hcm : decide (cmpN (2 * R + b) B ≥ 0) = false := by rw [cmpN_ge]; exact decide_eq_false (by omega)
        repeat' (first | rw [hd] | rw [hj] | rw [hbv] | rw [hcm] | rw [w1] | rw [z0] | refine AR.auto rfl ?_ | refine AR.man (ok_nq_bit (a := A) (n := j) hA hj64 rfl rfl rfl) rfl rfl rfl ?_ | refine AR.man (ok_nq_double (a := R) (b := b) (by omega) hb2 rfl rfl rfl) rfl rfl rfl ?_ | refine AR.man (ok_nq_cmp (a := 2 * R + b) (b := B) rfl rfl rfl) rfl rfl rfl ?_ | refine AR.man (ok_nq_double (a := Q) (b := 0) (by omega) (by decide) rfl rfl rfl) rfl rfl rfl ?_ | refine AR.nil ?_ | refine KF.mk ?_ | refine KT.mk (by kernel_rfl) ?_ | refine SQ.normal ?_ | refine AC.seq ?_ | refine AC.regF ?_ | refine AC.regT ?_ | refine AC.condT rfl ?_ | refine AC.condF rfl ?_ | refine AC.block ?_ | refine BQ.normal ?_ | refine BQ.ret ?_ | refine BQ.here ?_ | refine BQ.there rfl ?_ | refine SQ.ret ?_ | refine SQ.exit ?_ | refine AC.ret ?_ | refine AC.exit ?_ | refine AC.skip ?_ | (refine AR.split rfl (fun h => ?_) (fun h => ?_) <;> rw [h]) | (refine AC.cond rfl (fun h => ?_) (fun h => ?_) <;> rw [h]) | refine FQ.ret rfl rfl ?_ | refine FQ.normal rfl rfl ?_)
        refine ⟨j, _, Nat.lt_succ_self j, ?_, by omega, rfl⟩
        rw [eQ, eR]
        exact Ren.mv (tabF []) rfl (fun k hk => absurd hk (Nat.not_lt_zero _)) ⟨⟨rfl, rfl⟩, ⟨rfl, rfl⟩, ⟨rfl, rfl⟩, ⟨rfl, rfl⟩, ⟨rfl, rfl⟩, ⟨rfl, rfl⟩, ⟨rfl, rfl⟩, ⟨rfl, rfl⟩, trivial⟩ ⟨⟨rfl, rfl, rfl⟩, ⟨rfl, rfl, rfl⟩, ⟨rfl, rfl, rfl⟩, ⟨rfl, rfl, rfl⟩, ⟨rfl, rfl, rfl⟩, ⟨rfl, rfl, rfl⟩, trivial⟩ rfl
      · rw [if_neg hlt] at eQ eR
        have hcm : decide (cmpN (2 * R + b) B ≥ 0) = true := by rw [cmpN_ge]; exact decide_eq_true (by omega)
        repeat' (first | rw [hd] | rw [hj] | rw [hbv] | rw [hcm] | rw [w1] | rw [z0] | refine AR.auto rfl ?_ | refine AR.man (ok_nq_bit (a := A) (n := j) hA hj64 rfl rfl rfl) rfl rfl rfl ?_ | refine AR.man (ok_nq_double (a := R) (b := b) (by omega) hb2 rfl rfl rfl) rfl rfl rfl ?_ | refine AR.man (ok_nq_cmp (a := 2 * R + b) (b := B) rfl rfl rfl) rfl rfl rfl ?_ | refine AR.man (AOk.ext (sub161 (2 * R + b) B (by omega) (by omega)) rfl rfl rfl rfl rfl) rfl rfl rfl ?_ | refine AR.man (AOk.ext sub161b rfl rfl rfl rfl rfl) rfl rfl rfl ?_ | refine AR.man (ok_nq_double (a := Q) (b := 1) (by omega) (by decide) rfl rfl rfl) rfl rfl rfl ?_ | refine AR.nil ?_ | refine KF.mk ?_ | refine KT.mk (by kernel_rfl) ?_ | refine SQ.normal ?_ | refine AC.seq ?_ | refine AC.regF ?_ | refine AC.regT ?_ | refine AC.condT rfl ?_ | refine AC.condF rfl ?_ | refine AC.block ?_ | refine BQ.normal ?_ | refine BQ.ret ?_ | refine BQ.here ?_ | refine BQ.there rfl ?_ | refine SQ.ret ?_ | refine SQ.exit ?_ | refine AC.ret ?_ | refine AC.exit ?_ | refine AC.skip ?_ | (refine AR.split rfl (fun h => ?_) (fun h => ?_) <;> rw [h]) | (refine AC.cond rfl (fun h => ?_) (fun h => ?_) <;> rw [h]) | refine FQ.ret rfl rfl ?_ | refine FQ.normal rfl rfl ?_)
        refine ⟨j, _, Nat.lt_succ_self j, ?_, by omega, rfl⟩
        rw [eQ, eR]
        exact Ren.mv (tabF []) rfl (fun k hk => absurd hk (Nat.not_lt_zero _)) ⟨⟨rfl, rfl⟩, ⟨rfl, rfl⟩, ⟨rfl, rfl⟩, ⟨rfl, rfl⟩, ⟨rfl, rfl⟩, ⟨rfl, rfl⟩, ⟨rfl, rfl⟩, ⟨rfl, rfl⟩, trivial⟩ ⟨⟨rfl, rfl, rfl⟩, ⟨rfl, rfl, rfl⟩, ⟨rfl, rfl, rfl⟩, ⟨rfl, rfl, rfl⟩, ⟨rfl, rfl, rfl⟩, ⟨rfl, rfl, rfl⟩, trivial⟩ rfl
    · skip
      have hb0 : b = 0 := by rw [← hb, shr_small hA (by omega)]
      by_cases hlt : 2 * R + b < B
      · rw [if_pos hlt] at eQ eR
        have hcm : decide (cmpN (2 * R + b) B ≥ 0) = false := by rw [cmpN_ge]; exact decide_eq_false (by omega)
        repeat' (first | rw [hd] | rw [hj] | rw [hcm] | rw [w1] | rw [z0] | refine AR.auto rfl ?_ | refine AR.man (ok_nq_bith (a := A) (n := j) (b := b) (by omega) (by omega) hb0 rfl rfl rfl) rfl rfl rfl ?_ | refine AR.man (ok_nq_double (a := R) (b := b) (by omega) hb2 rfl rfl rfl) rfl rfl rfl ?_ | refine AR.man (ok_nq_cmp (a := 2 * R + b) (b := B) rfl rfl rfl) rfl rfl rfl ?_ | refine AR.man (ok_nq_double (a := Q) (b := 0) (by omega) (by decide) rfl rfl rfl) rfl rfl rfl ?_ | refine AR.nil ?_ | refine KF.mk ?_ | refine KT.mk (by kernel_rfl) ?_ | refine SQ.normal ?_ | refine AC.seq ?_ | refine AC.regF ?_ | refine AC.regT ?_ | refine AC.condT rfl ?_ | refine AC.condF rfl ?_ | refine AC.block ?_ | refine BQ.normal ?_ | refine BQ.ret ?_ | refine BQ.here ?_ | refine BQ.there rfl ?_ | refine SQ.ret ?_ | refine SQ.exit ?_ | refine AC.ret ?_ | refine AC.exit ?_ | refine AC.skip ?_ | (refine AR.split rfl (fun h => ?_) (fun h => ?_) <;> rw [h]) | (refine AC.cond rfl (fun h => ?_) (fun h => ?_) <;> rw [h]) | refine FQ.ret rfl rfl ?_ | refine FQ.normal rfl rfl ?_)
        refine ⟨j, _, Nat.lt_succ_self j, ?_, by omega, rfl⟩
        rw [eQ, eR]
        exact Ren.mv (tabF []) rfl (fun k hk => absurd hk (Nat.not_lt_zero _)) ⟨⟨rfl, rfl⟩, ⟨rfl, rfl⟩, ⟨rfl, rfl⟩, ⟨rfl, rfl⟩, ⟨rfl, rfl⟩, ⟨rfl, rfl⟩, ⟨rfl, rfl⟩, ⟨rfl, rfl⟩, trivial⟩ ⟨⟨rfl, rfl, rfl⟩, ⟨rfl, rfl, rfl⟩, ⟨rfl, rfl, rfl⟩, ⟨rfl, rfl, rfl⟩, ⟨rfl, rfl, rfl⟩, ⟨rfl, rfl, rfl⟩, trivial⟩ rfl
      · rw [if_neg hlt] at eQ eR
        have hcm : decide (cmpN (2 * R + b) B ≥ 0) = true := by rw [cmpN_ge]; exact decide_eq_true (by omega)
        repeat' (first | rw [hd] | rw [hj] | rw [hcm] | rw [w1] | rw [z0] | refine AR.auto rfl ?_ | refine AR.man (ok_nq_bith (a := A) (n := j) (b := b) (by omega) (by omega) hb0 rfl rfl rfl) rfl rfl rfl ?_ | refine AR.man (ok_nq_double (a := R) (b := b) (by omega) hb2 rfl rfl rfl) rfl rfl rfl ?_ | refine AR.man (ok_nq_cmp (a := 2 * R + b) (b := B) rfl rfl rfl) rfl rfl rfl ?_ | refine AR.man (AOk.ext (sub161 (2 * R + b) B (by omega) (by omega)) rfl rfl rfl rfl rfl) rfl rfl rfl ?_ | refine AR.man (AOk.ext sub161b rfl rfl rfl rfl rfl) rfl rfl rfl ?_ | refine AR.man (ok_nq_double (a := Q) (b := 1) (by omega) (by decide) rfl rfl rfl) rfl rfl rfl ?_ | refine AR.nil ?_ | refine KF.mk ?_ | refine KT.mk (by kernel_rfl) ?_ | refine SQ.normal ?_ | refine AC.seq ?_ | refine AC.regF ?_ | refine AC.regT ?_ | refine AC.condT rfl ?_ | refine AC.condF rfl ?_ | refine AC.block ?_ | refine BQ.normal ?_ | refine BQ.ret ?_ | refine BQ.here ?_ | refine BQ.there rfl ?_ | refine SQ.ret ?_ | refine SQ.exit ?_ | refine AC.ret ?_ | refine AC.exit ?_ | refine AC.skip ?_ | (refine AR.split rfl (fun h => ?_) (fun h => ?_) <;> rw [h]) | (refine AC.cond rfl (fun h => ?_) (fun h => ?_) <;> rw [h]) | refine FQ.ret rfl rfl ?_ | refine FQ.normal rfl rfl ?_)
        refine ⟨j, _, Nat.lt_succ_self j, ?_, by omega, rfl⟩
        rw [eQ, eR]
        exact Ren.mv (tabF []) rfl (fun k hk => absurd hk (Nat.not_lt_zero _)) ⟨⟨rfl, rfl⟩, ⟨rfl, rfl⟩, ⟨rfl, rfl⟩, ⟨rfl, rfl⟩, ⟨rfl, rfl⟩, ⟨rfl, rfl⟩, ⟨rfl, rfl⟩, ⟨rfl, rfl⟩, trivial⟩ ⟨⟨rfl, rfl, rfl⟩, ⟨rfl, rfl, rfl⟩, ⟨rfl, rfl, rfl⟩, ⟨rfl, rfl, rfl⟩, ⟨rfl, rfl, rfl⟩, ⟨rfl, rfl, rfl⟩, trivial⟩ rfl
theorem ok_nq_div {A B : Nat} (hA : A < 9223372036854775808) (hB0 : 0 < B) (hB : B < 9223372036854775808) {st : St} {o : Oper} {cl : Call} (ho : o.op = .call cl) (hc : cl.callee = .value (.func 80)) (hargs : evs st cl.args.toList = some [.agg #[.int .u64 0, .int .u64 (A : Nat)], .agg #[.int .u64 0, .int .u64 (B : Nat)]]) : AOk Tryz.prog st o ⟨rq st cl.args.toList, []⟩ ⟨.tuple #[.agg #[.int .u64 0, .int .u64 ((A / B : Nat))], .agg #[.int .u64 0, .int .u64 ((A % B : Nat))], .bool true], [], []⟩ :=
  AOk.call (fun w => nq_div A B hA hB0 hB w) ent80 ho hc hargs rfl rfl
end Go.Proofs.YtbageimconenlaaGreat
