/- Wide numbers of one word, rational numbers, bounds: the functions by the engine. -/
import Derived.Test.YtbageimconenlaaGreatNA
namespace Go.Proofs.YtbageimconenlaaGreat
open Go.RowKit En
set_option linter.unusedVariables false
theorem ok_nw_div {A B : Nat} (hA : A < 9223372036854775808) (hB0 : 0 < B) (hB : B < 9223372036854775808) {s : St} {o : Oper} {c : Call} (ho : o.op = .call c) (hc : c.callee = .value (.func 190)) (hargs : evs s c.args.toList = some [.agg #[.int .u64 0, .int .u64 (A : Nat)], .agg #[.int .u64 0, .int .u64 (B : Nat)]]) : AOk Tryz.prog s o ⟨rq s c.args.toList, []⟩ ⟨.tuple #[.agg #[.int .u64 0, .int .u64 ((A / B : Nat))], .agg #[.int .u64 0, .int .u64 ((A % B : Nat))], .bool true], [], []⟩ :=
  AOk.call (fun w => nw_div A B hA hB0 hB w) ent190 ho hc hargs rfl rfl
theorem okw_of {x : Int} {s : St} {o : Oper} {c : Call} (ho : o.op = .call c) (hc : c.callee = .value (.func 118)) (hargs : evs s c.args.toList = some [.int .u64 x]) : AOk Tryz.prog s o ⟨rq s c.args.toList, []⟩ ⟨.agg #[.int .u64 0, .int .u64 x], [], []⟩ :=
  AOk.call (fun w => gw_of x w) ent118 ho hc hargs rfl rfl
def cmpN (x y : Nat) : Int := if x < y then -1 else if x = y then 0 else 1
theorem cmpN_ge {x y : Nat} : decide (cmpN x y ≥ 0) = decide (y ≤ x) := by
  unfold cmpN
  split
  · rw [decide_eq_false (by omega : ¬ y ≤ x)]; rfl
  · rw [decide_eq_true (by omega : y ≤ x)]; split <;> rfl
set_option maxRecDepth 100000 in
theorem nw_gcd (A B : Nat) (hA : A < 9223372036854775808) (hB : B < 9223372036854775808) (w : World) : Calls Tryz.prog 165 #[.agg #[.int .u64 0, .int .u64 (A : Nat)], .agg #[.int .u64 0, .int .u64 (B : Nat)]] w (fun e w' => e = .returned (.agg #[.int .u64 0, .int .u64 ((Nat.gcd A B : Nat))]) ∧ Below w.heap.size w w') := by
  refine fun_flat tblOK mixedP Tryz.func165 rfl [.agg #[.int .u64 0, .int .u64 (A : Nat)], .agg #[.int .u64 0, .int .u64 (B : Nat)]] w 21 [(0, .agg #[.int .u64 0, .int .u64 (A : Nat)]), (1, .agg #[.int .u64 0, .int .u64 (B : Nat)])] rfl rfl (by kernel_rfl) rfl rfl rfl _ rfl ?_
  repeat' (first | refine AR.auto rfl ?_ | refine AR.nil ?_ | refine KF.mk ?_ | refine KT.mk (by kernel_rfl) ?_ | refine SQ.normal ?_ | refine AC.seq ?_ | refine AC.regF ?_ | refine AC.regT ?_ | refine AC.condT rfl ?_ | refine AC.condF rfl ?_ | refine AC.block ?_ | refine BQ.normal ?_ | refine BQ.ret ?_ | refine BQ.here ?_ | refine BQ.there rfl ?_ | refine SQ.ret ?_ | refine SQ.exit ?_ | refine AC.ret ?_ | refine AC.exit ?_ | refine AC.skip ?_ | (refine AR.split rfl (fun h => ?_) (fun h => ?_) <;> rw [h]) | (refine AC.cond rfl (fun h => ?_) (fun h => ?_) <;> rw [h]) | refine FQ.ret rfl rfl ?_ | refine FQ.normal rfl rfl ?_)
  refine AC.loop (fun m s => ∃ x y : Nat, m = y ∧ x < 9223372036854775808 ∧ y < 9223372036854775808 ∧ Nat.gcd x y = Nat.gcd A B ∧ s = ⟨[(4, .pointer (some ⟨2, 0, none⟩)), (3, .pointer (some ⟨1, 0, none⟩)), (2, .pointer (some ⟨0, 0, none⟩))], [(2, .row 73 [.int .u64 0, .int .u64 0]), (1, .row 73 [.int .u64 0, .int .u64 (y : Nat)]), (0, .row 73 [.int .u64 0, .int .u64 (x : Nat)])], [2, 1, 0], 21⟩) B _ ?_ ⟨A, B, rfl, hA, hB, rfl, rfl⟩ ?_
  · exact Ren.mv (tabF []) rfl (fun k hk => absurd hk (Nat.not_lt_zero _)) ⟨⟨rfl, rfl⟩, ⟨rfl, rfl⟩, ⟨rfl, rfl⟩, trivial⟩ ⟨⟨rfl, rfl, rfl⟩, ⟨rfl, rfl, rfl⟩, ⟨rfl, rfl, rfl⟩, trivial⟩ rfl
  intro m s hi
  obtain ⟨x, y, rfl, hx, hy, hg, rfl⟩ := hi
  by_cases h0 : m = 0
  · subst h0
    have hz : ((0 : Int) == 0 && ((0 : Nat) : Int) == 0) = true := rfl
    repeat' (first | rw [hz] | refine AR.auto rfl ?_ | refine AR.man (AOk.call (gw_zero 0 ((0 : Nat) : Int)) ent196 rfl rfl rfl rfl rfl) rfl rfl rfl ?_ | refine AR.nil ?_ | refine KF.mk ?_ | refine KT.mk (by kernel_rfl) ?_ | refine SQ.normal ?_ | refine AC.seq ?_ | refine AC.regF ?_ | refine AC.regT ?_ | refine AC.condT rfl ?_ | refine AC.condF rfl ?_ | refine AC.block ?_ | refine BQ.normal ?_ | refine BQ.ret ?_ | refine BQ.here ?_ | refine BQ.there rfl ?_ | refine SQ.ret ?_ | refine SQ.exit ?_ | refine AC.ret ?_ | refine AC.exit ?_ | refine AC.skip ?_ | (refine AR.split rfl (fun h => ?_) (fun h => ?_) <;> rw [h]) | (refine AC.cond rfl (fun h => ?_) (fun h => ?_) <;> rw [h]) | refine FQ.ret rfl rfl ?_ | refine FQ.normal rfl rfl ?_)
    rw [← hg, Nat.gcd_zero_right]; rfl
  · have hz : ((0 : Int) == 0 && (m : Int) == 0) = false := by simp; omega
    repeat' (first | rw [hz] | refine AR.auto rfl ?_ | refine AR.man (AOk.call (gw_zero 0 (m : Int)) ent196 rfl rfl rfl rfl rfl) rfl rfl rfl ?_ | refine AR.man (ok_nw_div (A := x) (B := m) hx (by omega) hy rfl rfl rfl) rfl rfl rfl ?_ | refine AR.nil ?_ | refine KF.mk ?_ | refine KT.mk (by kernel_rfl) ?_ | refine SQ.normal ?_ | refine AC.seq ?_ | refine AC.regF ?_ | refine AC.regT ?_ | refine AC.condT rfl ?_ | refine AC.condF rfl ?_ | refine AC.block ?_ | refine BQ.normal ?_ | refine BQ.ret ?_ | refine BQ.here ?_ | refine BQ.there rfl ?_ | refine SQ.ret ?_ | refine SQ.exit ?_ | refine AC.ret ?_ | refine AC.exit ?_ | refine AC.skip ?_ | (refine AR.split rfl (fun h => ?_) (fun h => ?_) <;> rw [h]) | (refine AC.cond rfl (fun h => ?_) (fun h => ?_) <;> rw [h]) | refine FQ.ret rfl rfl ?_ | refine FQ.normal rfl rfl ?_)
    refine ⟨x % m, _, Nat.mod_lt _ (by omega), ?_, m, x % m, rfl, hy, by have := Nat.mod_lt x (show 0 < m by omega); omega, by rw [← hg, Nat.gcd_comm, ← Nat.gcd_rec, Nat.gcd_comm], rfl⟩
    exact Ren.mv (tabF []) rfl (fun k hk => absurd hk (Nat.not_lt_zero _)) ⟨⟨rfl, rfl⟩, ⟨rfl, rfl⟩, ⟨rfl, rfl⟩, trivial⟩ ⟨⟨rfl, rfl, rfl⟩, ⟨rfl, rfl, rfl⟩, ⟨rfl, rfl, rfl⟩, trivial⟩ rfl
theorem ok_nw_gcd {A B : Nat} (hA : A < 9223372036854775808) (hB : B < 9223372036854775808) {s : St} {o : Oper} {c : Call} (ho : o.op = .call c) (hc : c.callee = .value (.func 165)) (hargs : evs s c.args.toList = some [.agg #[.int .u64 0, .int .u64 (A : Nat)], .agg #[.int .u64 0, .int .u64 (B : Nat)]]) : AOk Tryz.prog s o ⟨rq s c.args.toList, []⟩ ⟨.agg #[.int .u64 0, .int .u64 ((Nat.gcd A B : Nat))], [], []⟩ :=
  AOk.call (fun w => nw_gcd A B hA hB w) ent165 ho hc hargs rfl rfl
set_option maxRecDepth 100000 in
theorem nr_size (a : Nat) (ha : a < 9223372036854775808) (w : World) : Calls Tryz.prog 166 #[.int .i64 (a : Nat)] w (fun e w' => e = .returned (.int .u64 (a : Nat)) ∧ Below w.heap.size w w') := by
  have hd : decide ((a : Int) < 0) = false := by simp
  have hw : IntKind.u64.wrap (a : Int) = a := by rw [wu64]; omega
  refine fun_flat tblOK mixedP Tryz.func166 rfl [.int .i64 (a : Nat)] w 10 [(0, .int .i64 (a : Nat))] rfl rfl (by kernel_rfl) rfl rfl rfl _ rfl ?_
  repeat' (first | rw [hd] | rw [hw] | refine AR.auto rfl ?_ | refine AR.nil ?_ | refine KF.mk ?_ | refine KT.mk (by kernel_rfl) ?_ | refine SQ.normal ?_ | refine AC.seq ?_ | refine AC.regF ?_ | refine AC.regT ?_ | refine AC.condT rfl ?_ | refine AC.condF rfl ?_ | refine AC.block ?_ | refine BQ.normal ?_ | refine BQ.ret ?_ | refine BQ.here ?_ | refine BQ.there rfl ?_ | refine SQ.ret ?_ | refine SQ.exit ?_ | refine AC.ret ?_ | refine AC.exit ?_ | refine AC.skip ?_ | (refine AR.split rfl (fun h => ?_) (fun h => ?_) <;> rw [h]) | (refine AC.cond rfl (fun h => ?_) (fun h => ?_) <;> rw [h]) | refine FQ.ret rfl rfl ?_ | refine FQ.normal rfl rfl ?_)
  rfl
theorem ok_nr_size {a : Nat} (ha : a < 9223372036854775808) {s : St} {o : Oper} {c : Call} (ho : o.op = .call c) (hc : c.callee = .value (.func 166)) (hargs : evs s c.args.toList = some [.int .i64 (a : Nat)]) : AOk Tryz.prog s o ⟨rq s c.args.toList, []⟩ ⟨.int .u64 (a : Nat), [], []⟩ :=
  AOk.call (fun w => nr_size a ha w) ent166 ho hc hargs rfl rfl
structure RV (n d : Nat) : Prop where
  ln : n < 4611686018427387904
  pd : 0 < d
  ld : d < 4611686018427387904
  co : Nat.gcd n d = 1
set_option maxRecDepth 100000 in
theorem nr_valid (n d : Nat) (h : RV n d) (w : World) : Calls Tryz.prog 77 #[.agg #[.int .i64 ((n : Nat)), .int .i64 ((d : Nat))]] w (fun e w' => e = .returned (.bool true) ∧ Below w.heap.size w w') := by
  obtain ⟨h1, h2, h3, h4⟩ := h
  have hd : decide ((d : Int) ≥ 1) = true := by simp; omega
  have hw : IntKind.u64.wrap (d : Int) = d := by rw [wu64]; omega
  refine fun_flat tblOK mixedP Tryz.func77 rfl [.agg #[.int .i64 ((n : Nat)), .int .i64 ((d : Nat))]] w 19 [(0, .agg #[.int .i64 ((n : Nat)), .int .i64 ((d : Nat))])] rfl rfl (by kernel_rfl) rfl rfl rfl _ rfl ?_
  repeat' (first | rw [hd] | rw [hw] | rw [h4] | refine AR.auto rfl ?_ | refine AR.man (ok_nr_size (a := n) (by omega) rfl rfl rfl) rfl rfl rfl ?_ | refine AR.man (okw_of rfl rfl rfl) rfl rfl rfl ?_ | refine AR.man (ok_nw_gcd (A := n) (B := d) (by omega) (by omega) rfl rfl rfl) rfl rfl rfl ?_ | refine AR.man (AOk.bin (aeql73 _ _ _ _) rfl rfl rfl rfl rfl rfl) rfl rfl rfl ?_ | refine AR.nil ?_ | refine KF.mk ?_ | refine KT.mk (by kernel_rfl) ?_ | refine SQ.normal ?_ | refine AC.seq ?_ | refine AC.regF ?_ | refine AC.regT ?_ | refine AC.condT rfl ?_ | refine AC.condF rfl ?_ | refine AC.block ?_ | refine BQ.normal ?_ | refine BQ.ret ?_ | refine BQ.here ?_ | refine BQ.there rfl ?_ | refine SQ.ret ?_ | refine SQ.exit ?_ | refine AC.ret ?_ | refine AC.exit ?_ | refine AC.skip ?_ | (refine AR.split rfl (fun h => ?_) (fun h => ?_) <;> rw [h]) | (refine AC.cond rfl (fun h => ?_) (fun h => ?_) <;> rw [h]) | refine FQ.ret rfl rfl ?_ | refine FQ.normal rfl rfl ?_)
  rfl
theorem ok_nr_valid {n d : Nat} (h : RV n d) {s : St} {o : Oper} {c : Call} (ho : o.op = .call c) (hc : c.callee = .value (.func 77)) (hargs : evs s c.args.toList = some [.agg #[.int .i64 ((n : Nat)), .int .i64 ((d : Nat))]]) : AOk Tryz.prog s o ⟨rq s c.args.toList, []⟩ ⟨.bool true, [], []⟩ :=
  AOk.call (fun w => nr_valid n d h w) ent77 ho hc hargs rfl rfl
set_option maxRecDepth 100000 in
theorem nb_exact (n d : Nat) (h : RV n d) (w : World) : Calls Tryz.prog 135 #[.agg #[.int .i64 ((n : Nat)), .int .i64 ((d : Nat))]] w (fun e w' => e = .returned (.agg #[.int .i64 ((n : Nat)), .int .i64 ((d : Nat)), .int .i64 ((n : Nat)), .int .i64 ((d : Nat)), .int .i64 ((n : Nat)), .int .i64 ((d : Nat))]) ∧ Below w.heap.size w w') := by
  refine fun_flat tblOK mixedP Tryz.func135 rfl [.agg #[.int .i64 ((n : Nat)), .int .i64 ((d : Nat))]] w 11 [(0, .agg #[.int .i64 ((n : Nat)), .int .i64 ((d : Nat))])] rfl rfl (by kernel_rfl) rfl rfl rfl _ rfl ?_
  repeat' (first | refine AR.auto rfl ?_ | refine AR.man (ok_nr_valid (n := n) (d := d) h rfl rfl rfl) rfl rfl rfl ?_ | refine AR.nil ?_ | refine KF.mk ?_ | refine KT.mk (by kernel_rfl) ?_ | refine SQ.normal ?_ | refine AC.seq ?_ | refine AC.regF ?_ | refine AC.regT ?_ | refine AC.condT rfl ?_ | refine AC.condF rfl ?_ | refine AC.block ?_ | refine BQ.normal ?_ | refine BQ.ret ?_ | refine BQ.here ?_ | refine BQ.there rfl ?_ | refine SQ.ret ?_ | refine SQ.exit ?_ | refine AC.ret ?_ | refine AC.exit ?_ | refine AC.skip ?_ | (refine AR.split rfl (fun h => ?_) (fun h => ?_) <;> rw [h]) | (refine AC.cond rfl (fun h => ?_) (fun h => ?_) <;> rw [h]) | refine FQ.ret rfl rfl ?_ | refine FQ.normal rfl rfl ?_)
  rfl
theorem ent135 : Enters Tryz.prog 135 := enters Tryz.func135 (by kernel_rfl) (by kernel_rfl)
theorem ok_nb_exact {n d : Nat} (h : RV n d) {s : St} {o : Oper} {c : Call} (ho : o.op = .call c) (hc : c.callee = .value (.func 135)) (hargs : evs s c.args.toList = some [.agg #[.int .i64 ((n : Nat)), .int .i64 ((d : Nat))]]) : AOk Tryz.prog s o ⟨rq s c.args.toList, []⟩ ⟨.agg #[.int .i64 ((n : Nat)), .int .i64 ((d : Nat)), .int .i64 ((n : Nat)), .int .i64 ((d : Nat)), .int .i64 ((n : Nat)), .int .i64 ((d : Nat))], [], []⟩ :=
  AOk.call (fun w => nb_exact n d h w) ent135 ho hc hargs rfl rfl
end Go.Proofs.YtbageimconenlaaGreat
