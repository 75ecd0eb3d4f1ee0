/- Wide numbers of one word, rational numbers, bounds: the functions by the engine. -/
import Derived.Test.YtbageimconenlaaGreatNA
namespace Go.Proofs.YtbageimconenlaaGreat
open Go.RowKit En
set_option linter.unusedVariables false
theorem ok_nw_div {A B : Nat} (hA : A < 9223372036854775808) (hB0 : 0 < B) (hB : B < 9223372036854775808) {s : St} {o : Oper} {c : Call} (ho : o.op = .call c) (hc : c.callee = .value (.func 190)) (hargs : evs s c.args.toList = some [.agg #[.int .u64 0, .int .u64 (A : Nat)], .agg #[.int .u64 0, .int .u64 (B : Nat)]]) : AOk Tryz.prog s o ⟨rq s c.args.toList, []⟩ ⟨.tuple #[.agg #[.int .u64 0, .int .u64 ((A / B : Nat))], .agg #[.int .u64 0, .int .u64 ((A % B : Nat))], .bool true], [], []⟩ :=
  AOk.call (fun w => nw_div A B hA hB0 hB w) ent190 ho hc hargs rfl rfl
theorem okw_of {x : Int} {s : St} {o : Oper} {c : Call} (ho : o.op = .call c) (hc : c.callee = .value (.func 118)) (hargs : evs s c.args.toList = some [.int .u64 x]) : AOk Tryz.prog s o ⟨rq s c.args.toList, []⟩ ⟨.agg #[.int .u64 0, .int .u64 x], [], []⟩ :=
  AOk.call (fun w => gw_of x w) ent118 ho hc hargs rfl rfl
def cmpN (x y : Nat) : Int := if x < y then -1 else if x = y then 0 else 1
theorem cmpN_le {x y : Nat} (h : x ≤ y) : cmpN x y ≤ 0 := by
  unfold cmpN
  split
  · decide
  · rw [if_pos (by omega)]; decide
theorem cmpN_ge {x y : Nat} : decide (cmpN x y ≥ 0) = decide (y ≤ x) := by
  unfold cmpN
  split
  · rw [decide_eq_false (by omega : ¬ y ≤ x)]; rfl
  · rw [decide_eq_true (by omega : y ≤ x)]; split <;> rfl
theorem ok_cmpN (a b : Nat) {s : St} {o : Oper} {c : Call} (ho : o.op = .call c) (hc : c.callee = .value (.func 159)) (hargs : evs s c.args.toList = some [.agg #[.int .u64 0, .int .u64 (a : Nat)], .agg #[.int .u64 0, .int .u64 (b : Nat)]]) : AOk Tryz.prog s o ⟨rq s c.args.toList, []⟩ ⟨.int .i64 (cmpN a b), [], []⟩ :=
  ok_cmp a b _ (by unfold cmpN; simp only [Int.ofNat_lt, Int.ofNat_inj]) ho hc hargs
set_option maxRecDepth 100000 in
theorem nw_gcd (A B : Nat) (hA : A < 9223372036854775808) (hB : B < 9223372036854775808) (w : World) : Calls Tryz.prog 165 #[.agg #[.int .u64 0, .int .u64 (A : Nat)], .agg #[.int .u64 0, .int .u64 (B : Nat)]] w (fun e w' => e = .returned (.agg #[.int .u64 0, .int .u64 ((Nat.gcd A B : Nat))]) ∧ Below w.heap.size w w') := by
  refine fun_flat tblOK mixedP Tryz.func165 rfl [.agg #[.int .u64 0, .int .u64 (A : Nat)], .agg #[.int .u64 0, .int .u64 (B : Nat)]] w 21 [(0, .agg #[.int .u64 0, .int .u64 (A : Nat)]), (1, .agg #[.int .u64 0, .int .u64 (B : Nat)])] rfl rfl (by kernel_rfl) rfl rfl rfl _ rfl ?_
  repeat' (first
    | refine AR.auto rfl ?_
    | refine AR.nil ?_
    | refine KF.mk ?_
    | refine KT.mk (by kernel_rfl) ?_
    | refine SQ.normal ?_
    | refine AC.seq ?_
    | refine AC.regF ?_
    | refine AC.regT ?_
    | refine AC.condT rfl ?_
    | refine AC.condF rfl ?_
    | refine AC.block ?_
    | refine BQ.normal ?_
    | refine BQ.ret ?_
    | refine BQ.here ?_
    | refine BQ.there rfl ?_
    | refine SQ.ret ?_
    | refine SQ.exit ?_
    | refine AC.ret ?_
    | refine AC.exit ?_
    | refine AC.skip ?_
    | (refine AR.split rfl (fun h => ?_) (fun h => ?_) <;> rw [h])
    | (refine AC.cond rfl (fun h => ?_) (fun h => ?_) <;> rw [h])
    | refine FQ.ret rfl rfl ?_
    | refine FQ.normal rfl rfl ?_)
  refine AC.loop (fun m s => ∃ x y : Nat, m = y ∧ x < 9223372036854775808 ∧ y < 9223372036854775808 ∧ Nat.gcd x y = Nat.gcd A B ∧ s = ⟨[(4, .pointer (some ⟨2, 0, none⟩)), (3, .pointer (some ⟨1, 0, none⟩)), (2, .pointer (some ⟨0, 0, none⟩))], [(2, .row 73 [.int .u64 0, .int .u64 0]), (1, .row 73 [.int .u64 0, .int .u64 (y : Nat)]), (0, .row 73 [.int .u64 0, .int .u64 (x : Nat)])], [2, 1, 0], 21⟩) B _ ?_ ⟨A, B, rfl, hA, hB, rfl, rfl⟩ ?_
  · exact Ren.mv (tabF []) rfl (fun k hk => absurd hk (Nat.not_lt_zero _)) ⟨⟨rfl, rfl⟩, ⟨rfl, rfl⟩, ⟨rfl, rfl⟩, trivial⟩ ⟨⟨rfl, rfl, rfl⟩, ⟨rfl, rfl, rfl⟩, ⟨rfl, rfl, rfl⟩, trivial⟩ rfl
  intro m s hi
  obtain ⟨x, y, rfl, hx, hy, hg, rfl⟩ := hi
  by_cases h0 : m = 0
  · subst h0
    have hz : ((0 : Int) == 0 && ((0 : Nat) : Int) == 0) = true := rfl
    repeat' (first
      | rw [hz]
      | refine AR.auto rfl ?_
      | refine AR.man (AOk.call (gw_zero 0 ((0 : Nat) : Int)) ent196 rfl rfl rfl rfl rfl) rfl rfl rfl ?_
      | refine AR.nil ?_
      | refine KF.mk ?_
      | refine KT.mk (by kernel_rfl) ?_
      | refine SQ.normal ?_
      | refine AC.seq ?_
      | refine AC.regF ?_
      | refine AC.regT ?_
      | refine AC.condT rfl ?_
      | refine AC.condF rfl ?_
      | refine AC.block ?_
      | refine BQ.normal ?_
      | refine BQ.ret ?_
      | refine BQ.here ?_
      | refine BQ.there rfl ?_
      | refine SQ.ret ?_
      | refine SQ.exit ?_
      | refine AC.ret ?_
      | refine AC.exit ?_
      | refine AC.skip ?_
      | (refine AR.split rfl (fun h => ?_) (fun h => ?_) <;> rw [h])
      | (refine AC.cond rfl (fun h => ?_) (fun h => ?_) <;> rw [h])
      | refine FQ.ret rfl rfl ?_
      | refine FQ.normal rfl rfl ?_)
    rw [← hg, Nat.gcd_zero_right]; rfl
  · have hz : ((0 : Int) == 0 && (m : Int) == 0) = false := by simp; omega
    repeat' (first
      | rw [hz]
      | refine AR.auto rfl ?_
      | refine AR.man (AOk.call (gw_zero 0 (m : Int)) ent196 rfl rfl rfl rfl rfl) rfl rfl rfl ?_
      | refine AR.man (ok_nw_div (A := x) (B := m) hx (by omega) hy rfl rfl rfl) rfl rfl rfl ?_
      | refine AR.nil ?_
      | refine KF.mk ?_
      | refine KT.mk (by kernel_rfl) ?_
      | refine SQ.normal ?_
      | refine AC.seq ?_
      | refine AC.regF ?_
      | refine AC.regT ?_
      | refine AC.condT rfl ?_
      | refine AC.condF rfl ?_
      | refine AC.block ?_
      | refine BQ.normal ?_
      | refine BQ.ret ?_
      | refine BQ.here ?_
      | refine BQ.there rfl ?_
      | refine SQ.ret ?_
      | refine SQ.exit ?_
      | refine AC.ret ?_
      | refine AC.exit ?_
      | refine AC.skip ?_
      | (refine AR.split rfl (fun h => ?_) (fun h => ?_) <;> rw [h])
      | (refine AC.cond rfl (fun h => ?_) (fun h => ?_) <;> rw [h])
      | refine FQ.ret rfl rfl ?_
      | refine FQ.normal rfl rfl ?_)
    refine ⟨x % m, _, Nat.mod_lt _ (by omega), ?_, m, x % m, rfl, hy, by have := Nat.mod_lt x (show 0 < m by omega); omega, by rw [← hg, Nat.gcd_comm, ← Nat.gcd_rec, Nat.gcd_comm], rfl⟩
    exact Ren.mv (tabF []) rfl (fun k hk => absurd hk (Nat.not_lt_zero _)) ⟨⟨rfl, rfl⟩, ⟨rfl, rfl⟩, ⟨rfl, rfl⟩, trivial⟩ ⟨⟨rfl, rfl, rfl⟩, ⟨rfl, rfl, rfl⟩, ⟨rfl, rfl, rfl⟩, trivial⟩ rfl
theorem ok_nw_gcd {A B : Nat} (hA : A < 9223372036854775808) (hB : B < 9223372036854775808) {s : St} {o : Oper} {c : Call} (ho : o.op = .call c) (hc : c.callee = .value (.func 165)) (hargs : evs s c.args.toList = some [.agg #[.int .u64 0, .int .u64 (A : Nat)], .agg #[.int .u64 0, .int .u64 (B : Nat)]]) : AOk Tryz.prog s o ⟨rq s c.args.toList, []⟩ ⟨.agg #[.int .u64 0, .int .u64 ((Nat.gcd A B : Nat))], [], []⟩ :=
  AOk.call (fun w => nw_gcd A B hA hB w) ent165 ho hc hargs rfl rfl
set_option maxRecDepth 100000 in
theorem nw_size (a : Nat) (ha : a < 9223372036854775808) (w : World) : Calls Tryz.prog 225 #[.int .i64 (a : Nat)] w (fun e w' => e = .returned (.int .u64 (a : Nat)) ∧ Below w.heap.size w w') := by
  have hd : decide ((a : Int) < 0) = false := by simp
  have hw : IntKind.u64.wrap (a : Int) = a := by rw [wu64]; omega
  refine fun_flat tblOK mixedP Tryz.func225 rfl [.int .i64 (a : Nat)] w 10 [(0, .int .i64 (a : Nat))] rfl rfl (by kernel_rfl) rfl rfl rfl _ rfl ?_
  repeat' (first
    | rw [hd]
    | rw [hw]
    | refine AR.auto rfl ?_
    | refine AR.nil ?_
    | refine KF.mk ?_
    | refine KT.mk (by kernel_rfl) ?_
    | refine SQ.normal ?_
    | refine AC.seq ?_
    | refine AC.regF ?_
    | refine AC.regT ?_
    | refine AC.condT rfl ?_
    | refine AC.condF rfl ?_
    | refine AC.block ?_
    | refine BQ.normal ?_
    | refine BQ.ret ?_
    | refine BQ.here ?_
    | refine BQ.there rfl ?_
    | refine SQ.ret ?_
    | refine SQ.exit ?_
    | refine AC.ret ?_
    | refine AC.exit ?_
    | refine AC.skip ?_
    | (refine AR.split rfl (fun h => ?_) (fun h => ?_) <;> rw [h])
    | (refine AC.cond rfl (fun h => ?_) (fun h => ?_) <;> rw [h])
    | refine FQ.ret rfl rfl ?_
    | refine FQ.normal rfl rfl ?_)
  rfl
theorem ok_nw_size {a : Nat} (ha : a < 9223372036854775808) {s : St} {o : Oper} {c : Call} (ho : o.op = .call c) (hc : c.callee = .value (.func 225)) (hargs : evs s c.args.toList = some [.int .i64 (a : Nat)]) : AOk Tryz.prog s o ⟨rq s c.args.toList, []⟩ ⟨.int .u64 (a : Nat), [], []⟩ :=
  AOk.call (fun w => nw_size a ha w) ent225 ho hc hargs rfl rfl
set_option maxRecDepth 100000 in
theorem nr_size (a : Nat) (ha : a < 9223372036854775808) (w : World) : Calls Tryz.prog 166 #[.int .i64 (a : Nat)] w (fun e w' => e = .returned (.int .u64 (a : Nat)) ∧ Below w.heap.size w w') := by
  have hd : decide ((a : Int) < 0) = false := by simp
  have hw : IntKind.u64.wrap (a : Int) = a := by rw [wu64]; omega
  refine fun_flat tblOK mixedP Tryz.func166 rfl [.int .i64 (a : Nat)] w 10 [(0, .int .i64 (a : Nat))] rfl rfl (by kernel_rfl) rfl rfl rfl _ rfl ?_
  repeat' (first
    | rw [hd]
    | rw [hw]
    | refine AR.auto rfl ?_
    | refine AR.nil ?_
    | refine KF.mk ?_
    | refine KT.mk (by kernel_rfl) ?_
    | refine SQ.normal ?_
    | refine AC.seq ?_
    | refine AC.regF ?_
    | refine AC.regT ?_
    | refine AC.condT rfl ?_
    | refine AC.condF rfl ?_
    | refine AC.block ?_
    | refine BQ.normal ?_
    | refine BQ.ret ?_
    | refine BQ.here ?_
    | refine BQ.there rfl ?_
    | refine SQ.ret ?_
    | refine SQ.exit ?_
    | refine AC.ret ?_
    | refine AC.exit ?_
    | refine AC.skip ?_
    | (refine AR.split rfl (fun h => ?_) (fun h => ?_) <;> rw [h])
    | (refine AC.cond rfl (fun h => ?_) (fun h => ?_) <;> rw [h])
    | refine FQ.ret rfl rfl ?_
    | refine FQ.normal rfl rfl ?_)
  rfl
theorem ok_nr_size {a : Nat} (ha : a < 9223372036854775808) {s : St} {o : Oper} {c : Call} (ho : o.op = .call c) (hc : c.callee = .value (.func 166)) (hargs : evs s c.args.toList = some [.int .i64 (a : Nat)]) : AOk Tryz.prog s o ⟨rq s c.args.toList, []⟩ ⟨.int .u64 (a : Nat), [], []⟩ :=
  AOk.call (fun w => nr_size a ha w) ent166 ho hc hargs rfl rfl
set_option maxRecDepth 100000 in
theorem nx_size (a : Nat) (ha : a < 9223372036854775808) (w : World) : Calls Tryz.prog 71 #[.int .i64 (a : Nat)] w (fun e w' => e = .returned (.int .u64 (a : Nat)) ∧ Below w.heap.size w w') := by
  have hd : decide ((a : Int) < 0) = false := by simp
  have hw : IntKind.u64.wrap (a : Int) = a := by rw [wu64]; omega
  refine fun_flat tblOK mixedP Tryz.func71 rfl [.int .i64 (a : Nat)] w 10 [(0, .int .i64 (a : Nat))] rfl rfl (by kernel_rfl) rfl rfl rfl _ rfl ?_
  repeat' (first
    | rw [hd]
    | rw [hw]
    | refine AR.auto rfl ?_
    | refine AR.nil ?_
    | refine KF.mk ?_
    | refine KT.mk (by kernel_rfl) ?_
    | refine SQ.normal ?_
    | refine AC.seq ?_
    | refine AC.regF ?_
    | refine AC.regT ?_
    | refine AC.condT rfl ?_
    | refine AC.condF rfl ?_
    | refine AC.block ?_
    | refine BQ.normal ?_
    | refine BQ.ret ?_
    | refine BQ.here ?_
    | refine BQ.there rfl ?_
    | refine SQ.ret ?_
    | refine SQ.exit ?_
    | refine AC.ret ?_
    | refine AC.exit ?_
    | refine AC.skip ?_
    | (refine AR.split rfl (fun h => ?_) (fun h => ?_) <;> rw [h])
    | (refine AC.cond rfl (fun h => ?_) (fun h => ?_) <;> rw [h])
    | refine FQ.ret rfl rfl ?_
    | refine FQ.normal rfl rfl ?_)
  rfl
theorem ent71 : Enters Tryz.prog 71 := enters Tryz.func71 (by kernel_rfl) (by kernel_rfl)
theorem ok_nx_size {a : Nat} (ha : a < 9223372036854775808) {s : St} {o : Oper} {c : Call} (ho : o.op = .call c) (hc : c.callee = .value (.func 71)) (hargs : evs s c.args.toList = some [.int .i64 (a : Nat)]) : AOk Tryz.prog s o ⟨rq s c.args.toList, []⟩ ⟨.int .u64 (a : Nat), [], []⟩ :=
  AOk.call (fun w => nx_size a ha w) ent71 ho hc hargs rfl rfl
set_option maxRecDepth 100000 in
theorem nw_signed (a b : Nat) (ha : a < 9223372036854775808) (hb : b < 9223372036854775808) (hp : a * b < 9223372036854775808) (w : World) : Calls Tryz.prog 208 #[.int .i64 (a : Nat), .int .i64 (b : Nat)] w (fun e w' => e = .returned (.tuple #[.bool false, .agg #[.int .u64 0, .int .u64 ((a * b : Nat))]]) ∧ Below w.heap.size w w') := by
  have hd : decide ((a : Int) < 0) = false := by simp
  have hd2 : decide ((b : Int) < 0) = false := by simp
  refine fun_flat tblOK mixedP Tryz.func208 rfl [.int .i64 (a : Nat), .int .i64 (b : Nat)] w 16 [(0, .int .i64 (a : Nat)), (1, .int .i64 (b : Nat))] rfl rfl (by kernel_rfl) rfl rfl rfl _ rfl ?_
  repeat' (first
    | rw [hd]
    | rw [hd2]
    | refine AR.auto rfl ?_
    | refine AR.man (ok_nw_size ha rfl rfl rfl) rfl rfl rfl ?_
    | refine AR.man (ok_nw_size hb rfl rfl rfl) rfl rfl rfl ?_
    | refine AR.man (ok_nw_prod (x := (a : Int)) (y := (b : Int)) (by omega) (by omega) (by omega) (by omega) (by rw [← Int.natCast_mul]; omega) (by rw [← Int.natCast_mul]; omega) rfl rfl rfl) rfl rfl rfl ?_
    | refine AR.nil ?_
    | refine KF.mk ?_
    | refine KT.mk (by kernel_rfl) ?_
    | refine SQ.normal ?_
    | refine AC.seq ?_
    | refine AC.regF ?_
    | refine AC.regT ?_
    | refine AC.condT rfl ?_
    | refine AC.condF rfl ?_
    | refine AC.block ?_
    | refine BQ.normal ?_
    | refine BQ.ret ?_
    | refine BQ.here ?_
    | refine BQ.there rfl ?_
    | refine SQ.ret ?_
    | refine SQ.exit ?_
    | refine AC.ret ?_
    | refine AC.exit ?_
    | refine AC.skip ?_
    | (refine AR.split rfl (fun h => ?_) (fun h => ?_) <;> rw [h])
    | (refine AC.cond rfl (fun h => ?_) (fun h => ?_) <;> rw [h])
    | refine FQ.ret rfl rfl ?_
    | refine FQ.normal rfl rfl ?_)
  rw [← Int.natCast_mul]; rfl
theorem ok_nw_signed {a b : Nat} (ha : a < 9223372036854775808) (hb : b < 9223372036854775808) (hp : a * b < 9223372036854775808) {s : St} {o : Oper} {c : Call} (ho : o.op = .call c) (hc : c.callee = .value (.func 208)) (hargs : evs s c.args.toList = some [.int .i64 (a : Nat), .int .i64 (b : Nat)]) : AOk Tryz.prog s o ⟨rq s c.args.toList, []⟩ ⟨.tuple #[.bool false, .agg #[.int .u64 0, .int .u64 ((a * b : Nat))]], [], []⟩ :=
  AOk.call (fun w => nw_signed a b ha hb hp w) ent208 ho hc hargs rfl rfl
set_option maxRecDepth 100000 in
theorem nw_cross (a b c d : Nat) (ha : a < 9223372036854775808) (hb : b < 9223372036854775808) (hp : a * b < 9223372036854775808) (hc : c < 9223372036854775808) (hd : d < 9223372036854775808) (hq : c * d < 9223372036854775808) (w : World) : Calls Tryz.prog 167 #[.int .i64 (a : Nat), .int .i64 (b : Nat), .int .i64 (c : Nat), .int .i64 (d : Nat)] w (fun e w' => e = .returned (.int .i64 (cmpN (a * b) (c * d))) ∧ Below w.heap.size w w') := by
  refine fun_flat tblOK mixedP Tryz.func167 rfl [.int .i64 (a : Nat), .int .i64 (b : Nat), .int .i64 (c : Nat), .int .i64 (d : Nat)] w 57 [(0, .int .i64 (a : Nat)), (1, .int .i64 (b : Nat)), (2, .int .i64 (c : Nat)), (3, .int .i64 (d : Nat))] rfl rfl (by kernel_rfl) rfl rfl rfl _ rfl ?_
  repeat' (first
    | refine AR.auto rfl ?_
    | refine AR.man (ok_nw_signed ha hb hp rfl rfl rfl) rfl rfl rfl ?_
    | refine AR.man (ok_nw_signed hc hd hq rfl rfl rfl) rfl rfl rfl ?_
    | refine AR.man (ok_cmpN _ _ rfl rfl rfl) rfl rfl rfl ?_
    | refine AR.nil ?_
    | refine KF.mk ?_
    | refine KT.mk (by kernel_rfl) ?_
    | refine SQ.normal ?_
    | refine AC.seq ?_
    | refine AC.regF ?_
    | refine AC.regT ?_
    | refine AC.condT rfl ?_
    | refine AC.condF rfl ?_
    | refine AC.block ?_
    | refine BQ.normal ?_
    | refine BQ.ret ?_
    | refine BQ.here ?_
    | refine BQ.there rfl ?_
    | refine SQ.ret ?_
    | refine SQ.exit ?_
    | refine AC.ret ?_
    | refine AC.exit ?_
    | refine AC.skip ?_
    | (refine AR.split rfl (fun h => ?_) (fun h => ?_) <;> rw [h])
    | (refine AC.cond rfl (fun h => ?_) (fun h => ?_) <;> rw [h])
    | refine FQ.ret rfl rfl ?_
    | refine FQ.normal rfl rfl ?_)
  rfl
theorem ok_nw_cross {a b c d : Nat} (ha : a < 9223372036854775808) (hb : b < 9223372036854775808) (hp : a * b < 9223372036854775808) (hc : c < 9223372036854775808) (hd : d < 9223372036854775808) (hq : c * d < 9223372036854775808) {s : St} {o : Oper} {c' : Call} (ho : o.op = .call c') (hc' : c'.callee = .value (.func 167)) (hargs : evs s c'.args.toList = some [.int .i64 (a : Nat), .int .i64 (b : Nat), .int .i64 (c : Nat), .int .i64 (d : Nat)]) : AOk Tryz.prog s o ⟨rq s c'.args.toList, []⟩ ⟨.int .i64 (cmpN (a * b) (c * d)), [], []⟩ :=
  AOk.call (fun w => nw_cross a b c d ha hb hp hc hd hq w) ent167 ho hc' hargs rfl rfl
structure RV (n d : Nat) : Prop where
  ln : n < 4611686018427387904
  pd : 0 < d
  ld : d < 4611686018427387904
  co : Nat.gcd n d = 1
set_option maxRecDepth 100000 in
theorem nr_valid (n d : Nat) (h : RV n d) (w : World) : Calls Tryz.prog 77 #[.agg #[.int .i64 ((n : Nat)), .int .i64 ((d : Nat))]] w (fun e w' => e = .returned (.bool true) ∧ Below w.heap.size w w') := by
  obtain ⟨h1, h2, h3, h4⟩ := h
  have hd : decide ((d : Int) ≥ 1) = true := by simp; omega
  have hw : IntKind.u64.wrap (d : Int) = d := by rw [wu64]; omega
  refine fun_flat tblOK mixedP Tryz.func77 rfl [.agg #[.int .i64 ((n : Nat)), .int .i64 ((d : Nat))]] w 19 [(0, .agg #[.int .i64 ((n : Nat)), .int .i64 ((d : Nat))])] rfl rfl (by kernel_rfl) rfl rfl rfl _ rfl ?_
  repeat' (first
    | rw [hd]
    | rw [hw]
    | rw [h4]
    | refine AR.auto rfl ?_
    | refine AR.man (ok_nr_size (a := n) (by omega) rfl rfl rfl) rfl rfl rfl ?_
    | refine AR.man (okw_of rfl rfl rfl) rfl rfl rfl ?_
    | refine AR.man (ok_nw_gcd (A := n) (B := d) (by omega) (by omega) rfl rfl rfl) rfl rfl rfl ?_
    | refine AR.man (AOk.bin (aeql73 _ _ _ _) rfl rfl rfl rfl rfl rfl) rfl rfl rfl ?_
    | refine AR.nil ?_
    | refine KF.mk ?_
    | refine KT.mk (by kernel_rfl) ?_
    | refine SQ.normal ?_
    | refine AC.seq ?_
    | refine AC.regF ?_
    | refine AC.regT ?_
    | refine AC.condT rfl ?_
    | refine AC.condF rfl ?_
    | refine AC.block ?_
    | refine BQ.normal ?_
    | refine BQ.ret ?_
    | refine BQ.here ?_
    | refine BQ.there rfl ?_
    | refine SQ.ret ?_
    | refine SQ.exit ?_
    | refine AC.ret ?_
    | refine AC.exit ?_
    | refine AC.skip ?_
    | (refine AR.split rfl (fun h => ?_) (fun h => ?_) <;> rw [h])
    | (refine AC.cond rfl (fun h => ?_) (fun h => ?_) <;> rw [h])
    | refine FQ.ret rfl rfl ?_
    | refine FQ.normal rfl rfl ?_)
  rfl
theorem ok_nr_valid {n d : Nat} (h : RV n d) {s : St} {o : Oper} {c : Call} (ho : o.op = .call c) (hc : c.callee = .value (.func 77)) (hargs : evs s c.args.toList = some [.agg #[.int .i64 ((n : Nat)), .int .i64 ((d : Nat))]]) : AOk Tryz.prog s o ⟨rq s c.args.toList, []⟩ ⟨.bool true, [], []⟩ :=
  AOk.call (fun w => nr_valid n d h w) ent77 ho hc hargs rfl rfl
set_option maxRecDepth 100000 in
theorem nr_cmp (n d m f : Nat) (h : RV n d) (k : RV m f) (hp : n * f < 9223372036854775808) (hq : m * d < 9223372036854775808) (w : World) : Calls Tryz.prog 78 #[.agg #[.int .i64 ((n : Nat)), .int .i64 ((d : Nat))], .agg #[.int .i64 ((m : Nat)), .int .i64 ((f : Nat))]] w (fun e w' => e = .returned (.int .i64 (cmpN (n * f) (m * d))) ∧ Below w.heap.size w w') := by
  refine fun_flat tblOK mixedP Tryz.func78 rfl [.agg #[.int .i64 ((n : Nat)), .int .i64 ((d : Nat))], .agg #[.int .i64 ((m : Nat)), .int .i64 ((f : Nat))]] w 22 [(0, .agg #[.int .i64 ((n : Nat)), .int .i64 ((d : Nat))]), (1, .agg #[.int .i64 ((m : Nat)), .int .i64 ((f : Nat))])] rfl rfl (by kernel_rfl) rfl rfl rfl _ rfl ?_
  repeat' (first
    | refine AR.auto rfl ?_
    | refine AR.man (ok_nr_valid (n := n) (d := d) h rfl rfl rfl) rfl rfl rfl ?_
    | refine AR.man (ok_nr_valid (n := m) (d := f) k rfl rfl rfl) rfl rfl rfl ?_
    | refine AR.man (ok_nw_cross (a := n) (b := f) (c := m) (d := d) (by have := h.ln; omega) (by have := k.ld; omega) hp (by have := k.ln; omega) (by have := h.ld; omega) hq rfl rfl rfl) rfl rfl rfl ?_
    | refine AR.nil ?_
    | refine KF.mk ?_
    | refine KT.mk (by kernel_rfl) ?_
    | refine SQ.normal ?_
    | refine AC.seq ?_
    | refine AC.regF ?_
    | refine AC.regT ?_
    | refine AC.condT rfl ?_
    | refine AC.condF rfl ?_
    | refine AC.block ?_
    | refine BQ.normal ?_
    | refine BQ.ret ?_
    | refine BQ.here ?_
    | refine BQ.there rfl ?_
    | refine SQ.ret ?_
    | refine SQ.exit ?_
    | refine AC.ret ?_
    | refine AC.exit ?_
    | refine AC.skip ?_
    | (refine AR.split rfl (fun h => ?_) (fun h => ?_) <;> rw [h])
    | (refine AC.cond rfl (fun h => ?_) (fun h => ?_) <;> rw [h])
    | refine FQ.ret rfl rfl ?_
    | refine FQ.normal rfl rfl ?_)
  rfl
theorem ok_nr_cmp {n d m f : Nat} (h : RV n d) (k : RV m f) (hp : n * f < 9223372036854775808) (hq : m * d < 9223372036854775808) {s : St} {o : Oper} {c : Call} (ho : o.op = .call c) (hc : c.callee = .value (.func 78)) (hargs : evs s c.args.toList = some [.agg #[.int .i64 ((n : Nat)), .int .i64 ((d : Nat))], .agg #[.int .i64 ((m : Nat)), .int .i64 ((f : Nat))]]) : AOk Tryz.prog s o ⟨rq s c.args.toList, []⟩ ⟨.int .i64 (cmpN (n * f) (m * d)), [], []⟩ :=
  AOk.call (fun w => nr_cmp n d m f h k hp hq w) ent78 ho hc hargs rfl rfl
set_option maxRecDepth 100000 in
theorem nr_red (n d : Nat) (hn : n < 9223372036854775808) (h0 : 0 < d) (hd : d < 9223372036854775808) (w : World) : Calls Tryz.prog 224 #[.bool false, .agg #[.int .u64 0, .int .u64 (n : Nat)], .agg #[.int .u64 0, .int .u64 (d : Nat)]] w (fun e w' => e = .returned (.tuple #[.agg #[.int .i64 ((n / Nat.gcd n d : Nat)), .int .i64 ((d / Nat.gcd n d : Nat))], .bool true]) ∧ Below w.heap.size w w') := by
  have hg : 0 < Nat.gcd n d := Nat.gcd_pos_of_pos_right _ h0
  have hg2 : Nat.gcd n d < 9223372036854775808 := Nat.lt_of_le_of_lt (Nat.gcd_le_right _ h0) hd
  have hn2 : n / Nat.gcd n d < 9223372036854775808 := Nat.lt_of_le_of_lt (Nat.div_le_self _ _) hn
  have hd2 : d / Nat.gcd n d < 9223372036854775808 := Nat.lt_of_le_of_lt (Nat.div_le_self _ _) hd
  have g1 : decide (((d / Nat.gcd n d : Nat) : Int) ≥ 9223372036854775808) = false := by simp only [decide_eq_false_iff_not]; omega
  have g2 : decide (((n / Nat.gcd n d : Nat) : Int) > 9223372036854775808) = false := by simp only [decide_eq_false_iff_not]; omega
  have g3 : (((n / Nat.gcd n d : Nat) : Int) == 9223372036854775808) = false := by rw [beq_eq_false_iff_ne]; omega
  have gz : ∀ z : Nat, z < 9223372036854775808 → IntKind.i64.wrap (z : Int) = (z : Int) := fun z hz => IntWalk.i64_in _ (by omega)
  have g4 : IntKind.i64.wrap ((n / Nat.gcd n d : Nat) : Int) = ((n / Nat.gcd n d : Nat) : Int) := gz _ hn2
  have g5 : IntKind.i64.wrap ((d / Nat.gcd n d : Nat) : Int) = ((d / Nat.gcd n d : Nat) : Int) := gz _ hd2
  refine fun_flat tblOK mixedP Tryz.func224 rfl [.bool false, .agg #[.int .u64 0, .int .u64 (n : Nat)], .agg #[.int .u64 0, .int .u64 (d : Nat)]] w 70 [(0, .bool false), (1, .agg #[.int .u64 0, .int .u64 (n : Nat)]), (2, .agg #[.int .u64 0, .int .u64 (d : Nat)])] rfl rfl (by kernel_rfl) rfl rfl rfl _ rfl ?_
  repeat' (first
    | rw [g1]
    | rw [g2]
    | rw [g3]
    | rw [g4]
    | rw [g5]
    | refine AR.auto rfl ?_
    | refine AR.man (ok_nw_gcd (A := n) (B := d) hn hd rfl rfl rfl) rfl rfl rfl ?_
    | refine AR.man (ok_nw_div (A := n) (B := Nat.gcd n d) hn hg hg2 rfl rfl rfl) rfl rfl rfl ?_
    | refine AR.man (ok_nw_div (A := d) (B := Nat.gcd n d) hd hg hg2 rfl rfl rfl) rfl rfl rfl ?_
    | refine AR.nil ?_
    | refine KF.mk ?_
    | refine KT.mk (by kernel_rfl) ?_
    | refine SQ.normal ?_
    | refine AC.seq ?_
    | refine AC.regF ?_
    | refine AC.regT ?_
    | refine AC.condT rfl ?_
    | refine AC.condF rfl ?_
    | refine AC.block ?_
    | refine BQ.normal ?_
    | refine BQ.ret ?_
    | refine BQ.here ?_
    | refine BQ.there rfl ?_
    | refine SQ.ret ?_
    | refine SQ.exit ?_
    | refine AC.ret ?_
    | refine AC.exit ?_
    | refine AC.skip ?_
    | (refine AR.split rfl (fun h => ?_) (fun h => ?_) <;> rw [h])
    | (refine AC.cond rfl (fun h => ?_) (fun h => ?_) <;> rw [h])
    | refine FQ.ret rfl rfl ?_
    | refine FQ.normal rfl rfl ?_)
  rfl
theorem ent224 : Enters Tryz.prog 224 := enters Tryz.func224 (by kernel_rfl) (by kernel_rfl)
theorem ok_nr_red {n d : Nat} (hn : n < 9223372036854775808) (h0 : 0 < d) (hd : d < 9223372036854775808) {s : St} {o : Oper} {c : Call} (ho : o.op = .call c) (hc : c.callee = .value (.func 224)) (hargs : evs s c.args.toList = some [.bool false, .agg #[.int .u64 0, .int .u64 (n : Nat)], .agg #[.int .u64 0, .int .u64 (d : Nat)]]) : AOk Tryz.prog s o ⟨rq s c.args.toList, []⟩ ⟨.tuple #[.agg #[.int .i64 ((n / Nat.gcd n d : Nat)), .int .i64 ((d / Nat.gcd n d : Nat))], .bool true], [], []⟩ :=
  AOk.call (fun w => nr_red n d hn h0 hd w) ent224 ho hc hargs rfl rfl
set_option maxRecDepth 100000 in
theorem nr_make (n d : Nat) (hn : n < 9223372036854775808) (h0 : 0 < d) (hd : d < 9223372036854775808) (w : World) : Calls Tryz.prog 195 #[.int .i64 (n : Nat), .int .i64 (d : Nat)] w (fun e w' => e = .returned (.tuple #[.agg #[.int .i64 ((n / Nat.gcd n d : Nat)), .int .i64 ((d / Nat.gcd n d : Nat))], .bool true]) ∧ Below w.heap.size w w') := by
  have g0 : ((d : Int) == 0) = false := by rw [beq_eq_false_iff_ne]; omega
  have g1 : decide ((n : Int) < 0) = false := by simp
  have g2 : decide ((d : Int) < 0) = false := by simp
  refine fun_flat tblOK mixedP Tryz.func195 rfl [.int .i64 (n : Nat), .int .i64 (d : Nat)] w 23 [(0, .int .i64 (n : Nat)), (1, .int .i64 (d : Nat))] rfl rfl (by kernel_rfl) rfl rfl rfl _ rfl ?_
  repeat' (first
    | rw [g0]
    | rw [g1]
    | rw [g2]
    | refine AR.auto rfl ?_
    | refine AR.man (ok_nr_size (a := n) hn rfl rfl rfl) rfl rfl rfl ?_
    | refine AR.man (ok_nr_size (a := d) hd rfl rfl rfl) rfl rfl rfl ?_
    | refine AR.man (okw_of rfl rfl rfl) rfl rfl rfl ?_
    | refine AR.man (ok_nr_red (n := n) (d := d) hn h0 hd rfl rfl rfl) rfl rfl rfl ?_
    | refine AR.nil ?_
    | refine KF.mk ?_
    | refine KT.mk (by kernel_rfl) ?_
    | refine SQ.normal ?_
    | refine AC.seq ?_
    | refine AC.regF ?_
    | refine AC.regT ?_
    | refine AC.condT rfl ?_
    | refine AC.condF rfl ?_
    | refine AC.block ?_
    | refine BQ.normal ?_
    | refine BQ.ret ?_
    | refine BQ.here ?_
    | refine BQ.there rfl ?_
    | refine SQ.ret ?_
    | refine SQ.exit ?_
    | refine AC.ret ?_
    | refine AC.exit ?_
    | refine AC.skip ?_
    | (refine AR.split rfl (fun h => ?_) (fun h => ?_) <;> rw [h])
    | (refine AC.cond rfl (fun h => ?_) (fun h => ?_) <;> rw [h])
    | refine FQ.ret rfl rfl ?_
    | refine FQ.normal rfl rfl ?_)
  rfl
theorem ent195 : Enters Tryz.prog 195 := enters Tryz.func195 (by kernel_rfl) (by kernel_rfl)
theorem ok_nr_make {n d : Nat} (hn : n < 9223372036854775808) (h0 : 0 < d) (hd : d < 9223372036854775808) {s : St} {o : Oper} {c : Call} (ho : o.op = .call c) (hc : c.callee = .value (.func 195)) (hargs : evs s c.args.toList = some [.int .i64 (n : Nat), .int .i64 (d : Nat)]) : AOk Tryz.prog s o ⟨rq s c.args.toList, []⟩ ⟨.tuple #[.agg #[.int .i64 ((n / Nat.gcd n d : Nat)), .int .i64 ((d / Nat.gcd n d : Nat))], .bool true], [], []⟩ :=
  AOk.call (fun w => nr_make n d hn h0 hd w) ent195 ho hc hargs rfl rfl
set_option maxRecDepth 100000 in
theorem nb_exact (n d : Nat) (h : RV n d) (w : World) : Calls Tryz.prog 135 #[.agg #[.int .i64 ((n : Nat)), .int .i64 ((d : Nat))]] w (fun e w' => e = .returned (.agg #[.int .i64 ((n : Nat)), .int .i64 ((d : Nat)), .int .i64 ((n : Nat)), .int .i64 ((d : Nat)), .int .i64 ((n : Nat)), .int .i64 ((d : Nat))]) ∧ Below w.heap.size w w') := by
  refine fun_flat tblOK mixedP Tryz.func135 rfl [.agg #[.int .i64 ((n : Nat)), .int .i64 ((d : Nat))]] w 11 [(0, .agg #[.int .i64 ((n : Nat)), .int .i64 ((d : Nat))])] rfl rfl (by kernel_rfl) rfl rfl rfl _ rfl ?_
  repeat' (first
    | refine AR.auto rfl ?_
    | refine AR.man (ok_nr_valid (n := n) (d := d) h rfl rfl rfl) rfl rfl rfl ?_
    | refine AR.nil ?_
    | refine KF.mk ?_
    | refine KT.mk (by kernel_rfl) ?_
    | refine SQ.normal ?_
    | refine AC.seq ?_
    | refine AC.regF ?_
    | refine AC.regT ?_
    | refine AC.condT rfl ?_
    | refine AC.condF rfl ?_
    | refine AC.block ?_
    | refine BQ.normal ?_
    | refine BQ.ret ?_
    | refine BQ.here ?_
    | refine BQ.there rfl ?_
    | refine SQ.ret ?_
    | refine SQ.exit ?_
    | refine AC.ret ?_
    | refine AC.exit ?_
    | refine AC.skip ?_
    | (refine AR.split rfl (fun h => ?_) (fun h => ?_) <;> rw [h])
    | (refine AC.cond rfl (fun h => ?_) (fun h => ?_) <;> rw [h])
    | refine FQ.ret rfl rfl ?_
    | refine FQ.normal rfl rfl ?_)
  rfl
theorem ent135 : Enters Tryz.prog 135 := enters Tryz.func135 (by kernel_rfl) (by kernel_rfl)
theorem ok_nb_exact {n d : Nat} (h : RV n d) {s : St} {o : Oper} {c : Call} (ho : o.op = .call c) (hc : c.callee = .value (.func 135)) (hargs : evs s c.args.toList = some [.agg #[.int .i64 ((n : Nat)), .int .i64 ((d : Nat))]]) : AOk Tryz.prog s o ⟨rq s c.args.toList, []⟩ ⟨.agg #[.int .i64 ((n : Nat)), .int .i64 ((d : Nat)), .int .i64 ((n : Nat)), .int .i64 ((d : Nat)), .int .i64 ((n : Nat)), .int .i64 ((d : Nat))], [], []⟩ :=
  AOk.call (fun w => nb_exact n d h w) ent135 ho hc hargs rfl rfl
/-- an interval of small numbers: p/q the least, n/d in it, u/v the greatest -/
structure BV (n d m f u v : Nat) : Prop where
  a : RV n d
  b : RV m f
  c : RV u v
  ab : n * f ≤ m * d
  bc : m * v ≤ u * f
  l1 : m * d < 9223372036854775808
  l2 : u * f < 9223372036854775808
set_option maxRecDepth 100000 in
theorem nb_valid (n d m f u v : Nat) (h : BV n d m f u v) (w : World) : Calls Tryz.prog 66 #[.agg #[.int .i64 ((n : Nat)), .int .i64 ((d : Nat)), .int .i64 ((m : Nat)), .int .i64 ((f : Nat)), .int .i64 ((u : Nat)), .int .i64 ((v : Nat))]] w (fun e w' => e = .returned (.bool true) ∧ Below w.heap.size w w') := by
  have g1 : decide (cmpN (n * f) (m * d) ≤ 0) = true := by simp only [decide_eq_true_eq]; exact cmpN_le h.ab
  have g2 : decide (cmpN (m * v) (u * f) ≤ 0) = true := by simp only [decide_eq_true_eq]; exact cmpN_le h.bc
  have l3 := h.ab
  have l4 := h.bc
  have l5 := h.l1
  have l6 := h.l2
  refine fun_flat tblOK mixedP Tryz.func66 rfl [.agg #[.int .i64 ((n : Nat)), .int .i64 ((d : Nat)), .int .i64 ((m : Nat)), .int .i64 ((f : Nat)), .int .i64 ((u : Nat)), .int .i64 ((v : Nat))]] w 32 [(0, .agg #[.int .i64 ((n : Nat)), .int .i64 ((d : Nat)), .int .i64 ((m : Nat)), .int .i64 ((f : Nat)), .int .i64 ((u : Nat)), .int .i64 ((v : Nat))])] rfl rfl (by kernel_rfl) rfl rfl rfl _ rfl ?_
  repeat' (first
    | rw [g1]
    | rw [g2]
    | refine AR.auto rfl ?_
    | refine AR.man (ok_nr_valid (n := n) (d := d) h.a rfl rfl rfl) rfl rfl rfl ?_
    | refine AR.man (ok_nr_valid (n := m) (d := f) h.b rfl rfl rfl) rfl rfl rfl ?_
    | refine AR.man (ok_nr_valid (n := u) (d := v) h.c rfl rfl rfl) rfl rfl rfl ?_
    | refine AR.man (ok_nr_cmp (n := n) (d := d) (m := m) (f := f) h.a h.b (by omega) h.l1 rfl rfl rfl) rfl rfl rfl ?_
    | refine AR.man (ok_nr_cmp (n := m) (d := f) (m := u) (f := v) h.b h.c (by omega) h.l2 rfl rfl rfl) rfl rfl rfl ?_
    | refine AR.nil ?_
    | refine KF.mk ?_
    | refine KT.mk (by kernel_rfl) ?_
    | refine SQ.normal ?_
    | refine AC.seq ?_
    | refine AC.regF ?_
    | refine AC.regT ?_
    | refine AC.condT rfl ?_
    | refine AC.condF rfl ?_
    | refine AC.block ?_
    | refine BQ.normal ?_
    | refine BQ.ret ?_
    | refine BQ.here ?_
    | refine BQ.there rfl ?_
    | refine SQ.ret ?_
    | refine SQ.exit ?_
    | refine AC.ret ?_
    | refine AC.exit ?_
    | refine AC.skip ?_
    | (refine AR.split rfl (fun h => ?_) (fun h => ?_) <;> rw [h])
    | (refine AC.cond rfl (fun h => ?_) (fun h => ?_) <;> rw [h])
    | refine FQ.ret rfl rfl ?_
    | refine FQ.normal rfl rfl ?_)
  rfl
theorem ent66 : Enters Tryz.prog 66 := enters Tryz.func66 (by kernel_rfl) (by kernel_rfl)
theorem ok_nb_valid {n d m f u v : Nat} (h : BV n d m f u v) {s : St} {o : Oper} {c : Call} (ho : o.op = .call c) (hc : c.callee = .value (.func 66)) (hargs : evs s c.args.toList = some [.agg #[.int .i64 ((n : Nat)), .int .i64 ((d : Nat)), .int .i64 ((m : Nat)), .int .i64 ((f : Nat)), .int .i64 ((u : Nat)), .int .i64 ((v : Nat))]]) : AOk Tryz.prog s o ⟨rq s c.args.toList, []⟩ ⟨.bool true, [], []⟩ :=
  AOk.call (fun w => nb_valid n d m f u v h w) ent66 ho hc hargs rfl rfl
set_option maxRecDepth 100000 in
theorem nb_holds (n d m f u v x y : Nat) (h : BV n d m f u v) (hx : RV x y) (h1 : n * y ≤ x * d) (h2 : x * v ≤ u * y) (h3 : x * d < 9223372036854775808) (h4 : u * y < 9223372036854775808) (w : World) : Calls Tryz.prog 21 #[.agg #[.int .i64 ((n : Nat)), .int .i64 ((d : Nat)), .int .i64 ((m : Nat)), .int .i64 ((f : Nat)), .int .i64 ((u : Nat)), .int .i64 ((v : Nat))], .agg #[.int .i64 ((x : Nat)), .int .i64 ((y : Nat))]] w (fun e w' => e = .returned (.bool true) ∧ Below w.heap.size w w') := by
  have g1 : decide (cmpN (n * y) (x * d) ≤ 0) = true := by simp only [decide_eq_true_eq]; exact cmpN_le h1
  have g2 : decide (cmpN (x * v) (u * y) ≤ 0) = true := by simp only [decide_eq_true_eq]; exact cmpN_le h2
  refine fun_flat tblOK mixedP Tryz.func21 rfl [.agg #[.int .i64 ((n : Nat)), .int .i64 ((d : Nat)), .int .i64 ((m : Nat)), .int .i64 ((f : Nat)), .int .i64 ((u : Nat)), .int .i64 ((v : Nat))], .agg #[.int .i64 ((x : Nat)), .int .i64 ((y : Nat))]] w 25 [(0, .agg #[.int .i64 ((n : Nat)), .int .i64 ((d : Nat)), .int .i64 ((m : Nat)), .int .i64 ((f : Nat)), .int .i64 ((u : Nat)), .int .i64 ((v : Nat))]), (1, .agg #[.int .i64 ((x : Nat)), .int .i64 ((y : Nat))])] rfl rfl (by kernel_rfl) rfl rfl rfl _ rfl ?_
  repeat' (first
    | rw [g1]
    | rw [g2]
    | refine AR.auto rfl ?_
    | refine AR.man (ok_nb_valid (n := n) (d := d) (m := m) (f := f) (u := u) (v := v) h rfl rfl rfl) rfl rfl rfl ?_
    | refine AR.man (ok_nr_valid (n := x) (d := y) hx rfl rfl rfl) rfl rfl rfl ?_
    | refine AR.man (ok_nr_cmp (n := n) (d := d) (m := x) (f := y) h.a hx (by omega) h3 rfl rfl rfl) rfl rfl rfl ?_
    | refine AR.man (ok_nr_cmp (n := x) (d := y) (m := u) (f := v) hx h.c (by omega) h4 rfl rfl rfl) rfl rfl rfl ?_
    | refine AR.nil ?_
    | refine KF.mk ?_
    | refine KT.mk (by kernel_rfl) ?_
    | refine SQ.normal ?_
    | refine AC.seq ?_
    | refine AC.regF ?_
    | refine AC.regT ?_
    | refine AC.condT rfl ?_
    | refine AC.condF rfl ?_
    | refine AC.block ?_
    | refine BQ.normal ?_
    | refine BQ.ret ?_
    | refine BQ.here ?_
    | refine BQ.there rfl ?_
    | refine SQ.ret ?_
    | refine SQ.exit ?_
    | refine AC.ret ?_
    | refine AC.exit ?_
    | refine AC.skip ?_
    | (refine AR.split rfl (fun h => ?_) (fun h => ?_) <;> rw [h])
    | (refine AC.cond rfl (fun h => ?_) (fun h => ?_) <;> rw [h])
    | refine FQ.ret rfl rfl ?_
    | refine FQ.normal rfl rfl ?_)
  rfl
theorem ent21 : Enters Tryz.prog 21 := enters Tryz.func21 (by kernel_rfl) (by kernel_rfl)
theorem ok_nb_holds {n d m f u v x y : Nat} (h : BV n d m f u v) (hx : RV x y) (h1 : n * y ≤ x * d) (h2 : x * v ≤ u * y) (h3 : x * d < 9223372036854775808) (h4 : u * y < 9223372036854775808) {s : St} {o : Oper} {c : Call} (ho : o.op = .call c) (hc : c.callee = .value (.func 21)) (hargs : evs s c.args.toList = some [.agg #[.int .i64 ((n : Nat)), .int .i64 ((d : Nat)), .int .i64 ((m : Nat)), .int .i64 ((f : Nat)), .int .i64 ((u : Nat)), .int .i64 ((v : Nat))], .agg #[.int .i64 ((x : Nat)), .int .i64 ((y : Nat))]]) : AOk Tryz.prog s o ⟨rq s c.args.toList, []⟩ ⟨.bool true, [], []⟩ :=
  AOk.call (fun w => nb_holds n d m f u v x y h hx h1 h2 h3 h4 w) ent21 ho hc hargs rfl rfl
def addEntry : Array Value → Sem Value := fun args => do
  let (x, y, c) ← Extern.MathBitsCarry.three "Add64" args
  pure (Extern.MathBitsCarry.pair ((x + y + c) % Extern.MathBitsCarry.m64) ((x + y + c) / Extern.MathBitsCarry.m64))
theorem fn158 : ∃ fn : Func, Tryz.prog.funcs[158]? = some fn ∧ (fn.name == "runtime.NumGoroutine") = false ∧ fn.body.isNone = true ∧ Extern.findNext fn = none ∧ Extern.find fn = some addEntry :=
  ⟨(Tryz.prog.funcs[158]?).get (by kernel_rfl), by kernel_rfl, by kernel_rfl, by kernel_rfl, by kernel_rfl, by kernel_rfl⟩
theorem add158 (x y : Nat) (hx : x + y < 18446744073709551616) (w : World) : (callFunc 158 #[.int .u64 (x : Nat), .int .u64 (y : Nat), .int .u64 0]).run Tryz.prog w = .ok (.value (.tuple #[.int .u64 ((x + y : Nat) : Int), .int .u64 0])) w := by
  obtain ⟨fn, hf, h1, h2, h3, h4⟩ := fn158
  rw [run_callFunc_extern hf h1 h2 h3 h4]
  have e1 : (x + y + 0) % Extern.MathBitsCarry.m64 = x + y := by unfold Extern.MathBitsCarry.m64; omega
  have e2 : (x + y + 0) / Extern.MathBitsCarry.m64 = 0 := by unfold Extern.MathBitsCarry.m64; omega
  have h5 : (addEntry #[.int .u64 (x : Nat), .int .u64 (y : Nat), .int .u64 0]).run Tryz.prog w = .ok (.tuple #[.int .u64 (Int.ofNat ((x + y + 0) % Extern.MathBitsCarry.m64)), .int .u64 (Int.ofNat ((x + y + 0) / Extern.MathBitsCarry.m64))]) w := rfl
  rw [h5, e1, e2]
  rfl
theorem add158z (w : World) : (callFunc 158 #[.int .u64 0, .int .u64 0, .int .u64 0]).run Tryz.prog w = .ok (.value (.tuple #[.int .u64 0, .int .u64 0])) w := add158 0 0 (by decide) w
set_option maxRecDepth 100000 in
theorem nw_add (a b : Nat) (hp : a + b < 18446744073709551616) (w : World) : Calls Tryz.prog 119 #[.agg #[.int .u64 0, .int .u64 (a : Nat)], .agg #[.int .u64 0, .int .u64 (b : Nat)]] w (fun e w' => e = .returned (.tuple #[.agg #[.int .u64 0, .int .u64 ((a + b : Nat))], .bool true]) ∧ Below w.heap.size w w') := by
  refine fun_flat tblOK mixedP Tryz.func119 rfl [.agg #[.int .u64 0, .int .u64 (a : Nat)], .agg #[.int .u64 0, .int .u64 (b : Nat)]] w 33 [(0, .agg #[.int .u64 0, .int .u64 (a : Nat)]), (1, .agg #[.int .u64 0, .int .u64 (b : Nat)])] rfl rfl (by kernel_rfl) rfl rfl rfl _ rfl ?_
  repeat' (first
    | refine AR.auto rfl ?_
    | refine AR.man (AOk.ext (add158 a b hp) rfl rfl rfl rfl rfl) rfl rfl rfl ?_
    | refine AR.man (AOk.ext add158z rfl rfl rfl rfl rfl) rfl rfl rfl ?_
    | refine AR.nil ?_
    | refine KF.mk ?_
    | refine KT.mk (by kernel_rfl) ?_
    | refine SQ.normal ?_
    | refine AC.seq ?_
    | refine AC.regF ?_
    | refine AC.regT ?_
    | refine AC.condT rfl ?_
    | refine AC.condF rfl ?_
    | refine AC.block ?_
    | refine BQ.normal ?_
    | refine BQ.ret ?_
    | refine BQ.here ?_
    | refine BQ.there rfl ?_
    | refine SQ.ret ?_
    | refine SQ.exit ?_
    | refine AC.ret ?_
    | refine AC.exit ?_
    | refine AC.skip ?_
    | (refine AR.split rfl (fun h => ?_) (fun h => ?_) <;> rw [h])
    | (refine AC.cond rfl (fun h => ?_) (fun h => ?_) <;> rw [h])
    | refine FQ.ret rfl rfl ?_
    | refine FQ.normal rfl rfl ?_)
  rfl
theorem ent119 : Enters Tryz.prog 119 := enters Tryz.func119 (by kernel_rfl) (by kernel_rfl)
theorem ok_nw_add {a b : Nat} (hp : a + b < 18446744073709551616) {s : St} {o : Oper} {c : Call} (ho : o.op = .call c) (hc : c.callee = .value (.func 119)) (hargs : evs s c.args.toList = some [.agg #[.int .u64 0, .int .u64 (a : Nat)], .agg #[.int .u64 0, .int .u64 (b : Nat)]]) : AOk Tryz.prog s o ⟨rq s c.args.toList, []⟩ ⟨.tuple #[.agg #[.int .u64 0, .int .u64 ((a + b : Nat))], .bool true], [], []⟩ :=
  AOk.call (fun w => nw_add a b hp w) ent119 ho hc hargs rfl rfl
set_option maxRecDepth 100000 in
theorem nw_mulw (a b : Nat) (ha : a < 9223372036854775808) (hb : b < 9223372036854775808) (hp : a * b < 9223372036854775808) (w : World) : Calls Tryz.prog 117 #[.agg #[.int .u64 0, .int .u64 (a : Nat)], .agg #[.int .u64 0, .int .u64 (b : Nat)]] w (fun e w' => e = .returned (.tuple #[.agg #[.int .u64 0, .int .u64 ((a * b : Nat))], .bool true]) ∧ Below w.heap.size w w') := by
  have e1 : (a : Int) * (b : Int) = ((a * b : Nat) : Int) := (Int.natCast_mul a b).symm
  have e2 : (a : Int) * 0 = 0 := Int.mul_zero _
  refine fun_flat tblOK mixedP Tryz.func117 rfl [.agg #[.int .u64 0, .int .u64 (a : Nat)], .agg #[.int .u64 0, .int .u64 (b : Nat)]] w 43 [(0, .agg #[.int .u64 0, .int .u64 (a : Nat)]), (1, .agg #[.int .u64 0, .int .u64 (b : Nat)])] rfl rfl (by kernel_rfl) rfl rfl rfl _ rfl ?_
  repeat' (first
    | rw [e1]
    | rw [e2]
    | refine AR.auto rfl ?_
    | refine AR.man (ok_nw_prod (x := (a : Int)) (y := (b : Int)) (by omega) (by omega) (by omega) (by omega) (by rw [← Int.natCast_mul]; omega) (by rw [← Int.natCast_mul]; omega) rfl rfl rfl) rfl rfl rfl ?_
    | refine AR.man (ok_nw_prod (x := (a : Int)) (y := 0) (by omega) (by omega) (by omega) (by omega) (by omega) (by omega) rfl rfl rfl) rfl rfl rfl ?_
    | refine AR.man (AOk.call (nw_add (a * b) 0 (by omega)) ent119 rfl rfl rfl rfl rfl) rfl rfl rfl ?_
    | refine AR.nil ?_
    | refine KF.mk ?_
    | refine KT.mk (by kernel_rfl) ?_
    | refine SQ.normal ?_
    | refine AC.seq ?_
    | refine AC.regF ?_
    | refine AC.regT ?_
    | refine AC.condT rfl ?_
    | refine AC.condF rfl ?_
    | refine AC.block ?_
    | refine BQ.normal ?_
    | refine BQ.ret ?_
    | refine BQ.here ?_
    | refine BQ.there rfl ?_
    | refine SQ.ret ?_
    | refine SQ.exit ?_
    | refine AC.ret ?_
    | refine AC.exit ?_
    | refine AC.skip ?_
    | (refine AR.split rfl (fun h => ?_) (fun h => ?_) <;> rw [h])
    | (refine AC.cond rfl (fun h => ?_) (fun h => ?_) <;> rw [h])
    | refine FQ.ret rfl rfl ?_
    | refine FQ.normal rfl rfl ?_)
  rfl
theorem ent117 : Enters Tryz.prog 117 := enters Tryz.func117 (by kernel_rfl) (by kernel_rfl)
theorem ok_nw_mulw {a b : Nat} (ha : a < 9223372036854775808) (hb : b < 9223372036854775808) (hp : a * b < 9223372036854775808) {s : St} {o : Oper} {c : Call} (ho : o.op = .call c) (hc : c.callee = .value (.func 117)) (hargs : evs s c.args.toList = some [.agg #[.int .u64 0, .int .u64 (a : Nat)], .agg #[.int .u64 0, .int .u64 (b : Nat)]]) : AOk Tryz.prog s o ⟨rq s c.args.toList, []⟩ ⟨.tuple #[.agg #[.int .u64 0, .int .u64 ((a * b : Nat))], .bool true], [], []⟩ :=
  AOk.call (fun w => nw_mulw a b ha hb hp w) ent117 ho hc hargs rfl rfl
end Go.Proofs.YtbageimconenlaaGreat
