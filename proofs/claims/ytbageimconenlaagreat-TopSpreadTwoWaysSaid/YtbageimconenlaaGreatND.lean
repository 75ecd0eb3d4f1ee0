/- Marks: number, sum, squares; the spread of a mark; close marks. -/
import Derived.Test.YtbageimconenlaaGreatNC
namespace Go.Proofs.YtbageimconenlaaGreat
open Go.RowKit En
set_option linter.unusedVariables false
structure Mk where
  seq : Int
  t : Int
  n : Int
  s : Int
  q : Int
  mn : Int
  mx : Int
structure MkOK (m : Mk) : Prop where
  ft : Fits m.n m.mn m.mx m.s m.q
  n1 : 1 ≤ m.n
theorem MkOK.bd {m : Mk} (h : MkOK m) : 1 ≤ m.n ∧ m.n ≤ 100 ∧ -409600 ≤ m.s ∧ m.s ≤ 409600 ∧ m.n * (-4096) ≤ m.s ∧ m.s ≤ m.n * 4096 ∧ 0 ≤ m.q ∧ m.q ≤ m.n * 16777216 ∧ 0 ≤ m.n * m.q ∧ m.n * m.q ≤ 167772160000 ∧ 0 ≤ m.s * m.s ∧ m.s * m.s ≤ m.n * m.q := by
  obtain ⟨b1, b2, b3, b4, b5, b6, b7, b8, b9, b10⟩ := h.ft.bd
  obtain ⟨h1, h2, h3, h4, h5, h6, h7, h8, h9, h10⟩ := h.ft
  have a1 : m.n * (-4096) ≤ m.n * m.mn := Int.mul_le_mul_of_nonneg_left h3 h1
  have a2 : m.n * m.mx ≤ m.n * 4096 := Int.mul_le_mul_of_nonneg_left h4 h1
  have := h.n1
  omega
set_option maxRecDepth 100000 in
theorem ns_right (m : Mk) (h : MkOK m) (w : World) : Calls Tryz.prog 179 #[.agg #[.int .i64 m.seq, .int .i64 m.t, .int .i64 m.n, .int .i64 m.s, .int .i64 m.q, .int .i64 m.mn, .int .i64 m.mx]] w (fun e w' => e = .returned (.bool true) ∧ Below w.heap.size w w') := by
  obtain ⟨b1, b2, b3, b4, b5, b6, b7, b8, b9, b10, b11, b12⟩ := h.bd
  have d1 : decide (m.n < 1) = false := by simp only [decide_eq_false_iff_not]; omega
  have d2 : decide (m.n > 65536) = false := by simp only [decide_eq_false_iff_not]; omega
  have w1 : IntKind.i64.wrap (0 - m.n) = -m.n := by rw [show 0 - m.n = -m.n by omega]; exact IntWalk.i64_in _ (by omega)
  have w2 : IntKind.i64.wrap (-m.n * 4096) = -m.n * 4096 := IntWalk.i64_in _ (by omega)
  have d3 : decide (m.s < -m.n * 4096) = false := by simp only [decide_eq_false_iff_not]; omega
  have w3 : IntKind.i64.wrap (m.n * 4096) = m.n * 4096 := IntWalk.i64_in _ (by omega)
  have d4 : decide (m.s > m.n * 4096) = false := by simp only [decide_eq_false_iff_not]; omega
  have d5 : decide (m.q < 0) = false := by simp only [decide_eq_false_iff_not]; omega
  have w4 : IntKind.i64.wrap (m.n * 4096 * 4096) = m.n * 16777216 := by rw [IntWalk.i64_in _ (by omega)]; omega
  have d6 : decide (m.q > m.n * 16777216) = false := by simp only [decide_eq_false_iff_not]; omega
  have w5 : IntKind.i64.wrap (m.s * m.s) = m.s * m.s := IntWalk.i64_in _ (by omega)
  have w6 : IntKind.i64.wrap (m.n * m.q) = m.n * m.q := IntWalk.i64_in _ (by omega)
  have d7 : decide (m.s * m.s ≤ m.n * m.q) = true := by simp only [decide_eq_true_eq]; omega
  refine fun_flat tblOK mixedP Tryz.func179 rfl [.agg #[.int .i64 m.seq, .int .i64 m.t, .int .i64 m.n, .int .i64 m.s, .int .i64 m.q, .int .i64 m.mn, .int .i64 m.mx]] w 53 [(0, .agg #[.int .i64 m.seq, .int .i64 m.t, .int .i64 m.n, .int .i64 m.s, .int .i64 m.q, .int .i64 m.mn, .int .i64 m.mx])] rfl rfl (by kernel_rfl) rfl rfl rfl _ rfl ?_
  repeat' (first
    | rw [d1]
    | rw [d2]
    | rw [w1]
    | rw [w2]
    | rw [d3]
    | rw [w3]
    | rw [d4]
    | rw [d5]
    | rw [w4]
    | rw [d6]
    | rw [w5]
    | rw [w6]
    | rw [d7]
    | refine AR.auto rfl ?_
    | refine AR.nil ?_
    | refine KF.mk ?_
    | refine KT.mk (by kernel_rfl) ?_
    | refine SQ.normal ?_
    | refine AC.seq ?_
    | refine AC.regF ?_
    | refine AC.regT ?_
    | refine AC.condT rfl ?_
    | refine AC.condF rfl ?_
    | refine AC.block ?_
    | refine BQ.normal ?_
    | refine BQ.ret ?_
    | refine BQ.here ?_
    | refine BQ.there rfl ?_
    | refine SQ.ret ?_
    | refine SQ.exit ?_
    | refine AC.ret ?_
    | refine AC.exit ?_
    | refine AC.skip ?_
    | (refine AR.split rfl (fun h => ?_) (fun h => ?_) <;> rw [h])
    | (refine AC.cond rfl (fun h => ?_) (fun h => ?_) <;> rw [h])
    | refine FQ.ret rfl rfl ?_
    | refine FQ.normal rfl rfl ?_)
  rfl
theorem ent179 : Enters Tryz.prog 179 := enters Tryz.func179 (by kernel_rfl) (by kernel_rfl)
theorem ok_ns_right {m : Mk} (h : MkOK m) {st : St} {o : Oper} {cl : Call} (ho : o.op = .call cl) (hc : cl.callee = .value (.func 179)) (hargs : evs st cl.args.toList = some [.agg #[.int .i64 m.seq, .int .i64 m.t, .int .i64 m.n, .int .i64 m.s, .int .i64 m.q, .int .i64 m.mn, .int .i64 m.mx]]) : AOk Tryz.prog st o ⟨rq st cl.args.toList, []⟩ ⟨.bool true, [], []⟩ :=
  AOk.call (fun w => ns_right m h w) ent179 ho hc hargs rfl rfl
set_option maxRecDepth 100000 in
theorem ns_top (m : Mk) (h : MkOK m) (w : World) : Calls Tryz.prog 181 #[.agg #[.int .i64 m.seq, .int .i64 m.t, .int .i64 m.n, .int .i64 m.s, .int .i64 m.q, .int .i64 m.mn, .int .i64 m.mx]] w (fun e w' => e = .returned (.int .i64 (m.n * m.q - m.s * m.s)) ∧ Below w.heap.size w w') := by
  obtain ⟨b1, b2, b3, b4, b5, b6, b7, b8, b9, b10, b11, b12⟩ := h.bd
  have w5 : IntKind.i64.wrap (m.s * m.s) = m.s * m.s := IntWalk.i64_in _ (by omega)
  have w6 : IntKind.i64.wrap (m.n * m.q) = m.n * m.q := IntWalk.i64_in _ (by omega)
  have w7 : IntKind.i64.wrap (m.n * m.q - m.s * m.s) = m.n * m.q - m.s * m.s := IntWalk.i64_in _ (by omega)
  refine fun_flat tblOK mixedP Tryz.func181 rfl [.agg #[.int .i64 m.seq, .int .i64 m.t, .int .i64 m.n, .int .i64 m.s, .int .i64 m.q, .int .i64 m.mn, .int .i64 m.mx]] w 14 [(0, .agg #[.int .i64 m.seq, .int .i64 m.t, .int .i64 m.n, .int .i64 m.s, .int .i64 m.q, .int .i64 m.mn, .int .i64 m.mx])] rfl rfl (by kernel_rfl) rfl rfl rfl _ rfl ?_
  repeat' (first
    | rw [w5]
    | rw [w6]
    | rw [w7]
    | refine AR.auto rfl ?_
    | refine AR.nil ?_
    | refine KF.mk ?_
    | refine KT.mk (by kernel_rfl) ?_
    | refine SQ.normal ?_
    | refine AC.seq ?_
    | refine AC.regF ?_
    | refine AC.regT ?_
    | refine AC.condT rfl ?_
    | refine AC.condF rfl ?_
    | refine AC.block ?_
    | refine BQ.normal ?_
    | refine BQ.ret ?_
    | refine BQ.here ?_
    | refine BQ.there rfl ?_
    | refine SQ.ret ?_
    | refine SQ.exit ?_
    | refine AC.ret ?_
    | refine AC.exit ?_
    | refine AC.skip ?_
    | (refine AR.split rfl (fun h => ?_) (fun h => ?_) <;> rw [h])
    | (refine AC.cond rfl (fun h => ?_) (fun h => ?_) <;> rw [h])
    | refine FQ.ret rfl rfl ?_
    | refine FQ.normal rfl rfl ?_)
  rfl
theorem ent181 : Enters Tryz.prog 181 := enters Tryz.func181 (by kernel_rfl) (by kernel_rfl)
theorem ok_ns_top {m : Mk} (h : MkOK m) {st : St} {o : Oper} {cl : Call} (ho : o.op = .call cl) (hc : cl.callee = .value (.func 181)) (hargs : evs st cl.args.toList = some [.agg #[.int .i64 m.seq, .int .i64 m.t, .int .i64 m.n, .int .i64 m.s, .int .i64 m.q, .int .i64 m.mn, .int .i64 m.mx]]) : AOk Tryz.prog st o ⟨rq st cl.args.toList, []⟩ ⟨.int .i64 (m.n * m.q - m.s * m.s), [], []⟩ :=
  AOk.call (fun w => ns_top m h w) ent181 ho hc hargs rfl rfl
set_option maxRecDepth 100000 in
theorem ns_of (m : Mk) (x y : Nat) (h : MkOK m) (hx : m.n * m.q - m.s * m.s = x) (hy : m.n = y) (w : World) : Calls Tryz.prog 141 #[.agg #[.int .i64 m.seq, .int .i64 m.t, .int .i64 m.n, .int .i64 m.s, .int .i64 m.q, .int .i64 m.mn, .int .i64 m.mx]] w (fun e w' => e = .returned (.tuple #[.agg #[.int .i64 ((x / Nat.gcd x y : Nat)), .int .i64 ((y / Nat.gcd x y : Nat))], .bool true]) ∧ Below w.heap.size w w') := by
  obtain ⟨b1, b2, b3, b4, b5, b6, b7, b8, b9, b10, b11, b12⟩ := h.bd
  refine fun_flat tblOK mixedP Tryz.func141 rfl [.agg #[.int .i64 m.seq, .int .i64 m.t, .int .i64 m.n, .int .i64 m.s, .int .i64 m.q, .int .i64 m.mn, .int .i64 m.mx]] w 15 [(0, .agg #[.int .i64 m.seq, .int .i64 m.t, .int .i64 m.n, .int .i64 m.s, .int .i64 m.q, .int .i64 m.mn, .int .i64 m.mx])] rfl rfl (by kernel_rfl) rfl rfl rfl _ rfl ?_
  repeat' (first
    | rw [hx]
    | refine AR.auto rfl ?_
    | refine AR.man (ok_ns_right (m := m) h rfl rfl rfl) rfl rfl rfl ?_
    | refine AR.man (ok_ns_top (m := m) h rfl rfl rfl) rfl rfl rfl ?_
    | refine AR.man (ok_nr_make (n := x) (d := y) (by omega) (by omega) (by omega) rfl rfl (by rw [← hy]; rfl)) rfl rfl rfl ?_
    | refine AR.nil ?_
    | refine KF.mk ?_
    | refine KT.mk (by kernel_rfl) ?_
    | refine SQ.normal ?_
    | refine AC.seq ?_
    | refine AC.regF ?_
    | refine AC.regT ?_
    | refine AC.condT rfl ?_
    | refine AC.condF rfl ?_
    | refine AC.block ?_
    | refine BQ.normal ?_
    | refine BQ.ret ?_
    | refine BQ.here ?_
    | refine BQ.there rfl ?_
    | refine SQ.ret ?_
    | refine SQ.exit ?_
    | refine AC.ret ?_
    | refine AC.exit ?_
    | refine AC.skip ?_
    | (refine AR.split rfl (fun h => ?_) (fun h => ?_) <;> rw [h])
    | (refine AC.cond rfl (fun h => ?_) (fun h => ?_) <;> rw [h])
    | refine FQ.ret rfl rfl ?_
    | refine FQ.normal rfl rfl ?_)
  rfl
theorem ent141 : Enters Tryz.prog 141 := enters Tryz.func141 (by kernel_rfl) (by kernel_rfl)
theorem ok_ns_of {m : Mk} {x y : Nat} (h : MkOK m) (hx : m.n * m.q - m.s * m.s = x) (hy : m.n = y) {st : St} {o : Oper} {cl : Call} (ho : o.op = .call cl) (hc : cl.callee = .value (.func 141)) (hargs : evs st cl.args.toList = some [.agg #[.int .i64 m.seq, .int .i64 m.t, .int .i64 m.n, .int .i64 m.s, .int .i64 m.q, .int .i64 m.mn, .int .i64 m.mx]]) : AOk Tryz.prog st o ⟨rq st cl.args.toList, []⟩ ⟨.tuple #[.agg #[.int .i64 ((x / Nat.gcd x y : Nat)), .int .i64 ((y / Nat.gcd x y : Nat))], .bool true], [], []⟩ :=
  AOk.call (fun w => ns_of m x y h hx hy w) ent141 ho hc hargs rfl rfl
/-- b is close to a: number and spread -/
def closeB (k : Int) (a b : Mk) : Bool := decide (6 * k * b.n ≥ (6 * k - 1) * a.n) && decide ((6 * k - 1) * ((a.n * a.q - a.s * a.s) * b.n) ≤ 6 * k * ((b.n * b.q - b.s * b.s) * a.n))
set_option maxRecDepth 100000 in
set_option maxHeartbeats 4000000 in
theorem ns_close (a b : Mk) (k : Int) (ha : MkOK a) (hb : MkOK b) (k1 : 1 ≤ k) (k2 : k ≤ 64) (w : World) : Calls Tryz.prog 114 #[.agg #[.int .i64 a.seq, .int .i64 a.t, .int .i64 a.n, .int .i64 a.s, .int .i64 a.q, .int .i64 a.mn, .int .i64 a.mx], .agg #[.int .i64 b.seq, .int .i64 b.t, .int .i64 b.n, .int .i64 b.s, .int .i64 b.q, .int .i64 b.mn, .int .i64 b.mx], .int .i64 k] w (fun e w' => e = .returned (.bool (closeB k a b)) ∧ Below w.heap.size w w') := by
  obtain ⟨b1, b2, b3, b4, b5, b6, b7, b8, b9, b10, b11, b12⟩ := ha.bd
  obtain ⟨c1, c2, c3, c4, c5, c6, c7, c8, c9, c10, c11, c12⟩ := hb.bd
  obtain ⟨ta, hta⟩ : ∃ x : Nat, a.n * a.q - a.s * a.s = x := ⟨(a.n * a.q - a.s * a.s).toNat, by omega⟩
  obtain ⟨tb, htb⟩ : ∃ x : Nat, b.n * b.q - b.s * b.s = x := ⟨(b.n * b.q - b.s * b.s).toNat, by omega⟩
  obtain ⟨na, hna⟩ : ∃ x : Nat, a.n = x := ⟨a.n.toNat, by omega⟩
  obtain ⟨nb, hnb⟩ : ∃ x : Nat, b.n = x := ⟨b.n.toNat, by omega⟩
  obtain ⟨K, hK⟩ : ∃ x : Nat, k = x := ⟨k.toNat, by omega⟩
  have m1 : 6 * k * b.n ≤ 384 * b.n := Int.mul_le_mul_of_nonneg_right (by omega) (by omega)
  have m2 : (6 * k - 1) * a.n ≤ 384 * a.n := Int.mul_le_mul_of_nonneg_right (by omega) (by omega)
  have m3 : 0 ≤ 6 * k * b.n := Int.mul_nonneg (by omega) (by omega)
  have m4 : 0 ≤ (6 * k - 1) * a.n := Int.mul_nonneg (by omega) (by omega)
  have p1 : tb * na ≤ 167772160000 * 100 := Nat.mul_le_mul (by omega) (by omega)
  have p2 : ta * nb ≤ 167772160000 * 100 := Nat.mul_le_mul (by omega) (by omega)
  have p3 : tb * na * (6 * K) ≤ 16777216000000 * 384 := Nat.mul_le_mul (by omega) (by omega)
  have p4 : ta * nb * (6 * K - 1) ≤ 16777216000000 * 384 := Nat.mul_le_mul (by omega) (by omega)
  have d1 : decide (k < 1) = false := by simp only [decide_eq_false_iff_not]; omega
  have d2 : decide (k > 64) = false := by simp only [decide_eq_false_iff_not]; omega
  have w1 : IntKind.i64.wrap (6 * k) = 6 * k := IntWalk.i64_in _ (by omega)
  have w2 : IntKind.i64.wrap (6 * k - 1) = 6 * k - 1 := IntWalk.i64_in _ (by omega)
  have w3 : IntKind.i64.wrap (6 * k * b.n) = 6 * k * b.n := IntWalk.i64_in _ (by omega)
  have w4 : IntKind.i64.wrap ((6 * k - 1) * a.n) = (6 * k - 1) * a.n := IntWalk.i64_in _ (by omega)
  have u1 : IntKind.u64.wrap (b.n * b.q - b.s * b.s) = (tb : Nat) := by rw [htb, wu64]; omega
  have u2 : IntKind.u64.wrap (a.n * a.q - a.s * a.s) = (ta : Nat) := by rw [hta, wu64]; omega
  have u3 : IntKind.u64.wrap a.n = (na : Nat) := by rw [hna, wu64]; omega
  have u4 : IntKind.u64.wrap b.n = (nb : Nat) := by rw [hnb, wu64]; omega
  have u5 : IntKind.u64.wrap (6 * k) = ((6 * K : Nat) : Int) := by rw [hK, wu64]; omega
  have u6 : IntKind.u64.wrap (6 * k - 1) = ((6 * K - 1 : Nat) : Int) := by rw [hK, wu64]; omega
  have v1 : (tb : Int) * (na : Int) = ((tb * na : Nat) : Int) := (Int.natCast_mul _ _).symm
  have v2 : (ta : Int) * (nb : Int) = ((ta * nb : Nat) : Int) := (Int.natCast_mul _ _).symm
  have hcl : closeB k a b = (decide (6 * k * b.n ≥ (6 * k - 1) * a.n) && decide (cmpN (tb * na * (6 * K)) (ta * nb * (6 * K - 1)) ≥ 0)) := by
    rw [cmpN_ge]
    unfold closeB
    rw [hta, htb, hna, hnb, hK]
    congr 1
    refine decide_eq_decide.2 ?_
    rw [v1, v2, show (6 * (K : Int) - 1) = ((6 * K - 1 : Nat) : Int) by omega, show (6 * (K : Int)) = ((6 * K : Nat) : Int) by omega, ← Int.natCast_mul, ← Int.natCast_mul, Int.ofNat_le, Nat.mul_comm (6 * K - 1), Nat.mul_comm (6 * K)]
  rw [hcl]
  have hlss : decide (6 * k * b.n < (6 * k - 1) * a.n) = !decide (6 * k * b.n ≥ (6 * k - 1) * a.n) := by
    rw [← decide_not]; exact decide_eq_decide.2 (by omega)
  refine fun_flat tblOK mixedP Tryz.func114 rfl [.agg #[.int .i64 a.seq, .int .i64 a.t, .int .i64 a.n, .int .i64 a.s, .int .i64 a.q, .int .i64 a.mn, .int .i64 a.mx], .agg #[.int .i64 b.seq, .int .i64 b.t, .int .i64 b.n, .int .i64 b.s, .int .i64 b.q, .int .i64 b.mn, .int .i64 b.mx], .int .i64 k] w 75 [(0, .agg #[.int .i64 a.seq, .int .i64 a.t, .int .i64 a.n, .int .i64 a.s, .int .i64 a.q, .int .i64 a.mn, .int .i64 a.mx]), (1, .agg #[.int .i64 b.seq, .int .i64 b.t, .int .i64 b.n, .int .i64 b.s, .int .i64 b.q, .int .i64 b.mn, .int .i64 b.mx]), (2, .int .i64 k)] rfl rfl (by kernel_rfl) rfl rfl rfl _ rfl ?_
  repeat' (first
    | rw [d1]
    | rw [d2]
    | rw [w1]
    | rw [w2]
    | rw [w3]
    | rw [w4]
    | rw [u1]
    | rw [u2]
    | rw [u3]
    | rw [u4]
    | rw [u5]
    | rw [u6]
    | rw [v1]
    | rw [v2]
    | refine AR.auto rfl ?_
    | refine AR.man (ok_ns_right (m := a) ha rfl rfl rfl) rfl rfl rfl ?_
    | refine AR.man (ok_ns_right (m := b) hb rfl rfl rfl) rfl rfl rfl ?_
    | refine AR.man (ok_ns_top (m := a) ha rfl rfl rfl) rfl rfl rfl ?_
    | refine AR.man (ok_ns_top (m := b) hb rfl rfl rfl) rfl rfl rfl ?_
    | refine AR.man (ok_nw_prod (x := (tb : Int)) (y := (na : Int)) (by omega) (by omega) (by omega) (by omega) (by omega) (by omega) rfl rfl rfl) rfl rfl rfl ?_
    | refine AR.man (ok_nw_prod (x := (ta : Int)) (y := (nb : Int)) (by omega) (by omega) (by omega) (by omega) (by omega) (by omega) rfl rfl rfl) rfl rfl rfl ?_
    | refine AR.man (okw_of rfl rfl rfl) rfl rfl rfl ?_
    | refine AR.man (ok_nw_mulw (a := tb * na) (b := 6 * K) (by omega) (by omega) (by omega) rfl rfl rfl) rfl rfl rfl ?_
    | refine AR.man (ok_nw_mulw (a := ta * nb) (b := 6 * K - 1) (by omega) (by omega) (by omega) rfl rfl rfl) rfl rfl rfl ?_
    | refine AR.man (ok_cmpN _ _ rfl rfl rfl) rfl rfl rfl ?_
    | refine AR.nil ?_
    | refine KF.mk ?_
    | refine KT.mk (by kernel_rfl) ?_
    | refine SQ.normal ?_
    | refine AC.seq ?_
    | refine AC.regF ?_
    | refine AC.regT ?_
    | refine AC.condT rfl ?_
    | refine AC.condF rfl ?_
    | refine AC.block ?_
    | refine BQ.normal ?_
    | refine BQ.ret ?_
    | refine BQ.here ?_
    | refine BQ.there rfl ?_
    | refine SQ.ret ?_
    | refine SQ.exit ?_
    | refine AC.ret ?_
    | refine AC.exit ?_
    | refine AC.skip ?_
    | (refine AR.split rfl (fun h => ?_) (fun h => ?_) <;> rw [h])
    | (refine AC.cond rfl (fun h => ?_) (fun h => ?_) <;> rw [h])
    | refine FQ.ret rfl rfl ?_
    | refine FQ.normal rfl rfl ?_)
  · cases hx : decide (6 * k * b.n ≥ (6 * k - 1) * a.n) with
    | true => rw [hlss, hx] at h; cases h
    | false => rfl
  · cases hx : decide (6 * k * b.n ≥ (6 * k - 1) * a.n) with
    | true => rfl
    | false => rw [hlss, hx] at h; cases h
theorem ent114 : Enters Tryz.prog 114 := enters Tryz.func114 (by kernel_rfl) (by kernel_rfl)
theorem ok_ns_close {a b : Mk} {k : Int} (ha : MkOK a) (hb : MkOK b) (k1 : 1 ≤ k) (k2 : k ≤ 64) {st : St} {o : Oper} {cl : Call} (ho : o.op = .call cl) (hc : cl.callee = .value (.func 114)) (hargs : evs st cl.args.toList = some [.agg #[.int .i64 a.seq, .int .i64 a.t, .int .i64 a.n, .int .i64 a.s, .int .i64 a.q, .int .i64 a.mn, .int .i64 a.mx], .agg #[.int .i64 b.seq, .int .i64 b.t, .int .i64 b.n, .int .i64 b.s, .int .i64 b.q, .int .i64 b.mn, .int .i64 b.mx], .int .i64 k]) : AOk Tryz.prog st o ⟨rq st cl.args.toList, []⟩ ⟨.bool (closeB k a b), [], []⟩ :=
  AOk.call (fun w => ns_close a b k ha hb k1 k2 w) ent114 ho hc hargs rfl rfl
end Go.Proofs.YtbageimconenlaaGreat
