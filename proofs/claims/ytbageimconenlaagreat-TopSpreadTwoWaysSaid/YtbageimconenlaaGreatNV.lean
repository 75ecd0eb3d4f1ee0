/- Exact answers: totals, the spread. -/
import Derived.Test.YtbageimconenlaaGreatNU
namespace Go.Proofs.YtbageimconenlaaGreat
open Go.RowKit En
set_option linter.unusedVariables false
theorem ok_nx_div64z {n : Nat} (h0 : 0 < n) (hn : n < 9223372036854775808) {st : St} {o : Oper} {cl : Call} (ho : o.op = .call cl) (hc : cl.callee = .value (.func 162)) (hargs : evs st cl.args.toList = some [.int .u64 0, .int .u64 0, .int .u64 ((n : Nat))]) : AOk Tryz.prog st o ⟨rq st cl.args.toList, []⟩ ⟨.tuple #[.int .u64 0, .int .u64 0], [], []⟩ := by
  have h := ok_nx_div64 (x := 0) h0 hn (by decide) ho hc hargs
  rw [Nat.zero_div, Nat.zero_mod] at h
  exact h
set_option maxRecDepth 100000 in
theorem nx_minus (a b : Nat) (hb : b ≤ a) (ha : a < 9223372036854775808) (w : World) : Calls Tryz.prog 73 #[.agg #[.int .u64 ((a : Nat)), .int .u64 0, .int .u64 0, .int .u64 0], .agg #[.int .u64 ((b : Nat)), .int .u64 0, .int .u64 0, .int .u64 0]] w (fun e w' => e = .returned (.agg #[.int .u64 ((a - b : Nat)), .int .u64 0, .int .u64 0, .int .u64 0]) ∧ Below w.heap.size w w') := by
  refine fun_flat tblOK mixedP Tryz.func73 rfl [.agg #[.int .u64 ((a : Nat)), .int .u64 0, .int .u64 0, .int .u64 0], .agg #[.int .u64 ((b : Nat)), .int .u64 0, .int .u64 0, .int .u64 0]] w 25 [(0, .agg #[.int .u64 ((a : Nat)), .int .u64 0, .int .u64 0, .int .u64 0]), (1, .agg #[.int .u64 ((b : Nat)), .int .u64 0, .int .u64 0, .int .u64 0])] rfl rfl (by kernel_rfl) rfl rfl rfl _ rfl ?_
  repeat' (first
    | refine AR.auto rfl ?_
    | refine AR.man (AOk.ext (sub161 a b hb (by omega)) rfl rfl rfl rfl rfl) rfl rfl rfl ?_
    | refine AR.man (AOk.ext sub161b rfl rfl rfl rfl rfl) rfl rfl rfl ?_
    | refine AR.nil ?_
    | refine KF.mk ?_
    | refine KT.mk (by kernel_rfl) ?_
    | refine SQ.normal ?_
    | refine AC.seq ?_
    | refine AC.regF ?_
    | refine AC.regT ?_
    | refine AC.condT rfl ?_
    | refine AC.condF rfl ?_
    | refine AC.block ?_
    | refine BQ.normal ?_
    | refine BQ.ret ?_
    | refine BQ.here ?_
    | refine BQ.there rfl ?_
    | refine SQ.ret ?_
    | refine SQ.exit ?_
    | refine AC.ret ?_
    | refine AC.exit ?_
    | refine AC.skip ?_
    | refine AC.rounds 5 ?_
    | refine RN.step ?_
    | (refine AR.split rfl (fun h => ?_) (fun h => ?_) <;> rw [h])
    | (refine AC.cond rfl (fun h => ?_) (fun h => ?_) <;> rw [h])
    | refine FQ.ret rfl rfl ?_
    | refine FQ.normal rfl rfl ?_)
  all_goals rfl
theorem ok_nx_minus {a b : Nat} (hb : b ≤ a) (ha : a < 9223372036854775808) {st : St} {o : Oper} {cl : Call} (ho : o.op = .call cl) (hc : cl.callee = .value (.func 73)) (hargs : evs st cl.args.toList = some [.agg #[.int .u64 ((a : Nat)), .int .u64 0, .int .u64 0, .int .u64 0], .agg #[.int .u64 ((b : Nat)), .int .u64 0, .int .u64 0, .int .u64 0]]) : AOk Tryz.prog st o ⟨rq st cl.args.toList, []⟩ ⟨.agg #[.int .u64 ((a - b : Nat)), .int .u64 0, .int .u64 0, .int .u64 0], [], []⟩ :=
  AOk.call (fun w => nx_minus a b hb ha w) ent73 ho hc hargs rfl rfl
set_option maxRecDepth 100000 in
theorem nx_by (a n : Nat) (h0 : 0 < n) (hn : n < 9223372036854775808) (ha : a < 9223372036854775808) (w : World) : Calls Tryz.prog 74 #[.agg #[.int .u64 ((a : Nat)), .int .u64 0, .int .u64 0, .int .u64 0], .int .u64 ((n : Nat))] w (fun e w' => e = .returned (.tuple #[.agg #[.int .u64 ((a / n : Nat)), .int .u64 0, .int .u64 0, .int .u64 0], .int .u64 ((a % n : Nat))]) ∧ Below w.heap.size w w') := by
  refine fun_flat tblOK mixedP Tryz.func74 rfl [.agg #[.int .u64 ((a : Nat)), .int .u64 0, .int .u64 0, .int .u64 0], .int .u64 ((n : Nat))] w 25 [(0, .agg #[.int .u64 ((a : Nat)), .int .u64 0, .int .u64 0, .int .u64 0]), (1, .int .u64 ((n : Nat)))] rfl rfl (by kernel_rfl) rfl rfl rfl _ rfl ?_
  repeat' (first
    | refine AR.auto rfl ?_
    | refine AR.man (ok_nx_div64z h0 hn rfl rfl rfl) rfl rfl rfl ?_
    | refine AR.man (ok_nx_div64 (x := a) h0 hn ha rfl rfl rfl) rfl rfl rfl ?_
    | refine AR.nil ?_
    | refine KF.mk ?_
    | refine KT.mk (by kernel_rfl) ?_
    | refine SQ.normal ?_
    | refine AC.seq ?_
    | refine AC.regF ?_
    | refine AC.regT ?_
    | refine AC.condT rfl ?_
    | refine AC.condF rfl ?_
    | refine AC.block ?_
    | refine BQ.normal ?_
    | refine BQ.ret ?_
    | refine BQ.here ?_
    | refine BQ.there rfl ?_
    | refine SQ.ret ?_
    | refine SQ.exit ?_
    | refine AC.ret ?_
    | refine AC.exit ?_
    | refine AC.skip ?_
    | refine AC.rounds 5 ?_
    | refine RN.step ?_
    | (refine AR.split rfl (fun h => ?_) (fun h => ?_) <;> rw [h])
    | (refine AC.cond rfl (fun h => ?_) (fun h => ?_) <;> rw [h])
    | refine FQ.ret rfl rfl ?_
    | refine FQ.normal rfl rfl ?_)
  all_goals rfl
theorem ok_nx_by {a n : Nat} (h0 : 0 < n) (hn : n < 9223372036854775808) (ha : a < 9223372036854775808) {st : St} {o : Oper} {cl : Call} (ho : o.op = .call cl) (hc : cl.callee = .value (.func 74)) (hargs : evs st cl.args.toList = some [.agg #[.int .u64 ((a : Nat)), .int .u64 0, .int .u64 0, .int .u64 0], .int .u64 ((n : Nat))]) : AOk Tryz.prog st o ⟨rq st cl.args.toList, []⟩ ⟨.tuple #[.agg #[.int .u64 ((a / n : Nat)), .int .u64 0, .int .u64 0, .int .u64 0], .int .u64 ((a % n : Nat))], [], []⟩ :=
  AOk.call (fun w => nx_by a n h0 hn ha w) ent74 ho hc hargs rfl rfl
set_option maxRecDepth 100000 in
theorem nx_sub (a b : Nat) (hb : b ≤ a) (ha : a < 9223372036854775808) (w : World) : Calls Tryz.prog 160 #[.agg #[.int .u64 0, .int .u64 ((a : Nat))], .agg #[.int .u64 0, .int .u64 ((b : Nat))]] w (fun e w' => e = .returned (.tuple #[.agg #[.int .u64 0, .int .u64 ((a - b : Nat))], .bool true]) ∧ Below w.heap.size w w') := by
  refine fun_flat tblOK mixedP Tryz.func160 rfl [.agg #[.int .u64 0, .int .u64 ((a : Nat))], .agg #[.int .u64 0, .int .u64 ((b : Nat))]] w 33 [(0, .agg #[.int .u64 0, .int .u64 ((a : Nat))]), (1, .agg #[.int .u64 0, .int .u64 ((b : Nat))])] rfl rfl (by kernel_rfl) rfl rfl rfl _ rfl ?_
  repeat' (first
    | refine AR.auto rfl ?_
    | refine AR.man (AOk.ext (sub161 a b hb (by omega)) rfl rfl rfl rfl rfl) rfl rfl rfl ?_
    | refine AR.man (AOk.ext sub161b rfl rfl rfl rfl rfl) rfl rfl rfl ?_
    | refine AR.nil ?_
    | refine KF.mk ?_
    | refine KT.mk (by kernel_rfl) ?_
    | refine SQ.normal ?_
    | refine AC.seq ?_
    | refine AC.regF ?_
    | refine AC.regT ?_
    | refine AC.condT rfl ?_
    | refine AC.condF rfl ?_
    | refine AC.block ?_
    | refine BQ.normal ?_
    | refine BQ.ret ?_
    | refine BQ.here ?_
    | refine BQ.there rfl ?_
    | refine SQ.ret ?_
    | refine SQ.exit ?_
    | refine AC.ret ?_
    | refine AC.exit ?_
    | refine AC.skip ?_
    | (refine AR.split rfl (fun h => ?_) (fun h => ?_) <;> rw [h])
    | (refine AC.cond rfl (fun h => ?_) (fun h => ?_) <;> rw [h])
    | refine FQ.ret rfl rfl ?_
    | refine FQ.normal rfl rfl ?_)
  all_goals rfl
theorem ok_nx_sub {a b : Nat} (hb : b ≤ a) (ha : a < 9223372036854775808) {st : St} {o : Oper} {cl : Call} (ho : o.op = .call cl) (hc : cl.callee = .value (.func 160)) (hargs : evs st cl.args.toList = some [.agg #[.int .u64 0, .int .u64 ((a : Nat))], .agg #[.int .u64 0, .int .u64 ((b : Nat))]]) : AOk Tryz.prog st o ⟨rq st cl.args.toList, []⟩ ⟨.tuple #[.agg #[.int .u64 0, .int .u64 ((a - b : Nat))], .bool true], [], []⟩ :=
  AOk.call (fun w => nx_sub a b hb ha w) ent160 ho hc hargs rfl rfl
set_option maxRecDepth 100000 in
theorem nx_gcd (A B : Nat) (hA : A < 9223372036854775808) (hB : B < 9223372036854775808) (w : World) : Calls Tryz.prog 75 #[.int .i64 ((A : Nat)), .int .i64 ((B : Nat))] w (fun e w' => e = .returned (.int .i64 ((Nat.gcd A B : Nat))) ∧ Below w.heap.size w w') := by
  have d1 : decide ((A : Int) < 0) = false := by simp only [decide_eq_false_iff_not]; omega
  have d2 : decide ((B : Int) < 0) = false := by simp only [decide_eq_false_iff_not]; omega
  refine fun_flat tblOK mixedP Tryz.func75 rfl [.int .i64 ((A : Nat)), .int .i64 ((B : Nat))] w 18 [(0, .int .i64 ((A : Nat))), (1, .int .i64 ((B : Nat)))] rfl rfl (by kernel_rfl) rfl rfl rfl _ rfl ?_
  repeat' (first
    | rw [d1]
    | rw [d2]
    | refine AR.auto rfl ?_
    | refine AR.nil ?_
    | refine KF.mk ?_
    | refine KT.mk (by kernel_rfl) ?_
    | refine SQ.normal ?_
    | refine AC.seq ?_
    | refine AC.regF ?_
    | refine AC.regT ?_
    | refine AC.condT rfl ?_
    | refine AC.condF rfl ?_
    | refine AC.block ?_
    | refine BQ.normal ?_
    | refine BQ.ret ?_
    | refine BQ.here ?_
    | refine BQ.there rfl ?_
    | refine SQ.ret ?_
    | refine SQ.exit ?_
    | refine AC.ret ?_
    | refine AC.exit ?_
    | refine AC.skip ?_
    | (refine AR.split rfl (fun h => ?_) (fun h => ?_) <;> rw [h])
    | (refine AC.cond rfl (fun h => ?_) (fun h => ?_) <;> rw [h])
    | refine FQ.ret rfl rfl ?_
    | refine FQ.normal rfl rfl ?_)
  refine AC.loop (fun m s => ∃ x y : Nat, m = y ∧ x < 9223372036854775808 ∧ y < 9223372036854775808 ∧ Nat.gcd x y = Nat.gcd A B ∧ s = ⟨[(1, .int .i64 ((y : Nat))), (0, .int .i64 ((x : Nat)))], [], [], 18⟩) B _ ?_ ⟨A, B, rfl, hA, hB, rfl, rfl⟩ ?_
  · exact Ren.mv (tabF []) rfl (fun k hk => absurd hk (Nat.not_lt_zero _)) ⟨⟨rfl, rfl⟩, ⟨rfl, rfl⟩, trivial⟩ trivial rfl
  intro m s hi
  obtain ⟨x, y, rfl, hx, hy, hg, rfl⟩ := hi
  by_cases h0 : m = 0
  · subst h0
    have hz : (((0 : Nat) : Int) != 0) = false := rfl
    repeat' (first
      | rw [hz]
      | refine AR.auto rfl ?_
      | refine AR.nil ?_
      | refine KF.mk ?_
      | refine KT.mk (by kernel_rfl) ?_
      | refine SQ.normal ?_
      | refine AC.seq ?_
      | refine AC.regF ?_
      | refine AC.regT ?_
      | refine AC.condT rfl ?_
      | refine AC.condF rfl ?_
      | refine AC.block ?_
      | refine BQ.normal ?_
      | refine BQ.ret ?_
      | refine BQ.here ?_
      | refine BQ.there rfl ?_
      | refine SQ.ret ?_
      | refine SQ.exit ?_
      | refine AC.ret ?_
      | refine AC.exit ?_
      | refine AC.skip ?_
      | (refine AR.split rfl (fun h => ?_) (fun h => ?_) <;> rw [h])
      | (refine AC.cond rfl (fun h => ?_) (fun h => ?_) <;> rw [h])
      | refine FQ.ret rfl rfl ?_
      | refine FQ.normal rfl rfl ?_)
    rw [← hg, Nat.gcd_zero_right]; rfl
  · have hz : ((m : Int) != 0) = true := by rw [bne_iff_ne]; omega
    repeat' (first
      | rw [hz]
      | refine AR.auto rfl ?_
      | refine AR.man (ok_rem (a := (x : Int)) (b := (m : Int)) (r := ((x % m : Nat) : Int)) (by omega) rfl rfl rfl rfl) rfl rfl rfl ?_
      | refine AR.nil ?_
      | refine KF.mk ?_
      | refine KT.mk (by kernel_rfl) ?_
      | refine SQ.normal ?_
      | refine AC.seq ?_
      | refine AC.regF ?_
      | refine AC.regT ?_
      | refine AC.condT rfl ?_
      | refine AC.condF rfl ?_
      | refine AC.block ?_
      | refine BQ.normal ?_
      | refine BQ.ret ?_
      | refine BQ.here ?_
      | refine BQ.there rfl ?_
      | refine SQ.ret ?_
      | refine SQ.exit ?_
      | refine AC.ret ?_
      | refine AC.exit ?_
      | refine AC.skip ?_
      | (refine AR.split rfl (fun h => ?_) (fun h => ?_) <;> rw [h])
      | (refine AC.cond rfl (fun h => ?_) (fun h => ?_) <;> rw [h])
      | refine FQ.ret rfl rfl ?_
      | refine FQ.normal rfl rfl ?_)
    refine ⟨x % m, _, Nat.mod_lt _ (by omega), ?_, m, x % m, rfl, hy, by have := Nat.mod_lt x (show 0 < m by omega); omega, by rw [← hg, Nat.gcd_comm, ← Nat.gcd_rec, Nat.gcd_comm], rfl⟩
    exact Ren.mv (tabF []) rfl (fun k hk => absurd hk (Nat.not_lt_zero _)) ⟨⟨rfl, rfl⟩, ⟨rfl, rfl⟩, trivial⟩ trivial rfl
theorem ok_nx_gcd {A B : Nat} (hA : A < 9223372036854775808) (hB : B < 9223372036854775808) {st : St} {o : Oper} {cl : Call} (ho : o.op = .call cl) (hc : cl.callee = .value (.func 75)) (hargs : evs st cl.args.toList = some [.int .i64 ((A : Nat)), .int .i64 ((B : Nat))]) : AOk Tryz.prog st o ⟨rq st cl.args.toList, []⟩ ⟨.int .i64 ((Nat.gcd A B : Nat)), [], []⟩ :=
  AOk.call (fun w => nx_gcd A B hA hB w) ent75 ho hc hargs rfl rfl
def upS : List It → Nat
  | [] => 0
  | x :: l => (if x.v < 0 then 0 else x.v.natAbs) + upS l
def dnS : List It → Nat
  | [] => 0
  | x :: l => (if x.v < 0 then x.v.natAbs else 0) + dnS l
def sqS : List It → Nat
  | [] => 0
  | x :: l => x.v.natAbs * x.v.natAbs + sqS l
theorem upS_app : ∀ a b : List It, upS (a ++ b) = upS a + upS b
  | [], b => by simp [upS]
  | x :: a, b => by rw [List.cons_append, upS, upS, upS_app a b]; omega
theorem dnS_app : ∀ a b : List It, dnS (a ++ b) = dnS a + dnS b
  | [], b => by simp [dnS]
  | x :: a, b => by rw [List.cons_append, dnS, dnS, dnS_app a b]; omega
theorem sqS_app : ∀ a b : List It, sqS (a ++ b) = sqS a + sqS b
  | [], b => by simp [sqS]
  | x :: a, b => by rw [List.cons_append, sqS, sqS, sqS_app a b]; omega
theorem updn : ∀ l : List It, (upS l : Int) - dnS l = sumI (vals l)
  | [] => rfl
  | x :: l => by
    have := updn l
    show ((upS (x :: l) : Nat) : Int) - ((dnS (x :: l) : Nat) : Int) = x.v + sumI (vals l)
    rw [upS, dnS]
    split <;> omega
theorem sqS_eq : ∀ l : List It, (sqS l : Int) = sqI (vals l)
  | [] => rfl
  | x :: l => by
    have := sqS_eq l
    have h : ((x.v.natAbs * x.v.natAbs : Nat) : Int) = x.v * x.v := by rw [Int.natCast_mul]; exact Int.natAbs_mul_self' x.v
    show ((sqS (x :: l) : Nat) : Int) = x.v * x.v + sqI (vals l)
    rw [sqS]
    omega
theorem S_bd : ∀ l : List It, (∀ x ∈ l, -4096 ≤ x.v ∧ x.v ≤ 4096) → upS l ≤ 4096 * l.length ∧ dnS l ≤ 4096 * l.length ∧ sqS l ≤ 16777216 * l.length
  | [], _ => ⟨Nat.le_refl _, Nat.le_refl _, Nat.le_refl _⟩
  | x :: l, h => by
    have ih := S_bd l fun y hy => h y (List.mem_cons_of_mem _ hy)
    have hx := h x List.mem_cons_self
    have hs : x.v.natAbs * x.v.natAbs ≤ 4096 * 4096 := Nat.mul_le_mul (by omega) (by omega)
    rw [upS, dnS, sqS, List.length_cons]
    refine ⟨?_, ?_, by omega⟩
    · split <;> omega
    · split <;> omega
theorem S_take {l : List It} {i : Nat} {x : It} (h : l[i]? = some x) : upS (l.take (i + 1)) = upS (l.take i) + (if x.v < 0 then 0 else x.v.natAbs) ∧ dnS (l.take (i + 1)) = dnS (l.take i) + (if x.v < 0 then x.v.natAbs else 0) ∧ sqS (l.take (i + 1)) = sqS (l.take i) + x.v.natAbs * x.v.natAbs := by
  rw [List.take_add_one, h, upS_app, dnS_app, sqS_app]
  simp [upS, dnS, sqS]
set_option maxRecDepth 100000 in
set_option maxHeartbeats 1000000 in
theorem nx_total (l : List It) (n : Nat) (b : Bool) (m : Nat) (hl : l.length = n) (hn : n ≤ 100) (hv : ∀ x ∈ l, -4096 ≤ x.v ∧ x.v ≤ 4096) (hm : if dnS l ≤ upS l then b = false ∧ m = upS l - dnS l else b = true ∧ m = dnS l - upS l) (w : World) (A : Option Addr) (c : Nat) (h : SL w A n c 2 (itL l)) :
    Calls Tryz.prog 72 #[.slice A n c] w (fun e w' => e = .returned (.tuple #[.bool b, .agg #[.int .u64 0, .int .u64 ((m : Nat))]]) ∧ Below w.heap.size w w') := by
  have hB : ∀ i, i ≤ n → upS (l.take i) ≤ 409600 ∧ dnS (l.take i) ≤ 409600 := fun i hi => by
    have := S_bd (l.take i) fun x hx => hv x (List.mem_of_mem_take hx)
    rw [List.length_take] at this; omega
  refine fun_sliceF tblOK mixedP Tryz.func72 rfl (fun s => [s]) n 2 (itL l) h (by decide) (allFC_it l) [.slice (some ⟨0, 0, none⟩) n 0] rfl (fun _ => rfl) 58 [(0, .slice (some ⟨0, 0, none⟩) n 0)] rfl rfl (by kernel_rfl) rfl rfl _ rfl ?_
  repeat' (first
    | refine AR.auto rfl ?_
    | refine AR.nil ?_
    | refine KF.mk ?_
    | refine KT.mk (by kernel_rfl) ?_
    | refine SQ.normal ?_
    | refine AC.seq ?_
    | refine AC.regF ?_
    | refine AC.regT ?_
    | refine AC.condT rfl ?_
    | refine AC.condF rfl ?_
    | refine AC.block ?_
    | refine BQ.normal ?_
    | refine BQ.ret ?_
    | refine BQ.here ?_
    | refine BQ.there rfl ?_
    | refine SQ.ret ?_
    | refine SQ.exit ?_
    | refine AC.ret ?_
    | refine AC.exit ?_
    | refine AC.skip ?_
    | (refine AR.split rfl (fun h => ?_) (fun h => ?_) <;> rw [h])
    | (refine AC.cond rfl (fun h => ?_) (fun h => ?_) <;> rw [h])
    | refine FQ.ret rfl rfl ?_
    | refine FQ.normal rfl rfl ?_)
  refine AC.loop (fun m st => ∃ i : Nat, m = n - i ∧ i ≤ n ∧ st = ⟨[(14, .int .i64 (i : Nat)), (13, .int .i64 (n : Nat)), (12, .slice (some ⟨0, 0, none⟩) n 0), (5, .pointer (some ⟨3, 0, none⟩)), (4, .pointer (some ⟨2, 0, none⟩)), (2, .bool false), (3, .pointer (some ⟨1, 0, none⟩)), (0, .slice (some ⟨0, 0, none⟩) n 0)], [(3, .row 73 [.int .u64 0, .int .u64 ((dnS (l.take i) : Nat))]), (2, .row 73 [.int .u64 0, .int .u64 ((upS (l.take i) : Nat))]), (1, .row 73 [.int .u64 0, .int .u64 0]), (0, .view 2 (itL l))], [3, 2, 1, 0], 58⟩) n _ ?_ ⟨0, rfl, Nat.zero_le _, rfl⟩ ?_
  · exact Ren.mv (tabF []) rfl (fun k hk => by match k, hk with | 0, _ => exact ⟨rfl, rfl⟩) ⟨⟨rfl, rfl⟩, ⟨rfl, rfl⟩, ⟨rfl, rfl⟩, ⟨rfl, rfl⟩, ⟨rfl, rfl⟩, ⟨rfl, rfl⟩, ⟨rfl, rfl⟩, ⟨rfl, rfl⟩, trivial⟩ ⟨⟨rfl, rfl, rfl⟩, ⟨rfl, rfl, rfl⟩, ⟨rfl, rfl, rfl⟩, ⟨by rw [mv_itv]; rfl, rfl, allNC_it _ _⟩, trivial⟩ rfl
  intro m st hi
  obtain ⟨i, rfl, hin, rfl⟩ := hi
  have hBi := hB i hin
  by_cases hlt : i < n
  · have hd : decide ((i : Int) < (n : Int)) = true := by simp only [decide_eq_true_eq]; omega
    obtain ⟨x, hx⟩ : ∃ x, l[i]? = some x := ⟨l[i]'(by omega), List.getElem?_eq_getElem (by omega)⟩
    have hxv := hv x (List.mem_of_getElem? hx)
    have w4 : IntKind.i64.wrap ((i : Int) + 1) = ((i + 1 : Nat) : Int) := by rw [IntWalk.i64_in _ (by omega)]; rfl
    obtain ⟨t1, t2, t3⟩ := S_take hx
    by_cases hneg : x.v < 0
    · have hd2 : decide (x.v < 0) = true := by simp only [decide_eq_true_eq]; exact hneg
      rw [if_pos hneg] at t1 t2
      repeat' (first
        | rw [hd]
        | rw [hd2]
        | rw [w4]
        | refine AR.auto rfl ?_
        | refine AR.man (oki_idx (A0 := 0) (i := i) rfl rfl rfl rfl (nonE_itv 2 (by omega)) hlt) rfl rfl rfl ?_
        | refine AR.man (oki_ld (m := x) rfl rfl rfl (fun jj u hu => by rw [show 0 + i * 2 + jj = i * 2 + jj from (by omega), show (Box.view 2 (itL l)).cells = itL l from rfl, itL_at l i jj x hx (by have := (List.getElem?_eq_some_iff.1 hu).1; simpa [itC] using this)]; exact hu)) rfl rfl rfl ?_
        | refine AR.man (ok_nx_abs (a := x.v) (by omega) rfl rfl rfl) rfl rfl rfl ?_
        | refine AR.man (okw_of rfl rfl rfl) rfl rfl rfl ?_
        | refine AR.man (ok_nw_add (a := dnS (l.take i)) (b := x.v.natAbs) (by omega) rfl rfl rfl) rfl rfl rfl ?_
        | refine AR.nil ?_
        | refine KF.mk ?_
        | refine KT.mk (by kernel_rfl) ?_
        | refine SQ.normal ?_
        | refine AC.seq ?_
        | refine AC.regF ?_
        | refine AC.regT ?_
        | refine AC.condT rfl ?_
        | refine AC.condF rfl ?_
        | refine AC.block ?_
        | refine BQ.normal ?_
        | refine BQ.ret ?_
        | refine BQ.here ?_
        | refine BQ.there rfl ?_
        | refine SQ.ret ?_
        | refine SQ.exit ?_
        | refine AC.ret ?_
        | refine AC.exit ?_
        | refine AC.skip ?_
        | (refine AR.split rfl (fun h => ?_) (fun h => ?_) <;> rw [h])
        | (refine AC.cond rfl (fun h => ?_) (fun h => ?_) <;> rw [h])
        | refine FQ.ret rfl rfl ?_
        | refine FQ.normal rfl rfl ?_)
      refine ⟨n - (i + 1), _, by omega, ?_, i + 1, rfl, by omega, rfl⟩
      rw [t1, t2]
      exact Ren.mv (tabF []) rfl (fun k hk => by match k, hk with | 0, _ => exact ⟨rfl, rfl⟩) ⟨⟨rfl, rfl⟩, ⟨rfl, rfl⟩, ⟨rfl, rfl⟩, ⟨rfl, rfl⟩, ⟨rfl, rfl⟩, ⟨rfl, rfl⟩, ⟨rfl, rfl⟩, ⟨rfl, rfl⟩, trivial⟩ ⟨⟨rfl, rfl, rfl⟩, ⟨rfl, rfl, rfl⟩, ⟨rfl, rfl, rfl⟩, ⟨by rw [mv_itv]; rfl, rfl, allNC_it _ _⟩, trivial⟩ rfl
    · have hd2 : decide (x.v < 0) = false := by simp only [decide_eq_false_iff_not]; exact hneg
      rw [if_neg hneg] at t1 t2
      repeat' (first
        | rw [hd]
        | rw [hd2]
        | rw [w4]
        | refine AR.auto rfl ?_
        | refine AR.man (oki_idx (A0 := 0) (i := i) rfl rfl rfl rfl (nonE_itv 2 (by omega)) hlt) rfl rfl rfl ?_
        | refine AR.man (oki_ld (m := x) rfl rfl rfl (fun jj u hu => by rw [show 0 + i * 2 + jj = i * 2 + jj from (by omega), show (Box.view 2 (itL l)).cells = itL l from rfl, itL_at l i jj x hx (by have := (List.getElem?_eq_some_iff.1 hu).1; simpa [itC] using this)]; exact hu)) rfl rfl rfl ?_
        | refine AR.man (ok_nx_abs (a := x.v) (by omega) rfl rfl rfl) rfl rfl rfl ?_
        | refine AR.man (okw_of rfl rfl rfl) rfl rfl rfl ?_
        | refine AR.man (ok_nw_add (a := upS (l.take i)) (b := x.v.natAbs) (by omega) rfl rfl rfl) rfl rfl rfl ?_
        | refine AR.nil ?_
        | refine KF.mk ?_
        | refine KT.mk (by kernel_rfl) ?_
        | refine SQ.normal ?_
        | refine AC.seq ?_
        | refine AC.regF ?_
        | refine AC.regT ?_
        | refine AC.condT rfl ?_
        | refine AC.condF rfl ?_
        | refine AC.block ?_
        | refine BQ.normal ?_
        | refine BQ.ret ?_
        | refine BQ.here ?_
        | refine BQ.there rfl ?_
        | refine SQ.ret ?_
        | refine SQ.exit ?_
        | refine AC.ret ?_
        | refine AC.exit ?_
        | refine AC.skip ?_
        | (refine AR.split rfl (fun h => ?_) (fun h => ?_) <;> rw [h])
        | (refine AC.cond rfl (fun h => ?_) (fun h => ?_) <;> rw [h])
        | refine FQ.ret rfl rfl ?_
        | refine FQ.normal rfl rfl ?_)
      refine ⟨n - (i + 1), _, by omega, ?_, i + 1, rfl, by omega, rfl⟩
      rw [t1, t2]
      exact Ren.mv (tabF []) rfl (fun k hk => by match k, hk with | 0, _ => exact ⟨rfl, rfl⟩) ⟨⟨rfl, rfl⟩, ⟨rfl, rfl⟩, ⟨rfl, rfl⟩, ⟨rfl, rfl⟩, ⟨rfl, rfl⟩, ⟨rfl, rfl⟩, ⟨rfl, rfl⟩, ⟨rfl, rfl⟩, trivial⟩ ⟨⟨rfl, rfl, rfl⟩, ⟨rfl, rfl, rfl⟩, ⟨rfl, rfl, rfl⟩, ⟨by rw [mv_itv]; rfl, rfl, allNC_it _ _⟩, trivial⟩ rfl
  · obtain rfl : i = n := by omega
    have hd : decide ((i : Int) < (i : Int)) = false := by simp
    rw [List.take_of_length_le (by omega)] at hBi
    rw [List.take_of_length_le (by omega)]
    have hg := @cmpN_ge (upS l) (dnS l)
    by_cases hle : dnS l ≤ upS l
    · rw [if_pos hle] at hm
      obtain ⟨rfl, rfl⟩ := hm
      rw [decide_eq_true hle] at hg
      repeat' (first
        | rw [hd]
        | rw [hg]
        | refine AR.auto rfl ?_
        | refine AR.man (ok_cmpN _ _ rfl rfl rfl) rfl rfl rfl ?_
        | refine AR.man (ok_nx_sub (a := upS l) (b := dnS l) hle (by omega) rfl rfl rfl) rfl rfl rfl ?_
        | refine AR.nil ?_
        | refine KF.mk ?_
        | refine KT.mk (by kernel_rfl) ?_
        | refine SQ.normal ?_
        | refine AC.seq ?_
        | refine AC.regF ?_
        | refine AC.regT ?_
        | refine AC.condT rfl ?_
        | refine AC.condF rfl ?_
        | refine AC.block ?_
        | refine BQ.normal ?_
        | refine BQ.ret ?_
        | refine BQ.here ?_
        | refine BQ.there rfl ?_
        | refine SQ.ret ?_
        | refine SQ.exit ?_
        | refine AC.ret ?_
        | refine AC.exit ?_
        | refine AC.skip ?_
        | (refine AR.split rfl (fun h => ?_) (fun h => ?_) <;> rw [h])
        | (refine AC.cond rfl (fun h => ?_) (fun h => ?_) <;> rw [h])
        | refine FQ.ret rfl rfl ?_
        | refine FQ.normal rfl rfl ?_)
      rfl
    · rw [if_neg hle] at hm
      obtain ⟨rfl, rfl⟩ := hm
      rw [decide_eq_false hle] at hg
      repeat' (first
        | rw [hd]
        | rw [hg]
        | refine AR.auto rfl ?_
        | refine AR.man (ok_cmpN _ _ rfl rfl rfl) rfl rfl rfl ?_
        | refine AR.man (ok_nx_sub (a := dnS l) (b := upS l) (by omega) (by omega) rfl rfl rfl) rfl rfl rfl ?_
        | refine AR.nil ?_
        | refine KF.mk ?_
        | refine KT.mk (by kernel_rfl) ?_
        | refine SQ.normal ?_
        | refine AC.seq ?_
        | refine AC.regF ?_
        | refine AC.regT ?_
        | refine AC.condT rfl ?_
        | refine AC.condF rfl ?_
        | refine AC.block ?_
        | refine BQ.normal ?_
        | refine BQ.ret ?_
        | refine BQ.here ?_
        | refine BQ.there rfl ?_
        | refine SQ.ret ?_
        | refine SQ.exit ?_
        | refine AC.ret ?_
        | refine AC.exit ?_
        | refine AC.skip ?_
        | (refine AR.split rfl (fun h => ?_) (fun h => ?_) <;> rw [h])
        | (refine AC.cond rfl (fun h => ?_) (fun h => ?_) <;> rw [h])
        | refine FQ.ret rfl rfl ?_
        | refine FQ.normal rfl rfl ?_)
      rfl
theorem u64n {z : Nat} (h : z < 9223372036854775808) : IntKind.u64.wrap (z : Int) = (z : Int) := by rw [wu64]; omega
theorem i64n {z : Nat} (h : z < 9223372036854775808) : IntKind.i64.wrap (z : Int) = (z : Int) := IntWalk.i64_in _ (by omega)
theorem tot_ex (l : List It) : ∃ (b : Bool) (m : Nat), (if dnS l ≤ upS l then b = false ∧ m = upS l - dnS l else b = true ∧ m = dnS l - upS l) ∧ ((m * m : Nat) : Int) = sumI (vals l) * sumI (vals l) ∧ (m = upS l - dnS l ∨ m = dnS l - upS l) := by
  have h := updn l
  by_cases hle : dnS l ≤ upS l
  · refine ⟨false, upS l - dnS l, by rw [if_pos hle]; exact ⟨rfl, rfl⟩, ?_, .inl rfl⟩
    rw [← h, Int.natCast_mul, Int.ofNat_sub hle]
  · refine ⟨true, dnS l - upS l, by rw [if_neg hle]; exact ⟨rfl, rfl⟩, ?_, .inr rfl⟩
    rw [← h, Int.natCast_mul, Int.ofNat_sub (by omega : upS l ≤ dnS l)]
    grind
set_option maxRecDepth 100000 in
set_option maxHeartbeats 2000000 in
theorem nx_spread (l : List It) (n D : Nat) (hl : l.length = n) (hn : n ≤ 100) (hv : ∀ x ∈ l, -4096 ≤ x.v ∧ x.v ≤ 4096) (h0 : 0 < n) (hD : topI (vals l) = D) (w : World) (A : Option Addr) (c : Nat) (h : SL w A n c 2 (itL l)) :
    Calls Tryz.prog 19 #[.slice A n c] w (fun e w' => e = .returned (.tuple #[.agg #[.int .i64 ((D / Nat.gcd D n : Nat)), .int .i64 ((n / Nat.gcd D n : Nat))], .bool true]) ∧ Below w.heap.size w w') := by
  obtain ⟨b, m, hm, hmm, hmo⟩ := tot_ex l
  have hS := S_bd l hv
  have hm1 : m ≤ 409600 := by omega
  have hm2 : m * m ≤ 409600 * 409600 := Nat.mul_le_mul hm1 hm1
  have hs1 : sqS l * n ≤ 1677721600 * 100 := Nat.mul_le_mul (by omega) hn
  have hD' : D + m * m = sqS l * n := by
    have e : ((sqS l * n : Nat) : Int) = (n : Int) * sqI (vals l) := by rw [Int.natCast_mul, sqS_eq, Int.mul_comm]
    unfold topI at hD
    rw [vals_len, hl] at hD
    omega
  have hD0 : 0 + sqS l * n - (0 + m * m) = D := by omega
  have hgp : 0 < Nat.gcd D n := Nat.gcd_pos_of_pos_right _ h0
  have hgl : Nat.gcd D n ≤ n := Nat.gcd_le_right _ h0
  have hgg : Nat.gcd n (D % n) = Nat.gcd D n := by rw [Nat.gcd_comm D n, Nat.gcd_rec n D, Nat.gcd_comm]
  have hml : D % n < n := Nat.mod_lt _ h0
  have hdl : D / Nat.gcd D n ≤ D := Nat.div_le_self _ _
  have hnl : n / Nat.gcd D n ≤ n := Nat.div_le_self _ _
  have z1 : ((n : Int) == 0) = false := by rw [beq_eq_false_iff_ne]; omega
  have z2 : IntKind.u64.wrap ((BitVec.ofInt IntKind.u64.bits 0 ||| BitVec.ofInt IntKind.u64.bits 0).toNat : Int) = 0 := rfl
  have z3 : decide (((D / Nat.gcd D n : Nat) : Int) ≥ 9223372036854775808) = false := by
    simp only [decide_eq_false_iff_not]; revert hdl; generalize D / Nat.gcd D n = z; intro hdl; omega
  have u1 : IntKind.u64.wrap (n : Int) = (n : Int) := u64n (by omega)
  have u2 : IntKind.i64.wrap (n : Int) = (n : Int) := i64n (by omega)
  have u3 : IntKind.i64.wrap ((D % n : Nat) : Int) = ((D % n : Nat) : Int) := i64n (by omega)
  have u4 : IntKind.u64.wrap ((Nat.gcd D n : Nat) : Int) = ((Nat.gcd D n : Nat) : Int) := u64n (by omega)
  have u5 : IntKind.i64.wrap ((D / Nat.gcd D n : Nat) : Int) = ((D / Nat.gcd D n : Nat) : Int) := i64n (by omega)
  have u6 : IntKind.i64.wrap ((n / Nat.gcd D n : Nat) : Int) = ((n / Nat.gcd D n : Nat) : Int) := i64n (by omega)
  have hquo : IntKind.u64.wrap ((n : Int).tdiv ((Nat.gcd D n : Nat) : Int)) = ((n / Nat.gcd D n : Nat) : Int) := by
    rw [show (n : Int).tdiv ((Nat.gcd D n : Nat) : Int) = ((n / Nat.gcd D n : Nat) : Int) from rfl]; exact u64n (by omega)
  refine fun_sliceF tblOK mixedP Tryz.func19 rfl (fun s => [s]) n 2 (itL l) h (by decide) (allFC_it l) [.slice (some ⟨0, 0, none⟩) n 0] rfl (fun _ => rfl) 116 [(0, .slice (some ⟨0, 0, none⟩) n 0)] rfl rfl (by kernel_rfl) rfl rfl _ rfl ?_
  repeat' (first
    | rw [u1]
    | rw [z1]
    | refine AR.auto rfl ?_
    | refine AR.nil ?_
    | refine KF.mk ?_
    | refine KT.mk (by kernel_rfl) ?_
    | refine SQ.normal ?_
    | refine AC.seq ?_
    | refine AC.regF ?_
    | refine AC.regT ?_
    | refine AC.condT rfl ?_
    | refine AC.condF rfl ?_
    | refine AC.block ?_
    | refine BQ.normal ?_
    | refine BQ.ret ?_
    | refine BQ.here ?_
    | refine BQ.there rfl ?_
    | refine SQ.ret ?_
    | refine SQ.exit ?_
    | refine AC.ret ?_
    | refine AC.exit ?_
    | refine AC.skip ?_
    | (refine AR.split rfl (fun h => ?_) (fun h => ?_) <;> rw [h])
    | (refine AC.cond rfl (fun h => ?_) (fun h => ?_) <;> rw [h])
    | refine FQ.ret rfl rfl ?_
    | refine FQ.normal rfl rfl ?_)
  refine AC.loop (fun m st => ∃ i : Nat, m = n - i ∧ i ≤ n ∧ st = ⟨[(25, .int .i64 (i : Nat)), (24, .int .i64 (n : Nat)), (23, .slice (some ⟨0, 0, none⟩) n 0), (7, .pointer (some ⟨4, 0, none⟩)), (6, .pointer (some ⟨3, 0, none⟩)), (5, .pointer (some ⟨2, 0, none⟩)), (4, .int .u64 (n : Nat)), (3, .bool false), (2, .pointer (some ⟨1, 0, none⟩)), (0, .slice (some ⟨0, 0, none⟩) n 0)], [(2, .row 160 [.int .u64 ((sqS (l.take i) : Nat)), .int .u64 0, .int .u64 0, .int .u64 0]), (4, .row 160 [.int .u64 0, .int .u64 0, .int .u64 0, .int .u64 0]), (3, .row 160 [.int .u64 0, .int .u64 0, .int .u64 0, .int .u64 0]), (1, .row 68 [.int .i64 0, .int .i64 0]), (0, .view 2 (itL l))], [4, 3, 2, 1, 0], 116⟩) n _ ?_ ⟨0, rfl, Nat.zero_le _, rfl⟩ ?_
  · exact Ren.mv (tabF []) rfl (fun k hk => by match k, hk with | 0, _ => exact ⟨rfl, rfl⟩) ⟨⟨rfl, rfl⟩, ⟨rfl, rfl⟩, ⟨rfl, rfl⟩, ⟨rfl, rfl⟩, ⟨rfl, rfl⟩, ⟨rfl, rfl⟩, ⟨rfl, rfl⟩, ⟨rfl, rfl⟩, ⟨rfl, rfl⟩, ⟨rfl, rfl⟩, trivial⟩ ⟨⟨rfl, rfl, rfl⟩, ⟨rfl, rfl, rfl⟩, ⟨rfl, rfl, rfl⟩, ⟨rfl, rfl, rfl⟩, ⟨by rw [mv_itv]; rfl, rfl, allNC_it _ _⟩, trivial⟩ rfl
  intro m' st hi
  obtain ⟨i, rfl, hin, rfl⟩ := hi
  have hBi : sqS (l.take i) ≤ 1677721600 := by
    have := S_bd (l.take i) fun x hx => hv x (List.mem_of_mem_take hx)
    rw [List.length_take] at this; omega
  by_cases hlt : i < n
  · have hd : decide ((i : Int) < (n : Int)) = true := by simp only [decide_eq_true_eq]; omega
    obtain ⟨x, hx⟩ : ∃ x, l[i]? = some x := ⟨l[i]'(by omega), List.getElem?_eq_getElem (by omega)⟩
    have hxv := hv x (List.mem_of_getElem? hx)
    have hxs : x.v.natAbs * x.v.natAbs ≤ 4096 * 4096 := Nat.mul_le_mul (by omega) (by omega)
    have w4 : IntKind.i64.wrap ((i : Int) + 1) = ((i + 1 : Nat) : Int) := by rw [IntWalk.i64_in _ (by omega)]; rfl
    obtain ⟨_, _, t3⟩ := S_take hx
    repeat' (first
      | rw [hd]
      | rw [w4]
      | refine AR.auto rfl ?_
      | refine AR.man (oki_idx (A0 := 0) (i := i) rfl rfl rfl rfl (nonE_itv 2 (by omega)) hlt) rfl rfl rfl ?_
      | refine AR.man (oki_ld (m := x) rfl rfl rfl (fun jj u hu => by rw [show 0 + i * 2 + jj = i * 2 + jj from (by omega), show (Box.view 2 (itL l)).cells = itL l from rfl, itL_at l i jj x hx (by have := (List.getElem?_eq_some_iff.1 hu).1; simpa [itC] using this)]; exact hu)) rfl rfl rfl ?_
      | refine AR.man (ok_nx_abs (a := x.v) (by omega) rfl rfl rfl) rfl rfl rfl ?_
      | refine AR.man (AOk.callRow 2 160 [.int .u64 ((sqS (l.take i) : Nat)), .int .u64 0, .int .u64 0, .int .u64 0] [.int .u64 ((sqS (l.take i) + x.v.natAbs * x.v.natAbs : Nat)), .int .u64 0, .int .u64 0, .int .u64 0] [.int .u64 ((x.v.natAbs : Nat)), .int .u64 ((x.v.natAbs : Nat)), .int .i64 0] (.tuple #[]) (fun w g hb => nx_times0 (sqS (l.take i)) x.v.natAbs x.v.natAbs (by omega) (by omega) (by omega) w g hb) ent70 rfl rfl rfl rfl rfl rfl rfl rfl) rfl rfl rfl ?_
      | refine AR.nil ?_
      | refine KF.mk ?_
      | refine KT.mk (by kernel_rfl) ?_
      | refine SQ.normal ?_
      | refine AC.seq ?_
      | refine AC.regF ?_
      | refine AC.regT ?_
      | refine AC.condT rfl ?_
      | refine AC.condF rfl ?_
      | refine AC.block ?_
      | refine BQ.normal ?_
      | refine BQ.ret ?_
      | refine BQ.here ?_
      | refine BQ.there rfl ?_
      | refine SQ.ret ?_
      | refine SQ.exit ?_
      | refine AC.ret ?_
      | refine AC.exit ?_
      | refine AC.skip ?_
      | (refine AR.split rfl (fun h => ?_) (fun h => ?_) <;> rw [h])
      | (refine AC.cond rfl (fun h => ?_) (fun h => ?_) <;> rw [h])
      | refine FQ.ret rfl rfl ?_
      | refine FQ.normal rfl rfl ?_)
    refine ⟨n - (i + 1), _, by omega, ?_, i + 1, rfl, by omega, rfl⟩
    rw [t3]
    exact Ren.mv (tabF []) rfl (fun k hk => by match k, hk with | 0, _ => exact ⟨rfl, rfl⟩) ⟨⟨rfl, rfl⟩, ⟨rfl, rfl⟩, ⟨rfl, rfl⟩, ⟨rfl, rfl⟩, ⟨rfl, rfl⟩, ⟨rfl, rfl⟩, ⟨rfl, rfl⟩, ⟨rfl, rfl⟩, ⟨rfl, rfl⟩, ⟨rfl, rfl⟩, trivial⟩ ⟨⟨rfl, rfl, rfl⟩, ⟨rfl, rfl, rfl⟩, ⟨rfl, rfl, rfl⟩, ⟨rfl, rfl, rfl⟩, ⟨by rw [mv_itv]; rfl, rfl, allNC_it _ _⟩, trivial⟩ rfl
  · obtain rfl : n = i := by omega
    have hd : decide ((n : Int) < (n : Int)) = false := by simp
    rw [List.take_of_length_le (by omega)]
    repeat' (first
      | rw [hd]
      | rw [hD0]
      | rw [hgg]
      | rw [z2]
      | rw [z3]
      | rw [u1]
      | rw [u2]
      | rw [u3]
      | rw [u4]
      | rw [u5]
      | rw [u6]
      | refine AR.auto rfl ?_
      | refine AR.man (AOk.callRow 3 160 [.int .u64 ((0 : Nat)), .int .u64 0, .int .u64 0, .int .u64 0] [.int .u64 ((0 + sqS l * n : Nat)), .int .u64 0, .int .u64 0, .int .u64 0] [.int .u64 ((sqS l : Nat)), .int .u64 ((n : Nat)), .int .i64 0] (.tuple #[]) (fun w g hb => nx_times0 0 (sqS l) n (by omega) (by omega) (by omega) w g hb) ent70 rfl rfl rfl rfl rfl rfl rfl rfl) rfl rfl rfl ?_
      | refine AR.man (AOk.callRow 3 160 [.int .u64 ((0 + sqS l * n : Nat)), .int .u64 0, .int .u64 0, .int .u64 0] [.int .u64 ((0 + sqS l * n : Nat)), .int .u64 0, .int .u64 0, .int .u64 0] [.int .u64 ((0 : Nat)), .int .u64 ((n : Nat)), .int .i64 1] (.tuple #[]) (fun w g hb => nx_times1 (0 + sqS l * n) 0 n (by omega) (by omega) (Nat.zero_mul _) w g hb) ent70 rfl rfl rfl rfl rfl rfl rfl rfl) rfl rfl rfl ?_
      | refine AR.man (AOk.callRow 3 160 [.int .u64 ((0 + sqS l * n : Nat)), .int .u64 0, .int .u64 0, .int .u64 0] [.int .u64 ((0 + sqS l * n : Nat)), .int .u64 0, .int .u64 0, .int .u64 0] [.int .u64 ((0 : Nat)), .int .u64 ((n : Nat)), .int .i64 2] (.tuple #[]) (fun w g hb => nx_times2 (0 + sqS l * n) 0 n (by omega) (by omega) (Nat.zero_mul _) w g hb) ent70 rfl rfl rfl rfl rfl rfl rfl rfl) rfl rfl rfl ?_
      | refine AR.man (AOk.callS (fun s => [s]) 0 n 2 (itL l) (fun w A c h => nx_total l n b m hl hn hv hm w A c h) ent72 rfl rfl rfl (fun _ => rfl) rfl (fun _ _ h => h) (by decide) (by rw [itL_len, hl]) (allFC_it l) rfl rfl) rfl rfl rfl ?_
      | refine AR.man (AOk.callRow 4 160 [.int .u64 ((0 : Nat)), .int .u64 0, .int .u64 0, .int .u64 0] [.int .u64 ((0 + m * m : Nat)), .int .u64 0, .int .u64 0, .int .u64 0] [.int .u64 ((m : Nat)), .int .u64 ((m : Nat)), .int .i64 0] (.tuple #[]) (fun w g hb => nx_times0 0 m m (by omega) (by omega) (by omega) w g hb) ent70 rfl rfl rfl rfl rfl rfl rfl rfl) rfl rfl rfl ?_
      | refine AR.man (AOk.callRow 4 160 [.int .u64 ((0 + m * m : Nat)), .int .u64 0, .int .u64 0, .int .u64 0] [.int .u64 ((0 + m * m : Nat)), .int .u64 0, .int .u64 0, .int .u64 0] [.int .u64 ((m : Nat)), .int .u64 ((0 : Nat)), .int .i64 1] (.tuple #[]) (fun w g hb => nx_times1 (0 + m * m) m 0 (by omega) (by omega) (Nat.mul_zero _) w g hb) ent70 rfl rfl rfl rfl rfl rfl rfl rfl) rfl rfl rfl ?_
      | refine AR.man (AOk.callRow 4 160 [.int .u64 ((0 + m * m : Nat)), .int .u64 0, .int .u64 0, .int .u64 0] [.int .u64 ((0 + m * m : Nat)), .int .u64 0, .int .u64 0, .int .u64 0] [.int .u64 ((0 : Nat)), .int .u64 ((0 : Nat)), .int .i64 2] (.tuple #[]) (fun w g hb => nx_times2 (0 + m * m) 0 0 (by omega) (by omega) (Nat.mul_zero _) w g hb) ent70 rfl rfl rfl rfl rfl rfl rfl rfl) rfl rfl rfl ?_
      | refine AR.man (ok_nx_minus (a := 0 + sqS l * n) (b := 0 + m * m) (by omega) (by omega) rfl rfl rfl) rfl rfl rfl ?_
      | refine AR.man (ok_nx_by (a := D) (n := n) (by omega) (by omega) (by omega) rfl rfl rfl) rfl rfl rfl ?_
      | refine AR.man (ok_nx_gcd (A := n) (B := D % n) (by omega) (by omega) rfl rfl rfl) rfl rfl rfl ?_
      | refine AR.man (ok_nx_by (a := D) (n := Nat.gcd D n) (by omega) (by omega) (by omega) rfl rfl rfl) rfl rfl rfl ?_
      | refine AR.man (ok_quo (a := (n : Int)) (b := ((Nat.gcd D n : Nat) : Int)) (r := ((n / Nat.gcd D n : Nat) : Int)) (by omega) hquo rfl rfl rfl) rfl rfl rfl ?_
      | refine AR.nil ?_
      | refine KF.mk ?_
      | refine KT.mk (by kernel_rfl) ?_
      | refine SQ.normal ?_
      | refine AC.seq ?_
      | refine AC.regF ?_
      | refine AC.regT ?_
      | refine AC.condT rfl ?_
      | refine AC.condF rfl ?_
      | refine AC.block ?_
      | refine BQ.normal ?_
      | refine BQ.ret ?_
      | refine BQ.here ?_
      | refine BQ.there rfl ?_
      | refine SQ.ret ?_
      | refine SQ.exit ?_
      | refine AC.ret ?_
      | refine AC.exit ?_
      | refine AC.skip ?_
      | refine AC.rounds 4 ?_
      | refine RN.step ?_
      | (refine AR.split rfl (fun h => ?_) (fun h => ?_) <;> rw [h])
      | (refine AC.cond rfl (fun h => ?_) (fun h => ?_) <;> rw [h])
      | refine FQ.ret rfl rfl ?_
      | refine FQ.normal rfl rfl ?_)
    all_goals rfl
set_option maxRecDepth 100000 in
theorem nx_spread0 (l : List It) (n : Nat) (h0 : n = 0) (w : World) (A : Option Addr) (c : Nat) (h : SL w A n c 2 (itL l)) :
    Calls Tryz.prog 19 #[.slice A n c] w (fun e w' => e = .returned (.tuple #[.agg #[.int .i64 0, .int .i64 1], .bool true]) ∧ Below w.heap.size w w') := by
  subst h0
  refine fun_sliceF tblOK mixedP Tryz.func19 rfl (fun s => [s]) 0 2 (itL l) h (by decide) (allFC_it l) [.slice (some ⟨0, 0, none⟩) 0 0] rfl (fun _ => rfl) 116 [(0, .slice (some ⟨0, 0, none⟩) 0 0)] rfl rfl (by kernel_rfl) rfl rfl _ rfl ?_
  repeat' (first
    | refine AR.auto rfl ?_
    | refine AR.nil ?_
    | refine KF.mk ?_
    | refine KT.mk (by kernel_rfl) ?_
    | refine SQ.normal ?_
    | refine AC.seq ?_
    | refine AC.regF ?_
    | refine AC.regT ?_
    | refine AC.condT rfl ?_
    | refine AC.condF rfl ?_
    | refine AC.block ?_
    | refine BQ.normal ?_
    | refine BQ.ret ?_
    | refine BQ.here ?_
    | refine BQ.there rfl ?_
    | refine SQ.ret ?_
    | refine SQ.exit ?_
    | refine AC.ret ?_
    | refine AC.exit ?_
    | refine AC.skip ?_
    | (refine AR.split rfl (fun h => ?_) (fun h => ?_) <;> rw [h])
    | (refine AC.cond rfl (fun h => ?_) (fun h => ?_) <;> rw [h])
    | refine FQ.ret rfl rfl ?_
    | refine FQ.normal rfl rfl ?_)
  all_goals rfl
end Go.Proofs.YtbageimconenlaaGreat
