/- Configurations made; the place of a quantile; ranks in a list of items. -/
import Derived.Test.YtbageimconenlaaGreatQH
import Derived.Test.YtbageimconenlaaGreatTI
namespace Go.Proofs.YtbageimconenlaaGreat
open Go.RowKit En
set_option linter.unusedVariables false
theorem ent22 : Enters Tryz.prog 22 := enters Tryz.func22 (by kernel_rfl) (by kernel_rfl)
theorem ent79 : Enters Tryz.prog 79 := enters Tryz.func79 (by kernel_rfl) (by kernel_rfl)
theorem ent23 : Enters Tryz.prog 23 := enters Tryz.func23 (by kernel_rfl) (by kernel_rfl)
theorem ent25 : Enters Tryz.prog 25 := enters Tryz.func25 (by kernel_rfl) (by kernel_rfl)
theorem ent24 : Enters Tryz.prog 24 := enters Tryz.func24 (by kernel_rfl) (by kernel_rfl)
theorem ent81 : Enters Tryz.prog 81 := enters Tryz.func81 (by kernel_rfl) (by kernel_rfl)
set_option maxRecDepth 100000 in
set_option maxHeartbeats 1000000 in
theorem qx_plain (ag w0 k cap p ch mx : Int)  (w : World) : Calls Tryz.prog 79 #[.agg #[.int .i64 11, .int .i64 ag, .int .i64 w0, .int .i64 k, .int .i64 cap, .int .i64 p, .int .i64 ch, .int .i64 mx]] w (fun e w' => e = .returned (.agg #[.int .i64 11, .int .i64 0, .int .i64 w0, .int .i64 k, .int .i64 cap, .int .i64 0, .int .i64 0, .int .i64 0]) ∧ Below w.heap.size w w') := by
  refine fun_flat tblOK mixedP Tryz.func79 rfl [.agg #[.int .i64 11, .int .i64 ag, .int .i64 w0, .int .i64 k, .int .i64 cap, .int .i64 p, .int .i64 ch, .int .i64 mx]] w 99 [(0, .agg #[.int .i64 11, .int .i64 ag, .int .i64 w0, .int .i64 k, .int .i64 cap, .int .i64 p, .int .i64 ch, .int .i64 mx])] rfl rfl (by kernel_rfl) rfl rfl rfl _ rfl ?_
  repeat' (first | refine AR.auto rfl ?_ | refine AR.nil ?_ | refine KF.mk ?_ | refine KT.mk (by kernel_rfl) ?_ | refine SQ.normal ?_ | refine AC.seq ?_ | refine AC.regF ?_ | refine AC.regT ?_ | refine AC.condT rfl ?_ | refine AC.condF rfl ?_ | refine AC.block ?_ | refine BQ.normal ?_ | refine BQ.ret ?_ | refine BQ.here ?_ | refine BQ.there rfl ?_ | refine SQ.ret ?_ | refine SQ.exit ?_ | refine AC.ret ?_ | refine AC.exit ?_ | refine AC.skip ?_ | (refine AR.split rfl (fun h => ?_) (fun h => ?_) <;> rw [h]) | (refine AC.cond rfl (fun h => ?_) (fun h => ?_) <;> rw [h]) | refine FQ.ret rfl rfl ?_ | refine FQ.normal rfl rfl ?_)
  all_goals rfl
theorem ok_qx_plain {ag w0 k cap p ch mx : Int}  {st : St} {o : Oper} {cl : Call} (ho : o.op = .call cl) (hc : cl.callee = .value (.func 79)) (hargs : evs st cl.args.toList = some [.agg #[.int .i64 11, .int .i64 ag, .int .i64 w0, .int .i64 k, .int .i64 cap, .int .i64 p, .int .i64 ch, .int .i64 mx]]) : AOk Tryz.prog st o ⟨rq st cl.args.toList, []⟩ ⟨.agg #[.int .i64 11, .int .i64 0, .int .i64 w0, .int .i64 k, .int .i64 cap, .int .i64 0, .int .i64 0, .int .i64 0], [], []⟩ :=
  AOk.call (fun w => qx_plain ag w0 k cap p ch mx  w) ent79 ho hc hargs rfl rfl
set_option maxRecDepth 100000 in
set_option maxHeartbeats 2000000 in
theorem qx_cfg (kd ag w1 k1 c1 p1 ch mx : Int)  (w : World) : Calls Tryz.prog 22 #[.agg #[.int .i64 kd, .int .i64 ag, .int .i64 w1, .int .i64 k1, .int .i64 c1, .int .i64 p1, .int .i64 ch, .int .i64 mx], .int .i64 11] w (fun e w' => e = .returned (.agg #[.int .i64 11, .int .i64 0, .int .i64 (1 + w1 % 20), .int .i64 (1 + k1 % 3), .int .i64 (2 + c1 % 60), .int .i64 0, .int .i64 0, .int .i64 0]) ∧ Below w.heap.size w w') := by
  have x1 : IntKind.i64.wrap (1 + ag % 4) = 1 + ag % 4 := by have h1 := Int.emod_nonneg ag (b := 4) (by decide); have h2 := Int.emod_lt_of_pos ag (b := 4) (by decide); rw [IntWalk.i64_in _ (by omega)]
  have x2 : IntKind.i64.wrap (1 + w1 % 20) = 1 + w1 % 20 := by have h1 := Int.emod_nonneg w1 (b := 20) (by decide); have h2 := Int.emod_lt_of_pos w1 (b := 20) (by decide); rw [IntWalk.i64_in _ (by omega)]
  have x3 : IntKind.i64.wrap (1 + k1 % 3) = 1 + k1 % 3 := by have h1 := Int.emod_nonneg k1 (b := 3) (by decide); have h2 := Int.emod_lt_of_pos k1 (b := 3) (by decide); rw [IntWalk.i64_in _ (by omega)]
  have x4 : IntKind.i64.wrap (2 + c1 % 60) = 2 + c1 % 60 := by have h1 := Int.emod_nonneg c1 (b := 60) (by decide); have h2 := Int.emod_lt_of_pos c1 (b := 60) (by decide); rw [IntWalk.i64_in _ (by omega)]
  have x5 : IntKind.i64.wrap (1 + ch % 2) = 1 + ch % 2 := by have h1 := Int.emod_nonneg ch (b := 2) (by decide); have h2 := Int.emod_lt_of_pos ch (b := 2) (by decide); rw [IntWalk.i64_in _ (by omega)]
  have x6 : IntKind.i64.wrap (1 + mx % 20) = 1 + mx % 20 := by have h1 := Int.emod_nonneg mx (b := 20) (by decide); have h2 := Int.emod_lt_of_pos mx (b := 20) (by decide); rw [IntWalk.i64_in _ (by omega)]
  refine fun_flat tblOK mixedP Tryz.func22 rfl [.agg #[.int .i64 kd, .int .i64 ag, .int .i64 w1, .int .i64 k1, .int .i64 c1, .int .i64 p1, .int .i64 ch, .int .i64 mx], .int .i64 11] w 49 [(0, .agg #[.int .i64 kd, .int .i64 ag, .int .i64 w1, .int .i64 k1, .int .i64 c1, .int .i64 p1, .int .i64 ch, .int .i64 mx]), (1, .int .i64 11)] rfl rfl (by kernel_rfl) rfl rfl rfl _ rfl ?_
  repeat' (first | rw [x1] | rw [x2] | rw [x3] | rw [x4] | rw [x5] | rw [x6] | refine AR.auto rfl ?_ | refine AR.man (okt_f6 (by decide) (by decide) rfl rfl rfl) rfl rfl rfl ?_ | refine AR.man (okt_f8 (by decide) (by decide) rfl rfl rfl) rfl rfl rfl ?_ | refine AR.man (ok_qx_plain rfl rfl rfl) rfl rfl rfl ?_ | refine AR.nil ?_ | refine KF.mk ?_ | refine KT.mk (by kernel_rfl) ?_ | refine SQ.normal ?_ | refine AC.seq ?_ | refine AC.regF ?_ | refine AC.regT ?_ | refine AC.condT rfl ?_ | refine AC.condF rfl ?_ | refine AC.block ?_ | refine BQ.normal ?_ | refine BQ.ret ?_ | refine BQ.here ?_ | refine BQ.there rfl ?_ | refine SQ.ret ?_ | refine SQ.exit ?_ | refine AC.ret ?_ | refine AC.exit ?_ | refine AC.skip ?_ | (refine AR.split rfl (fun h => ?_) (fun h => ?_) <;> rw [h]) | (refine AC.cond rfl (fun h => ?_) (fun h => ?_) <;> rw [h]) | refine FQ.ret rfl rfl ?_ | refine FQ.normal rfl rfl ?_)
  all_goals rfl
theorem ok_qx_cfg {kd ag w1 k1 c1 p1 ch mx : Int}  {st : St} {o : Oper} {cl : Call} (ho : o.op = .call cl) (hc : cl.callee = .value (.func 22)) (hargs : evs st cl.args.toList = some [.agg #[.int .i64 kd, .int .i64 ag, .int .i64 w1, .int .i64 k1, .int .i64 c1, .int .i64 p1, .int .i64 ch, .int .i64 mx], .int .i64 11]) : AOk Tryz.prog st o ⟨rq st cl.args.toList, []⟩ ⟨.agg #[.int .i64 11, .int .i64 0, .int .i64 (1 + w1 % 20), .int .i64 (1 + k1 % 3), .int .i64 (2 + c1 % 60), .int .i64 0, .int .i64 0, .int .i64 0], [], []⟩ :=
  AOk.call (fun w => qx_cfg kd ag w1 k1 c1 p1 ch mx  w) ent22 ho hc hargs rfl rfl
set_option maxRecDepth 100000 in
theorem qx_prod (x y : Int) (hx0 : 0 ≤ x) (hx : x < 18446744073709551616) (hy0 : 0 ≤ y) (hy : y < 18446744073709551616) (hp0 : 0 ≤ x * y) (hp : x * y < 18446744073709551616) (w : World) : Calls Tryz.prog 81 #[.int .u64 x, .int .u64 y] w (fun e w' => e = .returned (.agg #[.int .u64 0, .int .u64 (x * y)]) ∧ Below w.heap.size w w') := by
  have e1 : x * y / 18446744073709551616 = 0 := Int.ediv_eq_zero_of_lt hp0 hp
  have e2 : x * y % 18446744073709551616 = x * y := Int.emod_eq_of_lt hp0 hp
  refine fun_flat tblOK mixedP Tryz.func81 rfl [.int .u64 x, .int .u64 y] w 16 [(0, .int .u64 x), (1, .int .u64 y)] rfl rfl (by kernel_rfl) rfl rfl rfl _ rfl ?_
  repeat' (first | rw [e1] | rw [e2] | refine AR.auto rfl ?_ | refine AR.man (ok_nb_mul hx0 hx hy0 hy rfl rfl rfl) rfl rfl rfl ?_ | refine AR.nil ?_ | refine KF.mk ?_ | refine KT.mk (by kernel_rfl) ?_ | refine SQ.normal ?_ | refine AC.seq ?_ | refine AC.regF ?_ | refine AC.regT ?_ | refine AC.condT rfl ?_ | refine AC.condF rfl ?_ | refine AC.block ?_ | refine BQ.normal ?_ | refine BQ.ret ?_ | refine BQ.here ?_ | refine BQ.there rfl ?_ | refine SQ.ret ?_ | refine SQ.exit ?_ | refine AC.ret ?_ | refine AC.exit ?_ | refine AC.skip ?_ | (refine AR.split rfl (fun h => ?_) (fun h => ?_) <;> rw [h]) | (refine AC.cond rfl (fun h => ?_) (fun h => ?_) <;> rw [h]) | refine FQ.ret rfl rfl ?_ | refine FQ.normal rfl rfl ?_)
  all_goals rfl
theorem ok_qx_prod {x y : Int} (hx0 : 0 ≤ x) (hx : x < 18446744073709551616) (hy0 : 0 ≤ y) (hy : y < 18446744073709551616) (hp0 : 0 ≤ x * y) (hp : x * y < 18446744073709551616) {st : St} {o : Oper} {cl : Call} (ho : o.op = .call cl) (hc : cl.callee = .value (.func 81)) (hargs : evs st cl.args.toList = some [.int .u64 x, .int .u64 y]) : AOk Tryz.prog st o ⟨rq st cl.args.toList, []⟩ ⟨.agg #[.int .u64 0, .int .u64 (x * y)], [], []⟩ :=
  AOk.call (fun w => qx_prod x y hx0 hx hy0 hy hp0 hp w) ent81 ho hc hargs rfl rfl
set_option maxRecDepth 100000 in
set_option maxHeartbeats 1000000 in
theorem qx_tgt (p q n : Nat) (hn : n ≤ 900) (q1 : 1 ≤ q) (q2 : q ≤ 1000) (p2 : p ≤ q) (w : World) : Calls Tryz.prog 24 #[.int .i64 ((p : Nat)), .int .i64 ((q : Nat)), .int .i64 ((n : Nat))] w (fun e w' => e = .returned (.int .i64 ((tgt p n q : Nat))) ∧ Below w.heap.size w w') := by
  have hpn : p * n ≤ 1000 * 900 := Nat.mul_le_mul (by omega) hn
  have hdv : p * n / q ≤ p * n := Nat.div_le_self _ _
  have hz0 : (0 : Int) ≤ ((p * n / q : Nat) : Int) := Int.natCast_nonneg _
  have u1 : IntKind.u64.wrap (p : Int) = (p : Int) := by rw [wu64]; omega
  have u2 : IntKind.u64.wrap (n : Int) = (n : Int) := by rw [wu64]; omega
  have u3 : IntKind.u64.wrap (q : Int) = (q : Int) := by rw [wu64]; omega
  have e1 : (p : Int) * (n : Int) = ((p * n : Nat) : Int) := (Int.natCast_mul p n).symm
  refine fun_flat tblOK mixedP Tryz.func24 rfl [.int .i64 ((p : Nat)), .int .i64 ((q : Nat)), .int .i64 ((n : Nat))] w 34 [(0, .int .i64 ((p : Nat))), (1, .int .i64 ((q : Nat))), (2, .int .i64 ((n : Nat)))] rfl rfl (by kernel_rfl) rfl rfl rfl _ rfl ?_
  by_cases hr : p * n % q = 0
  · have z1 : ((0 : Int) == 0 && ((p * n % q : Nat) : Int) == 0) = true := by rw [hr]; rfl
    have hc : cei p n q = p * n / q := by unfold cei; rw [if_pos hr, Nat.add_zero]
    have w1 : IntKind.i64.wrap ((p * n / q : Nat) : Int) = ((p * n / q : Nat) : Int) := IntWalk.i64_in _ (by omega)
    have hmx : (if ((p * n / q : Nat) : Int) > 1 then ((p * n / q : Nat) : Int) else 1) = ((tgt p n q : Nat) : Int) := by
      unfold tgt; rw [hc]; generalize p * n / q = z at *; split <;> split <;> omega
    repeat' (first | rw [u1] | rw [u2] | rw [u3] | rw [e1] | rw [z1] | rw [w1] | refine AR.auto rfl ?_ | refine AR.man (ok_qx_prod (x := (p : Int)) (y := (n : Int)) (by omega) (by omega) (by omega) (by omega) (by rw [e1]; omega) (by rw [e1]; omega) rfl rfl rfl) rfl rfl rfl ?_ | refine AR.man (ok_nq_of rfl rfl rfl) rfl rfl rfl ?_ | refine AR.man (ok_nq_div (A := p * n) (B := q) (by omega) (by omega) (by omega) rfl rfl rfl) rfl rfl rfl ?_ | refine AR.man (AOk.bin (aneq73 _ _ _ _) rfl rfl rfl rfl rfl rfl) rfl rfl rfl ?_ | refine AR.man (ok_max hmx rfl rfl rfl rfl rfl) rfl rfl rfl ?_ | refine AR.nil ?_ | refine KF.mk ?_ | refine KT.mk (by kernel_rfl) ?_ | refine SQ.normal ?_ | refine AC.seq ?_ | refine AC.regF ?_ | refine AC.regT ?_ | refine AC.condT rfl ?_ | refine AC.condF rfl ?_ | refine AC.block ?_ | refine BQ.normal ?_ | refine BQ.ret ?_ | refine BQ.here ?_ | refine BQ.there rfl ?_ | refine SQ.ret ?_ | refine SQ.exit ?_ | refine AC.ret ?_ | refine AC.exit ?_ | refine AC.skip ?_ | (refine AR.split rfl (fun h => ?_) (fun h => ?_) <;> rw [h]) | (refine AC.cond rfl (fun h => ?_) (fun h => ?_) <;> rw [h]) | refine FQ.ret rfl rfl ?_ | refine FQ.normal rfl rfl ?_)
    all_goals rfl
  · have z1 : ((0 : Int) == 0 && ((p * n % q : Nat) : Int) == 0) = false := by rw [show (((p * n % q : Nat) : Int) == 0) = false from beq_eq_false_iff_ne.2 (fun h => hr (Int.ofNat_eq_zero.1 h))]; rfl
    have hc : cei p n q = p * n / q + 1 := by unfold cei; rw [if_neg hr]
    have w0 : IntKind.i64.wrap (((p * n / q : Nat) : Int) + 1) = ((p * n / q + 1 : Nat) : Int) := by rw [IntWalk.i64_in _ (by omega)]; rfl
    have w1 : IntKind.i64.wrap ((p * n / q : Nat) : Int) = ((p * n / q : Nat) : Int) := IntWalk.i64_in _ (by omega)
    have hmx : (if ((p * n / q + 1 : Nat) : Int) > 1 then ((p * n / q + 1 : Nat) : Int) else 1) = ((tgt p n q : Nat) : Int) := by
      unfold tgt; rw [hc]; generalize p * n / q = z at *; split <;> split <;> omega
    repeat' (first | rw [u1] | rw [u2] | rw [u3] | rw [e1] | rw [z1] | rw [w1] | rw [w0] | refine AR.auto rfl ?_ | refine AR.man (ok_qx_prod (x := (p : Int)) (y := (n : Int)) (by omega) (by omega) (by omega) (by omega) (by rw [e1]; omega) (by rw [e1]; omega) rfl rfl rfl) rfl rfl rfl ?_ | refine AR.man (ok_nq_of rfl rfl rfl) rfl rfl rfl ?_ | refine AR.man (ok_nq_div (A := p * n) (B := q) (by omega) (by omega) (by omega) rfl rfl rfl) rfl rfl rfl ?_ | refine AR.man (AOk.bin (aneq73 _ _ _ _) rfl rfl rfl rfl rfl rfl) rfl rfl rfl ?_ | refine AR.man (ok_max hmx rfl rfl rfl rfl rfl) rfl rfl rfl ?_ | refine AR.nil ?_ | refine KF.mk ?_ | refine KT.mk (by kernel_rfl) ?_ | refine SQ.normal ?_ | refine AC.seq ?_ | refine AC.regF ?_ | refine AC.regT ?_ | refine AC.condT rfl ?_ | refine AC.condF rfl ?_ | refine AC.block ?_ | refine BQ.normal ?_ | refine BQ.ret ?_ | refine BQ.here ?_ | refine BQ.there rfl ?_ | refine SQ.ret ?_ | refine SQ.exit ?_ | refine AC.ret ?_ | refine AC.exit ?_ | refine AC.skip ?_ | (refine AR.split rfl (fun h => ?_) (fun h => ?_) <;> rw [h]) | (refine AC.cond rfl (fun h => ?_) (fun h => ?_) <;> rw [h]) | refine FQ.ret rfl rfl ?_ | refine FQ.normal rfl rfl ?_)
    all_goals rfl
theorem ok_qx_tgt {p q n : Nat} (hn : n ≤ 900) (q1 : 1 ≤ q) (q2 : q ≤ 1000) (p2 : p ≤ q) {st : St} {o : Oper} {cl : Call} (ho : o.op = .call cl) (hc : cl.callee = .value (.func 24)) (hargs : evs st cl.args.toList = some [.int .i64 ((p : Nat)), .int .i64 ((q : Nat)), .int .i64 ((n : Nat))]) : AOk Tryz.prog st o ⟨rq st cl.args.toList, []⟩ ⟨.int .i64 ((tgt p n q : Nat)), [], []⟩ :=
  AOk.call (fun w => qx_tgt p q n hn q1 q2 p2 w) ent24 ho hc hargs rfl rfl
set_option maxRecDepth 100000 in
set_option maxHeartbeats 1000000 in
theorem qx_rank (l : List It) (n : Nat) (v : Int) (r : Nat) (hl : l.length = n) (hn : n ≤ 1000) (hr : rk v (vals l) = r) (w : World) (A : Option Addr) (c : Nat) (h : SL w A n c 2 (itL l)) :
    Calls Tryz.prog 23 #[.slice A n c, .int .i64 v] w (fun e w' => e = .returned (.int .i64 ((r : Nat))) ∧ Below w.heap.size w w') := by
  have hle : ∀ i, rk v (vals (l.take i)) ≤ i := fun i => Nat.le_trans (rk_le v _) (by rw [vals_len, List.length_take]; omega)
  refine fun_sliceF tblOK mixedP Tryz.func23 rfl (fun s => [s, .int .i64 v]) n 2 (itL l) h (by decide) (allFC_it l) [.slice (some ⟨0, 0, none⟩) n 0, .int .i64 v] rfl (fun _ => rfl) 22 [(0, .slice (some ⟨0, 0, none⟩) n 0), (1, .int .i64 v)] rfl rfl (by kernel_rfl) rfl rfl _ rfl ?_
  repeat' (first | refine AR.auto rfl ?_ | refine AR.nil ?_ | refine KF.mk ?_ | refine KT.mk (by kernel_rfl) ?_ | refine SQ.normal ?_ | refine AC.seq ?_ | refine AC.regF ?_ | refine AC.regT ?_ | refine AC.condT rfl ?_ | refine AC.condF rfl ?_ | refine AC.block ?_ | refine BQ.normal ?_ | refine BQ.ret ?_ | refine BQ.here ?_ | refine BQ.there rfl ?_ | refine SQ.ret ?_ | refine SQ.exit ?_ | refine AC.ret ?_ | refine AC.exit ?_ | refine AC.skip ?_ | (refine AR.split rfl (fun h => ?_) (fun h => ?_) <;> rw [h]) | (refine AC.cond rfl (fun h => ?_) (fun h => ?_) <;> rw [h]) | refine FQ.ret rfl rfl ?_ | refine FQ.normal rfl rfl ?_)
  refine AC.loop (fun m st => ∃ (i : Nat), m = n - i ∧ i ≤ n ∧ st = ⟨[(10, .int .i64 (i : Nat)), (9, .int .i64 (n : Nat)), (8, .slice (some ⟨0, 0, none⟩) n 0), (5, .int .i64 ((rk v (vals (l.take i)) : Nat))), (1, .int .i64 v)], [(0, .view 2 (itL l))], [0], 22⟩) n _ ?_ ⟨0, rfl, Nat.zero_le _, rfl⟩ ?_
  · exact Ren.mv (tabF []) rfl (fun k hk => by match k, hk with | 0, _ => exact ⟨rfl, rfl⟩) ⟨⟨rfl, rfl⟩, ⟨rfl, rfl⟩, ⟨rfl, rfl⟩, ⟨rfl, rfl⟩, ⟨rfl, rfl⟩, trivial⟩ ⟨⟨by rw [mv_itv]; rfl, rfl, allNC_it _ _⟩, trivial⟩ rfl
  rintro m st ⟨i, rfl, hin, rfl⟩
  by_cases hlt : i < n
  · have hd : decide ((i : Int) < (n : Int)) = true := by simp only [decide_eq_true_eq]; omega
    obtain ⟨x, hx⟩ : ∃ x, l[i]? = some x := ⟨l[i]'(by omega), List.getElem?_eq_getElem (by omega)⟩
    have w4 : IntKind.i64.wrap ((i : Int) + 1) = ((i + 1 : Nat) : Int) := by rw [IntWalk.i64_in _ (by omega)]; rfl
    have hle1 := hle i
    have w5 : IntKind.i64.wrap (((rk v (vals (l.take i)) : Nat) : Int) + 1) = ((rk v (vals (l.take i)) + 1 : Nat) : Int) := by rw [IntWalk.i64_in _ (by omega)]; rfl
    have eV : vals (l.take (i + 1)) = vals (l.take i) ++ [x.v] := by rw [List.take_add_one, hx]; exact vals_app _ _
    have eC : rk v (vals (l.take (i + 1))) = rk v (vals (l.take i)) + rk v [x.v] := by rw [eV, rk_app]
    by_cases hv : x.v ≤ v
    · have hd2 : decide (x.v ≤ v) = true := by simpa using hv
      have e1 : rk v (vals (l.take (i + 1))) = rk v (vals (l.take i)) + 1 := by rw [eC]; simp [rk, hv]
      repeat' (first | rw [hd] | rw [hd2] | rw [w4] | rw [w5] | refine AR.auto rfl ?_ | refine AR.man (oki_idx (A0 := 0) (i := i) rfl rfl rfl rfl (nonE_itv 2 (by omega)) hlt) rfl rfl rfl ?_ | refine AR.man (oki_ld (m := x) rfl rfl rfl (fun jj u hu => by rw [show 0 + i * 2 + jj = i * 2 + jj from (by omega), show (Box.view 2 (itL l)).cells = itL l from rfl, itL_at l i jj x hx (by have := (List.getElem?_eq_some_iff.1 hu).1; simpa [itC] using this)]; exact hu)) rfl rfl rfl ?_ | refine AR.nil ?_ | refine KF.mk ?_ | refine KT.mk (by kernel_rfl) ?_ | refine SQ.normal ?_ | refine AC.seq ?_ | refine AC.regF ?_ | refine AC.regT ?_ | refine AC.condT rfl ?_ | refine AC.condF rfl ?_ | refine AC.block ?_ | refine BQ.normal ?_ | refine BQ.ret ?_ | refine BQ.here ?_ | refine BQ.there rfl ?_ | refine SQ.ret ?_ | refine SQ.exit ?_ | refine AC.ret ?_ | refine AC.exit ?_ | refine AC.skip ?_ | (refine AR.split rfl (fun h => ?_) (fun h => ?_) <;> rw [h]) | (refine AC.cond rfl (fun h => ?_) (fun h => ?_) <;> rw [h]) | refine FQ.ret rfl rfl ?_ | refine FQ.normal rfl rfl ?_)
      refine ⟨n - (i + 1), _, by omega, ?_, i + 1, rfl, by omega, rfl⟩
      rw [e1]
      exact Ren.mv (tabF []) rfl (fun k hk => by match k, hk with | 0, _ => exact ⟨rfl, rfl⟩) ⟨⟨rfl, rfl⟩, ⟨rfl, rfl⟩, ⟨rfl, rfl⟩, ⟨rfl, rfl⟩, ⟨rfl, rfl⟩, trivial⟩ ⟨⟨by rw [mv_itv]; rfl, rfl, allNC_it _ _⟩, trivial⟩ rfl
    · have hd2 : decide (x.v ≤ v) = false := by simpa using hv
      have e1 : rk v (vals (l.take (i + 1))) = rk v (vals (l.take i)) := by rw [eC]; simp [rk, Int.not_le.1 hv]
      repeat' (first | rw [hd] | rw [hd2] | rw [w4] | rw [w5] | refine AR.auto rfl ?_ | refine AR.man (oki_idx (A0 := 0) (i := i) rfl rfl rfl rfl (nonE_itv 2 (by omega)) hlt) rfl rfl rfl ?_ | refine AR.man (oki_ld (m := x) rfl rfl rfl (fun jj u hu => by rw [show 0 + i * 2 + jj = i * 2 + jj from (by omega), show (Box.view 2 (itL l)).cells = itL l from rfl, itL_at l i jj x hx (by have := (List.getElem?_eq_some_iff.1 hu).1; simpa [itC] using this)]; exact hu)) rfl rfl rfl ?_ | refine AR.nil ?_ | refine KF.mk ?_ | refine KT.mk (by kernel_rfl) ?_ | refine SQ.normal ?_ | refine AC.seq ?_ | refine AC.regF ?_ | refine AC.regT ?_ | refine AC.condT rfl ?_ | refine AC.condF rfl ?_ | refine AC.block ?_ | refine BQ.normal ?_ | refine BQ.ret ?_ | refine BQ.here ?_ | refine BQ.there rfl ?_ | refine SQ.ret ?_ | refine SQ.exit ?_ | refine AC.ret ?_ | refine AC.exit ?_ | refine AC.skip ?_ | (refine AR.split rfl (fun h => ?_) (fun h => ?_) <;> rw [h]) | (refine AC.cond rfl (fun h => ?_) (fun h => ?_) <;> rw [h]) | refine FQ.ret rfl rfl ?_ | refine FQ.normal rfl rfl ?_)
      refine ⟨n - (i + 1), _, by omega, ?_, i + 1, rfl, by omega, rfl⟩
      rw [e1]
      exact Ren.mv (tabF []) rfl (fun k hk => by match k, hk with | 0, _ => exact ⟨rfl, rfl⟩) ⟨⟨rfl, rfl⟩, ⟨rfl, rfl⟩, ⟨rfl, rfl⟩, ⟨rfl, rfl⟩, ⟨rfl, rfl⟩, trivial⟩ ⟨⟨by rw [mv_itv]; rfl, rfl, allNC_it _ _⟩, trivial⟩ rfl
  · obtain rfl : n = i := by omega
    have hd : decide ((n : Int) < (n : Int)) = false := by simp
    have e1 : rk v (vals (l.take n)) = r := by rw [List.take_of_length_le (by omega), hr]
    rw [e1]
    repeat' (first | rw [hd] | refine AR.auto rfl ?_ | refine AR.nil ?_ | refine KF.mk ?_ | refine KT.mk (by kernel_rfl) ?_ | refine SQ.normal ?_ | refine AC.seq ?_ | refine AC.regF ?_ | refine AC.regT ?_ | refine AC.condT rfl ?_ | refine AC.condF rfl ?_ | refine AC.block ?_ | refine BQ.normal ?_ | refine BQ.ret ?_ | refine BQ.here ?_ | refine BQ.there rfl ?_ | refine SQ.ret ?_ | refine SQ.exit ?_ | refine AC.ret ?_ | refine AC.exit ?_ | refine AC.skip ?_ | (refine AR.split rfl (fun h => ?_) (fun h => ?_) <;> rw [h]) | (refine AC.cond rfl (fun h => ?_) (fun h => ?_) <;> rw [h]) | refine FQ.ret rfl rfl ?_ | refine FQ.normal rfl rfl ?_)
    all_goals rfl
set_option maxRecDepth 100000 in
set_option maxHeartbeats 1000000 in
theorem qx_below (l : List It) (n : Nat) (v : Int) (r : Nat) (hl : l.length = n) (hn : n ≤ 1000) (hr : rb v (vals l) = r) (w : World) (A : Option Addr) (c : Nat) (h : SL w A n c 2 (itL l)) :
    Calls Tryz.prog 25 #[.slice A n c, .int .i64 v] w (fun e w' => e = .returned (.int .i64 ((r : Nat))) ∧ Below w.heap.size w w') := by
  have hle : ∀ i, rb v (vals (l.take i)) ≤ i := fun i => Nat.le_trans (rb_le v _) (by rw [vals_len, List.length_take]; omega)
  refine fun_sliceF tblOK mixedP Tryz.func25 rfl (fun s => [s, .int .i64 v]) n 2 (itL l) h (by decide) (allFC_it l) [.slice (some ⟨0, 0, none⟩) n 0, .int .i64 v] rfl (fun _ => rfl) 22 [(0, .slice (some ⟨0, 0, none⟩) n 0), (1, .int .i64 v)] rfl rfl (by kernel_rfl) rfl rfl _ rfl ?_
  repeat' (first | refine AR.auto rfl ?_ | refine AR.nil ?_ | refine KF.mk ?_ | refine KT.mk (by kernel_rfl) ?_ | refine SQ.normal ?_ | refine AC.seq ?_ | refine AC.regF ?_ | refine AC.regT ?_ | refine AC.condT rfl ?_ | refine AC.condF rfl ?_ | refine AC.block ?_ | refine BQ.normal ?_ | refine BQ.ret ?_ | refine BQ.here ?_ | refine BQ.there rfl ?_ | refine SQ.ret ?_ | refine SQ.exit ?_ | refine AC.ret ?_ | refine AC.exit ?_ | refine AC.skip ?_ | (refine AR.split rfl (fun h => ?_) (fun h => ?_) <;> rw [h]) | (refine AC.cond rfl (fun h => ?_) (fun h => ?_) <;> rw [h]) | refine FQ.ret rfl rfl ?_ | refine FQ.normal rfl rfl ?_)
  refine AC.loop (fun m st => ∃ (i : Nat), m = n - i ∧ i ≤ n ∧ st = ⟨[(10, .int .i64 (i : Nat)), (9, .int .i64 (n : Nat)), (8, .slice (some ⟨0, 0, none⟩) n 0), (5, .int .i64 ((rb v (vals (l.take i)) : Nat))), (1, .int .i64 v)], [(0, .view 2 (itL l))], [0], 22⟩) n _ ?_ ⟨0, rfl, Nat.zero_le _, rfl⟩ ?_
  · exact Ren.mv (tabF []) rfl (fun k hk => by match k, hk with | 0, _ => exact ⟨rfl, rfl⟩) ⟨⟨rfl, rfl⟩, ⟨rfl, rfl⟩, ⟨rfl, rfl⟩, ⟨rfl, rfl⟩, ⟨rfl, rfl⟩, trivial⟩ ⟨⟨by rw [mv_itv]; rfl, rfl, allNC_it _ _⟩, trivial⟩ rfl
  rintro m st ⟨i, rfl, hin, rfl⟩
  by_cases hlt : i < n
  · have hd : decide ((i : Int) < (n : Int)) = true := by simp only [decide_eq_true_eq]; omega
    obtain ⟨x, hx⟩ : ∃ x, l[i]? = some x := ⟨l[i]'(by omega), List.getElem?_eq_getElem (by omega)⟩
    have w4 : IntKind.i64.wrap ((i : Int) + 1) = ((i + 1 : Nat) : Int) := by rw [IntWalk.i64_in _ (by omega)]; rfl
    have hle1 := hle i
    have w5 : IntKind.i64.wrap (((rb v (vals (l.take i)) : Nat) : Int) + 1) = ((rb v (vals (l.take i)) + 1 : Nat) : Int) := by rw [IntWalk.i64_in _ (by omega)]; rfl
    have eV : vals (l.take (i + 1)) = vals (l.take i) ++ [x.v] := by rw [List.take_add_one, hx]; exact vals_app _ _
    have eC : rb v (vals (l.take (i + 1))) = rb v (vals (l.take i)) + rb v [x.v] := by rw [eV, rb_app]
    by_cases hv : x.v < v
    · have hd2 : decide (x.v < v) = true := by simpa using hv
      have e1 : rb v (vals (l.take (i + 1))) = rb v (vals (l.take i)) + 1 := by rw [eC]; simp [rb, hv]
      repeat' (first | rw [hd] | rw [hd2] | rw [w4] | rw [w5] | refine AR.auto rfl ?_ | refine AR.man (oki_idx (A0 := 0) (i := i) rfl rfl rfl rfl (nonE_itv 2 (by omega)) hlt) rfl rfl rfl ?_ | refine AR.man (oki_ld (m := x) rfl rfl rfl (fun jj u hu => by rw [show 0 + i * 2 + jj = i * 2 + jj from (by omega), show (Box.view 2 (itL l)).cells = itL l from rfl, itL_at l i jj x hx (by have := (List.getElem?_eq_some_iff.1 hu).1; simpa [itC] using this)]; exact hu)) rfl rfl rfl ?_ | refine AR.nil ?_ | refine KF.mk ?_ | refine KT.mk (by kernel_rfl) ?_ | refine SQ.normal ?_ | refine AC.seq ?_ | refine AC.regF ?_ | refine AC.regT ?_ | refine AC.condT rfl ?_ | refine AC.condF rfl ?_ | refine AC.block ?_ | refine BQ.normal ?_ | refine BQ.ret ?_ | refine BQ.here ?_ | refine BQ.there rfl ?_ | refine SQ.ret ?_ | refine SQ.exit ?_ | refine AC.ret ?_ | refine AC.exit ?_ | refine AC.skip ?_ | (refine AR.split rfl (fun h => ?_) (fun h => ?_) <;> rw [h]) | (refine AC.cond rfl (fun h => ?_) (fun h => ?_) <;> rw [h]) | refine FQ.ret rfl rfl ?_ | refine FQ.normal rfl rfl ?_)
      refine ⟨n - (i + 1), _, by omega, ?_, i + 1, rfl, by omega, rfl⟩
      rw [e1]
      exact Ren.mv (tabF []) rfl (fun k hk => by match k, hk with | 0, _ => exact ⟨rfl, rfl⟩) ⟨⟨rfl, rfl⟩, ⟨rfl, rfl⟩, ⟨rfl, rfl⟩, ⟨rfl, rfl⟩, ⟨rfl, rfl⟩, trivial⟩ ⟨⟨by rw [mv_itv]; rfl, rfl, allNC_it _ _⟩, trivial⟩ rfl
    · have hd2 : decide (x.v < v) = false := by simpa using hv
      have e1 : rb v (vals (l.take (i + 1))) = rb v (vals (l.take i)) := by rw [eC]; simp [rb, Int.not_lt.1 hv]
      repeat' (first | rw [hd] | rw [hd2] | rw [w4] | rw [w5] | refine AR.auto rfl ?_ | refine AR.man (oki_idx (A0 := 0) (i := i) rfl rfl rfl rfl (nonE_itv 2 (by omega)) hlt) rfl rfl rfl ?_ | refine AR.man (oki_ld (m := x) rfl rfl rfl (fun jj u hu => by rw [show 0 + i * 2 + jj = i * 2 + jj from (by omega), show (Box.view 2 (itL l)).cells = itL l from rfl, itL_at l i jj x hx (by have := (List.getElem?_eq_some_iff.1 hu).1; simpa [itC] using this)]; exact hu)) rfl rfl rfl ?_ | refine AR.nil ?_ | refine KF.mk ?_ | refine KT.mk (by kernel_rfl) ?_ | refine SQ.normal ?_ | refine AC.seq ?_ | refine AC.regF ?_ | refine AC.regT ?_ | refine AC.condT rfl ?_ | refine AC.condF rfl ?_ | refine AC.block ?_ | refine BQ.normal ?_ | refine BQ.ret ?_ | refine BQ.here ?_ | refine BQ.there rfl ?_ | refine SQ.ret ?_ | refine SQ.exit ?_ | refine AC.ret ?_ | refine AC.exit ?_ | refine AC.skip ?_ | (refine AR.split rfl (fun h => ?_) (fun h => ?_) <;> rw [h]) | (refine AC.cond rfl (fun h => ?_) (fun h => ?_) <;> rw [h]) | refine FQ.ret rfl rfl ?_ | refine FQ.normal rfl rfl ?_)
      refine ⟨n - (i + 1), _, by omega, ?_, i + 1, rfl, by omega, rfl⟩
      rw [e1]
      exact Ren.mv (tabF []) rfl (fun k hk => by match k, hk with | 0, _ => exact ⟨rfl, rfl⟩) ⟨⟨rfl, rfl⟩, ⟨rfl, rfl⟩, ⟨rfl, rfl⟩, ⟨rfl, rfl⟩, ⟨rfl, rfl⟩, trivial⟩ ⟨⟨by rw [mv_itv]; rfl, rfl, allNC_it _ _⟩, trivial⟩ rfl
  · obtain rfl : n = i := by omega
    have hd : decide ((n : Int) < (n : Int)) = false := by simp
    have e1 : rb v (vals (l.take n)) = r := by rw [List.take_of_length_le (by omega), hr]
    rw [e1]
    repeat' (first | rw [hd] | refine AR.auto rfl ?_ | refine AR.nil ?_ | refine KF.mk ?_ | refine KT.mk (by kernel_rfl) ?_ | refine SQ.normal ?_ | refine AC.seq ?_ | refine AC.regF ?_ | refine AC.regT ?_ | refine AC.condT rfl ?_ | refine AC.condF rfl ?_ | refine AC.block ?_ | refine BQ.normal ?_ | refine BQ.ret ?_ | refine BQ.here ?_ | refine BQ.there rfl ?_ | refine SQ.ret ?_ | refine SQ.exit ?_ | refine AC.ret ?_ | refine AC.exit ?_ | refine AC.skip ?_ | (refine AR.split rfl (fun h => ?_) (fun h => ?_) <;> rw [h]) | (refine AC.cond rfl (fun h => ?_) (fun h => ?_) <;> rw [h]) | refine FQ.ret rfl rfl ?_ | refine FQ.normal rfl rfl ?_)
    all_goals rfl
end Go.Proofs.YtbageimconenlaaGreat
