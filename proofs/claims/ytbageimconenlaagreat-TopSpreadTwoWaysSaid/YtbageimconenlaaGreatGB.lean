/- The sign of life. -/
import Derived.Test.YtbageimconenlaaGreatEB
import Derived.Test.YtbageimconenlaaGreatGA
import Derived.Test.YtbageimconenlaaGreatAx
import Derived.Test.YtbageimconenlaaGreatSo
import Derived.Test.YtbageimconenlaaGreatCv
namespace Go.Proofs.YtbageimconenlaaGreat
open Go.RowKit En
set_option linter.unusedVariables false
theorem gent26 : Enters Tryz.prog 26 := enters Tryz.func26 (by kernel_rfl) (by kernel_rfl)
theorem ok_cfg2   {s : St} {o : Oper} {c : Call} (ho : o.op = .call c) (hc : c.callee = .value (.func 26)) (hargs : evs s c.args.toList = some [.agg #[.int .i64 2, .int .i64 0, .int .i64 5, .int .i64 1, .int .i64 5, .int .i64 0, .int .i64 0, .int .i64 0]]) : AOk Tryz.prog s o ⟨rq s c.args.toList, []⟩ ⟨.int .i64 0, [], []⟩ :=
  AOk.call (fun w => (fun w => cfg_2 5 1 5 w (by decide) (by decide) (by decide) (by decide) (by decide) (by decide)) w) gent26 ho hc hargs rfl rfl
set_option maxRecDepth 100000 in
theorem tick0  (w : World) : Calls Tryz.prog 27 #[.int .i64 0] w (fun e w' => e = .returned (.bool true) ∧ Below w.heap.size w w') := by
  refine fun_flat tblOK mixedP Tryz.func27 rfl [.int .i64 0] w 9 [(0, .int .i64 0)] rfl rfl (by kernel_rfl) rfl rfl rfl _ rfl ?_
  repeat' (first
    | refine AR.auto rfl ?_
    | refine AR.nil ?_
    | refine KF.mk ?_
    | refine KT.mk (by kernel_rfl) ?_
    | refine SQ.normal ?_
    | refine AC.seq ?_
    | refine AC.regF ?_
    | refine AC.regT ?_
    | refine AC.condT rfl ?_
    | refine AC.condF rfl ?_
    | refine AC.block ?_
    | refine BQ.normal ?_
    | refine BQ.ret ?_
    | refine BQ.here ?_
    | refine BQ.there rfl ?_
    | refine SQ.ret ?_
    | refine SQ.exit ?_
    | refine AC.ret ?_
    | refine AC.exit ?_
    | refine AC.skip ?_
    | (refine AR.split rfl (fun h => ?_) (fun h => ?_) <;> rw [h])
    | (refine AC.cond rfl (fun h => ?_) (fun h => ?_) <;> rw [h])
    | refine FQ.ret rfl rfl ?_
    | refine FQ.normal rfl rfl ?_)
  all_goals rfl
theorem gent27 : Enters Tryz.prog 27 := enters Tryz.func27 (by kernel_rfl) (by kernel_rfl)
theorem ok_tick0   {s : St} {o : Oper} {c : Call} (ho : o.op = .call c) (hc : c.callee = .value (.func 27)) (hargs : evs s c.args.toList = some [.int .i64 0]) : AOk Tryz.prog s o ⟨rq s c.args.toList, []⟩ ⟨.bool true, [], []⟩ :=
  AOk.call (fun w => tick0 w) gent27 ho hc hargs rfl rfl
theorem gent29 : Enters Tryz.prog 29 := enters Tryz.func29 (by kernel_rfl) (by kernel_rfl)
theorem ok_cnew   {s : St} {o : Oper} {c : Call} (ho : o.op = .call c) (hc : c.callee = .value (.func 29)) (hargs : evs s c.args.toList = some [.int .i64 5, .int .i64 1, .int .i64 5, .int .i64 0]) : AOk Tryz.prog s o ⟨rq s c.args.toList, []⟩ ⟨.tuple #[.agg #[.int .i64 5, .int .i64 1, .int .i64 5, .int .i64 0, .slice none 0 0], .int .i64 0], [], []⟩ :=
  AOk.call (fun w => aw_cnew w) gent29 ho hc hargs rfl rfl
theorem gent101 : Enters Tryz.prog 101 := enters Tryz.func101 (by kernel_rfl) (by kernel_rfl)
theorem ok_cval0   {s : St} {o : Oper} {c : Call} (ho : o.op = .call c) (hc : c.callee = .value (.func 101)) (hargs : evs s c.args.toList = some [.agg #[.int .i64 5, .int .i64 1, .int .i64 5, .int .i64 0, .slice none 0 0]]) : AOk Tryz.prog s o ⟨rq s c.args.toList, []⟩ ⟨.int .i64 0, [], []⟩ :=
  AOk.call (fun w => aw_cval0 w) gent101 ho hc hargs rfl rfl
theorem gent95 : Enters Tryz.prog 95 := enters Tryz.func95 (by kernel_rfl) (by kernel_rfl)
theorem ok_oth0   {s : St} {o : Oper} {c : Call} (ho : o.op = .call c) (hc : c.callee = .value (.func 95)) (hargs : evs s c.args.toList = some [.agg (List.toArray (.int .i64 2 :: .int .i64 0 :: .int .i64 5 :: .int .i64 1 :: .int .i64 5 :: .int .i64 0 :: .int .i64 0 :: .int .i64 0 :: .int .i64 0 :: .int .i64 0 :: .int .i64 0 :: .slice none 0 0 :: .int .i64 5 :: .int .i64 1 :: .int .i64 5 :: .int .i64 0 :: .slice none 0 0 :: .int .i64 0 :: .int .i64 0 :: .int .i64 0 :: .int .i64 0 :: .int .i64 0 :: .slice none 0 0 :: .int .i64 0 :: .int .i64 0 :: .int .i64 0 :: .int .i64 0 :: .int .i64 0 :: .int .i64 0 :: .slice none 0 0 :: .int .i64 0 :: .int .i64 0 :: .int .i64 0 :: .int .i64 0 :: .int .i64 0 :: .slice none 0 0 :: .int .i64 0 :: .int .i64 0 :: .int .i64 0 :: .slice none 0 0 :: .int .i64 0 :: .slice none 0 0 :: .bool false :: .int .i64 0 :: .int .i64 0 :: .int .i64 0 :: .slice none 0 0 :: .slice none 0 0 :: .int .i64 0 :: .int .i64 0 :: .int .i64 0 :: .slice none 0 0 :: .int .i64 0 :: .int .i64 0 :: .int .i64 0 :: .int .i64 0 :: .slice none 0 0 :: []))]) : AOk Tryz.prog s o ⟨rq s c.args.toList, []⟩ ⟨.bool true, [], []⟩ :=
  AOk.call (fun w => others_2 0 5 1 5 0 0 0 5 1 5 0 none 0 0 w) gent95 ho hc hargs rfl rfl
theorem gent52 : Enters Tryz.prog 52 := enters Tryz.func52 (by kernel_rfl) (by kernel_rfl)
theorem ok_ans2   {s : St} {o : Oper} {c : Call} (ho : o.op = .call c) (hc : c.callee = .value (.func 52)) (hargs : evs s c.args.toList = some [.agg #[.int .i64 2, .int .i64 0, .int .i64 5, .int .i64 1, .int .i64 5, .int .i64 0, .int .i64 0, .int .i64 0], .int .i64 1]) : AOk Tryz.prog s o ⟨rq s c.args.toList, []⟩ ⟨.bool true, [], []⟩ :=
  AOk.call (fun w => (fun w => ans_2 5 1 5 (by decide) (by decide) (by decide) (by decide) (by decide) (by decide) w) w) gent52 ho hc hargs rfl rfl
theorem ok_cval1   {s : St} {o : Oper} {c : Call} {n : Nat} {b : Box} (ho : o.op = .call c) (hc : c.callee = .value (.func 101)) (hargs : evs s c.args.toList = some ((fun s => [.agg #[.int .i64 5, .int .i64 1, .int .i64 5, .int .i64 0, s]]) (.slice (some ⟨n, 0, none⟩) 1 0))) (hb : En.lk s.σ n = some b) (hbc : ∀ (j : Nat) (v : Value), ([.int .i64 0, .int .i64 0] : List Value)[j]? = some v → b.cells[j]? = some v) (hbk : kBox 2 b = true) : AOk Tryz.prog s o ⟨rq s c.args.toList, [(n, b)]⟩ ⟨.int .i64 0, [], []⟩ :=
  AOk.callS (fun s => [.agg #[.int .i64 5, .int .i64 1, .int .i64 5, .int .i64 0, s]]) n 1 2 [.int .i64 0, .int .i64 0] (fun w A c h => aw_cval1 (k := c) h.sl (Nat.le_refl _)) gent101 ho hc hargs (fun _ => rfl) hb hbc (by decide) rfl rfl hbk rfl
theorem ok_oth1   {s : St} {o : Oper} {c : Call} {n : Nat} {b : Box} (ho : o.op = .call c) (hc : c.callee = .value (.func 95)) (hargs : evs s c.args.toList = some ((fun s => [.agg (List.toArray (.int .i64 2 :: .int .i64 0 :: .int .i64 5 :: .int .i64 1 :: .int .i64 5 :: .int .i64 0 :: .int .i64 0 :: .int .i64 0 :: .int .i64 0 :: .int .i64 0 :: .int .i64 0 :: .slice none 0 0 :: .int .i64 5 :: .int .i64 1 :: .int .i64 5 :: .int .i64 0 :: s :: .int .i64 0 :: .int .i64 0 :: .int .i64 0 :: .int .i64 0 :: .int .i64 0 :: .slice none 0 0 :: .int .i64 0 :: .int .i64 0 :: .int .i64 0 :: .int .i64 0 :: .int .i64 0 :: .int .i64 0 :: .slice none 0 0 :: .int .i64 0 :: .int .i64 0 :: .int .i64 0 :: .int .i64 0 :: .int .i64 0 :: .slice none 0 0 :: .int .i64 0 :: .int .i64 0 :: .int .i64 0 :: .slice none 0 0 :: .int .i64 0 :: .slice none 0 0 :: .bool false :: .int .i64 0 :: .int .i64 0 :: .int .i64 0 :: .slice none 0 0 :: .slice none 0 0 :: .int .i64 0 :: .int .i64 0 :: .int .i64 0 :: .slice none 0 0 :: .int .i64 0 :: .int .i64 0 :: .int .i64 0 :: .int .i64 0 :: .slice none 0 0 :: []))]) (.slice (some ⟨n, 0, none⟩) 1 0))) (hb : En.lk s.σ n = some b) (hbc : ∀ (j : Nat) (v : Value), ([.int .i64 0, .int .i64 0] : List Value)[j]? = some v → b.cells[j]? = some v) (hbk : kBox 2 b = true) : AOk Tryz.prog s o ⟨rq s c.args.toList, [(n, b)]⟩ ⟨.bool true, [], []⟩ :=
  AOk.callS (fun s => [.agg (List.toArray (.int .i64 2 :: .int .i64 0 :: .int .i64 5 :: .int .i64 1 :: .int .i64 5 :: .int .i64 0 :: .int .i64 0 :: .int .i64 0 :: .int .i64 0 :: .int .i64 0 :: .int .i64 0 :: .slice none 0 0 :: .int .i64 5 :: .int .i64 1 :: .int .i64 5 :: .int .i64 0 :: s :: .int .i64 0 :: .int .i64 0 :: .int .i64 0 :: .int .i64 0 :: .int .i64 0 :: .slice none 0 0 :: .int .i64 0 :: .int .i64 0 :: .int .i64 0 :: .int .i64 0 :: .int .i64 0 :: .int .i64 0 :: .slice none 0 0 :: .int .i64 0 :: .int .i64 0 :: .int .i64 0 :: .int .i64 0 :: .int .i64 0 :: .slice none 0 0 :: .int .i64 0 :: .int .i64 0 :: .int .i64 0 :: .slice none 0 0 :: .int .i64 0 :: .slice none 0 0 :: .bool false :: .int .i64 0 :: .int .i64 0 :: .int .i64 0 :: .slice none 0 0 :: .slice none 0 0 :: .int .i64 0 :: .int .i64 0 :: .int .i64 0 :: .slice none 0 0 :: .int .i64 0 :: .int .i64 0 :: .int .i64 0 :: .int .i64 0 :: .slice none 0 0 :: []))]) n 1 2 [.int .i64 0, .int .i64 0] (fun w A c h => others_2 0 5 1 5 0 0 0 5 1 5 0 A 1 c w) gent95 ho hc hargs (fun _ => rfl) hb hbc (by decide) rfl rfl hbk rfl
theorem gent54 : Enters Tryz.prog 54 := enters Tryz.func54 (by kernel_rfl) (by kernel_rfl)
theorem ok_cask   {s : St} {o : Oper} {c : Call} {n : Nat} {b : Box} (ho : o.op = .call c) (hc : c.callee = .value (.func 54)) (hargs : evs s c.args.toList = some ((fun s => [.agg #[.int .i64 5, .int .i64 1, .int .i64 5, .int .i64 0, s]]) (.slice (some ⟨n, 0, none⟩) 1 0))) (hb : En.lk s.σ n = some b) (hbc : ∀ (j : Nat) (v : Value), ([.int .i64 0, .int .i64 0] : List Value)[j]? = some v → b.cells[j]? = some v) (hbk : kBox 2 b = true) : AOk Tryz.prog s o ⟨rq s c.args.toList, [(n, b)]⟩ ⟨.tuple #[.agg #[.int .i64 1, .int .i64 1, .int .i64 1, .int .i64 1, .int .i64 1, .int .i64 1], .int .i64 0], [], []⟩ :=
  AOk.callS (fun s => [.agg #[.int .i64 5, .int .i64 1, .int .i64 5, .int .i64 0, s]]) n 1 2 [.int .i64 0, .int .i64 0] (fun w A c h => aw_cask (k := c) h.sl (Nat.le_refl _)) gent54 ho hc hargs (fun _ => rfl) hb hbc (by decide) rfl rfl hbk rfl
theorem gent42 : Enters Tryz.prog 42 := enters Tryz.func42 (by kernel_rfl) (by kernel_rfl)
theorem ok_cadd (q : Nat) {s : St} {o : Oper} {c : Call} (ho : o.op = .call c) (hc : c.callee = .value (.func 42)) (hargs : evs s c.args.toList = some [.agg #[.int .i64 5, .int .i64 1, .int .i64 5, .int .i64 0, .slice none 0 0]]) (hq : memB q s.al = false) (hN : nbV [q] (.tuple #[.agg #[.int .i64 5, .int .i64 1, .int .i64 5, .int .i64 0, (.slice (some ⟨q, 0, none⟩) 1 0)], .int .i64 0]) = true) : AOk Tryz.prog s o ⟨rq s c.args.toList, []⟩ ⟨.tuple #[.agg #[.int .i64 5, .int .i64 1, .int .i64 5, .int .i64 0, (.slice (some ⟨q, 0, none⟩) 1 0)], .int .i64 0], [], [(q, .vec 262 2 [.int .i64 0, .int .i64 0])]⟩ :=
  AOk.callO0 (fun s => .tuple #[.agg #[.int .i64 5, .int .i64 1, .int .i64 5, .int .i64 0, s], .int .i64 0]) q 1 2 262 [.int .i64 0, .int .i64 0] [.agg #[.int .i64 5, .int .i64 1, .int .i64 5, .int .i64 0, .slice none 0 0]] (fun w => aw_cadd w) gent42 ho hc hargs hq rfl (fun _ => rfl) hN rfl
theorem gent66 : Enters Tryz.prog 66 := enters Tryz.func66 (by kernel_rfl) (by kernel_rfl)
theorem ok_bvalid   {s : St} {o : Oper} {c : Call} (ho : o.op = .call c) (hc : c.callee = .value (.func 66)) (hargs : evs s c.args.toList = some [.agg #[.int .i64 1, .int .i64 1, .int .i64 1, .int .i64 1, .int .i64 1, .int .i64 1]]) : AOk Tryz.prog s o ⟨rq s c.args.toList, []⟩ ⟨.bool true, [], []⟩ :=
  AOk.call (fun w => gb_valid1 w) gent66 ho hc hargs rfl rfl
theorem ok_rof {x : Int}  {s : St} {o : Oper} {c : Call} (ho : o.op = .call c) (hc : c.callee = .value (.func 67)) (hargs : evs s c.args.toList = some [.int .i64 x]) : AOk Tryz.prog s o ⟨rq s c.args.toList, []⟩ ⟨.agg #[.int .i64 x, .int .i64 1], [], []⟩ :=
  AOk.call (fun w => gr_of x w) ent67 ho hc hargs rfl rfl
set_option maxRecDepth 100000 in
theorem gs_right0  (w : World) : Calls Tryz.prog 94 #[.agg (List.toArray (.int .i64 2 :: .int .i64 0 :: .int .i64 5 :: .int .i64 1 :: .int .i64 5 :: .int .i64 0 :: .int .i64 0 :: .int .i64 0 :: .int .i64 0 :: .int .i64 0 :: .int .i64 0 :: .slice none 0 0 :: .int .i64 5 :: .int .i64 1 :: .int .i64 5 :: .int .i64 0 :: .slice none 0 0 :: .int .i64 0 :: .int .i64 0 :: .int .i64 0 :: .int .i64 0 :: .int .i64 0 :: .slice none 0 0 :: .int .i64 0 :: .int .i64 0 :: .int .i64 0 :: .int .i64 0 :: .int .i64 0 :: .int .i64 0 :: .slice none 0 0 :: .int .i64 0 :: .int .i64 0 :: .int .i64 0 :: .int .i64 0 :: .int .i64 0 :: .slice none 0 0 :: .int .i64 0 :: .int .i64 0 :: .int .i64 0 :: .slice none 0 0 :: .int .i64 0 :: .slice none 0 0 :: .bool false :: .int .i64 0 :: .int .i64 0 :: .int .i64 0 :: .slice none 0 0 :: .slice none 0 0 :: .int .i64 0 :: .int .i64 0 :: .int .i64 0 :: .slice none 0 0 :: .int .i64 0 :: .int .i64 0 :: .int .i64 0 :: .int .i64 0 :: .slice none 0 0 :: []))] w (fun e w' => e = .returned (.bool true) ∧ Below w.heap.size w w') := by
  refine fun_flat tblOK mixedP Tryz.func94 rfl [.agg (List.toArray (.int .i64 2 :: .int .i64 0 :: .int .i64 5 :: .int .i64 1 :: .int .i64 5 :: .int .i64 0 :: .int .i64 0 :: .int .i64 0 :: .int .i64 0 :: .int .i64 0 :: .int .i64 0 :: .slice none 0 0 :: .int .i64 5 :: .int .i64 1 :: .int .i64 5 :: .int .i64 0 :: .slice none 0 0 :: .int .i64 0 :: .int .i64 0 :: .int .i64 0 :: .int .i64 0 :: .int .i64 0 :: .slice none 0 0 :: .int .i64 0 :: .int .i64 0 :: .int .i64 0 :: .int .i64 0 :: .int .i64 0 :: .int .i64 0 :: .slice none 0 0 :: .int .i64 0 :: .int .i64 0 :: .int .i64 0 :: .int .i64 0 :: .int .i64 0 :: .slice none 0 0 :: .int .i64 0 :: .int .i64 0 :: .int .i64 0 :: .slice none 0 0 :: .int .i64 0 :: .slice none 0 0 :: .bool false :: .int .i64 0 :: .int .i64 0 :: .int .i64 0 :: .slice none 0 0 :: .slice none 0 0 :: .int .i64 0 :: .int .i64 0 :: .int .i64 0 :: .slice none 0 0 :: .int .i64 0 :: .int .i64 0 :: .int .i64 0 :: .int .i64 0 :: .slice none 0 0 :: []))] w 304 [(0, .agg (List.toArray (.int .i64 2 :: .int .i64 0 :: .int .i64 5 :: .int .i64 1 :: .int .i64 5 :: .int .i64 0 :: .int .i64 0 :: .int .i64 0 :: .int .i64 0 :: .int .i64 0 :: .int .i64 0 :: .slice none 0 0 :: .int .i64 5 :: .int .i64 1 :: .int .i64 5 :: .int .i64 0 :: .slice none 0 0 :: .int .i64 0 :: .int .i64 0 :: .int .i64 0 :: .int .i64 0 :: .int .i64 0 :: .slice none 0 0 :: .int .i64 0 :: .int .i64 0 :: .int .i64 0 :: .int .i64 0 :: .int .i64 0 :: .int .i64 0 :: .slice none 0 0 :: .int .i64 0 :: .int .i64 0 :: .int .i64 0 :: .int .i64 0 :: .int .i64 0 :: .slice none 0 0 :: .int .i64 0 :: .int .i64 0 :: .int .i64 0 :: .slice none 0 0 :: .int .i64 0 :: .slice none 0 0 :: .bool false :: .int .i64 0 :: .int .i64 0 :: .int .i64 0 :: .slice none 0 0 :: .slice none 0 0 :: .int .i64 0 :: .int .i64 0 :: .int .i64 0 :: .slice none 0 0 :: .int .i64 0 :: .int .i64 0 :: .int .i64 0 :: .int .i64 0 :: .slice none 0 0 :: [])))] rfl rfl (by kernel_rfl) rfl rfl rfl _ rfl ?_
  repeat' (first
    | refine AR.auto rfl ?_
    | refine AR.man (ok_cval0 rfl rfl rfl) rfl rfl rfl ?_
    | refine AR.nil ?_
    | refine KF.mk ?_
    | refine KT.mk (by kernel_rfl) ?_
    | refine SQ.normal ?_
    | refine AC.seq ?_
    | refine AC.regF ?_
    | refine AC.regT ?_
    | refine AC.condT rfl ?_
    | refine AC.condF rfl ?_
    | refine AC.block ?_
    | refine BQ.normal ?_
    | refine BQ.ret ?_
    | refine BQ.here ?_
    | refine BQ.there rfl ?_
    | refine SQ.ret ?_
    | refine SQ.exit ?_
    | refine AC.ret ?_
    | refine AC.exit ?_
    | refine AC.skip ?_
    | (refine AR.split rfl (fun h => ?_) (fun h => ?_) <;> rw [h])
    | (refine AC.cond rfl (fun h => ?_) (fun h => ?_) <;> rw [h])
    | refine FQ.ret rfl rfl ?_
    | refine FQ.normal rfl rfl ?_)
  all_goals rfl
theorem gent94 : Enters Tryz.prog 94 := enters Tryz.func94 (by kernel_rfl) (by kernel_rfl)
theorem ok_gs_right0   {s : St} {o : Oper} {c : Call} (ho : o.op = .call c) (hc : c.callee = .value (.func 94)) (hargs : evs s c.args.toList = some [.agg (List.toArray (.int .i64 2 :: .int .i64 0 :: .int .i64 5 :: .int .i64 1 :: .int .i64 5 :: .int .i64 0 :: .int .i64 0 :: .int .i64 0 :: .int .i64 0 :: .int .i64 0 :: .int .i64 0 :: .slice none 0 0 :: .int .i64 5 :: .int .i64 1 :: .int .i64 5 :: .int .i64 0 :: .slice none 0 0 :: .int .i64 0 :: .int .i64 0 :: .int .i64 0 :: .int .i64 0 :: .int .i64 0 :: .slice none 0 0 :: .int .i64 0 :: .int .i64 0 :: .int .i64 0 :: .int .i64 0 :: .int .i64 0 :: .int .i64 0 :: .slice none 0 0 :: .int .i64 0 :: .int .i64 0 :: .int .i64 0 :: .int .i64 0 :: .int .i64 0 :: .slice none 0 0 :: .int .i64 0 :: .int .i64 0 :: .int .i64 0 :: .slice none 0 0 :: .int .i64 0 :: .slice none 0 0 :: .bool false :: .int .i64 0 :: .int .i64 0 :: .int .i64 0 :: .slice none 0 0 :: .slice none 0 0 :: .int .i64 0 :: .int .i64 0 :: .int .i64 0 :: .slice none 0 0 :: .int .i64 0 :: .int .i64 0 :: .int .i64 0 :: .int .i64 0 :: .slice none 0 0 :: []))]) : AOk Tryz.prog s o ⟨rq s c.args.toList, []⟩ ⟨.bool true, [], []⟩ :=
  AOk.call (fun w => gs_right0 w) gent94 ho hc hargs rfl rfl
set_option maxRecDepth 100000 in
theorem gs_val0  (w : World) : Calls Tryz.prog 39 #[.agg (List.toArray (.int .i64 2 :: .int .i64 0 :: .int .i64 5 :: .int .i64 1 :: .int .i64 5 :: .int .i64 0 :: .int .i64 0 :: .int .i64 0 :: .int .i64 0 :: .int .i64 0 :: .int .i64 0 :: .slice none 0 0 :: .int .i64 5 :: .int .i64 1 :: .int .i64 5 :: .int .i64 0 :: .slice none 0 0 :: .int .i64 0 :: .int .i64 0 :: .int .i64 0 :: .int .i64 0 :: .int .i64 0 :: .slice none 0 0 :: .int .i64 0 :: .int .i64 0 :: .int .i64 0 :: .int .i64 0 :: .int .i64 0 :: .int .i64 0 :: .slice none 0 0 :: .int .i64 0 :: .int .i64 0 :: .int .i64 0 :: .int .i64 0 :: .int .i64 0 :: .slice none 0 0 :: .int .i64 0 :: .int .i64 0 :: .int .i64 0 :: .slice none 0 0 :: .int .i64 0 :: .slice none 0 0 :: .bool false :: .int .i64 0 :: .int .i64 0 :: .int .i64 0 :: .slice none 0 0 :: .slice none 0 0 :: .int .i64 0 :: .int .i64 0 :: .int .i64 0 :: .slice none 0 0 :: .int .i64 0 :: .int .i64 0 :: .int .i64 0 :: .int .i64 0 :: .slice none 0 0 :: []))] w (fun e w' => e = .returned (.int .i64 0) ∧ Below w.heap.size w w') := by
  refine fun_flat tblOK mixedP Tryz.func39 rfl [.agg (List.toArray (.int .i64 2 :: .int .i64 0 :: .int .i64 5 :: .int .i64 1 :: .int .i64 5 :: .int .i64 0 :: .int .i64 0 :: .int .i64 0 :: .int .i64 0 :: .int .i64 0 :: .int .i64 0 :: .slice none 0 0 :: .int .i64 5 :: .int .i64 1 :: .int .i64 5 :: .int .i64 0 :: .slice none 0 0 :: .int .i64 0 :: .int .i64 0 :: .int .i64 0 :: .int .i64 0 :: .int .i64 0 :: .slice none 0 0 :: .int .i64 0 :: .int .i64 0 :: .int .i64 0 :: .int .i64 0 :: .int .i64 0 :: .int .i64 0 :: .slice none 0 0 :: .int .i64 0 :: .int .i64 0 :: .int .i64 0 :: .int .i64 0 :: .int .i64 0 :: .slice none 0 0 :: .int .i64 0 :: .int .i64 0 :: .int .i64 0 :: .slice none 0 0 :: .int .i64 0 :: .slice none 0 0 :: .bool false :: .int .i64 0 :: .int .i64 0 :: .int .i64 0 :: .slice none 0 0 :: .slice none 0 0 :: .int .i64 0 :: .int .i64 0 :: .int .i64 0 :: .slice none 0 0 :: .int .i64 0 :: .int .i64 0 :: .int .i64 0 :: .int .i64 0 :: .slice none 0 0 :: []))] w 17 [(0, .agg (List.toArray (.int .i64 2 :: .int .i64 0 :: .int .i64 5 :: .int .i64 1 :: .int .i64 5 :: .int .i64 0 :: .int .i64 0 :: .int .i64 0 :: .int .i64 0 :: .int .i64 0 :: .int .i64 0 :: .slice none 0 0 :: .int .i64 5 :: .int .i64 1 :: .int .i64 5 :: .int .i64 0 :: .slice none 0 0 :: .int .i64 0 :: .int .i64 0 :: .int .i64 0 :: .int .i64 0 :: .int .i64 0 :: .slice none 0 0 :: .int .i64 0 :: .int .i64 0 :: .int .i64 0 :: .int .i64 0 :: .int .i64 0 :: .int .i64 0 :: .slice none 0 0 :: .int .i64 0 :: .int .i64 0 :: .int .i64 0 :: .int .i64 0 :: .int .i64 0 :: .slice none 0 0 :: .int .i64 0 :: .int .i64 0 :: .int .i64 0 :: .slice none 0 0 :: .int .i64 0 :: .slice none 0 0 :: .bool false :: .int .i64 0 :: .int .i64 0 :: .int .i64 0 :: .slice none 0 0 :: .slice none 0 0 :: .int .i64 0 :: .int .i64 0 :: .int .i64 0 :: .slice none 0 0 :: .int .i64 0 :: .int .i64 0 :: .int .i64 0 :: .int .i64 0 :: .slice none 0 0 :: [])))] rfl rfl (by kernel_rfl) rfl rfl rfl _ rfl ?_
  repeat' (first
    | refine AR.auto rfl ?_
    | refine AR.man (ok_cfg2 rfl rfl rfl) rfl rfl rfl ?_
    | refine AR.man (ok_gs_right0 rfl rfl rfl) rfl rfl rfl ?_
    | refine AR.man (ok_oth0 rfl rfl rfl) rfl rfl rfl ?_
    | refine AR.nil ?_
    | refine KF.mk ?_
    | refine KT.mk (by kernel_rfl) ?_
    | refine SQ.normal ?_
    | refine AC.seq ?_
    | refine AC.regF ?_
    | refine AC.regT ?_
    | refine AC.condT rfl ?_
    | refine AC.condF rfl ?_
    | refine AC.block ?_
    | refine BQ.normal ?_
    | refine BQ.ret ?_
    | refine BQ.here ?_
    | refine BQ.there rfl ?_
    | refine SQ.ret ?_
    | refine SQ.exit ?_
    | refine AC.ret ?_
    | refine AC.exit ?_
    | refine AC.skip ?_
    | (refine AR.split rfl (fun h => ?_) (fun h => ?_) <;> rw [h])
    | (refine AC.cond rfl (fun h => ?_) (fun h => ?_) <;> rw [h])
    | refine FQ.ret rfl rfl ?_
    | refine FQ.normal rfl rfl ?_)
  all_goals rfl
theorem gent39 : Enters Tryz.prog 39 := enters Tryz.func39 (by kernel_rfl) (by kernel_rfl)
theorem ok_gs_val0   {s : St} {o : Oper} {c : Call} (ho : o.op = .call c) (hc : c.callee = .value (.func 39)) (hargs : evs s c.args.toList = some [.agg (List.toArray (.int .i64 2 :: .int .i64 0 :: .int .i64 5 :: .int .i64 1 :: .int .i64 5 :: .int .i64 0 :: .int .i64 0 :: .int .i64 0 :: .int .i64 0 :: .int .i64 0 :: .int .i64 0 :: .slice none 0 0 :: .int .i64 5 :: .int .i64 1 :: .int .i64 5 :: .int .i64 0 :: .slice none 0 0 :: .int .i64 0 :: .int .i64 0 :: .int .i64 0 :: .int .i64 0 :: .int .i64 0 :: .slice none 0 0 :: .int .i64 0 :: .int .i64 0 :: .int .i64 0 :: .int .i64 0 :: .int .i64 0 :: .int .i64 0 :: .slice none 0 0 :: .int .i64 0 :: .int .i64 0 :: .int .i64 0 :: .int .i64 0 :: .int .i64 0 :: .slice none 0 0 :: .int .i64 0 :: .int .i64 0 :: .int .i64 0 :: .slice none 0 0 :: .int .i64 0 :: .slice none 0 0 :: .bool false :: .int .i64 0 :: .int .i64 0 :: .int .i64 0 :: .slice none 0 0 :: .slice none 0 0 :: .int .i64 0 :: .int .i64 0 :: .int .i64 0 :: .slice none 0 0 :: .int .i64 0 :: .int .i64 0 :: .int .i64 0 :: .int .i64 0 :: .slice none 0 0 :: []))]) : AOk Tryz.prog s o ⟨rq s c.args.toList, []⟩ ⟨.int .i64 0, [], []⟩ :=
  AOk.call (fun w => gs_val0 w) gent39 ho hc hargs rfl rfl
set_option maxRecDepth 100000 in
theorem gs_right1 (w : World) (A : Option Addr) (c : Nat) (h : SL w A 1 c 2 [.int .i64 0, .int .i64 0]) : Calls Tryz.prog 94 #[.agg (List.toArray (.int .i64 2 :: .int .i64 0 :: .int .i64 5 :: .int .i64 1 :: .int .i64 5 :: .int .i64 0 :: .int .i64 0 :: .int .i64 0 :: .int .i64 0 :: .int .i64 0 :: .int .i64 0 :: .slice none 0 0 :: .int .i64 5 :: .int .i64 1 :: .int .i64 5 :: .int .i64 0 :: .slice A 1 c :: .int .i64 0 :: .int .i64 0 :: .int .i64 0 :: .int .i64 0 :: .int .i64 0 :: .slice none 0 0 :: .int .i64 0 :: .int .i64 0 :: .int .i64 0 :: .int .i64 0 :: .int .i64 0 :: .int .i64 0 :: .slice none 0 0 :: .int .i64 0 :: .int .i64 0 :: .int .i64 0 :: .int .i64 0 :: .int .i64 0 :: .slice none 0 0 :: .int .i64 0 :: .int .i64 0 :: .int .i64 0 :: .slice none 0 0 :: .int .i64 0 :: .slice none 0 0 :: .bool false :: .int .i64 0 :: .int .i64 0 :: .int .i64 0 :: .slice none 0 0 :: .slice none 0 0 :: .int .i64 0 :: .int .i64 0 :: .int .i64 0 :: .slice none 0 0 :: .int .i64 0 :: .int .i64 0 :: .int .i64 0 :: .int .i64 0 :: .slice none 0 0 :: []))] w (fun e w' => e = .returned (.bool true) ∧ Below w.heap.size w w') := by
  refine fun_sliceF tblOK mixedP Tryz.func94 rfl (fun s => [.agg (List.toArray (.int .i64 2 :: .int .i64 0 :: .int .i64 5 :: .int .i64 1 :: .int .i64 5 :: .int .i64 0 :: .int .i64 0 :: .int .i64 0 :: .int .i64 0 :: .int .i64 0 :: .int .i64 0 :: .slice none 0 0 :: .int .i64 5 :: .int .i64 1 :: .int .i64 5 :: .int .i64 0 :: s :: .int .i64 0 :: .int .i64 0 :: .int .i64 0 :: .int .i64 0 :: .int .i64 0 :: .slice none 0 0 :: .int .i64 0 :: .int .i64 0 :: .int .i64 0 :: .int .i64 0 :: .int .i64 0 :: .int .i64 0 :: .slice none 0 0 :: .int .i64 0 :: .int .i64 0 :: .int .i64 0 :: .int .i64 0 :: .int .i64 0 :: .slice none 0 0 :: .int .i64 0 :: .int .i64 0 :: .int .i64 0 :: .slice none 0 0 :: .int .i64 0 :: .slice none 0 0 :: .bool false :: .int .i64 0 :: .int .i64 0 :: .int .i64 0 :: .slice none 0 0 :: .slice none 0 0 :: .int .i64 0 :: .int .i64 0 :: .int .i64 0 :: .slice none 0 0 :: .int .i64 0 :: .int .i64 0 :: .int .i64 0 :: .int .i64 0 :: .slice none 0 0 :: []))]) 1 2 [.int .i64 0, .int .i64 0] h (by decide) rfl [.agg (List.toArray (.int .i64 2 :: .int .i64 0 :: .int .i64 5 :: .int .i64 1 :: .int .i64 5 :: .int .i64 0 :: .int .i64 0 :: .int .i64 0 :: .int .i64 0 :: .int .i64 0 :: .int .i64 0 :: .slice none 0 0 :: .int .i64 5 :: .int .i64 1 :: .int .i64 5 :: .int .i64 0 :: (.slice (some ⟨0, 0, none⟩) 1 0) :: .int .i64 0 :: .int .i64 0 :: .int .i64 0 :: .int .i64 0 :: .int .i64 0 :: .slice none 0 0 :: .int .i64 0 :: .int .i64 0 :: .int .i64 0 :: .int .i64 0 :: .int .i64 0 :: .int .i64 0 :: .slice none 0 0 :: .int .i64 0 :: .int .i64 0 :: .int .i64 0 :: .int .i64 0 :: .int .i64 0 :: .slice none 0 0 :: .int .i64 0 :: .int .i64 0 :: .int .i64 0 :: .slice none 0 0 :: .int .i64 0 :: .slice none 0 0 :: .bool false :: .int .i64 0 :: .int .i64 0 :: .int .i64 0 :: .slice none 0 0 :: .slice none 0 0 :: .int .i64 0 :: .int .i64 0 :: .int .i64 0 :: .slice none 0 0 :: .int .i64 0 :: .int .i64 0 :: .int .i64 0 :: .int .i64 0 :: .slice none 0 0 :: []))] rfl (fun _ => rfl) 304 [(0, .agg (List.toArray (.int .i64 2 :: .int .i64 0 :: .int .i64 5 :: .int .i64 1 :: .int .i64 5 :: .int .i64 0 :: .int .i64 0 :: .int .i64 0 :: .int .i64 0 :: .int .i64 0 :: .int .i64 0 :: .slice none 0 0 :: .int .i64 5 :: .int .i64 1 :: .int .i64 5 :: .int .i64 0 :: (.slice (some ⟨0, 0, none⟩) 1 0) :: .int .i64 0 :: .int .i64 0 :: .int .i64 0 :: .int .i64 0 :: .int .i64 0 :: .slice none 0 0 :: .int .i64 0 :: .int .i64 0 :: .int .i64 0 :: .int .i64 0 :: .int .i64 0 :: .int .i64 0 :: .slice none 0 0 :: .int .i64 0 :: .int .i64 0 :: .int .i64 0 :: .int .i64 0 :: .int .i64 0 :: .slice none 0 0 :: .int .i64 0 :: .int .i64 0 :: .int .i64 0 :: .slice none 0 0 :: .int .i64 0 :: .slice none 0 0 :: .bool false :: .int .i64 0 :: .int .i64 0 :: .int .i64 0 :: .slice none 0 0 :: .slice none 0 0 :: .int .i64 0 :: .int .i64 0 :: .int .i64 0 :: .slice none 0 0 :: .int .i64 0 :: .int .i64 0 :: .int .i64 0 :: .int .i64 0 :: .slice none 0 0 :: [])))] rfl rfl (by kernel_rfl) rfl rfl _ rfl ?_
  repeat' (first
    | refine AR.auto rfl ?_
    | refine AR.man (ok_cval1 rfl rfl rfl rfl (fun _ _ h => h) rfl) rfl rfl rfl ?_
    | refine AR.nil ?_
    | refine KF.mk ?_
    | refine KT.mk (by kernel_rfl) ?_
    | refine SQ.normal ?_
    | refine AC.seq ?_
    | refine AC.regF ?_
    | refine AC.regT ?_
    | refine AC.condT rfl ?_
    | refine AC.condF rfl ?_
    | refine AC.block ?_
    | refine BQ.normal ?_
    | refine BQ.ret ?_
    | refine BQ.here ?_
    | refine BQ.there rfl ?_
    | refine SQ.ret ?_
    | refine SQ.exit ?_
    | refine AC.ret ?_
    | refine AC.exit ?_
    | refine AC.skip ?_
    | (refine AR.split rfl (fun h => ?_) (fun h => ?_) <;> rw [h])
    | (refine AC.cond rfl (fun h => ?_) (fun h => ?_) <;> rw [h])
    | refine FQ.ret rfl rfl ?_
    | refine FQ.normal rfl rfl ?_)
  all_goals rfl
theorem ok_gs_right1   {s : St} {o : Oper} {c : Call} {n : Nat} {b : Box} (ho : o.op = .call c) (hc : c.callee = .value (.func 94)) (hargs : evs s c.args.toList = some ((fun s => [.agg (List.toArray (.int .i64 2 :: .int .i64 0 :: .int .i64 5 :: .int .i64 1 :: .int .i64 5 :: .int .i64 0 :: .int .i64 0 :: .int .i64 0 :: .int .i64 0 :: .int .i64 0 :: .int .i64 0 :: .slice none 0 0 :: .int .i64 5 :: .int .i64 1 :: .int .i64 5 :: .int .i64 0 :: s :: .int .i64 0 :: .int .i64 0 :: .int .i64 0 :: .int .i64 0 :: .int .i64 0 :: .slice none 0 0 :: .int .i64 0 :: .int .i64 0 :: .int .i64 0 :: .int .i64 0 :: .int .i64 0 :: .int .i64 0 :: .slice none 0 0 :: .int .i64 0 :: .int .i64 0 :: .int .i64 0 :: .int .i64 0 :: .int .i64 0 :: .slice none 0 0 :: .int .i64 0 :: .int .i64 0 :: .int .i64 0 :: .slice none 0 0 :: .int .i64 0 :: .slice none 0 0 :: .bool false :: .int .i64 0 :: .int .i64 0 :: .int .i64 0 :: .slice none 0 0 :: .slice none 0 0 :: .int .i64 0 :: .int .i64 0 :: .int .i64 0 :: .slice none 0 0 :: .int .i64 0 :: .int .i64 0 :: .int .i64 0 :: .int .i64 0 :: .slice none 0 0 :: []))]) (.slice (some ⟨n, 0, none⟩) 1 0))) (hb : En.lk s.σ n = some b) (hbc : ∀ (j : Nat) (v : Value), ([.int .i64 0, .int .i64 0] : List Value)[j]? = some v → b.cells[j]? = some v) (hbk : kBox 2 b = true) : AOk Tryz.prog s o ⟨rq s c.args.toList, [(n, b)]⟩ ⟨.bool true, [], []⟩ :=
  AOk.callS (fun s => [.agg (List.toArray (.int .i64 2 :: .int .i64 0 :: .int .i64 5 :: .int .i64 1 :: .int .i64 5 :: .int .i64 0 :: .int .i64 0 :: .int .i64 0 :: .int .i64 0 :: .int .i64 0 :: .int .i64 0 :: .slice none 0 0 :: .int .i64 5 :: .int .i64 1 :: .int .i64 5 :: .int .i64 0 :: s :: .int .i64 0 :: .int .i64 0 :: .int .i64 0 :: .int .i64 0 :: .int .i64 0 :: .slice none 0 0 :: .int .i64 0 :: .int .i64 0 :: .int .i64 0 :: .int .i64 0 :: .int .i64 0 :: .int .i64 0 :: .slice none 0 0 :: .int .i64 0 :: .int .i64 0 :: .int .i64 0 :: .int .i64 0 :: .int .i64 0 :: .slice none 0 0 :: .int .i64 0 :: .int .i64 0 :: .int .i64 0 :: .slice none 0 0 :: .int .i64 0 :: .slice none 0 0 :: .bool false :: .int .i64 0 :: .int .i64 0 :: .int .i64 0 :: .slice none 0 0 :: .slice none 0 0 :: .int .i64 0 :: .int .i64 0 :: .int .i64 0 :: .slice none 0 0 :: .int .i64 0 :: .int .i64 0 :: .int .i64 0 :: .int .i64 0 :: .slice none 0 0 :: []))]) n 1 2 [.int .i64 0, .int .i64 0] (fun w A c h => gs_right1 w A c h) gent94 ho hc hargs (fun _ => rfl) hb hbc (by decide) rfl rfl hbk rfl
set_option maxRecDepth 100000 in
theorem gs_val1 (w : World) (A : Option Addr) (c : Nat) (h : SL w A 1 c 2 [.int .i64 0, .int .i64 0]) : Calls Tryz.prog 39 #[.agg (List.toArray (.int .i64 2 :: .int .i64 0 :: .int .i64 5 :: .int .i64 1 :: .int .i64 5 :: .int .i64 0 :: .int .i64 0 :: .int .i64 0 :: .int .i64 0 :: .int .i64 0 :: .int .i64 0 :: .slice none 0 0 :: .int .i64 5 :: .int .i64 1 :: .int .i64 5 :: .int .i64 0 :: .slice A 1 c :: .int .i64 0 :: .int .i64 0 :: .int .i64 0 :: .int .i64 0 :: .int .i64 0 :: .slice none 0 0 :: .int .i64 0 :: .int .i64 0 :: .int .i64 0 :: .int .i64 0 :: .int .i64 0 :: .int .i64 0 :: .slice none 0 0 :: .int .i64 0 :: .int .i64 0 :: .int .i64 0 :: .int .i64 0 :: .int .i64 0 :: .slice none 0 0 :: .int .i64 0 :: .int .i64 0 :: .int .i64 0 :: .slice none 0 0 :: .int .i64 0 :: .slice none 0 0 :: .bool false :: .int .i64 0 :: .int .i64 0 :: .int .i64 0 :: .slice none 0 0 :: .slice none 0 0 :: .int .i64 0 :: .int .i64 0 :: .int .i64 0 :: .slice none 0 0 :: .int .i64 0 :: .int .i64 0 :: .int .i64 0 :: .int .i64 0 :: .slice none 0 0 :: []))] w (fun e w' => e = .returned (.int .i64 0) ∧ Below w.heap.size w w') := by
  refine fun_sliceF tblOK mixedP Tryz.func39 rfl (fun s => [.agg (List.toArray (.int .i64 2 :: .int .i64 0 :: .int .i64 5 :: .int .i64 1 :: .int .i64 5 :: .int .i64 0 :: .int .i64 0 :: .int .i64 0 :: .int .i64 0 :: .int .i64 0 :: .int .i64 0 :: .slice none 0 0 :: .int .i64 5 :: .int .i64 1 :: .int .i64 5 :: .int .i64 0 :: s :: .int .i64 0 :: .int .i64 0 :: .int .i64 0 :: .int .i64 0 :: .int .i64 0 :: .slice none 0 0 :: .int .i64 0 :: .int .i64 0 :: .int .i64 0 :: .int .i64 0 :: .int .i64 0 :: .int .i64 0 :: .slice none 0 0 :: .int .i64 0 :: .int .i64 0 :: .int .i64 0 :: .int .i64 0 :: .int .i64 0 :: .slice none 0 0 :: .int .i64 0 :: .int .i64 0 :: .int .i64 0 :: .slice none 0 0 :: .int .i64 0 :: .slice none 0 0 :: .bool false :: .int .i64 0 :: .int .i64 0 :: .int .i64 0 :: .slice none 0 0 :: .slice none 0 0 :: .int .i64 0 :: .int .i64 0 :: .int .i64 0 :: .slice none 0 0 :: .int .i64 0 :: .int .i64 0 :: .int .i64 0 :: .int .i64 0 :: .slice none 0 0 :: []))]) 1 2 [.int .i64 0, .int .i64 0] h (by decide) rfl [.agg (List.toArray (.int .i64 2 :: .int .i64 0 :: .int .i64 5 :: .int .i64 1 :: .int .i64 5 :: .int .i64 0 :: .int .i64 0 :: .int .i64 0 :: .int .i64 0 :: .int .i64 0 :: .int .i64 0 :: .slice none 0 0 :: .int .i64 5 :: .int .i64 1 :: .int .i64 5 :: .int .i64 0 :: (.slice (some ⟨0, 0, none⟩) 1 0) :: .int .i64 0 :: .int .i64 0 :: .int .i64 0 :: .int .i64 0 :: .int .i64 0 :: .slice none 0 0 :: .int .i64 0 :: .int .i64 0 :: .int .i64 0 :: .int .i64 0 :: .int .i64 0 :: .int .i64 0 :: .slice none 0 0 :: .int .i64 0 :: .int .i64 0 :: .int .i64 0 :: .int .i64 0 :: .int .i64 0 :: .slice none 0 0 :: .int .i64 0 :: .int .i64 0 :: .int .i64 0 :: .slice none 0 0 :: .int .i64 0 :: .slice none 0 0 :: .bool false :: .int .i64 0 :: .int .i64 0 :: .int .i64 0 :: .slice none 0 0 :: .slice none 0 0 :: .int .i64 0 :: .int .i64 0 :: .int .i64 0 :: .slice none 0 0 :: .int .i64 0 :: .int .i64 0 :: .int .i64 0 :: .int .i64 0 :: .slice none 0 0 :: []))] rfl (fun _ => rfl) 17 [(0, .agg (List.toArray (.int .i64 2 :: .int .i64 0 :: .int .i64 5 :: .int .i64 1 :: .int .i64 5 :: .int .i64 0 :: .int .i64 0 :: .int .i64 0 :: .int .i64 0 :: .int .i64 0 :: .int .i64 0 :: .slice none 0 0 :: .int .i64 5 :: .int .i64 1 :: .int .i64 5 :: .int .i64 0 :: (.slice (some ⟨0, 0, none⟩) 1 0) :: .int .i64 0 :: .int .i64 0 :: .int .i64 0 :: .int .i64 0 :: .int .i64 0 :: .slice none 0 0 :: .int .i64 0 :: .int .i64 0 :: .int .i64 0 :: .int .i64 0 :: .int .i64 0 :: .int .i64 0 :: .slice none 0 0 :: .int .i64 0 :: .int .i64 0 :: .int .i64 0 :: .int .i64 0 :: .int .i64 0 :: .slice none 0 0 :: .int .i64 0 :: .int .i64 0 :: .int .i64 0 :: .slice none 0 0 :: .int .i64 0 :: .slice none 0 0 :: .bool false :: .int .i64 0 :: .int .i64 0 :: .int .i64 0 :: .slice none 0 0 :: .slice none 0 0 :: .int .i64 0 :: .int .i64 0 :: .int .i64 0 :: .slice none 0 0 :: .int .i64 0 :: .int .i64 0 :: .int .i64 0 :: .int .i64 0 :: .slice none 0 0 :: [])))] rfl rfl (by kernel_rfl) rfl rfl _ rfl ?_
  repeat' (first
    | refine AR.auto rfl ?_
    | refine AR.man (ok_cfg2 rfl rfl rfl) rfl rfl rfl ?_
    | refine AR.man (ok_gs_right1 rfl rfl rfl rfl (fun _ _ h => h) rfl) rfl rfl rfl ?_
    | refine AR.man (ok_oth1 rfl rfl rfl rfl (fun _ _ h => h) rfl) rfl rfl rfl ?_
    | refine AR.nil ?_
    | refine KF.mk ?_
    | refine KT.mk (by kernel_rfl) ?_
    | refine SQ.normal ?_
    | refine AC.seq ?_
    | refine AC.regF ?_
    | refine AC.regT ?_
    | refine AC.condT rfl ?_
    | refine AC.condF rfl ?_
    | refine AC.block ?_
    | refine BQ.normal ?_
    | refine BQ.ret ?_
    | refine BQ.here ?_
    | refine BQ.there rfl ?_
    | refine SQ.ret ?_
    | refine SQ.exit ?_
    | refine AC.ret ?_
    | refine AC.exit ?_
    | refine AC.skip ?_
    | (refine AR.split rfl (fun h => ?_) (fun h => ?_) <;> rw [h])
    | (refine AC.cond rfl (fun h => ?_) (fun h => ?_) <;> rw [h])
    | refine FQ.ret rfl rfl ?_
    | refine FQ.normal rfl rfl ?_)
  all_goals rfl
theorem ok_gs_val1   {s : St} {o : Oper} {c : Call} {n : Nat} {b : Box} (ho : o.op = .call c) (hc : c.callee = .value (.func 39)) (hargs : evs s c.args.toList = some ((fun s => [.agg (List.toArray (.int .i64 2 :: .int .i64 0 :: .int .i64 5 :: .int .i64 1 :: .int .i64 5 :: .int .i64 0 :: .int .i64 0 :: .int .i64 0 :: .int .i64 0 :: .int .i64 0 :: .int .i64 0 :: .slice none 0 0 :: .int .i64 5 :: .int .i64 1 :: .int .i64 5 :: .int .i64 0 :: s :: .int .i64 0 :: .int .i64 0 :: .int .i64 0 :: .int .i64 0 :: .int .i64 0 :: .slice none 0 0 :: .int .i64 0 :: .int .i64 0 :: .int .i64 0 :: .int .i64 0 :: .int .i64 0 :: .int .i64 0 :: .slice none 0 0 :: .int .i64 0 :: .int .i64 0 :: .int .i64 0 :: .int .i64 0 :: .int .i64 0 :: .slice none 0 0 :: .int .i64 0 :: .int .i64 0 :: .int .i64 0 :: .slice none 0 0 :: .int .i64 0 :: .slice none 0 0 :: .bool false :: .int .i64 0 :: .int .i64 0 :: .int .i64 0 :: .slice none 0 0 :: .slice none 0 0 :: .int .i64 0 :: .int .i64 0 :: .int .i64 0 :: .slice none 0 0 :: .int .i64 0 :: .int .i64 0 :: .int .i64 0 :: .int .i64 0 :: .slice none 0 0 :: []))]) (.slice (some ⟨n, 0, none⟩) 1 0))) (hb : En.lk s.σ n = some b) (hbc : ∀ (j : Nat) (v : Value), ([.int .i64 0, .int .i64 0] : List Value)[j]? = some v → b.cells[j]? = some v) (hbk : kBox 2 b = true) : AOk Tryz.prog s o ⟨rq s c.args.toList, [(n, b)]⟩ ⟨.int .i64 0, [], []⟩ :=
  AOk.callS (fun s => [.agg (List.toArray (.int .i64 2 :: .int .i64 0 :: .int .i64 5 :: .int .i64 1 :: .int .i64 5 :: .int .i64 0 :: .int .i64 0 :: .int .i64 0 :: .int .i64 0 :: .int .i64 0 :: .int .i64 0 :: .slice none 0 0 :: .int .i64 5 :: .int .i64 1 :: .int .i64 5 :: .int .i64 0 :: s :: .int .i64 0 :: .int .i64 0 :: .int .i64 0 :: .int .i64 0 :: .int .i64 0 :: .slice none 0 0 :: .int .i64 0 :: .int .i64 0 :: .int .i64 0 :: .int .i64 0 :: .int .i64 0 :: .int .i64 0 :: .slice none 0 0 :: .int .i64 0 :: .int .i64 0 :: .int .i64 0 :: .int .i64 0 :: .int .i64 0 :: .slice none 0 0 :: .int .i64 0 :: .int .i64 0 :: .int .i64 0 :: .slice none 0 0 :: .int .i64 0 :: .slice none 0 0 :: .bool false :: .int .i64 0 :: .int .i64 0 :: .int .i64 0 :: .slice none 0 0 :: .slice none 0 0 :: .int .i64 0 :: .int .i64 0 :: .int .i64 0 :: .slice none 0 0 :: .int .i64 0 :: .int .i64 0 :: .int .i64 0 :: .int .i64 0 :: .slice none 0 0 :: []))]) n 1 2 [.int .i64 0, .int .i64 0] (fun w A c h => gs_val1 w A c h) gent39 ho hc hargs (fun _ => rfl) hb hbc (by decide) rfl rfl hbk rfl
set_option maxRecDepth 100000 in
theorem gs_new  (w : World) : Calls Tryz.prog 7 #[.agg #[.int .i64 2, .int .i64 0, .int .i64 5, .int .i64 1, .int .i64 5, .int .i64 0, .int .i64 0, .int .i64 0], .int .i64 0] w (fun e w' => e = .returned (.tuple #[.agg (List.toArray (.int .i64 2 :: .int .i64 0 :: .int .i64 5 :: .int .i64 1 :: .int .i64 5 :: .int .i64 0 :: .int .i64 0 :: .int .i64 0 :: .int .i64 0 :: .int .i64 0 :: .int .i64 0 :: .slice none 0 0 :: .int .i64 5 :: .int .i64 1 :: .int .i64 5 :: .int .i64 0 :: .slice none 0 0 :: .int .i64 0 :: .int .i64 0 :: .int .i64 0 :: .int .i64 0 :: .int .i64 0 :: .slice none 0 0 :: .int .i64 0 :: .int .i64 0 :: .int .i64 0 :: .int .i64 0 :: .int .i64 0 :: .int .i64 0 :: .slice none 0 0 :: .int .i64 0 :: .int .i64 0 :: .int .i64 0 :: .int .i64 0 :: .int .i64 0 :: .slice none 0 0 :: .int .i64 0 :: .int .i64 0 :: .int .i64 0 :: .slice none 0 0 :: .int .i64 0 :: .slice none 0 0 :: .bool false :: .int .i64 0 :: .int .i64 0 :: .int .i64 0 :: .slice none 0 0 :: .slice none 0 0 :: .int .i64 0 :: .int .i64 0 :: .int .i64 0 :: .slice none 0 0 :: .int .i64 0 :: .int .i64 0 :: .int .i64 0 :: .int .i64 0 :: .slice none 0 0 :: [])), .int .i64 0]) ∧ Below w.heap.size w w') := by
  refine fun_flat tblOK mixedP Tryz.func7 rfl [.agg #[.int .i64 2, .int .i64 0, .int .i64 5, .int .i64 1, .int .i64 5, .int .i64 0, .int .i64 0, .int .i64 0], .int .i64 0] w 173 [(0, .agg #[.int .i64 2, .int .i64 0, .int .i64 5, .int .i64 1, .int .i64 5, .int .i64 0, .int .i64 0, .int .i64 0]), (1, .int .i64 0)] rfl rfl (by kernel_rfl) rfl rfl rfl _ rfl ?_
  repeat' (first
    | refine AR.auto rfl ?_
    | refine AR.man (ok_cfg2 rfl rfl rfl) rfl rfl rfl ?_
    | refine AR.man (ok_tick0 rfl rfl rfl) rfl rfl rfl ?_
    | refine AR.man (ok_cnew rfl rfl rfl) rfl rfl rfl ?_
    | refine AR.nil ?_
    | refine KF.mk ?_
    | refine KT.mk (by kernel_rfl) ?_
    | refine SQ.normal ?_
    | refine AC.seq ?_
    | refine AC.regF ?_
    | refine AC.regT ?_
    | refine AC.condT rfl ?_
    | refine AC.condF rfl ?_
    | refine AC.block ?_
    | refine BQ.normal ?_
    | refine BQ.ret ?_
    | refine BQ.here ?_
    | refine BQ.there rfl ?_
    | refine SQ.ret ?_
    | refine SQ.exit ?_
    | refine AC.ret ?_
    | refine AC.exit ?_
    | refine AC.skip ?_
    | (refine AR.split rfl (fun h => ?_) (fun h => ?_) <;> rw [h])
    | (refine AC.cond rfl (fun h => ?_) (fun h => ?_) <;> rw [h])
    | refine FQ.ret rfl rfl ?_
    | refine FQ.normal rfl rfl ?_)
  all_goals rfl
theorem gent7 : Enters Tryz.prog 7 := enters Tryz.func7 (by kernel_rfl) (by kernel_rfl)
theorem ok_gs_new   {s : St} {o : Oper} {c : Call} (ho : o.op = .call c) (hc : c.callee = .value (.func 7)) (hargs : evs s c.args.toList = some [.agg #[.int .i64 2, .int .i64 0, .int .i64 5, .int .i64 1, .int .i64 5, .int .i64 0, .int .i64 0, .int .i64 0], .int .i64 0]) : AOk Tryz.prog s o ⟨rq s c.args.toList, []⟩ ⟨.tuple #[.agg (List.toArray (.int .i64 2 :: .int .i64 0 :: .int .i64 5 :: .int .i64 1 :: .int .i64 5 :: .int .i64 0 :: .int .i64 0 :: .int .i64 0 :: .int .i64 0 :: .int .i64 0 :: .int .i64 0 :: .slice none 0 0 :: .int .i64 5 :: .int .i64 1 :: .int .i64 5 :: .int .i64 0 :: .slice none 0 0 :: .int .i64 0 :: .int .i64 0 :: .int .i64 0 :: .int .i64 0 :: .int .i64 0 :: .slice none 0 0 :: .int .i64 0 :: .int .i64 0 :: .int .i64 0 :: .int .i64 0 :: .int .i64 0 :: .int .i64 0 :: .slice none 0 0 :: .int .i64 0 :: .int .i64 0 :: .int .i64 0 :: .int .i64 0 :: .int .i64 0 :: .slice none 0 0 :: .int .i64 0 :: .int .i64 0 :: .int .i64 0 :: .slice none 0 0 :: .int .i64 0 :: .slice none 0 0 :: .bool false :: .int .i64 0 :: .int .i64 0 :: .int .i64 0 :: .slice none 0 0 :: .slice none 0 0 :: .int .i64 0 :: .int .i64 0 :: .int .i64 0 :: .slice none 0 0 :: .int .i64 0 :: .int .i64 0 :: .int .i64 0 :: .int .i64 0 :: .slice none 0 0 :: [])), .int .i64 0], [], []⟩ :=
  AOk.call (fun w => gs_new w) gent7 ho hc hargs rfl rfl
set_option maxRecDepth 100000 in
theorem gs_add (w : World) : Calls Tryz.prog 13 #[.agg (List.toArray (.int .i64 2 :: .int .i64 0 :: .int .i64 5 :: .int .i64 1 :: .int .i64 5 :: .int .i64 0 :: .int .i64 0 :: .int .i64 0 :: .int .i64 0 :: .int .i64 0 :: .int .i64 0 :: .slice none 0 0 :: .int .i64 5 :: .int .i64 1 :: .int .i64 5 :: .int .i64 0 :: .slice none 0 0 :: .int .i64 0 :: .int .i64 0 :: .int .i64 0 :: .int .i64 0 :: .int .i64 0 :: .slice none 0 0 :: .int .i64 0 :: .int .i64 0 :: .int .i64 0 :: .int .i64 0 :: .int .i64 0 :: .int .i64 0 :: .slice none 0 0 :: .int .i64 0 :: .int .i64 0 :: .int .i64 0 :: .int .i64 0 :: .int .i64 0 :: .slice none 0 0 :: .int .i64 0 :: .int .i64 0 :: .int .i64 0 :: .slice none 0 0 :: .int .i64 0 :: .slice none 0 0 :: .bool false :: .int .i64 0 :: .int .i64 0 :: .int .i64 0 :: .slice none 0 0 :: .slice none 0 0 :: .int .i64 0 :: .int .i64 0 :: .int .i64 0 :: .slice none 0 0 :: .int .i64 0 :: .int .i64 0 :: .int .i64 0 :: .int .i64 0 :: .slice none 0 0 :: [])), .int .i64 1, .slice none 0 0] w (fun e w' => ∃ A c, e = .returned (.tuple #[.agg (List.toArray (.int .i64 2 :: .int .i64 0 :: .int .i64 5 :: .int .i64 1 :: .int .i64 5 :: .int .i64 0 :: .int .i64 0 :: .int .i64 0 :: .int .i64 0 :: .int .i64 0 :: .int .i64 0 :: .slice none 0 0 :: .int .i64 5 :: .int .i64 1 :: .int .i64 5 :: .int .i64 0 :: .slice A 1 c :: .int .i64 0 :: .int .i64 0 :: .int .i64 0 :: .int .i64 0 :: .int .i64 0 :: .slice none 0 0 :: .int .i64 0 :: .int .i64 0 :: .int .i64 0 :: .int .i64 0 :: .int .i64 0 :: .int .i64 0 :: .slice none 0 0 :: .int .i64 0 :: .int .i64 0 :: .int .i64 0 :: .int .i64 0 :: .int .i64 0 :: .slice none 0 0 :: .int .i64 0 :: .int .i64 0 :: .int .i64 0 :: .slice none 0 0 :: .int .i64 0 :: .slice none 0 0 :: .bool false :: .int .i64 0 :: .int .i64 0 :: .int .i64 0 :: .slice none 0 0 :: .slice none 0 0 :: .int .i64 0 :: .int .i64 0 :: .int .i64 0 :: .slice none 0 0 :: .int .i64 0 :: .int .i64 0 :: .int .i64 0 :: .int .i64 0 :: .slice none 0 0 :: [])), .int .i64 0]) ∧ OwnK w' w.heap.size 262 2 (.slice A 1 c) 1 [.int .i64 0, .int .i64 0] ∧ Below w.heap.size w w') := by
  have H := fun_fin tblOK (I := 0) mixedP Tryz.func13 rfl [.agg (List.toArray (.int .i64 2 :: .int .i64 0 :: .int .i64 5 :: .int .i64 1 :: .int .i64 5 :: .int .i64 0 :: .int .i64 0 :: .int .i64 0 :: .int .i64 0 :: .int .i64 0 :: .int .i64 0 :: .slice none 0 0 :: .int .i64 5 :: .int .i64 1 :: .int .i64 5 :: .int .i64 0 :: .slice none 0 0 :: .int .i64 0 :: .int .i64 0 :: .int .i64 0 :: .int .i64 0 :: .int .i64 0 :: .slice none 0 0 :: .int .i64 0 :: .int .i64 0 :: .int .i64 0 :: .int .i64 0 :: .int .i64 0 :: .int .i64 0 :: .slice none 0 0 :: .int .i64 0 :: .int .i64 0 :: .int .i64 0 :: .int .i64 0 :: .int .i64 0 :: .slice none 0 0 :: .int .i64 0 :: .int .i64 0 :: .int .i64 0 :: .slice none 0 0 :: .int .i64 0 :: .slice none 0 0 :: .bool false :: .int .i64 0 :: .int .i64 0 :: .int .i64 0 :: .slice none 0 0 :: .slice none 0 0 :: .int .i64 0 :: .int .i64 0 :: .int .i64 0 :: .slice none 0 0 :: .int .i64 0 :: .int .i64 0 :: .int .i64 0 :: .int .i64 0 :: .slice none 0 0 :: [])), .int .i64 1, .slice none 0 0] [] (fun _ => pl4 0 0 0 false) w 153 [(0, .agg (List.toArray (.int .i64 2 :: .int .i64 0 :: .int .i64 5 :: .int .i64 1 :: .int .i64 5 :: .int .i64 0 :: .int .i64 0 :: .int .i64 0 :: .int .i64 0 :: .int .i64 0 :: .int .i64 0 :: .slice none 0 0 :: .int .i64 5 :: .int .i64 1 :: .int .i64 5 :: .int .i64 0 :: .slice none 0 0 :: .int .i64 0 :: .int .i64 0 :: .int .i64 0 :: .int .i64 0 :: .int .i64 0 :: .slice none 0 0 :: .int .i64 0 :: .int .i64 0 :: .int .i64 0 :: .int .i64 0 :: .int .i64 0 :: .int .i64 0 :: .slice none 0 0 :: .int .i64 0 :: .int .i64 0 :: .int .i64 0 :: .int .i64 0 :: .int .i64 0 :: .slice none 0 0 :: .int .i64 0 :: .int .i64 0 :: .int .i64 0 :: .slice none 0 0 :: .int .i64 0 :: .slice none 0 0 :: .bool false :: .int .i64 0 :: .int .i64 0 :: .int .i64 0 :: .slice none 0 0 :: .slice none 0 0 :: .int .i64 0 :: .int .i64 0 :: .int .i64 0 :: .slice none 0 0 :: .int .i64 0 :: .int .i64 0 :: .int .i64 0 :: .int .i64 0 :: .slice none 0 0 :: []))), (1, .int .i64 1), (2, .slice none 0 0)] rfl rfl (by kernel_rfl) [] rfl rfl rfl (fun n b hb => nomatch hb) (fun v s => v = .tuple #[.agg (List.toArray (.int .i64 2 :: .int .i64 0 :: .int .i64 5 :: .int .i64 1 :: .int .i64 5 :: .int .i64 0 :: .int .i64 0 :: .int .i64 0 :: .int .i64 0 :: .int .i64 0 :: .int .i64 0 :: .slice none 0 0 :: .int .i64 5 :: .int .i64 1 :: .int .i64 5 :: .int .i64 0 :: (.slice (some ⟨90, 0, none⟩) 1 0) :: .int .i64 0 :: .int .i64 0 :: .int .i64 0 :: .int .i64 0 :: .int .i64 0 :: .slice none 0 0 :: .int .i64 0 :: .int .i64 0 :: .int .i64 0 :: .int .i64 0 :: .int .i64 0 :: .int .i64 0 :: .slice none 0 0 :: .int .i64 0 :: .int .i64 0 :: .int .i64 0 :: .int .i64 0 :: .int .i64 0 :: .slice none 0 0 :: .int .i64 0 :: .int .i64 0 :: .int .i64 0 :: .slice none 0 0 :: .int .i64 0 :: .slice none 0 0 :: .bool false :: .int .i64 0 :: .int .i64 0 :: .int .i64 0 :: .slice none 0 0 :: .slice none 0 0 :: .int .i64 0 :: .int .i64 0 :: .int .i64 0 :: .slice none 0 0 :: .int .i64 0 :: .int .i64 0 :: .int .i64 0 :: .int .i64 0 :: .slice none 0 0 :: [])), .int .i64 0] ∧ En.lk s.σ 90 = some (.vec 262 2 [.int .i64 0, .int .i64 0])) (by
    repeat' (first
      | refine AR.auto rfl ?_
      | refine AR.man (ok_gs_val0 rfl rfl rfl) rfl rfl rfl ?_
      | refine AR.man (ok_cadd 90 rfl rfl rfl rfl rfl) rfl rfl rfl ?_
      | refine AR.nil ?_
      | refine KF.mk ?_
      | refine KT.mk (by kernel_rfl) ?_
      | refine SQ.normal ?_
      | refine AC.seq ?_
      | refine AC.regF ?_
      | refine AC.regT ?_
      | refine AC.condT rfl ?_
      | refine AC.condF rfl ?_
      | refine AC.block ?_
      | refine BQ.normal ?_
      | refine BQ.ret ?_
      | refine BQ.here ?_
      | refine BQ.there rfl ?_
      | refine SQ.ret ?_
      | refine SQ.exit ?_
      | refine AC.ret ?_
      | refine AC.exit ?_
      | refine AC.skip ?_
      | (refine AR.split rfl (fun h => ?_) (fun h => ?_) <;> rw [h])
      | (refine AC.cond rfl (fun h => ?_) (fun h => ?_) <;> rw [h])
      | refine FQ.ret rfl rfl ?_
      | refine FQ.normal rfl rfl ?_)
    all_goals exact ⟨rfl, rfl⟩)
  refine H.mono fun e w' he => ?_
  obtain ⟨v, s, ρ, a, ⟨rfl, hl⟩, rfl, hs⟩ := he
  obtain ⟨A, c, h1, h2⟩ := vec_own (n := 1) (hs.bx _ _ hl).1 rfl (by decide) rfl
  have h3 : rV ρ (.tuple #[.agg (List.toArray (.int .i64 2 :: .int .i64 0 :: .int .i64 5 :: .int .i64 1 :: .int .i64 5 :: .int .i64 0 :: .int .i64 0 :: .int .i64 0 :: .int .i64 0 :: .int .i64 0 :: .int .i64 0 :: .slice none 0 0 :: .int .i64 5 :: .int .i64 1 :: .int .i64 5 :: .int .i64 0 :: (.slice (some ⟨90, 0, none⟩) 1 0) :: .int .i64 0 :: .int .i64 0 :: .int .i64 0 :: .int .i64 0 :: .int .i64 0 :: .slice none 0 0 :: .int .i64 0 :: .int .i64 0 :: .int .i64 0 :: .int .i64 0 :: .int .i64 0 :: .int .i64 0 :: .slice none 0 0 :: .int .i64 0 :: .int .i64 0 :: .int .i64 0 :: .int .i64 0 :: .int .i64 0 :: .slice none 0 0 :: .int .i64 0 :: .int .i64 0 :: .int .i64 0 :: .slice none 0 0 :: .int .i64 0 :: .slice none 0 0 :: .bool false :: .int .i64 0 :: .int .i64 0 :: .int .i64 0 :: .slice none 0 0 :: .slice none 0 0 :: .int .i64 0 :: .int .i64 0 :: .int .i64 0 :: .slice none 0 0 :: .int .i64 0 :: .int .i64 0 :: .int .i64 0 :: .int .i64 0 :: .slice none 0 0 :: [])), .int .i64 0]) = (fun s => .tuple #[.agg (List.toArray (.int .i64 2 :: .int .i64 0 :: .int .i64 5 :: .int .i64 1 :: .int .i64 5 :: .int .i64 0 :: .int .i64 0 :: .int .i64 0 :: .int .i64 0 :: .int .i64 0 :: .int .i64 0 :: .slice none 0 0 :: .int .i64 5 :: .int .i64 1 :: .int .i64 5 :: .int .i64 0 :: s :: .int .i64 0 :: .int .i64 0 :: .int .i64 0 :: .int .i64 0 :: .int .i64 0 :: .slice none 0 0 :: .int .i64 0 :: .int .i64 0 :: .int .i64 0 :: .int .i64 0 :: .int .i64 0 :: .int .i64 0 :: .slice none 0 0 :: .int .i64 0 :: .int .i64 0 :: .int .i64 0 :: .int .i64 0 :: .int .i64 0 :: .slice none 0 0 :: .int .i64 0 :: .int .i64 0 :: .int .i64 0 :: .slice none 0 0 :: .int .i64 0 :: .slice none 0 0 :: .bool false :: .int .i64 0 :: .int .i64 0 :: .int .i64 0 :: .slice none 0 0 :: .slice none 0 0 :: .int .i64 0 :: .int .i64 0 :: .int .i64 0 :: .slice none 0 0 :: .int .i64 0 :: .int .i64 0 :: .int .i64 0 :: .int .i64 0 :: .slice none 0 0 :: [])), .int .i64 0]) (rC ρ (.slice (some ⟨90, 0, none⟩) 1 0)) := rfl
  exact ⟨A, c, by rw [h3, h1], h2, hs.bl⟩
theorem gent13 : Enters Tryz.prog 13 := enters Tryz.func13 (by kernel_rfl) (by kernel_rfl)
theorem ok_gs_add (q : Nat) {s : St} {o : Oper} {c : Call} (ho : o.op = .call c) (hc : c.callee = .value (.func 13)) (hargs : evs s c.args.toList = some [.agg (List.toArray (.int .i64 2 :: .int .i64 0 :: .int .i64 5 :: .int .i64 1 :: .int .i64 5 :: .int .i64 0 :: .int .i64 0 :: .int .i64 0 :: .int .i64 0 :: .int .i64 0 :: .int .i64 0 :: .slice none 0 0 :: .int .i64 5 :: .int .i64 1 :: .int .i64 5 :: .int .i64 0 :: .slice none 0 0 :: .int .i64 0 :: .int .i64 0 :: .int .i64 0 :: .int .i64 0 :: .int .i64 0 :: .slice none 0 0 :: .int .i64 0 :: .int .i64 0 :: .int .i64 0 :: .int .i64 0 :: .int .i64 0 :: .int .i64 0 :: .slice none 0 0 :: .int .i64 0 :: .int .i64 0 :: .int .i64 0 :: .int .i64 0 :: .int .i64 0 :: .slice none 0 0 :: .int .i64 0 :: .int .i64 0 :: .int .i64 0 :: .slice none 0 0 :: .int .i64 0 :: .slice none 0 0 :: .bool false :: .int .i64 0 :: .int .i64 0 :: .int .i64 0 :: .slice none 0 0 :: .slice none 0 0 :: .int .i64 0 :: .int .i64 0 :: .int .i64 0 :: .slice none 0 0 :: .int .i64 0 :: .int .i64 0 :: .int .i64 0 :: .int .i64 0 :: .slice none 0 0 :: [])), .int .i64 1, .slice none 0 0]) (hq : memB q s.al = false) (hN : nbV [q] (.tuple #[.agg (List.toArray (.int .i64 2 :: .int .i64 0 :: .int .i64 5 :: .int .i64 1 :: .int .i64 5 :: .int .i64 0 :: .int .i64 0 :: .int .i64 0 :: .int .i64 0 :: .int .i64 0 :: .int .i64 0 :: .slice none 0 0 :: .int .i64 5 :: .int .i64 1 :: .int .i64 5 :: .int .i64 0 :: (.slice (some ⟨q, 0, none⟩) 1 0) :: .int .i64 0 :: .int .i64 0 :: .int .i64 0 :: .int .i64 0 :: .int .i64 0 :: .slice none 0 0 :: .int .i64 0 :: .int .i64 0 :: .int .i64 0 :: .int .i64 0 :: .int .i64 0 :: .int .i64 0 :: .slice none 0 0 :: .int .i64 0 :: .int .i64 0 :: .int .i64 0 :: .int .i64 0 :: .int .i64 0 :: .slice none 0 0 :: .int .i64 0 :: .int .i64 0 :: .int .i64 0 :: .slice none 0 0 :: .int .i64 0 :: .slice none 0 0 :: .bool false :: .int .i64 0 :: .int .i64 0 :: .int .i64 0 :: .slice none 0 0 :: .slice none 0 0 :: .int .i64 0 :: .int .i64 0 :: .int .i64 0 :: .slice none 0 0 :: .int .i64 0 :: .int .i64 0 :: .int .i64 0 :: .int .i64 0 :: .slice none 0 0 :: [])), .int .i64 0]) = true) : AOk Tryz.prog s o ⟨rq s c.args.toList, []⟩ ⟨.tuple #[.agg (List.toArray (.int .i64 2 :: .int .i64 0 :: .int .i64 5 :: .int .i64 1 :: .int .i64 5 :: .int .i64 0 :: .int .i64 0 :: .int .i64 0 :: .int .i64 0 :: .int .i64 0 :: .int .i64 0 :: .slice none 0 0 :: .int .i64 5 :: .int .i64 1 :: .int .i64 5 :: .int .i64 0 :: (.slice (some ⟨q, 0, none⟩) 1 0) :: .int .i64 0 :: .int .i64 0 :: .int .i64 0 :: .int .i64 0 :: .int .i64 0 :: .slice none 0 0 :: .int .i64 0 :: .int .i64 0 :: .int .i64 0 :: .int .i64 0 :: .int .i64 0 :: .int .i64 0 :: .slice none 0 0 :: .int .i64 0 :: .int .i64 0 :: .int .i64 0 :: .int .i64 0 :: .int .i64 0 :: .slice none 0 0 :: .int .i64 0 :: .int .i64 0 :: .int .i64 0 :: .slice none 0 0 :: .int .i64 0 :: .slice none 0 0 :: .bool false :: .int .i64 0 :: .int .i64 0 :: .int .i64 0 :: .slice none 0 0 :: .slice none 0 0 :: .int .i64 0 :: .int .i64 0 :: .int .i64 0 :: .slice none 0 0 :: .int .i64 0 :: .int .i64 0 :: .int .i64 0 :: .int .i64 0 :: .slice none 0 0 :: [])), .int .i64 0], [], [(q, .vec 262 2 [.int .i64 0, .int .i64 0])]⟩ :=
  AOk.callO0 (fun s => .tuple #[.agg (List.toArray (.int .i64 2 :: .int .i64 0 :: .int .i64 5 :: .int .i64 1 :: .int .i64 5 :: .int .i64 0 :: .int .i64 0 :: .int .i64 0 :: .int .i64 0 :: .int .i64 0 :: .int .i64 0 :: .slice none 0 0 :: .int .i64 5 :: .int .i64 1 :: .int .i64 5 :: .int .i64 0 :: s :: .int .i64 0 :: .int .i64 0 :: .int .i64 0 :: .int .i64 0 :: .int .i64 0 :: .slice none 0 0 :: .int .i64 0 :: .int .i64 0 :: .int .i64 0 :: .int .i64 0 :: .int .i64 0 :: .int .i64 0 :: .slice none 0 0 :: .int .i64 0 :: .int .i64 0 :: .int .i64 0 :: .int .i64 0 :: .int .i64 0 :: .slice none 0 0 :: .int .i64 0 :: .int .i64 0 :: .int .i64 0 :: .slice none 0 0 :: .int .i64 0 :: .slice none 0 0 :: .bool false :: .int .i64 0 :: .int .i64 0 :: .int .i64 0 :: .slice none 0 0 :: .slice none 0 0 :: .int .i64 0 :: .int .i64 0 :: .int .i64 0 :: .slice none 0 0 :: .int .i64 0 :: .int .i64 0 :: .int .i64 0 :: .int .i64 0 :: .slice none 0 0 :: [])), .int .i64 0]) q 1 2 262 [.int .i64 0, .int .i64 0] [.agg (List.toArray (.int .i64 2 :: .int .i64 0 :: .int .i64 5 :: .int .i64 1 :: .int .i64 5 :: .int .i64 0 :: .int .i64 0 :: .int .i64 0 :: .int .i64 0 :: .int .i64 0 :: .int .i64 0 :: .slice none 0 0 :: .int .i64 5 :: .int .i64 1 :: .int .i64 5 :: .int .i64 0 :: .slice none 0 0 :: .int .i64 0 :: .int .i64 0 :: .int .i64 0 :: .int .i64 0 :: .int .i64 0 :: .slice none 0 0 :: .int .i64 0 :: .int .i64 0 :: .int .i64 0 :: .int .i64 0 :: .int .i64 0 :: .int .i64 0 :: .slice none 0 0 :: .int .i64 0 :: .int .i64 0 :: .int .i64 0 :: .int .i64 0 :: .int .i64 0 :: .slice none 0 0 :: .int .i64 0 :: .int .i64 0 :: .int .i64 0 :: .slice none 0 0 :: .int .i64 0 :: .slice none 0 0 :: .bool false :: .int .i64 0 :: .int .i64 0 :: .int .i64 0 :: .slice none 0 0 :: .slice none 0 0 :: .int .i64 0 :: .int .i64 0 :: .int .i64 0 :: .slice none 0 0 :: .int .i64 0 :: .int .i64 0 :: .int .i64 0 :: .int .i64 0 :: .slice none 0 0 :: [])), .int .i64 1, .slice none 0 0] (fun w => gs_add w) gent13 ho hc hargs hq rfl (fun _ => rfl) hN rfl
set_option maxRecDepth 100000 in
theorem gs_ask (w : World) (A : Option Addr) (c : Nat) (h : SL w A 1 c 2 [.int .i64 0, .int .i64 0]) : Calls Tryz.prog 14 #[.agg (List.toArray (.int .i64 2 :: .int .i64 0 :: .int .i64 5 :: .int .i64 1 :: .int .i64 5 :: .int .i64 0 :: .int .i64 0 :: .int .i64 0 :: .int .i64 0 :: .int .i64 0 :: .int .i64 0 :: .slice none 0 0 :: .int .i64 5 :: .int .i64 1 :: .int .i64 5 :: .int .i64 0 :: .slice A 1 c :: .int .i64 0 :: .int .i64 0 :: .int .i64 0 :: .int .i64 0 :: .int .i64 0 :: .slice none 0 0 :: .int .i64 0 :: .int .i64 0 :: .int .i64 0 :: .int .i64 0 :: .int .i64 0 :: .int .i64 0 :: .slice none 0 0 :: .int .i64 0 :: .int .i64 0 :: .int .i64 0 :: .int .i64 0 :: .int .i64 0 :: .slice none 0 0 :: .int .i64 0 :: .int .i64 0 :: .int .i64 0 :: .slice none 0 0 :: .int .i64 0 :: .slice none 0 0 :: .bool false :: .int .i64 0 :: .int .i64 0 :: .int .i64 0 :: .slice none 0 0 :: .slice none 0 0 :: .int .i64 0 :: .int .i64 0 :: .int .i64 0 :: .slice none 0 0 :: .int .i64 0 :: .int .i64 0 :: .int .i64 0 :: .int .i64 0 :: .slice none 0 0 :: [])), .agg #[.int .i64 1, .int .i64 0, .int .i64 0]] w (fun e w' => e = .returned (.tuple #[.agg #[.int .i64 1, .int .i64 1, .int .i64 1, .int .i64 1, .int .i64 1, .int .i64 1, .slice none 0 0, .int .u64 0, .int .u64 0, .int .u64 0, .int .u64 0], .int .i64 0]) ∧ Below w.heap.size w w') := by
  refine fun_sliceF tblOK mixedP Tryz.func14 rfl (fun s => [.agg (List.toArray (.int .i64 2 :: .int .i64 0 :: .int .i64 5 :: .int .i64 1 :: .int .i64 5 :: .int .i64 0 :: .int .i64 0 :: .int .i64 0 :: .int .i64 0 :: .int .i64 0 :: .int .i64 0 :: .slice none 0 0 :: .int .i64 5 :: .int .i64 1 :: .int .i64 5 :: .int .i64 0 :: s :: .int .i64 0 :: .int .i64 0 :: .int .i64 0 :: .int .i64 0 :: .int .i64 0 :: .slice none 0 0 :: .int .i64 0 :: .int .i64 0 :: .int .i64 0 :: .int .i64 0 :: .int .i64 0 :: .int .i64 0 :: .slice none 0 0 :: .int .i64 0 :: .int .i64 0 :: .int .i64 0 :: .int .i64 0 :: .int .i64 0 :: .slice none 0 0 :: .int .i64 0 :: .int .i64 0 :: .int .i64 0 :: .slice none 0 0 :: .int .i64 0 :: .slice none 0 0 :: .bool false :: .int .i64 0 :: .int .i64 0 :: .int .i64 0 :: .slice none 0 0 :: .slice none 0 0 :: .int .i64 0 :: .int .i64 0 :: .int .i64 0 :: .slice none 0 0 :: .int .i64 0 :: .int .i64 0 :: .int .i64 0 :: .int .i64 0 :: .slice none 0 0 :: [])), .agg #[.int .i64 1, .int .i64 0, .int .i64 0]]) 1 2 [.int .i64 0, .int .i64 0] h (by decide) rfl [.agg (List.toArray (.int .i64 2 :: .int .i64 0 :: .int .i64 5 :: .int .i64 1 :: .int .i64 5 :: .int .i64 0 :: .int .i64 0 :: .int .i64 0 :: .int .i64 0 :: .int .i64 0 :: .int .i64 0 :: .slice none 0 0 :: .int .i64 5 :: .int .i64 1 :: .int .i64 5 :: .int .i64 0 :: (.slice (some ⟨0, 0, none⟩) 1 0) :: .int .i64 0 :: .int .i64 0 :: .int .i64 0 :: .int .i64 0 :: .int .i64 0 :: .slice none 0 0 :: .int .i64 0 :: .int .i64 0 :: .int .i64 0 :: .int .i64 0 :: .int .i64 0 :: .int .i64 0 :: .slice none 0 0 :: .int .i64 0 :: .int .i64 0 :: .int .i64 0 :: .int .i64 0 :: .int .i64 0 :: .slice none 0 0 :: .int .i64 0 :: .int .i64 0 :: .int .i64 0 :: .slice none 0 0 :: .int .i64 0 :: .slice none 0 0 :: .bool false :: .int .i64 0 :: .int .i64 0 :: .int .i64 0 :: .slice none 0 0 :: .slice none 0 0 :: .int .i64 0 :: .int .i64 0 :: .int .i64 0 :: .slice none 0 0 :: .int .i64 0 :: .int .i64 0 :: .int .i64 0 :: .int .i64 0 :: .slice none 0 0 :: [])), .agg #[.int .i64 1, .int .i64 0, .int .i64 0]] rfl (fun _ => rfl) 162 [(0, .agg (List.toArray (.int .i64 2 :: .int .i64 0 :: .int .i64 5 :: .int .i64 1 :: .int .i64 5 :: .int .i64 0 :: .int .i64 0 :: .int .i64 0 :: .int .i64 0 :: .int .i64 0 :: .int .i64 0 :: .slice none 0 0 :: .int .i64 5 :: .int .i64 1 :: .int .i64 5 :: .int .i64 0 :: (.slice (some ⟨0, 0, none⟩) 1 0) :: .int .i64 0 :: .int .i64 0 :: .int .i64 0 :: .int .i64 0 :: .int .i64 0 :: .slice none 0 0 :: .int .i64 0 :: .int .i64 0 :: .int .i64 0 :: .int .i64 0 :: .int .i64 0 :: .int .i64 0 :: .slice none 0 0 :: .int .i64 0 :: .int .i64 0 :: .int .i64 0 :: .int .i64 0 :: .int .i64 0 :: .slice none 0 0 :: .int .i64 0 :: .int .i64 0 :: .int .i64 0 :: .slice none 0 0 :: .int .i64 0 :: .slice none 0 0 :: .bool false :: .int .i64 0 :: .int .i64 0 :: .int .i64 0 :: .slice none 0 0 :: .slice none 0 0 :: .int .i64 0 :: .int .i64 0 :: .int .i64 0 :: .slice none 0 0 :: .int .i64 0 :: .int .i64 0 :: .int .i64 0 :: .int .i64 0 :: .slice none 0 0 :: []))), (1, .agg #[.int .i64 1, .int .i64 0, .int .i64 0])] rfl rfl (by kernel_rfl) rfl rfl _ rfl ?_
  repeat' (first
    | refine AR.auto rfl ?_
    | refine AR.man (ok_gs_val1 rfl rfl rfl rfl (fun _ _ h => h) rfl) rfl rfl rfl ?_
    | refine AR.man (ok_ans2 rfl rfl rfl) rfl rfl rfl ?_
    | refine AR.man (ok_cask rfl rfl rfl rfl (fun _ _ h => h) rfl) rfl rfl rfl ?_
    | refine AR.nil ?_
    | refine KF.mk ?_
    | refine KT.mk (by kernel_rfl) ?_
    | refine SQ.normal ?_
    | refine AC.seq ?_
    | refine AC.regF ?_
    | refine AC.regT ?_
    | refine AC.condT rfl ?_
    | refine AC.condF rfl ?_
    | refine AC.block ?_
    | refine BQ.normal ?_
    | refine BQ.ret ?_
    | refine BQ.here ?_
    | refine BQ.there rfl ?_
    | refine SQ.ret ?_
    | refine SQ.exit ?_
    | refine AC.ret ?_
    | refine AC.exit ?_
    | refine AC.skip ?_
    | (refine AR.split rfl (fun h => ?_) (fun h => ?_) <;> rw [h])
    | (refine AC.cond rfl (fun h => ?_) (fun h => ?_) <;> rw [h])
    | refine FQ.ret rfl rfl ?_
    | refine FQ.normal rfl rfl ?_)
  all_goals rfl
theorem gent14 : Enters Tryz.prog 14 := enters Tryz.func14 (by kernel_rfl) (by kernel_rfl)
theorem ok_gs_ask   {s : St} {o : Oper} {c : Call} {n : Nat} {b : Box} (ho : o.op = .call c) (hc : c.callee = .value (.func 14)) (hargs : evs s c.args.toList = some ((fun s => [.agg (List.toArray (.int .i64 2 :: .int .i64 0 :: .int .i64 5 :: .int .i64 1 :: .int .i64 5 :: .int .i64 0 :: .int .i64 0 :: .int .i64 0 :: .int .i64 0 :: .int .i64 0 :: .int .i64 0 :: .slice none 0 0 :: .int .i64 5 :: .int .i64 1 :: .int .i64 5 :: .int .i64 0 :: s :: .int .i64 0 :: .int .i64 0 :: .int .i64 0 :: .int .i64 0 :: .int .i64 0 :: .slice none 0 0 :: .int .i64 0 :: .int .i64 0 :: .int .i64 0 :: .int .i64 0 :: .int .i64 0 :: .int .i64 0 :: .slice none 0 0 :: .int .i64 0 :: .int .i64 0 :: .int .i64 0 :: .int .i64 0 :: .int .i64 0 :: .slice none 0 0 :: .int .i64 0 :: .int .i64 0 :: .int .i64 0 :: .slice none 0 0 :: .int .i64 0 :: .slice none 0 0 :: .bool false :: .int .i64 0 :: .int .i64 0 :: .int .i64 0 :: .slice none 0 0 :: .slice none 0 0 :: .int .i64 0 :: .int .i64 0 :: .int .i64 0 :: .slice none 0 0 :: .int .i64 0 :: .int .i64 0 :: .int .i64 0 :: .int .i64 0 :: .slice none 0 0 :: [])), .agg #[.int .i64 1, .int .i64 0, .int .i64 0]]) (.slice (some ⟨n, 0, none⟩) 1 0))) (hb : En.lk s.σ n = some b) (hbc : ∀ (j : Nat) (v : Value), ([.int .i64 0, .int .i64 0] : List Value)[j]? = some v → b.cells[j]? = some v) (hbk : kBox 2 b = true) : AOk Tryz.prog s o ⟨rq s c.args.toList, [(n, b)]⟩ ⟨.tuple #[.agg #[.int .i64 1, .int .i64 1, .int .i64 1, .int .i64 1, .int .i64 1, .int .i64 1, .slice none 0 0, .int .u64 0, .int .u64 0, .int .u64 0, .int .u64 0], .int .i64 0], [], []⟩ :=
  AOk.callS (fun s => [.agg (List.toArray (.int .i64 2 :: .int .i64 0 :: .int .i64 5 :: .int .i64 1 :: .int .i64 5 :: .int .i64 0 :: .int .i64 0 :: .int .i64 0 :: .int .i64 0 :: .int .i64 0 :: .int .i64 0 :: .slice none 0 0 :: .int .i64 5 :: .int .i64 1 :: .int .i64 5 :: .int .i64 0 :: s :: .int .i64 0 :: .int .i64 0 :: .int .i64 0 :: .int .i64 0 :: .int .i64 0 :: .slice none 0 0 :: .int .i64 0 :: .int .i64 0 :: .int .i64 0 :: .int .i64 0 :: .int .i64 0 :: .int .i64 0 :: .slice none 0 0 :: .int .i64 0 :: .int .i64 0 :: .int .i64 0 :: .int .i64 0 :: .int .i64 0 :: .slice none 0 0 :: .int .i64 0 :: .int .i64 0 :: .int .i64 0 :: .slice none 0 0 :: .int .i64 0 :: .slice none 0 0 :: .bool false :: .int .i64 0 :: .int .i64 0 :: .int .i64 0 :: .slice none 0 0 :: .slice none 0 0 :: .int .i64 0 :: .int .i64 0 :: .int .i64 0 :: .slice none 0 0 :: .int .i64 0 :: .int .i64 0 :: .int .i64 0 :: .int .i64 0 :: .slice none 0 0 :: [])), .agg #[.int .i64 1, .int .i64 0, .int .i64 0]]) n 1 2 [.int .i64 0, .int .i64 0] (fun w A c h => gs_ask w A c h) gent14 ho hc hargs (fun _ => rfl) hb hbc (by decide) rfl rfl hbk rfl
set_option maxRecDepth 100000 in
theorem g_awake  (w : World) : Calls Tryz.prog 15 #[] w (fun e w' => e = .returned (.bool true) ∧ Below w.heap.size w w') := by
  refine fun_flat tblOK mixedP Tryz.func15 rfl [] w 44 [] rfl rfl (by kernel_rfl) rfl rfl rfl _ rfl ?_
  repeat' (first
    | refine AR.auto rfl ?_
    | refine AR.man (ok_gs_new rfl rfl rfl) rfl rfl rfl ?_
    | refine AR.man (ok_gs_add 91 rfl rfl rfl rfl rfl) rfl rfl rfl ?_
    | refine AR.man (ok_gs_ask rfl rfl rfl rfl (fun _ _ h => h) rfl) rfl rfl rfl ?_
    | refine AR.man (ok_bvalid rfl rfl rfl) rfl rfl rfl ?_
    | refine AR.man (ok_rof rfl rfl rfl) rfl rfl rfl ?_
    | refine AR.man (AOk.bin (aeql68 _ _ _ _) rfl rfl rfl rfl rfl rfl) rfl rfl rfl ?_
    | refine AR.nil ?_
    | refine KF.mk ?_
    | refine KT.mk (by kernel_rfl) ?_
    | refine SQ.normal ?_
    | refine AC.seq ?_
    | refine AC.regF ?_
    | refine AC.regT ?_
    | refine AC.condT rfl ?_
    | refine AC.condF rfl ?_
    | refine AC.block ?_
    | refine BQ.normal ?_
    | refine BQ.ret ?_
    | refine BQ.here ?_
    | refine BQ.there rfl ?_
    | refine SQ.ret ?_
    | refine SQ.exit ?_
    | refine AC.ret ?_
    | refine AC.exit ?_
    | refine AC.skip ?_
    | (refine AR.split rfl (fun h => ?_) (fun h => ?_) <;> rw [h])
    | (refine AC.cond rfl (fun h => ?_) (fun h => ?_) <;> rw [h])
    | refine FQ.ret rfl rfl ?_
    | refine FQ.normal rfl rfl ?_)
  all_goals rfl
theorem gent15 : Enters Tryz.prog 15 := enters Tryz.func15 (by kernel_rfl) (by kernel_rfl)
theorem ok_g_awake   {s : St} {o : Oper} {c : Call} (ho : o.op = .call c) (hc : c.callee = .value (.func 15)) (hargs : evs s c.args.toList = some []) : AOk Tryz.prog s o ⟨rq s c.args.toList, []⟩ ⟨.bool true, [], []⟩ :=
  AOk.call (fun w => g_awake w) gent15 ho hc hargs rfl rfl
end Go.Proofs.YtbageimconenlaaGreat
