/- A synopsis of the spread. -/
import Derived.Test.YtbageimconenlaaGreatNR
import Derived.Test.YtbageimconenlaaGreatES
import Derived.Test.YtbageimconenlaaGreatCv
namespace Go.Proofs.YtbageimconenlaaGreat
open Go.RowKit En
set_option linter.unusedVariables false
/-- a state of the spread -/
structure SP (l : List Mk) (n : Nat) (w0 k cap now sq : Int) : Prop where
  hl : l.length = n
  hn : n ≤ 900
  h1 : 1 ≤ w0
  h2 : w0 ≤ 1048576
  h3 : 1 ≤ k
  h4 : k ≤ 64
  h5 : 1 ≤ cap
  h6 : cap ≤ 65536
  h7 : 0 ≤ now
  h8 : now ≤ 16777216
  hv : MVL l sq cap now w0 (-4096)
  hcl : ∀ (i : Nat) (a b : Mk), l[i]? = some a → l[i + 2]? = some b → closeB k a b = false
theorem ent95 : Enters Tryz.prog 95 := enters Tryz.func95 (by kernel_rfl) (by kernel_rfl)
theorem ent94 : Enters Tryz.prog 94 := enters Tryz.func94 (by kernel_rfl) (by kernel_rfl)
theorem ent39 : Enters Tryz.prog 39 := enters Tryz.func39 (by kernel_rfl) (by kernel_rfl)
theorem ent26 : Enters Tryz.prog 26 := enters Tryz.func26 (by kernel_rfl) (by kernel_rfl)
theorem ent52 : Enters Tryz.prog 52 := enters Tryz.func52 (by kernel_rfl) (by kernel_rfl)
theorem ent57 : Enters Tryz.prog 57 := enters Tryz.func57 (by kernel_rfl) (by kernel_rfl)
theorem ent45 : Enters Tryz.prog 45 := enters Tryz.func45 (by kernel_rfl) (by kernel_rfl)
theorem ent152 : Enters Tryz.prog 152 := enters Tryz.func152 (by kernel_rfl) (by kernel_rfl)
theorem ent27 : Enters Tryz.prog 27 := enters Tryz.func27 (by kernel_rfl) (by kernel_rfl)
set_option maxRecDepth 100000 in
theorem ny_tick   (w : World) : Calls Tryz.prog 27 #[.int .i64 0] w (fun e w' => e = .returned (.bool true) ∧ Below w.heap.size w w') := by
  refine fun_flat tblOK mixedP Tryz.func27 rfl [.int .i64 0] w 9 [(0, .int .i64 0)] rfl rfl (by kernel_rfl) rfl rfl rfl _ rfl ?_
  repeat' (first
    | refine AR.auto rfl ?_
    | refine AR.nil ?_
    | refine KF.mk ?_
    | refine KT.mk (by kernel_rfl) ?_
    | refine SQ.normal ?_
    | refine AC.seq ?_
    | refine AC.regF ?_
    | refine AC.regT ?_
    | refine AC.condT rfl ?_
    | refine AC.condF rfl ?_
    | refine AC.block ?_
    | refine BQ.normal ?_
    | refine BQ.ret ?_
    | refine BQ.here ?_
    | refine BQ.there rfl ?_
    | refine SQ.ret ?_
    | refine SQ.exit ?_
    | refine AC.ret ?_
    | refine AC.exit ?_
    | refine AC.skip ?_
    | (refine AR.split rfl (fun h => ?_) (fun h => ?_) <;> rw [h])
    | (refine AC.cond rfl (fun h => ?_) (fun h => ?_) <;> rw [h])
    | refine FQ.ret rfl rfl ?_
    | refine FQ.normal rfl rfl ?_)
  all_goals rfl
theorem ok_ny_tick   {st : St} {o : Oper} {cl : Call} (ho : o.op = .call cl) (hc : cl.callee = .value (.func 27)) (hargs : evs st cl.args.toList = some [.int .i64 0]) : AOk Tryz.prog st o ⟨rq st cl.args.toList, []⟩ ⟨.bool true, [], []⟩ :=
  AOk.call (fun w => ny_tick   w) ent27 ho hc hargs rfl rfl
set_option maxRecDepth 100000 in
set_option maxHeartbeats 1000000 in
theorem ny_oth (l : List Mk) (n : Nat) (w0 k cap now sq : Int)  (hs : SP l n w0 k cap now sq)  (w : World) (A : Option Addr) (c : Nat) (h : SL w A n c 7 (mkL l)) : Calls Tryz.prog 95 #[.agg (List.toArray (.int .i64 5 :: .int .i64 0 :: .int .i64 w0 :: .int .i64 k :: .int .i64 cap :: .int .i64 0 :: .int .i64 0 :: .int .i64 0 :: .int .i64 0 :: .int .i64 0 :: .int .i64 0 :: .slice none 0 0 :: .int .i64 0 :: .int .i64 0 :: .int .i64 0 :: .int .i64 0 :: .slice none 0 0 :: .int .i64 0 :: .int .i64 0 :: .int .i64 0 :: .int .i64 0 :: .int .i64 0 :: .slice none 0 0 :: .int .i64 0 :: .int .i64 0 :: .int .i64 0 :: .int .i64 0 :: .int .i64 0 :: .int .i64 0 :: .slice none 0 0 :: .int .i64 w0 :: .int .i64 k :: .int .i64 cap :: .int .i64 now :: .int .i64 sq :: .slice A n c :: .int .i64 0 :: .int .i64 0 :: .int .i64 0 :: .slice none 0 0 :: .int .i64 0 :: .slice none 0 0 :: .bool false :: .int .i64 0 :: .int .i64 0 :: .int .i64 0 :: .slice none 0 0 :: .slice none 0 0 :: .int .i64 0 :: .int .i64 0 :: .int .i64 0 :: .slice none 0 0 :: .int .i64 0 :: .int .i64 0 :: .int .i64 0 :: .int .i64 0 :: .slice none 0 0 :: []))] w (fun e w' => e = .returned (.bool true) ∧ Below w.heap.size w w') := by
  refine fun_sliceF tblOK mixedP Tryz.func95 rfl (fun s => [.agg (List.toArray (.int .i64 5 :: .int .i64 0 :: .int .i64 w0 :: .int .i64 k :: .int .i64 cap :: .int .i64 0 :: .int .i64 0 :: .int .i64 0 :: .int .i64 0 :: .int .i64 0 :: .int .i64 0 :: .slice none 0 0 :: .int .i64 0 :: .int .i64 0 :: .int .i64 0 :: .int .i64 0 :: .slice none 0 0 :: .int .i64 0 :: .int .i64 0 :: .int .i64 0 :: .int .i64 0 :: .int .i64 0 :: .slice none 0 0 :: .int .i64 0 :: .int .i64 0 :: .int .i64 0 :: .int .i64 0 :: .int .i64 0 :: .int .i64 0 :: .slice none 0 0 :: .int .i64 w0 :: .int .i64 k :: .int .i64 cap :: .int .i64 now :: .int .i64 sq :: s :: .int .i64 0 :: .int .i64 0 :: .int .i64 0 :: .slice none 0 0 :: .int .i64 0 :: .slice none 0 0 :: .bool false :: .int .i64 0 :: .int .i64 0 :: .int .i64 0 :: .slice none 0 0 :: .slice none 0 0 :: .int .i64 0 :: .int .i64 0 :: .int .i64 0 :: .slice none 0 0 :: .int .i64 0 :: .int .i64 0 :: .int .i64 0 :: .int .i64 0 :: .slice none 0 0 :: []))]) n 7 (mkL l) h (by decide) (allFC_mk l) [.agg (List.toArray (.int .i64 5 :: .int .i64 0 :: .int .i64 w0 :: .int .i64 k :: .int .i64 cap :: .int .i64 0 :: .int .i64 0 :: .int .i64 0 :: .int .i64 0 :: .int .i64 0 :: .int .i64 0 :: .slice none 0 0 :: .int .i64 0 :: .int .i64 0 :: .int .i64 0 :: .int .i64 0 :: .slice none 0 0 :: .int .i64 0 :: .int .i64 0 :: .int .i64 0 :: .int .i64 0 :: .int .i64 0 :: .slice none 0 0 :: .int .i64 0 :: .int .i64 0 :: .int .i64 0 :: .int .i64 0 :: .int .i64 0 :: .int .i64 0 :: .slice none 0 0 :: .int .i64 w0 :: .int .i64 k :: .int .i64 cap :: .int .i64 now :: .int .i64 sq :: (.slice (some ⟨0, 0, none⟩) n 0) :: .int .i64 0 :: .int .i64 0 :: .int .i64 0 :: .slice none 0 0 :: .int .i64 0 :: .slice none 0 0 :: .bool false :: .int .i64 0 :: .int .i64 0 :: .int .i64 0 :: .slice none 0 0 :: .slice none 0 0 :: .int .i64 0 :: .int .i64 0 :: .int .i64 0 :: .slice none 0 0 :: .int .i64 0 :: .int .i64 0 :: .int .i64 0 :: .int .i64 0 :: .slice none 0 0 :: []))] rfl (fun _ => rfl) 315 [(0, .agg (List.toArray (.int .i64 5 :: .int .i64 0 :: .int .i64 w0 :: .int .i64 k :: .int .i64 cap :: .int .i64 0 :: .int .i64 0 :: .int .i64 0 :: .int .i64 0 :: .int .i64 0 :: .int .i64 0 :: .slice none 0 0 :: .int .i64 0 :: .int .i64 0 :: .int .i64 0 :: .int .i64 0 :: .slice none 0 0 :: .int .i64 0 :: .int .i64 0 :: .int .i64 0 :: .int .i64 0 :: .int .i64 0 :: .slice none 0 0 :: .int .i64 0 :: .int .i64 0 :: .int .i64 0 :: .int .i64 0 :: .int .i64 0 :: .int .i64 0 :: .slice none 0 0 :: .int .i64 w0 :: .int .i64 k :: .int .i64 cap :: .int .i64 now :: .int .i64 sq :: (.slice (some ⟨0, 0, none⟩) n 0) :: .int .i64 0 :: .int .i64 0 :: .int .i64 0 :: .slice none 0 0 :: .int .i64 0 :: .slice none 0 0 :: .bool false :: .int .i64 0 :: .int .i64 0 :: .int .i64 0 :: .slice none 0 0 :: .slice none 0 0 :: .int .i64 0 :: .int .i64 0 :: .int .i64 0 :: .slice none 0 0 :: .int .i64 0 :: .int .i64 0 :: .int .i64 0 :: .int .i64 0 :: .slice none 0 0 :: [])))] rfl rfl (by kernel_rfl) rfl rfl _ rfl ?_
  repeat' (first
    | refine AR.auto rfl ?_
    | refine AR.nil ?_
    | refine KF.mk ?_
    | refine KT.mk (by kernel_rfl) ?_
    | refine SQ.normal ?_
    | refine AC.seq ?_
    | refine AC.regF ?_
    | refine AC.regT ?_
    | refine AC.condT rfl ?_
    | refine AC.condF rfl ?_
    | refine AC.block ?_
    | refine BQ.normal ?_
    | refine BQ.ret ?_
    | refine BQ.here ?_
    | refine BQ.there rfl ?_
    | refine SQ.ret ?_
    | refine SQ.exit ?_
    | refine AC.ret ?_
    | refine AC.exit ?_
    | refine AC.skip ?_
    | (refine AR.split rfl (fun h => ?_) (fun h => ?_) <;> rw [h])
    | (refine AC.cond rfl (fun h => ?_) (fun h => ?_) <;> rw [h])
    | refine FQ.ret rfl rfl ?_
    | refine FQ.normal rfl rfl ?_)
  all_goals rfl
set_option maxRecDepth 100000 in
set_option maxHeartbeats 1000000 in
theorem ny_right (l : List Mk) (n : Nat) (w0 k cap now sq : Int)  (hs : SP l n w0 k cap now sq)  (w : World) (A : Option Addr) (c : Nat) (h : SL w A n c 7 (mkL l)) : Calls Tryz.prog 94 #[.agg (List.toArray (.int .i64 5 :: .int .i64 0 :: .int .i64 w0 :: .int .i64 k :: .int .i64 cap :: .int .i64 0 :: .int .i64 0 :: .int .i64 0 :: .int .i64 0 :: .int .i64 0 :: .int .i64 0 :: .slice none 0 0 :: .int .i64 0 :: .int .i64 0 :: .int .i64 0 :: .int .i64 0 :: .slice none 0 0 :: .int .i64 0 :: .int .i64 0 :: .int .i64 0 :: .int .i64 0 :: .int .i64 0 :: .slice none 0 0 :: .int .i64 0 :: .int .i64 0 :: .int .i64 0 :: .int .i64 0 :: .int .i64 0 :: .int .i64 0 :: .slice none 0 0 :: .int .i64 w0 :: .int .i64 k :: .int .i64 cap :: .int .i64 now :: .int .i64 sq :: .slice A n c :: .int .i64 0 :: .int .i64 0 :: .int .i64 0 :: .slice none 0 0 :: .int .i64 0 :: .slice none 0 0 :: .bool false :: .int .i64 0 :: .int .i64 0 :: .int .i64 0 :: .slice none 0 0 :: .slice none 0 0 :: .int .i64 0 :: .int .i64 0 :: .int .i64 0 :: .slice none 0 0 :: .int .i64 0 :: .int .i64 0 :: .int .i64 0 :: .int .i64 0 :: .slice none 0 0 :: []))] w (fun e w' => e = .returned (.bool true) ∧ Below w.heap.size w w') := by
  have e1 : (w0 == w0) = true := beq_self_eq_true w0
  have e2 : (k == k) = true := beq_self_eq_true k
  have e3 : (cap == cap) = true := beq_self_eq_true cap
  refine fun_sliceF tblOK mixedP Tryz.func94 rfl (fun s => [.agg (List.toArray (.int .i64 5 :: .int .i64 0 :: .int .i64 w0 :: .int .i64 k :: .int .i64 cap :: .int .i64 0 :: .int .i64 0 :: .int .i64 0 :: .int .i64 0 :: .int .i64 0 :: .int .i64 0 :: .slice none 0 0 :: .int .i64 0 :: .int .i64 0 :: .int .i64 0 :: .int .i64 0 :: .slice none 0 0 :: .int .i64 0 :: .int .i64 0 :: .int .i64 0 :: .int .i64 0 :: .int .i64 0 :: .slice none 0 0 :: .int .i64 0 :: .int .i64 0 :: .int .i64 0 :: .int .i64 0 :: .int .i64 0 :: .int .i64 0 :: .slice none 0 0 :: .int .i64 w0 :: .int .i64 k :: .int .i64 cap :: .int .i64 now :: .int .i64 sq :: s :: .int .i64 0 :: .int .i64 0 :: .int .i64 0 :: .slice none 0 0 :: .int .i64 0 :: .slice none 0 0 :: .bool false :: .int .i64 0 :: .int .i64 0 :: .int .i64 0 :: .slice none 0 0 :: .slice none 0 0 :: .int .i64 0 :: .int .i64 0 :: .int .i64 0 :: .slice none 0 0 :: .int .i64 0 :: .int .i64 0 :: .int .i64 0 :: .int .i64 0 :: .slice none 0 0 :: []))]) n 7 (mkL l) h (by decide) (allFC_mk l) [.agg (List.toArray (.int .i64 5 :: .int .i64 0 :: .int .i64 w0 :: .int .i64 k :: .int .i64 cap :: .int .i64 0 :: .int .i64 0 :: .int .i64 0 :: .int .i64 0 :: .int .i64 0 :: .int .i64 0 :: .slice none 0 0 :: .int .i64 0 :: .int .i64 0 :: .int .i64 0 :: .int .i64 0 :: .slice none 0 0 :: .int .i64 0 :: .int .i64 0 :: .int .i64 0 :: .int .i64 0 :: .int .i64 0 :: .slice none 0 0 :: .int .i64 0 :: .int .i64 0 :: .int .i64 0 :: .int .i64 0 :: .int .i64 0 :: .int .i64 0 :: .slice none 0 0 :: .int .i64 w0 :: .int .i64 k :: .int .i64 cap :: .int .i64 now :: .int .i64 sq :: (.slice (some ⟨0, 0, none⟩) n 0) :: .int .i64 0 :: .int .i64 0 :: .int .i64 0 :: .slice none 0 0 :: .int .i64 0 :: .slice none 0 0 :: .bool false :: .int .i64 0 :: .int .i64 0 :: .int .i64 0 :: .slice none 0 0 :: .slice none 0 0 :: .int .i64 0 :: .int .i64 0 :: .int .i64 0 :: .slice none 0 0 :: .int .i64 0 :: .int .i64 0 :: .int .i64 0 :: .int .i64 0 :: .slice none 0 0 :: []))] rfl (fun _ => rfl) 304 [(0, .agg (List.toArray (.int .i64 5 :: .int .i64 0 :: .int .i64 w0 :: .int .i64 k :: .int .i64 cap :: .int .i64 0 :: .int .i64 0 :: .int .i64 0 :: .int .i64 0 :: .int .i64 0 :: .int .i64 0 :: .slice none 0 0 :: .int .i64 0 :: .int .i64 0 :: .int .i64 0 :: .int .i64 0 :: .slice none 0 0 :: .int .i64 0 :: .int .i64 0 :: .int .i64 0 :: .int .i64 0 :: .int .i64 0 :: .slice none 0 0 :: .int .i64 0 :: .int .i64 0 :: .int .i64 0 :: .int .i64 0 :: .int .i64 0 :: .int .i64 0 :: .slice none 0 0 :: .int .i64 w0 :: .int .i64 k :: .int .i64 cap :: .int .i64 now :: .int .i64 sq :: (.slice (some ⟨0, 0, none⟩) n 0) :: .int .i64 0 :: .int .i64 0 :: .int .i64 0 :: .slice none 0 0 :: .int .i64 0 :: .slice none 0 0 :: .bool false :: .int .i64 0 :: .int .i64 0 :: .int .i64 0 :: .slice none 0 0 :: .slice none 0 0 :: .int .i64 0 :: .int .i64 0 :: .int .i64 0 :: .slice none 0 0 :: .int .i64 0 :: .int .i64 0 :: .int .i64 0 :: .int .i64 0 :: .slice none 0 0 :: [])))] rfl rfl (by kernel_rfl) rfl rfl _ rfl ?_
  repeat' (first
    | rw [e1]
    | rw [e2]
    | rw [e3]
    | refine AR.auto rfl ?_
    | refine AR.man (AOk.callS (fun s => [.agg #[.int .i64 w0, .int .i64 k, .int .i64 cap, .int .i64 now, .int .i64 sq, s]]) 0 n 7 (mkL l) (fun w A c h => nS_valid l n w0 k cap now sq hs.hl (by have := hs.hn; omega) hs.h1 hs.h2 hs.h3 hs.h4 hs.h5 hs.h6 hs.h7 hs.h8 hs.hv hs.hcl w A c h) ent112 rfl rfl rfl (fun _ => rfl) rfl (fun _ _ h => h) (by decide) (by rw [mkL_len, hs.hl]) (allFC_mk l) rfl rfl) rfl rfl rfl ?_
    | refine AR.nil ?_
    | refine KF.mk ?_
    | refine KT.mk (by kernel_rfl) ?_
    | refine SQ.normal ?_
    | refine AC.seq ?_
    | refine AC.regF ?_
    | refine AC.regT ?_
    | refine AC.condT rfl ?_
    | refine AC.condF rfl ?_
    | refine AC.block ?_
    | refine BQ.normal ?_
    | refine BQ.ret ?_
    | refine BQ.here ?_
    | refine BQ.there rfl ?_
    | refine SQ.ret ?_
    | refine SQ.exit ?_
    | refine AC.ret ?_
    | refine AC.exit ?_
    | refine AC.skip ?_
    | (refine AR.split rfl (fun h => ?_) (fun h => ?_) <;> rw [h])
    | (refine AC.cond rfl (fun h => ?_) (fun h => ?_) <;> rw [h])
    | refine FQ.ret rfl rfl ?_
    | refine FQ.normal rfl rfl ?_)
  all_goals rfl
set_option maxRecDepth 100000 in
set_option maxHeartbeats 1000000 in
theorem ny_val (l : List Mk) (n : Nat) (w0 k cap now sq : Int)  (hs : SP l n w0 k cap now sq)  (w : World) (A : Option Addr) (c : Nat) (h : SL w A n c 7 (mkL l)) : Calls Tryz.prog 39 #[.agg (List.toArray (.int .i64 5 :: .int .i64 0 :: .int .i64 w0 :: .int .i64 k :: .int .i64 cap :: .int .i64 0 :: .int .i64 0 :: .int .i64 0 :: .int .i64 0 :: .int .i64 0 :: .int .i64 0 :: .slice none 0 0 :: .int .i64 0 :: .int .i64 0 :: .int .i64 0 :: .int .i64 0 :: .slice none 0 0 :: .int .i64 0 :: .int .i64 0 :: .int .i64 0 :: .int .i64 0 :: .int .i64 0 :: .slice none 0 0 :: .int .i64 0 :: .int .i64 0 :: .int .i64 0 :: .int .i64 0 :: .int .i64 0 :: .int .i64 0 :: .slice none 0 0 :: .int .i64 w0 :: .int .i64 k :: .int .i64 cap :: .int .i64 now :: .int .i64 sq :: .slice A n c :: .int .i64 0 :: .int .i64 0 :: .int .i64 0 :: .slice none 0 0 :: .int .i64 0 :: .slice none 0 0 :: .bool false :: .int .i64 0 :: .int .i64 0 :: .int .i64 0 :: .slice none 0 0 :: .slice none 0 0 :: .int .i64 0 :: .int .i64 0 :: .int .i64 0 :: .slice none 0 0 :: .int .i64 0 :: .int .i64 0 :: .int .i64 0 :: .int .i64 0 :: .slice none 0 0 :: []))] w (fun e w' => e = .returned (.int .i64 0) ∧ Below w.heap.size w w') := by
  refine fun_sliceF tblOK mixedP Tryz.func39 rfl (fun s => [.agg (List.toArray (.int .i64 5 :: .int .i64 0 :: .int .i64 w0 :: .int .i64 k :: .int .i64 cap :: .int .i64 0 :: .int .i64 0 :: .int .i64 0 :: .int .i64 0 :: .int .i64 0 :: .int .i64 0 :: .slice none 0 0 :: .int .i64 0 :: .int .i64 0 :: .int .i64 0 :: .int .i64 0 :: .slice none 0 0 :: .int .i64 0 :: .int .i64 0 :: .int .i64 0 :: .int .i64 0 :: .int .i64 0 :: .slice none 0 0 :: .int .i64 0 :: .int .i64 0 :: .int .i64 0 :: .int .i64 0 :: .int .i64 0 :: .int .i64 0 :: .slice none 0 0 :: .int .i64 w0 :: .int .i64 k :: .int .i64 cap :: .int .i64 now :: .int .i64 sq :: s :: .int .i64 0 :: .int .i64 0 :: .int .i64 0 :: .slice none 0 0 :: .int .i64 0 :: .slice none 0 0 :: .bool false :: .int .i64 0 :: .int .i64 0 :: .int .i64 0 :: .slice none 0 0 :: .slice none 0 0 :: .int .i64 0 :: .int .i64 0 :: .int .i64 0 :: .slice none 0 0 :: .int .i64 0 :: .int .i64 0 :: .int .i64 0 :: .int .i64 0 :: .slice none 0 0 :: []))]) n 7 (mkL l) h (by decide) (allFC_mk l) [.agg (List.toArray (.int .i64 5 :: .int .i64 0 :: .int .i64 w0 :: .int .i64 k :: .int .i64 cap :: .int .i64 0 :: .int .i64 0 :: .int .i64 0 :: .int .i64 0 :: .int .i64 0 :: .int .i64 0 :: .slice none 0 0 :: .int .i64 0 :: .int .i64 0 :: .int .i64 0 :: .int .i64 0 :: .slice none 0 0 :: .int .i64 0 :: .int .i64 0 :: .int .i64 0 :: .int .i64 0 :: .int .i64 0 :: .slice none 0 0 :: .int .i64 0 :: .int .i64 0 :: .int .i64 0 :: .int .i64 0 :: .int .i64 0 :: .int .i64 0 :: .slice none 0 0 :: .int .i64 w0 :: .int .i64 k :: .int .i64 cap :: .int .i64 now :: .int .i64 sq :: (.slice (some ⟨0, 0, none⟩) n 0) :: .int .i64 0 :: .int .i64 0 :: .int .i64 0 :: .slice none 0 0 :: .int .i64 0 :: .slice none 0 0 :: .bool false :: .int .i64 0 :: .int .i64 0 :: .int .i64 0 :: .slice none 0 0 :: .slice none 0 0 :: .int .i64 0 :: .int .i64 0 :: .int .i64 0 :: .slice none 0 0 :: .int .i64 0 :: .int .i64 0 :: .int .i64 0 :: .int .i64 0 :: .slice none 0 0 :: []))] rfl (fun _ => rfl) 17 [(0, .agg (List.toArray (.int .i64 5 :: .int .i64 0 :: .int .i64 w0 :: .int .i64 k :: .int .i64 cap :: .int .i64 0 :: .int .i64 0 :: .int .i64 0 :: .int .i64 0 :: .int .i64 0 :: .int .i64 0 :: .slice none 0 0 :: .int .i64 0 :: .int .i64 0 :: .int .i64 0 :: .int .i64 0 :: .slice none 0 0 :: .int .i64 0 :: .int .i64 0 :: .int .i64 0 :: .int .i64 0 :: .int .i64 0 :: .slice none 0 0 :: .int .i64 0 :: .int .i64 0 :: .int .i64 0 :: .int .i64 0 :: .int .i64 0 :: .int .i64 0 :: .slice none 0 0 :: .int .i64 w0 :: .int .i64 k :: .int .i64 cap :: .int .i64 now :: .int .i64 sq :: (.slice (some ⟨0, 0, none⟩) n 0) :: .int .i64 0 :: .int .i64 0 :: .int .i64 0 :: .slice none 0 0 :: .int .i64 0 :: .slice none 0 0 :: .bool false :: .int .i64 0 :: .int .i64 0 :: .int .i64 0 :: .slice none 0 0 :: .slice none 0 0 :: .int .i64 0 :: .int .i64 0 :: .int .i64 0 :: .slice none 0 0 :: .int .i64 0 :: .int .i64 0 :: .int .i64 0 :: .int .i64 0 :: .slice none 0 0 :: [])))] rfl rfl (by kernel_rfl) rfl rfl _ rfl ?_
  repeat' (first
    | refine AR.auto rfl ?_
    | refine AR.man (AOk.call (fun w => cfg_5 w0 k cap w hs.h3 hs.h4 hs.h5 hs.h6 hs.h1 hs.h2) ent26 rfl rfl rfl rfl rfl) rfl rfl rfl ?_
    | refine AR.man (AOk.callS (fun s => [.agg (List.toArray (.int .i64 5 :: .int .i64 0 :: .int .i64 w0 :: .int .i64 k :: .int .i64 cap :: .int .i64 0 :: .int .i64 0 :: .int .i64 0 :: .int .i64 0 :: .int .i64 0 :: .int .i64 0 :: .slice none 0 0 :: .int .i64 0 :: .int .i64 0 :: .int .i64 0 :: .int .i64 0 :: .slice none 0 0 :: .int .i64 0 :: .int .i64 0 :: .int .i64 0 :: .int .i64 0 :: .int .i64 0 :: .slice none 0 0 :: .int .i64 0 :: .int .i64 0 :: .int .i64 0 :: .int .i64 0 :: .int .i64 0 :: .int .i64 0 :: .slice none 0 0 :: .int .i64 w0 :: .int .i64 k :: .int .i64 cap :: .int .i64 now :: .int .i64 sq :: s :: .int .i64 0 :: .int .i64 0 :: .int .i64 0 :: .slice none 0 0 :: .int .i64 0 :: .slice none 0 0 :: .bool false :: .int .i64 0 :: .int .i64 0 :: .int .i64 0 :: .slice none 0 0 :: .slice none 0 0 :: .int .i64 0 :: .int .i64 0 :: .int .i64 0 :: .slice none 0 0 :: .int .i64 0 :: .int .i64 0 :: .int .i64 0 :: .int .i64 0 :: .slice none 0 0 :: []))]) 0 n 7 (mkL l) (fun w A c h => ny_right l n w0 k cap now sq hs w A c h) ent94 rfl rfl rfl (fun _ => rfl) rfl (fun _ _ h => h) (by decide) (by rw [mkL_len, hs.hl]) (allFC_mk l) rfl rfl) rfl rfl rfl ?_
    | refine AR.man (AOk.callS (fun s => [.agg (List.toArray (.int .i64 5 :: .int .i64 0 :: .int .i64 w0 :: .int .i64 k :: .int .i64 cap :: .int .i64 0 :: .int .i64 0 :: .int .i64 0 :: .int .i64 0 :: .int .i64 0 :: .int .i64 0 :: .slice none 0 0 :: .int .i64 0 :: .int .i64 0 :: .int .i64 0 :: .int .i64 0 :: .slice none 0 0 :: .int .i64 0 :: .int .i64 0 :: .int .i64 0 :: .int .i64 0 :: .int .i64 0 :: .slice none 0 0 :: .int .i64 0 :: .int .i64 0 :: .int .i64 0 :: .int .i64 0 :: .int .i64 0 :: .int .i64 0 :: .slice none 0 0 :: .int .i64 w0 :: .int .i64 k :: .int .i64 cap :: .int .i64 now :: .int .i64 sq :: s :: .int .i64 0 :: .int .i64 0 :: .int .i64 0 :: .slice none 0 0 :: .int .i64 0 :: .slice none 0 0 :: .bool false :: .int .i64 0 :: .int .i64 0 :: .int .i64 0 :: .slice none 0 0 :: .slice none 0 0 :: .int .i64 0 :: .int .i64 0 :: .int .i64 0 :: .slice none 0 0 :: .int .i64 0 :: .int .i64 0 :: .int .i64 0 :: .int .i64 0 :: .slice none 0 0 :: []))]) 0 n 7 (mkL l) (fun w A c h => ny_oth l n w0 k cap now sq hs w A c h) ent95 rfl rfl rfl (fun _ => rfl) rfl (fun _ _ h => h) (by decide) (by rw [mkL_len, hs.hl]) (allFC_mk l) rfl rfl) rfl rfl rfl ?_
    | refine AR.nil ?_
    | refine KF.mk ?_
    | refine KT.mk (by kernel_rfl) ?_
    | refine SQ.normal ?_
    | refine AC.seq ?_
    | refine AC.regF ?_
    | refine AC.regT ?_
    | refine AC.condT rfl ?_
    | refine AC.condF rfl ?_
    | refine AC.block ?_
    | refine BQ.normal ?_
    | refine BQ.ret ?_
    | refine BQ.here ?_
    | refine BQ.there rfl ?_
    | refine SQ.ret ?_
    | refine SQ.exit ?_
    | refine AC.ret ?_
    | refine AC.exit ?_
    | refine AC.skip ?_
    | (refine AR.split rfl (fun h => ?_) (fun h => ?_) <;> rw [h])
    | (refine AC.cond rfl (fun h => ?_) (fun h => ?_) <;> rw [h])
    | refine FQ.ret rfl rfl ?_
    | refine FQ.normal rfl rfl ?_)
  all_goals rfl
set_option maxRecDepth 100000 in
set_option maxHeartbeats 1000000 in
theorem ny_new (w0 k cap : Int) (h1 : 1 ≤ k) (h2 : k ≤ 64) (h3 : 1 ≤ cap) (h4 : cap ≤ 65536) (h5 : 1 ≤ w0) (h6 : w0 ≤ 1048576) (w : World) : Calls Tryz.prog 7 #[.agg #[.int .i64 5, .int .i64 0, .int .i64 w0, .int .i64 k, .int .i64 cap, .int .i64 0, .int .i64 0, .int .i64 0], .int .i64 0] w (fun e w' => e = .returned (.tuple #[.agg (List.toArray (.int .i64 5 :: .int .i64 0 :: .int .i64 w0 :: .int .i64 k :: .int .i64 cap :: .int .i64 0 :: .int .i64 0 :: .int .i64 0 :: .int .i64 0 :: .int .i64 0 :: .int .i64 0 :: .slice none 0 0 :: .int .i64 0 :: .int .i64 0 :: .int .i64 0 :: .int .i64 0 :: .slice none 0 0 :: .int .i64 0 :: .int .i64 0 :: .int .i64 0 :: .int .i64 0 :: .int .i64 0 :: .slice none 0 0 :: .int .i64 0 :: .int .i64 0 :: .int .i64 0 :: .int .i64 0 :: .int .i64 0 :: .int .i64 0 :: .slice none 0 0 :: .int .i64 w0 :: .int .i64 k :: .int .i64 cap :: .int .i64 0 :: .int .i64 0 :: .slice none 0 0 :: .int .i64 0 :: .int .i64 0 :: .int .i64 0 :: .slice none 0 0 :: .int .i64 0 :: .slice none 0 0 :: .bool false :: .int .i64 0 :: .int .i64 0 :: .int .i64 0 :: .slice none 0 0 :: .slice none 0 0 :: .int .i64 0 :: .int .i64 0 :: .int .i64 0 :: .slice none 0 0 :: .int .i64 0 :: .int .i64 0 :: .int .i64 0 :: .int .i64 0 :: .slice none 0 0 :: [])), .int .i64 0]) ∧ Below w.heap.size w w') := by
  refine fun_flat tblOK mixedP Tryz.func7 rfl [.agg #[.int .i64 5, .int .i64 0, .int .i64 w0, .int .i64 k, .int .i64 cap, .int .i64 0, .int .i64 0, .int .i64 0], .int .i64 0] w 173 [(0, .agg #[.int .i64 5, .int .i64 0, .int .i64 w0, .int .i64 k, .int .i64 cap, .int .i64 0, .int .i64 0, .int .i64 0]), (1, .int .i64 0)] rfl rfl (by kernel_rfl) rfl rfl rfl _ rfl ?_
  repeat' (first
    | refine AR.auto rfl ?_
    | refine AR.man (AOk.call (fun w => cfg_5 w0 k cap w h1 h2 h3 h4 h5 h6) ent26 rfl rfl rfl rfl rfl) rfl rfl rfl ?_
    | refine AR.man (ok_ny_tick rfl rfl rfl) rfl rfl rfl ?_
    | refine AR.man (ok_nS_new h5 h6 h1 h2 h3 h4 (by decide) (by decide) rfl rfl rfl) rfl rfl rfl ?_
    | refine AR.nil ?_
    | refine KF.mk ?_
    | refine KT.mk (by kernel_rfl) ?_
    | refine SQ.normal ?_
    | refine AC.seq ?_
    | refine AC.regF ?_
    | refine AC.regT ?_
    | refine AC.condT rfl ?_
    | refine AC.condF rfl ?_
    | refine AC.block ?_
    | refine BQ.normal ?_
    | refine BQ.ret ?_
    | refine BQ.here ?_
    | refine BQ.there rfl ?_
    | refine SQ.ret ?_
    | refine SQ.exit ?_
    | refine AC.ret ?_
    | refine AC.exit ?_
    | refine AC.skip ?_
    | (refine AR.split rfl (fun h => ?_) (fun h => ?_) <;> rw [h])
    | (refine AC.cond rfl (fun h => ?_) (fun h => ?_) <;> rw [h])
    | refine FQ.ret rfl rfl ?_
    | refine FQ.normal rfl rfl ?_)
  rfl
theorem ent7 : Enters Tryz.prog 7 := enters Tryz.func7 (by kernel_rfl) (by kernel_rfl)
theorem ok_ny_new {w0 k cap : Int} (h1 : 1 ≤ k) (h2 : k ≤ 64) (h3 : 1 ≤ cap) (h4 : cap ≤ 65536) (h5 : 1 ≤ w0) (h6 : w0 ≤ 1048576) {st : St} {o : Oper} {cl : Call} (ho : o.op = .call cl) (hc : cl.callee = .value (.func 7)) (hargs : evs st cl.args.toList = some [.agg #[.int .i64 5, .int .i64 0, .int .i64 w0, .int .i64 k, .int .i64 cap, .int .i64 0, .int .i64 0, .int .i64 0], .int .i64 0]) : AOk Tryz.prog st o ⟨rq st cl.args.toList, []⟩ ⟨.tuple #[.agg (List.toArray (.int .i64 5 :: .int .i64 0 :: .int .i64 w0 :: .int .i64 k :: .int .i64 cap :: .int .i64 0 :: .int .i64 0 :: .int .i64 0 :: .int .i64 0 :: .int .i64 0 :: .int .i64 0 :: .slice none 0 0 :: .int .i64 0 :: .int .i64 0 :: .int .i64 0 :: .int .i64 0 :: .slice none 0 0 :: .int .i64 0 :: .int .i64 0 :: .int .i64 0 :: .int .i64 0 :: .int .i64 0 :: .slice none 0 0 :: .int .i64 0 :: .int .i64 0 :: .int .i64 0 :: .int .i64 0 :: .int .i64 0 :: .int .i64 0 :: .slice none 0 0 :: .int .i64 w0 :: .int .i64 k :: .int .i64 cap :: .int .i64 0 :: .int .i64 0 :: .slice none 0 0 :: .int .i64 0 :: .int .i64 0 :: .int .i64 0 :: .slice none 0 0 :: .int .i64 0 :: .slice none 0 0 :: .bool false :: .int .i64 0 :: .int .i64 0 :: .int .i64 0 :: .slice none 0 0 :: .slice none 0 0 :: .int .i64 0 :: .int .i64 0 :: .int .i64 0 :: .slice none 0 0 :: .int .i64 0 :: .int .i64 0 :: .int .i64 0 :: .int .i64 0 :: .slice none 0 0 :: [])), .int .i64 0], [], []⟩ :=
  AOk.call (fun w => ny_new w0 k cap h1 h2 h3 h4 h5 h6 w) ent7 ho hc hargs rfl rfl
set_option maxRecDepth 100000 in
set_option maxHeartbeats 1000000 in
theorem ny_adv (l : List Mk) (n : Nat) (w0 k cap now sq : Int) (u : Int) (hs : SP l n w0 k cap now sq) (hu : now ≤ u) (hu2 : u ≤ 16777216) (w : World) (A : Option Addr) (c : Nat) (h : SL w A n c 7 (mkL l)) : Calls Tryz.prog 69 #[.agg (List.toArray (.int .i64 5 :: .int .i64 0 :: .int .i64 w0 :: .int .i64 k :: .int .i64 cap :: .int .i64 0 :: .int .i64 0 :: .int .i64 0 :: .int .i64 0 :: .int .i64 0 :: .int .i64 0 :: .slice none 0 0 :: .int .i64 0 :: .int .i64 0 :: .int .i64 0 :: .int .i64 0 :: .slice none 0 0 :: .int .i64 0 :: .int .i64 0 :: .int .i64 0 :: .int .i64 0 :: .int .i64 0 :: .slice none 0 0 :: .int .i64 0 :: .int .i64 0 :: .int .i64 0 :: .int .i64 0 :: .int .i64 0 :: .int .i64 0 :: .slice none 0 0 :: .int .i64 w0 :: .int .i64 k :: .int .i64 cap :: .int .i64 now :: .int .i64 sq :: .slice A n c :: .int .i64 0 :: .int .i64 0 :: .int .i64 0 :: .slice none 0 0 :: .int .i64 0 :: .slice none 0 0 :: .bool false :: .int .i64 0 :: .int .i64 0 :: .int .i64 0 :: .slice none 0 0 :: .slice none 0 0 :: .int .i64 0 :: .int .i64 0 :: .int .i64 0 :: .slice none 0 0 :: .int .i64 0 :: .int .i64 0 :: .int .i64 0 :: .int .i64 0 :: .slice none 0 0 :: [])), .int .i64 u] w (fun e w' => ∃ A' c', e = .returned (.tuple #[.agg (List.toArray (.int .i64 5 :: .int .i64 0 :: .int .i64 w0 :: .int .i64 k :: .int .i64 cap :: .int .i64 0 :: .int .i64 0 :: .int .i64 0 :: .int .i64 0 :: .int .i64 0 :: .int .i64 0 :: .slice none 0 0 :: .int .i64 0 :: .int .i64 0 :: .int .i64 0 :: .int .i64 0 :: .slice none 0 0 :: .int .i64 0 :: .int .i64 0 :: .int .i64 0 :: .int .i64 0 :: .int .i64 0 :: .slice none 0 0 :: .int .i64 0 :: .int .i64 0 :: .int .i64 0 :: .int .i64 0 :: .int .i64 0 :: .int .i64 0 :: .slice none 0 0 :: .int .i64 w0 :: .int .i64 k :: .int .i64 cap :: .int .i64 u :: .int .i64 sq :: .slice A' (advM u w0 l).length c' :: .int .i64 0 :: .int .i64 0 :: .int .i64 0 :: .slice none 0 0 :: .int .i64 0 :: .slice none 0 0 :: .bool false :: .int .i64 0 :: .int .i64 0 :: .int .i64 0 :: .slice none 0 0 :: .slice none 0 0 :: .int .i64 0 :: .int .i64 0 :: .int .i64 0 :: .slice none 0 0 :: .int .i64 0 :: .int .i64 0 :: .int .i64 0 :: .int .i64 0 :: .slice none 0 0 :: [])), .int .i64 0]) ∧ OwnK w' w.heap.size 203 7 (.slice A' (advM u w0 l).length c') (advM u w0 l).length (mkL (advM u w0 l)) ∧ Below w.heap.size w w') := by
  refine fun_sliceO tblOK mixedP Tryz.func69 rfl (fun s => [.agg (List.toArray (.int .i64 5 :: .int .i64 0 :: .int .i64 w0 :: .int .i64 k :: .int .i64 cap :: .int .i64 0 :: .int .i64 0 :: .int .i64 0 :: .int .i64 0 :: .int .i64 0 :: .int .i64 0 :: .slice none 0 0 :: .int .i64 0 :: .int .i64 0 :: .int .i64 0 :: .int .i64 0 :: .slice none 0 0 :: .int .i64 0 :: .int .i64 0 :: .int .i64 0 :: .int .i64 0 :: .int .i64 0 :: .slice none 0 0 :: .int .i64 0 :: .int .i64 0 :: .int .i64 0 :: .int .i64 0 :: .int .i64 0 :: .int .i64 0 :: .slice none 0 0 :: .int .i64 w0 :: .int .i64 k :: .int .i64 cap :: .int .i64 now :: .int .i64 sq :: s :: .int .i64 0 :: .int .i64 0 :: .int .i64 0 :: .slice none 0 0 :: .int .i64 0 :: .slice none 0 0 :: .bool false :: .int .i64 0 :: .int .i64 0 :: .int .i64 0 :: .slice none 0 0 :: .slice none 0 0 :: .int .i64 0 :: .int .i64 0 :: .int .i64 0 :: .slice none 0 0 :: .int .i64 0 :: .int .i64 0 :: .int .i64 0 :: .int .i64 0 :: .slice none 0 0 :: [])), .int .i64 u]) n 7 (mkL l) h (by decide) (allFC_mk l) [.agg (List.toArray (.int .i64 5 :: .int .i64 0 :: .int .i64 w0 :: .int .i64 k :: .int .i64 cap :: .int .i64 0 :: .int .i64 0 :: .int .i64 0 :: .int .i64 0 :: .int .i64 0 :: .int .i64 0 :: .slice none 0 0 :: .int .i64 0 :: .int .i64 0 :: .int .i64 0 :: .int .i64 0 :: .slice none 0 0 :: .int .i64 0 :: .int .i64 0 :: .int .i64 0 :: .int .i64 0 :: .int .i64 0 :: .slice none 0 0 :: .int .i64 0 :: .int .i64 0 :: .int .i64 0 :: .int .i64 0 :: .int .i64 0 :: .int .i64 0 :: .slice none 0 0 :: .int .i64 w0 :: .int .i64 k :: .int .i64 cap :: .int .i64 now :: .int .i64 sq :: (.slice (some ⟨0, 0, none⟩) n 0) :: .int .i64 0 :: .int .i64 0 :: .int .i64 0 :: .slice none 0 0 :: .int .i64 0 :: .slice none 0 0 :: .bool false :: .int .i64 0 :: .int .i64 0 :: .int .i64 0 :: .slice none 0 0 :: .slice none 0 0 :: .int .i64 0 :: .int .i64 0 :: .int .i64 0 :: .slice none 0 0 :: .int .i64 0 :: .int .i64 0 :: .int .i64 0 :: .int .i64 0 :: .slice none 0 0 :: [])), .int .i64 u] rfl (fun _ => rfl) 114 [(0, .agg (List.toArray (.int .i64 5 :: .int .i64 0 :: .int .i64 w0 :: .int .i64 k :: .int .i64 cap :: .int .i64 0 :: .int .i64 0 :: .int .i64 0 :: .int .i64 0 :: .int .i64 0 :: .int .i64 0 :: .slice none 0 0 :: .int .i64 0 :: .int .i64 0 :: .int .i64 0 :: .int .i64 0 :: .slice none 0 0 :: .int .i64 0 :: .int .i64 0 :: .int .i64 0 :: .int .i64 0 :: .int .i64 0 :: .slice none 0 0 :: .int .i64 0 :: .int .i64 0 :: .int .i64 0 :: .int .i64 0 :: .int .i64 0 :: .int .i64 0 :: .slice none 0 0 :: .int .i64 w0 :: .int .i64 k :: .int .i64 cap :: .int .i64 now :: .int .i64 sq :: (.slice (some ⟨0, 0, none⟩) n 0) :: .int .i64 0 :: .int .i64 0 :: .int .i64 0 :: .slice none 0 0 :: .int .i64 0 :: .slice none 0 0 :: .bool false :: .int .i64 0 :: .int .i64 0 :: .int .i64 0 :: .slice none 0 0 :: .slice none 0 0 :: .int .i64 0 :: .int .i64 0 :: .int .i64 0 :: .slice none 0 0 :: .int .i64 0 :: .int .i64 0 :: .int .i64 0 :: .int .i64 0 :: .slice none 0 0 :: []))), (1, .int .i64 u)] rfl rfl (by kernel_rfl) rfl rfl (fun s => .tuple #[.agg (List.toArray (.int .i64 5 :: .int .i64 0 :: .int .i64 w0 :: .int .i64 k :: .int .i64 cap :: .int .i64 0 :: .int .i64 0 :: .int .i64 0 :: .int .i64 0 :: .int .i64 0 :: .int .i64 0 :: .slice none 0 0 :: .int .i64 0 :: .int .i64 0 :: .int .i64 0 :: .int .i64 0 :: .slice none 0 0 :: .int .i64 0 :: .int .i64 0 :: .int .i64 0 :: .int .i64 0 :: .int .i64 0 :: .slice none 0 0 :: .int .i64 0 :: .int .i64 0 :: .int .i64 0 :: .int .i64 0 :: .int .i64 0 :: .int .i64 0 :: .slice none 0 0 :: .int .i64 w0 :: .int .i64 k :: .int .i64 cap :: .int .i64 u :: .int .i64 sq :: s :: .int .i64 0 :: .int .i64 0 :: .int .i64 0 :: .slice none 0 0 :: .int .i64 0 :: .slice none 0 0 :: .bool false :: .int .i64 0 :: .int .i64 0 :: .int .i64 0 :: .slice none 0 0 :: .slice none 0 0 :: .int .i64 0 :: .int .i64 0 :: .int .i64 0 :: .slice none 0 0 :: .int .i64 0 :: .int .i64 0 :: .int .i64 0 :: .int .i64 0 :: .slice none 0 0 :: [])), .int .i64 0]) (advM u w0 l).length 7 203 (mkL (advM u w0 l)) (mkL_len _) (by decide) (allFC_mk _) (fun _ _ => rfl) ?_
  repeat' (first
    | refine AR.auto rfl ?_
    | refine AR.man (AOk.callS (fun s => [.agg (List.toArray (.int .i64 5 :: .int .i64 0 :: .int .i64 w0 :: .int .i64 k :: .int .i64 cap :: .int .i64 0 :: .int .i64 0 :: .int .i64 0 :: .int .i64 0 :: .int .i64 0 :: .int .i64 0 :: .slice none 0 0 :: .int .i64 0 :: .int .i64 0 :: .int .i64 0 :: .int .i64 0 :: .slice none 0 0 :: .int .i64 0 :: .int .i64 0 :: .int .i64 0 :: .int .i64 0 :: .int .i64 0 :: .slice none 0 0 :: .int .i64 0 :: .int .i64 0 :: .int .i64 0 :: .int .i64 0 :: .int .i64 0 :: .int .i64 0 :: .slice none 0 0 :: .int .i64 w0 :: .int .i64 k :: .int .i64 cap :: .int .i64 now :: .int .i64 sq :: s :: .int .i64 0 :: .int .i64 0 :: .int .i64 0 :: .slice none 0 0 :: .int .i64 0 :: .slice none 0 0 :: .bool false :: .int .i64 0 :: .int .i64 0 :: .int .i64 0 :: .slice none 0 0 :: .slice none 0 0 :: .int .i64 0 :: .int .i64 0 :: .int .i64 0 :: .slice none 0 0 :: .int .i64 0 :: .int .i64 0 :: .int .i64 0 :: .int .i64 0 :: .slice none 0 0 :: []))]) 0 n 7 (mkL l) (fun w A c h => ny_val l n w0 k cap now sq hs w A c h) ent39 rfl rfl rfl (fun _ => rfl) rfl (fun _ _ h => h) (by decide) (by rw [mkL_len, hs.hl]) (allFC_mk l) rfl rfl) rfl rfl rfl ?_
    | refine AR.man (AOk.callOS (fun s => [.agg #[.int .i64 w0, .int .i64 k, .int .i64 cap, .int .i64 now, .int .i64 sq, s], .int .i64 u]) 0 n 7 (mkL l) (fun s => .tuple #[.agg #[.int .i64 w0, .int .i64 k, .int .i64 cap, .int .i64 u, .int .i64 sq, s], .int .i64 0]) 90 (advM u w0 l).length 7 203 (mkL (advM u w0 l)) (fun w A c h => nS_adv l n w0 k cap now sq u hs.hl (by have := hs.hn; omega) hs.h1 hs.h2 hs.h3 hs.h4 hs.h5 hs.h6 hs.h7 hu hu2 hs.hv hs.hcl w A c h) ent152 rfl rfl rfl (fun _ => rfl) rfl (fun _ _ h => h) (by decide) (by rw [mkL_len, hs.hl]) (allFC_mk l) rfl rfl (fun _ => rfl) rfl (allFC_mk _)) rfl rfl rfl ?_
    | refine AR.nil ?_
    | refine KF.mk ?_
    | refine KT.mk (by kernel_rfl) ?_
    | refine SQ.normal ?_
    | refine AC.seq ?_
    | refine AC.regF ?_
    | refine AC.regT ?_
    | refine AC.condT rfl ?_
    | refine AC.condF rfl ?_
    | refine AC.block ?_
    | refine BQ.normal ?_
    | refine BQ.ret ?_
    | refine BQ.here ?_
    | refine BQ.there rfl ?_
    | refine SQ.ret ?_
    | refine SQ.exit ?_
    | refine AC.ret ?_
    | refine AC.exit ?_
    | refine AC.skip ?_
    | (refine AR.split rfl (fun h => ?_) (fun h => ?_) <;> rw [h])
    | (refine AC.cond rfl (fun h => ?_) (fun h => ?_) <;> rw [h])
    | refine FQ.ret rfl rfl ?_
    | refine FQ.normal rfl rfl ?_)
  all_goals exact ⟨_, rfl, rfl⟩
set_option maxRecDepth 100000 in
set_option maxHeartbeats 1000000 in
theorem ny_add (l : List Mk) (n : Nat) (w0 k cap now sq : Int) (v : Int) (l1 out : List Mk) (hs : SP l n w0 k cap now sq) (v1 : -4096 ≤ v) (v2 : v ≤ 4096) (hfull : ∀ m, l[0]? = some m → m.n ≠ cap) (hsq : sq < 1099511627776) (hl1 : l.map (upM v) ++ [⟨sq + 1, now, 1, v, v * v, v, v⟩] = l1) (hok1 : ∀ m ∈ l1, MkOK m) (hout : out = pickI l1 (pruneI (nearI k l1) (n + 1) (n + 1) 0)) (w : World) (A : Option Addr) (c : Nat) (h : SL w A n c 7 (mkL l)) : Calls Tryz.prog 13 #[.agg (List.toArray (.int .i64 5 :: .int .i64 0 :: .int .i64 w0 :: .int .i64 k :: .int .i64 cap :: .int .i64 0 :: .int .i64 0 :: .int .i64 0 :: .int .i64 0 :: .int .i64 0 :: .int .i64 0 :: .slice none 0 0 :: .int .i64 0 :: .int .i64 0 :: .int .i64 0 :: .int .i64 0 :: .slice none 0 0 :: .int .i64 0 :: .int .i64 0 :: .int .i64 0 :: .int .i64 0 :: .int .i64 0 :: .slice none 0 0 :: .int .i64 0 :: .int .i64 0 :: .int .i64 0 :: .int .i64 0 :: .int .i64 0 :: .int .i64 0 :: .slice none 0 0 :: .int .i64 w0 :: .int .i64 k :: .int .i64 cap :: .int .i64 now :: .int .i64 sq :: .slice A n c :: .int .i64 0 :: .int .i64 0 :: .int .i64 0 :: .slice none 0 0 :: .int .i64 0 :: .slice none 0 0 :: .bool false :: .int .i64 0 :: .int .i64 0 :: .int .i64 0 :: .slice none 0 0 :: .slice none 0 0 :: .int .i64 0 :: .int .i64 0 :: .int .i64 0 :: .slice none 0 0 :: .int .i64 0 :: .int .i64 0 :: .int .i64 0 :: .int .i64 0 :: .slice none 0 0 :: [])), .int .i64 v, .slice none 0 0] w (fun e w' => ∃ A' c', e = .returned (.tuple #[.agg (List.toArray (.int .i64 5 :: .int .i64 0 :: .int .i64 w0 :: .int .i64 k :: .int .i64 cap :: .int .i64 0 :: .int .i64 0 :: .int .i64 0 :: .int .i64 0 :: .int .i64 0 :: .int .i64 0 :: .slice none 0 0 :: .int .i64 0 :: .int .i64 0 :: .int .i64 0 :: .int .i64 0 :: .slice none 0 0 :: .int .i64 0 :: .int .i64 0 :: .int .i64 0 :: .int .i64 0 :: .int .i64 0 :: .slice none 0 0 :: .int .i64 0 :: .int .i64 0 :: .int .i64 0 :: .int .i64 0 :: .int .i64 0 :: .int .i64 0 :: .slice none 0 0 :: .int .i64 w0 :: .int .i64 k :: .int .i64 cap :: .int .i64 now :: .int .i64 (sq + 1) :: .slice A' out.length c' :: .int .i64 0 :: .int .i64 0 :: .int .i64 0 :: .slice none 0 0 :: .int .i64 0 :: .slice none 0 0 :: .bool false :: .int .i64 0 :: .int .i64 0 :: .int .i64 0 :: .slice none 0 0 :: .slice none 0 0 :: .int .i64 0 :: .int .i64 0 :: .int .i64 0 :: .slice none 0 0 :: .int .i64 0 :: .int .i64 0 :: .int .i64 0 :: .int .i64 0 :: .slice none 0 0 :: [])), .int .i64 0]) ∧ OwnK w' w.heap.size 203 7 (.slice A' out.length c') out.length (mkL out) ∧ Below w.heap.size w w') := by
  refine fun_sliceO tblOK mixedP Tryz.func13 rfl (fun s => [.agg (List.toArray (.int .i64 5 :: .int .i64 0 :: .int .i64 w0 :: .int .i64 k :: .int .i64 cap :: .int .i64 0 :: .int .i64 0 :: .int .i64 0 :: .int .i64 0 :: .int .i64 0 :: .int .i64 0 :: .slice none 0 0 :: .int .i64 0 :: .int .i64 0 :: .int .i64 0 :: .int .i64 0 :: .slice none 0 0 :: .int .i64 0 :: .int .i64 0 :: .int .i64 0 :: .int .i64 0 :: .int .i64 0 :: .slice none 0 0 :: .int .i64 0 :: .int .i64 0 :: .int .i64 0 :: .int .i64 0 :: .int .i64 0 :: .int .i64 0 :: .slice none 0 0 :: .int .i64 w0 :: .int .i64 k :: .int .i64 cap :: .int .i64 now :: .int .i64 sq :: s :: .int .i64 0 :: .int .i64 0 :: .int .i64 0 :: .slice none 0 0 :: .int .i64 0 :: .slice none 0 0 :: .bool false :: .int .i64 0 :: .int .i64 0 :: .int .i64 0 :: .slice none 0 0 :: .slice none 0 0 :: .int .i64 0 :: .int .i64 0 :: .int .i64 0 :: .slice none 0 0 :: .int .i64 0 :: .int .i64 0 :: .int .i64 0 :: .int .i64 0 :: .slice none 0 0 :: [])), .int .i64 v, .slice none 0 0]) n 7 (mkL l) h (by decide) (allFC_mk l) [.agg (List.toArray (.int .i64 5 :: .int .i64 0 :: .int .i64 w0 :: .int .i64 k :: .int .i64 cap :: .int .i64 0 :: .int .i64 0 :: .int .i64 0 :: .int .i64 0 :: .int .i64 0 :: .int .i64 0 :: .slice none 0 0 :: .int .i64 0 :: .int .i64 0 :: .int .i64 0 :: .int .i64 0 :: .slice none 0 0 :: .int .i64 0 :: .int .i64 0 :: .int .i64 0 :: .int .i64 0 :: .int .i64 0 :: .slice none 0 0 :: .int .i64 0 :: .int .i64 0 :: .int .i64 0 :: .int .i64 0 :: .int .i64 0 :: .int .i64 0 :: .slice none 0 0 :: .int .i64 w0 :: .int .i64 k :: .int .i64 cap :: .int .i64 now :: .int .i64 sq :: (.slice (some ⟨0, 0, none⟩) n 0) :: .int .i64 0 :: .int .i64 0 :: .int .i64 0 :: .slice none 0 0 :: .int .i64 0 :: .slice none 0 0 :: .bool false :: .int .i64 0 :: .int .i64 0 :: .int .i64 0 :: .slice none 0 0 :: .slice none 0 0 :: .int .i64 0 :: .int .i64 0 :: .int .i64 0 :: .slice none 0 0 :: .int .i64 0 :: .int .i64 0 :: .int .i64 0 :: .int .i64 0 :: .slice none 0 0 :: [])), .int .i64 v, .slice none 0 0] rfl (fun _ => rfl) 153 [(0, .agg (List.toArray (.int .i64 5 :: .int .i64 0 :: .int .i64 w0 :: .int .i64 k :: .int .i64 cap :: .int .i64 0 :: .int .i64 0 :: .int .i64 0 :: .int .i64 0 :: .int .i64 0 :: .int .i64 0 :: .slice none 0 0 :: .int .i64 0 :: .int .i64 0 :: .int .i64 0 :: .int .i64 0 :: .slice none 0 0 :: .int .i64 0 :: .int .i64 0 :: .int .i64 0 :: .int .i64 0 :: .int .i64 0 :: .slice none 0 0 :: .int .i64 0 :: .int .i64 0 :: .int .i64 0 :: .int .i64 0 :: .int .i64 0 :: .int .i64 0 :: .slice none 0 0 :: .int .i64 w0 :: .int .i64 k :: .int .i64 cap :: .int .i64 now :: .int .i64 sq :: (.slice (some ⟨0, 0, none⟩) n 0) :: .int .i64 0 :: .int .i64 0 :: .int .i64 0 :: .slice none 0 0 :: .int .i64 0 :: .slice none 0 0 :: .bool false :: .int .i64 0 :: .int .i64 0 :: .int .i64 0 :: .slice none 0 0 :: .slice none 0 0 :: .int .i64 0 :: .int .i64 0 :: .int .i64 0 :: .slice none 0 0 :: .int .i64 0 :: .int .i64 0 :: .int .i64 0 :: .int .i64 0 :: .slice none 0 0 :: []))), (1, .int .i64 v), (2, .slice none 0 0)] rfl rfl (by kernel_rfl) rfl rfl (fun s => .tuple #[.agg (List.toArray (.int .i64 5 :: .int .i64 0 :: .int .i64 w0 :: .int .i64 k :: .int .i64 cap :: .int .i64 0 :: .int .i64 0 :: .int .i64 0 :: .int .i64 0 :: .int .i64 0 :: .int .i64 0 :: .slice none 0 0 :: .int .i64 0 :: .int .i64 0 :: .int .i64 0 :: .int .i64 0 :: .slice none 0 0 :: .int .i64 0 :: .int .i64 0 :: .int .i64 0 :: .int .i64 0 :: .int .i64 0 :: .slice none 0 0 :: .int .i64 0 :: .int .i64 0 :: .int .i64 0 :: .int .i64 0 :: .int .i64 0 :: .int .i64 0 :: .slice none 0 0 :: .int .i64 w0 :: .int .i64 k :: .int .i64 cap :: .int .i64 now :: .int .i64 (sq + 1) :: s :: .int .i64 0 :: .int .i64 0 :: .int .i64 0 :: .slice none 0 0 :: .int .i64 0 :: .slice none 0 0 :: .bool false :: .int .i64 0 :: .int .i64 0 :: .int .i64 0 :: .slice none 0 0 :: .slice none 0 0 :: .int .i64 0 :: .int .i64 0 :: .int .i64 0 :: .slice none 0 0 :: .int .i64 0 :: .int .i64 0 :: .int .i64 0 :: .int .i64 0 :: .slice none 0 0 :: [])), .int .i64 0]) out.length 7 203 (mkL out) (mkL_len _) (by decide) (allFC_mk _) (fun _ _ => rfl) ?_
  repeat' (first
    | refine AR.auto rfl ?_
    | refine AR.man (AOk.callS (fun s => [.agg (List.toArray (.int .i64 5 :: .int .i64 0 :: .int .i64 w0 :: .int .i64 k :: .int .i64 cap :: .int .i64 0 :: .int .i64 0 :: .int .i64 0 :: .int .i64 0 :: .int .i64 0 :: .int .i64 0 :: .slice none 0 0 :: .int .i64 0 :: .int .i64 0 :: .int .i64 0 :: .int .i64 0 :: .slice none 0 0 :: .int .i64 0 :: .int .i64 0 :: .int .i64 0 :: .int .i64 0 :: .int .i64 0 :: .slice none 0 0 :: .int .i64 0 :: .int .i64 0 :: .int .i64 0 :: .int .i64 0 :: .int .i64 0 :: .int .i64 0 :: .slice none 0 0 :: .int .i64 w0 :: .int .i64 k :: .int .i64 cap :: .int .i64 now :: .int .i64 sq :: s :: .int .i64 0 :: .int .i64 0 :: .int .i64 0 :: .slice none 0 0 :: .int .i64 0 :: .slice none 0 0 :: .bool false :: .int .i64 0 :: .int .i64 0 :: .int .i64 0 :: .slice none 0 0 :: .slice none 0 0 :: .int .i64 0 :: .int .i64 0 :: .int .i64 0 :: .slice none 0 0 :: .int .i64 0 :: .int .i64 0 :: .int .i64 0 :: .int .i64 0 :: .slice none 0 0 :: []))]) 0 n 7 (mkL l) (fun w A c h => ny_val l n w0 k cap now sq hs w A c h) ent39 rfl rfl rfl (fun _ => rfl) rfl (fun _ _ h => h) (by decide) (by rw [mkL_len, hs.hl]) (allFC_mk l) rfl rfl) rfl rfl rfl ?_
    | refine AR.man (AOk.callOS (fun s => [.agg #[.int .i64 w0, .int .i64 k, .int .i64 cap, .int .i64 now, .int .i64 sq, s], .int .i64 v]) 0 n 7 (mkL l) (fun s => .tuple #[.agg #[.int .i64 w0, .int .i64 k, .int .i64 cap, .int .i64 now, .int .i64 (sq + 1), s], .int .i64 0]) 90 out.length 7 203 (mkL out) (fun w A c h => nS_add l n w0 k cap now sq v l1 out hs.hl hs.hn hs.h1 hs.h2 hs.h3 hs.h4 hs.h5 hs.h6 hs.h7 hs.h8 hs.hv hs.hcl v1 v2 hfull hsq hl1 hok1 hout w A c h) ent45 rfl rfl rfl (fun _ => rfl) rfl (fun _ _ h => h) (by decide) (by rw [mkL_len, hs.hl]) (allFC_mk l) rfl rfl (fun _ => rfl) rfl (allFC_mk _)) rfl rfl rfl ?_
    | refine AR.nil ?_
    | refine KF.mk ?_
    | refine KT.mk (by kernel_rfl) ?_
    | refine SQ.normal ?_
    | refine AC.seq ?_
    | refine AC.regF ?_
    | refine AC.regT ?_
    | refine AC.condT rfl ?_
    | refine AC.condF rfl ?_
    | refine AC.block ?_
    | refine BQ.normal ?_
    | refine BQ.ret ?_
    | refine BQ.here ?_
    | refine BQ.there rfl ?_
    | refine SQ.ret ?_
    | refine SQ.exit ?_
    | refine AC.ret ?_
    | refine AC.exit ?_
    | refine AC.skip ?_
    | (refine AR.split rfl (fun h => ?_) (fun h => ?_) <;> rw [h])
    | (refine AC.cond rfl (fun h => ?_) (fun h => ?_) <;> rw [h])
    | refine FQ.ret rfl rfl ?_
    | refine FQ.normal rfl rfl ?_)
  all_goals exact ⟨_, rfl, rfl⟩
set_option maxRecDepth 100000 in
set_option maxHeartbeats 1000000 in
theorem ny_ask0 (l : List Mk) (n : Nat) (w0 k cap now sq : Int)  (hs : SP l n w0 k cap now sq) (hn0 : n = 0) (w : World) (A : Option Addr) (c : Nat) (h : SL w A n c 7 (mkL l)) : Calls Tryz.prog 14 #[.agg (List.toArray (.int .i64 5 :: .int .i64 0 :: .int .i64 w0 :: .int .i64 k :: .int .i64 cap :: .int .i64 0 :: .int .i64 0 :: .int .i64 0 :: .int .i64 0 :: .int .i64 0 :: .int .i64 0 :: .slice none 0 0 :: .int .i64 0 :: .int .i64 0 :: .int .i64 0 :: .int .i64 0 :: .slice none 0 0 :: .int .i64 0 :: .int .i64 0 :: .int .i64 0 :: .int .i64 0 :: .int .i64 0 :: .slice none 0 0 :: .int .i64 0 :: .int .i64 0 :: .int .i64 0 :: .int .i64 0 :: .int .i64 0 :: .int .i64 0 :: .slice none 0 0 :: .int .i64 w0 :: .int .i64 k :: .int .i64 cap :: .int .i64 now :: .int .i64 sq :: .slice A n c :: .int .i64 0 :: .int .i64 0 :: .int .i64 0 :: .slice none 0 0 :: .int .i64 0 :: .slice none 0 0 :: .bool false :: .int .i64 0 :: .int .i64 0 :: .int .i64 0 :: .slice none 0 0 :: .slice none 0 0 :: .int .i64 0 :: .int .i64 0 :: .int .i64 0 :: .slice none 0 0 :: .int .i64 0 :: .int .i64 0 :: .int .i64 0 :: .int .i64 0 :: .slice none 0 0 :: [])), .agg #[.int .i64 5, .int .i64 0, .int .i64 0]] w (fun e w' => e = .returned (.tuple #[.agg #[.int .i64 0, .int .i64 1, .int .i64 0, .int .i64 1, .int .i64 0, .int .i64 1, .slice none 0 0, .int .u64 0, .int .u64 0, .int .u64 0, .int .u64 0], .int .i64 0]) ∧ Below w.heap.size w w') := by
  refine fun_sliceF tblOK mixedP Tryz.func14 rfl (fun s => [.agg (List.toArray (.int .i64 5 :: .int .i64 0 :: .int .i64 w0 :: .int .i64 k :: .int .i64 cap :: .int .i64 0 :: .int .i64 0 :: .int .i64 0 :: .int .i64 0 :: .int .i64 0 :: .int .i64 0 :: .slice none 0 0 :: .int .i64 0 :: .int .i64 0 :: .int .i64 0 :: .int .i64 0 :: .slice none 0 0 :: .int .i64 0 :: .int .i64 0 :: .int .i64 0 :: .int .i64 0 :: .int .i64 0 :: .slice none 0 0 :: .int .i64 0 :: .int .i64 0 :: .int .i64 0 :: .int .i64 0 :: .int .i64 0 :: .int .i64 0 :: .slice none 0 0 :: .int .i64 w0 :: .int .i64 k :: .int .i64 cap :: .int .i64 now :: .int .i64 sq :: s :: .int .i64 0 :: .int .i64 0 :: .int .i64 0 :: .slice none 0 0 :: .int .i64 0 :: .slice none 0 0 :: .bool false :: .int .i64 0 :: .int .i64 0 :: .int .i64 0 :: .slice none 0 0 :: .slice none 0 0 :: .int .i64 0 :: .int .i64 0 :: .int .i64 0 :: .slice none 0 0 :: .int .i64 0 :: .int .i64 0 :: .int .i64 0 :: .int .i64 0 :: .slice none 0 0 :: [])), .agg #[.int .i64 5, .int .i64 0, .int .i64 0]]) n 7 (mkL l) h (by decide) (allFC_mk l) [.agg (List.toArray (.int .i64 5 :: .int .i64 0 :: .int .i64 w0 :: .int .i64 k :: .int .i64 cap :: .int .i64 0 :: .int .i64 0 :: .int .i64 0 :: .int .i64 0 :: .int .i64 0 :: .int .i64 0 :: .slice none 0 0 :: .int .i64 0 :: .int .i64 0 :: .int .i64 0 :: .int .i64 0 :: .slice none 0 0 :: .int .i64 0 :: .int .i64 0 :: .int .i64 0 :: .int .i64 0 :: .int .i64 0 :: .slice none 0 0 :: .int .i64 0 :: .int .i64 0 :: .int .i64 0 :: .int .i64 0 :: .int .i64 0 :: .int .i64 0 :: .slice none 0 0 :: .int .i64 w0 :: .int .i64 k :: .int .i64 cap :: .int .i64 now :: .int .i64 sq :: (.slice (some ⟨0, 0, none⟩) n 0) :: .int .i64 0 :: .int .i64 0 :: .int .i64 0 :: .slice none 0 0 :: .int .i64 0 :: .slice none 0 0 :: .bool false :: .int .i64 0 :: .int .i64 0 :: .int .i64 0 :: .slice none 0 0 :: .slice none 0 0 :: .int .i64 0 :: .int .i64 0 :: .int .i64 0 :: .slice none 0 0 :: .int .i64 0 :: .int .i64 0 :: .int .i64 0 :: .int .i64 0 :: .slice none 0 0 :: [])), .agg #[.int .i64 5, .int .i64 0, .int .i64 0]] rfl (fun _ => rfl) 162 [(0, .agg (List.toArray (.int .i64 5 :: .int .i64 0 :: .int .i64 w0 :: .int .i64 k :: .int .i64 cap :: .int .i64 0 :: .int .i64 0 :: .int .i64 0 :: .int .i64 0 :: .int .i64 0 :: .int .i64 0 :: .slice none 0 0 :: .int .i64 0 :: .int .i64 0 :: .int .i64 0 :: .int .i64 0 :: .slice none 0 0 :: .int .i64 0 :: .int .i64 0 :: .int .i64 0 :: .int .i64 0 :: .int .i64 0 :: .slice none 0 0 :: .int .i64 0 :: .int .i64 0 :: .int .i64 0 :: .int .i64 0 :: .int .i64 0 :: .int .i64 0 :: .slice none 0 0 :: .int .i64 w0 :: .int .i64 k :: .int .i64 cap :: .int .i64 now :: .int .i64 sq :: (.slice (some ⟨0, 0, none⟩) n 0) :: .int .i64 0 :: .int .i64 0 :: .int .i64 0 :: .slice none 0 0 :: .int .i64 0 :: .slice none 0 0 :: .bool false :: .int .i64 0 :: .int .i64 0 :: .int .i64 0 :: .slice none 0 0 :: .slice none 0 0 :: .int .i64 0 :: .int .i64 0 :: .int .i64 0 :: .slice none 0 0 :: .int .i64 0 :: .int .i64 0 :: .int .i64 0 :: .int .i64 0 :: .slice none 0 0 :: []))), (1, .agg #[.int .i64 5, .int .i64 0, .int .i64 0])] rfl rfl (by kernel_rfl) rfl rfl _ rfl ?_
  repeat' (first
    | refine AR.auto rfl ?_
    | refine AR.man (AOk.callS (fun s => [.agg (List.toArray (.int .i64 5 :: .int .i64 0 :: .int .i64 w0 :: .int .i64 k :: .int .i64 cap :: .int .i64 0 :: .int .i64 0 :: .int .i64 0 :: .int .i64 0 :: .int .i64 0 :: .int .i64 0 :: .slice none 0 0 :: .int .i64 0 :: .int .i64 0 :: .int .i64 0 :: .int .i64 0 :: .slice none 0 0 :: .int .i64 0 :: .int .i64 0 :: .int .i64 0 :: .int .i64 0 :: .int .i64 0 :: .slice none 0 0 :: .int .i64 0 :: .int .i64 0 :: .int .i64 0 :: .int .i64 0 :: .int .i64 0 :: .int .i64 0 :: .slice none 0 0 :: .int .i64 w0 :: .int .i64 k :: .int .i64 cap :: .int .i64 now :: .int .i64 sq :: s :: .int .i64 0 :: .int .i64 0 :: .int .i64 0 :: .slice none 0 0 :: .int .i64 0 :: .slice none 0 0 :: .bool false :: .int .i64 0 :: .int .i64 0 :: .int .i64 0 :: .slice none 0 0 :: .slice none 0 0 :: .int .i64 0 :: .int .i64 0 :: .int .i64 0 :: .slice none 0 0 :: .int .i64 0 :: .int .i64 0 :: .int .i64 0 :: .int .i64 0 :: .slice none 0 0 :: []))]) 0 n 7 (mkL l) (fun w A c h => ny_val l n w0 k cap now sq hs w A c h) ent39 rfl rfl rfl (fun _ => rfl) rfl (fun _ _ h => h) (by decide) (by rw [mkL_len, hs.hl]) (allFC_mk l) rfl rfl) rfl rfl rfl ?_
    | refine AR.man (AOk.call (ans_5 w0 k cap hs.h3 hs.h4 hs.h5 hs.h6 hs.h1 hs.h2) ent52 rfl rfl rfl rfl rfl) rfl rfl rfl ?_
    | refine AR.man (AOk.callS (fun s => [.agg #[.int .i64 w0, .int .i64 k, .int .i64 cap, .int .i64 now, .int .i64 sq, s]]) 0 n 7 (mkL l) (fun w A c h => nS_ask0 l n w0 k cap now sq  hs.hl hs.hn hs.h1 hs.h2 hs.h3 hs.h4 hs.h5 hs.h6 hs.h7 hs.h8 hs.hv hs.hcl hn0 w A c h) ent57 rfl rfl rfl (fun _ => rfl) rfl (fun _ _ h => h) (by decide) (by rw [mkL_len, hs.hl]) (allFC_mk l) rfl rfl) rfl rfl rfl ?_
    | refine AR.nil ?_
    | refine KF.mk ?_
    | refine KT.mk (by kernel_rfl) ?_
    | refine SQ.normal ?_
    | refine AC.seq ?_
    | refine AC.regF ?_
    | refine AC.regT ?_
    | refine AC.condT rfl ?_
    | refine AC.condF rfl ?_
    | refine AC.block ?_
    | refine BQ.normal ?_
    | refine BQ.ret ?_
    | refine BQ.here ?_
    | refine BQ.there rfl ?_
    | refine SQ.ret ?_
    | refine SQ.exit ?_
    | refine AC.ret ?_
    | refine AC.exit ?_
    | refine AC.skip ?_
    | (refine AR.split rfl (fun h => ?_) (fun h => ?_) <;> rw [h])
    | (refine AC.cond rfl (fun h => ?_) (fun h => ?_) <;> rw [h])
    | refine FQ.ret rfl rfl ?_
    | refine FQ.normal rfl rfl ?_)
  all_goals rfl
set_option maxRecDepth 100000 in
set_option maxHeartbeats 1000000 in
theorem ny_ask1 (l : List Mk) (n : Nat) (w0 k cap now sq : Int) (a : Mk) (x y : Nat) (hs : SP l n w0 k cap now sq) (ha : l[0]? = some a) (hx : a.n * a.q - a.s * a.s = x) (hy : a.n = y) (hlive : now - w0 < a.t) (hn0 : 0 < n) (w : World) (A : Option Addr) (c : Nat) (h : SL w A n c 7 (mkL l)) : Calls Tryz.prog 14 #[.agg (List.toArray (.int .i64 5 :: .int .i64 0 :: .int .i64 w0 :: .int .i64 k :: .int .i64 cap :: .int .i64 0 :: .int .i64 0 :: .int .i64 0 :: .int .i64 0 :: .int .i64 0 :: .int .i64 0 :: .slice none 0 0 :: .int .i64 0 :: .int .i64 0 :: .int .i64 0 :: .int .i64 0 :: .slice none 0 0 :: .int .i64 0 :: .int .i64 0 :: .int .i64 0 :: .int .i64 0 :: .int .i64 0 :: .slice none 0 0 :: .int .i64 0 :: .int .i64 0 :: .int .i64 0 :: .int .i64 0 :: .int .i64 0 :: .int .i64 0 :: .slice none 0 0 :: .int .i64 w0 :: .int .i64 k :: .int .i64 cap :: .int .i64 now :: .int .i64 sq :: .slice A n c :: .int .i64 0 :: .int .i64 0 :: .int .i64 0 :: .slice none 0 0 :: .int .i64 0 :: .slice none 0 0 :: .bool false :: .int .i64 0 :: .int .i64 0 :: .int .i64 0 :: .slice none 0 0 :: .slice none 0 0 :: .int .i64 0 :: .int .i64 0 :: .int .i64 0 :: .slice none 0 0 :: .int .i64 0 :: .int .i64 0 :: .int .i64 0 :: .int .i64 0 :: .slice none 0 0 :: [])), .agg #[.int .i64 5, .int .i64 0, .int .i64 0]] w (fun e w' => e = .returned (.tuple #[.agg #[.int .i64 ((x / Nat.gcd x y : Nat)), .int .i64 ((y / Nat.gcd x y : Nat)), .int .i64 ((x / Nat.gcd x y : Nat)), .int .i64 ((y / Nat.gcd x y : Nat)), .int .i64 ((x / Nat.gcd x y : Nat)), .int .i64 ((y / Nat.gcd x y : Nat)), .slice none 0 0, .int .u64 0, .int .u64 0, .int .u64 0, .int .u64 0], .int .i64 0]) ∧ Below w.heap.size w w') := by
  refine fun_sliceF tblOK mixedP Tryz.func14 rfl (fun s => [.agg (List.toArray (.int .i64 5 :: .int .i64 0 :: .int .i64 w0 :: .int .i64 k :: .int .i64 cap :: .int .i64 0 :: .int .i64 0 :: .int .i64 0 :: .int .i64 0 :: .int .i64 0 :: .int .i64 0 :: .slice none 0 0 :: .int .i64 0 :: .int .i64 0 :: .int .i64 0 :: .int .i64 0 :: .slice none 0 0 :: .int .i64 0 :: .int .i64 0 :: .int .i64 0 :: .int .i64 0 :: .int .i64 0 :: .slice none 0 0 :: .int .i64 0 :: .int .i64 0 :: .int .i64 0 :: .int .i64 0 :: .int .i64 0 :: .int .i64 0 :: .slice none 0 0 :: .int .i64 w0 :: .int .i64 k :: .int .i64 cap :: .int .i64 now :: .int .i64 sq :: s :: .int .i64 0 :: .int .i64 0 :: .int .i64 0 :: .slice none 0 0 :: .int .i64 0 :: .slice none 0 0 :: .bool false :: .int .i64 0 :: .int .i64 0 :: .int .i64 0 :: .slice none 0 0 :: .slice none 0 0 :: .int .i64 0 :: .int .i64 0 :: .int .i64 0 :: .slice none 0 0 :: .int .i64 0 :: .int .i64 0 :: .int .i64 0 :: .int .i64 0 :: .slice none 0 0 :: [])), .agg #[.int .i64 5, .int .i64 0, .int .i64 0]]) n 7 (mkL l) h (by decide) (allFC_mk l) [.agg (List.toArray (.int .i64 5 :: .int .i64 0 :: .int .i64 w0 :: .int .i64 k :: .int .i64 cap :: .int .i64 0 :: .int .i64 0 :: .int .i64 0 :: .int .i64 0 :: .int .i64 0 :: .int .i64 0 :: .slice none 0 0 :: .int .i64 0 :: .int .i64 0 :: .int .i64 0 :: .int .i64 0 :: .slice none 0 0 :: .int .i64 0 :: .int .i64 0 :: .int .i64 0 :: .int .i64 0 :: .int .i64 0 :: .slice none 0 0 :: .int .i64 0 :: .int .i64 0 :: .int .i64 0 :: .int .i64 0 :: .int .i64 0 :: .int .i64 0 :: .slice none 0 0 :: .int .i64 w0 :: .int .i64 k :: .int .i64 cap :: .int .i64 now :: .int .i64 sq :: (.slice (some ⟨0, 0, none⟩) n 0) :: .int .i64 0 :: .int .i64 0 :: .int .i64 0 :: .slice none 0 0 :: .int .i64 0 :: .slice none 0 0 :: .bool false :: .int .i64 0 :: .int .i64 0 :: .int .i64 0 :: .slice none 0 0 :: .slice none 0 0 :: .int .i64 0 :: .int .i64 0 :: .int .i64 0 :: .slice none 0 0 :: .int .i64 0 :: .int .i64 0 :: .int .i64 0 :: .int .i64 0 :: .slice none 0 0 :: [])), .agg #[.int .i64 5, .int .i64 0, .int .i64 0]] rfl (fun _ => rfl) 162 [(0, .agg (List.toArray (.int .i64 5 :: .int .i64 0 :: .int .i64 w0 :: .int .i64 k :: .int .i64 cap :: .int .i64 0 :: .int .i64 0 :: .int .i64 0 :: .int .i64 0 :: .int .i64 0 :: .int .i64 0 :: .slice none 0 0 :: .int .i64 0 :: .int .i64 0 :: .int .i64 0 :: .int .i64 0 :: .slice none 0 0 :: .int .i64 0 :: .int .i64 0 :: .int .i64 0 :: .int .i64 0 :: .int .i64 0 :: .slice none 0 0 :: .int .i64 0 :: .int .i64 0 :: .int .i64 0 :: .int .i64 0 :: .int .i64 0 :: .int .i64 0 :: .slice none 0 0 :: .int .i64 w0 :: .int .i64 k :: .int .i64 cap :: .int .i64 now :: .int .i64 sq :: (.slice (some ⟨0, 0, none⟩) n 0) :: .int .i64 0 :: .int .i64 0 :: .int .i64 0 :: .slice none 0 0 :: .int .i64 0 :: .slice none 0 0 :: .bool false :: .int .i64 0 :: .int .i64 0 :: .int .i64 0 :: .slice none 0 0 :: .slice none 0 0 :: .int .i64 0 :: .int .i64 0 :: .int .i64 0 :: .slice none 0 0 :: .int .i64 0 :: .int .i64 0 :: .int .i64 0 :: .int .i64 0 :: .slice none 0 0 :: []))), (1, .agg #[.int .i64 5, .int .i64 0, .int .i64 0])] rfl rfl (by kernel_rfl) rfl rfl _ rfl ?_
  repeat' (first
    | refine AR.auto rfl ?_
    | refine AR.man (AOk.callS (fun s => [.agg (List.toArray (.int .i64 5 :: .int .i64 0 :: .int .i64 w0 :: .int .i64 k :: .int .i64 cap :: .int .i64 0 :: .int .i64 0 :: .int .i64 0 :: .int .i64 0 :: .int .i64 0 :: .int .i64 0 :: .slice none 0 0 :: .int .i64 0 :: .int .i64 0 :: .int .i64 0 :: .int .i64 0 :: .slice none 0 0 :: .int .i64 0 :: .int .i64 0 :: .int .i64 0 :: .int .i64 0 :: .int .i64 0 :: .slice none 0 0 :: .int .i64 0 :: .int .i64 0 :: .int .i64 0 :: .int .i64 0 :: .int .i64 0 :: .int .i64 0 :: .slice none 0 0 :: .int .i64 w0 :: .int .i64 k :: .int .i64 cap :: .int .i64 now :: .int .i64 sq :: s :: .int .i64 0 :: .int .i64 0 :: .int .i64 0 :: .slice none 0 0 :: .int .i64 0 :: .slice none 0 0 :: .bool false :: .int .i64 0 :: .int .i64 0 :: .int .i64 0 :: .slice none 0 0 :: .slice none 0 0 :: .int .i64 0 :: .int .i64 0 :: .int .i64 0 :: .slice none 0 0 :: .int .i64 0 :: .int .i64 0 :: .int .i64 0 :: .int .i64 0 :: .slice none 0 0 :: []))]) 0 n 7 (mkL l) (fun w A c h => ny_val l n w0 k cap now sq hs w A c h) ent39 rfl rfl rfl (fun _ => rfl) rfl (fun _ _ h => h) (by decide) (by rw [mkL_len, hs.hl]) (allFC_mk l) rfl rfl) rfl rfl rfl ?_
    | refine AR.man (AOk.call (ans_5 w0 k cap hs.h3 hs.h4 hs.h5 hs.h6 hs.h1 hs.h2) ent52 rfl rfl rfl rfl rfl) rfl rfl rfl ?_
    | refine AR.man (AOk.callS (fun s => [.agg #[.int .i64 w0, .int .i64 k, .int .i64 cap, .int .i64 now, .int .i64 sq, s]]) 0 n 7 (mkL l) (fun w A c h => nS_ask1 l n w0 k cap now sq a x y hs.hl hs.hn hs.h1 hs.h2 hs.h3 hs.h4 hs.h5 hs.h6 hs.h7 hs.h8 hs.hv hs.hcl ha hx hy hlive hn0 w A c h) ent57 rfl rfl rfl (fun _ => rfl) rfl (fun _ _ h => h) (by decide) (by rw [mkL_len, hs.hl]) (allFC_mk l) rfl rfl) rfl rfl rfl ?_
    | refine AR.nil ?_
    | refine KF.mk ?_
    | refine KT.mk (by kernel_rfl) ?_
    | refine SQ.normal ?_
    | refine AC.seq ?_
    | refine AC.regF ?_
    | refine AC.regT ?_
    | refine AC.condT rfl ?_
    | refine AC.condF rfl ?_
    | refine AC.block ?_
    | refine BQ.normal ?_
    | refine BQ.ret ?_
    | refine BQ.here ?_
    | refine BQ.there rfl ?_
    | refine SQ.ret ?_
    | refine SQ.exit ?_
    | refine AC.ret ?_
    | refine AC.exit ?_
    | refine AC.skip ?_
    | (refine AR.split rfl (fun h => ?_) (fun h => ?_) <;> rw [h])
    | (refine AC.cond rfl (fun h => ?_) (fun h => ?_) <;> rw [h])
    | refine FQ.ret rfl rfl ?_
    | refine FQ.normal rfl rfl ?_)
  all_goals rfl
set_option maxRecDepth 100000 in
set_option maxHeartbeats 1000000 in
theorem ny_ask2 (l : List Mk) (n : Nat) (w0 k cap now sq : Int) (a b : Mk) (x y u z : Nat) (hs : SP l n w0 k cap now sq) (ha : l[0]? = some a) (hb : l[1]? = some b) (hx : a.n * a.q - a.s * a.s = x) (hy : a.n = y) (hu : b.n * b.q - b.s * b.s = u) (hz : b.n = z) (hdead : ¬ now - w0 < a.t) (hn0 : 1 < n) (hnext : b.seq = a.seq + 1) (w : World) (A : Option Addr) (c : Nat) (h : SL w A n c 7 (mkL l)) : Calls Tryz.prog 14 #[.agg (List.toArray (.int .i64 5 :: .int .i64 0 :: .int .i64 w0 :: .int .i64 k :: .int .i64 cap :: .int .i64 0 :: .int .i64 0 :: .int .i64 0 :: .int .i64 0 :: .int .i64 0 :: .int .i64 0 :: .slice none 0 0 :: .int .i64 0 :: .int .i64 0 :: .int .i64 0 :: .int .i64 0 :: .slice none 0 0 :: .int .i64 0 :: .int .i64 0 :: .int .i64 0 :: .int .i64 0 :: .int .i64 0 :: .slice none 0 0 :: .int .i64 0 :: .int .i64 0 :: .int .i64 0 :: .int .i64 0 :: .int .i64 0 :: .int .i64 0 :: .slice none 0 0 :: .int .i64 w0 :: .int .i64 k :: .int .i64 cap :: .int .i64 now :: .int .i64 sq :: .slice A n c :: .int .i64 0 :: .int .i64 0 :: .int .i64 0 :: .slice none 0 0 :: .int .i64 0 :: .slice none 0 0 :: .bool false :: .int .i64 0 :: .int .i64 0 :: .int .i64 0 :: .slice none 0 0 :: .slice none 0 0 :: .int .i64 0 :: .int .i64 0 :: .int .i64 0 :: .slice none 0 0 :: .int .i64 0 :: .int .i64 0 :: .int .i64 0 :: .int .i64 0 :: .slice none 0 0 :: [])), .agg #[.int .i64 5, .int .i64 0, .int .i64 0]] w (fun e w' => e = .returned (.tuple #[.agg #[.int .i64 ((u / Nat.gcd u z : Nat)), .int .i64 ((z / Nat.gcd u z : Nat)), .int .i64 ((u / Nat.gcd u z : Nat)), .int .i64 ((z / Nat.gcd u z : Nat)), .int .i64 ((u / Nat.gcd u z : Nat)), .int .i64 ((z / Nat.gcd u z : Nat)), .slice none 0 0, .int .u64 0, .int .u64 0, .int .u64 0, .int .u64 0], .int .i64 0]) ∧ Below w.heap.size w w') := by
  refine fun_sliceF tblOK mixedP Tryz.func14 rfl (fun s => [.agg (List.toArray (.int .i64 5 :: .int .i64 0 :: .int .i64 w0 :: .int .i64 k :: .int .i64 cap :: .int .i64 0 :: .int .i64 0 :: .int .i64 0 :: .int .i64 0 :: .int .i64 0 :: .int .i64 0 :: .slice none 0 0 :: .int .i64 0 :: .int .i64 0 :: .int .i64 0 :: .int .i64 0 :: .slice none 0 0 :: .int .i64 0 :: .int .i64 0 :: .int .i64 0 :: .int .i64 0 :: .int .i64 0 :: .slice none 0 0 :: .int .i64 0 :: .int .i64 0 :: .int .i64 0 :: .int .i64 0 :: .int .i64 0 :: .int .i64 0 :: .slice none 0 0 :: .int .i64 w0 :: .int .i64 k :: .int .i64 cap :: .int .i64 now :: .int .i64 sq :: s :: .int .i64 0 :: .int .i64 0 :: .int .i64 0 :: .slice none 0 0 :: .int .i64 0 :: .slice none 0 0 :: .bool false :: .int .i64 0 :: .int .i64 0 :: .int .i64 0 :: .slice none 0 0 :: .slice none 0 0 :: .int .i64 0 :: .int .i64 0 :: .int .i64 0 :: .slice none 0 0 :: .int .i64 0 :: .int .i64 0 :: .int .i64 0 :: .int .i64 0 :: .slice none 0 0 :: [])), .agg #[.int .i64 5, .int .i64 0, .int .i64 0]]) n 7 (mkL l) h (by decide) (allFC_mk l) [.agg (List.toArray (.int .i64 5 :: .int .i64 0 :: .int .i64 w0 :: .int .i64 k :: .int .i64 cap :: .int .i64 0 :: .int .i64 0 :: .int .i64 0 :: .int .i64 0 :: .int .i64 0 :: .int .i64 0 :: .slice none 0 0 :: .int .i64 0 :: .int .i64 0 :: .int .i64 0 :: .int .i64 0 :: .slice none 0 0 :: .int .i64 0 :: .int .i64 0 :: .int .i64 0 :: .int .i64 0 :: .int .i64 0 :: .slice none 0 0 :: .int .i64 0 :: .int .i64 0 :: .int .i64 0 :: .int .i64 0 :: .int .i64 0 :: .int .i64 0 :: .slice none 0 0 :: .int .i64 w0 :: .int .i64 k :: .int .i64 cap :: .int .i64 now :: .int .i64 sq :: (.slice (some ⟨0, 0, none⟩) n 0) :: .int .i64 0 :: .int .i64 0 :: .int .i64 0 :: .slice none 0 0 :: .int .i64 0 :: .slice none 0 0 :: .bool false :: .int .i64 0 :: .int .i64 0 :: .int .i64 0 :: .slice none 0 0 :: .slice none 0 0 :: .int .i64 0 :: .int .i64 0 :: .int .i64 0 :: .slice none 0 0 :: .int .i64 0 :: .int .i64 0 :: .int .i64 0 :: .int .i64 0 :: .slice none 0 0 :: [])), .agg #[.int .i64 5, .int .i64 0, .int .i64 0]] rfl (fun _ => rfl) 162 [(0, .agg (List.toArray (.int .i64 5 :: .int .i64 0 :: .int .i64 w0 :: .int .i64 k :: .int .i64 cap :: .int .i64 0 :: .int .i64 0 :: .int .i64 0 :: .int .i64 0 :: .int .i64 0 :: .int .i64 0 :: .slice none 0 0 :: .int .i64 0 :: .int .i64 0 :: .int .i64 0 :: .int .i64 0 :: .slice none 0 0 :: .int .i64 0 :: .int .i64 0 :: .int .i64 0 :: .int .i64 0 :: .int .i64 0 :: .slice none 0 0 :: .int .i64 0 :: .int .i64 0 :: .int .i64 0 :: .int .i64 0 :: .int .i64 0 :: .int .i64 0 :: .slice none 0 0 :: .int .i64 w0 :: .int .i64 k :: .int .i64 cap :: .int .i64 now :: .int .i64 sq :: (.slice (some ⟨0, 0, none⟩) n 0) :: .int .i64 0 :: .int .i64 0 :: .int .i64 0 :: .slice none 0 0 :: .int .i64 0 :: .slice none 0 0 :: .bool false :: .int .i64 0 :: .int .i64 0 :: .int .i64 0 :: .slice none 0 0 :: .slice none 0 0 :: .int .i64 0 :: .int .i64 0 :: .int .i64 0 :: .slice none 0 0 :: .int .i64 0 :: .int .i64 0 :: .int .i64 0 :: .int .i64 0 :: .slice none 0 0 :: []))), (1, .agg #[.int .i64 5, .int .i64 0, .int .i64 0])] rfl rfl (by kernel_rfl) rfl rfl _ rfl ?_
  repeat' (first
    | refine AR.auto rfl ?_
    | refine AR.man (AOk.callS (fun s => [.agg (List.toArray (.int .i64 5 :: .int .i64 0 :: .int .i64 w0 :: .int .i64 k :: .int .i64 cap :: .int .i64 0 :: .int .i64 0 :: .int .i64 0 :: .int .i64 0 :: .int .i64 0 :: .int .i64 0 :: .slice none 0 0 :: .int .i64 0 :: .int .i64 0 :: .int .i64 0 :: .int .i64 0 :: .slice none 0 0 :: .int .i64 0 :: .int .i64 0 :: .int .i64 0 :: .int .i64 0 :: .int .i64 0 :: .slice none 0 0 :: .int .i64 0 :: .int .i64 0 :: .int .i64 0 :: .int .i64 0 :: .int .i64 0 :: .int .i64 0 :: .slice none 0 0 :: .int .i64 w0 :: .int .i64 k :: .int .i64 cap :: .int .i64 now :: .int .i64 sq :: s :: .int .i64 0 :: .int .i64 0 :: .int .i64 0 :: .slice none 0 0 :: .int .i64 0 :: .slice none 0 0 :: .bool false :: .int .i64 0 :: .int .i64 0 :: .int .i64 0 :: .slice none 0 0 :: .slice none 0 0 :: .int .i64 0 :: .int .i64 0 :: .int .i64 0 :: .slice none 0 0 :: .int .i64 0 :: .int .i64 0 :: .int .i64 0 :: .int .i64 0 :: .slice none 0 0 :: []))]) 0 n 7 (mkL l) (fun w A c h => ny_val l n w0 k cap now sq hs w A c h) ent39 rfl rfl rfl (fun _ => rfl) rfl (fun _ _ h => h) (by decide) (by rw [mkL_len, hs.hl]) (allFC_mk l) rfl rfl) rfl rfl rfl ?_
    | refine AR.man (AOk.call (ans_5 w0 k cap hs.h3 hs.h4 hs.h5 hs.h6 hs.h1 hs.h2) ent52 rfl rfl rfl rfl rfl) rfl rfl rfl ?_
    | refine AR.man (AOk.callS (fun s => [.agg #[.int .i64 w0, .int .i64 k, .int .i64 cap, .int .i64 now, .int .i64 sq, s]]) 0 n 7 (mkL l) (fun w A c h => nS_ask2 l n w0 k cap now sq a b x y u z hs.hl hs.hn hs.h1 hs.h2 hs.h3 hs.h4 hs.h5 hs.h6 hs.h7 hs.h8 hs.hv hs.hcl ha hb hx hy hu hz hdead hn0 hnext w A c h) ent57 rfl rfl rfl (fun _ => rfl) rfl (fun _ _ h => h) (by decide) (by rw [mkL_len, hs.hl]) (allFC_mk l) rfl rfl) rfl rfl rfl ?_
    | refine AR.nil ?_
    | refine KF.mk ?_
    | refine KT.mk (by kernel_rfl) ?_
    | refine SQ.normal ?_
    | refine AC.seq ?_
    | refine AC.regF ?_
    | refine AC.regT ?_
    | refine AC.condT rfl ?_
    | refine AC.condF rfl ?_
    | refine AC.block ?_
    | refine BQ.normal ?_
    | refine BQ.ret ?_
    | refine BQ.here ?_
    | refine BQ.there rfl ?_
    | refine SQ.ret ?_
    | refine SQ.exit ?_
    | refine AC.ret ?_
    | refine AC.exit ?_
    | refine AC.skip ?_
    | (refine AR.split rfl (fun h => ?_) (fun h => ?_) <;> rw [h])
    | (refine AC.cond rfl (fun h => ?_) (fun h => ?_) <;> rw [h])
    | refine FQ.ret rfl rfl ?_
    | refine FQ.normal rfl rfl ?_)
  all_goals rfl
set_option maxRecDepth 100000 in
set_option maxHeartbeats 1000000 in
theorem ny_ask3 (l : List Mk) (n : Nat) (w0 k cap now sq : Int) (a b : Mk) (x y u z : Nat) (hs : SP l n w0 k cap now sq) (ha : l[0]? = some a) (hb : l[1]? = some b) (hx : a.n * a.q - a.s * a.s = x) (hy : a.n = y) (hu : b.n * b.q - b.s * b.s = u) (hz : b.n = z) (hdead : ¬ now - w0 < a.t) (hn0 : 1 < n) (hnext : b.seq ≠ a.seq + 1) (w : World) (A : Option Addr) (c : Nat) (h : SL w A n c 7 (mkL l)) : Calls Tryz.prog 14 #[.agg (List.toArray (.int .i64 5 :: .int .i64 0 :: .int .i64 w0 :: .int .i64 k :: .int .i64 cap :: .int .i64 0 :: .int .i64 0 :: .int .i64 0 :: .int .i64 0 :: .int .i64 0 :: .int .i64 0 :: .slice none 0 0 :: .int .i64 0 :: .int .i64 0 :: .int .i64 0 :: .int .i64 0 :: .slice none 0 0 :: .int .i64 0 :: .int .i64 0 :: .int .i64 0 :: .int .i64 0 :: .int .i64 0 :: .slice none 0 0 :: .int .i64 0 :: .int .i64 0 :: .int .i64 0 :: .int .i64 0 :: .int .i64 0 :: .int .i64 0 :: .slice none 0 0 :: .int .i64 w0 :: .int .i64 k :: .int .i64 cap :: .int .i64 now :: .int .i64 sq :: .slice A n c :: .int .i64 0 :: .int .i64 0 :: .int .i64 0 :: .slice none 0 0 :: .int .i64 0 :: .slice none 0 0 :: .bool false :: .int .i64 0 :: .int .i64 0 :: .int .i64 0 :: .slice none 0 0 :: .slice none 0 0 :: .int .i64 0 :: .int .i64 0 :: .int .i64 0 :: .slice none 0 0 :: .int .i64 0 :: .int .i64 0 :: .int .i64 0 :: .int .i64 0 :: .slice none 0 0 :: [])), .agg #[.int .i64 5, .int .i64 0, .int .i64 0]] w (fun e w' => e = .returned (.tuple #[.agg #[.int .i64 ((u / Nat.gcd u z : Nat)), .int .i64 ((z / Nat.gcd u z : Nat)), .int .i64 ((u / Nat.gcd u z : Nat)), .int .i64 ((z / Nat.gcd u z : Nat)), .int .i64 ((x / Nat.gcd x y : Nat)), .int .i64 ((y / Nat.gcd x y : Nat)), .slice none 0 0, .int .u64 0, .int .u64 0, .int .u64 0, .int .u64 0], .int .i64 0]) ∧ Below w.heap.size w w') := by
  refine fun_sliceF tblOK mixedP Tryz.func14 rfl (fun s => [.agg (List.toArray (.int .i64 5 :: .int .i64 0 :: .int .i64 w0 :: .int .i64 k :: .int .i64 cap :: .int .i64 0 :: .int .i64 0 :: .int .i64 0 :: .int .i64 0 :: .int .i64 0 :: .int .i64 0 :: .slice none 0 0 :: .int .i64 0 :: .int .i64 0 :: .int .i64 0 :: .int .i64 0 :: .slice none 0 0 :: .int .i64 0 :: .int .i64 0 :: .int .i64 0 :: .int .i64 0 :: .int .i64 0 :: .slice none 0 0 :: .int .i64 0 :: .int .i64 0 :: .int .i64 0 :: .int .i64 0 :: .int .i64 0 :: .int .i64 0 :: .slice none 0 0 :: .int .i64 w0 :: .int .i64 k :: .int .i64 cap :: .int .i64 now :: .int .i64 sq :: s :: .int .i64 0 :: .int .i64 0 :: .int .i64 0 :: .slice none 0 0 :: .int .i64 0 :: .slice none 0 0 :: .bool false :: .int .i64 0 :: .int .i64 0 :: .int .i64 0 :: .slice none 0 0 :: .slice none 0 0 :: .int .i64 0 :: .int .i64 0 :: .int .i64 0 :: .slice none 0 0 :: .int .i64 0 :: .int .i64 0 :: .int .i64 0 :: .int .i64 0 :: .slice none 0 0 :: [])), .agg #[.int .i64 5, .int .i64 0, .int .i64 0]]) n 7 (mkL l) h (by decide) (allFC_mk l) [.agg (List.toArray (.int .i64 5 :: .int .i64 0 :: .int .i64 w0 :: .int .i64 k :: .int .i64 cap :: .int .i64 0 :: .int .i64 0 :: .int .i64 0 :: .int .i64 0 :: .int .i64 0 :: .int .i64 0 :: .slice none 0 0 :: .int .i64 0 :: .int .i64 0 :: .int .i64 0 :: .int .i64 0 :: .slice none 0 0 :: .int .i64 0 :: .int .i64 0 :: .int .i64 0 :: .int .i64 0 :: .int .i64 0 :: .slice none 0 0 :: .int .i64 0 :: .int .i64 0 :: .int .i64 0 :: .int .i64 0 :: .int .i64 0 :: .int .i64 0 :: .slice none 0 0 :: .int .i64 w0 :: .int .i64 k :: .int .i64 cap :: .int .i64 now :: .int .i64 sq :: (.slice (some ⟨0, 0, none⟩) n 0) :: .int .i64 0 :: .int .i64 0 :: .int .i64 0 :: .slice none 0 0 :: .int .i64 0 :: .slice none 0 0 :: .bool false :: .int .i64 0 :: .int .i64 0 :: .int .i64 0 :: .slice none 0 0 :: .slice none 0 0 :: .int .i64 0 :: .int .i64 0 :: .int .i64 0 :: .slice none 0 0 :: .int .i64 0 :: .int .i64 0 :: .int .i64 0 :: .int .i64 0 :: .slice none 0 0 :: [])), .agg #[.int .i64 5, .int .i64 0, .int .i64 0]] rfl (fun _ => rfl) 162 [(0, .agg (List.toArray (.int .i64 5 :: .int .i64 0 :: .int .i64 w0 :: .int .i64 k :: .int .i64 cap :: .int .i64 0 :: .int .i64 0 :: .int .i64 0 :: .int .i64 0 :: .int .i64 0 :: .int .i64 0 :: .slice none 0 0 :: .int .i64 0 :: .int .i64 0 :: .int .i64 0 :: .int .i64 0 :: .slice none 0 0 :: .int .i64 0 :: .int .i64 0 :: .int .i64 0 :: .int .i64 0 :: .int .i64 0 :: .slice none 0 0 :: .int .i64 0 :: .int .i64 0 :: .int .i64 0 :: .int .i64 0 :: .int .i64 0 :: .int .i64 0 :: .slice none 0 0 :: .int .i64 w0 :: .int .i64 k :: .int .i64 cap :: .int .i64 now :: .int .i64 sq :: (.slice (some ⟨0, 0, none⟩) n 0) :: .int .i64 0 :: .int .i64 0 :: .int .i64 0 :: .slice none 0 0 :: .int .i64 0 :: .slice none 0 0 :: .bool false :: .int .i64 0 :: .int .i64 0 :: .int .i64 0 :: .slice none 0 0 :: .slice none 0 0 :: .int .i64 0 :: .int .i64 0 :: .int .i64 0 :: .slice none 0 0 :: .int .i64 0 :: .int .i64 0 :: .int .i64 0 :: .int .i64 0 :: .slice none 0 0 :: []))), (1, .agg #[.int .i64 5, .int .i64 0, .int .i64 0])] rfl rfl (by kernel_rfl) rfl rfl _ rfl ?_
  repeat' (first
    | refine AR.auto rfl ?_
    | refine AR.man (AOk.callS (fun s => [.agg (List.toArray (.int .i64 5 :: .int .i64 0 :: .int .i64 w0 :: .int .i64 k :: .int .i64 cap :: .int .i64 0 :: .int .i64 0 :: .int .i64 0 :: .int .i64 0 :: .int .i64 0 :: .int .i64 0 :: .slice none 0 0 :: .int .i64 0 :: .int .i64 0 :: .int .i64 0 :: .int .i64 0 :: .slice none 0 0 :: .int .i64 0 :: .int .i64 0 :: .int .i64 0 :: .int .i64 0 :: .int .i64 0 :: .slice none 0 0 :: .int .i64 0 :: .int .i64 0 :: .int .i64 0 :: .int .i64 0 :: .int .i64 0 :: .int .i64 0 :: .slice none 0 0 :: .int .i64 w0 :: .int .i64 k :: .int .i64 cap :: .int .i64 now :: .int .i64 sq :: s :: .int .i64 0 :: .int .i64 0 :: .int .i64 0 :: .slice none 0 0 :: .int .i64 0 :: .slice none 0 0 :: .bool false :: .int .i64 0 :: .int .i64 0 :: .int .i64 0 :: .slice none 0 0 :: .slice none 0 0 :: .int .i64 0 :: .int .i64 0 :: .int .i64 0 :: .slice none 0 0 :: .int .i64 0 :: .int .i64 0 :: .int .i64 0 :: .int .i64 0 :: .slice none 0 0 :: []))]) 0 n 7 (mkL l) (fun w A c h => ny_val l n w0 k cap now sq hs w A c h) ent39 rfl rfl rfl (fun _ => rfl) rfl (fun _ _ h => h) (by decide) (by rw [mkL_len, hs.hl]) (allFC_mk l) rfl rfl) rfl rfl rfl ?_
    | refine AR.man (AOk.call (ans_5 w0 k cap hs.h3 hs.h4 hs.h5 hs.h6 hs.h1 hs.h2) ent52 rfl rfl rfl rfl rfl) rfl rfl rfl ?_
    | refine AR.man (AOk.callS (fun s => [.agg #[.int .i64 w0, .int .i64 k, .int .i64 cap, .int .i64 now, .int .i64 sq, s]]) 0 n 7 (mkL l) (fun w A c h => nS_ask3 l n w0 k cap now sq a b x y u z hs.hl hs.hn hs.h1 hs.h2 hs.h3 hs.h4 hs.h5 hs.h6 hs.h7 hs.h8 hs.hv hs.hcl ha hb hx hy hu hz hdead hn0 hnext w A c h) ent57 rfl rfl rfl (fun _ => rfl) rfl (fun _ _ h => h) (by decide) (by rw [mkL_len, hs.hl]) (allFC_mk l) rfl rfl) rfl rfl rfl ?_
    | refine AR.nil ?_
    | refine KF.mk ?_
    | refine KT.mk (by kernel_rfl) ?_
    | refine SQ.normal ?_
    | refine AC.seq ?_
    | refine AC.regF ?_
    | refine AC.regT ?_
    | refine AC.condT rfl ?_
    | refine AC.condF rfl ?_
    | refine AC.block ?_
    | refine BQ.normal ?_
    | refine BQ.ret ?_
    | refine BQ.here ?_
    | refine BQ.there rfl ?_
    | refine SQ.ret ?_
    | refine SQ.exit ?_
    | refine AC.ret ?_
    | refine AC.exit ?_
    | refine AC.skip ?_
    | (refine AR.split rfl (fun h => ?_) (fun h => ?_) <;> rw [h])
    | (refine AC.cond rfl (fun h => ?_) (fun h => ?_) <;> rw [h])
    | refine FQ.ret rfl rfl ?_
    | refine FQ.normal rfl rfl ?_)
  all_goals rfl
end Go.Proofs.YtbageimconenlaaGreat
