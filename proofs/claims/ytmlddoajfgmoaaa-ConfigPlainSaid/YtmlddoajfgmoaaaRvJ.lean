/- The reference's test of a configuration: the contract for every kind from 1 to 11. -/
import Derived.Test.YtmlddoajfgmoaaaRvA
import Derived.Test.YtmlddoajfgmoaaaRvB
import Derived.Test.YtmlddoajfgmoaaaRvC
import Derived.Test.YtmlddoajfgmoaaaRvD
import Derived.Test.YtmlddoajfgmoaaaRvE
import Derived.Test.YtmlddoajfgmoaaaRvF
import Derived.Test.YtmlddoajfgmoaaaRvG
import Derived.Test.YtmlddoajfgmoaaaRvH
import Derived.Test.YtmlddoajfgmoaaaOther
namespace Go.Proofs.Ytmlddoajfgmoaaa
open Go.RowKit
set_option linter.unusedVariables false
theorem rvalidate_1 (agg W k cap p ch mx : Int) (w : World) : Calls Try.prog 8 #[cfgV 1 agg W k cap p ch mx] w (ValEnd 1 agg W k cap p ch mx w) := by
  have HV := vC_1 agg W k cap p ch mx
  by_cases z0 : agg = 0
  rotate_left
  · refine (rval_1_z0 agg W k cap p ch mx w z0).mono ?_
    rintro e w1 ⟨rfl, hb⟩
    exact ⟨by rw [HV.2 (fun c => z0 c.2.2.1)], hb⟩
  subst z0
  by_cases z1 : k = 0
  rotate_left
  · refine (rval_1_z1 W k cap p ch mx w z1).mono ?_
    rintro e w1 ⟨rfl, hb⟩
    exact ⟨by rw [HV.2 (fun c => z1 c.2.2.2.1)], hb⟩
  subst z1
  by_cases z2 : p = 0
  rotate_left
  · refine (rval_1_z2 W cap p ch mx w z2).mono ?_
    rintro e w1 ⟨rfl, hb⟩
    exact ⟨by rw [HV.2 (fun c => z2 c.2.2.2.2.1)], hb⟩
  subst z2
  by_cases z3 : ch = 0
  rotate_left
  · refine (rval_1_z3 W cap ch mx w z3).mono ?_
    rintro e w1 ⟨rfl, hb⟩
    exact ⟨by rw [HV.2 (fun c => z3 c.2.2.2.2.2.1)], hb⟩
  subst z3
  by_cases z4 : mx = 0
  rotate_left
  · refine (rval_1_z4 W cap mx w z4).mono ?_
    rintro e w1 ⟨rfl, hb⟩
    exact ⟨by rw [HV.2 (fun c => z4 c.2.2.2.2.2.2)], hb⟩
  subst z4
  by_cases hc : ((1 ≤ W ∧ W ≤ 1048576) ∧ 1 ≤ cap ∧ cap ≤ 65536)
  · refine (rval_1_rb W cap w true ⟨fun _ => hc, fun _ => rfl⟩).mono ?_
    rintro e w1 ⟨rfl, hb⟩
    exact ⟨by rw [HV.1 (by omega)]; rfl, hb⟩
  · refine (rval_1_rb W cap w false ⟨fun c => (by cases c), fun c => (hc c).elim⟩).mono ?_
    rintro e w1 ⟨rfl, hb⟩
    exact ⟨by rw [HV.2 (fun c => hc (by omega))]; rfl, hb⟩
theorem rvalidate_2 (agg W k cap p ch mx : Int) (w : World) : Calls Try.prog 8 #[cfgV 2 agg W k cap p ch mx] w (ValEnd 2 agg W k cap p ch mx w) := by
  have HV := vC_2 agg W k cap p ch mx
  by_cases z0 : agg = 0
  rotate_left
  · refine (rval_2_z0 agg W k cap p ch mx w z0).mono ?_
    rintro e w1 ⟨rfl, hb⟩
    exact ⟨by rw [HV.2 (fun c => z0 c.2.2.2.1)], hb⟩
  subst z0
  by_cases z1 : p = 0
  rotate_left
  · refine (rval_2_z1 W k cap p ch mx w z1).mono ?_
    rintro e w1 ⟨rfl, hb⟩
    exact ⟨by rw [HV.2 (fun c => z1 c.2.2.2.2.1)], hb⟩
  subst z1
  by_cases z2 : ch = 0
  rotate_left
  · refine (rval_2_z2 W k cap ch mx w z2).mono ?_
    rintro e w1 ⟨rfl, hb⟩
    exact ⟨by rw [HV.2 (fun c => z2 c.2.2.2.2.2.1)], hb⟩
  subst z2
  by_cases z3 : mx = 0
  rotate_left
  · refine (rval_2_z3 W k cap mx w z3).mono ?_
    rintro e w1 ⟨rfl, hb⟩
    exact ⟨by rw [HV.2 (fun c => z3 c.2.2.2.2.2.2)], hb⟩
  subst z3
  by_cases hc : ((1 ≤ W ∧ W ≤ 1048576) ∧ 1 ≤ cap ∧ cap ≤ 65536) ∧ (1 ≤ k ∧ k ≤ 64)
  · refine (rval_2_rb W k cap w true ⟨fun _ => hc, fun _ => rfl⟩).mono ?_
    rintro e w1 ⟨rfl, hb⟩
    exact ⟨by rw [HV.1 (by omega)]; rfl, hb⟩
  · refine (rval_2_rb W k cap w false ⟨fun c => (by cases c), fun c => (hc c).elim⟩).mono ?_
    rintro e w1 ⟨rfl, hb⟩
    exact ⟨by rw [HV.2 (fun c => hc (by omega))]; rfl, hb⟩
theorem rvalidate_3 (agg W k cap p ch mx : Int) (w : World) : Calls Try.prog 8 #[cfgV 3 agg W k cap p ch mx] w (ValEnd 3 agg W k cap p ch mx w) := by
  have HV := vC_3 agg W k cap p ch mx
  by_cases z0 : agg = 0
  rotate_left
  · refine (rval_3_z0 agg W k cap p ch mx w z0).mono ?_
    rintro e w1 ⟨rfl, hb⟩
    exact ⟨by rw [HV.2 (fun c => z0 c.2.2.2.2.1)], hb⟩
  subst z0
  by_cases z1 : p = 0
  rotate_left
  · refine (rval_3_z1 W k cap p ch mx w z1).mono ?_
    rintro e w1 ⟨rfl, hb⟩
    exact ⟨by rw [HV.2 (fun c => z1 c.2.2.2.2.2.1)], hb⟩
  subst z1
  by_cases z2 : ch = 0
  rotate_left
  · refine (rval_3_z2 W k cap ch mx w z2).mono ?_
    rintro e w1 ⟨rfl, hb⟩
    exact ⟨by rw [HV.2 (fun c => z2 c.2.2.2.2.2.2)], hb⟩
  subst z2
  by_cases hc : ((1 ≤ W ∧ W ≤ 1048576) ∧ 1 ≤ cap ∧ cap ≤ 65536) ∧ (1 ≤ k ∧ k ≤ 64) ∧ (1 ≤ mx ∧ mx ≤ 1024)
  · refine (rval_3_rb W k cap mx w true ⟨fun _ => hc, fun _ => rfl⟩).mono ?_
    rintro e w1 ⟨rfl, hb⟩
    exact ⟨by rw [HV.1 (by omega)]; rfl, hb⟩
  · refine (rval_3_rb W k cap mx w false ⟨fun c => (by cases c), fun c => (hc c).elim⟩).mono ?_
    rintro e w1 ⟨rfl, hb⟩
    exact ⟨by rw [HV.2 (fun c => hc (by omega))]; rfl, hb⟩
theorem rvalidate_4 (agg W k cap p ch mx : Int) (w : World) : Calls Try.prog 8 #[cfgV 4 agg W k cap p ch mx] w (ValEnd 4 agg W k cap p ch mx w) := by
  have HV := vC_4 agg W k cap p ch mx
  by_cases z0 : p = 0
  rotate_left
  · refine (rval_4_z0 agg W k cap p ch mx w z0).mono ?_
    rintro e w1 ⟨rfl, hb⟩
    exact ⟨by rw [HV.2 (fun c => z0 c.2.2.2.2.1)], hb⟩
  subst z0
  by_cases z1 : ch = 0
  rotate_left
  · refine (rval_4_z1 agg W k cap ch mx w z1).mono ?_
    rintro e w1 ⟨rfl, hb⟩
    exact ⟨by rw [HV.2 (fun c => z1 c.2.2.2.2.2.1)], hb⟩
  subst z1
  by_cases z2 : mx = 0
  rotate_left
  · refine (rval_4_z2 agg W k cap mx w z2).mono ?_
    rintro e w1 ⟨rfl, hb⟩
    exact ⟨by rw [HV.2 (fun c => z2 c.2.2.2.2.2.2)], hb⟩
  subst z2
  by_cases hc : ((1 ≤ W ∧ W ≤ 1048576) ∧ 1 ≤ cap ∧ cap ≤ 65536) ∧ (1 ≤ k ∧ k ≤ 64) ∧ (1 ≤ agg ∧ agg ≤ 4)
  · refine (rval_4_rb agg W k cap w true ⟨fun _ => hc, fun _ => rfl⟩).mono ?_
    rintro e w1 ⟨rfl, hb⟩
    exact ⟨by rw [HV.1 (by omega)]; rfl, hb⟩
  · refine (rval_4_rb agg W k cap w false ⟨fun c => (by cases c), fun c => (hc c).elim⟩).mono ?_
    rintro e w1 ⟨rfl, hb⟩
    exact ⟨by rw [HV.2 (fun c => hc (by omega))]; rfl, hb⟩
theorem rvalidate_5 (agg W k cap p ch mx : Int) (w : World) : Calls Try.prog 8 #[cfgV 5 agg W k cap p ch mx] w (ValEnd 5 agg W k cap p ch mx w) := by
  have HV := vC_5 agg W k cap p ch mx
  by_cases z0 : agg = 0
  rotate_left
  · refine (rval_5_z0 agg W k cap p ch mx w z0).mono ?_
    rintro e w1 ⟨rfl, hb⟩
    exact ⟨by rw [HV.2 (fun c => z0 c.2.2.2.1)], hb⟩
  subst z0
  by_cases z1 : p = 0
  rotate_left
  · refine (rval_5_z1 W k cap p ch mx w z1).mono ?_
    rintro e w1 ⟨rfl, hb⟩
    exact ⟨by rw [HV.2 (fun c => z1 c.2.2.2.2.1)], hb⟩
  subst z1
  by_cases z2 : ch = 0
  rotate_left
  · refine (rval_5_z2 W k cap ch mx w z2).mono ?_
    rintro e w1 ⟨rfl, hb⟩
    exact ⟨by rw [HV.2 (fun c => z2 c.2.2.2.2.2.1)], hb⟩
  subst z2
  by_cases z3 : mx = 0
  rotate_left
  · refine (rval_5_z3 W k cap mx w z3).mono ?_
    rintro e w1 ⟨rfl, hb⟩
    exact ⟨by rw [HV.2 (fun c => z3 c.2.2.2.2.2.2)], hb⟩
  subst z3
  by_cases hc : ((1 ≤ W ∧ W ≤ 1048576) ∧ 1 ≤ cap ∧ cap ≤ 65536) ∧ (1 ≤ k ∧ k ≤ 64)
  · refine (rval_5_rb W k cap w true ⟨fun _ => hc, fun _ => rfl⟩).mono ?_
    rintro e w1 ⟨rfl, hb⟩
    exact ⟨by rw [HV.1 (by omega)]; rfl, hb⟩
  · refine (rval_5_rb W k cap w false ⟨fun c => (by cases c), fun c => (hc c).elim⟩).mono ?_
    rintro e w1 ⟨rfl, hb⟩
    exact ⟨by rw [HV.2 (fun c => hc (by omega))]; rfl, hb⟩
theorem rvalidate_6 (agg W k cap p ch mx : Int) (w : World) : Calls Try.prog 8 #[cfgV 6 agg W k cap p ch mx] w (ValEnd 6 agg W k cap p ch mx w) := by
  have HV := vC_6 agg W k cap p ch mx
  by_cases z0 : agg = 0
  rotate_left
  · refine (rval_6_z0 agg W k cap p ch mx w z0).mono ?_
    rintro e w1 ⟨rfl, hb⟩
    exact ⟨by rw [HV.2 (fun c => z0 c.2.1)], hb⟩
  subst z0
  by_cases z1 : W = 0
  rotate_left
  · refine (rval_6_z1 W k cap p ch mx w z1).mono ?_
    rintro e w1 ⟨rfl, hb⟩
    exact ⟨by rw [HV.2 (fun c => z1 c.2.2.1)], hb⟩
  subst z1
  by_cases z2 : k = 0
  rotate_left
  · refine (rval_6_z2 k cap p ch mx w z2).mono ?_
    rintro e w1 ⟨rfl, hb⟩
    exact ⟨by rw [HV.2 (fun c => z2 c.2.2.2.1)], hb⟩
  subst z2
  by_cases z3 : cap = 0
  rotate_left
  · refine (rval_6_z3 cap p ch mx w z3).mono ?_
    rintro e w1 ⟨rfl, hb⟩
    exact ⟨by rw [HV.2 (fun c => z3 c.2.2.2.2.1)], hb⟩
  subst z3
  by_cases z4 : ch = 0
  rotate_left
  · refine (rval_6_z4 p ch mx w z4).mono ?_
    rintro e w1 ⟨rfl, hb⟩
    exact ⟨by rw [HV.2 (fun c => z4 c.2.2.2.2.2.1)], hb⟩
  subst z4
  by_cases z5 : mx = 0
  rotate_left
  · refine (rval_6_z5 p mx w z5).mono ?_
    rintro e w1 ⟨rfl, hb⟩
    exact ⟨by rw [HV.2 (fun c => z5 c.2.2.2.2.2.2)], hb⟩
  subst z5
  by_cases hc : (0 ≤ p ∧ p ≤ 4)
  · refine (rval_6_rb p w true ⟨fun _ => hc, fun _ => rfl⟩).mono ?_
    rintro e w1 ⟨rfl, hb⟩
    exact ⟨by rw [HV.1 (by omega)]; rfl, hb⟩
  · refine (rval_6_rb p w false ⟨fun c => (by cases c), fun c => (hc c).elim⟩).mono ?_
    rintro e w1 ⟨rfl, hb⟩
    exact ⟨by rw [HV.2 (fun c => hc (by omega))]; rfl, hb⟩
theorem rvalidate_7 (agg W k cap p ch mx : Int) (w : World) : Calls Try.prog 8 #[cfgV 7 agg W k cap p ch mx] w (ValEnd 7 agg W k cap p ch mx w) := by
  have HV := vC_7 agg W k cap p ch mx
  by_cases z0 : agg = 0
  rotate_left
  · refine (rval_7_z0 agg W k cap p ch mx w z0).mono ?_
    rintro e w1 ⟨rfl, hb⟩
    exact ⟨by rw [HV.2 (fun c => z0 c.2.1)], hb⟩
  subst z0
  by_cases z1 : k = 0
  rotate_left
  · refine (rval_7_z1 W k cap p ch mx w z1).mono ?_
    rintro e w1 ⟨rfl, hb⟩
    exact ⟨by rw [HV.2 (fun c => z1 c.2.2.1)], hb⟩
  subst z1
  by_cases z2 : cap = 0
  rotate_left
  · refine (rval_7_z2 W cap p ch mx w z2).mono ?_
    rintro e w1 ⟨rfl, hb⟩
    exact ⟨by rw [HV.2 (fun c => z2 c.2.2.2.1)], hb⟩
  subst z2
  by_cases z3 : p = 0
  rotate_left
  · refine (rval_7_z3 W p ch mx w z3).mono ?_
    rintro e w1 ⟨rfl, hb⟩
    exact ⟨by rw [HV.2 (fun c => z3 c.2.2.2.2.1)], hb⟩
  subst z3
  by_cases z4 : ch = 0
  rotate_left
  · refine (rval_7_z4 W ch mx w z4).mono ?_
    rintro e w1 ⟨rfl, hb⟩
    exact ⟨by rw [HV.2 (fun c => z4 c.2.2.2.2.2.1)], hb⟩
  subst z4
  by_cases z5 : mx = 0
  rotate_left
  · refine (rval_7_z5 W mx w z5).mono ?_
    rintro e w1 ⟨rfl, hb⟩
    exact ⟨by rw [HV.2 (fun c => z5 c.2.2.2.2.2.2)], hb⟩
  subst z5
  by_cases hc : (1 ≤ W ∧ W ≤ 64)
  · refine (rval_7_rb W w true ⟨fun _ => hc, fun _ => rfl⟩).mono ?_
    rintro e w1 ⟨rfl, hb⟩
    exact ⟨by rw [HV.1 (by omega)]; rfl, hb⟩
  · refine (rval_7_rb W w false ⟨fun c => (by cases c), fun c => (hc c).elim⟩).mono ?_
    rintro e w1 ⟨rfl, hb⟩
    exact ⟨by rw [HV.2 (fun c => hc (by omega))]; rfl, hb⟩
theorem rvalidate_8 (agg W k cap p ch mx : Int) (w : World) : Calls Try.prog 8 #[cfgV 8 agg W k cap p ch mx] w (ValEnd 8 agg W k cap p ch mx w) := by
  have HV := vC_8 agg W k cap p ch mx
  by_cases z0 : agg = 0
  rotate_left
  · refine (rval_8_z0 agg W k cap p ch mx w z0).mono ?_
    rintro e w1 ⟨rfl, hb⟩
    exact ⟨by rw [HV.2 (fun c => z0 c.2.2.2.1)], hb⟩
  subst z0
  by_cases z1 : k = 0
  rotate_left
  · refine (rval_8_z1 W k cap p ch mx w z1).mono ?_
    rintro e w1 ⟨rfl, hb⟩
    exact ⟨by rw [HV.2 (fun c => z1 c.2.2.2.2.1)], hb⟩
  subst z1
  by_cases z2 : p = 0
  rotate_left
  · refine (rval_8_z2 W cap p ch mx w z2).mono ?_
    rintro e w1 ⟨rfl, hb⟩
    exact ⟨by rw [HV.2 (fun c => z2 c.2.2.2.2.2.1)], hb⟩
  subst z2
  by_cases z3 : ch = 0
  rotate_left
  · refine (rval_8_z3 W cap ch mx w z3).mono ?_
    rintro e w1 ⟨rfl, hb⟩
    exact ⟨by rw [HV.2 (fun c => z3 c.2.2.2.2.2.2)], hb⟩
  subst z3
  by_cases hc : ((1 ≤ W ∧ W ≤ 1048576) ∧ 1 ≤ cap ∧ cap ≤ 65536) ∧ (0 ≤ mx ∧ mx ≤ 1)
  · refine (rval_8_rb W cap mx w true ⟨fun _ => hc, fun _ => rfl⟩).mono ?_
    rintro e w1 ⟨rfl, hb⟩
    exact ⟨by rw [HV.1 (by omega)]; rfl, hb⟩
  · refine (rval_8_rb W cap mx w false ⟨fun c => (by cases c), fun c => (hc c).elim⟩).mono ?_
    rintro e w1 ⟨rfl, hb⟩
    exact ⟨by rw [HV.2 (fun c => hc (by omega))]; rfl, hb⟩
theorem rvalidate_9 (agg W k cap p ch mx : Int) (w : World) : Calls Try.prog 8 #[cfgV 9 agg W k cap p ch mx] w (ValEnd 9 agg W k cap p ch mx w) := by
  have HV := vC_9 agg W k cap p ch mx
  by_cases z0 : agg = 0
  rotate_left
  · refine (rval_9_z0 agg W k cap p ch mx w z0).mono ?_
    rintro e w1 ⟨rfl, hb⟩
    exact ⟨by rw [HV.2 (fun c => z0 c.2.2.2.1)], hb⟩
  subst z0
  by_cases z1 : k = 0
  rotate_left
  · refine (rval_9_z1 W k cap p ch mx w z1).mono ?_
    rintro e w1 ⟨rfl, hb⟩
    exact ⟨by rw [HV.2 (fun c => z1 c.2.2.2.2.1)], hb⟩
  subst z1
  by_cases z2 : p = 0
  rotate_left
  · refine (rval_9_z2 W cap p ch mx w z2).mono ?_
    rintro e w1 ⟨rfl, hb⟩
    exact ⟨by rw [HV.2 (fun c => z2 c.2.2.2.2.2.1)], hb⟩
  subst z2
  by_cases z3 : mx = 0
  rotate_left
  · refine (rval_9_z3 W cap ch mx w z3).mono ?_
    rintro e w1 ⟨rfl, hb⟩
    exact ⟨by rw [HV.2 (fun c => z3 c.2.2.2.2.2.2)], hb⟩
  subst z3
  by_cases hc : (1 ≤ ch ∧ ch ≤ 16) ∧ (1 ≤ W ∧ W ≤ 1048576) ∧ (1 ≤ cap ∧ cap ≤ 64)
  · refine (rval_9_rb W cap ch w true ⟨fun _ => hc, fun _ => rfl⟩).mono ?_
    rintro e w1 ⟨rfl, hb⟩
    exact ⟨by rw [HV.1 (by omega)]; rfl, hb⟩
  · refine (rval_9_rb W cap ch w false ⟨fun c => (by cases c), fun c => (hc c).elim⟩).mono ?_
    rintro e w1 ⟨rfl, hb⟩
    exact ⟨by rw [HV.2 (fun c => hc (by omega))]; rfl, hb⟩
theorem rvalidate_10 (agg W k cap p ch mx : Int) (w : World) : Calls Try.prog 8 #[cfgV 10 agg W k cap p ch mx] w (ValEnd 10 agg W k cap p ch mx w) := by
  have HV := vC_10 agg W k cap p ch mx
  by_cases z0 : agg = 0
  rotate_left
  · refine (rval_10_z0 agg W k cap p ch mx w z0).mono ?_
    rintro e w1 ⟨rfl, hb⟩
    exact ⟨by rw [HV.2 (fun c => z0 c.2.2.1)], hb⟩
  subst z0
  by_cases z1 : W = 0
  rotate_left
  · refine (rval_10_z1 W k cap p ch mx w z1).mono ?_
    rintro e w1 ⟨rfl, hb⟩
    exact ⟨by rw [HV.2 (fun c => z1 c.2.2.2.1)], hb⟩
  subst z1
  by_cases z2 : p = 0
  rotate_left
  · refine (rval_10_z2 k cap p ch mx w z2).mono ?_
    rintro e w1 ⟨rfl, hb⟩
    exact ⟨by rw [HV.2 (fun c => z2 c.2.2.2.2.1)], hb⟩
  subst z2
  by_cases z3 : ch = 0
  rotate_left
  · refine (rval_10_z3 k cap ch mx w z3).mono ?_
    rintro e w1 ⟨rfl, hb⟩
    exact ⟨by rw [HV.2 (fun c => z3 c.2.2.2.2.2.1)], hb⟩
  subst z3
  by_cases z4 : mx = 0
  rotate_left
  · refine (rval_10_z4 k cap mx w z4).mono ?_
    rintro e w1 ⟨rfl, hb⟩
    exact ⟨by rw [HV.2 (fun c => z4 c.2.2.2.2.2.2)], hb⟩
  subst z4
  by_cases hc : (1 ≤ k ∧ k ≤ 64) ∧ (2 ≤ cap ∧ cap ≤ 65536)
  · refine (rval_10_rb k cap w true ⟨fun _ => hc, fun _ => rfl⟩).mono ?_
    rintro e w1 ⟨rfl, hb⟩
    exact ⟨by rw [HV.1 (by omega)]; rfl, hb⟩
  · refine (rval_10_rb k cap w false ⟨fun c => (by cases c), fun c => (hc c).elim⟩).mono ?_
    rintro e w1 ⟨rfl, hb⟩
    exact ⟨by rw [HV.2 (fun c => hc (by omega))]; rfl, hb⟩
theorem rvalidate_11 (agg W k cap p ch mx : Int) (w : World) : Calls Try.prog 8 #[cfgV 11 agg W k cap p ch mx] w (ValEnd 11 agg W k cap p ch mx w) := by
  have HV := vC_11 agg W k cap p ch mx
  by_cases z0 : agg = 0
  rotate_left
  · refine (rval_11_z0 agg W k cap p ch mx w z0).mono ?_
    rintro e w1 ⟨rfl, hb⟩
    exact ⟨by rw [HV.2 (fun c => z0 c.2.2.2.1)], hb⟩
  subst z0
  by_cases z1 : p = 0
  rotate_left
  · refine (rval_11_z1 W k cap p ch mx w z1).mono ?_
    rintro e w1 ⟨rfl, hb⟩
    exact ⟨by rw [HV.2 (fun c => z1 c.2.2.2.2.1)], hb⟩
  subst z1
  by_cases z2 : ch = 0
  rotate_left
  · refine (rval_11_z2 W k cap ch mx w z2).mono ?_
    rintro e w1 ⟨rfl, hb⟩
    exact ⟨by rw [HV.2 (fun c => z2 c.2.2.2.2.2.1)], hb⟩
  subst z2
  by_cases z3 : mx = 0
  rotate_left
  · refine (rval_11_z3 W k cap mx w z3).mono ?_
    rintro e w1 ⟨rfl, hb⟩
    exact ⟨by rw [HV.2 (fun c => z3 c.2.2.2.2.2.2)], hb⟩
  subst z3
  by_cases hc : ((1 ≤ W ∧ W ≤ 1048576) ∧ 1 ≤ cap ∧ cap ≤ 65536) ∧ (1 ≤ k ∧ k ≤ 64)
  · refine (rval_11_rb W k cap w true ⟨fun _ => hc, fun _ => rfl⟩).mono ?_
    rintro e w1 ⟨rfl, hb⟩
    exact ⟨by rw [HV.1 (by omega)]; rfl, hb⟩
  · refine (rval_11_rb W k cap w false ⟨fun c => (by cases c), fun c => (hc c).elim⟩).mono ?_
    rintro e w1 ⟨rfl, hb⟩
    exact ⟨by rw [HV.2 (fun c => hc (by omega))]; rfl, hb⟩
end Go.Proofs.Ytmlddoajfgmoaaa
