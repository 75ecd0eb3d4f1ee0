/- The greatest number of records of a configuration: the laws' walks, part 3. -/
import Derived.Test.YtmlddoajfgmoaaaLVal
import Derived.Test.YtmlddoajfgmoaaaAns
import Derived.OpenShut
namespace Go.Proofs.Ytmlddoajfgmoaaa
open Go.RowKit Go.ChangeShapes Go.WideShapes
set_option linter.unusedVariables false
set_option maxRecDepth 100000 in
set_option maxHeartbeats 1000000 in
theorem configAnswers_walk (kind agg W k cap p ch mx op : Int) (w : World) (hf : (Lit.int .i64 op).wf = true) : Calls Try.prog 6 #[cfgV kind agg W k cap p ch mx, .int .i64 op] w fun e w' => e = .returned (.bool true) ∧ Below w.heap.size w w' := by
  have hf1 : -9223372036854775808 ≤ op := by have := bounds_i64 hf; omega
  have hf2 : op ≤ 9223372036854775807 := by have := bounds_i64 hf; omega
  obtain ⟨b, h13, h14⟩ := answers_same kind agg W k cap p ch mx op hf1 hf2
  have CA := hide (fun (w0 : World) (hk : Kp w #[.int .i64 kind, .int .i64 agg, .int .i64 W, .int .i64 k, .int .i64 cap, .int .i64 p, .int .i64 ch, .int .i64 mx] w0) => (h13 w0).mono (R' := fun e w' => e = .returned (.bool b) ∧ Kp w #[.int .i64 kind, .int .i64 agg, .int .i64 W, .int .i64 k, .int .i64 cap, .int .i64 p, .int .i64 ch, .int .i64 mx] w') fun e w' h => ⟨h.1, hk.step h.2⟩)
  have CB := hide (fun (w0 : World) (hk : Kp w #[.int .i64 kind, .int .i64 agg, .int .i64 W, .int .i64 k, .int .i64 cap, .int .i64 p, .int .i64 ch, .int .i64 mx] w0) => (h14 w0).mono (R' := fun e w' => e = .returned (.bool b) ∧ Kp w #[.int .i64 kind, .int .i64 agg, .int .i64 W, .int .i64 k, .int .i64 cap, .int .i64 p, .int .i64 ch, .int .i64 mx] w') fun e w' h => ⟨h.1, hk.step h.2⟩)
  have C9 := hide (fun (w0 : World) (hk : Kp w #[.int .i64 kind, .int .i64 agg, .int .i64 W, .int .i64 k, .int .i64 cap, .int .i64 p, .int .i64 ch, .int .i64 mx] w0) => (awake_any w0).mono (R' := fun e w' => e = .returned (.bool true) ∧ Kp w #[.int .i64 kind, .int .i64 agg, .int .i64 W, .int .i64 k, .int .i64 cap, .int .i64 p, .int .i64 ch, .int .i64 mx] w') fun e w' h => ⟨h.1, hk.step h.2⟩)
  generalize b = res at *
  unfold cfgV at CA CB ⊢
  go_enter Try.func6, Try.ntmps6
  go_upto_region 1 with (fail)
  have K1 := hide (Kp.new (w := w) (cs := #[.int .i64 kind, .int .i64 agg, .int .i64 W, .int .i64 k, .int .i64 cap, .int .i64 p, .int .i64 ch, .int .i64 mx]))
  generalize (w.alloc (.cells #[.int .i64 kind, .int .i64 agg, .int .i64 W, .int .i64 k, .int .i64 cap, .int .i64 p, .int .i64 ch, .int .i64 mx] 23)) = w1 at *
  obtain ⟨a0, a1, a2, a3, a4, a5, a6, a7⟩ := K1.out.eight
  rcases two b with rfl | rfl
  all_goals
    go_region_held3 (fun w' => w'.cell? ⟨w.heap.size, 0, none⟩ = some (.int .i64 kind) ∧ w'.cell? ⟨w.heap.size, 1, none⟩ = some (.int .i64 agg) ∧ w'.cell? ⟨w.heap.size, 2, none⟩ = some (.int .i64 W) ∧ w'.cell? ⟨w.heap.size, 3, none⟩ = some (.int .i64 k) ∧ w'.cell? ⟨w.heap.size, 4, none⟩ = some (.int .i64 cap) ∧ w'.cell? ⟨w.heap.size, 5, none⟩ = some (.int .i64 p) ∧ w'.cell? ⟨w.heap.size, 6, none⟩ = some (.int .i64 ch) ∧ w'.cell? ⟨w.heap.size, 7, none⟩ = some (.int .i64 mx)) (first | exact ⟨a0, a1, a2, a3, a4, a5, a6, a7⟩ | exact ⟨b0, b1, b2, b3, b4, b5, b6, b7⟩ | exact ⟨c0, c1, c2, c3, c4, c5, c6, c7⟩ | exact ⟨d0, d1, d2, d3, d4, d5, d6, d7⟩) (first | (go_at_call 13; refine (CA.out _ ?_).mono ?_; (· first | exact K1.out.drew | exact K1.out); rintro e w2 ⟨rfl, hK⟩; have K2 := hide hK; clear hK; obtain ⟨b0, b1, b2, b3, b4, b5, b6, b7⟩ := K2.out.eight) | (go_at_call 14; refine (CB.out _ ?_).mono ?_; (· first | exact K2.out.drew | exact K2.out); rintro e w3 ⟨rfl, hK⟩; have K3 := hide hK; clear hK; obtain ⟨c0, c1, c2, c3, c4, c5, c6, c7⟩ := K3.out.eight) | (go_at_call 9; refine (C9.out _ ?_).mono ?_; (· first | exact K3.out.drew | exact K3.out); rintro e w4 ⟨rfl, hK⟩; have K4 := hide hK; clear hK; obtain ⟨d0, d1, d2, d3, d4, d5, d6, d7⟩ := K4.out.eight))
    all_goals
      go_wp2
      go_ret
      exact ⟨rfl, K4.out.1⟩
end Go.Proofs.Ytmlddoajfgmoaaa
