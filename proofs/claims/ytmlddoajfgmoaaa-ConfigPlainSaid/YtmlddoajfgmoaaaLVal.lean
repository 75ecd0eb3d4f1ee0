/- The greatest number of records of a configuration: the laws' walks, part 1. -/
import Derived.Test.YtmlddoajfgmoaaaRec
namespace Go.Proofs.Ytmlddoajfgmoaaa
open Go.RowKit
set_option linter.unusedVariables false
/-- the block of the configuration stands and all that is older -/
def Kp (w : World) (cs : Array Value) (w0 : World) : Prop := Below w.heap.size w w0 ∧ Blk w0 w.heap.size 23 cs
section
variable {w w0 w1 : World} {cs : Array Value}
theorem Kp.new : Kp w cs (w.alloc (.cells cs 23)) := ⟨Bl.alloc' (Below.refl _ _) _, Blk.new _ _ _⟩
theorem Kp.step (h : Kp w cs w0) (hb : Below w0.heap.size w0 w1) : Kp w cs w1 := ⟨Bl.call' h.1 hb, h.2.below hb h.2.lt⟩
theorem Kp.drew (h : Kp w cs w0) : Kp w cs w0.drew := ⟨below_drewN h.1 1, h.2⟩
end
theorem Kp.eight {w w0 : World} {a b c d e f i j : Value} (h : Kp w #[a, b, c, d, e, f, i, j] w0) : w0.cell? ⟨w.heap.size, 0, none⟩ = some a ∧ w0.cell? ⟨w.heap.size, 1, none⟩ = some b ∧ w0.cell? ⟨w.heap.size, 2, none⟩ = some c ∧ w0.cell? ⟨w.heap.size, 3, none⟩ = some d ∧
    w0.cell? ⟨w.heap.size, 4, none⟩ = some e ∧ w0.cell? ⟨w.heap.size, 5, none⟩ = some f ∧ w0.cell? ⟨w.heap.size, 6, none⟩ = some i ∧ w0.cell? ⟨w.heap.size, 7, none⟩ = some j := h.2.eight
set_option maxRecDepth 100000 in
set_option maxHeartbeats 1000000 in
theorem configValidate_walk (kind agg W k cap p ch mx : Int) (w : World) : Calls Try.prog 3 #[cfgV kind agg W k cap p ch mx] w fun e w' => e = .returned (.bool true) ∧ Below w.heap.size w w' := by
  have CA := hide (fun (w0 : World) (hk : Kp w #[.int .i64 kind, .int .i64 agg, .int .i64 W, .int .i64 k, .int .i64 cap, .int .i64 p, .int .i64 ch, .int .i64 mx] w0) => (validate_any kind agg W k cap p ch mx w0).mono (R' := fun e w' => e = .returned (.int .i64 (vC kind agg W k cap p ch mx)) ∧ Kp w #[.int .i64 kind, .int .i64 agg, .int .i64 W, .int .i64 k, .int .i64 cap, .int .i64 p, .int .i64 ch, .int .i64 mx] w') fun e w' h => ⟨h.1, hk.step h.2⟩)
  have CB := hide (fun (w0 : World) (hk : Kp w #[.int .i64 kind, .int .i64 agg, .int .i64 W, .int .i64 k, .int .i64 cap, .int .i64 p, .int .i64 ch, .int .i64 mx] w0) => (rvalidate_any kind agg W k cap p ch mx w0).mono (R' := fun e w' => e = .returned (.int .i64 (vC kind agg W k cap p ch mx)) ∧ Kp w #[.int .i64 kind, .int .i64 agg, .int .i64 W, .int .i64 k, .int .i64 cap, .int .i64 p, .int .i64 ch, .int .i64 mx] w') fun e w' h => ⟨h.1, hk.step h.2⟩)
  have C9 := hide (fun (w0 : World) (hk : Kp w #[.int .i64 kind, .int .i64 agg, .int .i64 W, .int .i64 k, .int .i64 cap, .int .i64 p, .int .i64 ch, .int .i64 mx] w0) => (awake_any w0).mono (R' := fun e w' => e = .returned (.bool true) ∧ Kp w #[.int .i64 kind, .int .i64 agg, .int .i64 W, .int .i64 k, .int .i64 cap, .int .i64 p, .int .i64 ch, .int .i64 mx] w') fun e w' h => ⟨h.1, hk.step h.2⟩)
  generalize (vC kind agg W k cap p ch mx) = res at *
  unfold cfgV at CA CB ⊢
  go_enter Try.func3, Try.ntmps3
  go_upto_region 1 with (fail)
  have K1 := hide (Kp.new (w := w) (cs := #[.int .i64 kind, .int .i64 agg, .int .i64 W, .int .i64 k, .int .i64 cap, .int .i64 p, .int .i64 ch, .int .i64 mx]))
  generalize (w.alloc (.cells #[.int .i64 kind, .int .i64 agg, .int .i64 W, .int .i64 k, .int .i64 cap, .int .i64 p, .int .i64 ch, .int .i64 mx] 23)) = w1 at *
  obtain ⟨a0, a1, a2, a3, a4, a5, a6, a7⟩ := K1.out.eight
  go_region_held3 (fun w' => w'.cell? ⟨w.heap.size, 0, none⟩ = some (.int .i64 kind) ∧ w'.cell? ⟨w.heap.size, 1, none⟩ = some (.int .i64 agg) ∧ w'.cell? ⟨w.heap.size, 2, none⟩ = some (.int .i64 W) ∧ w'.cell? ⟨w.heap.size, 3, none⟩ = some (.int .i64 k) ∧ w'.cell? ⟨w.heap.size, 4, none⟩ = some (.int .i64 cap) ∧ w'.cell? ⟨w.heap.size, 5, none⟩ = some (.int .i64 p) ∧ w'.cell? ⟨w.heap.size, 6, none⟩ = some (.int .i64 ch) ∧ w'.cell? ⟨w.heap.size, 7, none⟩ = some (.int .i64 mx)) (first | exact ⟨a0, a1, a2, a3, a4, a5, a6, a7⟩ | exact ⟨b0, b1, b2, b3, b4, b5, b6, b7⟩ | exact ⟨c0, c1, c2, c3, c4, c5, c6, c7⟩ | exact ⟨d0, d1, d2, d3, d4, d5, d6, d7⟩) (first | (go_at_call 7; refine (CA.out _ ?_).mono ?_; (· first | exact K1.out.drew | exact K1.out); rintro e w2 ⟨rfl, hK⟩; have K2 := hide hK; clear hK; obtain ⟨b0, b1, b2, b3, b4, b5, b6, b7⟩ := K2.out.eight) | (go_at_call 8; refine (CB.out _ ?_).mono ?_; (· first | exact K2.out.drew | exact K2.out); rintro e w3 ⟨rfl, hK⟩; have K3 := hide hK; clear hK; obtain ⟨c0, c1, c2, c3, c4, c5, c6, c7⟩ := K3.out.eight) | (go_at_call 9; refine (C9.out _ ?_).mono ?_; (· first | exact K3.out.drew | exact K3.out); rintro e w4 ⟨rfl, hK⟩; have K4 := hide hK; clear hK; obtain ⟨d0, d1, d2, d3, d4, d5, d6, d7⟩ := K4.out.eight))
  all_goals
    go_wp2
    go_ret
    exact ⟨rfl, K4.out.1⟩
end Go.Proofs.Ytmlddoajfgmoaaa
