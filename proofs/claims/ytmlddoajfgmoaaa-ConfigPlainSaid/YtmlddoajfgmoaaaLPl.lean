/- The greatest number of records of a configuration: the laws' walks, part 4. -/
import Derived.Test.YtmlddoajfgmoaaaLVal
import Derived.Test.YtmlddoajfgmoaaaRec
import Derived.OpenShut
namespace Go.Proofs.Ytmlddoajfgmoaaa
open Go.RowKit Go.ChangeShapes Go.WideShapes
set_option linter.unusedVariables false
/-- two configurations stand and all that is older -/
def Two (w : World) (gd : Nat) (cs ds : Array Value) (w0 : World) : Prop := Kp w cs w0 ∧ Blk w0 gd 23 ds ∧ w.heap.size < gd
section
variable {w w0 w1 : World} {gd : Nat} {cs ds : Array Value}
theorem Two.mk (h : Kp w cs w0) (hd : Blk w0 gd 23 ds) (hl : w.heap.size < gd) : Two w gd cs ds w0 := ⟨h, hd, hl⟩
theorem Two.step (h : Two w gd cs ds w0) (hb : Below w0.heap.size w0 w1) : Two w gd cs ds w1 := ⟨h.1.step hb, h.2.1.below hb h.2.1.lt, h.2.2⟩
theorem Two.drew (h : Two w gd cs ds w0) : Two w gd cs ds w0.drew := ⟨h.1.drew, h.2.1, h.2.2⟩
end
def Eight (w0 : World) (g : Nat) (a b c d e f i j : Value) : Prop := w0.cell? ⟨g, 0, none⟩ = some a ∧ w0.cell? ⟨g, 1, none⟩ = some b ∧ w0.cell? ⟨g, 2, none⟩ = some c ∧ w0.cell? ⟨g, 3, none⟩ = some d ∧
    w0.cell? ⟨g, 4, none⟩ = some e ∧ w0.cell? ⟨g, 5, none⟩ = some f ∧ w0.cell? ⟨g, 6, none⟩ = some i ∧ w0.cell? ⟨g, 7, none⟩ = some j
theorem Two.cells {w w0 : World} {gd : Nat} {a b c d e f i j a' b' c' d' e' f' i' j' : Value} (h : Two w gd #[a, b, c, d, e, f, i, j] #[a', b', c', d', e', f', i', j'] w0) : Eight w0 w.heap.size a b c d e f i j ∧ Eight w0 gd a' b' c' d' e' f' i' j' := ⟨h.1.2.eight, h.2.1.eight⟩
theorem plain_any (kind agg W k cap p ch mx : Int) : ∃ a b c d e f g : Int, (vC kind agg W k cap p ch mx = 0 → agg = a ∧ W = b ∧ k = c ∧ cap = d ∧ p = e ∧ ch = f ∧ mx = g) ∧ ∀ w, Calls Try.prog 12 #[cfgV kind agg W k cap p ch mx] w (PlainEnd (cfgV kind a b c d e f g) w) := by
  by_cases h : kind < 1 ∨ 11 < kind
  · exact ⟨0, 0, 0, 0, 0, 0, 0, fun c => by rw [vC_no _ _ _ _ _ _ _ _ h] at c; omega, fun w => plain_other kind agg W k cap p ch mx w h⟩
  · rcases (show kind = 1 ∨ kind = 2 ∨ kind = 3 ∨ kind = 4 ∨ kind = 5 ∨ kind = 6 ∨ kind = 7 ∨ kind = 8 ∨ kind = 9 ∨ kind = 10 ∨ kind = 11 by omega) with rfl | rfl | rfl | rfl | rfl | rfl | rfl | rfl | rfl | rfl | rfl
    · exact ⟨_, _, _, _, _, _, _, fun h => by have ho := okP_of h; unfold okP at ho; omega, fun w => plain_1 agg W k cap p ch mx w⟩
    · exact ⟨_, _, _, _, _, _, _, fun h => by have ho := okP_of h; unfold okP at ho; omega, fun w => plain_2 agg W k cap p ch mx w⟩
    · exact ⟨_, _, _, _, _, _, _, fun h => by have ho := okP_of h; unfold okP at ho; omega, fun w => plain_3 agg W k cap p ch mx w⟩
    · exact ⟨_, _, _, _, _, _, _, fun h => by have ho := okP_of h; unfold okP at ho; omega, fun w => plain_4 agg W k cap p ch mx w⟩
    · exact ⟨_, _, _, _, _, _, _, fun h => by have ho := okP_of h; unfold okP at ho; omega, fun w => plain_5 agg W k cap p ch mx w⟩
    · exact ⟨_, _, _, _, _, _, _, fun h => by have ho := okP_of h; unfold okP at ho; omega, fun w => plain_6 agg W k cap p ch mx w⟩
    · exact ⟨_, _, _, _, _, _, _, fun h => by have ho := okP_of h; unfold okP at ho; omega, fun w => plain_7 agg W k cap p ch mx w⟩
    · exact ⟨_, _, _, _, _, _, _, fun h => by have ho := okP_of h; unfold okP at ho; omega, fun w => plain_8 agg W k cap p ch mx w⟩
    · exact ⟨_, _, _, _, _, _, _, fun h => by have ho := okP_of h; unfold okP at ho; omega, fun w => plain_9 agg W k cap p ch mx w⟩
    · exact ⟨_, _, _, _, _, _, _, fun h => by have ho := okP_of h; unfold okP at ho; omega, fun w => plain_10 agg W k cap p ch mx w⟩
    · exact ⟨_, _, _, _, _, _, _, fun h => by have ho := okP_of h; unfold okP at ho; omega, fun w => plain_11 agg W k cap p ch mx w⟩
set_option maxRecDepth 100000 in
set_option maxHeartbeats 1000000 in
theorem cp_bad (kind agg W k cap p ch mx field value : Int) (w : World) (h : vC kind agg W k cap p ch mx = 1) : Calls Try.prog 5 #[cfgV kind agg W k cap p ch mx, .int .i64 field, .int .i64 value] w fun e w' => e = .returned (.bool true) ∧ Below w.heap.size w w' := by
  have CV := hide (fun (w0 : World) (hk : Kp w #[.int .i64 kind, .int .i64 agg, .int .i64 W, .int .i64 k, .int .i64 cap, .int .i64 p, .int .i64 ch, .int .i64 mx] w0) => (validate_any kind agg W k cap p ch mx w0).mono (R' := fun e w' => e = .returned (.int .i64 (vC kind agg W k cap p ch mx)) ∧ Kp w #[.int .i64 kind, .int .i64 agg, .int .i64 W, .int .i64 k, .int .i64 cap, .int .i64 p, .int .i64 ch, .int .i64 mx] w') fun e w' h => ⟨h.1, hk.step h.2⟩)
  simp only [h] at CV
  have C9 := hide (fun (w0 : World) (hk : Kp w #[.int .i64 kind, .int .i64 agg, .int .i64 W, .int .i64 k, .int .i64 cap, .int .i64 p, .int .i64 ch, .int .i64 mx] w0) => (awake_any w0).mono (R' := fun e w' => e = .returned (.bool true) ∧ Kp w #[.int .i64 kind, .int .i64 agg, .int .i64 W, .int .i64 k, .int .i64 cap, .int .i64 p, .int .i64 ch, .int .i64 mx] w') fun e w' h => ⟨h.1, hk.step h.2⟩)
  unfold cfgV at CV ⊢
  go_enter Try.func5, Try.ntmps5
  go_upto_region 1 with (fail)
  have K1 := hide (Kp.new (w := w) (cs := #[.int .i64 kind, .int .i64 agg, .int .i64 W, .int .i64 k, .int .i64 cap, .int .i64 p, .int .i64 ch, .int .i64 mx]))
  generalize (w.alloc (.cells #[.int .i64 kind, .int .i64 agg, .int .i64 W, .int .i64 k, .int .i64 cap, .int .i64 p, .int .i64 ch, .int .i64 mx] 23)) = w1 at *
  obtain ⟨a0, a1, a2, a3, a4, a5, a6, a7⟩ := K1.out.eight
  go_wp2_with (first | (go_at_call 7; refine (CV.out _ ?_).mono ?_; (· exact K1.out); rintro e w2 ⟨rfl, hK⟩; have K2 := hide hK; clear hK; obtain ⟨b0, b1, b2, b3, b4, b5, b6, b7⟩ := K2.out.eight) | (go_at_call 9; refine (C9.out _ ?_).mono ?_; (· exact K2.out); rintro e w3 ⟨rfl, hK⟩; have K3 := hide hK; clear hK; obtain ⟨c0, c1, c2, c3, c4, c5, c6, c7⟩ := K3.out.eight))
  all_goals
    go_ret
    exact ⟨rfl, K3.out.1⟩
set_option maxRecDepth 100000 in
set_option maxHeartbeats 1000000 in
theorem cp_nil (kind agg W k cap p ch mx field : Int) (w : World) (h : vC kind agg W k cap p ch mx = 0) : Calls Try.prog 5 #[cfgV kind agg W k cap p ch mx, .int .i64 field, .int .i64 0] w fun e w' => e = .returned (.bool true) ∧ Below w.heap.size w w' := by
  have CV := hide (fun (w0 : World) (hk : Kp w #[.int .i64 kind, .int .i64 agg, .int .i64 W, .int .i64 k, .int .i64 cap, .int .i64 p, .int .i64 ch, .int .i64 mx] w0) => (validate_any kind agg W k cap p ch mx w0).mono (R' := fun e w' => e = .returned (.int .i64 (vC kind agg W k cap p ch mx)) ∧ Kp w #[.int .i64 kind, .int .i64 agg, .int .i64 W, .int .i64 k, .int .i64 cap, .int .i64 p, .int .i64 ch, .int .i64 mx] w') fun e w' h => ⟨h.1, hk.step h.2⟩)
  simp only [h] at CV
  have C9 := hide (fun (w0 : World) (hk : Kp w #[.int .i64 kind, .int .i64 agg, .int .i64 W, .int .i64 k, .int .i64 cap, .int .i64 p, .int .i64 ch, .int .i64 mx] w0) => (awake_any w0).mono (R' := fun e w' => e = .returned (.bool true) ∧ Kp w #[.int .i64 kind, .int .i64 agg, .int .i64 W, .int .i64 k, .int .i64 cap, .int .i64 p, .int .i64 ch, .int .i64 mx] w') fun e w' h => ⟨h.1, hk.step h.2⟩)
  unfold cfgV at CV ⊢
  go_enter Try.func5, Try.ntmps5
  go_upto_region 1 with (fail)
  have K1 := hide (Kp.new (w := w) (cs := #[.int .i64 kind, .int .i64 agg, .int .i64 W, .int .i64 k, .int .i64 cap, .int .i64 p, .int .i64 ch, .int .i64 mx]))
  generalize (w.alloc (.cells #[.int .i64 kind, .int .i64 agg, .int .i64 W, .int .i64 k, .int .i64 cap, .int .i64 p, .int .i64 ch, .int .i64 mx] 23)) = w1 at *
  obtain ⟨a0, a1, a2, a3, a4, a5, a6, a7⟩ := K1.out.eight
  go_wp2_with (first | (go_at_call 7; refine (CV.out _ ?_).mono ?_; (· exact K1.out); rintro e w2 ⟨rfl, hK⟩; have K2 := hide hK; clear hK; obtain ⟨b0, b1, b2, b3, b4, b5, b6, b7⟩ := K2.out.eight) | (go_at_call 9; refine (C9.out _ ?_).mono ?_; (· exact K2.out); rintro e w3 ⟨rfl, hK⟩; have K3 := hide hK; clear hK; obtain ⟨c0, c1, c2, c3, c4, c5, c6, c7⟩ := K3.out.eight))
  all_goals
    go_ret
    exact ⟨rfl, K3.out.1⟩
end Go.Proofs.Ytmlddoajfgmoaaa
