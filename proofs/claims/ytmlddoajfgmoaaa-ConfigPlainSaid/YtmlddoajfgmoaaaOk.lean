/- Which configurations are valid: plain. -/
namespace Go.Proofs.Ytmlddoajfgmoaaa
def okP (kind agg W k cap p ch mx : Int) : Prop :=
  (kind = 1 ∧ (1 ≤ cap ∧ cap ≤ 65536) ∧ (1 ≤ W ∧ W ≤ 1048576) ∧ agg = 0 ∧ k = 0 ∧ p = 0 ∧ ch = 0 ∧ mx = 0) ∨
  (kind = 2 ∧ (1 ≤ k ∧ k ≤ 64) ∧ (1 ≤ cap ∧ cap ≤ 65536) ∧ (1 ≤ W ∧ W ≤ 1048576) ∧ agg = 0 ∧ p = 0 ∧ ch = 0 ∧ mx = 0) ∨
  (kind = 3 ∧ (1 ≤ mx ∧ mx ≤ 1024) ∧ (1 ≤ k ∧ k ≤ 64) ∧ (1 ≤ cap ∧ cap ≤ 65536) ∧ (1 ≤ W ∧ W ≤ 1048576) ∧ agg = 0 ∧ p = 0 ∧ ch = 0) ∨
  (kind = 4 ∧ (1 ≤ agg ∧ agg ≤ 4) ∧ (1 ≤ k ∧ k ≤ 64) ∧ (1 ≤ cap ∧ cap ≤ 65536) ∧ (1 ≤ W ∧ W ≤ 1048576) ∧ p = 0 ∧ ch = 0 ∧ mx = 0) ∨
  (kind = 5 ∧ (1 ≤ k ∧ k ≤ 64) ∧ (1 ≤ cap ∧ cap ≤ 65536) ∧ (1 ≤ W ∧ W ≤ 1048576) ∧ agg = 0 ∧ p = 0 ∧ ch = 0 ∧ mx = 0) ∨
  (kind = 6 ∧ (0 ≤ p ∧ p ≤ 4) ∧ agg = 0 ∧ W = 0 ∧ k = 0 ∧ cap = 0 ∧ ch = 0 ∧ mx = 0) ∨
  (kind = 7 ∧ (1 ≤ W ∧ W ≤ 64) ∧ agg = 0 ∧ k = 0 ∧ cap = 0 ∧ p = 0 ∧ ch = 0 ∧ mx = 0) ∨
  (kind = 8 ∧ (0 ≤ mx ∧ mx ≤ 1) ∧ (1 ≤ cap ∧ cap ≤ 65536) ∧ (1 ≤ W ∧ W ≤ 1048576) ∧ agg = 0 ∧ k = 0 ∧ p = 0 ∧ ch = 0) ∨
  (kind = 9 ∧ (1 ≤ ch ∧ ch ≤ 16) ∧ (1 ≤ cap ∧ cap ≤ 64) ∧ (1 ≤ W ∧ W ≤ 1048576) ∧ agg = 0 ∧ k = 0 ∧ p = 0 ∧ mx = 0) ∨
  (kind = 10 ∧ (1 ≤ k ∧ k ≤ 64) ∧ (2 ≤ cap ∧ cap ≤ 65536) ∧ agg = 0 ∧ W = 0 ∧ p = 0 ∧ ch = 0 ∧ mx = 0) ∨
  (kind = 11 ∧ (1 ≤ k ∧ k ≤ 64) ∧ (1 ≤ cap ∧ cap ≤ 65536) ∧ (1 ≤ W ∧ W ≤ 1048576) ∧ agg = 0 ∧ p = 0 ∧ ch = 0 ∧ mx = 0)
open Classical in
noncomputable def vC (kind agg W k cap p ch mx : Int) : Int := if okP kind agg W k cap p ch mx then 0 else 1
theorem vC_iff {kind agg W k cap p ch mx : Int} {q : Prop} (h : okP kind agg W k cap p ch mx ↔ q) : (q → vC kind agg W k cap p ch mx = 0) ∧ (¬ q → vC kind agg W k cap p ch mx = 1) := by
  unfold vC
  exact ⟨fun hq => if_pos (h.2 hq), fun hq => if_neg fun c => hq (h.1 c)⟩
theorem vC_1 (agg W k cap p ch mx : Int) : ((1 ≤ cap ∧ cap ≤ 65536) ∧ (1 ≤ W ∧ W ≤ 1048576) ∧ agg = 0 ∧ k = 0 ∧ p = 0 ∧ ch = 0 ∧ mx = 0 → vC 1 agg W k cap p ch mx = 0) ∧ (¬ ((1 ≤ cap ∧ cap ≤ 65536) ∧ (1 ≤ W ∧ W ≤ 1048576) ∧ agg = 0 ∧ k = 0 ∧ p = 0 ∧ ch = 0 ∧ mx = 0) → vC 1 agg W k cap p ch mx = 1) := vC_iff (by unfold okP; simp)
theorem vC_2 (agg W k cap p ch mx : Int) : ((1 ≤ k ∧ k ≤ 64) ∧ (1 ≤ cap ∧ cap ≤ 65536) ∧ (1 ≤ W ∧ W ≤ 1048576) ∧ agg = 0 ∧ p = 0 ∧ ch = 0 ∧ mx = 0 → vC 2 agg W k cap p ch mx = 0) ∧ (¬ ((1 ≤ k ∧ k ≤ 64) ∧ (1 ≤ cap ∧ cap ≤ 65536) ∧ (1 ≤ W ∧ W ≤ 1048576) ∧ agg = 0 ∧ p = 0 ∧ ch = 0 ∧ mx = 0) → vC 2 agg W k cap p ch mx = 1) := vC_iff (by unfold okP; simp)
theorem vC_3 (agg W k cap p ch mx : Int) : ((1 ≤ mx ∧ mx ≤ 1024) ∧ (1 ≤ k ∧ k ≤ 64) ∧ (1 ≤ cap ∧ cap ≤ 65536) ∧ (1 ≤ W ∧ W ≤ 1048576) ∧ agg = 0 ∧ p = 0 ∧ ch = 0 → vC 3 agg W k cap p ch mx = 0) ∧ (¬ ((1 ≤ mx ∧ mx ≤ 1024) ∧ (1 ≤ k ∧ k ≤ 64) ∧ (1 ≤ cap ∧ cap ≤ 65536) ∧ (1 ≤ W ∧ W ≤ 1048576) ∧ agg = 0 ∧ p = 0 ∧ ch = 0) → vC 3 agg W k cap p ch mx = 1) := vC_iff (by unfold okP; simp)
theorem vC_4 (agg W k cap p ch mx : Int) : ((1 ≤ agg ∧ agg ≤ 4) ∧ (1 ≤ k ∧ k ≤ 64) ∧ (1 ≤ cap ∧ cap ≤ 65536) ∧ (1 ≤ W ∧ W ≤ 1048576) ∧ p = 0 ∧ ch = 0 ∧ mx = 0 → vC 4 agg W k cap p ch mx = 0) ∧ (¬ ((1 ≤ agg ∧ agg ≤ 4) ∧ (1 ≤ k ∧ k ≤ 64) ∧ (1 ≤ cap ∧ cap ≤ 65536) ∧ (1 ≤ W ∧ W ≤ 1048576) ∧ p = 0 ∧ ch = 0 ∧ mx = 0) → vC 4 agg W k cap p ch mx = 1) := vC_iff (by unfold okP; simp)
theorem vC_5 (agg W k cap p ch mx : Int) : ((1 ≤ k ∧ k ≤ 64) ∧ (1 ≤ cap ∧ cap ≤ 65536) ∧ (1 ≤ W ∧ W ≤ 1048576) ∧ agg = 0 ∧ p = 0 ∧ ch = 0 ∧ mx = 0 → vC 5 agg W k cap p ch mx = 0) ∧ (¬ ((1 ≤ k ∧ k ≤ 64) ∧ (1 ≤ cap ∧ cap ≤ 65536) ∧ (1 ≤ W ∧ W ≤ 1048576) ∧ agg = 0 ∧ p = 0 ∧ ch = 0 ∧ mx = 0) → vC 5 agg W k cap p ch mx = 1) := vC_iff (by unfold okP; simp)
theorem vC_6 (agg W k cap p ch mx : Int) : ((0 ≤ p ∧ p ≤ 4) ∧ agg = 0 ∧ W = 0 ∧ k = 0 ∧ cap = 0 ∧ ch = 0 ∧ mx = 0 → vC 6 agg W k cap p ch mx = 0) ∧ (¬ ((0 ≤ p ∧ p ≤ 4) ∧ agg = 0 ∧ W = 0 ∧ k = 0 ∧ cap = 0 ∧ ch = 0 ∧ mx = 0) → vC 6 agg W k cap p ch mx = 1) := vC_iff (by unfold okP; simp)
theorem vC_7 (agg W k cap p ch mx : Int) : ((1 ≤ W ∧ W ≤ 64) ∧ agg = 0 ∧ k = 0 ∧ cap = 0 ∧ p = 0 ∧ ch = 0 ∧ mx = 0 → vC 7 agg W k cap p ch mx = 0) ∧ (¬ ((1 ≤ W ∧ W ≤ 64) ∧ agg = 0 ∧ k = 0 ∧ cap = 0 ∧ p = 0 ∧ ch = 0 ∧ mx = 0) → vC 7 agg W k cap p ch mx = 1) := vC_iff (by unfold okP; simp)
theorem vC_8 (agg W k cap p ch mx : Int) : ((0 ≤ mx ∧ mx ≤ 1) ∧ (1 ≤ cap ∧ cap ≤ 65536) ∧ (1 ≤ W ∧ W ≤ 1048576) ∧ agg = 0 ∧ k = 0 ∧ p = 0 ∧ ch = 0 → vC 8 agg W k cap p ch mx = 0) ∧ (¬ ((0 ≤ mx ∧ mx ≤ 1) ∧ (1 ≤ cap ∧ cap ≤ 65536) ∧ (1 ≤ W ∧ W ≤ 1048576) ∧ agg = 0 ∧ k = 0 ∧ p = 0 ∧ ch = 0) → vC 8 agg W k cap p ch mx = 1) := vC_iff (by unfold okP; simp)
theorem vC_9 (agg W k cap p ch mx : Int) : ((1 ≤ ch ∧ ch ≤ 16) ∧ (1 ≤ cap ∧ cap ≤ 64) ∧ (1 ≤ W ∧ W ≤ 1048576) ∧ agg = 0 ∧ k = 0 ∧ p = 0 ∧ mx = 0 → vC 9 agg W k cap p ch mx = 0) ∧ (¬ ((1 ≤ ch ∧ ch ≤ 16) ∧ (1 ≤ cap ∧ cap ≤ 64) ∧ (1 ≤ W ∧ W ≤ 1048576) ∧ agg = 0 ∧ k = 0 ∧ p = 0 ∧ mx = 0) → vC 9 agg W k cap p ch mx = 1) := vC_iff (by unfold okP; simp)
theorem vC_10 (agg W k cap p ch mx : Int) : ((1 ≤ k ∧ k ≤ 64) ∧ (2 ≤ cap ∧ cap ≤ 65536) ∧ agg = 0 ∧ W = 0 ∧ p = 0 ∧ ch = 0 ∧ mx = 0 → vC 10 agg W k cap p ch mx = 0) ∧ (¬ ((1 ≤ k ∧ k ≤ 64) ∧ (2 ≤ cap ∧ cap ≤ 65536) ∧ agg = 0 ∧ W = 0 ∧ p = 0 ∧ ch = 0 ∧ mx = 0) → vC 10 agg W k cap p ch mx = 1) := vC_iff (by unfold okP; simp)
theorem vC_11 (agg W k cap p ch mx : Int) : ((1 ≤ k ∧ k ≤ 64) ∧ (1 ≤ cap ∧ cap ≤ 65536) ∧ (1 ≤ W ∧ W ≤ 1048576) ∧ agg = 0 ∧ p = 0 ∧ ch = 0 ∧ mx = 0 → vC 11 agg W k cap p ch mx = 0) ∧ (¬ ((1 ≤ k ∧ k ≤ 64) ∧ (1 ≤ cap ∧ cap ≤ 65536) ∧ (1 ≤ W ∧ W ≤ 1048576) ∧ agg = 0 ∧ p = 0 ∧ ch = 0 ∧ mx = 0) → vC 11 agg W k cap p ch mx = 1) := vC_iff (by unfold okP; simp)
theorem vC_no (kind agg W k cap p ch mx : Int) (h : kind < 1 ∨ 11 < kind) : vC kind agg W k cap p ch mx = 1 := by
  exact (vC_iff (q := False) ⟨fun c => by unfold okP at c; omega, False.elim⟩).2 (fun h => h)
end Go.Proofs.Ytmlddoajfgmoaaa
