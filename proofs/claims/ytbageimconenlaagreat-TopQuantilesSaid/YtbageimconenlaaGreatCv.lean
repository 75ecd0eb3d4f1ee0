/- The test of a configuration whose fields are right: the contracts. -/
import Derived.Test.YtbageimconenlaaGreatMa
namespace Go.Proofs.YtbageimconenlaaGreat
open Go.RowKit
set_option linter.unusedVariables false
def okP (kind agg W k cap p ch mx : Int) : Prop :=
  (kind = 1 ∧ (1 ≤ cap ∧ cap ≤ 65536) ∧ (1 ≤ W ∧ W ≤ 1048576) ∧ agg = 0 ∧ k = 0 ∧ p = 0 ∧ ch = 0 ∧ mx = 0) ∨
  (kind = 2 ∧ (1 ≤ k ∧ k ≤ 64) ∧ (1 ≤ cap ∧ cap ≤ 65536) ∧ (1 ≤ W ∧ W ≤ 1048576) ∧ agg = 0 ∧ p = 0 ∧ ch = 0 ∧ mx = 0) ∨
  (kind = 3 ∧ (1 ≤ mx ∧ mx ≤ 1024) ∧ (1 ≤ k ∧ k ≤ 64) ∧ (1 ≤ cap ∧ cap ≤ 65536) ∧ (1 ≤ W ∧ W ≤ 1048576) ∧ agg = 0 ∧ p = 0 ∧ ch = 0) ∨
  (kind = 4 ∧ (1 ≤ agg ∧ agg ≤ 4) ∧ (1 ≤ k ∧ k ≤ 64) ∧ (1 ≤ cap ∧ cap ≤ 65536) ∧ (1 ≤ W ∧ W ≤ 1048576) ∧ p = 0 ∧ ch = 0 ∧ mx = 0) ∨
  (kind = 5 ∧ (1 ≤ k ∧ k ≤ 64) ∧ (1 ≤ cap ∧ cap ≤ 65536) ∧ (1 ≤ W ∧ W ≤ 1048576) ∧ agg = 0 ∧ p = 0 ∧ ch = 0 ∧ mx = 0) ∨
  (kind = 6 ∧ (0 ≤ p ∧ p ≤ 4) ∧ agg = 0 ∧ W = 0 ∧ k = 0 ∧ cap = 0 ∧ ch = 0 ∧ mx = 0) ∨
  (kind = 7 ∧ (1 ≤ W ∧ W ≤ 64) ∧ agg = 0 ∧ k = 0 ∧ cap = 0 ∧ p = 0 ∧ ch = 0 ∧ mx = 0) ∨
  (kind = 8 ∧ (0 ≤ mx ∧ mx ≤ 1) ∧ (1 ≤ cap ∧ cap ≤ 65536) ∧ (1 ≤ W ∧ W ≤ 1048576) ∧ agg = 0 ∧ k = 0 ∧ p = 0 ∧ ch = 0) ∨
  (kind = 9 ∧ (1 ≤ ch ∧ ch ≤ 16) ∧ (1 ≤ cap ∧ cap ≤ 64) ∧ (1 ≤ W ∧ W ≤ 1048576) ∧ agg = 0 ∧ k = 0 ∧ p = 0 ∧ mx = 0) ∨
  (kind = 10 ∧ (1 ≤ k ∧ k ≤ 64) ∧ (2 ≤ cap ∧ cap ≤ 65536) ∧ agg = 0 ∧ W = 0 ∧ p = 0 ∧ ch = 0 ∧ mx = 0) ∨
  (kind = 11 ∧ (1 ≤ k ∧ k ≤ 64) ∧ (1 ≤ cap ∧ cap ≤ 65536) ∧ (1 ≤ W ∧ W ≤ 1048576) ∧ agg = 0 ∧ p = 0 ∧ ch = 0 ∧ mx = 0)
open Classical in
noncomputable def vC (kind agg W k cap p ch mx : Int) : Int := if okP kind agg W k cap p ch mx then 0 else 1
theorem vC_iff {kind agg W k cap p ch mx : Int} {q : Prop} (h : okP kind agg W k cap p ch mx ↔ q) : (q → vC kind agg W k cap p ch mx = 0) ∧ (¬ q → vC kind agg W k cap p ch mx = 1) := by
  unfold vC
  exact ⟨fun hq => if_pos (h.2 hq), fun hq => if_neg fun c => hq (h.1 c)⟩
theorem vC_2 (agg W k cap p ch mx : Int) : ((1 ≤ k ∧ k ≤ 64) ∧ (1 ≤ cap ∧ cap ≤ 65536) ∧ (1 ≤ W ∧ W ≤ 1048576) ∧ agg = 0 ∧ p = 0 ∧ ch = 0 ∧ mx = 0 → vC 2 agg W k cap p ch mx = 0) ∧ (¬ ((1 ≤ k ∧ k ≤ 64) ∧ (1 ≤ cap ∧ cap ≤ 65536) ∧ (1 ≤ W ∧ W ≤ 1048576) ∧ agg = 0 ∧ p = 0 ∧ ch = 0 ∧ mx = 0) → vC 2 agg W k cap p ch mx = 1) := vC_iff (by unfold okP; simp)
theorem vC_11 (agg W k cap p ch mx : Int) : ((1 ≤ k ∧ k ≤ 64) ∧ (1 ≤ cap ∧ cap ≤ 65536) ∧ (1 ≤ W ∧ W ≤ 1048576) ∧ agg = 0 ∧ p = 0 ∧ ch = 0 ∧ mx = 0 → vC 11 agg W k cap p ch mx = 0) ∧ (¬ ((1 ≤ k ∧ k ≤ 64) ∧ (1 ≤ cap ∧ cap ≤ 65536) ∧ (1 ≤ W ∧ W ≤ 1048576) ∧ agg = 0 ∧ p = 0 ∧ ch = 0 ∧ mx = 0) → vC 11 agg W k cap p ch mx = 1) := vC_iff (by unfold okP; simp)
def InEnd (n lo hi : Int) (w : World) (e : Ending) (w' : World) : Prop := e = .returned (.bool (decide (lo ≤ n ∧ n ≤ hi))) ∧ w = w'
theorem in_any (n lo hi : Int) (w : World) : Calls Tryz.prog 84 #[.int .i64 n, .int .i64 lo, .int .i64 hi] w (InEnd n lo hi w) := by
  by_cases h1 : lo ≤ n
  · have d1 : decide (lo ≤ n) = true := by simpa using h1
    by_cases h2 : n ≤ hi
    · have H := hide (show decide (lo ≤ n ∧ n ≤ hi) = true by simp [h1, h2])
      have d2 : decide (n ≤ hi) = true := by simpa using h2
      go_enter Tryz.func84, Tryz.ntmps84
      go_wp2
      go_ret
      exact ⟨by rw [H.out]; rfl, rfl⟩
    · have H := hide (show decide (lo ≤ n ∧ n ≤ hi) = false by simp [h2])
      have d2 : decide (n ≤ hi) = false := by simpa using h2
      go_enter Tryz.func84, Tryz.ntmps84
      go_wp2
      go_ret
      exact ⟨by rw [H.out]; rfl, rfl⟩
  · have H := hide (show decide (lo ≤ n ∧ n ≤ hi) = false by simp [h1])
    have d1 : decide (lo ≤ n) = false := by simpa using h1
    go_enter Tryz.func84, Tryz.ntmps84
    go_wp2
    go_ret
    exact ⟨by rw [H.out]; rfl, rfl⟩
def TakeEnd (w2 : World) (e : Ending) (w' : World) : Prop := e = .returned (.tuple #[]) ∧ w2 = w'
theorem take1 (b r : Bool) (g ok c f : Nat) (v0 : Value) (w : World) (h1 : w.cell? ⟨ok, 0, none⟩ = some (.bool b)) (h2 : w.frozen? ⟨ok, 0, none⟩ = false) (h30 : w.cell? ⟨g, 0, none⟩ = some (.pointer (some ⟨c, f, none⟩))) (h40 : w.cell? ⟨c, f, none⟩ = some v0) (h50 : w.frozen? ⟨c, f, none⟩ = false) (n1 : ok ≠ g) (n2 : ok ≠ c) (n3 : c ≠ g)  :
    Calls Tryz.prog 83 #[.bool r, .slice (some ⟨g, 0, none⟩) 1 1, .pointer (some ⟨ok, 0, none⟩)] w (TakeEnd ((w.setCell ⟨ok, 0, none⟩ (.bool (b && r))).setCell ⟨c, f, none⟩ (.int .i64 0))) := by
  have k30 : (w.setCell ⟨ok, 0, none⟩ (.bool (b && r))).cell? ⟨g, 0, none⟩ = some (.pointer (some ⟨c, f, none⟩)) := (World.cell?_setCell_other _ _ _ _ (fun e => n1 (by injection e))).trans h30
  have k40 : (w.setCell ⟨ok, 0, none⟩ (.bool (b && r))).cell? ⟨c, f, none⟩ = some v0 := (World.cell?_setCell_other _ _ _ _ (fun e => n2 (by injection e))).trans h40
  have k50 : (w.setCell ⟨ok, 0, none⟩ (.bool (b && r))).frozen? ⟨c, f, none⟩ = false := by simpa using h50
  clear h30 h40 h50
  generalize hW2 : ((w.setCell ⟨ok, 0, none⟩ (.bool (b && r))).setCell ⟨c, f, none⟩ (.int .i64 0)) = wE
  have HE := hide hW2
  clear hW2
  generalize hW1 : (w.setCell ⟨ok, 0, none⟩ (.bool (b && r))) = wO at *
  have HO := hide hW1
  clear hW1
  go_enter Tryz.func83, Tryz.ntmps83
  have HK := hide (show True from trivial)
  rcases two b with rfl | rfl <;> rcases two r with rfl | rfl
  all_goals
    go_wp2
    have hO := HO.out
    simp only [Bool.and_true, Bool.and_false, Bool.and_self] at hO
    rw [hO]
    clear hO h1 h2
    go_loopw [13] (fun i wr => (i = .int .i64 0 ∧ wr = wO) ∨ (i = .int .i64 1 ∧ wr = wE)) (fun i _ => 1 - (intOf i).toNat)
    case atStart => exact Or.inl ⟨rfl, rfl⟩
    case round =>
      rcases hrel with ⟨rfl, rfl⟩ | ⟨rfl, rfl⟩
      · go_wp2
        go_roundw
        case rel => exact Or.inr ⟨rfl, HE.out⟩
        case measure => simp [intOf]
      · go_wp2
        go_end0
        exact ⟨rfl, rfl⟩
theorem take2 (b r : Bool) (g ok c f1 f2 : Nat) (v0 v1 : Value) (w : World) (h1 : w.cell? ⟨ok, 0, none⟩ = some (.bool b)) (h2 : w.frozen? ⟨ok, 0, none⟩ = false) (h30 : w.cell? ⟨g, 0, none⟩ = some (.pointer (some ⟨c, f1, none⟩))) (h40 : w.cell? ⟨c, f1, none⟩ = some v0) (h50 : w.frozen? ⟨c, f1, none⟩ = false) (h31 : w.cell? ⟨g, 1, none⟩ = some (.pointer (some ⟨c, f2, none⟩))) (h41 : w.cell? ⟨c, f2, none⟩ = some v1) (h51 : w.frozen? ⟨c, f2, none⟩ = false) (n1 : ok ≠ g) (n2 : ok ≠ c) (n3 : c ≠ g) (n4 : f1 ≠ f2) :
    Calls Tryz.prog 83 #[.bool r, .slice (some ⟨g, 0, none⟩) 2 2, .pointer (some ⟨ok, 0, none⟩)] w (TakeEnd (((w.setCell ⟨ok, 0, none⟩ (.bool (b && r))).setCell ⟨c, f1, none⟩ (.int .i64 0)).setCell ⟨c, f2, none⟩ (.int .i64 0))) := by
  have k30 : (w.setCell ⟨ok, 0, none⟩ (.bool (b && r))).cell? ⟨g, 0, none⟩ = some (.pointer (some ⟨c, f1, none⟩)) := (World.cell?_setCell_other _ _ _ _ (fun e => n1 (by injection e))).trans h30
  have k40 : (w.setCell ⟨ok, 0, none⟩ (.bool (b && r))).cell? ⟨c, f1, none⟩ = some v0 := (World.cell?_setCell_other _ _ _ _ (fun e => n2 (by injection e))).trans h40
  have k50 : (w.setCell ⟨ok, 0, none⟩ (.bool (b && r))).frozen? ⟨c, f1, none⟩ = false := by simpa using h50
  have k31 : (w.setCell ⟨ok, 0, none⟩ (.bool (b && r))).cell? ⟨g, 1, none⟩ = some (.pointer (some ⟨c, f2, none⟩)) := (World.cell?_setCell_other _ _ _ _ (fun e => n1 (by injection e))).trans h31
  have k41 : (w.setCell ⟨ok, 0, none⟩ (.bool (b && r))).cell? ⟨c, f2, none⟩ = some v1 := (World.cell?_setCell_other _ _ _ _ (fun e => n2 (by injection e))).trans h41
  have k51 : (w.setCell ⟨ok, 0, none⟩ (.bool (b && r))).frozen? ⟨c, f2, none⟩ = false := by simpa using h51
  have m31 : ((w.setCell ⟨ok, 0, none⟩ (.bool (b && r))).setCell ⟨c, f1, none⟩ (.int .i64 0)).cell? ⟨g, 1, none⟩ = some (.pointer (some ⟨c, f2, none⟩)) := (World.cell?_setCell_other _ _ _ _ (fun e => n3 (by injection e))).trans k31
  have m41 : ((w.setCell ⟨ok, 0, none⟩ (.bool (b && r))).setCell ⟨c, f1, none⟩ (.int .i64 0)).cell? ⟨c, f2, none⟩ = some v1 := (World.cell?_setCell_other _ _ _ _ (fun e => n4 (by injection e))).trans k41
  have m51 : ((w.setCell ⟨ok, 0, none⟩ (.bool (b && r))).setCell ⟨c, f1, none⟩ (.int .i64 0)).frozen? ⟨c, f2, none⟩ = false := by simpa using h51
  clear h30 h40 h50
  clear h31 h41 h51
  clear k31 k41 k51
  generalize hW2 : (((w.setCell ⟨ok, 0, none⟩ (.bool (b && r))).setCell ⟨c, f1, none⟩ (.int .i64 0)).setCell ⟨c, f2, none⟩ (.int .i64 0)) = wE
  have HE := hide hW2
  clear hW2
  generalize hWm : ((w.setCell ⟨ok, 0, none⟩ (.bool (b && r))).setCell ⟨c, f1, none⟩ (.int .i64 0)) = wM at *
  have HM := hide hWm
  clear hWm
  generalize hW1 : (w.setCell ⟨ok, 0, none⟩ (.bool (b && r))) = wO at *
  have HO := hide hW1
  clear hW1
  go_enter Tryz.func83, Tryz.ntmps83
  have HK := hide (show True from trivial)
  rcases two b with rfl | rfl <;> rcases two r with rfl | rfl
  all_goals
    go_wp2
    have hO := HO.out
    simp only [Bool.and_true, Bool.and_false, Bool.and_self] at hO
    rw [hO]
    clear hO h1 h2
    go_loopw [13] (fun i wr => (i = .int .i64 0 ∧ wr = wO) ∨ (i = .int .i64 1 ∧ wr = wM) ∨ (i = .int .i64 2 ∧ wr = wE)) (fun i _ => 2 - (intOf i).toNat)
    case atStart => exact Or.inl ⟨rfl, rfl⟩
    case round =>
      rcases hrel with ⟨rfl, rfl⟩ | ⟨rfl, rfl⟩ | ⟨rfl, rfl⟩
      · go_wp2
        go_roundw
        case rel => exact Or.inr (Or.inl ⟨rfl, HM.out⟩)
        case measure => simp [intOf]
      · go_wp2
        go_roundw
        case rel => exact Or.inr (Or.inr ⟨rfl, HE.out⟩)
        case measure => simp [intOf]
      · go_wp2
        go_end0
        exact ⟨rfl, rfl⟩
def cfgV (kind agg W k cap p ch mx : Int) : Value := .agg #[.int .i64 kind, .int .i64 agg, .int .i64 W, .int .i64 k, .int .i64 cap, .int .i64 p, .int .i64 ch, .int .i64 mx]
def ValEnd (kind agg W k cap p ch mx : Int) (w : World) (e : Ending) (w' : World) : Prop := e = .returned (.int .i64 (vC kind agg W k cap p ch mx)) ∧ Below w.heap.size w w'
set_option maxRecDepth 100000 in
set_option maxHeartbeats 1000000 in
theorem val_2_a (agg W k cap p ch mx : Int) (w : World) (h0 : 1 ≤ k ∧ k ≤ 64) (h1 : 1 ≤ cap ∧ cap ≤ 65536) (h2 : 1 ≤ W ∧ W ≤ 1048576) : Calls Tryz.prog 26 #[cfgV 2 agg W k cap p ch mx] w (ValEnd 2 agg W k cap p ch mx w) := by
  have C16 := hide in_any
  have CT1 := hide take1
  have CT2 := hide take2
  unfold InEnd at C16
  unfold TakeEnd at CT1 CT2
  have HV := hide (fun (hz : agg = 0 ∧ p = 0 ∧ ch = 0 ∧ mx = 0) => (vC_2 agg W k cap p ch mx).1 ⟨h0, h1, h2, hz⟩)
  have HN := hide (fun (hz : ¬ (agg = 0 ∧ p = 0 ∧ ch = 0 ∧ mx = 0)) => (vC_2 agg W k cap p ch mx).2 (fun c => hz c.2.2.2))
  have C16_0 := hide (fun w0 => C16.out k 1 64 w0)
  rw [decide_eq_true h0] at C16_0
  have C16_1 := hide (fun w0 => C16.out cap 1 65536 w0)
  rw [decide_eq_true h1] at C16_1
  have C16_2 := hide (fun w0 => C16.out W 1 1048576 w0)
  rw [decide_eq_true h2] at C16_2
  clear C16 h0 h1 h2
  unfold cfgV
  go_enter Tryz.func26, Tryz.ntmps26
  go_wp2_with (fail)
  refine (C16_0.out _).mono ?_
  rintro e w1 ⟨rfl, rfl⟩
  go_wp2_with (fail)
  refine (CT1.out true true (w.heap.size + 1 + 1) (w.heap.size + 1) w.heap.size 3 (.int .i64 k) _ ?_ ?_ ?_ ?_ ?_ ?_ ?_ ?_).mono ?_
  · refine Blk.cell (t := 4) (cs := #[.bool true]) ?_ 0; (repeat (first | ((with_reducible refine Blk.new_at ?_ _ _); simp; done) | with_reducible refine Blk.alloc ?_ _))
  · refine Blk.frozen (t := 4) (cs := #[.bool true]) ?_ 0; (repeat (first | ((with_reducible refine Blk.new_at ?_ _ _); simp; done) | with_reducible refine Blk.alloc ?_ _))
  · refine Blk.cell (t := 177) (cs := #[.pointer (some ⟨w.heap.size, 3, none⟩)]) ?_ 0; (repeat (first | ((with_reducible refine Blk.new_at ?_ _ _); simp; done) | with_reducible refine Blk.alloc ?_ _))
  · refine Blk.cell (t := 25) (cs := #[.int .i64 2, .int .i64 agg, .int .i64 W, .int .i64 k, .int .i64 cap, .int .i64 p, .int .i64 ch, .int .i64 mx]) ?_ 3; (repeat (first | ((with_reducible refine Blk.new_at ?_ _ _); simp; done) | with_reducible refine Blk.alloc ?_ _))
  · refine Blk.frozen (t := 25) (cs := #[.int .i64 2, .int .i64 agg, .int .i64 W, .int .i64 k, .int .i64 cap, .int .i64 p, .int .i64 ch, .int .i64 mx]) ?_ 3; (repeat (first | ((with_reducible refine Blk.new_at ?_ _ _); simp; done) | with_reducible refine Blk.alloc ?_ _))
  · omega
  · omega
  · omega
  rintro e w1 ⟨rfl, rfl⟩
  go_wp2_with (fail)
  refine (C16_1.out _).mono ?_
  rintro e w1 ⟨rfl, rfl⟩
  go_wp2_with (fail)
  refine (CT1.out true true (w.heap.size + 1 + 1 + 1) (w.heap.size + 1) w.heap.size 4 (.int .i64 cap) _ ?_ ?_ ?_ ?_ ?_ ?_ ?_ ?_).mono ?_
  · refine Blk.cell (t := 4) (cs := #[.bool true]) ?_ 0; (repeat (first | ((with_reducible refine Blk.new_at ?_ _ _); simp; done) | with_reducible refine Blk.alloc ?_ _))
  · refine Blk.frozen (t := 4) (cs := #[.bool true]) ?_ 0; (repeat (first | ((with_reducible refine Blk.new_at ?_ _ _); simp; done) | with_reducible refine Blk.alloc ?_ _))
  · refine Blk.cell (t := 177) (cs := #[.pointer (some ⟨w.heap.size, 4, none⟩)]) ?_ 0; (repeat (first | ((with_reducible refine Blk.new_at ?_ _ _); simp; done) | with_reducible refine Blk.alloc ?_ _))
  · refine Blk.cell (t := 25) (cs := #[.int .i64 2, .int .i64 agg, .int .i64 W, .int .i64 0, .int .i64 cap, .int .i64 p, .int .i64 ch, .int .i64 mx]) ?_ 4; (repeat (first | ((with_reducible refine Blk.new_at ?_ _ _); simp; done) | with_reducible refine Blk.alloc ?_ _))
  · refine Blk.frozen (t := 25) (cs := #[.int .i64 2, .int .i64 agg, .int .i64 W, .int .i64 0, .int .i64 cap, .int .i64 p, .int .i64 ch, .int .i64 mx]) ?_ 4; (repeat (first | ((with_reducible refine Blk.new_at ?_ _ _); simp; done) | with_reducible refine Blk.alloc ?_ _))
  · omega
  · omega
  · omega
  rintro e w1 ⟨rfl, rfl⟩
  go_wp2_with (fail)
  refine (C16_2.out _).mono ?_
  rintro e w1 ⟨rfl, rfl⟩
  go_wp2
  all_goals
    go_ret
    first | (refine ⟨(congrArg (fun z => Ending.returned (.int .i64 z)) (HV.out ?_)).symm, ?_⟩; (· refine ⟨?_, ?_, ?_, ?_⟩ <;> assumption); (· repeat (first | exact Below.refl _ _ | refine Bl.alloc' ?_ _))) | (refine ⟨(congrArg (fun z => Ending.returned (.int .i64 z)) (HN.out ?_)).symm, ?_⟩; (· rintro ⟨q0, q1, q2, q3⟩; contradiction); (· repeat (first | exact Below.refl _ _ | refine Bl.alloc' ?_ _)))
set_option maxRecDepth 100000 in
set_option maxHeartbeats 1000000 in
theorem val_11_a (agg W k cap p ch mx : Int) (w : World) (h0 : 1 ≤ k ∧ k ≤ 64) (h1 : 1 ≤ cap ∧ cap ≤ 65536) (h2 : 1 ≤ W ∧ W ≤ 1048576) : Calls Tryz.prog 26 #[cfgV 11 agg W k cap p ch mx] w (ValEnd 11 agg W k cap p ch mx w) := by
  have C16 := hide in_any
  have CT1 := hide take1
  have CT2 := hide take2
  unfold InEnd at C16
  unfold TakeEnd at CT1 CT2
  have HV := hide (fun (hz : agg = 0 ∧ p = 0 ∧ ch = 0 ∧ mx = 0) => (vC_11 agg W k cap p ch mx).1 ⟨h0, h1, h2, hz⟩)
  have HN := hide (fun (hz : ¬ (agg = 0 ∧ p = 0 ∧ ch = 0 ∧ mx = 0)) => (vC_11 agg W k cap p ch mx).2 (fun c => hz c.2.2.2))
  have C16_0 := hide (fun w0 => C16.out k 1 64 w0)
  rw [decide_eq_true h0] at C16_0
  have C16_1 := hide (fun w0 => C16.out cap 1 65536 w0)
  rw [decide_eq_true h1] at C16_1
  have C16_2 := hide (fun w0 => C16.out W 1 1048576 w0)
  rw [decide_eq_true h2] at C16_2
  clear C16 h0 h1 h2
  unfold cfgV
  go_enter Tryz.func26, Tryz.ntmps26
  go_wp2_with (fail)
  refine (C16_0.out _).mono ?_
  rintro e w1 ⟨rfl, rfl⟩
  go_wp2_with (fail)
  refine (CT1.out true true (w.heap.size + 1 + 1) (w.heap.size + 1) w.heap.size 3 (.int .i64 k) _ ?_ ?_ ?_ ?_ ?_ ?_ ?_ ?_).mono ?_
  · refine Blk.cell (t := 4) (cs := #[.bool true]) ?_ 0; (repeat (first | ((with_reducible refine Blk.new_at ?_ _ _); simp; done) | with_reducible refine Blk.alloc ?_ _))
  · refine Blk.frozen (t := 4) (cs := #[.bool true]) ?_ 0; (repeat (first | ((with_reducible refine Blk.new_at ?_ _ _); simp; done) | with_reducible refine Blk.alloc ?_ _))
  · refine Blk.cell (t := 177) (cs := #[.pointer (some ⟨w.heap.size, 3, none⟩)]) ?_ 0; (repeat (first | ((with_reducible refine Blk.new_at ?_ _ _); simp; done) | with_reducible refine Blk.alloc ?_ _))
  · refine Blk.cell (t := 25) (cs := #[.int .i64 11, .int .i64 agg, .int .i64 W, .int .i64 k, .int .i64 cap, .int .i64 p, .int .i64 ch, .int .i64 mx]) ?_ 3; (repeat (first | ((with_reducible refine Blk.new_at ?_ _ _); simp; done) | with_reducible refine Blk.alloc ?_ _))
  · refine Blk.frozen (t := 25) (cs := #[.int .i64 11, .int .i64 agg, .int .i64 W, .int .i64 k, .int .i64 cap, .int .i64 p, .int .i64 ch, .int .i64 mx]) ?_ 3; (repeat (first | ((with_reducible refine Blk.new_at ?_ _ _); simp; done) | with_reducible refine Blk.alloc ?_ _))
  · omega
  · omega
  · omega
  rintro e w1 ⟨rfl, rfl⟩
  go_wp2_with (fail)
  refine (C16_1.out _).mono ?_
  rintro e w1 ⟨rfl, rfl⟩
  go_wp2_with (fail)
  refine (CT1.out true true (w.heap.size + 1 + 1 + 1) (w.heap.size + 1) w.heap.size 4 (.int .i64 cap) _ ?_ ?_ ?_ ?_ ?_ ?_ ?_ ?_).mono ?_
  · refine Blk.cell (t := 4) (cs := #[.bool true]) ?_ 0; (repeat (first | ((with_reducible refine Blk.new_at ?_ _ _); simp; done) | with_reducible refine Blk.alloc ?_ _))
  · refine Blk.frozen (t := 4) (cs := #[.bool true]) ?_ 0; (repeat (first | ((with_reducible refine Blk.new_at ?_ _ _); simp; done) | with_reducible refine Blk.alloc ?_ _))
  · refine Blk.cell (t := 177) (cs := #[.pointer (some ⟨w.heap.size, 4, none⟩)]) ?_ 0; (repeat (first | ((with_reducible refine Blk.new_at ?_ _ _); simp; done) | with_reducible refine Blk.alloc ?_ _))
  · refine Blk.cell (t := 25) (cs := #[.int .i64 11, .int .i64 agg, .int .i64 W, .int .i64 0, .int .i64 cap, .int .i64 p, .int .i64 ch, .int .i64 mx]) ?_ 4; (repeat (first | ((with_reducible refine Blk.new_at ?_ _ _); simp; done) | with_reducible refine Blk.alloc ?_ _))
  · refine Blk.frozen (t := 25) (cs := #[.int .i64 11, .int .i64 agg, .int .i64 W, .int .i64 0, .int .i64 cap, .int .i64 p, .int .i64 ch, .int .i64 mx]) ?_ 4; (repeat (first | ((with_reducible refine Blk.new_at ?_ _ _); simp; done) | with_reducible refine Blk.alloc ?_ _))
  · omega
  · omega
  · omega
  rintro e w1 ⟨rfl, rfl⟩
  go_wp2_with (fail)
  refine (C16_2.out _).mono ?_
  rintro e w1 ⟨rfl, rfl⟩
  go_wp2
  all_goals
    go_ret
    first | (refine ⟨(congrArg (fun z => Ending.returned (.int .i64 z)) (HV.out ?_)).symm, ?_⟩; (· refine ⟨?_, ?_, ?_, ?_⟩ <;> assumption); (· repeat (first | exact Below.refl _ _ | refine Bl.alloc' ?_ _))) | (refine ⟨(congrArg (fun z => Ending.returned (.int .i64 z)) (HN.out ?_)).symm, ?_⟩; (· rintro ⟨q0, q1, q2, q3⟩; contradiction); (· repeat (first | exact Below.refl _ _ | refine Bl.alloc' ?_ _)))
theorem cfg_2 (W k cap : Int) (w : World) (h1 : 1 ≤ k) (h2 : k ≤ 64) (h3 : 1 ≤ cap) (h4 : cap ≤ 65536) (h5 : 1 ≤ W) (h6 : W ≤ 1048576) : Calls Tryz.prog 26 #[.agg #[.int .i64 2, .int .i64 0, .int .i64 W, .int .i64 k, .int .i64 cap, .int .i64 0, .int .i64 0, .int .i64 0]] w (fun e w' => e = .returned (.int .i64 0) ∧ Below w.heap.size w w') := by
  have h := val_2_a 0 W k cap 0 0 0 w ⟨h1, h2⟩ ⟨h3, h4⟩ ⟨h5, h6⟩
  unfold ValEnd cfgV at h
  rw [(vC_2 _ _ _ _ _ _ _).1 ⟨⟨h1, h2⟩, ⟨h3, h4⟩, ⟨h5, h6⟩, rfl, rfl, rfl, rfl⟩] at h
  exact h
theorem cfg_11 (W k cap : Int) (w : World) (h1 : 1 ≤ k) (h2 : k ≤ 64) (h3 : 1 ≤ cap) (h4 : cap ≤ 65536) (h5 : 1 ≤ W) (h6 : W ≤ 1048576) : Calls Tryz.prog 26 #[.agg #[.int .i64 11, .int .i64 0, .int .i64 W, .int .i64 k, .int .i64 cap, .int .i64 0, .int .i64 0, .int .i64 0]] w (fun e w' => e = .returned (.int .i64 0) ∧ Below w.heap.size w w') := by
  have h := val_11_a 0 W k cap 0 0 0 w ⟨h1, h2⟩ ⟨h3, h4⟩ ⟨h5, h6⟩
  unfold ValEnd cfgV at h
  rw [(vC_11 _ _ _ _ _ _ _).1 ⟨⟨h1, h2⟩, ⟨h3, h4⟩, ⟨h5, h6⟩, rfl, rfl, rfl, rfl⟩] at h
  exact h
set_option maxRecDepth 100000 in
theorem ans_2 (W k cap : Int) (h1 : 1 ≤ k) (h2 : k ≤ 64) (h3 : 1 ≤ cap) (h4 : cap ≤ 65536) (h5 : 1 ≤ W) (h6 : W ≤ 1048576) (w : World) : Calls Tryz.prog 52 #[.agg #[.int .i64 2, .int .i64 0, .int .i64 W, .int .i64 k, .int .i64 cap, .int .i64 0, .int .i64 0, .int .i64 0], .int .i64 1] w (fun e w' => e = .returned (.bool true) ∧ Below w.heap.size w w') := by
  have C26 := hide (fun (w1 : World) => cfg_2 W k cap w1 h1 h2 h3 h4 h5 h6)
  have qX : Blk (w.alloc (.cells #[.int .i64 2, .int .i64 0, .int .i64 W, .int .i64 k, .int .i64 cap, .int .i64 0, .int .i64 0, .int .i64 0] 25)) w.heap.size 25 #[.int .i64 2, .int .i64 0, .int .i64 W, .int .i64 k, .int .i64 cap, .int .i64 0, .int .i64 0, .int .i64 0] := Blk.new _ _ _
  have qB : Below w.heap.size w (w.alloc (.cells #[.int .i64 2, .int .i64 0, .int .i64 W, .int .i64 k, .int .i64 cap, .int .i64 0, .int .i64 0, .int .i64 0] 25)) := Bl.alloc' (Below.refl _ w) _
  clear h1 h2 h3 h4 h5 h6
  go_enter Tryz.func52, Tryz.ntmps52
  go_upto_region 1 with (fail)
  generalize (w.alloc (.cells #[.int .i64 2, .int .i64 0, .int .i64 W, .int .i64 k, .int .i64 cap, .int .i64 0, .int .i64 0, .int .i64 0] 25)) = w0 at *
  have X0 := hide qX
  have B0 := hide qB
  clear qX qB
  go_wp2_with (refine wpList_load25 rfl (.tmp 2) rfl w.heap.size 25 rfl X0.out ?_)
  refine (C26.out w0).mono ?_
  rintro e w1 ⟨rfl, hb⟩
  have X1 := hide (X0.out.below hb X0.out.lt)
  have B1 := hide (B0.out.trans (hb.mono B0.out.size))
  have x0 : w1.cell? ⟨w.heap.size, 0, none⟩ = some (.int .i64 2) := X1.out.cell 0
  clear hb X0 B0
  go_wp2
  go_ret
  exact ⟨rfl, B1.out⟩
set_option maxRecDepth 100000 in
theorem ans_11r (W k cap : Int) (h1 : 1 ≤ k) (h2 : k ≤ 64) (h3 : 1 ≤ cap) (h4 : cap ≤ 65536) (h5 : 1 ≤ W) (h6 : W ≤ 1048576) (w : World) : Calls Tryz.prog 52 #[.agg #[.int .i64 11, .int .i64 0, .int .i64 W, .int .i64 k, .int .i64 cap, .int .i64 0, .int .i64 0, .int .i64 0], .int .i64 7] w (fun e w' => e = .returned (.bool true) ∧ Below w.heap.size w w') := by
  have C26 := hide (fun (w1 : World) => cfg_11 W k cap w1 h1 h2 h3 h4 h5 h6)
  have qX : Blk (w.alloc (.cells #[.int .i64 11, .int .i64 0, .int .i64 W, .int .i64 k, .int .i64 cap, .int .i64 0, .int .i64 0, .int .i64 0] 25)) w.heap.size 25 #[.int .i64 11, .int .i64 0, .int .i64 W, .int .i64 k, .int .i64 cap, .int .i64 0, .int .i64 0, .int .i64 0] := Blk.new _ _ _
  have qB : Below w.heap.size w (w.alloc (.cells #[.int .i64 11, .int .i64 0, .int .i64 W, .int .i64 k, .int .i64 cap, .int .i64 0, .int .i64 0, .int .i64 0] 25)) := Bl.alloc' (Below.refl _ w) _
  clear h1 h2 h3 h4 h5 h6
  go_enter Tryz.func52, Tryz.ntmps52
  go_upto_region 1 with (fail)
  generalize (w.alloc (.cells #[.int .i64 11, .int .i64 0, .int .i64 W, .int .i64 k, .int .i64 cap, .int .i64 0, .int .i64 0, .int .i64 0] 25)) = w0 at *
  have X0 := hide qX
  have B0 := hide qB
  clear qX qB
  go_wp2_with (refine wpList_load25 rfl (.tmp 2) rfl w.heap.size 25 rfl X0.out ?_)
  refine (C26.out w0).mono ?_
  rintro e w1 ⟨rfl, hb⟩
  have X1 := hide (X0.out.below hb X0.out.lt)
  have B1 := hide (B0.out.trans (hb.mono B0.out.size))
  have x0 : w1.cell? ⟨w.heap.size, 0, none⟩ = some (.int .i64 11) := X1.out.cell 0
  clear hb X0 B0
  go_wp2
  go_ret
  exact ⟨rfl, B1.out⟩
set_option maxRecDepth 100000 in
theorem ans_11q (W k cap : Int) (h1 : 1 ≤ k) (h2 : k ≤ 64) (h3 : 1 ≤ cap) (h4 : cap ≤ 65536) (h5 : 1 ≤ W) (h6 : W ≤ 1048576) (w : World) : Calls Tryz.prog 52 #[.agg #[.int .i64 11, .int .i64 0, .int .i64 W, .int .i64 k, .int .i64 cap, .int .i64 0, .int .i64 0, .int .i64 0], .int .i64 8] w (fun e w' => e = .returned (.bool true) ∧ Below w.heap.size w w') := by
  have C26 := hide (fun (w1 : World) => cfg_11 W k cap w1 h1 h2 h3 h4 h5 h6)
  have qX : Blk (w.alloc (.cells #[.int .i64 11, .int .i64 0, .int .i64 W, .int .i64 k, .int .i64 cap, .int .i64 0, .int .i64 0, .int .i64 0] 25)) w.heap.size 25 #[.int .i64 11, .int .i64 0, .int .i64 W, .int .i64 k, .int .i64 cap, .int .i64 0, .int .i64 0, .int .i64 0] := Blk.new _ _ _
  have qB : Below w.heap.size w (w.alloc (.cells #[.int .i64 11, .int .i64 0, .int .i64 W, .int .i64 k, .int .i64 cap, .int .i64 0, .int .i64 0, .int .i64 0] 25)) := Bl.alloc' (Below.refl _ w) _
  clear h1 h2 h3 h4 h5 h6
  go_enter Tryz.func52, Tryz.ntmps52
  go_upto_region 1 with (fail)
  generalize (w.alloc (.cells #[.int .i64 11, .int .i64 0, .int .i64 W, .int .i64 k, .int .i64 cap, .int .i64 0, .int .i64 0, .int .i64 0] 25)) = w0 at *
  have X0 := hide qX
  have B0 := hide qB
  clear qX qB
  go_wp2_with (refine wpList_load25 rfl (.tmp 2) rfl w.heap.size 25 rfl X0.out ?_)
  refine (C26.out w0).mono ?_
  rintro e w1 ⟨rfl, hb⟩
  have X1 := hide (X0.out.below hb X0.out.lt)
  have B1 := hide (B0.out.trans (hb.mono B0.out.size))
  have x0 : w1.cell? ⟨w.heap.size, 0, none⟩ = some (.int .i64 11) := X1.out.cell 0
  clear hb X0 B0
  go_wp2
  go_ret
  exact ⟨rfl, B1.out⟩
end Go.Proofs.YtbageimconenlaaGreat
