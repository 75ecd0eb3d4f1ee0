/- A number in a range, and the closure that notes a test and clears fields: the contracts. -/
import Derived.Test.YtmlddoajfgmoaaaWords
import Derived.Outline
import Derived.LoopTactic
import Derived.Test.YtmlddoajfgmoaaaProg
namespace Go.Proofs.Ytmlddoajfgmoaaa
open Go.RowKit
set_option linter.unusedVariables false
def InEnd (n lo hi : Int) (w : World) (e : Ending) (w' : World) : Prop := e = .returned (.bool (decide (lo ≤ n ∧ n ≤ hi))) ∧ w = w'
theorem in_any (n lo hi : Int) (w : World) : Calls Try.prog 16 #[.int .i64 n, .int .i64 lo, .int .i64 hi] w (InEnd n lo hi w) := by
  by_cases h1 : lo ≤ n
  · have d1 : decide (lo ≤ n) = true := by simpa using h1
    by_cases h2 : n ≤ hi
    · have H := hide (show decide (lo ≤ n ∧ n ≤ hi) = true by simp [h1, h2])
      have d2 : decide (n ≤ hi) = true := by simpa using h2
      go_enter Try.func16, Try.ntmps16
      go_wp2
      go_ret
      exact ⟨by rw [H.out]; rfl, rfl⟩
    · have H := hide (show decide (lo ≤ n ∧ n ≤ hi) = false by simp [h2])
      have d2 : decide (n ≤ hi) = false := by simpa using h2
      go_enter Try.func16, Try.ntmps16
      go_wp2
      go_ret
      exact ⟨by rw [H.out]; rfl, rfl⟩
  · have H := hide (show decide (lo ≤ n ∧ n ≤ hi) = false by simp [h1])
    have d1 : decide (lo ≤ n) = false := by simpa using h1
    go_enter Try.func16, Try.ntmps16
    go_wp2
    go_ret
    exact ⟨by rw [H.out]; rfl, rfl⟩
theorem Blk.new_at {w : World} {g : Nat} (hg : w.heap.size = g) (t : TypeId) (cs : Array Value) : Blk (w.alloc (.cells cs t)) g t cs := by
  subst hg; exact Blk.new w t cs
theorem Bl.alloc' {a w : World} (h : Below a.heap.size a w) (o : Obj) : Below a.heap.size a (w.alloc o) := h.alloc h.size o
theorem Bl.call' {a w w' : World} (h : Below a.heap.size a w) (hb : Below w.heap.size w w') : Below a.heap.size a w' := h.trans (hb.mono h.size)
def TakeEnd (w2 : World) (e : Ending) (w' : World) : Prop := e = .returned (.tuple #[]) ∧ w2 = w'
theorem take1 (b r : Bool) (g ok c f : Nat) (v0 : Value) (w : World) (h1 : w.cell? ⟨ok, 0, none⟩ = some (.bool b)) (h2 : w.frozen? ⟨ok, 0, none⟩ = false) (h30 : w.cell? ⟨g, 0, none⟩ = some (.pointer (some ⟨c, f, none⟩))) (h40 : w.cell? ⟨c, f, none⟩ = some v0) (h50 : w.frozen? ⟨c, f, none⟩ = false) (n1 : ok ≠ g) (n2 : ok ≠ c) (n3 : c ≠ g)  :
    Calls Try.prog 15 #[.bool r, .slice (some ⟨g, 0, none⟩) 1 1, .pointer (some ⟨ok, 0, none⟩)] w (TakeEnd ((w.setCell ⟨ok, 0, none⟩ (.bool (b && r))).setCell ⟨c, f, none⟩ (.int .i64 0))) := by
  have k30 : (w.setCell ⟨ok, 0, none⟩ (.bool (b && r))).cell? ⟨g, 0, none⟩ = some (.pointer (some ⟨c, f, none⟩)) := (World.cell?_setCell_other _ _ _ _ (fun e => n1 (by injection e))).trans h30
  have k40 : (w.setCell ⟨ok, 0, none⟩ (.bool (b && r))).cell? ⟨c, f, none⟩ = some v0 := (World.cell?_setCell_other _ _ _ _ (fun e => n2 (by injection e))).trans h40
  have k50 : (w.setCell ⟨ok, 0, none⟩ (.bool (b && r))).frozen? ⟨c, f, none⟩ = false := by simpa using h50
  clear h30 h40 h50
  generalize hW2 : ((w.setCell ⟨ok, 0, none⟩ (.bool (b && r))).setCell ⟨c, f, none⟩ (.int .i64 0)) = wE
  have HE := hide hW2
  clear hW2
  generalize hW1 : (w.setCell ⟨ok, 0, none⟩ (.bool (b && r))) = wO at *
  have HO := hide hW1
  clear hW1
  go_enter Try.func15, Try.ntmps15
  have HK := hide (show True from trivial)
  rcases two b with rfl | rfl <;> rcases two r with rfl | rfl
  all_goals
    go_wp2
    have hO := HO.out
    simp only [Bool.and_true, Bool.and_false, Bool.and_self] at hO
    rw [hO]
    clear hO h1 h2
    go_loopw [13] (fun i wr => (i = .int .i64 0 ∧ wr = wO) ∨ (i = .int .i64 1 ∧ wr = wE)) (fun i _ => 1 - (intOf i).toNat)
    case atStart => exact Or.inl ⟨rfl, rfl⟩
    case round =>
      rcases hrel with ⟨rfl, rfl⟩ | ⟨rfl, rfl⟩
      · go_wp2
        go_roundw
        case rel => exact Or.inr ⟨rfl, HE.out⟩
        case measure => simp [intOf]
      · go_wp2
        go_end0
        exact ⟨rfl, rfl⟩
theorem take2 (b r : Bool) (g ok c f1 f2 : Nat) (v0 v1 : Value) (w : World) (h1 : w.cell? ⟨ok, 0, none⟩ = some (.bool b)) (h2 : w.frozen? ⟨ok, 0, none⟩ = false) (h30 : w.cell? ⟨g, 0, none⟩ = some (.pointer (some ⟨c, f1, none⟩))) (h40 : w.cell? ⟨c, f1, none⟩ = some v0) (h50 : w.frozen? ⟨c, f1, none⟩ = false) (h31 : w.cell? ⟨g, 1, none⟩ = some (.pointer (some ⟨c, f2, none⟩))) (h41 : w.cell? ⟨c, f2, none⟩ = some v1) (h51 : w.frozen? ⟨c, f2, none⟩ = false) (n1 : ok ≠ g) (n2 : ok ≠ c) (n3 : c ≠ g) (n4 : f1 ≠ f2) :
    Calls Try.prog 15 #[.bool r, .slice (some ⟨g, 0, none⟩) 2 2, .pointer (some ⟨ok, 0, none⟩)] w (TakeEnd (((w.setCell ⟨ok, 0, none⟩ (.bool (b && r))).setCell ⟨c, f1, none⟩ (.int .i64 0)).setCell ⟨c, f2, none⟩ (.int .i64 0))) := by
  have k30 : (w.setCell ⟨ok, 0, none⟩ (.bool (b && r))).cell? ⟨g, 0, none⟩ = some (.pointer (some ⟨c, f1, none⟩)) := (World.cell?_setCell_other _ _ _ _ (fun e => n1 (by injection e))).trans h30
  have k40 : (w.setCell ⟨ok, 0, none⟩ (.bool (b && r))).cell? ⟨c, f1, none⟩ = some v0 := (World.cell?_setCell_other _ _ _ _ (fun e => n2 (by injection e))).trans h40
  have k50 : (w.setCell ⟨ok, 0, none⟩ (.bool (b && r))).frozen? ⟨c, f1, none⟩ = false := by simpa using h50
  have k31 : (w.setCell ⟨ok, 0, none⟩ (.bool (b && r))).cell? ⟨g, 1, none⟩ = some (.pointer (some ⟨c, f2, none⟩)) := (World.cell?_setCell_other _ _ _ _ (fun e => n1 (by injection e))).trans h31
  have k41 : (w.setCell ⟨ok, 0, none⟩ (.bool (b && r))).cell? ⟨c, f2, none⟩ = some v1 := (World.cell?_setCell_other _ _ _ _ (fun e => n2 (by injection e))).trans h41
  have k51 : (w.setCell ⟨ok, 0, none⟩ (.bool (b && r))).frozen? ⟨c, f2, none⟩ = false := by simpa using h51
  have m31 : ((w.setCell ⟨ok, 0, none⟩ (.bool (b && r))).setCell ⟨c, f1, none⟩ (.int .i64 0)).cell? ⟨g, 1, none⟩ = some (.pointer (some ⟨c, f2, none⟩)) := (World.cell?_setCell_other _ _ _ _ (fun e => n3 (by injection e))).trans k31
  have m41 : ((w.setCell ⟨ok, 0, none⟩ (.bool (b && r))).setCell ⟨c, f1, none⟩ (.int .i64 0)).cell? ⟨c, f2, none⟩ = some v1 := (World.cell?_setCell_other _ _ _ _ (fun e => n4 (by injection e))).trans k41
  have m51 : ((w.setCell ⟨ok, 0, none⟩ (.bool (b && r))).setCell ⟨c, f1, none⟩ (.int .i64 0)).frozen? ⟨c, f2, none⟩ = false := by simpa using h51
  clear h30 h40 h50
  clear h31 h41 h51
  clear k31 k41 k51
  generalize hW2 : (((w.setCell ⟨ok, 0, none⟩ (.bool (b && r))).setCell ⟨c, f1, none⟩ (.int .i64 0)).setCell ⟨c, f2, none⟩ (.int .i64 0)) = wE
  have HE := hide hW2
  clear hW2
  generalize hWm : ((w.setCell ⟨ok, 0, none⟩ (.bool (b && r))).setCell ⟨c, f1, none⟩ (.int .i64 0)) = wM at *
  have HM := hide hWm
  clear hWm
  generalize hW1 : (w.setCell ⟨ok, 0, none⟩ (.bool (b && r))) = wO at *
  have HO := hide hW1
  clear hW1
  go_enter Try.func15, Try.ntmps15
  have HK := hide (show True from trivial)
  rcases two b with rfl | rfl <;> rcases two r with rfl | rfl
  all_goals
    go_wp2
    have hO := HO.out
    simp only [Bool.and_true, Bool.and_false, Bool.and_self] at hO
    rw [hO]
    clear hO h1 h2
    go_loopw [13] (fun i wr => (i = .int .i64 0 ∧ wr = wO) ∨ (i = .int .i64 1 ∧ wr = wM) ∨ (i = .int .i64 2 ∧ wr = wE)) (fun i _ => 2 - (intOf i).toNat)
    case atStart => exact Or.inl ⟨rfl, rfl⟩
    case round =>
      rcases hrel with ⟨rfl, rfl⟩ | ⟨rfl, rfl⟩ | ⟨rfl, rfl⟩
      · go_wp2
        go_roundw
        case rel => exact Or.inr (Or.inl ⟨rfl, HM.out⟩)
        case measure => simp [intOf]
      · go_wp2
        go_roundw
        case rel => exact Or.inr (Or.inr ⟨rfl, HE.out⟩)
        case measure => simp [intOf]
      · go_wp2
        go_end0
        exact ⟨rfl, rfl⟩
end Go.Proofs.Ytmlddoajfgmoaaa
