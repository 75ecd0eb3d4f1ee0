/- The example, and the walk of the law on empty buffers. -/
import Derived.Test.YtjbfefkbpnickaaPushF
namespace Go.Proofs.Ytjbfefkbpnickaa
open Go.RowKit
set_option linter.unusedVariables false
def AwakeEnd (w : World) (e : Ending) (w' : World) : Prop := e = .returned (.bool true) ∧ Below w.heap.size w w'
theorem rg_nil (C : Nat) (h : 1 ≤ C ∧ C ≤ 65536) : Rg C 0 (([] : List (Int × Int)).length : Nat) (cellsL C 0 []) C 0 [] := ⟨rfl, rfl, rfl, h.1, h.2, by omega, by simp, rfl⟩
theorem aw_new (w : World) : Calls Try.prog 10 #[.int .i64 2] w (fun e w' => ∃ A c, e = .returned (.tuple #[.agg #[.int .i64 2, .int .i64 0, .int .i64 0, .slice A 2 c], .int .i64 0]) ∧ w'.ownsRow w.heap.size 33 2 (.slice A 2 c) 2 (flat (cellsL 2 0 [])) ∧ Below w.heap.size w w') := new_ok 2 w (by omega)
theorem aw_back (A : Option Addr) (c B : Nat) (w : World) (h : Sl2 w B A 2 (cellsL 2 0 [])) (hB : B ≤ w.heap.size) :
    Calls Try.prog 15 #[.agg #[.int .i64 2, .int .i64 0, .int .i64 0, .slice A 2 c], .agg #[.int .i64 1, .int .i64 0]] w (fun e w' => ∃ A c, e = .returned (.tuple #[.agg #[.int .i64 2, .int .i64 0, .int .i64 1, .slice A 2 c], .int .i64 0]) ∧ w'.ownsRow w.heap.size 33 2 (.slice A 2 c) 2 (flat (cellsL 2 0 [(1, 0)])) ∧ Below w.heap.size w w') :=
  pushback_ok 2 0 [] A c B (1, 0) w h hB (rg_nil 2 (by omega)) (by simp)
theorem aw_front (A : Option Addr) (c B : Nat) (w : World) (h : Sl2 w B A 2 (cellsL 2 0 [(1, 0)])) (hB : B ≤ w.heap.size) :
    Calls Try.prog 16 #[.agg #[.int .i64 2, .int .i64 0, .int .i64 1, .slice A 2 c], .agg #[.int .i64 2, .int .i64 0]] w (fun e w' => ∃ A c, e = .returned (.tuple #[.agg #[.int .i64 2, .int .i64 1, .int .i64 2, .slice A 2 c], .int .i64 0]) ∧ w'.ownsRow w.heap.size 33 2 (.slice A 2 c) 2 (flat (cellsL 2 1 [(2, 0), (1, 0)])) ∧ Below w.heap.size w w') :=
  pushfront_ok 2 0 [(1, 0)] A c B (2, 0) w h hB ⟨rfl, rfl, rfl, by omega, by omega, by omega, by simp, rfl⟩ (by simp)
set_option maxRecDepth 100000 in
theorem awake_any (w : World) : Calls Try.prog 12 #[] w (AwakeEnd w) := by
  have C10 := hide (aw_new w)
  go_enter Try.func12, Try.ntmps12
  go_wp2_with (fail)
  refine C10.out.mono ?_
  rintro e w1 ⟨A1, c1, rfl, hown1, hb1⟩
  have hs1 := Sl2.of_own hown1
  have C15 := hide (fun w0 (hb : Below w1.heap.size w1 w0) => aw_back A1 c1 _ w0 (hs1.below hb) hb.size)
  have HB1 := hide hb1
  clear hown1 hs1 hb1
  go_wp2_with (fail)
  have hb2 : Below w1.heap.size w1 (w1.alloc (.cells #[.int .i64 2, .int .i64 0, .int .i64 0, .slice A1 2 c1] 24)) := (Below.refl _ _).alloc (Nat.le_refl _) _
  refine (C15.out _ hb2).mono ?_
  rintro e w2 ⟨A2, c2, rfl, hown2, hb3⟩
  have k2 := (Blk.new w1 24 #[.int .i64 2, .int .i64 0, .int .i64 0, .slice A1 2 c1]).below hb3 (by simp)
  have hs2 := Sl2.of_own hown2
  have hb02 := HB1.out.trans ((hb2.trans (hb3.mono hb2.size)).mono HB1.out.size)
  have C16 := hide (fun w0 (ho : w0.ownsRow (w1.heap.size + 1) 33 2 (.slice A2 2 c2) 2 (flat (cellsL 2 0 [(1, 0)]))) => aw_front A2 c2 _ w0 (Sl2.of_own ho) (Nat.le_refl _))
  have HK2 := hide k2
  have HB2 := hide hb02
  have HO2 := hide (show w2.ownsRow (w1.heap.size + 1) 33 2 (.slice A2 2 c2) 2 (flat (cellsL 2 0 [(1, 0)])) from own_more hown2 (by simp))
  obtain ⟨g0, g1, g2, g3, f0, f1, f2, f3⟩ := k2.four
  have hsz := HB2.out.size
  have hlt := HK2.out.lt
  clear hown2 hs2 hb2 hb3 k2 hb02
  go_wp2_with (fail)
  refine (C16.out _ (own_far4 HO2.out (by omega) _ _ _ _)).mono ?_
  rintro e w3 ⟨A3, c3, rfl, hown3, hb4⟩
  have k3 := (HK2.out.store4 (.int .i64 2) (.int .i64 0) (.int .i64 1) (.slice A2 2 c2)).below hb4 (by simpa using hlt)
  have hb03 : Below w.heap.size w w3 := (below_far4 HB2.out HB1.out.size _ _ _ _).trans (hb4.mono (by simpa using hsz))
  have HB3 := hide hb03
  have hs1 := HB1.out.size
  clear g0 g1 g2 g3 f0 f1 f2 f3 hown3 hb4 hb03
  obtain ⟨g0, g1, g2, g3, f0, f1, f2, f3⟩ := k3.four
  clear k3
  go_wp2
  go_ret
  exact ⟨rfl, below_far4 HB3.out hs1 _ _ _ _⟩
end Go.Proofs.Ytjbfefkbpnickaa
