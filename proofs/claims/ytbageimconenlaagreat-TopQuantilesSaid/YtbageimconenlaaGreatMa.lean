/- Structs as rows of cells: loads, results, zero values. | Arguments made of arbitrary numbers; the next draw: the contracts. -/
import Derived.Test.YtbageimconenlaaGreatKA
import Derived.Test.YtbageimconenlaaGreatProg
import Derived.Outline
import Derived.LoopTactic
import Derived.Deep.Cut
import Derived.Deep.RegionHeld3
import Derived.Deep.RegionWith
import Derived.RegionTactic
import Derived.ChangeAlike
import Derived.BigRegion
import Derived.Laws.Tables
import Derived.Deep.QuietTactic
import Derived.BigQuiet
namespace Go.Proofs.YtbageimconenlaaGreat
open Go.RowKit
set_option linter.unusedVariables false
theorem Blk.new_at {w : World} {g : Nat} (hg : w.heap.size = g) (t : TypeId) (cs : Array Value) : Blk (w.alloc (.cells cs t)) g t cs := by
  subst hg; exact Blk.new w t cs
theorem Bl.alloc' {a w : World} (h : Below a.heap.size a w) (o : Obj) : Below a.heap.size a (w.alloc o) := h.alloc h.size o
theorem Bl.call' {a w w' : World} (h : Below a.heap.size a w) (hb : Below w.heap.size w w') : Below a.heap.size a w' := h.trans (hb.mono h.size)
theorem Bl.set' {a w : World} (h : Below a.heap.size a w) {p : Addr} (hp : a.heap.size ≤ p.block) (u : Value) : Below a.heap.size a (w.setCell p u) := h.setCell hp u
theorem Blk.row {w : World} {g : Nat} {t : TypeId} {cs : Array Value} (h : Blk w g t cs) (cs' : Array Value) : Blk (w.setRow g cs') g t cs' := setRow_heap w g cs cs' t (0, 0) h
theorem below_row {a w : World} {g : Nat} {B : Nat} (h : Below B a w) (hg : B ≤ g) (cs : Array Value) : Below B a (w.setRow g cs) :=
  h.trans ⟨rfl, rfl, rfl, by simp [World.setRow], fun k hk => setRow_other w g k cs (by omega)⟩
theorem Blk.row_far {w : World} {g g' : Nat} {t : TypeId} {cs : Array Value} (h : Blk w g t cs) (hne : g ≠ g') (cs' : Array Value) : Blk (w.setRow g' cs') g t cs := (setRow_other w g' g cs' hne).trans h
theorem size25 : (Tryz.prog.info? 25).map (·.size) = some 8 := by kernel_rfl
theorem load25 {w : World} {g : Nat} {t : TypeId} {u0 u1 u2 u3 u4 u5 u6 u7 : Value} (h : Blk w g t #[u0, u1, u2, u3, u4, u5, u6, u7]) : (loadVar 25 ⟨g, 0, none⟩).run Tryz.prog w = .ok (.agg #[u0, u1, u2, u3, u4, u5, u6, u7]) w :=
  run_loadVar_row w g t 25 _ (0, 0) _ h Tryz.underlying25 rfl size25
theorem wp_load25 {o : Oper} {a : Act} {w : World} {K : Act → World → Prop} {Q : Exit → Act → World → Prop} (x : Operand) (ho : o.op = .load 25 x) (g : Nat) (t : TypeId) {u0 u1 u2 u3 u4 u5 u6 u7 : Value} (hx : a.eval x = .pointer (some ⟨g, 0, none⟩)) (hB : Blk w g t #[u0, u1, u2, u3, u4, u5, u6, u7]) (h : K (a.put o.dst (.agg #[u0, u1, u2, u3, u4, u5, u6, u7])) w) : o.wp Tryz.prog a w K Q := by
  unfold Oper.wp execOp
  simp only [ho, hx, Instr.loadAt, Instr.sureAddr, Sem.run_bind, Sem.run_pure, Result.andThen_ok, load25 hB]
  exact h
theorem wpList_load25 {ops : Array Oper} {rest : List Oper} {o : Oper} {a : Act} {w : World} {Q : Exit → Act → World → Prop} (hg : o.guard = none) (x : Operand) (ho : o.op = .load 25 x) (g : Nat) (t : TypeId) {u0 u1 u2 u3 u4 u5 u6 u7 : Value} (hx : a.eval x = .pointer (some ⟨g, 0, none⟩)) (hB : Blk w g t #[u0, u1, u2, u3, u4, u5, u6, u7]) (h : wpList Tryz.prog ops Q rest (a.put o.dst (.agg #[u0, u1, u2, u3, u4, u5, u6, u7])) w) : wpList Tryz.prog ops Q (o :: rest) a w :=
  wpList_plain hg fun _ hK => wp_load25 x ho g t hx hB (hK _ _ h)
end Go.Proofs.YtbageimconenlaaGreat
namespace Go.Proofs.YtbageimconenlaaGreat
open Go.RowKit
set_option linter.unusedVariables false
theorem emod_of {a n : Int} (hn : 1 ≤ n) : a % n = if a.tmod n < 0 then a.tmod n + n else a.tmod n := by
  rw [Int.tmod_eq_emod (a := a) (b := n)]
  have h1 := Int.emod_lt_of_pos a (b := n) (by omega)
  have h0 := Int.emod_nonneg a (b := n) (by omega)
  by_cases h : 0 ≤ a ∨ n ∣ a
  · simp only [h, if_true]
    rw [if_neg (by omega)]; omega
  · simp only [h, if_false]
    rw [if_pos (by omega)]; omega
theorem tmod_bd (a b : Int) (hb : 1 ≤ b) : a.tmod b < b ∧ - b < a.tmod b := ⟨Int.tmod_lt_of_pos a (by omega), Int.lt_tmod_of_pos a (by omega)⟩
set_option maxRecDepth 100000 in
theorem made_mod (a n : Int) (hn : 1 ≤ n) (hn2 : n ≤ 9223372036854775807) (w : World) :
    Calls Tryz.prog 6 #[.int .i64 a, .int .i64 n] w fun e w' => e = .returned (.int .i64 (a % n)) ∧ w = w' := by
  have hb := tmod_bd a n hn
  have he := emod_of (a := a) hn
  have HE := hide he
  have hne : n ≠ 0 := by omega
  clear he hn
  rcases two (decide (a.tmod n < 0)) with h4 | h4
  · have h5 : a.tmod n < 0 := by simpa using h4
    go_enter Tryz.func6, Tryz.ntmps6
    go_wp2
    go_ret
    exact ⟨ret_int (by rw [HE.out, if_pos h5]), rfl⟩
  · have h5 : ¬ a.tmod n < 0 := by simpa using h4
    go_enter Tryz.func6, Tryz.ntmps6
    go_wp2
    go_ret
    exact ⟨ret_int (by rw [HE.out, if_neg (by omega)]), rfl⟩
structure Keep (tb g : Nat) (w w' : World) : Prop where
  os : w'.os = w.os
  tape : w'.tape = w.tape
  output : w'.output = w.output
  size : w.heap.size ≤ w'.heap.size
  block : ∀ k, k < w.heap.size → k ≠ tb → k ≠ g → w'.heap[k]? = w.heap[k]?
section
variable {tb g h : Nat} {a b c w w' : World}
theorem Keep.refl (tb g : Nat) (w : World) : Keep tb g w w := ⟨rfl, rfl, rfl, Nat.le_refl _, fun _ _ _ _ => rfl⟩
theorem Keep.trans (x : Keep tb g a b) (y : Keep tb g b c) : Keep tb g a c :=
  ⟨y.os.trans x.os, y.tape.trans x.tape, y.output.trans x.output, Nat.le_trans x.size y.size, fun k hk h1 h2 => (y.block k (Nat.lt_of_lt_of_le hk x.size) h1 h2).trans (x.block k hk h1 h2)⟩
theorem Keep.own (x : Keep tb g a b) (y : Keep tb h b c) (hh : a.heap.size ≤ h) : Keep tb g a c :=
  ⟨y.os.trans x.os, y.tape.trans x.tape, y.output.trans x.output, Nat.le_trans x.size y.size, fun k hk h1 h2 => (y.block k (Nat.lt_of_lt_of_le hk x.size) h1 (by omega)).trans (x.block k hk h1 h2)⟩
theorem Keep.alloc (x : Keep tb g a b) (o : Obj) : Keep tb g a (b.alloc o) :=
  ⟨x.os, x.tape, x.output, Nat.le_trans x.size (by simp), fun k hk h1 h2 => (Below.heap_alloc b o k (Nat.lt_of_lt_of_le hk x.size)).trans (x.block k hk h1 h2)⟩
theorem Keep.drew (x : Keep tb g a b) : Keep tb g a b.drew := ⟨x.os, x.tape, x.output, x.size, x.block⟩
theorem Keep.below {B : Nat} (x : Keep tb g a b) {w : World} (y : Below B w a) (h1 : B ≤ tb) (h2 : B ≤ g) (h3 : B ≤ a.heap.size) : Below B w b :=
  y.trans ⟨x.os, x.tape, x.output, x.size, fun k hk => x.block k (by omega) (by omega) (by omega)⟩
theorem Keep.blk {t : TypeId} {cs : Array Value} (x : Keep tb g a b) {q : Nat} (y : Blk a q t cs) (h1 : q ≠ tb) (h2 : q ≠ g) : Blk b q t cs := (x.block q y.lt h1 h2).trans y
theorem Keep.sl {B n : Nat} {A : Option Addr} {xs : List Value} (x : Keep tb g a b) (y : Sl a B A n xs) (h1 : B ≤ tb) (h2 : B ≤ g) (h3 : B ≤ a.heap.size) : Sl b B A n xs := y.below ⟨x.os, x.tape, x.output, x.size, fun k hk => x.block k (by omega) (by omega) (by omega)⟩
theorem Keep.grown {row : Option Nat} (x : Keep tb g a b) (y : b.grownBy c row) (hr : ∀ k, row = some k → a.heap.size ≤ k) : Keep tb g a c :=
  ⟨y.os.trans x.os, y.tape.trans x.tape, y.output.trans x.output, Nat.le_trans x.size y.size, fun k hk h1 h2 => (y.block k (Nat.lt_of_lt_of_le hk x.size) (fun e => by have := hr k e.symm; omega)).trans (x.block k hk h1 h2)⟩
end
def RetI (v : Int) (w : World) (e : Ending) (w' : World) : Prop := e = .returned (.int .i64 v) ∧ w = w'
theorem made_mod' (a n : Int) (hn : 1 ≤ n) (hn2 : n ≤ 9223372036854775807) (w : World) : Calls Tryz.prog 6 #[.int .i64 a, .int .i64 n] w (RetI (a % n) w) := made_mod a n hn hn2 w
theorem made_int (a n : Int) (hn : 1 ≤ n) (hn2 : n ≤ 9223372036854775807) (w : World) : Calls Tryz.prog 8 #[.int .i64 a, .int .i64 n] w (RetI (a % n) w) := by
  have C := hide (made_mod' a n hn hn2 w)
  have h0 := Int.emod_nonneg a (b := n) (by omega)
  have h1 := Int.emod_lt_of_pos a (b := n) (by omega)
  unfold RetI at C
  generalize a % n = v at *
  clear hn
  go_enter Tryz.func8, Tryz.ntmps8
  go_wp2_with (go_at_call 6; refine C.out.mono ?_; rintro e w' ⟨rfl, rfl⟩)
  go_ret
  exact ⟨rfl, rfl⟩
def valM (a : Int) : Int := if a % 8 = 0 then (a.tdiv 8) % 8193 - 4096 else if a % 8 = 1 then 4096 * (2 * ((a.tdiv 8) % 2) - 1) else (a.tdiv 8) % 13 - 6
theorem valM_bd (a : Int) : -4096 ≤ valM a ∧ valM a ≤ 4096 := by
  unfold valM
  split
  · omega
  · split
    · omega
    · omega
set_option maxRecDepth 100000 in
theorem made_value (a : Int) (ha : -9223372036854775808 ≤ a ∧ a ≤ 9223372036854775807) (w : World) : Calls Tryz.prog 10 #[.int .i64 a] w (RetI (valM a) w) := by
  have C0 := hide (fun (x : Int) => made_mod' x 8 (by omega) (by omega) w)
  have C1 := hide (fun (x : Int) => made_mod' x 8193 (by omega) (by omega) w)
  have C2 := hide (fun (x : Int) => made_mod' x 2 (by omega) (by omega) w)
  have C3 := hide (fun (x : Int) => made_mod' x 13 (by omega) (by omega) w)
  have hq1 : -9223372036854775808 ≤ a.tdiv 8 ∧ a.tdiv 8 ≤ 9223372036854775807 := by
    have h8 := Int.tdiv_eq_ediv (a := a) (b := 8)
    rw [show Int.sign 8 = 1 from rfl] at h8
    split at h8 <;> omega
  have HV := hide (show valM a = if a % 8 = 0 then (a.tdiv 8) % 8193 - 4096 else if a % 8 = 1 then 4096 * (2 * ((a.tdiv 8) % 2) - 1) else (a.tdiv 8) % 13 - 6 from rfl)
  unfold RetI at C0 C1 C2 C3
  by_cases h0 : a % 8 = 0
  · have K0 := hide (C0.out a)
    rw [h0] at K0
    have K1 := hide (C1.out (a.tdiv 8))
    have hb : 0 ≤ a.tdiv 8 % 8193 ∧ a.tdiv 8 % 8193 ≤ 8192 := by omega
    have HE := hide (show valM a = a.tdiv 8 % 8193 - 4096 by rw [HV.out, if_pos h0])
    generalize a.tdiv 8 % 8193 = r at *
    clear h0
    go_enter Tryz.func10, Tryz.ntmps10
    go_wp2_with (first | (go_at_call 6; with_reducible refine K0.out.mono ?_; rintro e w' ⟨rfl, rfl⟩) | (go_at_call 6; with_reducible refine K1.out.mono ?_; rintro e w' ⟨rfl, rfl⟩))
    go_ret
    exact ⟨ret_int HE.out.symm, rfl⟩
  · by_cases h1 : a % 8 = 1
    · have K0 := hide (C0.out a)
      rw [h1] at K0
      have K1 := hide (C2.out (a.tdiv 8))
      have hb : 0 ≤ a.tdiv 8 % 2 ∧ a.tdiv 8 % 2 ≤ 1 := by omega
      have HE := hide (show valM a = 4096 * (2 * (a.tdiv 8 % 2) - 1) by rw [HV.out, if_neg h0, if_pos h1])
      generalize a.tdiv 8 % 2 = r at *
      clear h0 h1
      go_enter Tryz.func10, Tryz.ntmps10
      go_wp2_with (first | (go_at_call 6; with_reducible refine K0.out.mono ?_; rintro e w' ⟨rfl, rfl⟩) | (go_at_call 6; with_reducible refine K1.out.mono ?_; rintro e w' ⟨rfl, rfl⟩))
      go_ret
      exact ⟨ret_int HE.out.symm, rfl⟩
    · have K0 := hide (C0.out a)
      have K1 := hide (C3.out (a.tdiv 8))
      have hb : 0 ≤ a.tdiv 8 % 13 ∧ a.tdiv 8 % 13 ≤ 12 := by omega
      have e0 : (a % 8 == 0) = false := by simpa using h0
      have e1 : (a % 8 == 1) = false := by simpa using h1
      have HE := hide (show valM a = a.tdiv 8 % 13 - 6 by rw [HV.out, if_neg h0, if_neg h1])
      generalize a.tdiv 8 % 13 = r at *
      generalize a % 8 = s at *
      clear h0 h1
      go_enter Tryz.func10, Tryz.ntmps10
      go_wp2_with (first | (go_at_call 6; with_reducible refine K0.out.mono ?_; rintro e w' ⟨rfl, rfl⟩) | (go_at_call 6; with_reducible refine K1.out.mono ?_; rintro e w' ⟨rfl, rfl⟩))
      go_ret
      exact ⟨ret_int HE.out.symm, rfl⟩
theorem Keep.drewN {tb g : Nat} {a b : World} (x : Keep tb g a b) (k : Nat) : Keep tb g a (b.drewN k) := ⟨x.os, x.tape, x.output, x.size, x.block⟩
end Go.Proofs.YtbageimconenlaaGreat
