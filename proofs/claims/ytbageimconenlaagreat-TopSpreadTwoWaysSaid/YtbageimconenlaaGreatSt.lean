/- Structs as rows of cells: loads, results, zero values. -/
import Derived.Test.YtbageimconenlaaGreatKA
import Derived.Test.YtbageimconenlaaGreatProg
import Derived.Outline
import Derived.LoopTactic
import Derived.Deep.Cut
import Derived.Deep.RegionHeld3
import Derived.Deep.RegionWith
import Derived.RegionTactic
import Derived.ChangeAlike
import Derived.BigRegion
import Derived.Laws.Tables
import Derived.Deep.QuietTactic
import Derived.BigQuiet
namespace Go.Proofs.YtbageimconenlaaGreat
open Go.RowKit
set_option linter.unusedVariables false
theorem Blk.new_at {w : World} {g : Nat} (hg : w.heap.size = g) (t : TypeId) (cs : Array Value) : Blk (w.alloc (.cells cs t)) g t cs := by
  subst hg; exact Blk.new w t cs
theorem Bl.alloc' {a w : World} (h : Below a.heap.size a w) (o : Obj) : Below a.heap.size a (w.alloc o) := h.alloc h.size o
theorem Bl.call' {a w w' : World} (h : Below a.heap.size a w) (hb : Below w.heap.size w w') : Below a.heap.size a w' := h.trans (hb.mono h.size)
theorem Bl.set' {a w : World} (h : Below a.heap.size a w) {p : Addr} (hp : a.heap.size ≤ p.block) (u : Value) : Below a.heap.size a (w.setCell p u) := h.setCell hp u
theorem Blk.row {w : World} {g : Nat} {t : TypeId} {cs : Array Value} (h : Blk w g t cs) (cs' : Array Value) : Blk (w.setRow g cs') g t cs' := setRow_heap w g cs cs' t (0, 0) h
theorem below_row {a w : World} {g : Nat} {B : Nat} (h : Below B a w) (hg : B ≤ g) (cs : Array Value) : Below B a (w.setRow g cs) :=
  h.trans ⟨rfl, rfl, rfl, by simp [World.setRow], fun k hk => setRow_other w g k cs (by omega)⟩
theorem Blk.row_far {w : World} {g g' : Nat} {t : TypeId} {cs : Array Value} (h : Blk w g t cs) (hne : g ≠ g') (cs' : Array Value) : Blk (w.setRow g' cs') g t cs := (setRow_other w g' g cs' hne).trans h
theorem size25 : (Tryz.prog.info? 25).map (·.size) = some 8 := by kernel_rfl
theorem load25 {w : World} {g : Nat} {t : TypeId} {u0 u1 u2 u3 u4 u5 u6 u7 : Value} (h : Blk w g t #[u0, u1, u2, u3, u4, u5, u6, u7]) : (loadVar 25 ⟨g, 0, none⟩).run Tryz.prog w = .ok (.agg #[u0, u1, u2, u3, u4, u5, u6, u7]) w :=
  run_loadVar_row w g t 25 _ (0, 0) _ h Tryz.underlying25 rfl size25
theorem res25a {fn : Func} {p : Tmp} (h : fn.results = #[.cell p 25]) (tmps : Array Value) {w : World} {g : Nat} {t : TypeId} {u0 u1 u2 u3 u4 u5 u6 u7 : Value} (hp : tmps.getD p undef = .pointer (some ⟨g, 0, none⟩)) (hg : Blk w g t #[u0, u1, u2, u3, u4, u5, u6, u7]) :
    (results fn tmps).run Tryz.prog w = .ok (.agg #[u0, u1, u2, u3, u4, u5, u6, u7]) w := by
  have hp' : tmps[p]?.getD undef = .pointer (some ⟨g, 0, none⟩) := by simpa using hp
  simp [results, h, hp', asAddr, load25 hg]
theorem res25 {fn : Func} {p q : Tmp} (h : fn.results = #[.cell p 25, .tmp q]) (tmps : Array Value) {w : World} {g : Nat} {t : TypeId} {u0 u1 u2 u3 u4 u5 u6 u7 : Value} (hp : tmps.getD p undef = .pointer (some ⟨g, 0, none⟩)) (hg : Blk w g t #[u0, u1, u2, u3, u4, u5, u6, u7]) :
    (results fn tmps).run Tryz.prog w = .ok (.tuple #[.agg #[u0, u1, u2, u3, u4, u5, u6, u7], tmps.getD q undef]) w := by
  have hp' : tmps[p]?.getD undef = .pointer (some ⟨g, 0, none⟩) := by simpa using hp
  simp [results, h, hp', asAddr, load25 hg]
theorem res25c {fn : Func} {p q r : Tmp} (h : fn.results = #[.cell p 25, .tmp q, .tmp r]) (tmps : Array Value) {w : World} {g : Nat} {t : TypeId} {u0 u1 u2 u3 u4 u5 u6 u7 : Value} (hp : tmps.getD p undef = .pointer (some ⟨g, 0, none⟩)) (hg : Blk w g t #[u0, u1, u2, u3, u4, u5, u6, u7]) :
    (results fn tmps).run Tryz.prog w = .ok (.tuple #[.agg #[u0, u1, u2, u3, u4, u5, u6, u7], tmps.getD q undef, tmps.getD r undef]) w := by
  have hp' : tmps[p]?.getD undef = .pointer (some ⟨g, 0, none⟩) := by simpa using hp
  simp [results, h, hp', asAddr, load25 hg]
theorem wp_load25 {o : Oper} {a : Act} {w : World} {K : Act → World → Prop} {Q : Exit → Act → World → Prop} (x : Operand) (ho : o.op = .load 25 x) (g : Nat) (t : TypeId) {u0 u1 u2 u3 u4 u5 u6 u7 : Value} (hx : a.eval x = .pointer (some ⟨g, 0, none⟩)) (hB : Blk w g t #[u0, u1, u2, u3, u4, u5, u6, u7]) (h : K (a.put o.dst (.agg #[u0, u1, u2, u3, u4, u5, u6, u7])) w) : o.wp Tryz.prog a w K Q := by
  unfold Oper.wp execOp
  simp only [ho, hx, Instr.loadAt, Instr.sureAddr, Sem.run_bind, Sem.run_pure, Result.andThen_ok, load25 hB]
  exact h
theorem wpList_load25 {ops : Array Oper} {rest : List Oper} {o : Oper} {a : Act} {w : World} {Q : Exit → Act → World → Prop} (hg : o.guard = none) (x : Operand) (ho : o.op = .load 25 x) (g : Nat) (t : TypeId) {u0 u1 u2 u3 u4 u5 u6 u7 : Value} (hx : a.eval x = .pointer (some ⟨g, 0, none⟩)) (hB : Blk w g t #[u0, u1, u2, u3, u4, u5, u6, u7]) (h : wpList Tryz.prog ops Q rest (a.put o.dst (.agg #[u0, u1, u2, u3, u4, u5, u6, u7])) w) : wpList Tryz.prog ops Q (o :: rest) a w :=
  wpList_plain hg fun _ hK => wp_load25 x ho g t hx hB (hK _ _ h)
theorem wpList_load25g {ops : Array Oper} {rest : List Oper} {o : Oper} {a : Act} {wm w : World} {Q : Exit → Act → World → Prop} (hg : Region.wanted o (yielded ops a.tmps) = true) (x : Operand) (ho : o.op = .load 25 x) (g : Nat) (t : TypeId) {u0 u1 u2 u3 u4 u5 u6 u7 : Value} (hx : a.eval x = .pointer (some ⟨g, 0, none⟩)) (hB : Blk wm g t #[u0, u1, u2, u3, u4, u5, u6, u7]) (hb : Below wm.heap.size wm w) (h : wpList Tryz.prog ops Q rest (a.put o.dst (.agg #[u0, u1, u2, u3, u4, u5, u6, u7])) w) : wpList Tryz.prog ops Q (o :: rest) a w :=
  wpList_step fun K hK => by rw [if_pos hg]; exact wp_load25 x ho g t hx (hB.below hb hB.lt) (hK _ _ h)
theorem built25 : Tryz.prog.built 25 [] = some #[.int .i64 0, .int .i64 0, .int .i64 0, .int .i64 0, .int .i64 0, .int .i64 0, .int .i64 0, .int .i64 0] := by kernel_rfl
set_option maxRecDepth 100000 in
theorem wpList_build25 {ops : Array Oper} {rest : List Oper} {o : Oper} {a : Act} {w : World} {Q : Exit → Act → World → Prop} (hg : o.guard = none) (ho : o.op = .build 25 #[]) (h : wpList Tryz.prog ops Q rest (a.put o.dst (.agg #[.int .i64 0, .int .i64 0, .int .i64 0, .int .i64 0, .int .i64 0, .int .i64 0, .int .i64 0, .int .i64 0])) w) : wpList Tryz.prog ops Q (o :: rest) a w := by
  have hb : Tryz.prog.built 25 ((#[] : Array (Nat × Operand)).map fun (i, x) => (i, a.eval x)).toList = some #[.int .i64 0, .int .i64 0, .int .i64 0, .int .i64 0, .int .i64 0, .int .i64 0, .int .i64 0, .int .i64 0] := by
    have e : ((#[] : Array (Nat × Operand)).map fun (i, x) => (i, a.eval x)).toList = [] := by simp
    rw [e]; exact built25
  exact wpList_build hg 25 #[] ho (by rw [hb]; rfl) (by rw [hb]; exact h)
theorem size48 : (Tryz.prog.info? 48).map (·.size) = some 1 := by kernel_rfl
theorem load48 {w : World} {g : Nat} {t : TypeId} {u0 : Value} (h : Blk w g t #[u0]) : (loadVar 48 ⟨g, 0, none⟩).run Tryz.prog w = .ok (.agg #[u0]) w :=
  run_loadVar_row w g t 48 _ (0, 0) _ h Tryz.underlying48 rfl size48
theorem res48a {fn : Func} {p : Tmp} (h : fn.results = #[.cell p 48]) (tmps : Array Value) {w : World} {g : Nat} {t : TypeId} {u0 : Value} (hp : tmps.getD p undef = .pointer (some ⟨g, 0, none⟩)) (hg : Blk w g t #[u0]) :
    (results fn tmps).run Tryz.prog w = .ok (.agg #[u0]) w := by
  have hp' : tmps[p]?.getD undef = .pointer (some ⟨g, 0, none⟩) := by simpa using hp
  simp [results, h, hp', asAddr, load48 hg]
theorem res48 {fn : Func} {p q : Tmp} (h : fn.results = #[.cell p 48, .tmp q]) (tmps : Array Value) {w : World} {g : Nat} {t : TypeId} {u0 : Value} (hp : tmps.getD p undef = .pointer (some ⟨g, 0, none⟩)) (hg : Blk w g t #[u0]) :
    (results fn tmps).run Tryz.prog w = .ok (.tuple #[.agg #[u0], tmps.getD q undef]) w := by
  have hp' : tmps[p]?.getD undef = .pointer (some ⟨g, 0, none⟩) := by simpa using hp
  simp [results, h, hp', asAddr, load48 hg]
theorem res48c {fn : Func} {p q r : Tmp} (h : fn.results = #[.cell p 48, .tmp q, .tmp r]) (tmps : Array Value) {w : World} {g : Nat} {t : TypeId} {u0 : Value} (hp : tmps.getD p undef = .pointer (some ⟨g, 0, none⟩)) (hg : Blk w g t #[u0]) :
    (results fn tmps).run Tryz.prog w = .ok (.tuple #[.agg #[u0], tmps.getD q undef, tmps.getD r undef]) w := by
  have hp' : tmps[p]?.getD undef = .pointer (some ⟨g, 0, none⟩) := by simpa using hp
  simp [results, h, hp', asAddr, load48 hg]
theorem wp_load48 {o : Oper} {a : Act} {w : World} {K : Act → World → Prop} {Q : Exit → Act → World → Prop} (x : Operand) (ho : o.op = .load 48 x) (g : Nat) (t : TypeId) {u0 : Value} (hx : a.eval x = .pointer (some ⟨g, 0, none⟩)) (hB : Blk w g t #[u0]) (h : K (a.put o.dst (.agg #[u0])) w) : o.wp Tryz.prog a w K Q := by
  unfold Oper.wp execOp
  simp only [ho, hx, Instr.loadAt, Instr.sureAddr, Sem.run_bind, Sem.run_pure, Result.andThen_ok, load48 hB]
  exact h
theorem wpList_load48 {ops : Array Oper} {rest : List Oper} {o : Oper} {a : Act} {w : World} {Q : Exit → Act → World → Prop} (hg : o.guard = none) (x : Operand) (ho : o.op = .load 48 x) (g : Nat) (t : TypeId) {u0 : Value} (hx : a.eval x = .pointer (some ⟨g, 0, none⟩)) (hB : Blk w g t #[u0]) (h : wpList Tryz.prog ops Q rest (a.put o.dst (.agg #[u0])) w) : wpList Tryz.prog ops Q (o :: rest) a w :=
  wpList_plain hg fun _ hK => wp_load48 x ho g t hx hB (hK _ _ h)
theorem wpList_load48g {ops : Array Oper} {rest : List Oper} {o : Oper} {a : Act} {wm w : World} {Q : Exit → Act → World → Prop} (hg : Region.wanted o (yielded ops a.tmps) = true) (x : Operand) (ho : o.op = .load 48 x) (g : Nat) (t : TypeId) {u0 : Value} (hx : a.eval x = .pointer (some ⟨g, 0, none⟩)) (hB : Blk wm g t #[u0]) (hb : Below wm.heap.size wm w) (h : wpList Tryz.prog ops Q rest (a.put o.dst (.agg #[u0])) w) : wpList Tryz.prog ops Q (o :: rest) a w :=
  wpList_step fun K hK => by rw [if_pos hg]; exact wp_load48 x ho g t hx (hB.below hb hB.lt) (hK _ _ h)
theorem built48 : Tryz.prog.built 48 [] = some #[.slice none 0 0] := by kernel_rfl
set_option maxRecDepth 100000 in
theorem wpList_build48 {ops : Array Oper} {rest : List Oper} {o : Oper} {a : Act} {w : World} {Q : Exit → Act → World → Prop} (hg : o.guard = none) (ho : o.op = .build 48 #[]) (h : wpList Tryz.prog ops Q rest (a.put o.dst (.agg #[.slice none 0 0])) w) : wpList Tryz.prog ops Q (o :: rest) a w := by
  have hb : Tryz.prog.built 48 ((#[] : Array (Nat × Operand)).map fun (i, x) => (i, a.eval x)).toList = some #[.slice none 0 0] := by
    have e : ((#[] : Array (Nat × Operand)).map fun (i, x) => (i, a.eval x)).toList = [] := by simp
    rw [e]; exact built48
  exact wpList_build hg 48 #[] ho (by rw [hb]; rfl) (by rw [hb]; exact h)
theorem size186 : (Tryz.prog.info? 186).map (·.size) = some 5 := by kernel_rfl
theorem load186 {w : World} {g : Nat} {t : TypeId} {u0 u1 u2 u3 u4 : Value} (h : Blk w g t #[u0, u1, u2, u3, u4]) : (loadVar 186 ⟨g, 0, none⟩).run Tryz.prog w = .ok (.agg #[u0, u1, u2, u3, u4]) w :=
  run_loadVar_row w g t 186 _ (0, 0) _ h Tryz.underlying186 rfl size186
theorem res186a {fn : Func} {p : Tmp} (h : fn.results = #[.cell p 186]) (tmps : Array Value) {w : World} {g : Nat} {t : TypeId} {u0 u1 u2 u3 u4 : Value} (hp : tmps.getD p undef = .pointer (some ⟨g, 0, none⟩)) (hg : Blk w g t #[u0, u1, u2, u3, u4]) :
    (results fn tmps).run Tryz.prog w = .ok (.agg #[u0, u1, u2, u3, u4]) w := by
  have hp' : tmps[p]?.getD undef = .pointer (some ⟨g, 0, none⟩) := by simpa using hp
  simp [results, h, hp', asAddr, load186 hg]
theorem res186 {fn : Func} {p q : Tmp} (h : fn.results = #[.cell p 186, .tmp q]) (tmps : Array Value) {w : World} {g : Nat} {t : TypeId} {u0 u1 u2 u3 u4 : Value} (hp : tmps.getD p undef = .pointer (some ⟨g, 0, none⟩)) (hg : Blk w g t #[u0, u1, u2, u3, u4]) :
    (results fn tmps).run Tryz.prog w = .ok (.tuple #[.agg #[u0, u1, u2, u3, u4], tmps.getD q undef]) w := by
  have hp' : tmps[p]?.getD undef = .pointer (some ⟨g, 0, none⟩) := by simpa using hp
  simp [results, h, hp', asAddr, load186 hg]
theorem res186c {fn : Func} {p q r : Tmp} (h : fn.results = #[.cell p 186, .tmp q, .tmp r]) (tmps : Array Value) {w : World} {g : Nat} {t : TypeId} {u0 u1 u2 u3 u4 : Value} (hp : tmps.getD p undef = .pointer (some ⟨g, 0, none⟩)) (hg : Blk w g t #[u0, u1, u2, u3, u4]) :
    (results fn tmps).run Tryz.prog w = .ok (.tuple #[.agg #[u0, u1, u2, u3, u4], tmps.getD q undef, tmps.getD r undef]) w := by
  have hp' : tmps[p]?.getD undef = .pointer (some ⟨g, 0, none⟩) := by simpa using hp
  simp [results, h, hp', asAddr, load186 hg]
theorem wp_load186 {o : Oper} {a : Act} {w : World} {K : Act → World → Prop} {Q : Exit → Act → World → Prop} (x : Operand) (ho : o.op = .load 186 x) (g : Nat) (t : TypeId) {u0 u1 u2 u3 u4 : Value} (hx : a.eval x = .pointer (some ⟨g, 0, none⟩)) (hB : Blk w g t #[u0, u1, u2, u3, u4]) (h : K (a.put o.dst (.agg #[u0, u1, u2, u3, u4])) w) : o.wp Tryz.prog a w K Q := by
  unfold Oper.wp execOp
  simp only [ho, hx, Instr.loadAt, Instr.sureAddr, Sem.run_bind, Sem.run_pure, Result.andThen_ok, load186 hB]
  exact h
theorem wpList_load186 {ops : Array Oper} {rest : List Oper} {o : Oper} {a : Act} {w : World} {Q : Exit → Act → World → Prop} (hg : o.guard = none) (x : Operand) (ho : o.op = .load 186 x) (g : Nat) (t : TypeId) {u0 u1 u2 u3 u4 : Value} (hx : a.eval x = .pointer (some ⟨g, 0, none⟩)) (hB : Blk w g t #[u0, u1, u2, u3, u4]) (h : wpList Tryz.prog ops Q rest (a.put o.dst (.agg #[u0, u1, u2, u3, u4])) w) : wpList Tryz.prog ops Q (o :: rest) a w :=
  wpList_plain hg fun _ hK => wp_load186 x ho g t hx hB (hK _ _ h)
theorem wpList_load186g {ops : Array Oper} {rest : List Oper} {o : Oper} {a : Act} {wm w : World} {Q : Exit → Act → World → Prop} (hg : Region.wanted o (yielded ops a.tmps) = true) (x : Operand) (ho : o.op = .load 186 x) (g : Nat) (t : TypeId) {u0 u1 u2 u3 u4 : Value} (hx : a.eval x = .pointer (some ⟨g, 0, none⟩)) (hB : Blk wm g t #[u0, u1, u2, u3, u4]) (hb : Below wm.heap.size wm w) (h : wpList Tryz.prog ops Q rest (a.put o.dst (.agg #[u0, u1, u2, u3, u4])) w) : wpList Tryz.prog ops Q (o :: rest) a w :=
  wpList_step fun K hK => by rw [if_pos hg]; exact wp_load186 x ho g t hx (hB.below hb hB.lt) (hK _ _ h)
theorem built186 : Tryz.prog.built 186 [] = some #[.int .i64 0, .int .i64 0, .int .i64 0, .int .i64 0, .slice none 0 0] := by kernel_rfl
set_option maxRecDepth 100000 in
theorem wpList_build186 {ops : Array Oper} {rest : List Oper} {o : Oper} {a : Act} {w : World} {Q : Exit → Act → World → Prop} (hg : o.guard = none) (ho : o.op = .build 186 #[]) (h : wpList Tryz.prog ops Q rest (a.put o.dst (.agg #[.int .i64 0, .int .i64 0, .int .i64 0, .int .i64 0, .slice none 0 0])) w) : wpList Tryz.prog ops Q (o :: rest) a w := by
  have hb : Tryz.prog.built 186 ((#[] : Array (Nat × Operand)).map fun (i, x) => (i, a.eval x)).toList = some #[.int .i64 0, .int .i64 0, .int .i64 0, .int .i64 0, .slice none 0 0] := by
    have e : ((#[] : Array (Nat × Operand)).map fun (i, x) => (i, a.eval x)).toList = [] := by simp
    rw [e]; exact built186
  exact wpList_build hg 186 #[] ho (by rw [hb]; rfl) (by rw [hb]; exact h)
theorem size285 : (Tryz.prog.info? 285).map (·.size) = some 2 := by kernel_rfl
theorem load285 {w : World} {g : Nat} {t : TypeId} {u0 u1 : Value} (h : Blk w g t #[u0, u1]) : (loadVar 285 ⟨g, 0, none⟩).run Tryz.prog w = .ok (.agg #[u0, u1]) w :=
  run_loadVar_row w g t 285 _ (0, 0) _ h Tryz.underlying285 rfl size285
theorem res285a {fn : Func} {p : Tmp} (h : fn.results = #[.cell p 285]) (tmps : Array Value) {w : World} {g : Nat} {t : TypeId} {u0 u1 : Value} (hp : tmps.getD p undef = .pointer (some ⟨g, 0, none⟩)) (hg : Blk w g t #[u0, u1]) :
    (results fn tmps).run Tryz.prog w = .ok (.agg #[u0, u1]) w := by
  have hp' : tmps[p]?.getD undef = .pointer (some ⟨g, 0, none⟩) := by simpa using hp
  simp [results, h, hp', asAddr, load285 hg]
theorem res285 {fn : Func} {p q : Tmp} (h : fn.results = #[.cell p 285, .tmp q]) (tmps : Array Value) {w : World} {g : Nat} {t : TypeId} {u0 u1 : Value} (hp : tmps.getD p undef = .pointer (some ⟨g, 0, none⟩)) (hg : Blk w g t #[u0, u1]) :
    (results fn tmps).run Tryz.prog w = .ok (.tuple #[.agg #[u0, u1], tmps.getD q undef]) w := by
  have hp' : tmps[p]?.getD undef = .pointer (some ⟨g, 0, none⟩) := by simpa using hp
  simp [results, h, hp', asAddr, load285 hg]
theorem res285c {fn : Func} {p q r : Tmp} (h : fn.results = #[.cell p 285, .tmp q, .tmp r]) (tmps : Array Value) {w : World} {g : Nat} {t : TypeId} {u0 u1 : Value} (hp : tmps.getD p undef = .pointer (some ⟨g, 0, none⟩)) (hg : Blk w g t #[u0, u1]) :
    (results fn tmps).run Tryz.prog w = .ok (.tuple #[.agg #[u0, u1], tmps.getD q undef, tmps.getD r undef]) w := by
  have hp' : tmps[p]?.getD undef = .pointer (some ⟨g, 0, none⟩) := by simpa using hp
  simp [results, h, hp', asAddr, load285 hg]
theorem wp_load285 {o : Oper} {a : Act} {w : World} {K : Act → World → Prop} {Q : Exit → Act → World → Prop} (x : Operand) (ho : o.op = .load 285 x) (g : Nat) (t : TypeId) {u0 u1 : Value} (hx : a.eval x = .pointer (some ⟨g, 0, none⟩)) (hB : Blk w g t #[u0, u1]) (h : K (a.put o.dst (.agg #[u0, u1])) w) : o.wp Tryz.prog a w K Q := by
  unfold Oper.wp execOp
  simp only [ho, hx, Instr.loadAt, Instr.sureAddr, Sem.run_bind, Sem.run_pure, Result.andThen_ok, load285 hB]
  exact h
theorem wpList_load285 {ops : Array Oper} {rest : List Oper} {o : Oper} {a : Act} {w : World} {Q : Exit → Act → World → Prop} (hg : o.guard = none) (x : Operand) (ho : o.op = .load 285 x) (g : Nat) (t : TypeId) {u0 u1 : Value} (hx : a.eval x = .pointer (some ⟨g, 0, none⟩)) (hB : Blk w g t #[u0, u1]) (h : wpList Tryz.prog ops Q rest (a.put o.dst (.agg #[u0, u1])) w) : wpList Tryz.prog ops Q (o :: rest) a w :=
  wpList_plain hg fun _ hK => wp_load285 x ho g t hx hB (hK _ _ h)
theorem wpList_load285g {ops : Array Oper} {rest : List Oper} {o : Oper} {a : Act} {wm w : World} {Q : Exit → Act → World → Prop} (hg : Region.wanted o (yielded ops a.tmps) = true) (x : Operand) (ho : o.op = .load 285 x) (g : Nat) (t : TypeId) {u0 u1 : Value} (hx : a.eval x = .pointer (some ⟨g, 0, none⟩)) (hB : Blk wm g t #[u0, u1]) (hb : Below wm.heap.size wm w) (h : wpList Tryz.prog ops Q rest (a.put o.dst (.agg #[u0, u1])) w) : wpList Tryz.prog ops Q (o :: rest) a w :=
  wpList_step fun K hK => by rw [if_pos hg]; exact wp_load285 x ho g t hx (hB.below hb hB.lt) (hK _ _ h)
theorem built285 : Tryz.prog.built 285 [] = some #[.int .i64 0, .int .i64 0] := by kernel_rfl
set_option maxRecDepth 100000 in
theorem wpList_build285 {ops : Array Oper} {rest : List Oper} {o : Oper} {a : Act} {w : World} {Q : Exit → Act → World → Prop} (hg : o.guard = none) (ho : o.op = .build 285 #[]) (h : wpList Tryz.prog ops Q rest (a.put o.dst (.agg #[.int .i64 0, .int .i64 0])) w) : wpList Tryz.prog ops Q (o :: rest) a w := by
  have hb : Tryz.prog.built 285 ((#[] : Array (Nat × Operand)).map fun (i, x) => (i, a.eval x)).toList = some #[.int .i64 0, .int .i64 0] := by
    have e : ((#[] : Array (Nat × Operand)).map fun (i, x) => (i, a.eval x)).toList = [] := by simp
    rw [e]; exact built285
  exact wpList_build hg 285 #[] ho (by rw [hb]; rfl) (by rw [hb]; exact h)
theorem size257 : (Tryz.prog.info? 257).map (·.size) = some 3 := by kernel_rfl
theorem load257 {w : World} {g : Nat} {t : TypeId} {u0 u1 u2 : Value} (h : Blk w g t #[u0, u1, u2]) : (loadVar 257 ⟨g, 0, none⟩).run Tryz.prog w = .ok (.agg #[u0, u1, u2]) w :=
  run_loadVar_row w g t 257 _ (0, 0) _ h Tryz.underlying257 rfl size257
theorem res257a {fn : Func} {p : Tmp} (h : fn.results = #[.cell p 257]) (tmps : Array Value) {w : World} {g : Nat} {t : TypeId} {u0 u1 u2 : Value} (hp : tmps.getD p undef = .pointer (some ⟨g, 0, none⟩)) (hg : Blk w g t #[u0, u1, u2]) :
    (results fn tmps).run Tryz.prog w = .ok (.agg #[u0, u1, u2]) w := by
  have hp' : tmps[p]?.getD undef = .pointer (some ⟨g, 0, none⟩) := by simpa using hp
  simp [results, h, hp', asAddr, load257 hg]
theorem res257 {fn : Func} {p q : Tmp} (h : fn.results = #[.cell p 257, .tmp q]) (tmps : Array Value) {w : World} {g : Nat} {t : TypeId} {u0 u1 u2 : Value} (hp : tmps.getD p undef = .pointer (some ⟨g, 0, none⟩)) (hg : Blk w g t #[u0, u1, u2]) :
    (results fn tmps).run Tryz.prog w = .ok (.tuple #[.agg #[u0, u1, u2], tmps.getD q undef]) w := by
  have hp' : tmps[p]?.getD undef = .pointer (some ⟨g, 0, none⟩) := by simpa using hp
  simp [results, h, hp', asAddr, load257 hg]
theorem res257c {fn : Func} {p q r : Tmp} (h : fn.results = #[.cell p 257, .tmp q, .tmp r]) (tmps : Array Value) {w : World} {g : Nat} {t : TypeId} {u0 u1 u2 : Value} (hp : tmps.getD p undef = .pointer (some ⟨g, 0, none⟩)) (hg : Blk w g t #[u0, u1, u2]) :
    (results fn tmps).run Tryz.prog w = .ok (.tuple #[.agg #[u0, u1, u2], tmps.getD q undef, tmps.getD r undef]) w := by
  have hp' : tmps[p]?.getD undef = .pointer (some ⟨g, 0, none⟩) := by simpa using hp
  simp [results, h, hp', asAddr, load257 hg]
theorem wp_load257 {o : Oper} {a : Act} {w : World} {K : Act → World → Prop} {Q : Exit → Act → World → Prop} (x : Operand) (ho : o.op = .load 257 x) (g : Nat) (t : TypeId) {u0 u1 u2 : Value} (hx : a.eval x = .pointer (some ⟨g, 0, none⟩)) (hB : Blk w g t #[u0, u1, u2]) (h : K (a.put o.dst (.agg #[u0, u1, u2])) w) : o.wp Tryz.prog a w K Q := by
  unfold Oper.wp execOp
  simp only [ho, hx, Instr.loadAt, Instr.sureAddr, Sem.run_bind, Sem.run_pure, Result.andThen_ok, load257 hB]
  exact h
theorem wpList_load257 {ops : Array Oper} {rest : List Oper} {o : Oper} {a : Act} {w : World} {Q : Exit → Act → World → Prop} (hg : o.guard = none) (x : Operand) (ho : o.op = .load 257 x) (g : Nat) (t : TypeId) {u0 u1 u2 : Value} (hx : a.eval x = .pointer (some ⟨g, 0, none⟩)) (hB : Blk w g t #[u0, u1, u2]) (h : wpList Tryz.prog ops Q rest (a.put o.dst (.agg #[u0, u1, u2])) w) : wpList Tryz.prog ops Q (o :: rest) a w :=
  wpList_plain hg fun _ hK => wp_load257 x ho g t hx hB (hK _ _ h)
theorem wpList_load257g {ops : Array Oper} {rest : List Oper} {o : Oper} {a : Act} {wm w : World} {Q : Exit → Act → World → Prop} (hg : Region.wanted o (yielded ops a.tmps) = true) (x : Operand) (ho : o.op = .load 257 x) (g : Nat) (t : TypeId) {u0 u1 u2 : Value} (hx : a.eval x = .pointer (some ⟨g, 0, none⟩)) (hB : Blk wm g t #[u0, u1, u2]) (hb : Below wm.heap.size wm w) (h : wpList Tryz.prog ops Q rest (a.put o.dst (.agg #[u0, u1, u2])) w) : wpList Tryz.prog ops Q (o :: rest) a w :=
  wpList_step fun K hK => by rw [if_pos hg]; exact wp_load257 x ho g t hx (hB.below hb hB.lt) (hK _ _ h)
theorem built257 : Tryz.prog.built 257 [] = some #[.slice none 0 0, .int .i64 0, .int .i64 0] := by kernel_rfl
set_option maxRecDepth 100000 in
theorem wpList_build257 {ops : Array Oper} {rest : List Oper} {o : Oper} {a : Act} {w : World} {Q : Exit → Act → World → Prop} (hg : o.guard = none) (ho : o.op = .build 257 #[]) (h : wpList Tryz.prog ops Q rest (a.put o.dst (.agg #[.slice none 0 0, .int .i64 0, .int .i64 0])) w) : wpList Tryz.prog ops Q (o :: rest) a w := by
  have hb : Tryz.prog.built 257 ((#[] : Array (Nat × Operand)).map fun (i, x) => (i, a.eval x)).toList = some #[.slice none 0 0, .int .i64 0, .int .i64 0] := by
    have e : ((#[] : Array (Nat × Operand)).map fun (i, x) => (i, a.eval x)).toList = [] := by simp
    rw [e]; exact built257
  exact wpList_build hg 257 #[] ho (by rw [hb]; rfl) (by rw [hb]; exact h)
theorem size124 : (Tryz.prog.info? 124).map (·.size) = some 2 := by kernel_rfl
theorem load124 {w : World} {g : Nat} {t : TypeId} {u0 u1 : Value} (h : Blk w g t #[u0, u1]) : (loadVar 124 ⟨g, 0, none⟩).run Tryz.prog w = .ok (.agg #[u0, u1]) w :=
  run_loadVar_row w g t 124 _ (0, 0) _ h Tryz.underlying124 rfl size124
theorem res124a {fn : Func} {p : Tmp} (h : fn.results = #[.cell p 124]) (tmps : Array Value) {w : World} {g : Nat} {t : TypeId} {u0 u1 : Value} (hp : tmps.getD p undef = .pointer (some ⟨g, 0, none⟩)) (hg : Blk w g t #[u0, u1]) :
    (results fn tmps).run Tryz.prog w = .ok (.agg #[u0, u1]) w := by
  have hp' : tmps[p]?.getD undef = .pointer (some ⟨g, 0, none⟩) := by simpa using hp
  simp [results, h, hp', asAddr, load124 hg]
theorem res124 {fn : Func} {p q : Tmp} (h : fn.results = #[.cell p 124, .tmp q]) (tmps : Array Value) {w : World} {g : Nat} {t : TypeId} {u0 u1 : Value} (hp : tmps.getD p undef = .pointer (some ⟨g, 0, none⟩)) (hg : Blk w g t #[u0, u1]) :
    (results fn tmps).run Tryz.prog w = .ok (.tuple #[.agg #[u0, u1], tmps.getD q undef]) w := by
  have hp' : tmps[p]?.getD undef = .pointer (some ⟨g, 0, none⟩) := by simpa using hp
  simp [results, h, hp', asAddr, load124 hg]
theorem res124c {fn : Func} {p q r : Tmp} (h : fn.results = #[.cell p 124, .tmp q, .tmp r]) (tmps : Array Value) {w : World} {g : Nat} {t : TypeId} {u0 u1 : Value} (hp : tmps.getD p undef = .pointer (some ⟨g, 0, none⟩)) (hg : Blk w g t #[u0, u1]) :
    (results fn tmps).run Tryz.prog w = .ok (.tuple #[.agg #[u0, u1], tmps.getD q undef, tmps.getD r undef]) w := by
  have hp' : tmps[p]?.getD undef = .pointer (some ⟨g, 0, none⟩) := by simpa using hp
  simp [results, h, hp', asAddr, load124 hg]
theorem wp_load124 {o : Oper} {a : Act} {w : World} {K : Act → World → Prop} {Q : Exit → Act → World → Prop} (x : Operand) (ho : o.op = .load 124 x) (g : Nat) (t : TypeId) {u0 u1 : Value} (hx : a.eval x = .pointer (some ⟨g, 0, none⟩)) (hB : Blk w g t #[u0, u1]) (h : K (a.put o.dst (.agg #[u0, u1])) w) : o.wp Tryz.prog a w K Q := by
  unfold Oper.wp execOp
  simp only [ho, hx, Instr.loadAt, Instr.sureAddr, Sem.run_bind, Sem.run_pure, Result.andThen_ok, load124 hB]
  exact h
theorem wpList_load124 {ops : Array Oper} {rest : List Oper} {o : Oper} {a : Act} {w : World} {Q : Exit → Act → World → Prop} (hg : o.guard = none) (x : Operand) (ho : o.op = .load 124 x) (g : Nat) (t : TypeId) {u0 u1 : Value} (hx : a.eval x = .pointer (some ⟨g, 0, none⟩)) (hB : Blk w g t #[u0, u1]) (h : wpList Tryz.prog ops Q rest (a.put o.dst (.agg #[u0, u1])) w) : wpList Tryz.prog ops Q (o :: rest) a w :=
  wpList_plain hg fun _ hK => wp_load124 x ho g t hx hB (hK _ _ h)
theorem wpList_load124g {ops : Array Oper} {rest : List Oper} {o : Oper} {a : Act} {wm w : World} {Q : Exit → Act → World → Prop} (hg : Region.wanted o (yielded ops a.tmps) = true) (x : Operand) (ho : o.op = .load 124 x) (g : Nat) (t : TypeId) {u0 u1 : Value} (hx : a.eval x = .pointer (some ⟨g, 0, none⟩)) (hB : Blk wm g t #[u0, u1]) (hb : Below wm.heap.size wm w) (h : wpList Tryz.prog ops Q rest (a.put o.dst (.agg #[u0, u1])) w) : wpList Tryz.prog ops Q (o :: rest) a w :=
  wpList_step fun K hK => by rw [if_pos hg]; exact wp_load124 x ho g t hx (hB.below hb hB.lt) (hK _ _ h)
theorem built124 : Tryz.prog.built 124 [] = some #[.slice none 0 0, .int .i64 0] := by kernel_rfl
set_option maxRecDepth 100000 in
theorem wpList_build124 {ops : Array Oper} {rest : List Oper} {o : Oper} {a : Act} {w : World} {Q : Exit → Act → World → Prop} (hg : o.guard = none) (ho : o.op = .build 124 #[]) (h : wpList Tryz.prog ops Q rest (a.put o.dst (.agg #[.slice none 0 0, .int .i64 0])) w) : wpList Tryz.prog ops Q (o :: rest) a w := by
  have hb : Tryz.prog.built 124 ((#[] : Array (Nat × Operand)).map fun (i, x) => (i, a.eval x)).toList = some #[.slice none 0 0, .int .i64 0] := by
    have e : ((#[] : Array (Nat × Operand)).map fun (i, x) => (i, a.eval x)).toList = [] := by simp
    rw [e]; exact built124
  exact wpList_build hg 124 #[] ho (by rw [hb]; rfl) (by rw [hb]; exact h)
theorem size77 : (Tryz.prog.info? 77).map (·.size) = some 11 := by kernel_rfl
theorem load77 {w : World} {g : Nat} {t : TypeId} {u0 u1 u2 u3 u4 u5 u6 u7 u8 u9 u10 : Value} (h : Blk w g t #[u0, u1, u2, u3, u4, u5, u6, u7, u8, u9, u10]) : (loadVar 77 ⟨g, 0, none⟩).run Tryz.prog w = .ok (.agg #[u0, u1, u2, u3, u4, u5, u6, u7, u8, u9, u10]) w :=
  run_loadVar_row w g t 77 _ (0, 0) _ h Tryz.underlying77 rfl size77
theorem res77a {fn : Func} {p : Tmp} (h : fn.results = #[.cell p 77]) (tmps : Array Value) {w : World} {g : Nat} {t : TypeId} {u0 u1 u2 u3 u4 u5 u6 u7 u8 u9 u10 : Value} (hp : tmps.getD p undef = .pointer (some ⟨g, 0, none⟩)) (hg : Blk w g t #[u0, u1, u2, u3, u4, u5, u6, u7, u8, u9, u10]) :
    (results fn tmps).run Tryz.prog w = .ok (.agg #[u0, u1, u2, u3, u4, u5, u6, u7, u8, u9, u10]) w := by
  have hp' : tmps[p]?.getD undef = .pointer (some ⟨g, 0, none⟩) := by simpa using hp
  simp [results, h, hp', asAddr, load77 hg]
theorem res77 {fn : Func} {p q : Tmp} (h : fn.results = #[.cell p 77, .tmp q]) (tmps : Array Value) {w : World} {g : Nat} {t : TypeId} {u0 u1 u2 u3 u4 u5 u6 u7 u8 u9 u10 : Value} (hp : tmps.getD p undef = .pointer (some ⟨g, 0, none⟩)) (hg : Blk w g t #[u0, u1, u2, u3, u4, u5, u6, u7, u8, u9, u10]) :
    (results fn tmps).run Tryz.prog w = .ok (.tuple #[.agg #[u0, u1, u2, u3, u4, u5, u6, u7, u8, u9, u10], tmps.getD q undef]) w := by
  have hp' : tmps[p]?.getD undef = .pointer (some ⟨g, 0, none⟩) := by simpa using hp
  simp [results, h, hp', asAddr, load77 hg]
theorem res77c {fn : Func} {p q r : Tmp} (h : fn.results = #[.cell p 77, .tmp q, .tmp r]) (tmps : Array Value) {w : World} {g : Nat} {t : TypeId} {u0 u1 u2 u3 u4 u5 u6 u7 u8 u9 u10 : Value} (hp : tmps.getD p undef = .pointer (some ⟨g, 0, none⟩)) (hg : Blk w g t #[u0, u1, u2, u3, u4, u5, u6, u7, u8, u9, u10]) :
    (results fn tmps).run Tryz.prog w = .ok (.tuple #[.agg #[u0, u1, u2, u3, u4, u5, u6, u7, u8, u9, u10], tmps.getD q undef, tmps.getD r undef]) w := by
  have hp' : tmps[p]?.getD undef = .pointer (some ⟨g, 0, none⟩) := by simpa using hp
  simp [results, h, hp', asAddr, load77 hg]
theorem wp_load77 {o : Oper} {a : Act} {w : World} {K : Act → World → Prop} {Q : Exit → Act → World → Prop} (x : Operand) (ho : o.op = .load 77 x) (g : Nat) (t : TypeId) {u0 u1 u2 u3 u4 u5 u6 u7 u8 u9 u10 : Value} (hx : a.eval x = .pointer (some ⟨g, 0, none⟩)) (hB : Blk w g t #[u0, u1, u2, u3, u4, u5, u6, u7, u8, u9, u10]) (h : K (a.put o.dst (.agg #[u0, u1, u2, u3, u4, u5, u6, u7, u8, u9, u10])) w) : o.wp Tryz.prog a w K Q := by
  unfold Oper.wp execOp
  simp only [ho, hx, Instr.loadAt, Instr.sureAddr, Sem.run_bind, Sem.run_pure, Result.andThen_ok, load77 hB]
  exact h
theorem wpList_load77 {ops : Array Oper} {rest : List Oper} {o : Oper} {a : Act} {w : World} {Q : Exit → Act → World → Prop} (hg : o.guard = none) (x : Operand) (ho : o.op = .load 77 x) (g : Nat) (t : TypeId) {u0 u1 u2 u3 u4 u5 u6 u7 u8 u9 u10 : Value} (hx : a.eval x = .pointer (some ⟨g, 0, none⟩)) (hB : Blk w g t #[u0, u1, u2, u3, u4, u5, u6, u7, u8, u9, u10]) (h : wpList Tryz.prog ops Q rest (a.put o.dst (.agg #[u0, u1, u2, u3, u4, u5, u6, u7, u8, u9, u10])) w) : wpList Tryz.prog ops Q (o :: rest) a w :=
  wpList_plain hg fun _ hK => wp_load77 x ho g t hx hB (hK _ _ h)
theorem wpList_load77g {ops : Array Oper} {rest : List Oper} {o : Oper} {a : Act} {wm w : World} {Q : Exit → Act → World → Prop} (hg : Region.wanted o (yielded ops a.tmps) = true) (x : Operand) (ho : o.op = .load 77 x) (g : Nat) (t : TypeId) {u0 u1 u2 u3 u4 u5 u6 u7 u8 u9 u10 : Value} (hx : a.eval x = .pointer (some ⟨g, 0, none⟩)) (hB : Blk wm g t #[u0, u1, u2, u3, u4, u5, u6, u7, u8, u9, u10]) (hb : Below wm.heap.size wm w) (h : wpList Tryz.prog ops Q rest (a.put o.dst (.agg #[u0, u1, u2, u3, u4, u5, u6, u7, u8, u9, u10])) w) : wpList Tryz.prog ops Q (o :: rest) a w :=
  wpList_step fun K hK => by rw [if_pos hg]; exact wp_load77 x ho g t hx (hB.below hb hB.lt) (hK _ _ h)
theorem built77 : Tryz.prog.built 77 [] = some #[.int .i64 0, .int .i64 0, .int .i64 0, .int .i64 0, .int .i64 0, .int .i64 0, .slice none 0 0, .int .u64 0, .int .u64 0, .int .u64 0, .int .u64 0] := by kernel_rfl
set_option maxRecDepth 100000 in
theorem wpList_build77 {ops : Array Oper} {rest : List Oper} {o : Oper} {a : Act} {w : World} {Q : Exit → Act → World → Prop} (hg : o.guard = none) (ho : o.op = .build 77 #[]) (h : wpList Tryz.prog ops Q rest (a.put o.dst (.agg #[.int .i64 0, .int .i64 0, .int .i64 0, .int .i64 0, .int .i64 0, .int .i64 0, .slice none 0 0, .int .u64 0, .int .u64 0, .int .u64 0, .int .u64 0])) w) : wpList Tryz.prog ops Q (o :: rest) a w := by
  have hb : Tryz.prog.built 77 ((#[] : Array (Nat × Operand)).map fun (i, x) => (i, a.eval x)).toList = some #[.int .i64 0, .int .i64 0, .int .i64 0, .int .i64 0, .int .i64 0, .int .i64 0, .slice none 0 0, .int .u64 0, .int .u64 0, .int .u64 0, .int .u64 0] := by
    have e : ((#[] : Array (Nat × Operand)).map fun (i, x) => (i, a.eval x)).toList = [] := by simp
    rw [e]; exact built77
  exact wpList_build hg 77 #[] ho (by rw [hb]; rfl) (by rw [hb]; exact h)
theorem size81 : (Tryz.prog.info? 81).map (·.size) = some 3 := by kernel_rfl
theorem load81 {w : World} {g : Nat} {t : TypeId} {u0 u1 u2 : Value} (h : Blk w g t #[u0, u1, u2]) : (loadVar 81 ⟨g, 0, none⟩).run Tryz.prog w = .ok (.agg #[u0, u1, u2]) w :=
  run_loadVar_row w g t 81 _ (0, 0) _ h Tryz.underlying81 rfl size81
theorem res81a {fn : Func} {p : Tmp} (h : fn.results = #[.cell p 81]) (tmps : Array Value) {w : World} {g : Nat} {t : TypeId} {u0 u1 u2 : Value} (hp : tmps.getD p undef = .pointer (some ⟨g, 0, none⟩)) (hg : Blk w g t #[u0, u1, u2]) :
    (results fn tmps).run Tryz.prog w = .ok (.agg #[u0, u1, u2]) w := by
  have hp' : tmps[p]?.getD undef = .pointer (some ⟨g, 0, none⟩) := by simpa using hp
  simp [results, h, hp', asAddr, load81 hg]
theorem res81 {fn : Func} {p q : Tmp} (h : fn.results = #[.cell p 81, .tmp q]) (tmps : Array Value) {w : World} {g : Nat} {t : TypeId} {u0 u1 u2 : Value} (hp : tmps.getD p undef = .pointer (some ⟨g, 0, none⟩)) (hg : Blk w g t #[u0, u1, u2]) :
    (results fn tmps).run Tryz.prog w = .ok (.tuple #[.agg #[u0, u1, u2], tmps.getD q undef]) w := by
  have hp' : tmps[p]?.getD undef = .pointer (some ⟨g, 0, none⟩) := by simpa using hp
  simp [results, h, hp', asAddr, load81 hg]
theorem res81c {fn : Func} {p q r : Tmp} (h : fn.results = #[.cell p 81, .tmp q, .tmp r]) (tmps : Array Value) {w : World} {g : Nat} {t : TypeId} {u0 u1 u2 : Value} (hp : tmps.getD p undef = .pointer (some ⟨g, 0, none⟩)) (hg : Blk w g t #[u0, u1, u2]) :
    (results fn tmps).run Tryz.prog w = .ok (.tuple #[.agg #[u0, u1, u2], tmps.getD q undef, tmps.getD r undef]) w := by
  have hp' : tmps[p]?.getD undef = .pointer (some ⟨g, 0, none⟩) := by simpa using hp
  simp [results, h, hp', asAddr, load81 hg]
theorem wp_load81 {o : Oper} {a : Act} {w : World} {K : Act → World → Prop} {Q : Exit → Act → World → Prop} (x : Operand) (ho : o.op = .load 81 x) (g : Nat) (t : TypeId) {u0 u1 u2 : Value} (hx : a.eval x = .pointer (some ⟨g, 0, none⟩)) (hB : Blk w g t #[u0, u1, u2]) (h : K (a.put o.dst (.agg #[u0, u1, u2])) w) : o.wp Tryz.prog a w K Q := by
  unfold Oper.wp execOp
  simp only [ho, hx, Instr.loadAt, Instr.sureAddr, Sem.run_bind, Sem.run_pure, Result.andThen_ok, load81 hB]
  exact h
theorem wpList_load81 {ops : Array Oper} {rest : List Oper} {o : Oper} {a : Act} {w : World} {Q : Exit → Act → World → Prop} (hg : o.guard = none) (x : Operand) (ho : o.op = .load 81 x) (g : Nat) (t : TypeId) {u0 u1 u2 : Value} (hx : a.eval x = .pointer (some ⟨g, 0, none⟩)) (hB : Blk w g t #[u0, u1, u2]) (h : wpList Tryz.prog ops Q rest (a.put o.dst (.agg #[u0, u1, u2])) w) : wpList Tryz.prog ops Q (o :: rest) a w :=
  wpList_plain hg fun _ hK => wp_load81 x ho g t hx hB (hK _ _ h)
theorem wpList_load81g {ops : Array Oper} {rest : List Oper} {o : Oper} {a : Act} {wm w : World} {Q : Exit → Act → World → Prop} (hg : Region.wanted o (yielded ops a.tmps) = true) (x : Operand) (ho : o.op = .load 81 x) (g : Nat) (t : TypeId) {u0 u1 u2 : Value} (hx : a.eval x = .pointer (some ⟨g, 0, none⟩)) (hB : Blk wm g t #[u0, u1, u2]) (hb : Below wm.heap.size wm w) (h : wpList Tryz.prog ops Q rest (a.put o.dst (.agg #[u0, u1, u2])) w) : wpList Tryz.prog ops Q (o :: rest) a w :=
  wpList_step fun K hK => by rw [if_pos hg]; exact wp_load81 x ho g t hx (hB.below hb hB.lt) (hK _ _ h)
theorem built81 : Tryz.prog.built 81 [] = some #[.int .i64 0, .int .i64 0, .int .i64 0] := by kernel_rfl
set_option maxRecDepth 100000 in
theorem wpList_build81 {ops : Array Oper} {rest : List Oper} {o : Oper} {a : Act} {w : World} {Q : Exit → Act → World → Prop} (hg : o.guard = none) (ho : o.op = .build 81 #[]) (h : wpList Tryz.prog ops Q rest (a.put o.dst (.agg #[.int .i64 0, .int .i64 0, .int .i64 0])) w) : wpList Tryz.prog ops Q (o :: rest) a w := by
  have hb : Tryz.prog.built 81 ((#[] : Array (Nat × Operand)).map fun (i, x) => (i, a.eval x)).toList = some #[.int .i64 0, .int .i64 0, .int .i64 0] := by
    have e : ((#[] : Array (Nat × Operand)).map fun (i, x) => (i, a.eval x)).toList = [] := by simp
    rw [e]; exact built81
  exact wpList_build hg 81 #[] ho (by rw [hb]; rfl) (by rw [hb]; exact h)
theorem size56 : (Tryz.prog.info? 56).map (·.size) = some 57 := by kernel_rfl
theorem load56 {w : World} {g : Nat} {t : TypeId} {u0 u1 u2 u3 u4 u5 u6 u7 u8 u9 u10 u11 u12 u13 u14 u15 u16 u17 u18 u19 u20 u21 u22 u23 u24 u25 u26 u27 u28 u29 u30 u31 u32 u33 u34 u35 u36 u37 u38 u39 u40 u41 u42 u43 u44 u45 u46 u47 u48 u49 u50 u51 u52 u53 u54 u55 u56 : Value} (h : Blk w g t #[u0, u1, u2, u3, u4, u5, u6, u7, u8, u9, u10, u11, u12, u13, u14, u15, u16, u17, u18, u19, u20, u21, u22, u23, u24, u25, u26, u27, u28, u29, u30, u31, u32, u33, u34, u35, u36, u37, u38, u39, u40, u41, u42, u43, u44, u45, u46, u47, u48, u49, u50, u51, u52, u53, u54, u55, u56]) : (loadVar 56 ⟨g, 0, none⟩).run Tryz.prog w = .ok (.agg #[u0, u1, u2, u3, u4, u5, u6, u7, u8, u9, u10, u11, u12, u13, u14, u15, u16, u17, u18, u19, u20, u21, u22, u23, u24, u25, u26, u27, u28, u29, u30, u31, u32, u33, u34, u35, u36, u37, u38, u39, u40, u41, u42, u43, u44, u45, u46, u47, u48, u49, u50, u51, u52, u53, u54, u55, u56]) w :=
  run_loadVar_row w g t 56 _ (0, 0) _ h Tryz.underlying56 rfl size56
theorem res56a {fn : Func} {p : Tmp} (h : fn.results = #[.cell p 56]) (tmps : Array Value) {w : World} {g : Nat} {t : TypeId} {u0 u1 u2 u3 u4 u5 u6 u7 u8 u9 u10 u11 u12 u13 u14 u15 u16 u17 u18 u19 u20 u21 u22 u23 u24 u25 u26 u27 u28 u29 u30 u31 u32 u33 u34 u35 u36 u37 u38 u39 u40 u41 u42 u43 u44 u45 u46 u47 u48 u49 u50 u51 u52 u53 u54 u55 u56 : Value} (hp : tmps.getD p undef = .pointer (some ⟨g, 0, none⟩)) (hg : Blk w g t #[u0, u1, u2, u3, u4, u5, u6, u7, u8, u9, u10, u11, u12, u13, u14, u15, u16, u17, u18, u19, u20, u21, u22, u23, u24, u25, u26, u27, u28, u29, u30, u31, u32, u33, u34, u35, u36, u37, u38, u39, u40, u41, u42, u43, u44, u45, u46, u47, u48, u49, u50, u51, u52, u53, u54, u55, u56]) :
    (results fn tmps).run Tryz.prog w = .ok (.agg #[u0, u1, u2, u3, u4, u5, u6, u7, u8, u9, u10, u11, u12, u13, u14, u15, u16, u17, u18, u19, u20, u21, u22, u23, u24, u25, u26, u27, u28, u29, u30, u31, u32, u33, u34, u35, u36, u37, u38, u39, u40, u41, u42, u43, u44, u45, u46, u47, u48, u49, u50, u51, u52, u53, u54, u55, u56]) w := by
  have hp' : tmps[p]?.getD undef = .pointer (some ⟨g, 0, none⟩) := by simpa using hp
  simp [results, h, hp', asAddr, load56 hg]
theorem res56 {fn : Func} {p q : Tmp} (h : fn.results = #[.cell p 56, .tmp q]) (tmps : Array Value) {w : World} {g : Nat} {t : TypeId} {u0 u1 u2 u3 u4 u5 u6 u7 u8 u9 u10 u11 u12 u13 u14 u15 u16 u17 u18 u19 u20 u21 u22 u23 u24 u25 u26 u27 u28 u29 u30 u31 u32 u33 u34 u35 u36 u37 u38 u39 u40 u41 u42 u43 u44 u45 u46 u47 u48 u49 u50 u51 u52 u53 u54 u55 u56 : Value} (hp : tmps.getD p undef = .pointer (some ⟨g, 0, none⟩)) (hg : Blk w g t #[u0, u1, u2, u3, u4, u5, u6, u7, u8, u9, u10, u11, u12, u13, u14, u15, u16, u17, u18, u19, u20, u21, u22, u23, u24, u25, u26, u27, u28, u29, u30, u31, u32, u33, u34, u35, u36, u37, u38, u39, u40, u41, u42, u43, u44, u45, u46, u47, u48, u49, u50, u51, u52, u53, u54, u55, u56]) :
    (results fn tmps).run Tryz.prog w = .ok (.tuple #[.agg #[u0, u1, u2, u3, u4, u5, u6, u7, u8, u9, u10, u11, u12, u13, u14, u15, u16, u17, u18, u19, u20, u21, u22, u23, u24, u25, u26, u27, u28, u29, u30, u31, u32, u33, u34, u35, u36, u37, u38, u39, u40, u41, u42, u43, u44, u45, u46, u47, u48, u49, u50, u51, u52, u53, u54, u55, u56], tmps.getD q undef]) w := by
  have hp' : tmps[p]?.getD undef = .pointer (some ⟨g, 0, none⟩) := by simpa using hp
  simp [results, h, hp', asAddr, load56 hg]
theorem res56c {fn : Func} {p q r : Tmp} (h : fn.results = #[.cell p 56, .tmp q, .tmp r]) (tmps : Array Value) {w : World} {g : Nat} {t : TypeId} {u0 u1 u2 u3 u4 u5 u6 u7 u8 u9 u10 u11 u12 u13 u14 u15 u16 u17 u18 u19 u20 u21 u22 u23 u24 u25 u26 u27 u28 u29 u30 u31 u32 u33 u34 u35 u36 u37 u38 u39 u40 u41 u42 u43 u44 u45 u46 u47 u48 u49 u50 u51 u52 u53 u54 u55 u56 : Value} (hp : tmps.getD p undef = .pointer (some ⟨g, 0, none⟩)) (hg : Blk w g t #[u0, u1, u2, u3, u4, u5, u6, u7, u8, u9, u10, u11, u12, u13, u14, u15, u16, u17, u18, u19, u20, u21, u22, u23, u24, u25, u26, u27, u28, u29, u30, u31, u32, u33, u34, u35, u36, u37, u38, u39, u40, u41, u42, u43, u44, u45, u46, u47, u48, u49, u50, u51, u52, u53, u54, u55, u56]) :
    (results fn tmps).run Tryz.prog w = .ok (.tuple #[.agg #[u0, u1, u2, u3, u4, u5, u6, u7, u8, u9, u10, u11, u12, u13, u14, u15, u16, u17, u18, u19, u20, u21, u22, u23, u24, u25, u26, u27, u28, u29, u30, u31, u32, u33, u34, u35, u36, u37, u38, u39, u40, u41, u42, u43, u44, u45, u46, u47, u48, u49, u50, u51, u52, u53, u54, u55, u56], tmps.getD q undef, tmps.getD r undef]) w := by
  have hp' : tmps[p]?.getD undef = .pointer (some ⟨g, 0, none⟩) := by simpa using hp
  simp [results, h, hp', asAddr, load56 hg]
theorem wp_load56 {o : Oper} {a : Act} {w : World} {K : Act → World → Prop} {Q : Exit → Act → World → Prop} (x : Operand) (ho : o.op = .load 56 x) (g : Nat) (t : TypeId) {u0 u1 u2 u3 u4 u5 u6 u7 u8 u9 u10 u11 u12 u13 u14 u15 u16 u17 u18 u19 u20 u21 u22 u23 u24 u25 u26 u27 u28 u29 u30 u31 u32 u33 u34 u35 u36 u37 u38 u39 u40 u41 u42 u43 u44 u45 u46 u47 u48 u49 u50 u51 u52 u53 u54 u55 u56 : Value} (hx : a.eval x = .pointer (some ⟨g, 0, none⟩)) (hB : Blk w g t #[u0, u1, u2, u3, u4, u5, u6, u7, u8, u9, u10, u11, u12, u13, u14, u15, u16, u17, u18, u19, u20, u21, u22, u23, u24, u25, u26, u27, u28, u29, u30, u31, u32, u33, u34, u35, u36, u37, u38, u39, u40, u41, u42, u43, u44, u45, u46, u47, u48, u49, u50, u51, u52, u53, u54, u55, u56]) (h : K (a.put o.dst (.agg #[u0, u1, u2, u3, u4, u5, u6, u7, u8, u9, u10, u11, u12, u13, u14, u15, u16, u17, u18, u19, u20, u21, u22, u23, u24, u25, u26, u27, u28, u29, u30, u31, u32, u33, u34, u35, u36, u37, u38, u39, u40, u41, u42, u43, u44, u45, u46, u47, u48, u49, u50, u51, u52, u53, u54, u55, u56])) w) : o.wp Tryz.prog a w K Q := by
  unfold Oper.wp execOp
  simp only [ho, hx, Instr.loadAt, Instr.sureAddr, Sem.run_bind, Sem.run_pure, Result.andThen_ok, load56 hB]
  exact h
theorem wpList_load56 {ops : Array Oper} {rest : List Oper} {o : Oper} {a : Act} {w : World} {Q : Exit → Act → World → Prop} (hg : o.guard = none) (x : Operand) (ho : o.op = .load 56 x) (g : Nat) (t : TypeId) {u0 u1 u2 u3 u4 u5 u6 u7 u8 u9 u10 u11 u12 u13 u14 u15 u16 u17 u18 u19 u20 u21 u22 u23 u24 u25 u26 u27 u28 u29 u30 u31 u32 u33 u34 u35 u36 u37 u38 u39 u40 u41 u42 u43 u44 u45 u46 u47 u48 u49 u50 u51 u52 u53 u54 u55 u56 : Value} (hx : a.eval x = .pointer (some ⟨g, 0, none⟩)) (hB : Blk w g t #[u0, u1, u2, u3, u4, u5, u6, u7, u8, u9, u10, u11, u12, u13, u14, u15, u16, u17, u18, u19, u20, u21, u22, u23, u24, u25, u26, u27, u28, u29, u30, u31, u32, u33, u34, u35, u36, u37, u38, u39, u40, u41, u42, u43, u44, u45, u46, u47, u48, u49, u50, u51, u52, u53, u54, u55, u56]) (h : wpList Tryz.prog ops Q rest (a.put o.dst (.agg #[u0, u1, u2, u3, u4, u5, u6, u7, u8, u9, u10, u11, u12, u13, u14, u15, u16, u17, u18, u19, u20, u21, u22, u23, u24, u25, u26, u27, u28, u29, u30, u31, u32, u33, u34, u35, u36, u37, u38, u39, u40, u41, u42, u43, u44, u45, u46, u47, u48, u49, u50, u51, u52, u53, u54, u55, u56])) w) : wpList Tryz.prog ops Q (o :: rest) a w :=
  wpList_plain hg fun _ hK => wp_load56 x ho g t hx hB (hK _ _ h)
theorem wpList_load56g {ops : Array Oper} {rest : List Oper} {o : Oper} {a : Act} {wm w : World} {Q : Exit → Act → World → Prop} (hg : Region.wanted o (yielded ops a.tmps) = true) (x : Operand) (ho : o.op = .load 56 x) (g : Nat) (t : TypeId) {u0 u1 u2 u3 u4 u5 u6 u7 u8 u9 u10 u11 u12 u13 u14 u15 u16 u17 u18 u19 u20 u21 u22 u23 u24 u25 u26 u27 u28 u29 u30 u31 u32 u33 u34 u35 u36 u37 u38 u39 u40 u41 u42 u43 u44 u45 u46 u47 u48 u49 u50 u51 u52 u53 u54 u55 u56 : Value} (hx : a.eval x = .pointer (some ⟨g, 0, none⟩)) (hB : Blk wm g t #[u0, u1, u2, u3, u4, u5, u6, u7, u8, u9, u10, u11, u12, u13, u14, u15, u16, u17, u18, u19, u20, u21, u22, u23, u24, u25, u26, u27, u28, u29, u30, u31, u32, u33, u34, u35, u36, u37, u38, u39, u40, u41, u42, u43, u44, u45, u46, u47, u48, u49, u50, u51, u52, u53, u54, u55, u56]) (hb : Below wm.heap.size wm w) (h : wpList Tryz.prog ops Q rest (a.put o.dst (.agg #[u0, u1, u2, u3, u4, u5, u6, u7, u8, u9, u10, u11, u12, u13, u14, u15, u16, u17, u18, u19, u20, u21, u22, u23, u24, u25, u26, u27, u28, u29, u30, u31, u32, u33, u34, u35, u36, u37, u38, u39, u40, u41, u42, u43, u44, u45, u46, u47, u48, u49, u50, u51, u52, u53, u54, u55, u56])) w) : wpList Tryz.prog ops Q (o :: rest) a w :=
  wpList_step fun K hK => by rw [if_pos hg]; exact wp_load56 x ho g t hx (hB.below hb hB.lt) (hK _ _ h)
theorem built56 : Tryz.prog.built 56 [] = some #[.int .i64 0, .int .i64 0, .int .i64 0, .int .i64 0, .int .i64 0, .int .i64 0, .int .i64 0, .int .i64 0, .int .i64 0, .int .i64 0, .int .i64 0, .slice none 0 0, .int .i64 0, .int .i64 0, .int .i64 0, .int .i64 0, .slice none 0 0, .int .i64 0, .int .i64 0, .int .i64 0, .int .i64 0, .int .i64 0, .slice none 0 0, .int .i64 0, .int .i64 0, .int .i64 0, .int .i64 0, .int .i64 0, .int .i64 0, .slice none 0 0, .int .i64 0, .int .i64 0, .int .i64 0, .int .i64 0, .int .i64 0, .slice none 0 0, .int .i64 0, .int .i64 0, .int .i64 0, .slice none 0 0, .int .i64 0, .slice none 0 0, .bool false, .int .i64 0, .int .i64 0, .int .i64 0, .slice none 0 0, .slice none 0 0, .int .i64 0, .int .i64 0, .int .i64 0, .slice none 0 0, .int .i64 0, .int .i64 0, .int .i64 0, .int .i64 0, .slice none 0 0] := by kernel_rfl
set_option maxRecDepth 100000 in
theorem wpList_build56 {ops : Array Oper} {rest : List Oper} {o : Oper} {a : Act} {w : World} {Q : Exit → Act → World → Prop} (hg : o.guard = none) (ho : o.op = .build 56 #[]) (h : wpList Tryz.prog ops Q rest (a.put o.dst (.agg #[.int .i64 0, .int .i64 0, .int .i64 0, .int .i64 0, .int .i64 0, .int .i64 0, .int .i64 0, .int .i64 0, .int .i64 0, .int .i64 0, .int .i64 0, .slice none 0 0, .int .i64 0, .int .i64 0, .int .i64 0, .int .i64 0, .slice none 0 0, .int .i64 0, .int .i64 0, .int .i64 0, .int .i64 0, .int .i64 0, .slice none 0 0, .int .i64 0, .int .i64 0, .int .i64 0, .int .i64 0, .int .i64 0, .int .i64 0, .slice none 0 0, .int .i64 0, .int .i64 0, .int .i64 0, .int .i64 0, .int .i64 0, .slice none 0 0, .int .i64 0, .int .i64 0, .int .i64 0, .slice none 0 0, .int .i64 0, .slice none 0 0, .bool false, .int .i64 0, .int .i64 0, .int .i64 0, .slice none 0 0, .slice none 0 0, .int .i64 0, .int .i64 0, .int .i64 0, .slice none 0 0, .int .i64 0, .int .i64 0, .int .i64 0, .int .i64 0, .slice none 0 0])) w) : wpList Tryz.prog ops Q (o :: rest) a w := by
  have hb : Tryz.prog.built 56 ((#[] : Array (Nat × Operand)).map fun (i, x) => (i, a.eval x)).toList = some #[.int .i64 0, .int .i64 0, .int .i64 0, .int .i64 0, .int .i64 0, .int .i64 0, .int .i64 0, .int .i64 0, .int .i64 0, .int .i64 0, .int .i64 0, .slice none 0 0, .int .i64 0, .int .i64 0, .int .i64 0, .int .i64 0, .slice none 0 0, .int .i64 0, .int .i64 0, .int .i64 0, .int .i64 0, .int .i64 0, .slice none 0 0, .int .i64 0, .int .i64 0, .int .i64 0, .int .i64 0, .int .i64 0, .int .i64 0, .slice none 0 0, .int .i64 0, .int .i64 0, .int .i64 0, .int .i64 0, .int .i64 0, .slice none 0 0, .int .i64 0, .int .i64 0, .int .i64 0, .slice none 0 0, .int .i64 0, .slice none 0 0, .bool false, .int .i64 0, .int .i64 0, .int .i64 0, .slice none 0 0, .slice none 0 0, .int .i64 0, .int .i64 0, .int .i64 0, .slice none 0 0, .int .i64 0, .int .i64 0, .int .i64 0, .int .i64 0, .slice none 0 0] := by
    have e : ((#[] : Array (Nat × Operand)).map fun (i, x) => (i, a.eval x)).toList = [] := by simp
    rw [e]; exact built56
  exact wpList_build hg 56 #[] ho (by rw [hb]; rfl) (by rw [hb]; exact h)
end Go.Proofs.YtbageimconenlaaGreat
