/- The engine: elements of slices of integers, the greater of two: over the program. -/
import Derived.Test.YtbageimconenlaaGreatED
import Derived.Test.YtbageimconenlaaGreatG0
import Derived.Laws.Small
namespace Go.Proofs.YtbageimconenlaaGreat
open Go.RowKit En
set_option linter.unusedVariables false
theorem allFC_ints (l : List Int) : allFC (l.map (Value.int .i64)) = true := by
  induction l with
  | nil => rfl
  | cons x l ih => show (true && _) = true; rw [ih]; rfl
theorem info2w : (Tryz.prog.info? 2).map (fun i => (i.size, i.bytes, i.zero.map (·.cells.size))) = some (1, 8, some 1) := by kernel_rfl
theorem nonE_view {l : List Int} (k : Nat) (h : 0 < l.length) : nonE (.view k (l.map (Value.int .i64))) = true := by
  cases l with
  | nil => simp at h
  | cons x l => rfl
theorem nonE_vec {l : List Int} (e k : Nat) (h : 0 < l.length) : nonE (.vec e k (l.map (Value.int .i64))) = true := by
  cases l with
  | nil => simp at h
  | cons x l => rfl
section
variable {s : St} {o : Oper} {c : Call}
theorem ok_idx {A0 len cc i : Nat} {b : Box} {x ix : Operand} (ho : o.op = .indexAddr 22 x ix) (hx : ev s x = some (.slice (some ⟨A0, 0, none⟩) len cc)) (hix : ev s ix = some (.int .i64 (i : Nat))) (hb : En.lk s.σ A0 = some b) (hnb : nonE b = true) (hi : i < len) :
    AOk Tryz.prog s o ⟨rq s [x, ix], [(A0, b)]⟩ ⟨.pointer (some ⟨A0, i, none⟩), [], []⟩ := by
  obtain ⟨ie, hie, h1⟩ : ∃ ie, Tryz.prog.info? 2 = some ie ∧ ie.size = 1 := by
    have h := info2w
    cases hi : Tryz.prog.info? 2 with
    | none => rw [hi] at h; cases h
    | some ie => rw [hi] at h; simp at h; exact ⟨ie, rfl, h.1⟩
  refine .quiet fun B => ⟨?_, ⟨fun t v h => rq_in h, fun n b' h => ?_⟩, rfl, rfl⟩
  · have := Does.index (P := Tryz.prog) (B := B) ho hx hix Tryz.underlying22 hie h1 hnb rfl hi
    rw [Nat.zero_add, Nat.mul_one] at this
    exact this
  · simp at h; obtain ⟨rfl, rfl⟩ := h; exact hb
theorem agg2w : aggB Tryz.prog 2 = some false := by kernel_rfl
theorem ok_ld {A0 i : Nat} {b : Box} {x : Operand} {u : Int} (ho : o.op = .load 2 x) (hx : ev s x = some (.pointer (some ⟨A0, i, none⟩))) (hb : En.lk s.σ A0 = some b) (hv : b.cells[i]? = some (.int .i64 u)) :
    AOk Tryz.prog s o ⟨rq s [x], [(A0, b)]⟩ ⟨.int .i64 u, [], []⟩ := by
  refine .quiet fun B => ⟨Does.loadOne ho hx hb agg2w rfl hv, ⟨fun t v h => rq_in h, fun n b' h => ?_⟩, rfl, rfl⟩
  simp at h; obtain ⟨rfl, rfl⟩ := h; exact hb
theorem ok_max {x y : Operand} {a b : Int} {r : Int} (hr : (if b > a then b else a) = r) (ho : o.op = .call c) (hcal : c.callee = .builtin .max) (hargs : c.args = #[x, y]) (hx : ev s x = some (.int .i64 a)) (hy : ev s y = some (.int .i64 b)) :
    AOk Tryz.prog s o ⟨rq s [x, y], []⟩ ⟨.int .i64 r, [], []⟩ := by
  subst hr
  refine .quiet fun B => ⟨Does.value (fun al _ => NB.flat rfl) fun ρ a' w hm => ?_, in_none, rfl, rfl⟩
  have hax := ev_eval hm (x := x) (by simp) hx
  have hay := ev_eval hm (x := y) (by simp) hy
  rw [rV_flat ρ rfl] at hax hay
  rw [rV_flat ρ rfl]
  unfold execOp
  simp only [ho, resolve, hcal, hargs, invoke, builtin, Sem.run_bind, Sem.run_pure, Result.andThen_ok, List.map_toArray, List.map_cons, List.map_nil, hax, hay, run_max_int2]
end
theorem mv_ints (f : Nat → Nat) (l : List Int) : (l.map (Value.int .i64)).map (mvC f) = l.map (Value.int .i64) := by
  rw [List.map_map]; exact List.map_congr_left fun _ _ => rfl
theorem mv_view (f : Nat → Nat) (k : Nat) (l : List Int) : mvB f (.view k (l.map (Value.int .i64))) = .view k (l.map (Value.int .i64)) := by
  show Box.view k _ = _; rw [mv_ints]
theorem mv_vec (f : Nat → Nat) (e k : Nat) (l : List Int) : mvB f (.vec e k (l.map (Value.int .i64))) = .vec e k (l.map (Value.int .i64)) := by
  show Box.vec e k _ = _; rw [mv_ints]
theorem allNC_ints (al : List Nat) (l : List Int) : allNC al (l.map (Value.int .i64)) = true := by
  induction l with
  | nil => rfl
  | cons x l ih => show (true && _) = true; rw [ih]; rfl
theorem map_snoc (l : List Int) (u : Int) : l.map (Value.int .i64) ++ [.int .i64 u] = (l ++ [u]).map (Value.int .i64) := by simp
end Go.Proofs.YtbageimconenlaaGreat
