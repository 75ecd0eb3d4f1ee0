/- The other kinds' fields of a synopsis are zero: the contract, for each kind that the laws play. -/
import Derived.Test.YtbageimconenlaaGreatMa
import Derived.Test.YtbageimconenlaaGreatBx
import Derived.Deep.DeepCutAuto
namespace Go.Proofs.YtbageimconenlaaGreat
open Go.RowKit
set_option linter.unusedVariables false
set_option linter.unusedSimpArgs false
section
variable {P : Program} {ops : Array Oper} {Q : Exit → Act → World → Prop}
theorem wpOp_alloc {i : Nat} (o : Oper) (ho : ops[i]? = some o) (hg : o.guard = none) (T : TypeId) (hop : o.op = .alloc T) (d : Nat) (hd : o.dst = some d) {cs : Array Value} (hz : ∀ w : World, (Instr.alloc T true (.tuple #[])).run P w = .ok (.pointer (some ⟨w.heap.size, 0, none⟩)) (w.alloc (.cells cs T))) {K : Act → World → Prop} {a : Act} {w : World} (h : K (a.put (some d) (.pointer (some ⟨w.heap.size, 0, none⟩))) (w.alloc (.cells cs T))) : wpOp P ops Q i K a w := by
  refine wpOp_step ho (fun K' hK' => ?_)
  rw [if_pos (by simp [Region.wanted, hg])]
  unfold Oper.wp execOp
  simp only [hop, Sem.run_bind, Sem.run_pure, hz w, Result.andThen_ok]
  rw [← hd] at h
  exact hK' _ _ h
theorem wpOp_store {i : Nat} (o : Oper) (ho : ops[i]? = some o) (hg : o.guard = none) (T : TypeId) (x y : Operand) (hop : o.op = .store T x y) (hd : o.dst = none) (q : Nat) (cells old : Array Value) {K : Act → World → Prop} {a : Act} {w : World} (hx : a.eval x = .pointer (some ⟨q, 0, none⟩)) (hy : a.eval y = .agg cells) (hB : Blk w q T old) (hi : (P.info? T).map (·.size) = some cells.size) (hold : old.size = cells.size) (h1 : cells.all (·.oneCell') = true) (h : K a (w.setRow q cells)) : wpOp P ops Q i K a w := by
  refine wpOp_step ho (fun K' hK' => ?_)
  rw [if_pos (by simp [Region.wanted, hg])]
  refine wp_store_row T x y hop q cells hx hy T old hB hi hold h1 ?_
  have e : a.put o.dst undef = a := by rw [hd]; rfl
  rw [e]
  exact hK' _ _ h
end
theorem wpAnyH_takeD {P : Program} {md : Region.Mode} {ops : Array Oper} {Q : Exit → Act → World → Prop} {S : World → Prop} (i d : Nat) (oi : Oper) (v : Value) {fuel : Nat} {listed : Array Bool} {a : Act} {w : World} (hi : ops[i]? = some oi) (hd : oi.dst = some d)
    (hs : Region.noSelect ops = true) (hf : Region.free md ops listed i = true) (hr : (Region.ready md ops listed).contains i = true)
    (hQ : ∀ c a w, Q (.panic c) (a.put (some d) v) w → Q (.panic c) a w) (hy : YieldsIf P ops S oi v a) (hS : S w)
    (h : wpAnyH P md ops Q S fuel (listed.setIfInBounds i true) (a.put (some d) v) w) : wpAnyH P md ops Q S (fuel + 1) listed a w :=
  wpAnyH_take hi hs hf hr (by rw [hd]; exact hQ) hy hS (by rw [hd]; exact h)
theorem wpAnyH_boxes0 {P : Program} {md : Region.Mode} {ops : Array Oper} {Q : Exit → Act → World → Prop} {S : World → Prop} (n : Nat) (ia is : List Nat) (b : Nat → Bx) {a0 : Act} {w0 : World} {L0 : Array Bool} {fuel : Nat} (hchk : bxCheck md ops L0 n ia is = true) (hf : bxLeft (List.replicate n 0) ≤ fuel)
    (hA : ∀ k, k < n → ∀ (K : Act → World → Prop) (a : Act) (w : World), K (a.put (some (b k).d) (.pointer (some ⟨w.heap.size, 0, none⟩))) (w.alloc (.cells (b k).z (b k).T)) → wpOp P ops Q (ia.getD k 0) K a w)
    (hSt : ∀ k, k < n → ∀ (K : Act → World → Prop) (a : Act) (w : World) (q : Nat), a.eval (.tmp (b k).d) = .pointer (some ⟨q, 0, none⟩) → a.eval (.tmp (b k).ld) = .agg (b k).c → Blk w q (b k).T (b k).z → K a (w.setRow q (b k).c) → wpOp P ops Q (is.getD k 0) K a w)
    (hd : ∀ j k, j < n → k < n → j ≠ k → (b j).d ≠ (b k).d) (hT : ∀ j k, j < n → k < n → j ≠ k → (b j).T ≠ (b k).T) (hld : ∀ j k, j < n → k < n → (b j).ld ≠ (b k).d)
    (hsz : ∀ k, k < n → (b k).d < a0.tmps.size) (hv : ∀ k, k < n → a0.tmps[(b k).ld]? = some (.agg (b k).c)) (hSB : ∀ w, Below w0.heap.size w0 w → S w)
    (hQ : ∀ (a : Act) (w : World) (p : Nat → Nat), BxInv n b a0 w0 (List.replicate n 2) a w p → Q .normal a w) : wpAnyH P md ops Q S fuel L0 a0 w0 := by
  exact wpAnyH_boxes hchk hA hSt hd hT hld hsz hv hSB hQ fuel (List.replicate n 0) L0 a0 w0 (fun _ => 0) (List.length_replicate) (fun x hx => by rw [(List.mem_replicate.1 hx).2]; omega) hf (BxL.start _ _ _ _) (BxInv.start n b a0 w0 _)
theorem BxInv.at {n : Nat} {b : Nat → Bx} {a0 : Act} {w0 : World} {a : Act} {w : World} {p : Nat → Nat} (h : BxInv n b a0 w0 (List.replicate n 2) a w p) (k : Nat) (hk : k < n) : a.tmps[(b k).d]? = some (.pointer (some ⟨p k, 0, none⟩)) ∧ Blk w (p k) (b k).T (b k).c ∧ w0.heap.size ≤ p k := by
  have e : (List.replicate n 2).getD k 0 = 2 := by rw [List.getD_eq_getElem?_getD, List.getElem?_replicate, if_pos hk]; rfl
  refine ⟨h.ptr k hk (by rw [e]; omega), ?_, h.lo k hk (by rw [e]; omega)⟩
  have := h.blk k hk (by rw [e]; omega)
  rw [e, if_neg (by omega)] at this
  exact this
theorem zero28 (w : World) : (Instr.alloc 28 true (.tuple #[])).run Tryz.prog w = .ok (.pointer (some ⟨w.heap.size, 0, none⟩)) (w.alloc (.cells #[.int .i64 0, .int .i64 0, .int .i64 0, .slice none 0 0] 28)) := by kernel_rfl
theorem size28 : (Tryz.prog.info? 28).map (·.size) = some 4 := by kernel_rfl
theorem zero31 (w : World) : (Instr.alloc 31 true (.tuple #[])).run Tryz.prog w = .ok (.pointer (some ⟨w.heap.size, 0, none⟩)) (w.alloc (.cells #[.int .i64 0, .int .i64 0, .int .i64 0, .int .i64 0, .slice none 0 0] 31)) := by kernel_rfl
theorem size31 : (Tryz.prog.info? 31).map (·.size) = some 5 := by kernel_rfl
theorem zero33 (w : World) : (Instr.alloc 33 true (.tuple #[])).run Tryz.prog w = .ok (.pointer (some ⟨w.heap.size, 0, none⟩)) (w.alloc (.cells #[.int .i64 0, .int .i64 0, .int .i64 0, .int .i64 0, .int .i64 0, .slice none 0 0] 33)) := by kernel_rfl
theorem size33 : (Tryz.prog.info? 33).map (·.size) = some 6 := by kernel_rfl
theorem zero36 (w : World) : (Instr.alloc 36 true (.tuple #[])).run Tryz.prog w = .ok (.pointer (some ⟨w.heap.size, 0, none⟩)) (w.alloc (.cells #[.int .i64 0, .int .i64 0, .int .i64 0, .int .i64 0, .int .i64 0, .int .i64 0, .slice none 0 0] 36)) := by kernel_rfl
theorem size36 : (Tryz.prog.info? 36).map (·.size) = some 7 := by kernel_rfl
theorem zero38 (w : World) : (Instr.alloc 38 true (.tuple #[])).run Tryz.prog w = .ok (.pointer (some ⟨w.heap.size, 0, none⟩)) (w.alloc (.cells #[.int .i64 0, .int .i64 0, .int .i64 0, .int .i64 0, .int .i64 0, .slice none 0 0] 38)) := by kernel_rfl
theorem size38 : (Tryz.prog.info? 38).map (·.size) = some 6 := by kernel_rfl
theorem zero41 (w : World) : (Instr.alloc 41 true (.tuple #[])).run Tryz.prog w = .ok (.pointer (some ⟨w.heap.size, 0, none⟩)) (w.alloc (.cells #[.int .i64 0, .int .i64 0, .int .i64 0, .slice none 0 0] 41)) := by kernel_rfl
theorem size41 : (Tryz.prog.info? 41).map (·.size) = some 4 := by kernel_rfl
theorem zero43 (w : World) : (Instr.alloc 43 true (.tuple #[])).run Tryz.prog w = .ok (.pointer (some ⟨w.heap.size, 0, none⟩)) (w.alloc (.cells #[.int .i64 0, .slice none 0 0] 43)) := by kernel_rfl
theorem size43 : (Tryz.prog.info? 43).map (·.size) = some 2 := by kernel_rfl
theorem zero45 (w : World) : (Instr.alloc 45 true (.tuple #[])).run Tryz.prog w = .ok (.pointer (some ⟨w.heap.size, 0, none⟩)) (w.alloc (.cells #[.bool false, .int .i64 0, .int .i64 0, .int .i64 0, .slice none 0 0] 45)) := by kernel_rfl
theorem size45 : (Tryz.prog.info? 45).map (·.size) = some 5 := by kernel_rfl
theorem zero51 (w : World) : (Instr.alloc 51 true (.tuple #[])).run Tryz.prog w = .ok (.pointer (some ⟨w.heap.size, 0, none⟩)) (w.alloc (.cells #[.int .i64 0, .int .i64 0, .int .i64 0, .slice none 0 0] 51)) := by kernel_rfl
theorem size51 : (Tryz.prog.info? 51).map (·.size) = some 4 := by kernel_rfl
theorem zero54 (w : World) : (Instr.alloc 54 true (.tuple #[])).run Tryz.prog w = .ok (.pointer (some ⟨w.heap.size, 0, none⟩)) (w.alloc (.cells #[.int .i64 0, .int .i64 0, .int .i64 0, .int .i64 0, .slice none 0 0] 54)) := by kernel_rfl
theorem size54 : (Tryz.prog.info? 54).map (·.size) = some 5 := by kernel_rfl
set_option maxRecDepth 100000 in
set_option maxHeartbeats 4000000 in
theorem others_2 (c1 c2 c3 c4 c5 c6 c7 s0 s1 s2 s3 : Int) (A : Option Addr) (n c : Nat) (w : World) : Calls Tryz.prog 95 #[.agg (List.toArray (.int .i64 2 :: .int .i64 c1 :: .int .i64 c2 :: .int .i64 c3 :: .int .i64 c4 :: .int .i64 c5 :: .int .i64 c6 :: .int .i64 c7 :: .int .i64 0 :: .int .i64 0 :: .int .i64 0 :: .slice none 0 0 :: .int .i64 s0 :: .int .i64 s1 :: .int .i64 s2 :: .int .i64 s3 :: .slice A n c :: .int .i64 0 :: .int .i64 0 :: .int .i64 0 :: .int .i64 0 :: .int .i64 0 :: .slice none 0 0 :: .int .i64 0 :: .int .i64 0 :: .int .i64 0 :: .int .i64 0 :: .int .i64 0 :: .int .i64 0 :: .slice none 0 0 :: .int .i64 0 :: .int .i64 0 :: .int .i64 0 :: .int .i64 0 :: .int .i64 0 :: .slice none 0 0 :: .int .i64 0 :: .int .i64 0 :: .int .i64 0 :: .slice none 0 0 :: .int .i64 0 :: .slice none 0 0 :: .bool false :: .int .i64 0 :: .int .i64 0 :: .int .i64 0 :: .slice none 0 0 :: .slice none 0 0 :: .int .i64 0 :: .int .i64 0 :: .int .i64 0 :: .slice none 0 0 :: .int .i64 0 :: .int .i64 0 :: .int .i64 0 :: .int .i64 0 :: .slice none 0 0 :: []))] w (fun e w' => e = .returned (.bool true) ∧ Below w.heap.size w w') := by
  have qX : Blk (w.alloc (.cells (List.toArray (.int .i64 2 :: .int .i64 c1 :: .int .i64 c2 :: .int .i64 c3 :: .int .i64 c4 :: .int .i64 c5 :: .int .i64 c6 :: .int .i64 c7 :: .int .i64 0 :: .int .i64 0 :: .int .i64 0 :: .slice none 0 0 :: .int .i64 s0 :: .int .i64 s1 :: .int .i64 s2 :: .int .i64 s3 :: .slice A n c :: .int .i64 0 :: .int .i64 0 :: .int .i64 0 :: .int .i64 0 :: .int .i64 0 :: .slice none 0 0 :: .int .i64 0 :: .int .i64 0 :: .int .i64 0 :: .int .i64 0 :: .int .i64 0 :: .int .i64 0 :: .slice none 0 0 :: .int .i64 0 :: .int .i64 0 :: .int .i64 0 :: .int .i64 0 :: .int .i64 0 :: .slice none 0 0 :: .int .i64 0 :: .int .i64 0 :: .int .i64 0 :: .slice none 0 0 :: .int .i64 0 :: .slice none 0 0 :: .bool false :: .int .i64 0 :: .int .i64 0 :: .int .i64 0 :: .slice none 0 0 :: .slice none 0 0 :: .int .i64 0 :: .int .i64 0 :: .int .i64 0 :: .slice none 0 0 :: .int .i64 0 :: .int .i64 0 :: .int .i64 0 :: .int .i64 0 :: .slice none 0 0 :: [])) 56)) w.heap.size 56 (List.toArray (.int .i64 2 :: .int .i64 c1 :: .int .i64 c2 :: .int .i64 c3 :: .int .i64 c4 :: .int .i64 c5 :: .int .i64 c6 :: .int .i64 c7 :: .int .i64 0 :: .int .i64 0 :: .int .i64 0 :: .slice none 0 0 :: .int .i64 s0 :: .int .i64 s1 :: .int .i64 s2 :: .int .i64 s3 :: .slice A n c :: .int .i64 0 :: .int .i64 0 :: .int .i64 0 :: .int .i64 0 :: .int .i64 0 :: .slice none 0 0 :: .int .i64 0 :: .int .i64 0 :: .int .i64 0 :: .int .i64 0 :: .int .i64 0 :: .int .i64 0 :: .slice none 0 0 :: .int .i64 0 :: .int .i64 0 :: .int .i64 0 :: .int .i64 0 :: .int .i64 0 :: .slice none 0 0 :: .int .i64 0 :: .int .i64 0 :: .int .i64 0 :: .slice none 0 0 :: .int .i64 0 :: .slice none 0 0 :: .bool false :: .int .i64 0 :: .int .i64 0 :: .int .i64 0 :: .slice none 0 0 :: .slice none 0 0 :: .int .i64 0 :: .int .i64 0 :: .int .i64 0 :: .slice none 0 0 :: .int .i64 0 :: .int .i64 0 :: .int .i64 0 :: .int .i64 0 :: .slice none 0 0 :: [])) := Blk.new _ _ _
  have qB : Below w.heap.size w (w.alloc (.cells (List.toArray (.int .i64 2 :: .int .i64 c1 :: .int .i64 c2 :: .int .i64 c3 :: .int .i64 c4 :: .int .i64 c5 :: .int .i64 c6 :: .int .i64 c7 :: .int .i64 0 :: .int .i64 0 :: .int .i64 0 :: .slice none 0 0 :: .int .i64 s0 :: .int .i64 s1 :: .int .i64 s2 :: .int .i64 s3 :: .slice A n c :: .int .i64 0 :: .int .i64 0 :: .int .i64 0 :: .int .i64 0 :: .int .i64 0 :: .slice none 0 0 :: .int .i64 0 :: .int .i64 0 :: .int .i64 0 :: .int .i64 0 :: .int .i64 0 :: .int .i64 0 :: .slice none 0 0 :: .int .i64 0 :: .int .i64 0 :: .int .i64 0 :: .int .i64 0 :: .int .i64 0 :: .slice none 0 0 :: .int .i64 0 :: .int .i64 0 :: .int .i64 0 :: .slice none 0 0 :: .int .i64 0 :: .slice none 0 0 :: .bool false :: .int .i64 0 :: .int .i64 0 :: .int .i64 0 :: .slice none 0 0 :: .slice none 0 0 :: .int .i64 0 :: .int .i64 0 :: .int .i64 0 :: .slice none 0 0 :: .int .i64 0 :: .int .i64 0 :: .int .i64 0 :: .int .i64 0 :: .slice none 0 0 :: [])) 56)) := Bl.alloc' (Below.refl _ w) _
  go_enter Tryz.func95, Tryz.ntmps95
  go_upto_region 1 with (fail)
  generalize (w.alloc (.cells (List.toArray (.int .i64 2 :: .int .i64 c1 :: .int .i64 c2 :: .int .i64 c3 :: .int .i64 c4 :: .int .i64 c5 :: .int .i64 c6 :: .int .i64 c7 :: .int .i64 0 :: .int .i64 0 :: .int .i64 0 :: .slice none 0 0 :: .int .i64 s0 :: .int .i64 s1 :: .int .i64 s2 :: .int .i64 s3 :: .slice A n c :: .int .i64 0 :: .int .i64 0 :: .int .i64 0 :: .int .i64 0 :: .int .i64 0 :: .slice none 0 0 :: .int .i64 0 :: .int .i64 0 :: .int .i64 0 :: .int .i64 0 :: .int .i64 0 :: .int .i64 0 :: .slice none 0 0 :: .int .i64 0 :: .int .i64 0 :: .int .i64 0 :: .int .i64 0 :: .int .i64 0 :: .slice none 0 0 :: .int .i64 0 :: .int .i64 0 :: .int .i64 0 :: .slice none 0 0 :: .int .i64 0 :: .slice none 0 0 :: .bool false :: .int .i64 0 :: .int .i64 0 :: .int .i64 0 :: .slice none 0 0 :: .slice none 0 0 :: .int .i64 0 :: .int .i64 0 :: .int .i64 0 :: .slice none 0 0 :: .int .i64 0 :: .int .i64 0 :: .int .i64 0 :: .int .i64 0 :: .slice none 0 0 :: [])) 56)) = w0 at *
  have X0 := hide qX
  have B0 := hide qB
  have hx0 := qX.lt
  clear qX qB
  generalize hgx : w.heap.size = gx at *
  have HGX := hide hgx
  clear hgx
  have x0 : w0.cell? ⟨gx, 0, none⟩ = some (.int .i64 2) := X0.out.cell 0
  go_upto_region 2 with (fail)
  go_cut [4, 5, 6, 7, 8] from 4 (fun v0 v1 v2 v3 v4 wc => ∃ b0 b1 b2 b3 b4 : Nat, v0 = .pointer (some ⟨b0, 0, none⟩) ∧ v1 = .pointer (some ⟨b1, 0, none⟩) ∧ v2 = .pointer (some ⟨b2, 0, none⟩) ∧ v3 = .pointer (some ⟨b3, 0, none⟩) ∧ v4 = .pointer (some ⟨b4, 0, none⟩) ∧ Blk wc b0 28 #[.int .i64 0, .int .i64 0, .int .i64 0, .slice none 0 0] ∧ Blk wc b1 31 #[.int .i64 s0, .int .i64 s1, .int .i64 s2, .int .i64 s3, .slice A n c] ∧ Blk wc b2 33 #[.int .i64 0, .int .i64 0, .int .i64 0, .int .i64 0, .int .i64 0, .slice none 0 0] ∧ Blk wc b3 36 #[.int .i64 0, .int .i64 0, .int .i64 0, .int .i64 0, .int .i64 0, .int .i64 0, .slice none 0 0] ∧ Blk wc b4 38 #[.int .i64 0, .int .i64 0, .int .i64 0, .int .i64 0, .int .i64 0, .slice none 0 0] ∧ Below w0.heap.size w0 wc)
  case first =>
    refine wp_region_held (S := fun w' => Blk w' gx 56 (List.toArray (.int .i64 2 :: .int .i64 c1 :: .int .i64 c2 :: .int .i64 c3 :: .int .i64 c4 :: .int .i64 c5 :: .int .i64 c6 :: .int .i64 c7 :: .int .i64 0 :: .int .i64 0 :: .int .i64 0 :: .slice none 0 0 :: .int .i64 s0 :: .int .i64 s1 :: .int .i64 s2 :: .int .i64 s3 :: .slice A n c :: .int .i64 0 :: .int .i64 0 :: .int .i64 0 :: .int .i64 0 :: .int .i64 0 :: .slice none 0 0 :: .int .i64 0 :: .int .i64 0 :: .int .i64 0 :: .int .i64 0 :: .int .i64 0 :: .int .i64 0 :: .slice none 0 0 :: .int .i64 0 :: .int .i64 0 :: .int .i64 0 :: .int .i64 0 :: .int .i64 0 :: .slice none 0 0 :: .int .i64 0 :: .int .i64 0 :: .int .i64 0 :: .slice none 0 0 :: .int .i64 0 :: .slice none 0 0 :: .bool false :: .int .i64 0 :: .int .i64 0 :: .int .i64 0 :: .slice none 0 0 :: .slice none 0 0 :: .int .i64 0 :: .int .i64 0 :: .int .i64 0 :: .slice none 0 0 :: .int .i64 0 :: .int .i64 0 :: .int .i64 0 :: .int .i64 0 :: .slice none 0 0 :: []))) (by kernel_rfl) ?_
    have hSX : (fun w' => Blk w' gx 56 (List.toArray (.int .i64 2 :: .int .i64 c1 :: .int .i64 c2 :: .int .i64 c3 :: .int .i64 c4 :: .int .i64 c5 :: .int .i64 c6 :: .int .i64 c7 :: .int .i64 0 :: .int .i64 0 :: .int .i64 0 :: .slice none 0 0 :: .int .i64 s0 :: .int .i64 s1 :: .int .i64 s2 :: .int .i64 s3 :: .slice A n c :: .int .i64 0 :: .int .i64 0 :: .int .i64 0 :: .int .i64 0 :: .int .i64 0 :: .slice none 0 0 :: .int .i64 0 :: .int .i64 0 :: .int .i64 0 :: .int .i64 0 :: .int .i64 0 :: .int .i64 0 :: .slice none 0 0 :: .int .i64 0 :: .int .i64 0 :: .int .i64 0 :: .int .i64 0 :: .int .i64 0 :: .slice none 0 0 :: .int .i64 0 :: .int .i64 0 :: .int .i64 0 :: .slice none 0 0 :: .int .i64 0 :: .slice none 0 0 :: .bool false :: .int .i64 0 :: .int .i64 0 :: .int .i64 0 :: .slice none 0 0 :: .slice none 0 0 :: .int .i64 0 :: .int .i64 0 :: .int .i64 0 :: .slice none 0 0 :: .int .i64 0 :: .int .i64 0 :: .int .i64 0 :: .int .i64 0 :: .slice none 0 0 :: []))) w0.drew := X0.out.drew
    refine wpAnyH_takeD 0 17 _ (.pointer (some ⟨gx, 8, none⟩)) rfl rfl (by kernel_rfl) (by kernel_rfl) (by kernel_rfl) (fun _ _ _ h => h) (Or.inl ⟨by rfl, fun w hw => by go_simp⟩) hSX ?_
    simp only [Act.put, List.setIfInBounds_toArray, List.set_cons_zero, List.set_cons_succ]
    refine wpAnyH_takeD 1 18 _ (.agg #[.int .i64 0, .int .i64 0, .int .i64 0, .slice none 0 0]) rfl rfl (by kernel_rfl) (by kernel_rfl) (by kernel_rfl) (fun _ _ _ h => h) (yieldsIf_load_mid (by rfl) 28 (.tmp 17) rfl gx 8 rfl [.int .i64 0, .int .i64 0, .int .i64 0, .slice none 0 0] _ (fun w hw => by simpa using World.rangeAt_of_block hw 8 4) Tryz.underlying28 rfl size28) hSX ?_
    simp only [Act.put, List.setIfInBounds_toArray, List.set_cons_zero, List.set_cons_succ]
    refine wpAnyH_takeD 2 19 _ (.pointer (some ⟨gx, 12, none⟩)) rfl rfl (by kernel_rfl) (by kernel_rfl) (by kernel_rfl) (fun _ _ _ h => h) (Or.inl ⟨by rfl, fun w hw => by go_simp⟩) hSX ?_
    simp only [Act.put, List.setIfInBounds_toArray, List.set_cons_zero, List.set_cons_succ]
    refine wpAnyH_takeD 3 20 _ (.agg #[.int .i64 s0, .int .i64 s1, .int .i64 s2, .int .i64 s3, .slice A n c]) rfl rfl (by kernel_rfl) (by kernel_rfl) (by kernel_rfl) (fun _ _ _ h => h) (yieldsIf_load_mid (by rfl) 31 (.tmp 19) rfl gx 12 rfl [.int .i64 s0, .int .i64 s1, .int .i64 s2, .int .i64 s3, .slice A n c] _ (fun w hw => by simpa using World.rangeAt_of_block hw 12 5) Tryz.underlying31 rfl size31) hSX ?_
    simp only [Act.put, List.setIfInBounds_toArray, List.set_cons_zero, List.set_cons_succ]
    refine wpAnyH_takeD 4 21 _ (.pointer (some ⟨gx, 17, none⟩)) rfl rfl (by kernel_rfl) (by kernel_rfl) (by kernel_rfl) (fun _ _ _ h => h) (Or.inl ⟨by rfl, fun w hw => by go_simp⟩) hSX ?_
    simp only [Act.put, List.setIfInBounds_toArray, List.set_cons_zero, List.set_cons_succ]
    refine wpAnyH_takeD 5 22 _ (.agg #[.int .i64 0, .int .i64 0, .int .i64 0, .int .i64 0, .int .i64 0, .slice none 0 0]) rfl rfl (by kernel_rfl) (by kernel_rfl) (by kernel_rfl) (fun _ _ _ h => h) (yieldsIf_load_mid (by rfl) 33 (.tmp 21) rfl gx 17 rfl [.int .i64 0, .int .i64 0, .int .i64 0, .int .i64 0, .int .i64 0, .slice none 0 0] _ (fun w hw => by simpa using World.rangeAt_of_block hw 17 6) Tryz.underlying33 rfl size33) hSX ?_
    simp only [Act.put, List.setIfInBounds_toArray, List.set_cons_zero, List.set_cons_succ]
    refine wpAnyH_takeD 6 23 _ (.pointer (some ⟨gx, 23, none⟩)) rfl rfl (by kernel_rfl) (by kernel_rfl) (by kernel_rfl) (fun _ _ _ h => h) (Or.inl ⟨by rfl, fun w hw => by go_simp⟩) hSX ?_
    simp only [Act.put, List.setIfInBounds_toArray, List.set_cons_zero, List.set_cons_succ]
    refine wpAnyH_takeD 7 24 _ (.agg #[.int .i64 0, .int .i64 0, .int .i64 0, .int .i64 0, .int .i64 0, .int .i64 0, .slice none 0 0]) rfl rfl (by kernel_rfl) (by kernel_rfl) (by kernel_rfl) (fun _ _ _ h => h) (yieldsIf_load_mid (by rfl) 36 (.tmp 23) rfl gx 23 rfl [.int .i64 0, .int .i64 0, .int .i64 0, .int .i64 0, .int .i64 0, .int .i64 0, .slice none 0 0] _ (fun w hw => by simpa using World.rangeAt_of_block hw 23 7) Tryz.underlying36 rfl size36) hSX ?_
    simp only [Act.put, List.setIfInBounds_toArray, List.set_cons_zero, List.set_cons_succ]
    refine wpAnyH_takeD 8 25 _ (.pointer (some ⟨gx, 30, none⟩)) rfl rfl (by kernel_rfl) (by kernel_rfl) (by kernel_rfl) (fun _ _ _ h => h) (Or.inl ⟨by rfl, fun w hw => by go_simp⟩) hSX ?_
    simp only [Act.put, List.setIfInBounds_toArray, List.set_cons_zero, List.set_cons_succ]
    refine wpAnyH_takeD 9 26 _ (.agg #[.int .i64 0, .int .i64 0, .int .i64 0, .int .i64 0, .int .i64 0, .slice none 0 0]) rfl rfl (by kernel_rfl) (by kernel_rfl) (by kernel_rfl) (fun _ _ _ h => h) (yieldsIf_load_mid (by rfl) 38 (.tmp 25) rfl gx 30 rfl [.int .i64 0, .int .i64 0, .int .i64 0, .int .i64 0, .int .i64 0, .slice none 0 0] _ (fun w hw => by simpa using World.rangeAt_of_block hw 30 6) Tryz.underlying38 rfl size38) hSX ?_
    simp only [Act.put, List.setIfInBounds_toArray, List.set_cons_zero, List.set_cons_succ]
    refine wpAnyH_boxes0 5 [10, 11, 12, 13, 14] [15, 16, 17, 18, 19] (fun k => match k with | 0 => ⟨4, 18, 28, #[.int .i64 0, .int .i64 0, .int .i64 0, .slice none 0 0], #[.int .i64 0, .int .i64 0, .int .i64 0, .slice none 0 0]⟩ | 1 => ⟨5, 20, 31, #[.int .i64 0, .int .i64 0, .int .i64 0, .int .i64 0, .slice none 0 0], #[.int .i64 s0, .int .i64 s1, .int .i64 s2, .int .i64 s3, .slice A n c]⟩ | 2 => ⟨6, 22, 33, #[.int .i64 0, .int .i64 0, .int .i64 0, .int .i64 0, .int .i64 0, .slice none 0 0], #[.int .i64 0, .int .i64 0, .int .i64 0, .int .i64 0, .int .i64 0, .slice none 0 0]⟩ | 3 => ⟨7, 24, 36, #[.int .i64 0, .int .i64 0, .int .i64 0, .int .i64 0, .int .i64 0, .int .i64 0, .slice none 0 0], #[.int .i64 0, .int .i64 0, .int .i64 0, .int .i64 0, .int .i64 0, .int .i64 0, .slice none 0 0]⟩ | _ => ⟨8, 26, 38, #[.int .i64 0, .int .i64 0, .int .i64 0, .int .i64 0, .int .i64 0, .slice none 0 0], #[.int .i64 0, .int .i64 0, .int .i64 0, .int .i64 0, .int .i64 0, .slice none 0 0]⟩) (by kernel_rfl) (by decide) ?_ ?_ ?_ ?_ ?_ ?_ ?_ ?_ ?_
    · intro k hk K a w hK
      rcases (show k = 0 ∨ k = 1 ∨ k = 2 ∨ k = 3 ∨ k = 4 by omega) with rfl | rfl | rfl | rfl | rfl
      · exact wpOp_alloc _ rfl rfl 28 rfl 4 rfl zero28 hK
      · exact wpOp_alloc _ rfl rfl 31 rfl 5 rfl zero31 hK
      · exact wpOp_alloc _ rfl rfl 33 rfl 6 rfl zero33 hK
      · exact wpOp_alloc _ rfl rfl 36 rfl 7 rfl zero36 hK
      · exact wpOp_alloc _ rfl rfl 38 rfl 8 rfl zero38 hK
    · intro k hk K a w q h1 h2 h3 hK
      rcases (show k = 0 ∨ k = 1 ∨ k = 2 ∨ k = 3 ∨ k = 4 by omega) with rfl | rfl | rfl | rfl | rfl
      · exact wpOp_store _ rfl rfl 28 (.tmp 4) (.tmp 18) rfl rfl q _ _ h1 h2 h3 size28 rfl (by simp [Value.oneCell']) hK
      · exact wpOp_store _ rfl rfl 31 (.tmp 5) (.tmp 20) rfl rfl q _ _ h1 h2 h3 size31 rfl (by simp [Value.oneCell']) hK
      · exact wpOp_store _ rfl rfl 33 (.tmp 6) (.tmp 22) rfl rfl q _ _ h1 h2 h3 size33 rfl (by simp [Value.oneCell']) hK
      · exact wpOp_store _ rfl rfl 36 (.tmp 7) (.tmp 24) rfl rfl q _ _ h1 h2 h3 size36 rfl (by simp [Value.oneCell']) hK
      · exact wpOp_store _ rfl rfl 38 (.tmp 8) (.tmp 26) rfl rfl q _ _ h1 h2 h3 size38 rfl (by simp [Value.oneCell']) hK
    · intro j k hj hk hjk; rcases (show j = 0 ∨ j = 1 ∨ j = 2 ∨ j = 3 ∨ j = 4 by omega) with rfl | rfl | rfl | rfl | rfl <;> rcases (show k = 0 ∨ k = 1 ∨ k = 2 ∨ k = 3 ∨ k = 4 by omega) with rfl | rfl | rfl | rfl | rfl <;> first | exact absurd rfl hjk | exact Nat.ne_of_beq_eq_false rfl
    · intro j k hj hk hjk; rcases (show j = 0 ∨ j = 1 ∨ j = 2 ∨ j = 3 ∨ j = 4 by omega) with rfl | rfl | rfl | rfl | rfl <;> rcases (show k = 0 ∨ k = 1 ∨ k = 2 ∨ k = 3 ∨ k = 4 by omega) with rfl | rfl | rfl | rfl | rfl <;> first | exact absurd rfl hjk | exact Nat.ne_of_beq_eq_false rfl
    · intro j k hj hk; rcases (show j = 0 ∨ j = 1 ∨ j = 2 ∨ j = 3 ∨ j = 4 by omega) with rfl | rfl | rfl | rfl | rfl <;> rcases (show k = 0 ∨ k = 1 ∨ k = 2 ∨ k = 3 ∨ k = 4 by omega) with rfl | rfl | rfl | rfl | rfl <;> exact Nat.ne_of_beq_eq_false rfl
    · intro k hk; rcases (show k = 0 ∨ k = 1 ∨ k = 2 ∨ k = 3 ∨ k = 4 by omega) with rfl | rfl | rfl | rfl | rfl <;> exact Nat.le_of_ble_eq_true rfl
    · intro k hk; rcases (show k = 0 ∨ k = 1 ∨ k = 2 ∨ k = 3 ∨ k = 4 by omega) with rfl | rfl | rfl | rfl | rfl <;> rfl
    · intro w hw; exact X0.out.drew.below hw X0.out.drew.lt
    · intro a wz p hI
      obtain ⟨t0, k0, _⟩ := hI.at 0 (by omega)
      obtain ⟨t1, k1, _⟩ := hI.at 1 (by omega)
      obtain ⟨t2, k2, _⟩ := hI.at 2 (by omega)
      obtain ⟨t3, k3, _⟩ := hI.at 3 (by omega)
      obtain ⟨t4, k4, _⟩ := hI.at 4 (by omega)
      have hbz : Below w0.heap.size w0 wz := (Below.drew (Below.refl _ _)).trans hI.bel
      have ha := act_puts [(4, .pointer (some ⟨p 0, 0, none⟩)), (5, .pointer (some ⟨p 1, 0, none⟩)), (6, .pointer (some ⟨p 2, 0, none⟩)), (7, .pointer (some ⟨p 3, 0, none⟩)), (8, .pointer (some ⟨p 4, 0, none⟩))] a _ hI.defers hI.size (by simp) (by intro x hx; simp at hx; rcases hx with rfl | rfl | rfl | rfl | rfl; (· exact t0); (· exact t1); (· exact t2); (· exact t3); (· exact t4)) (fun t ht => hI.oth t (fun k hk _ => by rcases (show k = 0 ∨ k = 1 ∨ k = 2 ∨ k = 3 ∨ k = 4 by omega) with rfl | rfl | rfl | rfl | rfl; (· exact ht (4, .pointer (some ⟨p 0, 0, none⟩)) (by simp)); (· exact ht (5, .pointer (some ⟨p 1, 0, none⟩)) (by simp)); (· exact ht (6, .pointer (some ⟨p 2, 0, none⟩)) (by simp)); (· exact ht (7, .pointer (some ⟨p 3, 0, none⟩)) (by simp)); (· exact ht (8, .pointer (some ⟨p 4, 0, none⟩)) (by simp))))
      simp only [List.foldl_cons, List.foldl_nil, Act.put, List.setIfInBounds_toArray, List.set_cons_zero, List.set_cons_succ] at ha
      rw [ha]
      go_wp2_with (fail)
      go_meet
      exact ⟨p 0, p 1, p 2, p 3, p 4, rfl, rfl, rfl, rfl, rfl, k0, k1, k2, k3, k4, hbz⟩
  case rest =>
    obtain ⟨b0, b1, b2, b3, b4, rfl, rfl, rfl, rfl, rfl, k0, k1, k2, k3, k4, hbz⟩ := hcut
    obtain ⟨wx, rfl⟩ : ∃ wx : World, wx = wc := ⟨_, rfl⟩
    have q0_0 : wx.cell? ⟨b0, 0, none⟩ = some (.int .i64 0) := k0.cell 0
    have q0_1 : wx.cell? ⟨b0, 1, none⟩ = some (.int .i64 0) := k0.cell 1
    have q0_2 : wx.cell? ⟨b0, 2, none⟩ = some (.int .i64 0) := k0.cell 2
    have q0_3 : wx.cell? ⟨b0, 3, none⟩ = some (.slice none 0 0) := k0.cell 3
    have q1_0 : wx.cell? ⟨b1, 0, none⟩ = some (.int .i64 s0) := k1.cell 0
    have q1_1 : wx.cell? ⟨b1, 1, none⟩ = some (.int .i64 s1) := k1.cell 1
    have q1_2 : wx.cell? ⟨b1, 2, none⟩ = some (.int .i64 s2) := k1.cell 2
    have q1_3 : wx.cell? ⟨b1, 3, none⟩ = some (.int .i64 s3) := k1.cell 3
    have q1_4 : wx.cell? ⟨b1, 4, none⟩ = some (.slice A n c) := k1.cell 4
    have q2_0 : wx.cell? ⟨b2, 0, none⟩ = some (.int .i64 0) := k2.cell 0
    have q2_1 : wx.cell? ⟨b2, 1, none⟩ = some (.int .i64 0) := k2.cell 1
    have q2_2 : wx.cell? ⟨b2, 2, none⟩ = some (.int .i64 0) := k2.cell 2
    have q2_3 : wx.cell? ⟨b2, 3, none⟩ = some (.int .i64 0) := k2.cell 3
    have q2_4 : wx.cell? ⟨b2, 4, none⟩ = some (.int .i64 0) := k2.cell 4
    have q2_5 : wx.cell? ⟨b2, 5, none⟩ = some (.slice none 0 0) := k2.cell 5
    have q3_0 : wx.cell? ⟨b3, 0, none⟩ = some (.int .i64 0) := k3.cell 0
    have q3_1 : wx.cell? ⟨b3, 1, none⟩ = some (.int .i64 0) := k3.cell 1
    have q3_2 : wx.cell? ⟨b3, 2, none⟩ = some (.int .i64 0) := k3.cell 2
    have q3_3 : wx.cell? ⟨b3, 3, none⟩ = some (.int .i64 0) := k3.cell 3
    have q3_4 : wx.cell? ⟨b3, 4, none⟩ = some (.int .i64 0) := k3.cell 4
    have q3_5 : wx.cell? ⟨b3, 5, none⟩ = some (.int .i64 0) := k3.cell 5
    have q3_6 : wx.cell? ⟨b3, 6, none⟩ = some (.slice none 0 0) := k3.cell 6
    have q4_0 : wx.cell? ⟨b4, 0, none⟩ = some (.int .i64 0) := k4.cell 0
    have q4_1 : wx.cell? ⟨b4, 1, none⟩ = some (.int .i64 0) := k4.cell 1
    have q4_2 : wx.cell? ⟨b4, 2, none⟩ = some (.int .i64 0) := k4.cell 2
    have q4_3 : wx.cell? ⟨b4, 3, none⟩ = some (.int .i64 0) := k4.cell 3
    have q4_4 : wx.cell? ⟨b4, 4, none⟩ = some (.int .i64 0) := k4.cell 4
    have q4_5 : wx.cell? ⟨b4, 5, none⟩ = some (.slice none 0 0) := k4.cell 5
    have X1 := hide (X0.out.below hbz X0.out.lt)
    have B1 := hide (B0.out.trans (hbz.mono (by omega)))
    have hx1 := X1.out.lt
    clear X0 B0 hbz k0 k1 k2 k3 k4
    generalize wx = w1 at *
    have x1 : w1.cell? ⟨gx, 0, none⟩ = some (.int .i64 2) := X1.out.cell 0
    go_upto_region 13 with (fail)
    clear q0_0 q0_1 q0_2 q0_3 q1_0 q1_1 q1_2 q1_3 q1_4 q2_0 q2_1 q2_2 q2_3 q2_4 q2_5 q3_0 q3_1 q3_2 q3_3 q3_4 q3_5 q3_6 q4_0 q4_1 q4_2 q4_3 q4_4 q4_5
    go_cut [9, 10, 11, 12, 13] from 9 (fun v0 v1 v2 v3 v4 wc => ∃ b0 b1 b2 b3 b4 : Nat, v0 = .pointer (some ⟨b0, 0, none⟩) ∧ v1 = .pointer (some ⟨b1, 0, none⟩) ∧ v2 = .pointer (some ⟨b2, 0, none⟩) ∧ v3 = .pointer (some ⟨b3, 0, none⟩) ∧ v4 = .pointer (some ⟨b4, 0, none⟩) ∧ Blk wc b0 41 #[.int .i64 0, .int .i64 0, .int .i64 0, .slice none 0 0] ∧ Blk wc b1 43 #[.int .i64 0, .slice none 0 0] ∧ Blk wc b2 45 #[.bool false, .int .i64 0, .int .i64 0, .int .i64 0, .slice none 0 0] ∧ Blk wc b3 51 #[.int .i64 0, .int .i64 0, .int .i64 0, .slice none 0 0] ∧ Blk wc b4 54 #[.int .i64 0, .int .i64 0, .int .i64 0, .int .i64 0, .slice none 0 0] ∧ Below w1.heap.size w1 wc)
    case first =>
      refine wp_region_held (S := fun w' => Blk w' gx 56 (List.toArray (.int .i64 2 :: .int .i64 c1 :: .int .i64 c2 :: .int .i64 c3 :: .int .i64 c4 :: .int .i64 c5 :: .int .i64 c6 :: .int .i64 c7 :: .int .i64 0 :: .int .i64 0 :: .int .i64 0 :: .slice none 0 0 :: .int .i64 s0 :: .int .i64 s1 :: .int .i64 s2 :: .int .i64 s3 :: .slice A n c :: .int .i64 0 :: .int .i64 0 :: .int .i64 0 :: .int .i64 0 :: .int .i64 0 :: .slice none 0 0 :: .int .i64 0 :: .int .i64 0 :: .int .i64 0 :: .int .i64 0 :: .int .i64 0 :: .int .i64 0 :: .slice none 0 0 :: .int .i64 0 :: .int .i64 0 :: .int .i64 0 :: .int .i64 0 :: .int .i64 0 :: .slice none 0 0 :: .int .i64 0 :: .int .i64 0 :: .int .i64 0 :: .slice none 0 0 :: .int .i64 0 :: .slice none 0 0 :: .bool false :: .int .i64 0 :: .int .i64 0 :: .int .i64 0 :: .slice none 0 0 :: .slice none 0 0 :: .int .i64 0 :: .int .i64 0 :: .int .i64 0 :: .slice none 0 0 :: .int .i64 0 :: .int .i64 0 :: .int .i64 0 :: .int .i64 0 :: .slice none 0 0 :: []))) (by kernel_rfl) ?_
      have hSX : (fun w' => Blk w' gx 56 (List.toArray (.int .i64 2 :: .int .i64 c1 :: .int .i64 c2 :: .int .i64 c3 :: .int .i64 c4 :: .int .i64 c5 :: .int .i64 c6 :: .int .i64 c7 :: .int .i64 0 :: .int .i64 0 :: .int .i64 0 :: .slice none 0 0 :: .int .i64 s0 :: .int .i64 s1 :: .int .i64 s2 :: .int .i64 s3 :: .slice A n c :: .int .i64 0 :: .int .i64 0 :: .int .i64 0 :: .int .i64 0 :: .int .i64 0 :: .slice none 0 0 :: .int .i64 0 :: .int .i64 0 :: .int .i64 0 :: .int .i64 0 :: .int .i64 0 :: .int .i64 0 :: .slice none 0 0 :: .int .i64 0 :: .int .i64 0 :: .int .i64 0 :: .int .i64 0 :: .int .i64 0 :: .slice none 0 0 :: .int .i64 0 :: .int .i64 0 :: .int .i64 0 :: .slice none 0 0 :: .int .i64 0 :: .slice none 0 0 :: .bool false :: .int .i64 0 :: .int .i64 0 :: .int .i64 0 :: .slice none 0 0 :: .slice none 0 0 :: .int .i64 0 :: .int .i64 0 :: .int .i64 0 :: .slice none 0 0 :: .int .i64 0 :: .int .i64 0 :: .int .i64 0 :: .int .i64 0 :: .slice none 0 0 :: []))) w1.drew := X1.out.drew
      refine wpAnyH_takeD 0 182 _ (.pointer (some ⟨gx, 36, none⟩)) rfl rfl (by kernel_rfl) (by kernel_rfl) (by kernel_rfl) (fun _ _ _ h => h) (Or.inl ⟨by rfl, fun w hw => by go_simp⟩) hSX ?_
      simp only [Act.put, List.setIfInBounds_toArray, List.set_cons_zero, List.set_cons_succ]
      refine wpAnyH_takeD 1 183 _ (.agg #[.int .i64 0, .int .i64 0, .int .i64 0, .slice none 0 0]) rfl rfl (by kernel_rfl) (by kernel_rfl) (by kernel_rfl) (fun _ _ _ h => h) (yieldsIf_load_mid (by rfl) 41 (.tmp 182) rfl gx 36 rfl [.int .i64 0, .int .i64 0, .int .i64 0, .slice none 0 0] _ (fun w hw => by simpa using World.rangeAt_of_block hw 36 4) Tryz.underlying41 rfl size41) hSX ?_
      simp only [Act.put, List.setIfInBounds_toArray, List.set_cons_zero, List.set_cons_succ]
      refine wpAnyH_takeD 2 184 _ (.pointer (some ⟨gx, 40, none⟩)) rfl rfl (by kernel_rfl) (by kernel_rfl) (by kernel_rfl) (fun _ _ _ h => h) (Or.inl ⟨by rfl, fun w hw => by go_simp⟩) hSX ?_
      simp only [Act.put, List.setIfInBounds_toArray, List.set_cons_zero, List.set_cons_succ]
      refine wpAnyH_takeD 3 185 _ (.agg #[.int .i64 0, .slice none 0 0]) rfl rfl (by kernel_rfl) (by kernel_rfl) (by kernel_rfl) (fun _ _ _ h => h) (yieldsIf_load_mid (by rfl) 43 (.tmp 184) rfl gx 40 rfl [.int .i64 0, .slice none 0 0] _ (fun w hw => by simpa using World.rangeAt_of_block hw 40 2) Tryz.underlying43 rfl size43) hSX ?_
      simp only [Act.put, List.setIfInBounds_toArray, List.set_cons_zero, List.set_cons_succ]
      refine wpAnyH_takeD 4 186 _ (.pointer (some ⟨gx, 42, none⟩)) rfl rfl (by kernel_rfl) (by kernel_rfl) (by kernel_rfl) (fun _ _ _ h => h) (Or.inl ⟨by rfl, fun w hw => by go_simp⟩) hSX ?_
      simp only [Act.put, List.setIfInBounds_toArray, List.set_cons_zero, List.set_cons_succ]
      refine wpAnyH_takeD 5 187 _ (.agg #[.bool false, .int .i64 0, .int .i64 0, .int .i64 0, .slice none 0 0]) rfl rfl (by kernel_rfl) (by kernel_rfl) (by kernel_rfl) (fun _ _ _ h => h) (yieldsIf_load_mid (by rfl) 45 (.tmp 186) rfl gx 42 rfl [.bool false, .int .i64 0, .int .i64 0, .int .i64 0, .slice none 0 0] _ (fun w hw => by simpa using World.rangeAt_of_block hw 42 5) Tryz.underlying45 rfl size45) hSX ?_
      simp only [Act.put, List.setIfInBounds_toArray, List.set_cons_zero, List.set_cons_succ]
      refine wpAnyH_takeD 6 188 _ (.pointer (some ⟨gx, 48, none⟩)) rfl rfl (by kernel_rfl) (by kernel_rfl) (by kernel_rfl) (fun _ _ _ h => h) (Or.inl ⟨by rfl, fun w hw => by go_simp⟩) hSX ?_
      simp only [Act.put, List.setIfInBounds_toArray, List.set_cons_zero, List.set_cons_succ]
      refine wpAnyH_takeD 7 189 _ (.agg #[.int .i64 0, .int .i64 0, .int .i64 0, .slice none 0 0]) rfl rfl (by kernel_rfl) (by kernel_rfl) (by kernel_rfl) (fun _ _ _ h => h) (yieldsIf_load_mid (by rfl) 51 (.tmp 188) rfl gx 48 rfl [.int .i64 0, .int .i64 0, .int .i64 0, .slice none 0 0] _ (fun w hw => by simpa using World.rangeAt_of_block hw 48 4) Tryz.underlying51 rfl size51) hSX ?_
      simp only [Act.put, List.setIfInBounds_toArray, List.set_cons_zero, List.set_cons_succ]
      refine wpAnyH_takeD 8 190 _ (.pointer (some ⟨gx, 52, none⟩)) rfl rfl (by kernel_rfl) (by kernel_rfl) (by kernel_rfl) (fun _ _ _ h => h) (Or.inl ⟨by rfl, fun w hw => by go_simp⟩) hSX ?_
      simp only [Act.put, List.setIfInBounds_toArray, List.set_cons_zero, List.set_cons_succ]
      refine wpAnyH_takeD 9 191 _ (.agg #[.int .i64 0, .int .i64 0, .int .i64 0, .int .i64 0, .slice none 0 0]) rfl rfl (by kernel_rfl) (by kernel_rfl) (by kernel_rfl) (fun _ _ _ h => h) (yieldsIf_load_mid (by rfl) 54 (.tmp 190) rfl gx 52 rfl [.int .i64 0, .int .i64 0, .int .i64 0, .int .i64 0, .slice none 0 0] _ (fun w hw => by simpa using World.rangeAt_of_block hw 52 5) Tryz.underlying54 rfl size54) hSX ?_
      simp only [Act.put, List.setIfInBounds_toArray, List.set_cons_zero, List.set_cons_succ]
      refine wpAnyH_boxes0 5 [10, 11, 12, 13, 14] [15, 16, 17, 18, 19] (fun k => match k with | 0 => ⟨9, 183, 41, #[.int .i64 0, .int .i64 0, .int .i64 0, .slice none 0 0], #[.int .i64 0, .int .i64 0, .int .i64 0, .slice none 0 0]⟩ | 1 => ⟨10, 185, 43, #[.int .i64 0, .slice none 0 0], #[.int .i64 0, .slice none 0 0]⟩ | 2 => ⟨11, 187, 45, #[.bool false, .int .i64 0, .int .i64 0, .int .i64 0, .slice none 0 0], #[.bool false, .int .i64 0, .int .i64 0, .int .i64 0, .slice none 0 0]⟩ | 3 => ⟨12, 189, 51, #[.int .i64 0, .int .i64 0, .int .i64 0, .slice none 0 0], #[.int .i64 0, .int .i64 0, .int .i64 0, .slice none 0 0]⟩ | _ => ⟨13, 191, 54, #[.int .i64 0, .int .i64 0, .int .i64 0, .int .i64 0, .slice none 0 0], #[.int .i64 0, .int .i64 0, .int .i64 0, .int .i64 0, .slice none 0 0]⟩) (by kernel_rfl) (by decide) ?_ ?_ ?_ ?_ ?_ ?_ ?_ ?_ ?_
      · intro k hk K a w hK
        rcases (show k = 0 ∨ k = 1 ∨ k = 2 ∨ k = 3 ∨ k = 4 by omega) with rfl | rfl | rfl | rfl | rfl
        · exact wpOp_alloc _ rfl rfl 41 rfl 9 rfl zero41 hK
        · exact wpOp_alloc _ rfl rfl 43 rfl 10 rfl zero43 hK
        · exact wpOp_alloc _ rfl rfl 45 rfl 11 rfl zero45 hK
        · exact wpOp_alloc _ rfl rfl 51 rfl 12 rfl zero51 hK
        · exact wpOp_alloc _ rfl rfl 54 rfl 13 rfl zero54 hK
      · intro k hk K a w q h1 h2 h3 hK
        rcases (show k = 0 ∨ k = 1 ∨ k = 2 ∨ k = 3 ∨ k = 4 by omega) with rfl | rfl | rfl | rfl | rfl
        · exact wpOp_store _ rfl rfl 41 (.tmp 9) (.tmp 183) rfl rfl q _ _ h1 h2 h3 size41 rfl (by simp [Value.oneCell']) hK
        · exact wpOp_store _ rfl rfl 43 (.tmp 10) (.tmp 185) rfl rfl q _ _ h1 h2 h3 size43 rfl (by simp [Value.oneCell']) hK
        · exact wpOp_store _ rfl rfl 45 (.tmp 11) (.tmp 187) rfl rfl q _ _ h1 h2 h3 size45 rfl (by simp [Value.oneCell']) hK
        · exact wpOp_store _ rfl rfl 51 (.tmp 12) (.tmp 189) rfl rfl q _ _ h1 h2 h3 size51 rfl (by simp [Value.oneCell']) hK
        · exact wpOp_store _ rfl rfl 54 (.tmp 13) (.tmp 191) rfl rfl q _ _ h1 h2 h3 size54 rfl (by simp [Value.oneCell']) hK
      · intro j k hj hk hjk; rcases (show j = 0 ∨ j = 1 ∨ j = 2 ∨ j = 3 ∨ j = 4 by omega) with rfl | rfl | rfl | rfl | rfl <;> rcases (show k = 0 ∨ k = 1 ∨ k = 2 ∨ k = 3 ∨ k = 4 by omega) with rfl | rfl | rfl | rfl | rfl <;> first | exact absurd rfl hjk | exact Nat.ne_of_beq_eq_false rfl
      · intro j k hj hk hjk; rcases (show j = 0 ∨ j = 1 ∨ j = 2 ∨ j = 3 ∨ j = 4 by omega) with rfl | rfl | rfl | rfl | rfl <;> rcases (show k = 0 ∨ k = 1 ∨ k = 2 ∨ k = 3 ∨ k = 4 by omega) with rfl | rfl | rfl | rfl | rfl <;> first | exact absurd rfl hjk | exact Nat.ne_of_beq_eq_false rfl
      · intro j k hj hk; rcases (show j = 0 ∨ j = 1 ∨ j = 2 ∨ j = 3 ∨ j = 4 by omega) with rfl | rfl | rfl | rfl | rfl <;> rcases (show k = 0 ∨ k = 1 ∨ k = 2 ∨ k = 3 ∨ k = 4 by omega) with rfl | rfl | rfl | rfl | rfl <;> exact Nat.ne_of_beq_eq_false rfl
      · intro k hk; rcases (show k = 0 ∨ k = 1 ∨ k = 2 ∨ k = 3 ∨ k = 4 by omega) with rfl | rfl | rfl | rfl | rfl <;> exact Nat.le_of_ble_eq_true rfl
      · intro k hk; rcases (show k = 0 ∨ k = 1 ∨ k = 2 ∨ k = 3 ∨ k = 4 by omega) with rfl | rfl | rfl | rfl | rfl <;> rfl
      · intro w hw; exact X1.out.drew.below hw X1.out.drew.lt
      · intro a wz p hI
        obtain ⟨t0, k0, _⟩ := hI.at 0 (by omega)
        obtain ⟨t1, k1, _⟩ := hI.at 1 (by omega)
        obtain ⟨t2, k2, _⟩ := hI.at 2 (by omega)
        obtain ⟨t3, k3, _⟩ := hI.at 3 (by omega)
        obtain ⟨t4, k4, _⟩ := hI.at 4 (by omega)
        have hbz : Below w1.heap.size w1 wz := (Below.drew (Below.refl _ _)).trans hI.bel
        have ha := act_puts [(9, .pointer (some ⟨p 0, 0, none⟩)), (10, .pointer (some ⟨p 1, 0, none⟩)), (11, .pointer (some ⟨p 2, 0, none⟩)), (12, .pointer (some ⟨p 3, 0, none⟩)), (13, .pointer (some ⟨p 4, 0, none⟩))] a _ hI.defers hI.size (by simp) (by intro x hx; simp at hx; rcases hx with rfl | rfl | rfl | rfl | rfl; (· exact t0); (· exact t1); (· exact t2); (· exact t3); (· exact t4)) (fun t ht => hI.oth t (fun k hk _ => by rcases (show k = 0 ∨ k = 1 ∨ k = 2 ∨ k = 3 ∨ k = 4 by omega) with rfl | rfl | rfl | rfl | rfl; (· exact ht (9, .pointer (some ⟨p 0, 0, none⟩)) (by simp)); (· exact ht (10, .pointer (some ⟨p 1, 0, none⟩)) (by simp)); (· exact ht (11, .pointer (some ⟨p 2, 0, none⟩)) (by simp)); (· exact ht (12, .pointer (some ⟨p 3, 0, none⟩)) (by simp)); (· exact ht (13, .pointer (some ⟨p 4, 0, none⟩)) (by simp))))
        simp only [List.foldl_cons, List.foldl_nil, Act.put, List.setIfInBounds_toArray, List.set_cons_zero, List.set_cons_succ] at ha
        rw [ha]
        go_wp2_with (fail)
        go_meet
        exact ⟨p 0, p 1, p 2, p 3, p 4, rfl, rfl, rfl, rfl, rfl, k0, k1, k2, k3, k4, hbz⟩
    case rest =>
      obtain ⟨b0, b1, b2, b3, b4, rfl, rfl, rfl, rfl, rfl, k0, k1, k2, k3, k4, hbz⟩ := hcut
      obtain ⟨wx, rfl⟩ : ∃ wx : World, wx = wc := ⟨_, rfl⟩
      have q0_0 : wx.cell? ⟨b0, 0, none⟩ = some (.int .i64 0) := k0.cell 0
      have q0_1 : wx.cell? ⟨b0, 1, none⟩ = some (.int .i64 0) := k0.cell 1
      have q0_2 : wx.cell? ⟨b0, 2, none⟩ = some (.int .i64 0) := k0.cell 2
      have q0_3 : wx.cell? ⟨b0, 3, none⟩ = some (.slice none 0 0) := k0.cell 3
      have q1_0 : wx.cell? ⟨b1, 0, none⟩ = some (.int .i64 0) := k1.cell 0
      have q1_1 : wx.cell? ⟨b1, 1, none⟩ = some (.slice none 0 0) := k1.cell 1
      have q2_0 : wx.cell? ⟨b2, 0, none⟩ = some (.bool false) := k2.cell 0
      have q2_1 : wx.cell? ⟨b2, 1, none⟩ = some (.int .i64 0) := k2.cell 1
      have q2_2 : wx.cell? ⟨b2, 2, none⟩ = some (.int .i64 0) := k2.cell 2
      have q2_3 : wx.cell? ⟨b2, 3, none⟩ = some (.int .i64 0) := k2.cell 3
      have q2_4 : wx.cell? ⟨b2, 4, none⟩ = some (.slice none 0 0) := k2.cell 4
      have q3_0 : wx.cell? ⟨b3, 0, none⟩ = some (.int .i64 0) := k3.cell 0
      have q3_1 : wx.cell? ⟨b3, 1, none⟩ = some (.int .i64 0) := k3.cell 1
      have q3_2 : wx.cell? ⟨b3, 2, none⟩ = some (.int .i64 0) := k3.cell 2
      have q3_3 : wx.cell? ⟨b3, 3, none⟩ = some (.slice none 0 0) := k3.cell 3
      have q4_0 : wx.cell? ⟨b4, 0, none⟩ = some (.int .i64 0) := k4.cell 0
      have q4_1 : wx.cell? ⟨b4, 1, none⟩ = some (.int .i64 0) := k4.cell 1
      have q4_2 : wx.cell? ⟨b4, 2, none⟩ = some (.int .i64 0) := k4.cell 2
      have q4_3 : wx.cell? ⟨b4, 3, none⟩ = some (.int .i64 0) := k4.cell 3
      have q4_4 : wx.cell? ⟨b4, 4, none⟩ = some (.slice none 0 0) := k4.cell 4
      have X2 := hide (X1.out.below hbz X1.out.lt)
      have B2 := hide (B1.out.trans (hbz.mono (by omega)))
      clear X1 B1 hbz k0 k1 k2 k3 k4
      have y0 : wx.cell? ⟨gx, 47, none⟩ = some (.slice none 0 0) := X2.out.cell 47
      go_wp2
      go_ret
      exact ⟨rfl, by rw [HGX.out]; exact B2.out⟩
end Go.Proofs.YtbageimconenlaaGreat
