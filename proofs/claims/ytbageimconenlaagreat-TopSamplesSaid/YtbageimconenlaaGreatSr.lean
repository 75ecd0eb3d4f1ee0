/- A synopsis of samples is valid: the contracts of synopsis.right and of synopsis.Validate. -/
import Derived.Test.YtbageimconenlaaGreatSo
import Derived.Test.YtbageimconenlaaGreatSd
import Derived.Test.YtbageimconenlaaGreatCv
namespace Go.Proofs.YtbageimconenlaaGreat
open Go.RowKit
set_option linter.unusedVariables false
set_option linter.unusedSimpArgs false
theorem wpList_loadG {P : Program} {ops : Array Oper} {rest : List Oper} {o : Oper} {a : Act} {w : World} {Q : Exit → Act → World → Prop} (hg : Region.wanted o (yielded ops a.tmps) = true) (ty : TypeId) (x : Operand) (ho : o.op = .load ty x) (g : Nat) (t : TypeId) (C : Array Value) (hx : a.eval x = .pointer (some ⟨g, 0, none⟩)) (hB : Blk w g t C) {d : TypeDesc} (hu : P.underlying ty = some d) (hd : d.isRow = true) (hi : (P.info? ty).map (·.size) = some C.size) (h : wpList P ops Q rest (a.put o.dst (.agg C)) w) : wpList P ops Q (o :: rest) a w :=
  wpList_step fun K hK => by
    rw [if_pos hg]
    refine wp_load_mid ty x ho g 0 hx C.toList d (fun j v hv => by rw [Nat.zero_add]; exact hB.cell j |>.trans (by simpa using hv)) hu hd (by simpa using hi) ?_
    rw [Array.toArray_toList]
    exact hK _ _ h
theorem below_undrew {B : Nat} {w w' : World} (h : Below B w.drew w') : Below B w w' := ⟨h.os, h.tape, h.output, h.size, h.block⟩
/-- the cells of a synopsis of samples -/
def syn9 (W cap : Int) (A : Option Addr) (n k : Nat) : Array Value := (List.toArray (.int .i64 9 :: .int .i64 0 :: .int .i64 W :: .int .i64 0 :: .int .i64 cap :: .int .i64 0 :: .int .i64 n :: .int .i64 0 :: .int .i64 0 :: .int .i64 0 :: .int .i64 0 :: .slice none 0 0 :: .int .i64 0 :: .int .i64 0 :: .int .i64 0 :: .int .i64 0 :: .slice none 0 0 :: .int .i64 0 :: .int .i64 0 :: .int .i64 0 :: .int .i64 0 :: .int .i64 0 :: .slice none 0 0 :: .int .i64 0 :: .int .i64 0 :: .int .i64 0 :: .int .i64 0 :: .int .i64 0 :: .int .i64 0 :: .slice none 0 0 :: .int .i64 0 :: .int .i64 0 :: .int .i64 0 :: .int .i64 0 :: .int .i64 0 :: .slice none 0 0 :: .int .i64 0 :: .int .i64 0 :: .int .i64 0 :: .slice none 0 0 :: .int .i64 0 :: .slice none 0 0 :: .bool false :: .int .i64 0 :: .int .i64 0 :: .int .i64 0 :: .slice none 0 0 :: .slice A n k :: .int .i64 0 :: .int .i64 0 :: .int .i64 0 :: .slice none 0 0 :: .int .i64 0 :: .int .i64 0 :: .int .i64 0 :: .int .i64 0 :: .slice none 0 0 :: []))
set_option maxRecDepth 100000 in
set_option maxHeartbeats 4000000 in
theorem right_9 {W cap I : Int} {A : Option Addr} {n k B : Nat} {cs : List Ch} {ps : List (Ch × Option Addr × Nat)} {w : World} (hC : HCs w B W cap A n cs ps) (hV : VCs W cap I cs) (hB : B ≤ w.heap.size) : Calls Tryz.prog 94 #[.agg (syn9 W cap A n k)] w (fun e w' => e = .returned (.bool true) ∧ Below w.heap.size w w') := by
  unfold syn9
  have hlen := hC.len.1
  have C96 := hide (fun (w1 : World) (hb : Below w.heap.size w w1) => sval_any (v := .agg #[.slice A n k]) ⟨A, k, ps, by rw [hlen], by rw [hlen]; exact hC.below (hb.mono hB)⟩ hV (show B ≤ w1.heap.size by have := hb.size; omega))
  unfold RetB at C96
  have hn1 : 1 ≤ n := by rw [← hlen]; exact hV.n1
  have hn2 : n ≤ 16 := by rw [← hlen]; exact hV.n2
  obtain ⟨c, Ac, kc, hpc, _, _⟩ := hC.at_ (show 0 < n by omega)
  have hn3 : 0 < n := by omega
  have hn4 : (0 : Int) < (n : Int) := by omega
  obtain ⟨b, o, rfl, hbB, c0, c1, _, _, _⟩ := hC.row.chain hpc
  simp only [Nat.zero_mul, Nat.add_zero] at c0 c1
  have HE0 := hide c0
  have HE1 := hide c1
  clear hC hV hpc hlen c0 c1
  have qX : Blk (w.alloc (.cells (List.toArray (.int .i64 9 :: .int .i64 0 :: .int .i64 W :: .int .i64 0 :: .int .i64 cap :: .int .i64 0 :: .int .i64 n :: .int .i64 0 :: .int .i64 0 :: .int .i64 0 :: .int .i64 0 :: .slice none 0 0 :: .int .i64 0 :: .int .i64 0 :: .int .i64 0 :: .int .i64 0 :: .slice none 0 0 :: .int .i64 0 :: .int .i64 0 :: .int .i64 0 :: .int .i64 0 :: .int .i64 0 :: .slice none 0 0 :: .int .i64 0 :: .int .i64 0 :: .int .i64 0 :: .int .i64 0 :: .int .i64 0 :: .int .i64 0 :: .slice none 0 0 :: .int .i64 0 :: .int .i64 0 :: .int .i64 0 :: .int .i64 0 :: .int .i64 0 :: .slice none 0 0 :: .int .i64 0 :: .int .i64 0 :: .int .i64 0 :: .slice none 0 0 :: .int .i64 0 :: .slice none 0 0 :: .bool false :: .int .i64 0 :: .int .i64 0 :: .int .i64 0 :: .slice none 0 0 :: .slice (some ⟨b, o, none⟩) n k :: .int .i64 0 :: .int .i64 0 :: .int .i64 0 :: .slice none 0 0 :: .int .i64 0 :: .int .i64 0 :: .int .i64 0 :: .int .i64 0 :: .slice none 0 0 :: [])) 56)) w.heap.size 56 (List.toArray (.int .i64 9 :: .int .i64 0 :: .int .i64 W :: .int .i64 0 :: .int .i64 cap :: .int .i64 0 :: .int .i64 n :: .int .i64 0 :: .int .i64 0 :: .int .i64 0 :: .int .i64 0 :: .slice none 0 0 :: .int .i64 0 :: .int .i64 0 :: .int .i64 0 :: .int .i64 0 :: .slice none 0 0 :: .int .i64 0 :: .int .i64 0 :: .int .i64 0 :: .int .i64 0 :: .int .i64 0 :: .slice none 0 0 :: .int .i64 0 :: .int .i64 0 :: .int .i64 0 :: .int .i64 0 :: .int .i64 0 :: .int .i64 0 :: .slice none 0 0 :: .int .i64 0 :: .int .i64 0 :: .int .i64 0 :: .int .i64 0 :: .int .i64 0 :: .slice none 0 0 :: .int .i64 0 :: .int .i64 0 :: .int .i64 0 :: .slice none 0 0 :: .int .i64 0 :: .slice none 0 0 :: .bool false :: .int .i64 0 :: .int .i64 0 :: .int .i64 0 :: .slice none 0 0 :: .slice (some ⟨b, o, none⟩) n k :: .int .i64 0 :: .int .i64 0 :: .int .i64 0 :: .slice none 0 0 :: .int .i64 0 :: .int .i64 0 :: .int .i64 0 :: .int .i64 0 :: .slice none 0 0 :: [])) := Blk.new _ _ _
  have qB : Below w.heap.size w (w.alloc (.cells (List.toArray (.int .i64 9 :: .int .i64 0 :: .int .i64 W :: .int .i64 0 :: .int .i64 cap :: .int .i64 0 :: .int .i64 n :: .int .i64 0 :: .int .i64 0 :: .int .i64 0 :: .int .i64 0 :: .slice none 0 0 :: .int .i64 0 :: .int .i64 0 :: .int .i64 0 :: .int .i64 0 :: .slice none 0 0 :: .int .i64 0 :: .int .i64 0 :: .int .i64 0 :: .int .i64 0 :: .int .i64 0 :: .slice none 0 0 :: .int .i64 0 :: .int .i64 0 :: .int .i64 0 :: .int .i64 0 :: .int .i64 0 :: .int .i64 0 :: .slice none 0 0 :: .int .i64 0 :: .int .i64 0 :: .int .i64 0 :: .int .i64 0 :: .int .i64 0 :: .slice none 0 0 :: .int .i64 0 :: .int .i64 0 :: .int .i64 0 :: .slice none 0 0 :: .int .i64 0 :: .slice none 0 0 :: .bool false :: .int .i64 0 :: .int .i64 0 :: .int .i64 0 :: .slice none 0 0 :: .slice (some ⟨b, o, none⟩) n k :: .int .i64 0 :: .int .i64 0 :: .int .i64 0 :: .slice none 0 0 :: .int .i64 0 :: .int .i64 0 :: .int .i64 0 :: .int .i64 0 :: .slice none 0 0 :: [])) 56)) := Bl.alloc' (Below.refl _ w) _
  go_enter Tryz.func94, Tryz.ntmps94
  go_upto_region 1 with (fail)
  generalize (w.alloc (.cells (List.toArray (.int .i64 9 :: .int .i64 0 :: .int .i64 W :: .int .i64 0 :: .int .i64 cap :: .int .i64 0 :: .int .i64 n :: .int .i64 0 :: .int .i64 0 :: .int .i64 0 :: .int .i64 0 :: .slice none 0 0 :: .int .i64 0 :: .int .i64 0 :: .int .i64 0 :: .int .i64 0 :: .slice none 0 0 :: .int .i64 0 :: .int .i64 0 :: .int .i64 0 :: .int .i64 0 :: .int .i64 0 :: .slice none 0 0 :: .int .i64 0 :: .int .i64 0 :: .int .i64 0 :: .int .i64 0 :: .int .i64 0 :: .int .i64 0 :: .slice none 0 0 :: .int .i64 0 :: .int .i64 0 :: .int .i64 0 :: .int .i64 0 :: .int .i64 0 :: .slice none 0 0 :: .int .i64 0 :: .int .i64 0 :: .int .i64 0 :: .slice none 0 0 :: .int .i64 0 :: .slice none 0 0 :: .bool false :: .int .i64 0 :: .int .i64 0 :: .int .i64 0 :: .slice none 0 0 :: .slice (some ⟨b, o, none⟩) n k :: .int .i64 0 :: .int .i64 0 :: .int .i64 0 :: .slice none 0 0 :: .int .i64 0 :: .int .i64 0 :: .int .i64 0 :: .int .i64 0 :: .slice none 0 0 :: [])) 56)) = w0 at *
  have X0 := hide qX
  have B0 := hide qB
  have hx0 := qX.lt
  clear qX qB
  have Y1 := hide ((Blk.new w0 25 #[.int .i64 0, .int .i64 0, .int .i64 0, .int .i64 0, .int .i64 0, .int .i64 0, .int .i64 0, .int .i64 0]).row #[.int .i64 9, .int .i64 0, .int .i64 W, .int .i64 0, .int .i64 cap, .int .i64 0, .int .i64 n, .int .i64 0])
  have B1 := hide (below_row (Bl.alloc' B0.out (.cells #[.int .i64 0, .int .i64 0, .int .i64 0, .int .i64 0, .int .i64 0, .int .i64 0, .int .i64 0, .int .i64 0] 25)) B0.out.size #[.int .i64 9, .int .i64 0, .int .i64 W, .int .i64 0, .int .i64 cap, .int .i64 0, .int .i64 n, .int .i64 0])
  have X1 := hide (((X0.out.alloc (.cells #[.int .i64 0, .int .i64 0, .int .i64 0, .int .i64 0, .int .i64 0, .int .i64 0, .int .i64 0, .int .i64 0] 25))).row_far (g' := w0.heap.size) (by omega) #[.int .i64 9, .int .i64 0, .int .i64 W, .int .i64 0, .int .i64 cap, .int .i64 0, .int .i64 n, .int .i64 0])
  go_upto_region 2 with (first | (refine wpList_load_mid rfl 25 (.tmp 13) rfl w.heap.size 0 rfl [.int .i64 9, .int .i64 0, .int .i64 W, .int .i64 0, .int .i64 cap, .int .i64 0, .int .i64 n, .int .i64 0] _ (by simpa using World.rangeAt_of_block X0.out 0 8) Tryz.underlying25 rfl size25 ?_) | (refine wpList_store_row rfl 25 (.tmp 3) (.tmp 14) rfl w0.heap.size #[.int .i64 9, .int .i64 0, .int .i64 W, .int .i64 0, .int .i64 cap, .int .i64 0, .int .i64 n, .int .i64 0] rfl rfl 25 #[.int .i64 0, .int .i64 0, .int .i64 0, .int .i64 0, .int .i64 0, .int .i64 0, .int .i64 0, .int .i64 0] (Blk.new _ _ _) size25 rfl (by simp [Value.oneCell']) ?_))
  generalize hg3 : w0.heap.size = g3 at *
  have G3 := hide hg3
  clear hg3
  generalize ((w0.alloc (.cells #[.int .i64 0, .int .i64 0, .int .i64 0, .int .i64 0, .int .i64 0, .int .i64 0, .int .i64 0, .int .i64 0] 25)).setRow g3 #[.int .i64 9, .int .i64 0, .int .i64 W, .int .i64 0, .int .i64 cap, .int .i64 0, .int .i64 n, .int .i64 0]) = w1 at *
  have hx1 := X1.out.lt
  have hy1 := Y1.out.lt
  have y0 : w1.cell? ⟨g3, 0, none⟩ = some (.int .i64 9) := Y1.out.cell 0
  go_upto_region 26 with (fail)
  clear y0
  have Y2 := hide (Y1.out.alloc (.cells #[.slice none 0 0] 48))
  have X3 := hide ((Blk.new w1 48 #[.slice none 0 0]).row #[.slice (some ⟨b, o, none⟩) n k])
  go_upto_region 27 with (first | (refine wpList_load_mid rfl 48 (.tmp 224) rfl w.heap.size 47 rfl [.slice (some ⟨b, o, none⟩) n k] _ (by simpa using World.rangeAt_of_block X1.out 47 1) Tryz.underlying48 rfl size48 ?_) | (refine wpList_store_row rfl 48 (.tmp 10) (.tmp 225) rfl w1.heap.size #[.slice (some ⟨b, o, none⟩) n k] rfl rfl 48 #[.slice none 0 0] (Blk.new _ _ _) size48 rfl (by simp [Value.oneCell']) ?_))
  have Y3 := hide (Y2.out.row_far (g' := w1.heap.size) (by omega) #[.slice (some ⟨b, o, none⟩) n k])
  have B3 := hide (below_row (Bl.alloc' B1.out (.cells #[.slice none 0 0] 48)) B1.out.size #[.slice (some ⟨b, o, none⟩) n k])
  have hs1 := B1.out.size
  generalize hg4 : w1.heap.size = g4 at *
  have hg41 : g4 ≠ g3 := by omega
  have hg42 : b ≠ g4 := by omega
  have hg43 : b ≠ g3 := by have := G3.out; omega
  clear hg4
  generalize ((w1.alloc (.cells #[.slice none 0 0] 48)).setRow g4 #[.slice (some ⟨b, o, none⟩) n k]) = w3 at *
  have z0 : w3.cell? ⟨g4, 0, none⟩ = some (.slice (some ⟨b, o, none⟩) n k) := X3.out.cell 0
  have y2 : w3.cell? ⟨g3, 2, none⟩ = some (.int .i64 W) := Y3.out.cell 2
  have y4 : w3.cell? ⟨g3, 4, none⟩ = some (.int .i64 cap) := Y3.out.cell 4
  have y6 : w3.cell? ⟨g3, 6, none⟩ = some (.int .i64 n) := Y3.out.cell 6
  have f0 : w3.cell? ⟨b, o, none⟩ = some (.int .i64 W) := (below_cell B3.out (by omega)).trans HE0.out
  have f1 : w3.cell? ⟨b, o + 1, none⟩ = some (.int .i64 cap) := (below_cell B3.out (by omega)).trans HE1.out
  have hy3 := Y3.out.lt
  have hz3 := X3.out.lt
  have hb3 : b < w3.heap.size := by have := B3.out.size; omega
  go_region_held3 (fun w' => w'.cell? ⟨g4, 0, none⟩ = some (.slice (some ⟨b, o, none⟩) n k) ∧ w'.cell? ⟨g3, 2, none⟩ = some (.int .i64 W) ∧ w'.cell? ⟨g3, 4, none⟩ = some (.int .i64 cap) ∧ w'.cell? ⟨g3, 6, none⟩ = some (.int .i64 n) ∧ w'.cell? ⟨b, o, none⟩ = some (.int .i64 W) ∧ w'.cell? ⟨b, o + 1, none⟩ = some (.int .i64 cap)) (first | exact ⟨z0, y2, y4, y6, f0, f1⟩ | exact ⟨d0, d2, d4, d6, df0, df1⟩) (first | (go_at_call 96; refine (C96.out _ (Below.drew B3.out)).mono ?_; rintro e w4 ⟨rfl, hb4⟩; have hb5 : Below w3.heap.size w3 w4 := below_undrew hb4; have B4 := hide (Bl.call' B3.out hb5); have d0 := (below_cell hb5 hz3).trans z0; have d2 := (below_cell hb5 hy3).trans y2; have d4 := (below_cell hb5 hy3).trans y4; have d6 := (below_cell hb5 hy3).trans y6; have df0 := (below_cell hb5 hb3).trans f0; have df1 := (below_cell hb5 hb3).trans f1; clear hb4 hb5))
  go_wp2
  go_ret
  exact ⟨rfl, B4.out⟩
set_option maxRecDepth 100000 in
set_option maxHeartbeats 4000000 in
theorem synval_9 {W cap I : Int} {A : Option Addr} {n k B : Nat} {cs : List Ch} {ps : List (Ch × Option Addr × Nat)} {w : World} (hC : HCs w B W cap A n cs ps) (hV : VCs W cap I cs) (hB : B ≤ w.heap.size) : Calls Tryz.prog 39 #[.agg (syn9 W cap A n k)] w (RetB (.int .i64 0) w) := by
  have hlen := hC.len.1
  have hn1 : 1 ≤ n := by rw [← hlen]; exact hV.n1
  have hn2 : n ≤ 16 := by rw [← hlen]; exact hV.n2
  have hVc := (hV.v _ (List.getElem_mem (show 0 < cs.length by omega))).1
  have C26 := hide (fun (w1 : World) => cfg_9 W cap n w1 (by omega) (by omega) hVc.c1 hVc.c2 hVc.w1 hVc.w2)
  have C94 := hide (fun (w1 : World) (hb : Below w.heap.size w w1) => right_9 (k := k) (hC.below (hb.mono hB)) hV (show B ≤ w1.heap.size by have := hb.size; omega))
  have C95 := hide (fun (w1 : World) => others_9 0 W 0 cap 0 n 0 A n k w1)
  unfold syn9 at C94
  unfold syn9 RetB
  clear hC hV hlen hVc
  have qX : Blk (w.alloc (.cells (List.toArray (.int .i64 9 :: .int .i64 0 :: .int .i64 W :: .int .i64 0 :: .int .i64 cap :: .int .i64 0 :: .int .i64 n :: .int .i64 0 :: .int .i64 0 :: .int .i64 0 :: .int .i64 0 :: .slice none 0 0 :: .int .i64 0 :: .int .i64 0 :: .int .i64 0 :: .int .i64 0 :: .slice none 0 0 :: .int .i64 0 :: .int .i64 0 :: .int .i64 0 :: .int .i64 0 :: .int .i64 0 :: .slice none 0 0 :: .int .i64 0 :: .int .i64 0 :: .int .i64 0 :: .int .i64 0 :: .int .i64 0 :: .int .i64 0 :: .slice none 0 0 :: .int .i64 0 :: .int .i64 0 :: .int .i64 0 :: .int .i64 0 :: .int .i64 0 :: .slice none 0 0 :: .int .i64 0 :: .int .i64 0 :: .int .i64 0 :: .slice none 0 0 :: .int .i64 0 :: .slice none 0 0 :: .bool false :: .int .i64 0 :: .int .i64 0 :: .int .i64 0 :: .slice none 0 0 :: .slice A n k :: .int .i64 0 :: .int .i64 0 :: .int .i64 0 :: .slice none 0 0 :: .int .i64 0 :: .int .i64 0 :: .int .i64 0 :: .int .i64 0 :: .slice none 0 0 :: [])) 56)) w.heap.size 56 (List.toArray (.int .i64 9 :: .int .i64 0 :: .int .i64 W :: .int .i64 0 :: .int .i64 cap :: .int .i64 0 :: .int .i64 n :: .int .i64 0 :: .int .i64 0 :: .int .i64 0 :: .int .i64 0 :: .slice none 0 0 :: .int .i64 0 :: .int .i64 0 :: .int .i64 0 :: .int .i64 0 :: .slice none 0 0 :: .int .i64 0 :: .int .i64 0 :: .int .i64 0 :: .int .i64 0 :: .int .i64 0 :: .slice none 0 0 :: .int .i64 0 :: .int .i64 0 :: .int .i64 0 :: .int .i64 0 :: .int .i64 0 :: .int .i64 0 :: .slice none 0 0 :: .int .i64 0 :: .int .i64 0 :: .int .i64 0 :: .int .i64 0 :: .int .i64 0 :: .slice none 0 0 :: .int .i64 0 :: .int .i64 0 :: .int .i64 0 :: .slice none 0 0 :: .int .i64 0 :: .slice none 0 0 :: .bool false :: .int .i64 0 :: .int .i64 0 :: .int .i64 0 :: .slice none 0 0 :: .slice A n k :: .int .i64 0 :: .int .i64 0 :: .int .i64 0 :: .slice none 0 0 :: .int .i64 0 :: .int .i64 0 :: .int .i64 0 :: .int .i64 0 :: .slice none 0 0 :: [])) := Blk.new _ _ _
  have qB : Below w.heap.size w (w.alloc (.cells (List.toArray (.int .i64 9 :: .int .i64 0 :: .int .i64 W :: .int .i64 0 :: .int .i64 cap :: .int .i64 0 :: .int .i64 n :: .int .i64 0 :: .int .i64 0 :: .int .i64 0 :: .int .i64 0 :: .slice none 0 0 :: .int .i64 0 :: .int .i64 0 :: .int .i64 0 :: .int .i64 0 :: .slice none 0 0 :: .int .i64 0 :: .int .i64 0 :: .int .i64 0 :: .int .i64 0 :: .int .i64 0 :: .slice none 0 0 :: .int .i64 0 :: .int .i64 0 :: .int .i64 0 :: .int .i64 0 :: .int .i64 0 :: .int .i64 0 :: .slice none 0 0 :: .int .i64 0 :: .int .i64 0 :: .int .i64 0 :: .int .i64 0 :: .int .i64 0 :: .slice none 0 0 :: .int .i64 0 :: .int .i64 0 :: .int .i64 0 :: .slice none 0 0 :: .int .i64 0 :: .slice none 0 0 :: .bool false :: .int .i64 0 :: .int .i64 0 :: .int .i64 0 :: .slice none 0 0 :: .slice A n k :: .int .i64 0 :: .int .i64 0 :: .int .i64 0 :: .slice none 0 0 :: .int .i64 0 :: .int .i64 0 :: .int .i64 0 :: .int .i64 0 :: .slice none 0 0 :: [])) 56)) := Bl.alloc' (Below.refl _ w) _
  go_enter Tryz.func39, Tryz.ntmps39
  go_upto_region 1 with (fail)
  generalize (w.alloc (.cells (List.toArray (.int .i64 9 :: .int .i64 0 :: .int .i64 W :: .int .i64 0 :: .int .i64 cap :: .int .i64 0 :: .int .i64 n :: .int .i64 0 :: .int .i64 0 :: .int .i64 0 :: .int .i64 0 :: .slice none 0 0 :: .int .i64 0 :: .int .i64 0 :: .int .i64 0 :: .int .i64 0 :: .slice none 0 0 :: .int .i64 0 :: .int .i64 0 :: .int .i64 0 :: .int .i64 0 :: .int .i64 0 :: .slice none 0 0 :: .int .i64 0 :: .int .i64 0 :: .int .i64 0 :: .int .i64 0 :: .int .i64 0 :: .int .i64 0 :: .slice none 0 0 :: .int .i64 0 :: .int .i64 0 :: .int .i64 0 :: .int .i64 0 :: .int .i64 0 :: .slice none 0 0 :: .int .i64 0 :: .int .i64 0 :: .int .i64 0 :: .slice none 0 0 :: .int .i64 0 :: .slice none 0 0 :: .bool false :: .int .i64 0 :: .int .i64 0 :: .int .i64 0 :: .slice none 0 0 :: .slice A n k :: .int .i64 0 :: .int .i64 0 :: .int .i64 0 :: .slice none 0 0 :: .int .i64 0 :: .int .i64 0 :: .int .i64 0 :: .int .i64 0 :: .slice none 0 0 :: [])) 56)) = w0 at *
  have X0 := hide qX
  have B0 := hide qB
  clear qX qB
  go_wp2_with (refine wpList_load_mid rfl 25 (.tmp 3) rfl w.heap.size 0 rfl [.int .i64 9, .int .i64 0, .int .i64 W, .int .i64 0, .int .i64 cap, .int .i64 0, .int .i64 n, .int .i64 0] _ (by simpa using World.rangeAt_of_block X0.out 0 8) Tryz.underlying25 rfl size25 ?_)
  refine (C26.out w0).mono ?_
  rintro e w1 ⟨rfl, hb⟩
  have X1 := hide (X0.out.below hb X0.out.lt)
  have B1 := hide (Bl.call' B0.out hb)
  clear hb X0 B0
  go_wp2_with (refine wpList_loadG (by rfl) 56 (.tmp 1) rfl w.heap.size 56 _ rfl X1.out Tryz.underlying56 rfl size56 ?_)
  refine (C94.out w1 B1.out).mono ?_
  rintro e w2 ⟨rfl, hb⟩
  have X2 := hide (X1.out.below hb X1.out.lt)
  have B2 := hide (Bl.call' B1.out hb)
  clear hb X1 B1
  go_wp2_with (refine wpList_loadG (by rfl) 56 (.tmp 1) rfl w.heap.size 56 _ rfl X2.out Tryz.underlying56 rfl size56 ?_)
  refine (C95.out w2).mono ?_
  rintro e w3 ⟨rfl, hb⟩
  have B3 := hide (Bl.call' B2.out hb)
  clear hb X2 B2
  go_wp2
  go_ret
  exact ⟨rfl, B3.out⟩
end Go.Proofs.YtbageimconenlaaGreat
